-- Printed by a program of this session out of the seat (wip/xprint.py, wip/slim.py).
import Derived.Test.YtbbbcdfagmcfgaaProg
import Derived.Below
import Derived.Deep.Draws
import Derived.Deep.AppendLies
import Derived.Maps.AppendAt
import Derived.OwnWalk
import Derived.Laws.BytesArg
import Derived.Laws.MakeOwn
import Derived.Laws.OwnMore
import Derived.Deep.OwnRows
import Derived.Tactics
import Derived.Lib.ConvBytes
import Derived.Laws.Slices
import Derived.WalkKit
import Derived.KernelRfl
import Derived.RowKit3
import Derived.Deep.LoopGhost
import Derived.Deep.QuietTactic
import Derived.BigQuiet
import Derived.WideLaws
import Derived.Deep.DeepCutAuto
import Derived.Deep.CutBlock
import Derived.Deep.RegionHeld3
import Derived.Laws.Rows
import Derived.Lib.AppendStr
import Derived.ArgAppend
import Derived.Laws.IdiomCopy
import Derived.OrdersHeld
import Derived.Laws.BitsLemmas
import Derived.RowKit
import Derived.Test.YtbbbcdfagmcfgaaXBits
import Derived.Test.YtbbbcdfagmcfgaaWWords
import Derived.Test.YtbbbcdfagmcfgaaWLast
import Derived.Test.YtbbbcdfagmcfgaaWTab
import Derived.Test.YtbbbcdfagmcfgaaWApart
import Derived.Test.YtbbbcdfagmcfgaaSmW
namespace Go.Proofs.Ytbbbcdfagmcfgaa.PV
open Go.RowKit Go.Proofs.YtbbbcdfagmcfgaaW.PrintWords Go.Proofs.YtbbbcdfagmcfgaaW.PrintLast Go.Proofs.YtbbbcdfagmcfgaaW.PrintMore Go.Proofs.Ytbbbcdfagmcfgaa.XBits
attribute [local go_sem] max2_int min2_int max_two min_two max_three min_three max_four min_four   -- for this text's walks alone
set_option linter.unusedVariables false
set_option linter.unusedSimpArgs false



def errW : Option Int → Value
  | none => .nilIface
  | some c => .iface 0 (.int .i64 c)
theorem errW_none : errW none = .nilIface := rfl
theorem errW_some (c : Int) : errW (some c) = .iface 0 (.int .i64 c) := rfl

theorem info3 : (Try.prog.info? 3).map (fun i => (i.zero, i.size, i.bytes)) = some (some (.int .i64 0), 1, 8) := by kernel_rfl
theorem info26 : (Try.prog.info? 26).map (fun i => (i.zero, i.size, i.bytes)) = some (some (.slice none 0 0), 1, 24) := by kernel_rfl
theorem info61 : (Try.prog.info? 61).map (fun i => (i.zero, i.size, i.bytes)) = some (some (.int .u64 0), 1, 8) := by kernel_rfl
def rd_L2 (xs : List (List Int)) (i : Int) : (List Int) := xs.getD i.toNat ([] : List Int)
theorem at_L2 {w : World} {A : Option Addr} {n : Nat} {xs : List (List Int)} (h : Kd.C (Kd.slice 3 (Kd.int .i64)) w A n xs) (i : Int) (h0 : 0 ≤ i) (h1 : i < n) : ∃ ad A0 c0, A = some ad ∧ w.cell? (ad.add i.toNat) = some (.slice A0 (rd_L2 xs i).length c0) ∧ (rd_L2 xs i).length ≤ c0 ∧ (Kd.int .i64).C w A0 (rd_L2 xs i).length (rd_L2 xs i) := by
  obtain ⟨ad, c, e, _, hK, hc0⟩ := Kd.C_get h ([] : List Int) i h0 h1
  have hc : ∀ j u, c[j]? = some u → w.cell? (ad.add (i.toNat * 1 + j)) = some u := hc0
  obtain ⟨A0, c0, rfl, l0, g0⟩ := hK
  exact ⟨ad, A0, c0, e, by have hq := hc 0 _ rfl; rwa [Nat.mul_one, Nat.add_zero] at hq, l0, g0⟩

end Go.Proofs.Ytbbbcdfagmcfgaa.PV

namespace Go.Proofs.Ytbbbcdfagmcfgaa.PV
open Go.RowKit Go.Proofs.YtbbbcdfagmcfgaaW.PrintWords Go.Proofs.YtbbbcdfagmcfgaaW.PrintLast Go.Proofs.YtbbbcdfagmcfgaaW.PrintMore Go.Proofs.Ytbbbcdfagmcfgaa.XBits
attribute [local go_sem] max2_int min2_int max_two min_two max_three min_three max_four min_four   -- for this text's walks alone
set_option linter.unusedVariables false
set_option linter.unusedSimpArgs false

/-! ### vec_width: function 44 -/
def vec_width.f (a0 : Int) : Option (Int) := some (mn (mx a0 0) 1048576)
set_option maxHeartbeats 8000000 in
set_option maxRecDepth 100000 in
theorem vec_width.calls (a0 : Int) (r : Int) (w : World) (h : vec_width.f a0 = some r) :
    Calls Try.prog 44 #[.int .i64 a0] w fun e w' => e = .returned (.int .i64 r) ∧ Below w.heap.size w w' := by
  have HB := Aside0.mk (Below.refl w.heap.size w)
  have H : (some (mn (mx a0 0) 1048576)) = some r := h
  clear h
  obtain ⟨ji2, hji2⟩ : ∃ j_ : Int, (mx a0 0) = j_ := ⟨_, rfl⟩
  replace H : (some (mn (ji2) 1048576)) = some r := by first | (rw [hji2] at H; exact H) | (simp only [hji2] at H ⊢; exact H)
  (try (have hji2l : 0 ≤ ji2 := by (rw [← hji2]; unfold mx; (repeat' split) <;> omega)))
  (try (have hji2m : 0 ≤ ji2 := by omega))
  have hji2_ : (if a0 < 0 then 0 else a0) = ji2 := hji2
  obtain ⟨ji3, hji3⟩ : ∃ j_ : Int, (mn (ji2) 1048576) = j_ := ⟨_, rfl⟩
  replace H : (some ji3) = some r := by first | (rw [hji3] at H; exact H) | (simp only [hji3] at H ⊢; exact H)
  have hji3_ : (if 1048576 < (ji2) then 1048576 else (ji2)) = ji3 := hji3
  obtain rfl := Option.some.inj H
  go_enter Try.func44, Try.ntmps44
  go_wp2
  go_ret
  exact ⟨by first | rfl | (simp [errW_none, errW_some] <;> rfl) | (simp only [← hji2, ← hji3]; first | rfl | (simp [errW_none, errW_some] <;> rfl)) | (simp [*, errW_none, errW_some] <;> rfl), by repeat (first | (with_reducible first | exact HB.out | apply below_alloc | apply pw_below_drewN | apply below_drew1) | exact HB.out)⟩

/-! ### vec_Words: function 31 -/
def vec_Words.f (a0 : Int) : Option (Int) := (vec_width.f a0).bind fun t101 => (some (wrap64 (Int.tdiv (wrap64 ((wrap64 (t101 + 64)) - 1)) 64)))
set_option maxHeartbeats 8000000 in
set_option maxRecDepth 100000 in
theorem vec_Words.calls (a0 : Int) (r : Int) (w : World) (h : vec_Words.f a0 = some r) :
    Calls Try.prog 31 #[.int .i64 a0] w fun e w' => e = .returned (.int .i64 r) ∧ Below w.heap.size w w' := by
  have HB := Aside0.mk (Below.refl w.heap.size w)
  have H : ((vec_width.f a0).bind fun t101 => (some (wrap64 (Int.tdiv (wrap64 ((wrap64 (t101 + 64)) - 1)) 64)))) = some r := h
  clear h
  replace H := Option.bind_eq_some_iff.mp H
  obtain ⟨t101, A20, H⟩ := H
  replace H : (some (wrap64 (Int.tdiv (wrap64 ((wrap64 (t101 + 64)) - 1)) 64))) = some r := H
  have A2 := Aside0.mk A20
  clear A20
  obtain rfl := Option.some.inj H
  go_enter Try.func31, Try.ntmps31
  go_wp2_with (first | ((with_reducible refine gate_callee (f := 44) rfl ?_); refine goesL_ (some 4) rfl rfl Try.func44 (by kernel_rfl) rfl #[.int .i64 a0] rfl (by (try simp only [List.map_toArray, List.map_cons, List.map_nil]); first | done | rfl | (simp only [List.length_drop, List.length_take]; rfl)) ?_; (with_reducible refine (vec_width.calls a0 t101 _ A2.out).mono ?_); rintro e w3 ⟨rfl, hb⟩; refine ⟨_, rfl, ?_⟩; have n0_ := Aside0.mk (below_step (by repeat (first | (with_reducible first | exact HB.out | apply below_alloc | apply pw_below_drewN | apply below_drew1) | exact HB.out)) hb); clear HB; have HB := n0_; clear n0_; (try clear hb); (try clear hb2); (try clear hk); (try clear hi)))
  go_ret
  exact ⟨by first | rfl | (simp [errW_none, errW_some] <;> rfl) | (simp [*, errW_none, errW_some] <;> rfl), by repeat (first | (with_reducible first | exact HB.out | apply below_alloc | apply pw_below_drewN | apply below_drew1) | exact HB.out)⟩

/-! ### vec_at: function 49 -/
def vec_at.f (l0 : List Int) (a1 : Int) : Option (Int) := if a1 < (l0.length : Int) then (if 0 ≤ a1 then (some (rd l0 a1)) else (none)) else (some 0)
set_option maxHeartbeats 8000000 in
set_option maxRecDepth 100000 in
theorem vec_at.calls (A0 : Option Addr) (c0 : Nat) (l0 : List Int) (a1 : Int) (r : Int) (w : World) (hr0 : Kd.C (Kd.int .u64) w A0 l0.length l0) (hc0 : l0.length ≤ c0) (h : vec_at.f l0 a1 = some r) :
    Calls Try.prog 49 #[.slice A0 l0.length c0, .int .i64 a1] w fun e w' => e = .returned (.int .u64 r) ∧ Drawn0 w w' := by
  have HR0 := Aside0.mk hr0
  have HC0 := Aside0.mk hc0
  clear hr0 hc0
  have H : (if a1 < (l0.length : Int) then (if 0 ≤ a1 then (some (rd l0 a1)) else (none)) else (some 0)) = some r := h
  clear h
  by_cases c3 : a1 < (l0.length : Int)
  · rw [if_pos c3] at H
    have c3b0 : decide (a1 < (l0.length : Int)) = true := decide_eq_true c3
    clear c3
    by_cases c4 : 0 ≤ a1
    · rw [if_pos c4] at H
      have c4b0 : decide (0 ≤ a1) = true := decide_eq_true c4
      clear c4
      obtain rfl := Option.some.inj H
      have p102 : 0 ≤ (a1 : Int) := of_decide_eq_true (by first | (with_reducible assumption) | assumption)
      have q102 : a1 < (l0.length : Int) := of_decide_eq_true (by first | (with_reducible assumption) | assumption)
      obtain ⟨ad102, e102, hx102_0⟩ := Kd.at_int HR0.out a1 p102 q102
      cases e102
      replace p102 := eq_true p102
      replace q102 := eq_true q102
      go_enter Try.func49, Try.ntmps49
      go_wp2
      go_ret
      exact ⟨by first | rfl | (simp; done) | (simp [*]; done), by repeat (first | exact Drawn0.refl _ | apply Drawn0.step)⟩
    · rw [if_neg c4] at H
      exact absurd H (by simp)
  · rw [if_neg c3] at H
    have c3b0 : decide (a1 < (l0.length : Int)) = false := decide_eq_false c3
    clear c3
    obtain rfl := Option.some.inj H
    go_enter Try.func49, Try.ntmps49
    go_wp2
    go_ret
    exact ⟨by first | rfl | (simp; done) | (simp [*]; done), by repeat (first | exact Drawn0.refl _ | apply Drawn0.step)⟩

/-! ### vec_mask: function 50 -/
def vec_mask.f (a0 : Int) (a1 : Int) : Option (Int) := (vec_width.f a0).bind fun t103 => (if (wrap64 (t103 - (wrap64 (64 * a1)))) ≥ 64 then (some 18446744073709551615) else (if 0 ≤ (IntKind.u64.wrap (wrap64 (t103 - (wrap64 (64 * a1))))) then (some (IntKind.u64.wrap ((shl .u64 1 (IntKind.u64.wrap (wrap64 (t103 - (wrap64 (64 * a1)))))) - 1))) else (none)))
set_option maxHeartbeats 8000000 in
set_option maxRecDepth 100000 in
theorem vec_mask.calls (a0 : Int) (a1 : Int) (r : Int) (w : World) (h : vec_mask.f a0 a1 = some r) :
    Calls Try.prog 50 #[.int .i64 a0, .int .i64 a1] w fun e w' => e = .returned (.int .u64 r) ∧ Below w.heap.size w w' := by
  have HB := Aside0.mk (Below.refl w.heap.size w)
  have H : ((vec_width.f a0).bind fun t103 => (if (wrap64 (t103 - (wrap64 (64 * a1)))) ≥ 64 then (some 18446744073709551615) else (if 0 ≤ (IntKind.u64.wrap (wrap64 (t103 - (wrap64 (64 * a1))))) then (some (IntKind.u64.wrap ((shl .u64 1 (IntKind.u64.wrap (wrap64 (t103 - (wrap64 (64 * a1)))))) - 1))) else (none)))) = some r := h
  clear h
  replace H := Option.bind_eq_some_iff.mp H
  obtain ⟨t103, A30, H⟩ := H
  replace H : (if (wrap64 (t103 - (wrap64 (64 * a1)))) ≥ 64 then (some 18446744073709551615) else (if 0 ≤ (IntKind.u64.wrap (wrap64 (t103 - (wrap64 (64 * a1))))) then (some (IntKind.u64.wrap ((shl .u64 1 (IntKind.u64.wrap (wrap64 (t103 - (wrap64 (64 * a1)))))) - 1))) else (none))) = some r := H
  have A3 := Aside0.mk A30
  clear A30
  by_cases c4 : (wrap64 (t103 - (wrap64 (64 * a1)))) ≥ 64
  · rw [if_pos c4] at H
    have c4b0 : decide (64 ≤ (wrap64 (t103 - (wrap64 (64 * a1))))) = true := decide_eq_true c4
    clear c4
    obtain rfl := Option.some.inj H
    go_enter Try.func50, Try.ntmps50
    go_wp2_with (first | ((with_reducible refine gate_callee (f := 44) rfl ?_); refine goesL_ (some 7) rfl rfl Try.func44 (by kernel_rfl) rfl #[.int .i64 a0] rfl (by (try simp only [List.map_toArray, List.map_cons, List.map_nil]); first | done | rfl | (simp only [List.length_drop, List.length_take]; rfl)) ?_; (with_reducible refine (vec_width.calls a0 t103 _ A3.out).mono ?_); rintro e w5 ⟨rfl, hb⟩; refine ⟨_, rfl, ?_⟩; have n0_ := Aside0.mk (below_step (by repeat (first | (with_reducible first | exact HB.out | apply below_alloc | apply pw_below_drewN | apply below_drew1) | exact HB.out)) hb); clear HB; have HB := n0_; clear n0_; (try clear hb); (try clear hb2); (try clear hk); (try clear hi)))
    go_ret
    exact ⟨by first | rfl | (simp [errW_none, errW_some] <;> rfl) | (simp [*, errW_none, errW_some] <;> rfl), by repeat (first | (with_reducible first | exact HB.out | apply below_alloc | apply pw_below_drewN | apply below_drew1) | exact HB.out)⟩
  · rw [if_neg c4] at H
    have c4b0 : decide (64 ≤ (wrap64 (t103 - (wrap64 (64 * a1))))) = false := decide_eq_false c4
    clear c4
    obtain ⟨ji6, hji6⟩ : ∃ j_ : Int, (IntKind.u64.wrap (wrap64 (t103 - (wrap64 (64 * a1))))) = j_ := ⟨_, rfl⟩
    replace H : (if 0 ≤ (ji6) then (some (IntKind.u64.wrap ((shl .u64 1 (ji6)) - 1))) else (none)) = some r := by first | (rw [hji6] at H; exact H) | (simp only [hji6] at H ⊢; exact H)
    (try rw [hji6] at A3)
    by_cases c7 : 0 ≤ (ji6)
    · rw [if_pos c7] at H
      have c7b0 := eq_true c7
      have c7b1 : decide (0 ≤ (ji6)) = true := decide_eq_true c7
      clear c7
      obtain ⟨ji8, hji8⟩ : ∃ j_ : Int, (shl .u64 1 (ji6)) = j_ := ⟨_, rfl⟩
      replace H : (some (IntKind.u64.wrap ((ji8) - 1))) = some r := by first | (rw [hji8] at H; exact H) | (simp only [hji8] at H ⊢; exact H)
      (try rw [hji8] at A3)
      have hji8_ : (IntKind.u64.wrap (1 * 2 ^ min (ji6).toNat 64)) = ji8 := hji8
      have hji8z : (ji6) ≤ 64 → (IntKind.u64.wrap (1 * 2 ^ (ji6).toNat)) = ji8 := shl_small hji8
      have hji8u : (IntKind.u64.wrap (2 ^ min (ji6).toNat 64)) = ji8 := by have h_ := hji8_; rw [Int.one_mul] at h_; exact h_
      have hji8v : (ji6) ≤ 64 → (IntKind.u64.wrap (2 ^ (ji6).toNat)) = ji8 := fun hle_ => by have h_ := hji8z hle_; rw [Int.one_mul] at h_; exact h_
      obtain rfl := Option.some.inj H
      go_enter Try.func50, Try.ntmps50
      go_wp2_with (first | ((with_reducible refine gate_callee (f := 44) rfl ?_); refine goesL_ (some 7) rfl rfl Try.func44 (by kernel_rfl) rfl #[.int .i64 a0] rfl (by (try simp only [List.map_toArray, List.map_cons, List.map_nil]); first | done | rfl | (simp only [List.length_drop, List.length_take]; rfl)) ?_; (with_reducible refine (vec_width.calls a0 t103 _ A3.out).mono ?_); rintro e w9 ⟨rfl, hb⟩; refine ⟨_, rfl, ?_⟩; have n0_ := Aside0.mk (below_step (by repeat (first | (with_reducible first | exact HB.out | apply below_alloc | apply pw_below_drewN | apply below_drew1) | exact HB.out)) hb); clear HB; have HB := n0_; clear n0_; (try clear hb); (try clear hb2); (try clear hk); (try clear hi)))
      go_ret
      exact ⟨by first | rfl | (simp [errW_none, errW_some] <;> rfl) | (simp only [← hji6, ← hji8]; first | rfl | (simp [errW_none, errW_some] <;> rfl)) | (simp [*, errW_none, errW_some] <;> rfl), by repeat (first | (with_reducible first | exact HB.out | apply below_alloc | apply pw_below_drewN | apply below_drew1) | exact HB.out)⟩
    · rw [if_neg c7] at H
      exact absurd H (by simp)

/-! ### vec_Fit: function 41 -/
def vec_Fit.l0 : Nat → List Int → Int → List Int → Int → Int → Option (List Int)
  | 0, _, _, _, _, _ => none
  | k + 1, x0, x1, x5, x11, x12 => if x12 < x11 then ((vec_at.f x0 x12).bind fun t108 => ((vec_mask.f x1 x12).bind fun t109 => (if 0 ≤ x12 then (if x12 < (x5.length : Int) then (vec_Fit.l0 k x0 x1 (x5.set (x12 : Int).toNat (Go.bits .and .u64 t108 t109)) x11 (wrap64 (x12 + 1))) else (none)) else (none)))) else (some x5)
def vec_Fit.f (k : Nat) (l0 : List Int) (a1 : Int) : Option (List Int) := (vec_Words.f a1).bind fun t104 => (if 0 ≤ t104 then (if (t104 : Int).toNat ≤ 35184372088832 then ((some (List.replicate (t104 : Int).toNat 0 : List Int)).bind fun y105 => (vec_Fit.l0 k l0 a1 y105 (y105.length : Int) 0)) else (none)) else (none))
theorem vec_Fit.mono_l : ∀ k, (∀ y0 y1 y2 y3 y4, LeO (vec_Fit.l0 k y0 y1 y2 y3 y4) (vec_Fit.l0 (k + 1) y0 y1 y2 y3 y4))
  | 0 => fun _ _ _ _ _ r h => by simp [vec_Fit.l0] at h
  | k + 1 => by
    have ih0 := vec_Fit.mono_l k
    · intro y0 y1 y2 y3 y4
      unfold vec_Fit.l0
      repeat' first
      | (with_reducible exact ih0 _ _ _ _ _)
      | (with_reducible exact LeO.refl _)
      | (with_reducible exact LeO.none _)
      | (with_reducible refine LeO.ite ?_ ?_)
      | (with_reducible refine LeO.bind ?_ (fun _ => ?_))
      | exact ih0 _ _ _ _ _
      | exact LeO.none _
      | refine LeO.ite ?_ ?_
      | refine LeO.bind ?_ (fun _ => ?_)
theorem vec_Fit.mono : ∀ a0 a1 k, LeO (vec_Fit.f k a0 a1) (vec_Fit.f (k + 1) a0 a1) := by
  intro a0 a1 k
  have ih0 := vec_Fit.mono_l k
  unfold vec_Fit.f
  repeat' first
      | (with_reducible exact ih0 _ _ _ _ _)
      | (with_reducible exact LeO.refl _)
      | (with_reducible exact LeO.none _)
      | (with_reducible refine LeO.ite ?_ ?_)
      | (with_reducible refine LeO.bind ?_ (fun _ => ?_))
      | exact ih0 _ _ _ _ _
      | exact LeO.none _
      | refine LeO.ite ?_ ?_
      | refine LeO.bind ?_ (fun _ => ?_)
set_option maxHeartbeats 8000000 in
set_option maxRecDepth 100000 in
theorem vec_Fit.calls (k : Nat) (A0 : Option Addr) (c0 : Nat) (l0 : List Int) (a1 : Int) (r : List Int) (w : World) (hr0 : Kd.C (Kd.int .u64) w A0 l0.length l0) (hc0 : l0.length ≤ c0) (h : vec_Fit.f k l0 a1 = some r) :
    Calls Try.prog 41 #[.slice A0 l0.length c0, .int .i64 a1] w fun e w' => ∃ v0_ : Value, e = .returned (v0_) ∧ Kd.R (Kd.int .u64) 61 w' w.heap.size (fun _ => True) v0_ r ∧ Below w.heap.size w w' := by
  have HR0 := Aside0.mk hr0
  have HC0 := Aside0.mk hc0
  clear hr0 hc0
  have HB := Aside0.mk (Below.refl w.heap.size w)
  have H : ((vec_Words.f a1).bind fun t104 => (if 0 ≤ t104 then (if (t104 : Int).toNat ≤ 35184372088832 then ((some (List.replicate (t104 : Int).toNat 0 : List Int)).bind fun y105 => (vec_Fit.l0 k l0 a1 y105 (y105.length : Int) 0)) else (none)) else (none))) = some r := h
  clear h
  replace H := Option.bind_eq_some_iff.mp H
  obtain ⟨t104, A30, H⟩ := H
  replace H : (if 0 ≤ t104 then (if (t104 : Int).toNat ≤ 35184372088832 then ((some (List.replicate (t104 : Int).toNat 0 : List Int)).bind fun y105 => (vec_Fit.l0 k l0 a1 y105 (y105.length : Int) 0)) else (none)) else (none)) = some r := H
  have A3 := Aside0.mk A30
  clear A30
  by_cases c4 : 0 ≤ t104
  · rw [if_pos c4] at H
    have c4b0 := eq_true c4
    have c4b1 : decide (0 ≤ t104) = true := decide_eq_true c4
    clear c4
    by_cases c5 : (t104 : Int).toNat ≤ 35184372088832
    · rw [if_pos c5] at H
      have c5b0 := eq_true c5
      have c5b1 : decide ((t104 : Int).toNat ≤ 35184372088832) = true := decide_eq_true c5
      clear c5
      obtain ⟨y105, hy105⟩ : ∃ y_ : List Int, y_ = (List.replicate (t104 : Int).toNat 0) := ⟨_, rfl⟩
      replace H : (vec_Fit.l0 k l0 a1 y105 (y105.length : Int) 0) = some r := by first | (rw [hy105]; with_reducible exact H) | (have H2_ := (Option.bind_some _ _).symm.trans H; rw [hy105]; with_reducible exact H2_) | (have H2_ := (Option.bind_some _ _).symm.trans H; with_reducible exact H2_) | with_reducible exact H | (rw [hy105]; exact H) | exact H
      have Ny105 := Aside0.mk hy105
      clear hy105
      have H' := Aside0.mk H
      clear H
      go_enter Try.func41, Try.ntmps41
      go_wp2_with (first | ((with_reducible refine gate_callee (f := 31) rfl ?_); refine goesL_ (some 8) rfl rfl Try.func31 (by kernel_rfl) rfl #[.int .i64 a1] rfl (by (try simp only [List.map_toArray, List.map_cons, List.map_nil]); first | done | rfl | (simp only [List.length_drop, List.length_take]; rfl)) ?_; (with_reducible refine (vec_Words.calls a1 t104 _ A3.out).mono ?_); rintro e w6 ⟨rfl, hb⟩; refine ⟨_, rfl, ?_⟩; have n0_ := Aside0.mk (below_step (by repeat (first | (with_reducible first | exact HB.out | apply below_alloc | apply pw_below_drewN | apply below_drew1) | exact HB.out)) hb); clear HB; have HB := n0_; clear n0_; (try clear hb); (try clear hb2); (try clear hk); (try clear hi)) | ((with_reducible refine gate_dst (N := 9) rfl ?_); refine Kd.R_make (Kd.int .u64) _ 61 rfl (N := 9) rfl 47 _ _ rfl t104 rfl rfl Try.underlying47 (.int .u64 0) 8 info61 rfl (by decide) (by omega) 0 (ok := fun _ => True) (okp := fun _ => True) rfl (fun _ hk => hk) trivial (of_decide_eq_true (by first | (with_reducible assumption) | assumption)) (Nat.le_trans (Nat.mul_le_mul_right _ (of_decide_eq_true (by first | (with_reducible assumption) | assumption) : t104.toNat ≤ 35184372088832)) (by omega)) (Below.refl _ _) (Nat.le_refl _) ?_; intro v106 w7 ho8 hb hg_ hnew_; clear hg_ hnew_; (first | rw [← Ny105.out] at ho8 | (simp only [Int.reduceToNat] at ho8; rw [← Ny105.out] at ho8)); have n0_ := Aside0.mk (Kd.R_lower ho8 (below_size (by repeat (first | (with_reducible first | exact HB.out | apply below_alloc | apply pw_below_drewN | apply below_drew1) | exact HB.out)))); have n1_ := Aside0.mk (below_step (by repeat (first | (with_reducible first | exact HB.out | apply below_alloc | apply pw_below_drewN | apply below_drew1) | exact HB.out)) hb); clear HB; have HO107 := n0_; have HB := n1_; clear n0_ n1_; clear hb ho8; obtain ⟨Ao9, co9, eo9⟩ := Kd.R_slice HO107.out; subst eo9))
      go_loopg [12] k (fun kq v12 w' => ∃ (x5_1 : List Int) (x12_1 : Int), v12 = .int .i64 x12_1 ∧ Aside0 (vec_Fit.l0 kq l0 a1 x5_1 (y105.length : Int) x12_1 = some r) ∧ Aside0 (kq ≤ k) ∧ Aside0 (Kd.R (Kd.int .u64) 61 w' w.heap.size (fun _ => True) (.slice Ao9 y105.length co9) x5_1) ∧ Aside0 (Below w.heap.size w w'))
      case atStart => exact ⟨(y105), (0), (by first | rfl | (simp; done) | (simp [*]; done)), H', ⟨Nat.le_refl _⟩, ⟨by (with_reducible repeat (first | apply Kd.R_alloc | apply Kd.R_drewN | apply Kd.R_drew)); exact HO107.out⟩, ⟨by repeat (first | (with_reducible first | exact HB.out | apply below_alloc | apply pw_below_drewN | apply below_drew1) | exact HB.out)⟩⟩
      case round =>
        clear H'
        try clear p2
        try clear c3
        try clear c4
        try clear c4b0
        try clear c4b1
        try clear c5
        try clear c5b0
        try clear c5b1
        obtain ⟨x5_1, x12_1, rfl, HA, HK1, HO_5, HB⟩ := hrel
        have hl5_1 := (Kd.R_reads' HO_5.out).1
        rw [hl5_1] at HO_5
        (try simp only [hl5_1])
        cases gk with
        | zero => exact absurd HA.out (by simp [vec_Fit.l0])
        | succ k1 =>
          have H := HA.out
          clear HA
          simp only [vec_Fit.l0] at H
          by_cases c10 : x12_1 < (y105.length : Int)
          · rw [if_pos c10] at H
            have c10b0 : decide (x12_1 < (y105.length : Int)) = true := decide_eq_true c10
            (try simp only [hl5_1] at c10b0)
            clear c10
            replace H := Option.bind_eq_some_iff.mp H
            obtain ⟨t108, A110, H⟩ := H
            replace H : ((vec_mask.f a1 x12_1).bind fun t109 => (if 0 ≤ x12_1 then (if x12_1 < (x5_1.length : Int) then (vec_Fit.l0 k1 l0 a1 (x5_1.set (x12_1 : Int).toNat (Go.bits .and .u64 t108 t109)) (y105.length : Int) (wrap64 (x12_1 + 1))) else (none)) else (none))) = some r := H
            have A11 := Aside0.mk A110
            clear A110
            replace H := Option.bind_eq_some_iff.mp H
            obtain ⟨t109, A120, H⟩ := H
            replace H : (if 0 ≤ x12_1 then (if x12_1 < (x5_1.length : Int) then (vec_Fit.l0 k1 l0 a1 (x5_1.set (x12_1 : Int).toNat (Go.bits .and .u64 t108 t109)) (y105.length : Int) (wrap64 (x12_1 + 1))) else (none)) else (none)) = some r := H
            have A12 := Aside0.mk A120
            clear A120
            by_cases c13 : 0 ≤ x12_1
            · rw [if_pos c13] at H
              have c13b0 : decide (0 ≤ x12_1) = true := decide_eq_true c13
              clear c13
              by_cases c14 : x12_1 < (x5_1.length : Int)
              · rw [if_pos c14] at H
                have c14b0 : decide (x12_1 < (x5_1.length : Int)) = true := decide_eq_true c14
                (try simp only [hl5_1] at c14b0)
                clear c14
                obtain ⟨y110, hy110⟩ : ∃ y_ : List Int, y_ = (x5_1.set (x12_1 : Int).toNat (Go.bits .and .u64 t108 t109)) := ⟨_, rfl⟩
                replace H : (vec_Fit.l0 k1 l0 a1 y110 (y105.length : Int) (wrap64 (x12_1 + 1))) = some r := by first | (rw [hy110]; with_reducible exact H) | (have H2_ := (Option.bind_some _ _).symm.trans H; rw [hy110]; with_reducible exact H2_) | (have H2_ := (Option.bind_some _ _).symm.trans H; with_reducible exact H2_) | with_reducible exact H | (rw [hy110]; exact H) | exact H
                have Ny110 := Aside0.mk hy110
                clear hy110
                have H' := Aside0.mk H
                clear H
                go_wp2_with (first | ((with_reducible refine gate_callee (f := 49) rfl ?_); refine goesL_ (some 19) rfl rfl Try.func49 (by kernel_rfl) rfl #[.slice A0 l0.length c0, .int .i64 x12_1] rfl (by (try simp only [List.map_toArray, List.map_cons, List.map_nil]); first | done | rfl | (simp only [List.length_drop, List.length_take]; rfl)) ?_; (with_reducible refine (vec_at.calls _ _ l0 x12_1 t108 _ ?side1 ?side2 A11.out).mono ?_); (case side1 => repeat (first | (first | exact (Kd.C_below HR0.out HB.out) | exact HR0.out) | (with_reducible refine Kd.C_alloc ?_ _) | (with_reducible refine Kd.C_drewN ?_ _) | (with_reducible refine Kd.C_drew ?_))); (case side2 => exact HC0.out); rintro e w' ⟨rfl, ⟨nd, rfl⟩⟩; refine ⟨_, rfl, ?_⟩; (try (rw [drewN_self wr]; generalize hq_ : World.drewN wr _ = wr; have n0_ : Aside0 (Kd.R (Kd.int .u64) 61 wr w.heap.size (fun _ => True) (.slice Ao9 x5_1.length co9) x5_1) := ⟨by rw [← hq_]; exact (by (with_reducible repeat (first | apply Kd.R_alloc | apply Kd.R_drewN | apply Kd.R_drew)); exact HO_5.out)⟩; have n1_ : Aside0 (Below w.heap.size w wr) := ⟨by rw [← hq_]; exact (by repeat (first | (with_reducible first | exact HB.out | apply below_alloc | apply pw_below_drewN | apply below_drew1) | exact HB.out))⟩; clear HO_5 HB hq_; have HO_5 := n0_; have HB := n1_; clear n0_ n1_))) | ((with_reducible refine gate_callee (f := 50) rfl ?_); refine goesL_ (some 22) rfl rfl Try.func50 (by kernel_rfl) rfl #[.int .i64 a1, .int .i64 x12_1] rfl (by (try simp only [List.map_toArray, List.map_cons, List.map_nil]); first | done | rfl | (simp only [List.length_drop, List.length_take]; rfl)) ?_; (with_reducible refine (vec_mask.calls a1 x12_1 t109 _ A12.out).mono ?_); rintro e w16 ⟨rfl, hb⟩; refine ⟨_, rfl, ?_⟩; have n0_ := Aside0.mk (Kd.R_below (by (with_reducible repeat (first | apply Kd.R_alloc | apply Kd.R_drewN | apply Kd.R_drew)); exact HO_5.out) hb); have n1_ := Aside0.mk (below_step (by repeat (first | (with_reducible first | exact HB.out | apply below_alloc | apply pw_below_drewN | apply below_drew1) | exact HB.out)) hb); clear HO_5; clear HB; have HO_5 := n0_; have HB := n1_; clear n0_ n1_; (try clear hb); (try clear hb2); (try clear hk); (try clear hi); have p15 : 0 ≤ (x12_1 : Int) := of_decide_eq_true (by first | (with_reducible assumption) | assumption); have q15 : (x12_1 : Int) < ((x5_1.length : Int) : Int) := of_decide_eq_true (by first | (with_reducible assumption) | assumption); obtain ⟨go15, co15, eo15, gb15, gl15, cl15, HG15⟩ := Kd.R_form HO_5.out (by omega); (first | cases eo15 | (injection eo15 with ea_ en_ ec_; (first | subst ea_ | (injection ea_ with ea_; subst ea_)); subst ec_; clear en_)); have GB15 := Aside0.mk gb15; have GG15 := Aside0.mk HG15; clear gb15 gl15 HG15; obtain ⟨hx15_0, hf15_0⟩ := Kd.R_celln 0 HO_5.out (x12_1 : Int) p15 q15; replace p15 := eq_true p15; replace q15 := eq_true q15; obtain ⟨hy17_, hz17_⟩ := Kd.R_celln 0 HO_5.out (x12_1 : Int) (of_decide_eq_true (by first | (with_reducible assumption) | assumption)) (of_decide_eq_true (by first | (with_reducible assumption) | assumption)); have HP17 := Kd.R_putg HO_5.out (x12_1 : Int) (Go.bits .and .u64 t108 t109)) | ((with_reducible refine gate_store (t := 61) (p := 24) rfl ?_); refine store_event (t := 61) (p := 24) (v := ?vo_w18) (w1 := (w16.setCell ⟨go15, (x12_1 : Int).toNat, none⟩ (.int .u64 (Go.bits .and .u64 t108 t109)))) ?hg ?ho ?hn ?hr ?_; (case ho => rfl); (case hg => rfl); (case hn => rfl); (case hr => first | (go_simp; done) | (go_simp; rfl)); intro w18 hw; have hg : w16.grownBy w18 (some go15) := (by rw [hw]; exact HP17.2); have hp_ : Kd.R (Kd.int .u64) 61 w18 w.heap.size (fun _ => True) (.slice (some ⟨go15, 0, none⟩) x5_1.length co9) y110 := (by rw [hw, Ny110.out]; exact HP17.1); clear HP17; have n0_ := Aside0.mk (hp_); have n1_ := Aside0.mk ((by rw [hw]; exact below_set (HB.out) GB15.out : Below w.heap.size w w18)); clear HO_5; clear HB; have HO_5 := n0_; have HB := n1_; clear n0_ n1_; clear hg hw hp_))
                (try simp only [← hl5_1])
                go_roundg k1
                case measure => have := HK1.out; omega
                case rel => exact ⟨(y110), (wrap64 (x12_1 + 1)), (by first | rfl | (simp; done) | (simp [*]; done)), H', ⟨by have := HK1.out; omega⟩, ⟨by (try simp only [hl5_1]); (with_reducible repeat (first | apply Kd.R_alloc | apply Kd.R_drewN | apply Kd.R_drew)); exact HO_5.out⟩, ⟨by repeat (first | (with_reducible first | exact HB.out | apply below_alloc | apply pw_below_drewN | apply below_drew1) | exact HB.out)⟩⟩
              · rw [if_neg c14] at H
                exact absurd H (by simp)
            · rw [if_neg c13] at H
              exact absurd H (by simp)
          · rw [if_neg c10] at H
            have c10b0 : decide (x12_1 < (y105.length : Int)) = false := decide_eq_false c10
            (try simp only [hl5_1] at c10b0)
            clear c10
            obtain rfl := Option.some.inj H
            go_wp2
            go_ret
            exact ⟨_, by first | rfl | (simp [errW_none, errW_some] <;> rfl) | (simp [*, errW_none, errW_some] <;> rfl), by (with_reducible repeat (first | apply Kd.R_alloc | apply Kd.R_drewN | apply Kd.R_drew)); exact HO_5.out, by repeat (first | (with_reducible first | exact HB.out | apply below_alloc | apply pw_below_drewN | apply below_drew1) | exact HB.out)⟩
    · rw [if_neg c5] at H
      exact absurd H (by simp)
  · rw [if_neg c4] at H
    exact absurd H (by simp)

/-! ### slices_Clone_int_int: function 35 -/
def slices_Clone_int_int.f (l0 : List Int) : Option (List Int) := (some (([] : List Int) : List Int)).bind fun y111 => (if y111.length + l0.length < 17592186044416 then (some (y111 ++ l0)) else (none))
set_option maxHeartbeats 8000000 in
set_option maxRecDepth 100000 in
theorem slices_Clone_int_int.calls_some (ad0 : Addr) (c0 : Nat) (l0 : List Int) (r : List Int) (w : World) (hr0 : Kd.C (Kd.int .i64) w (some ad0) l0.length l0) (hc0 : l0.length ≤ c0) (h : slices_Clone_int_int.f l0 = some r) :
    Calls Try.prog 35 #[.slice (some ad0) l0.length c0] w fun e w' => ∃ v0_ : Value, e = .returned (v0_) ∧ Kd.R (Kd.int .i64) 3 w' w.heap.size (fun _ => True) v0_ r ∧ Below w.heap.size w w' := by
  have HR0 := Aside0.mk hr0
  have HC0 := Aside0.mk hc0
  clear hr0 hc0
  have HB := Aside0.mk (Below.refl w.heap.size w)
  have H : ((some (([] : List Int) : List Int)).bind fun y111 => (if y111.length + l0.length < 17592186044416 then (some (y111 ++ l0)) else (none))) = some r := h
  clear h
  obtain ⟨y111, hy111⟩ : ∃ y_ : List Int, y_ = (([] : List Int)) := ⟨_, rfl⟩
  replace H : (if y111.length + l0.length < 17592186044416 then (some (y111 ++ l0)) else (none)) = some r := by first | (rw [hy111]; with_reducible exact H) | (have H2_ := (Option.bind_some _ _).symm.trans H; rw [hy111]; with_reducible exact H2_) | (have H2_ := (Option.bind_some _ _).symm.trans H; with_reducible exact H2_) | with_reducible exact H | (rw [hy111]; exact H) | exact H
  have Ny111 := Aside0.mk hy111
  clear hy111
  by_cases c2 : y111.length + l0.length < 17592186044416
  · rw [if_pos c2] at H
    have LMc2 := Aside0.mk c2
    clear c2
    obtain ⟨y114, hy114⟩ : ∃ y_ : List Int, y_ = (y111 ++ l0) := ⟨_, rfl⟩
    replace H : (some y114) = some r := by first | (rw [hy114]; with_reducible exact H) | (have H2_ := (Option.bind_some _ _).symm.trans H; rw [hy114]; with_reducible exact H2_) | (have H2_ := (Option.bind_some _ _).symm.trans H; with_reducible exact H2_) | with_reducible exact H | (rw [hy114]; exact H) | exact H
    have Ny114 := Aside0.mk hy114
    clear hy114
    obtain rfl := Option.some.inj H
    have knil_ := fun w_ : World => eql_some_nil (P := Try.prog) w_ (t := 26) ad0 l0.length c0 Try.underlying26
    go_enter Try.func35, Try.ntmps35
    go_wp2_with (first | ((with_reducible refine gate_dst (N := 5) rfl ?_); refine Kd.R_lit (Kd.int .i64) _ 3 ?hg (N := 5) ?hd (xs := ([] : List Int)) (inner := []) (ok := fun _ => True) (okp := fun _ => True) ?hr ?hp (fun _ hk => hk) trivial (Below.refl _ _) (Nat.le_refl _) (by simp) ?_; (case hd => rfl); (case hg => rfl); (case hr => first | (go_simp; done) | (go_simp; rfl)); (case hp => exact (Reps.none _ _)); intro v112 w3 ho4 hb hg_ hnew_; clear hg_ hnew_; (first | rw [← Ny111.out] at ho4 | (simp only [Int.reduceToNat] at ho4; rw [← Ny111.out] at ho4)); have n0_ := Aside0.mk (Kd.R_lower ho4 (below_size (by repeat (first | (with_reducible first | exact HB.out | apply below_alloc | apply pw_below_drewN | apply below_drew1) | exact HB.out)))); have n1_ := Aside0.mk (below_step (by repeat (first | (with_reducible first | exact HB.out | apply below_alloc | apply pw_below_drewN | apply below_drew1) | exact HB.out)) hb); clear HB; have HO113 := n0_; have HB := n1_; clear n0_ n1_; clear hb ho4) | ((with_reducible refine gate_builtin (b := .append) (xs := #[.tmp 5, .tmp 6]) rfl ?_); at_builtin; refine Kd.R_append_rows (Kd.int .i64) (w0 := w) w.heap.size rfl (.tmp 5) (.tmp 6) 26 3 (.int .i64 0) 8 rfl Try.underlying26 info3 rfl (by decide) (by omega) v112 y111 l0 _ _ _ (fun _ => True) (fun _ => False) rfl rfl ?aO ?aR (fun _ _ h => h) (fun _ h => h.elim) ?aF ?aB ?aS ?aL ?_; (case aR => repeat (first | (first | exact (Kd.C_below HR0.out HB.out) | exact HR0.out) | (with_reducible refine Kd.C_alloc ?_ _) | (with_reducible refine Kd.C_drewN ?_ _) | (with_reducible refine Kd.C_drew ?_))); (case aB => exact (by repeat (first | (with_reducible first | exact HB.out | apply below_alloc | apply pw_below_drewN | apply below_drew1) | exact HB.out))); (case aF => exact (fun _ _ => trivial)); (case aO => exact (by (with_reducible repeat (first | apply Kd.R_alloc | apply Kd.R_drewN | apply Kd.R_drew)); exact HO113.out)); (case aS => exact (below_size (by repeat (first | (with_reducible first | exact HB.out | apply below_alloc | apply pw_below_drewN | apply below_drew1) | exact HB.out)))); (case aL => have := LMc2.out; omega); intro v115 w5 ho hb hg hat; rw [← Ny114.out] at ho; have n0_ := Aside0.mk (hb); have n1_ := Aside0.mk (ho); clear HB; clear HO113; have HB := n0_; have HO116 := n1_; clear n0_ n1_; clear ho hb hg hat))
    go_ret
    exact ⟨_, by first | rfl | (simp [errW_none, errW_some] <;> rfl) | (simp [*, errW_none, errW_some] <;> rfl), by (with_reducible repeat (first | apply Kd.R_alloc | apply Kd.R_drewN | apply Kd.R_drew)); exact HO116.out, by repeat (first | (with_reducible first | exact HB.out | apply below_alloc | apply pw_below_drewN | apply below_drew1) | exact HB.out)⟩
  · rw [if_neg c2] at H
    exact absurd H (by simp)
set_option maxHeartbeats 8000000 in
set_option maxRecDepth 100000 in
theorem slices_Clone_int_int.calls (A0 : Option Addr) (c0 : Nat) (l0 : List Int) (r : List Int) (w : World) (hr0 : Kd.C (Kd.int .i64) w A0 l0.length l0) (hc0 : l0.length ≤ c0) (h : slices_Clone_int_int.f l0 = some r) :
    Calls Try.prog 35 #[.slice A0 l0.length c0] w fun e w' => ∃ v0_ : Value, e = .returned (v0_) ∧ Kd.R (Kd.int .i64) 3 w' w.heap.size (fun _ => True) v0_ r ∧ Below w.heap.size w w' := by
  cases A0 with
  | some ad0 => exact slices_Clone_int_int.calls_some ad0 c0 l0 r w hr0 hc0 h
  | none =>
    have hl_ : l0 = [] := by
      rcases Nat.eq_zero_or_pos l0.length with h0 | h0
      · exact List.eq_nil_of_length_eq_zero h0
      · obtain ⟨ad, e, _⟩ := hr0.2.2 h0
        cases e
    subst hl_
    have hr_ : r = [] := by
      simp [slices_Clone_int_int.f] at h
      first | exact h | exact h.symm
    subst hr_
    clear hr0 hc0 h
    have knil_ := fun w_ : World => eql_none_nil (P := Try.prog) w_ (t := 26) 0 c0 Try.underlying26
    go_enter Try.func35, Try.ntmps35
    go_wp2
    go_ret
    exact ⟨_, rfl, Kd.R_nil _ _ _ _ _, Below.refl _ _⟩

end Go.Proofs.Ytbbbcdfagmcfgaa.PV

namespace Go.Proofs.Ytbbbcdfagmcfgaa.PV
open Go.RowKit Go.Proofs.YtbbbcdfagmcfgaaW.PrintWords Go.Proofs.YtbbbcdfagmcfgaaW.PrintLast Go.Proofs.YtbbbcdfagmcfgaaW.PrintMore Go.Proofs.Ytbbbcdfagmcfgaa.XBits
attribute [local go_sem] max2_int min2_int max_two min_two max_three min_three max_four min_four   -- for this text's walks alone
set_option linter.unusedVariables false
set_option linter.unusedSimpArgs false

/-! ### tattingref7_Behind: function 34 -/
mutual
def tattingref7_Behind.l0 : Nat → List Int → List Int → List (List Int) → Int → Option ((List (List Int)))
  | 0, _, _, _, _ => none
  | k + 1, x0, x1, x5, x6 => if x6 ≥ 0 then (if 0 ≤ (wrap64 ((x1.length : Int) + 1)) then (if (wrap64 ((x1.length : Int) + 1) : Int).toNat ≤ 35184372088832 then (if 0 ≤ x6 then (if x6 < (x5.length : Int) then (tattingref7_Behind.l1 k x0 x1 (x5.set (x6 : Int).toNat (List.replicate (wrap64 ((x1.length : Int) + 1) : Int).toNat 0)) x6 (wrap64 ((x1.length : Int) - 1))) else (none)) else (none)) else (none)) else (none)) else (some x5)
def tattingref7_Behind.l1 : Nat → List Int → List Int → List (List Int) → Int → Int → Option ((List (List Int)))
  | 0, _, _, _, _, _ => none
  | k + 1, x0, x1, x5, x6, x7 => if x6 < (x0.length : Int) then (tattingref7_Behind.j2 k x0 x1 x5 x6 x7 (decide (x7 ≥ 0))) else (tattingref7_Behind.j2 k x0 x1 x5 x6 x7 false)
def tattingref7_Behind.j2 : Nat → List Int → List Int → List (List Int) → Int → Int → Bool → Option ((List (List Int)))
  | 0, _, _, _, _, _, _ => none
  | k + 1, x0, x1, x5, x6, x7, x35 => if x35 = true then (if 0 ≤ x6 then (if x6 < (x0.length : Int) then (if 0 ≤ x7 then (if x7 < (x1.length : Int) then (if (rd x0 x6) = (rd x1 x7) then (if x6 < (x5.length : Int) then (if 0 ≤ (wrap64 (x6 + 1)) then (if (wrap64 (x6 + 1)) < (x5.length : Int) then (if 0 ≤ (wrap64 (x7 + 1)) then (if (wrap64 (x7 + 1)) < ((rd_L2 x5 (wrap64 (x6 + 1))).length : Int) then (if x7 < ((rd_L2 x5 x6).length : Int) then (tattingref7_Behind.l1 k x0 x1 (x5.set (x6 : Int).toNat ((rd_L2 x5 x6).set (x7 : Int).toNat (wrap64 ((rd (rd_L2 x5 (wrap64 (x6 + 1))) (wrap64 (x7 + 1))) + 1)))) x6 (wrap64 (x7 - 1))) else (none)) else (none)) else (none)) else (none)) else (none)) else (none)) else (if x6 < (x5.length : Int) then (if 0 ≤ (wrap64 (x6 + 1)) then (if (wrap64 (x6 + 1)) < (x5.length : Int) then (if x7 < ((rd_L2 x5 (wrap64 (x6 + 1))).length : Int) then (if 0 ≤ (wrap64 (x7 + 1)) then (if (wrap64 (x7 + 1)) < ((rd_L2 x5 x6).length : Int) then (if x7 < ((rd_L2 x5 x6).length : Int) then (tattingref7_Behind.l1 k x0 x1 (x5.set (x6 : Int).toNat ((rd_L2 x5 x6).set (x7 : Int).toNat (mx (rd (rd_L2 x5 (wrap64 (x6 + 1))) x7) (rd (rd_L2 x5 x6) (wrap64 (x7 + 1)))))) x6 (wrap64 (x7 - 1))) else (none)) else (none)) else (none)) else (none)) else (none)) else (none)) else (none))) else (none)) else (none)) else (none)) else (none)) else (tattingref7_Behind.l0 k x0 x1 x5 (wrap64 (x6 - 1)))
end
def tattingref7_Behind.f (k : Nat) (l0 : List Int) (l1 : List Int) : Option ((List (List Int))) := if 0 ≤ (wrap64 ((l0.length : Int) + 1)) then (if (wrap64 ((l0.length : Int) + 1) : Int).toNat ≤ 11728124029610 then (tattingref7_Behind.l0 k l0 l1 (List.replicate (wrap64 ((l0.length : Int) + 1) : Int).toNat []) (l0.length : Int)) else (none)) else (none)
theorem tattingref7_Behind.mono_l : ∀ k, (∀ y0 y1 y2 y3, LeO (tattingref7_Behind.l0 k y0 y1 y2 y3) (tattingref7_Behind.l0 (k + 1) y0 y1 y2 y3)) ∧ (∀ y0 y1 y2 y3 y4, LeO (tattingref7_Behind.l1 k y0 y1 y2 y3 y4) (tattingref7_Behind.l1 (k + 1) y0 y1 y2 y3 y4)) ∧ (∀ y0 y1 y2 y3 y4 y5, LeO (tattingref7_Behind.j2 k y0 y1 y2 y3 y4 y5) (tattingref7_Behind.j2 (k + 1) y0 y1 y2 y3 y4 y5))
  | 0 => ⟨fun _ _ _ _ r h => by simp [tattingref7_Behind.l0] at h, fun _ _ _ _ _ r h => by simp [tattingref7_Behind.l1] at h, fun _ _ _ _ _ _ r h => by simp [tattingref7_Behind.j2] at h⟩
  | k + 1 => by
    obtain ⟨ih0, ih1, ih2⟩ := tattingref7_Behind.mono_l k
    refine ⟨?_, ?_, ?_⟩
    · intro y0 y1 y2 y3
      unfold tattingref7_Behind.l0
      repeat' first
      | (with_reducible exact ih0 _ _ _ _)
      | (with_reducible exact ih1 _ _ _ _ _)
      | (with_reducible exact ih2 _ _ _ _ _ _)
      | (with_reducible exact LeO.refl _)
      | (with_reducible exact LeO.none _)
      | (with_reducible refine LeO.ite ?_ ?_)
      | (with_reducible refine LeO.bind ?_ (fun _ => ?_))
      | exact ih0 _ _ _ _
      | exact ih1 _ _ _ _ _
      | exact ih2 _ _ _ _ _ _
      | exact LeO.none _
      | refine LeO.ite ?_ ?_
      | refine LeO.bind ?_ (fun _ => ?_)
    · intro y0 y1 y2 y3 y4
      unfold tattingref7_Behind.l1
      repeat' first
      | (with_reducible exact ih0 _ _ _ _)
      | (with_reducible exact ih1 _ _ _ _ _)
      | (with_reducible exact ih2 _ _ _ _ _ _)
      | (with_reducible exact LeO.refl _)
      | (with_reducible exact LeO.none _)
      | (with_reducible refine LeO.ite ?_ ?_)
      | (with_reducible refine LeO.bind ?_ (fun _ => ?_))
      | exact ih0 _ _ _ _
      | exact ih1 _ _ _ _ _
      | exact ih2 _ _ _ _ _ _
      | exact LeO.none _
      | refine LeO.ite ?_ ?_
      | refine LeO.bind ?_ (fun _ => ?_)
    · intro y0 y1 y2 y3 y4 y5
      unfold tattingref7_Behind.j2
      repeat' first
      | (with_reducible exact ih0 _ _ _ _)
      | (with_reducible exact ih1 _ _ _ _ _)
      | (with_reducible exact ih2 _ _ _ _ _ _)
      | (with_reducible exact LeO.refl _)
      | (with_reducible exact LeO.none _)
      | (with_reducible refine LeO.ite ?_ ?_)
      | (with_reducible refine LeO.bind ?_ (fun _ => ?_))
      | exact ih0 _ _ _ _
      | exact ih1 _ _ _ _ _
      | exact ih2 _ _ _ _ _ _
      | exact LeO.none _
      | refine LeO.ite ?_ ?_
      | refine LeO.bind ?_ (fun _ => ?_)
theorem tattingref7_Behind.mono : ∀ a0 a1 k, LeO (tattingref7_Behind.f k a0 a1) (tattingref7_Behind.f (k + 1) a0 a1) := by
  intro a0 a1 k
  obtain ⟨ih0, ih1, ih2⟩ := tattingref7_Behind.mono_l k
  unfold tattingref7_Behind.f
  repeat' first
      | (with_reducible exact ih0 _ _ _ _)
      | (with_reducible exact ih1 _ _ _ _ _)
      | (with_reducible exact ih2 _ _ _ _ _ _)
      | (with_reducible exact LeO.refl _)
      | (with_reducible exact LeO.none _)
      | (with_reducible refine LeO.ite ?_ ?_)
      | (with_reducible refine LeO.bind ?_ (fun _ => ?_))
      | exact ih0 _ _ _ _
      | exact ih1 _ _ _ _ _
      | exact ih2 _ _ _ _ _ _
      | exact LeO.none _
      | refine LeO.ite ?_ ?_
      | refine LeO.bind ?_ (fun _ => ?_)
def tattingref7_Behind.T9 : Bool × List (List Nat × List Nat) := (true, [([], []), ([], []), ([0, 1], [0, 1]), ([2], [2]), ([], []), ([], []), ([4, 5], [4, 5]), ([6], [6]), ([3, 7], [3, 7])])
def tattingref7_Behind.B9 : List Nat := [0, 0, 3, 7, 0, 0, 48, 112, 255]
theorem tattingref7_Behind.tab9 : rtab .any (opsOf Try.f34 9) = tattingref7_Behind.T9 := by kernel_rfl
theorem tattingref7_Behind.bits9 : waitsOk tattingref7_Behind.T9.2 tattingref7_Behind.B9 = true := by kernel_rfl
def tattingref7_Behind.T10 : Bool × List (List Nat × List Nat) := (true, [([], []), ([], []), ([0, 1], [0, 1]), ([2], [2]), ([], []), ([], []), ([], []), ([6], [6]), ([5, 7], [5, 7]), ([8], [8]), ([], []), ([10], [10]), ([9, 11], [9, 11]), ([12], [12]), ([13], [13]), ([3, 4, 0, 1, 2, 3, 4, 5, 6, 7, 8, 9, 10, 11, 12, 13, 14], [3, 4]), ([15, 14, 0, 1, 2, 3, 4, 5, 6, 7, 8, 9, 10, 11, 12, 13, 14], [14, 15])])
def tattingref7_Behind.B10 : List Nat := [0, 0, 3, 7, 0, 0, 0, 64, 224, 480, 0, 1024, 4064, 8160, 16352, 32767, 65535]
theorem tattingref7_Behind.tab10 : rtab .any (opsOf Try.f34 10) = tattingref7_Behind.T10 := by kernel_rfl
theorem tattingref7_Behind.bits10 : waitsOk tattingref7_Behind.T10.2 tattingref7_Behind.B10 = true := by kernel_rfl
def tattingref7_Behind.T11 : Bool × List (List Nat × List Nat) := (true, [([], []), ([], []), ([0, 1], [0, 1]), ([2], [2]), ([], []), ([], []), ([], []), ([6], [6]), ([5, 7], [5, 7]), ([8], [8]), ([], []), ([9, 10], [9, 10]), ([11], [11]), ([], []), ([], []), ([13, 14], [13, 14]), ([15], [15]), ([], []), ([17], [17]), ([16, 18], [16, 18]), ([19], [19]), ([12, 20], [12, 20]), ([3, 4, 0, 1, 2, 3, 4, 5, 6, 7, 8, 9, 10, 11, 12, 13, 14, 15, 16, 17, 18, 19, 20, 21], [3, 4]), ([22, 21, 0, 1, 2, 3, 4, 5, 6, 7, 8, 9, 10, 11, 12, 13, 14, 15, 16, 17, 18, 19, 20, 21], [21, 22])])
def tattingref7_Behind.B11 : List Nat := [0, 0, 3, 7, 0, 0, 0, 64, 224, 480, 0, 2016, 4064, 0, 0, 24576, 57344, 0, 131072, 516096, 1040384, 2097120, 4194303, 8388607]
theorem tattingref7_Behind.tab11 : rtab .any (opsOf Try.f34 11) = tattingref7_Behind.T11 := by kernel_rfl
theorem tattingref7_Behind.bits11 : waitsOk tattingref7_Behind.T11.2 tattingref7_Behind.B11 = true := by kernel_rfl
set_option maxHeartbeats 8000000 in
set_option maxRecDepth 100000 in
theorem tattingref7_Behind.calls (k : Nat) (A0 : Option Addr) (c0 : Nat) (l0 : List Int) (A1 : Option Addr) (c1 : Nat) (l1 : List Int) (r : List (List Int)) (w : World) (hr0 : Kd.C (Kd.int .i64) w A0 l0.length l0) (hc0 : l0.length ≤ c0) (hr1 : Kd.C (Kd.int .i64) w A1 l1.length l1) (hc1 : l1.length ≤ c1) (h : tattingref7_Behind.f k l0 l1 = some r) :
    Calls Try.prog 34 #[.slice A0 l0.length c0, .slice A1 l1.length c1] w fun e w' => ∃ v0_ : Value, e = .returned (v0_) ∧ Kd.S (Kd.slice 3 (Kd.int .i64)) 26 w' w.heap.size (fun _ => True) v0_ r ∧ Below w.heap.size w w' := by
  have HR0 := Aside0.mk hr0
  have HC0 := Aside0.mk hc0
  clear hr0 hc0
  have HR1 := Aside0.mk hr1
  have HC1 := Aside0.mk hc1
  clear hr1 hc1
  have HB := Aside0.mk (Below.refl w.heap.size w)
  have H : (if 0 ≤ (wrap64 ((l0.length : Int) + 1)) then (if (wrap64 ((l0.length : Int) + 1) : Int).toNat ≤ 11728124029610 then (tattingref7_Behind.l0 k l0 l1 (List.replicate (wrap64 ((l0.length : Int) + 1) : Int).toNat []) (l0.length : Int)) else (none)) else (none)) = some r := h
  clear h
  obtain ⟨ji3, hji3⟩ : ∃ j_ : Int, (wrap64 ((l0.length : Int) + 1)) = j_ := ⟨_, rfl⟩
  replace H : (if 0 ≤ (ji3) then (if (ji3 : Int).toNat ≤ 11728124029610 then (tattingref7_Behind.l0 k l0 l1 (List.replicate (ji3 : Int).toNat []) (l0.length : Int)) else (none)) else (none)) = some r := by first | (rw [hji3] at H; exact H) | (simp only [hji3] at H ⊢; exact H)
  have hji3w : (IntKind.i64.wrap ((l0.length : Int) + 1)) = ji3 := (i64_w _).trans hji3
  by_cases c4 : 0 ≤ (ji3)
  · rw [if_pos c4] at H
    have c4b0 := eq_true c4
    have c4b1 : decide (0 ≤ (ji3)) = true := decide_eq_true c4
    clear c4
    by_cases c5 : (ji3 : Int).toNat ≤ 11728124029610
    · rw [if_pos c5] at H
      have c5b0 := eq_true c5
      have c5b1 : decide ((ji3 : Int).toNat ≤ 11728124029610) = true := decide_eq_true c5
      clear c5
      obtain ⟨y117, hy117⟩ : ∃ y_ : List (List Int), y_ = (List.replicate (ji3 : Int).toNat []) := ⟨_, rfl⟩
      replace H : (tattingref7_Behind.l0 k l0 l1 y117 (l0.length : Int)) = some r := by first | (rw [hy117]; with_reducible exact H) | (have H2_ := (Option.bind_some _ _).symm.trans H; rw [hy117]; with_reducible exact H2_) | (have H2_ := (Option.bind_some _ _).symm.trans H; with_reducible exact H2_) | with_reducible exact H | (rw [hy117]; exact H) | exact H
      have Ny117 := Aside0.mk hy117
      clear hy117
      have H' := Aside0.mk H
      clear H
      go_enter Try.func34, Try.ntmps34
      go_wp2_with (first | ((with_reducible refine gate_dst (N := 11) rfl ?_); refine Kd.S_make (Kd.slice 3 (Kd.int .i64)) _ 26 rfl (N := 11) rfl 54 _ _ rfl ji3 rfl rfl Try.underlying54 (.slice none 0 0) 24 info26 rfl (by decide) (by omega) [] (ok := fun _ => True) (okp := fun _ => True) ⟨_, rfl, Kd.R_nil _ _ _ _ _⟩ (fun _ hk => hk) trivial (of_decide_eq_true (by first | (with_reducible assumption) | assumption)) (Nat.le_trans (Nat.mul_le_mul_right _ (of_decide_eq_true (by first | (with_reducible assumption) | assumption) : ji3.toNat ≤ 11728124029610)) (by omega)) (Below.refl _ _) (Nat.le_refl _) ?_; intro v118 w6 ho7 hb hg_ hnew_; clear hg_ hnew_; (first | rw [← Ny117.out] at ho7 | (simp only [Int.reduceToNat] at ho7; rw [← Ny117.out] at ho7)); have n0_ := Aside0.mk (Kd.S_lower ho7 (below_size (by repeat (first | (with_reducible first | exact HB.out | apply below_alloc | apply pw_below_drewN | apply below_drew1) | exact HB.out)))); have n1_ := Aside0.mk (below_step (by repeat (first | (with_reducible first | exact HB.out | apply below_alloc | apply pw_below_drewN | apply below_drew1) | exact HB.out)) hb); clear HB; have HO119 := n0_; have HB := n1_; clear n0_ n1_; clear hb ho7))
      go_loopg [6] k (fun kq v6 w' => ∃ (x5_1 : List (List Int)) (x6_1 : Int), v6 = .int .i64 x6_1 ∧ Aside0 (tattingref7_Behind.l0 kq l0 l1 x5_1 x6_1 = some r) ∧ Aside0 (kq ≤ k) ∧ Aside0 (Kd.S (Kd.slice 3 (Kd.int .i64)) 26 w' w.heap.size (fun _ => True) v118 x5_1) ∧ Aside0 (Below w.heap.size w w'))
      case atStart => exact ⟨(y117), ((l0.length : Int)), (by first | rfl | (simp; done) | (simp [*]; done)), H', ⟨Nat.le_refl _⟩, ⟨by (with_reducible repeat (first | apply Kd.S_alloc | apply Kd.S_drewN | apply Kd.S_drew)); exact HO119.out⟩, ⟨by repeat (first | (with_reducible first | exact HB.out | apply below_alloc | apply pw_below_drewN | apply below_drew1) | exact HB.out)⟩⟩
      case round =>
        clear H'
        try clear c1
        try clear p2
        try clear c3
        try clear c4
        try clear c4b0
        try clear c4b1
        try clear c5
        try clear c5b0
        try clear c5b1
        try clear p6
        obtain ⟨x5_1, x6_1, rfl, HA, HK1, HO_5, HB⟩ := hrel
        cases gk with
        | zero => exact absurd HA.out (by simp [tattingref7_Behind.l0])
        | succ k1 =>
          have H := HA.out
          clear HA
          simp only [tattingref7_Behind.l0] at H
          by_cases c8 : x6_1 ≥ 0
          · rw [if_pos c8] at H
            have c8b0 : decide (0 ≤ x6_1) = true := decide_eq_true c8
            clear c8
            obtain ⟨ji9, hji9⟩ : ∃ j_ : Int, (wrap64 ((l1.length : Int) + 1)) = j_ := ⟨_, rfl⟩
            replace H : (if 0 ≤ (ji9) then (if (ji9 : Int).toNat ≤ 35184372088832 then (if 0 ≤ x6_1 then (if x6_1 < (x5_1.length : Int) then (tattingref7_Behind.l1 k1 l0 l1 (x5_1.set (x6_1 : Int).toNat (List.replicate (ji9 : Int).toNat 0)) x6_1 (wrap64 ((l1.length : Int) - 1))) else (none)) else (none)) else (none)) else (none)) = some r := by first | (rw [hji9] at H; exact H) | (simp only [hji9] at H ⊢; exact H)
            have hji9w : (IntKind.i64.wrap ((l1.length : Int) + 1)) = ji9 := (i64_w _).trans hji9
            by_cases c10 : 0 ≤ (ji9)
            · rw [if_pos c10] at H
              have c10b0 := eq_true c10
              have c10b1 : decide (0 ≤ (ji9)) = true := decide_eq_true c10
              clear c10
              by_cases c11 : (ji9 : Int).toNat ≤ 35184372088832
              · rw [if_pos c11] at H
                have c11b0 := eq_true c11
                have c11b1 : decide ((ji9 : Int).toNat ≤ 35184372088832) = true := decide_eq_true c11
                clear c11
                obtain ⟨y120, hy120⟩ : ∃ y_ : List Int, y_ = (List.replicate (ji9 : Int).toNat 0) := ⟨_, rfl⟩
                replace H : (if 0 ≤ x6_1 then (if x6_1 < (x5_1.length : Int) then (tattingref7_Behind.l1 k1 l0 l1 (x5_1.set (x6_1 : Int).toNat y120) x6_1 (wrap64 ((l1.length : Int) - 1))) else (none)) else (none)) = some r := by first | (rw [hy120]; with_reducible exact H) | (have H2_ := (Option.bind_some _ _).symm.trans H; rw [hy120]; with_reducible exact H2_) | (have H2_ := (Option.bind_some _ _).symm.trans H; with_reducible exact H2_) | with_reducible exact H | (rw [hy120]; exact H) | exact H
                have Ny120 := Aside0.mk hy120
                clear hy120
                by_cases c12 : 0 ≤ x6_1
                · rw [if_pos c12] at H
                  have c12b0 : decide (0 ≤ x6_1) = true := decide_eq_true c12
                  clear c12
                  by_cases c13 : x6_1 < (x5_1.length : Int)
                  · rw [if_pos c13] at H
                    have c13b0 : decide (x6_1 < (x5_1.length : Int)) = true := decide_eq_true c13
                    clear c13
                    obtain ⟨y123, hy123⟩ : ∃ y_ : List (List Int), y_ = (x5_1.set (x6_1 : Int).toNat y120) := ⟨_, rfl⟩
                    replace H : (tattingref7_Behind.l1 k1 l0 l1 y123 x6_1 (wrap64 ((l1.length : Int) - 1))) = some r := by first | (rw [hy123]; with_reducible exact H) | (have H2_ := (Option.bind_some _ _).symm.trans H; rw [hy123]; with_reducible exact H2_) | (have H2_ := (Option.bind_some _ _).symm.trans H; with_reducible exact H2_) | with_reducible exact H | (rw [hy123]; exact H) | exact H
                    have Ny123 := Aside0.mk hy123
                    clear hy123
                    have H' := Aside0.mk H
                    clear H
                    go_wp2_with (first | ((with_reducible refine gate_dst (N := 23) rfl ?_); refine Kd.R_make (Kd.int .i64) _ 3 rfl (N := 23) rfl 26 _ _ rfl ji9 rfl rfl Try.underlying26 (.int .i64 0) 8 info3 rfl (by decide) (by omega) 0 (ok := fun _ => True) (okp := fun _ => True) rfl (fun _ hk => hk) trivial (of_decide_eq_true (by first | (with_reducible assumption) | assumption)) (Nat.le_trans (Nat.mul_le_mul_right _ (of_decide_eq_true (by first | (with_reducible assumption) | assumption) : ji9.toNat ≤ 35184372088832)) (by omega)) (Below.refl _ _) (Nat.le_refl _) ?_; intro v121 w15 ho16 hb hg_ hnew_; clear hg_ hnew_; obtain ⟨Af_v121, cf_v121, ef_v121⟩ := Kd.R_slice ho16; (first | rw [← Ny120.out] at ho16 | (simp only [Int.reduceToNat] at ho16; rw [← Ny120.out] at ho16)); have n0_ := Aside0.mk (Kd.S_elder' (by (with_reducible repeat (first | apply Kd.S_alloc | apply Kd.S_drewN | apply Kd.S_drew)); exact HO_5.out) (Kd.R_base ho16) hb); have n1_ := Aside0.mk (Kd.R_lower ho16 (below_size (by repeat (first | (with_reducible first | exact HB.out | apply below_alloc | apply pw_below_drewN | apply below_drew1) | exact HB.out)))); have n2_ := Aside0.mk (below_step (by repeat (first | (with_reducible first | exact HB.out | apply below_alloc | apply pw_below_drewN | apply below_drew1) | exact HB.out)) hb); clear HO_5; clear HB; have HO_5 := n0_; have HO122 := n1_; have HB := n2_; clear n0_ n1_ n2_; clear hb ho16; have p14 : 0 ≤ (x6_1 : Int) := of_decide_eq_true (by first | (with_reducible assumption) | assumption); have q14 : (x6_1 : Int) < ((x5_1.length : Int) : Int) := of_decide_eq_true (by first | (with_reducible assumption) | assumption); obtain ⟨go14, co14, eo14, gb14, gl14, cl14, HG14⟩ := Kd.S_form HO_5.out (by omega); (first | cases eo14 | (injection eo14 with ea_ en_ ec_; (first | subst ea_ | (injection ea_ with ea_; subst ea_)); subst ec_; clear en_)); have GB14 := Aside0.mk gb14; have GG14 := Aside0.mk HG14; clear gb14 gl14 HG14; obtain ⟨_, ce14, hcl14, hM14, hcc14, hfr14, _, _⟩ := Kd.S_elem HO_5.out [] (x6_1 : Int) p14 q14; obtain ⟨ve14_0, rfl, ge14_0⟩ := hM14; have hx14_0 := hcc14 0 _ rfl; have hf14_0 := hfr14 0; (try simp only [show ((Kd.slice 3 (Kd.int .i64))).sz = 1 from rfl, Nat.mul_one, Nat.add_zero] at hx14_0); (try simp only [show ((Kd.slice 3 (Kd.int .i64))).sz = 1 from rfl, Nat.mul_one, Nat.add_zero] at hf14_0); clear hcl14 hcc14 hfr14; (try clear hM14); replace p14 := eq_true p14; replace q14 := eq_true q14; have n_ := Aside0.mk (Kd.S_mono (ok' := (fun k_ => some k_ ≠ (v121 : Value).ownBlock)) HO_5.out (fun k_ hk => hk.2)); clear HO_5; have HO_5 := n_; clear n_; have HX17 := Aside0.mk (show Kd.S (Kd.slice 3 (Kd.int .i64)) 26 w15 w.heap.size (fun k_ => ((fun _ => True)) k_ ∧ ¬ ((fun k_ => some k_ = (v121 : Value).ownBlock)) k_) (.slice (some ⟨go14, 0, none⟩) x5_1.length co14) x5_1 from (by (with_reducible repeat (first | apply Kd.S_alloc | apply Kd.S_drewN | apply Kd.S_drew)); exact Kd.S_mono HO_5.out (fun k_ hk => ⟨trivial, fun e_ => hk e_⟩))); obtain ⟨oki17, ce17, hcl17, hM17, hcc17, hfr17, hoki17, hH17⟩ := Kd.S_elem HX17.out [] (x6_1 : Int) (of_decide_eq_true (by first | (with_reducible assumption) | assumption)) (by have h_ : (x6_1 : Int) < ((x5_1.length : Int) : Int) := of_decide_eq_true (by first | (with_reducible assumption) | assumption); first | exact h_ | (have e_ := (Kd.S_reads' HO_5.out).1; omega) | simpa using h_); obtain ⟨ve17_0, rfl, ge17_0⟩ := hM17; have HP17 := Kd.S_seg hH17 (of_decide_eq_true (by first | (with_reducible assumption) | assumption)) (by have h_ : (x6_1 : Int) < ((x5_1.length : Int) : Int) := of_decide_eq_true (by first | (with_reducible assumption) | assumption); first | exact h_ | (have e_ := (Kd.S_reads' HO_5.out).1; omega) | simpa using h_) (seg := [v121]) (j := 0) (show 1 ≤ 1 from by decide) (x' := y120) (Kd.M_row (Kd.R_mono (Kd.R_tight rfl (Kd.R_mono (ok' := fun k_ => ((fun _ => True)) k_ ∧ k_ ≠ go14) (Kd.R_apart' (HO122.out) (Kd.S_typed HO_5.out) (by decide)) (fun k_ hk => ⟨trivial, fun e_ => (hk.2) (by rw [e_]; rfl)⟩))) (fun _ h_ => Or.inr (h_)))) (fun _ hk => hk) (fun k_ hk_ => ((Kd.R_mono (ok' := fun k_ => ((fun _ => True)) k_ ∧ k_ ≠ go14) (Kd.R_apart' (HO122.out) (Kd.S_typed HO_5.out) (by decide)) (fun k_ hk => ⟨trivial, fun e_ => (hk.2) (by rw [e_]; rfl)⟩))).1 k_ hk_.symm); have hx17_0 := hcc17 0 _ rfl; (try simp only [show ((Kd.slice 3 (Kd.int .i64))).sz = 1 from rfl, Nat.mul_one, Nat.add_zero] at hx17_0); have hf17_0 := hfr17 0; (try simp only [show ((Kd.slice 3 (Kd.int .i64))).sz = 1 from rfl, Nat.mul_one, Nat.add_zero] at hf17_0); clear hcl17 hcc17 hfr17 hoki17 hH17; (try clear hM17); (try simp only [show ((Kd.slice 3 (Kd.int .i64))).sz = 1 from rfl, Nat.mul_one, Nat.add_zero] at HP17)) | ((with_reducible refine gate_store (t := 26) (p := 24) rfl ?_); refine store_event (t := 26) (p := 24) (v := ?vo_w18) (w1 := (w15.setCell ⟨go14, (x6_1 : Int).toNat, none⟩ (v121))) ?hg ?ho ?hn ?hr ?_; (case ho => rfl); (case hg => rfl); (case hn => rfl); (case hr => first | (go_simp; done) | (go_simp; rfl) | (rw [ef_v121]; go_simp; first | done | rfl)); intro w18 hw; have hg : w15.grownBy w18 (some go14) := (by rw [hw]; exact HP17.2); have hp_ : Kd.S (Kd.slice 3 (Kd.int .i64)) 26 w18 w.heap.size (fun _ => True) (.slice (some ⟨go14, 0, none⟩) x5_1.length co14) y123 := (by rw [hw, Ny123.out]; exact HP17.1); clear HP17; have n0_ := Aside0.mk (hp_); have n1_ := Aside0.mk ((by rw [hw]; exact below_set (HB.out) GB14.out : Below w.heap.size w w18)); clear HO_5; clear HB; clear HO122; have HO_5 := n0_; have HB := n1_; clear n0_ n1_; clear hg hw hp_))
                    go_loopg [7] k1 (fun kq v7 w' => ∃ (x5_2 : List (List Int)) (x7_2 : Int), v7 = .int .i64 x7_2 ∧ Aside0 (tattingref7_Behind.l1 kq l0 l1 x5_2 x6_1 x7_2 = some r) ∧ Aside0 (kq ≤ k1) ∧ Aside0 (Kd.S (Kd.slice 3 (Kd.int .i64)) 26 w' w.heap.size (fun _ => True) (.slice (some ⟨go14, 0, none⟩) x5_1.length co14) x5_2) ∧ Aside0 (Below w.heap.size w w'))
                    case atStart => exact ⟨(y123), (wrap64 ((l1.length : Int) - 1)), (by first | rfl | (simp; done) | (simp [*]; done)), H', ⟨Nat.le_refl _⟩, ⟨by (with_reducible repeat (first | apply Kd.S_alloc | apply Kd.S_drewN | apply Kd.S_drew)); exact HO_5.out⟩, ⟨by repeat (first | (with_reducible first | exact HB.out | apply below_alloc | apply pw_below_drewN | apply below_drew1) | exact HB.out)⟩⟩
                    case round =>
                      clear H'
                      try clear c1
                      try clear p1
                      try clear q1
                      try clear hx1
                      try clear p2
                      try clear c3
                      try clear c4
                      try clear c4b0
                      try clear c4b1
                      try clear c5
                      try clear c5b0
                      try clear c5b1
                      try clear p6
                      try clear c8
                      try clear c8b0
                      try clear c10
                      try clear c10b0
                      try clear c10b1
                      try clear c11
                      try clear c11b0
                      try clear c11b1
                      try clear c12
                      try clear c12b0
                      try clear c13
                      try clear c13b0
                      try clear c14
                      try clear p14
                      try clear q14
                      try clear hx14
                      try clear hf14
                      try clear c17
                      try clear hx17
                      try clear hf17
                      try clear hx14_0
                      try clear hx17_0
                      try clear p14
                      try clear p2
                      try clear p6
                      try clear q14
                      obtain ⟨x5_2, x7_2, rfl, HA, HK2, HO_5, HB⟩ := hrel
                      have hl5_2 := (Kd.S_reads' HO_5.out).1
                      rw [hl5_2] at HO_5
                      (try simp only [hl5_2])
                      cases gk with
                      | zero => exact absurd HA.out (by simp [tattingref7_Behind.l1])
                      | succ k2 =>
                        have H := HA.out
                        clear HA
                        simp only [tattingref7_Behind.l1] at H
                        have HC19 := Aside0.mk H
                        clear H
                        go_upto_region 7 with (fail)
                        go_cut [35] (fun v35 wc => ∃ (kq : Nat) (x35_18 : Bool), v35 = .bool x35_18 ∧ Aside0 (tattingref7_Behind.j2 kq l0 l1 x5_2 x6_1 x7_2 x35_18 = some r) ∧ Aside0 (kq ≤ k2) ∧ Aside0 (Kd.S (Kd.slice 3 (Kd.int .i64)) 26 wc w.heap.size (fun _ => True) (.slice (some ⟨go14, 0, none⟩) x5_2.length co14) x5_2) ∧ Aside0 (Below w.heap.size w wc))
                        case first =>
                          have H := HC19.out
                          clear HC19
                          by_cases c20 : x6_1 < (l0.length : Int)
                          · rw [if_pos c20] at H
                            have c20b0 : decide (x6_1 < (l0.length : Int)) = true := decide_eq_true c20
                            (try simp only [hl5_2] at c20b0)
                            clear c20
                            (first | rw [c20b0] | (simp only [i64_w, i32_w]; rw [c20b0]) | skip)
                            have H' := Aside0.mk H
                            clear H
                            go_wp2
                            go_meet
                            case rel => exact ⟨_, (decide (x7_2 ≥ 0)), (by first | rfl | (simp; done) | (simp [*]; done)), H', ⟨by have := HK1.out; have := HK2.out; first | omega | exact Nat.le_refl _⟩, ⟨by (try simp only [hl5_2]); (with_reducible repeat (first | apply Kd.S_alloc | apply Kd.S_drewN | apply Kd.S_drew)); exact HO_5.out⟩, ⟨by repeat (first | (with_reducible first | exact HB.out | apply below_alloc | apply pw_below_drewN | apply below_drew1) | exact HB.out)⟩⟩
                          · rw [if_neg c20] at H
                            have c20b0 : decide (x6_1 < (l0.length : Int)) = false := decide_eq_false c20
                            (try simp only [hl5_2] at c20b0)
                            clear c20
                            (first | rw [c20b0] | (simp only [i64_w, i32_w]; rw [c20b0]) | skip)
                            have H' := Aside0.mk H
                            clear H
                            go_wp2
                            go_meet
                            case rel => exact ⟨_, (false), (by first | rfl | (simp; done) | (simp [*]; done)), H', ⟨by have := HK1.out; have := HK2.out; first | omega | exact Nat.le_refl _⟩, ⟨by (try simp only [hl5_2]); (with_reducible repeat (first | apply Kd.S_alloc | apply Kd.S_drewN | apply Kd.S_drew)); exact HO_5.out⟩, ⟨by repeat (first | (with_reducible first | exact HB.out | apply below_alloc | apply pw_below_drewN | apply below_drew1) | exact HB.out)⟩⟩
                        case rest =>
                          clear HC19
                          try clear c1
                          try clear p1
                          try clear q1
                          try clear hx1
                          try clear c2
                          try clear p2
                          try clear c3
                          try clear c4
                          try clear c4b0
                          try clear c4b1
                          try clear c5
                          try clear c5b0
                          try clear c5b1
                          try clear p6
                          try clear c8
                          try clear c8b0
                          try clear c10
                          try clear c10b0
                          try clear c10b1
                          try clear c11
                          try clear c11b0
                          try clear c11b1
                          try clear c12
                          try clear c12b0
                          try clear c13
                          try clear c13b0
                          try clear c14
                          try clear p14
                          try clear q14
                          try clear hx14
                          try clear hf14
                          try clear c17
                          try clear hx17
                          try clear hf17
                          try clear c20
                          try clear c20b0
                          try clear hx14_0
                          try clear hx17_0
                          try clear p1
                          try clear p14
                          try clear p2
                          try clear p6
                          try clear q1
                          try clear q14
                          obtain ⟨kq, x35_18, rfl, HA, HJ18, HO_5, HB⟩ := hcut
                          cases kq with
                          | zero => exact absurd HA.out (by simp [tattingref7_Behind.j2])
                          | succ kj18 =>
                            have H := HA.out
                            clear HA
                            simp only [tattingref7_Behind.j2] at H
                            by_cases c21 : x35_18 = true
                            · subst c21
                              have H1 : (if 0 ≤ x6_1 then (if x6_1 < (l0.length : Int) then (if 0 ≤ x7_2 then (if x7_2 < (l1.length : Int) then (if (rd l0 x6_1) = (rd l1 x7_2) then (if x6_1 < (x5_2.length : Int) then (if 0 ≤ (wrap64 (x6_1 + 1)) then (if (wrap64 (x6_1 + 1)) < (x5_2.length : Int) then (if 0 ≤ (wrap64 (x7_2 + 1)) then (if (wrap64 (x7_2 + 1)) < ((rd_L2 x5_2 (wrap64 (x6_1 + 1))).length : Int) then (if x7_2 < ((rd_L2 x5_2 x6_1).length : Int) then (tattingref7_Behind.l1 kj18 l0 l1 (x5_2.set (x6_1 : Int).toNat ((rd_L2 x5_2 x6_1).set (x7_2 : Int).toNat (wrap64 ((rd (rd_L2 x5_2 (wrap64 (x6_1 + 1))) (wrap64 (x7_2 + 1))) + 1)))) x6_1 (wrap64 (x7_2 - 1))) else (none)) else (none)) else (none)) else (none)) else (none)) else (none)) else (if x6_1 < (x5_2.length : Int) then (if 0 ≤ (wrap64 (x6_1 + 1)) then (if (wrap64 (x6_1 + 1)) < (x5_2.length : Int) then (if x7_2 < ((rd_L2 x5_2 (wrap64 (x6_1 + 1))).length : Int) then (if 0 ≤ (wrap64 (x7_2 + 1)) then (if (wrap64 (x7_2 + 1)) < ((rd_L2 x5_2 x6_1).length : Int) then (if x7_2 < ((rd_L2 x5_2 x6_1).length : Int) then (tattingref7_Behind.l1 kj18 l0 l1 (x5_2.set (x6_1 : Int).toNat ((rd_L2 x5_2 x6_1).set (x7_2 : Int).toNat (mx (rd (rd_L2 x5_2 (wrap64 (x6_1 + 1))) x7_2) (rd (rd_L2 x5_2 x6_1) (wrap64 (x7_2 + 1)))))) x6_1 (wrap64 (x7_2 - 1))) else (none)) else (none)) else (none)) else (none)) else (none)) else (none)) else (none))) else (none)) else (none)) else (none)) else (none)) = some r := by rw [if_pos rfl] at H; first | done | exact H
                              clear H
                              have H := H1
                              clear H1
                              by_cases c22 : 0 ≤ x6_1
                              · rw [if_pos c22] at H
                                have c22b0 : decide (0 ≤ x6_1) = true := decide_eq_true c22
                                clear c22
                                by_cases c23 : x6_1 < (l0.length : Int)
                                · rw [if_pos c23] at H
                                  have c23b0 : decide (x6_1 < (l0.length : Int)) = true := decide_eq_true c23
                                  (try simp only [hl5_2] at c23b0)
                                  clear c23
                                  by_cases c24 : 0 ≤ x7_2
                                  · rw [if_pos c24] at H
                                    have c24b0 : decide (0 ≤ x7_2) = true := decide_eq_true c24
                                    clear c24
                                    by_cases c25 : x7_2 < (l1.length : Int)
                                    · rw [if_pos c25] at H
                                      have c25b0 : decide (x7_2 < (l1.length : Int)) = true := decide_eq_true c25
                                      (try simp only [hl5_2] at c25b0)
                                      clear c25
                                      by_cases c26 : (rd l0 x6_1) = (rd l1 x7_2)
                                      · rw [if_pos c26] at H
                                        have c26b0 : ((rd l0 x6_1) == (rd l1 x7_2)) = true := beq_iff_eq.mpr c26
                                        have c26b1 : ((rd l0 x6_1) != (rd l1 x7_2)) = false := bne_eq_false_iff_eq.mpr c26
                                        clear c26
                                        by_cases c27 : x6_1 < (x5_2.length : Int)
                                        · rw [if_pos c27] at H
                                          have c27b0 : decide (x6_1 < (x5_2.length : Int)) = true := decide_eq_true c27
                                          (try simp only [hl5_2] at c27b0)
                                          clear c27
                                          obtain ⟨ji28, hji28⟩ : ∃ j_ : Int, (wrap64 (x6_1 + 1)) = j_ := ⟨_, rfl⟩
                                          replace H : (if 0 ≤ (ji28) then (if (ji28) < (x5_2.length : Int) then (if 0 ≤ (wrap64 (x7_2 + 1)) then (if (wrap64 (x7_2 + 1)) < ((rd_L2 x5_2 (ji28)).length : Int) then (if x7_2 < ((rd_L2 x5_2 x6_1).length : Int) then (tattingref7_Behind.l1 kj18 l0 l1 (x5_2.set (x6_1 : Int).toNat ((rd_L2 x5_2 x6_1).set (x7_2 : Int).toNat (wrap64 ((rd (rd_L2 x5_2 (ji28)) (wrap64 (x7_2 + 1))) + 1)))) x6_1 (wrap64 (x7_2 - 1))) else (none)) else (none)) else (none)) else (none)) else (none)) = some r := by first | (rw [hji28] at H; exact H) | (simp only [hji28] at H ⊢; exact H)
                                          have hji28w : (IntKind.i64.wrap (x6_1 + 1)) = ji28 := (i64_w _).trans hji28
                                          by_cases c29 : 0 ≤ (ji28)
                                          · rw [if_pos c29] at H
                                            have c29b0 : decide (0 ≤ (ji28)) = true := decide_eq_true c29
                                            clear c29
                                            by_cases c30 : (ji28) < (x5_2.length : Int)
                                            · rw [if_pos c30] at H
                                              have c30b0 : decide ((ji28) < (x5_2.length : Int)) = true := decide_eq_true c30
                                              (try simp only [hl5_2] at c30b0)
                                              clear c30
                                              obtain ⟨ji31, hji31⟩ : ∃ j_ : Int, (wrap64 (x7_2 + 1)) = j_ := ⟨_, rfl⟩
                                              replace H : (if 0 ≤ (ji31) then (if (ji31) < ((rd_L2 x5_2 (ji28)).length : Int) then (if x7_2 < ((rd_L2 x5_2 x6_1).length : Int) then (tattingref7_Behind.l1 kj18 l0 l1 (x5_2.set (x6_1 : Int).toNat ((rd_L2 x5_2 x6_1).set (x7_2 : Int).toNat (wrap64 ((rd (rd_L2 x5_2 (ji28)) (ji31)) + 1)))) x6_1 (wrap64 (x7_2 - 1))) else (none)) else (none)) else (none)) = some r := by first | (rw [hji31] at H; exact H) | (simp only [hji31] at H ⊢; exact H)
                                              have hji31w : (IntKind.i64.wrap (x7_2 + 1)) = ji31 := (i64_w _).trans hji31
                                              by_cases c32 : 0 ≤ (ji31)
                                              · rw [if_pos c32] at H
                                                have c32b0 : decide (0 ≤ (ji31)) = true := decide_eq_true c32
                                                clear c32
                                                by_cases c33 : (ji31) < ((rd_L2 x5_2 (ji28)).length : Int)
                                                · rw [if_pos c33] at H
                                                  have c33b0 : decide ((ji31) < ((rd_L2 x5_2 (ji28)).length : Int)) = true := decide_eq_true c33
                                                  (try simp only [hl5_2] at c33b0)
                                                  clear c33
                                                  by_cases c34 : x7_2 < ((rd_L2 x5_2 x6_1).length : Int)
                                                  · rw [if_pos c34] at H
                                                    have c34b0 : decide (x7_2 < ((rd_L2 x5_2 x6_1).length : Int)) = true := decide_eq_true c34
                                                    (try simp only [hl5_2] at c34b0)
                                                    clear c34
                                                    obtain ⟨y129, hy129⟩ : ∃ y_ : List Int, y_ = ((rd_L2 x5_2 x6_1).set (x7_2 : Int).toNat (wrap64 ((rd (rd_L2 x5_2 (ji28)) (ji31)) + 1))) := ⟨_, rfl⟩
                                                    replace H : (tattingref7_Behind.l1 kj18 l0 l1 (x5_2.set (x6_1 : Int).toNat y129) x6_1 (wrap64 (x7_2 - 1))) = some r := by first | (rw [hy129]; with_reducible exact H) | (have H2_ := (Option.bind_some _ _).symm.trans H; rw [hy129]; with_reducible exact H2_) | (have H2_ := (Option.bind_some _ _).symm.trans H; with_reducible exact H2_) | with_reducible exact H | (rw [hy129]; exact H) | exact H
                                                    have Ny129 := Aside0.mk hy129
                                                    clear hy129
                                                    obtain ⟨y131, hy131⟩ : ∃ y_ : List (List Int), y_ = (x5_2.set (x6_1 : Int).toNat y129) := ⟨_, rfl⟩
                                                    replace H : (tattingref7_Behind.l1 kj18 l0 l1 y131 x6_1 (wrap64 (x7_2 - 1))) = some r := by first | (rw [hy131]; with_reducible exact H) | (have H2_ := (Option.bind_some _ _).symm.trans H; rw [hy131]; with_reducible exact H2_) | (have H2_ := (Option.bind_some _ _).symm.trans H; with_reducible exact H2_) | with_reducible exact H | (rw [hy131]; exact H) | exact H
                                                    have Ny131 := Aside0.mk hy131
                                                    clear hy131
                                                    have H' := Aside0.mk H
                                                    clear H
                                                    try go_wp2
                                                    have n0_ := Aside0.mk (Kd.S_drew HO_5.out)
                                                    have n1_ := Aside0.mk (below_drew1 HB.out)
                                                    clear HO_5
                                                    clear HB
                                                    have HO_5 := n0_
                                                    have HB := n1_
                                                    clear n0_ n1_
                                                    have p124 : 0 ≤ (x6_1 : Int) := of_decide_eq_true (by first | (with_reducible assumption) | assumption)
                                                    have q124 : x6_1 < (l0.length : Int) := of_decide_eq_true (by first | (with_reducible assumption) | assumption)
                                                    obtain ⟨ad124, e124, hx124_0⟩ := Kd.at_int HR0.out x6_1 p124 q124
                                                    have hw124_0 := hx124_0
                                                    cases e124
                                                    replace hx124_0 := (HB.out.cell (World.block_lt_of_cell? w _ hx124_0)).trans hx124_0
                                                    replace p124 := eq_true p124
                                                    replace q124 := eq_true q124
                                                    have p125 : 0 ≤ (x7_2 : Int) := of_decide_eq_true (by first | (with_reducible assumption) | assumption)
                                                    have q125 : x7_2 < (l1.length : Int) := of_decide_eq_true (by first | (with_reducible assumption) | assumption)
                                                    obtain ⟨ad125, e125, hx125_0⟩ := Kd.at_int HR1.out x7_2 p125 q125
                                                    have hw125_0 := hx125_0
                                                    cases e125
                                                    replace hx125_0 := (HB.out.cell (World.block_lt_of_cell? w _ hx125_0)).trans hx125_0
                                                    replace p125 := eq_true p125
                                                    replace q125 := eq_true q125
                                                    refine start_ (n := 9) (S := fun w' => w'.cell? (ad124.add (x6_1).toNat) = some (.int .i64 (rd l0 x6_1)) ∧ w'.cell? (ad125.add (x7_2).toNat) = some (.int .i64 (rd l1 x7_2))) (ds := []) #[false, false, false, false, false, false, false, false, false] (by kernel_rfl) rfl rfl ⟨((HB.out.cell (World.block_lt_of_cell? w _ hw124_0)).trans hw124_0), ((HB.out.cell (World.block_lt_of_cell? w _ hw125_0)).trans hw125_0)⟩ (fun hHeld => ?_); refine with_tabW tattingref7_Behind.tab9 tattingref7_Behind.bits9 (fun HT_ HW_ => ?_)
                                                    generalize wc.drew = w36 at HO_5 HB hx124_0 hx125_0 hHeld ⊢
                                                    refine pure_ (i := 0) (N := some 38) (v := ?_) (a' := ?_) #[true, false, false, false, false, false, false, false, false] rfl rfl (any_of HT_.out (by kernel_rfl)) (fun _ _ _ h => h) (Or.inl ⟨by rfl, ?_⟩) ?_ ?_
                                                    rotate_left
                                                    · intro w'
                                                      go_simp
                                                      with_reducible rfl
                                                    rotate_left
                                                    · simp only [Act.put, List.setIfInBounds_toArray, List.set_cons_zero, List.set_cons_succ, i64_w, i32_w]
                                                      rfl
                                                    refine pure_ (i := 1) (N := some 39) (v := ?_) (a' := ?_) #[true, true, false, false, false, false, false, false, false] rfl rfl (any_of HT_.out (by kernel_rfl)) (fun _ _ _ h => h) (Or.inl ⟨by rfl, ?_⟩) ?_ ?_
                                                    rotate_left
                                                    · intro w'
                                                      go_simp
                                                      with_reducible rfl
                                                    rotate_left
                                                    · simp only [Act.put, List.setIfInBounds_toArray, List.set_cons_zero, List.set_cons_succ, i64_w, i32_w]
                                                      rfl
                                                    refine pure_ (i := 2) (N := some 40) (v := ?_) (a' := ?_) #[true, true, true, false, false, false, false, false, false] rfl rfl (any_of HT_.out (by kernel_rfl)) (fun _ _ _ h => h) (Or.inl ⟨by rfl, ?_⟩) ?_ ?_
                                                    rotate_left
                                                    · intro w'
                                                      go_simp
                                                      with_reducible rfl
                                                    rotate_left
                                                    · simp only [Act.put, List.setIfInBounds_toArray, List.set_cons_zero, List.set_cons_succ, i64_w, i32_w]
                                                      rfl
                                                    refine pure_ (i := 4) (N := some 42) (v := ?_) (a' := ?_) #[true, true, true, false, true, false, false, false, false] rfl rfl (any_of HT_.out (by kernel_rfl)) (fun _ _ _ h => h) (Or.inl ⟨by rfl, ?_⟩) ?_ ?_
                                                    rotate_left
                                                    · intro w'
                                                      go_simp
                                                      with_reducible rfl
                                                    rotate_left
                                                    · simp only [Act.put, List.setIfInBounds_toArray, List.set_cons_zero, List.set_cons_succ, i64_w, i32_w]
                                                      rfl
                                                    refine pure_ (i := 5) (N := some 43) (v := ?_) (a' := ?_) #[true, true, true, false, true, true, false, false, false] rfl rfl (any_of HT_.out (by kernel_rfl)) (fun _ _ _ h => h) (Or.inl ⟨by rfl, ?_⟩) ?_ ?_
                                                    rotate_left
                                                    · intro w'
                                                      go_simp
                                                      with_reducible rfl
                                                    rotate_left
                                                    · simp only [Act.put, List.setIfInBounds_toArray, List.set_cons_zero, List.set_cons_succ, i64_w, i32_w]
                                                      rfl
                                                    refine pure_ (i := 6) (N := some 44) (v := ?_) (a' := ?_) #[true, true, true, false, true, true, true, false, false] rfl rfl (any_of HT_.out (by kernel_rfl)) (fun _ _ _ h => h) (Or.inl ⟨by rfl, ?_⟩) ?_ ?_
                                                    rotate_left
                                                    · intro w'
                                                      go_simp
                                                      with_reducible rfl
                                                    rotate_left
                                                    · simp only [Act.put, List.setIfInBounds_toArray, List.set_cons_zero, List.set_cons_succ, i64_w, i32_w]
                                                      rfl
                                                    refine take_ (i := 3) (N := some 41) (v := ?_) (a' := ?_) #[true, true, true, true, true, true, true, false, false] rfl rfl (take_ofW HT_.out HW_.out (by kernel_rfl)) (fun _ _ _ h => h) (Or.inl ⟨by rfl, ?_⟩) hHeld ?_ ?_
                                                    rotate_left
                                                    · rintro w' ⟨s0, s1⟩
                                                      go_simp
                                                      with_reducible rfl
                                                    rotate_left
                                                    · simp only [Act.put, List.setIfInBounds_toArray, List.set_cons_zero, List.set_cons_succ, i64_w, i32_w]
                                                      rfl
                                                    refine take_ (i := 7) (N := some 45) (v := ?_) (a' := ?_) #[true, true, true, true, true, true, true, true, false] rfl rfl (take_ofW HT_.out HW_.out (by kernel_rfl)) (fun _ _ _ h => h) (Or.inl ⟨by rfl, ?_⟩) hHeld ?_ ?_
                                                    rotate_left
                                                    · rintro w' ⟨s0, s1⟩
                                                      go_simp
                                                      with_reducible rfl
                                                    rotate_left
                                                    · simp only [Act.put, List.setIfInBounds_toArray, List.set_cons_zero, List.set_cons_succ, i64_w, i32_w]
                                                      rfl
                                                    refine pure_ (i := 8) (N := some 46) (v := ?_) (a' := ?_) #[true, true, true, true, true, true, true, true, true] rfl rfl (any_of HT_.out (by kernel_rfl)) (fun _ _ _ h => h) (Or.inl ⟨by rfl, ?_⟩) ?_ ?_
                                                    rotate_left
                                                    · intro w'
                                                      go_simp
                                                      with_reducible rfl
                                                    rotate_left
                                                    · simp only [Act.put, List.setIfInBounds_toArray, List.set_cons_zero, List.set_cons_succ, i64_w, i32_w]
                                                      rfl
                                                    refine done_ (done_of HT_.out (by kernel_rfl)) ?_
                                                    try go_wp2
                                                    have n0_ := Aside0.mk (Kd.S_drew HO_5.out)
                                                    have n1_ := Aside0.mk (below_drew1 HB.out)
                                                    clear HO_5
                                                    clear HB
                                                    have HO_5 := n0_
                                                    have HB := n1_
                                                    clear n0_ n1_
                                                    have p126 : 0 ≤ (x6_1 : Int) := of_decide_eq_true (by first | (with_reducible assumption) | assumption)
                                                    have q126 : x6_1 < (x5_2.length : Int) := of_decide_eq_true (by first | (with_reducible assumption) | assumption)
                                                    obtain ⟨ad126, A126_0, c126_0, e126, hx126_0, hl126_0, hi126_0⟩ := at_L2 (Kd.S_reads' HO_5.out).2.2 x6_1 p126 q126
                                                    obtain rfl : (⟨go14, 0, none⟩ : Addr) = ad126 := (by injection e126)
                                                    obtain ⟨ce126, hce126, hMe126, hcc126⟩ := Kd.S_get HO_5.out [] x6_1 p126 (by first | exact q126 | exact of_decide_eq_true (by first | (with_reducible assumption) | assumption) | (have e_ := (Kd.S_reads' HO_5.out).1; omega))
                                                    obtain ⟨ve126_0, rfl, ge126_0⟩ := hMe126
                                                    have hv126_0 := hcc126 0 _ rfl
                                                    rw [Nat.add_zero, show ((Kd.slice 3 (Kd.int .i64))).sz = 1 from rfl, Nat.mul_one] at hv126_0
                                                    replace hv126_0 := Option.some.inj (hv126_0.symm.trans hx126_0)
                                                    rw [hv126_0] at ge126_0
                                                    have HL126_0 := Aside0.mk (show Kd.R (Kd.int .i64) 3 _ _ _ _ (rd_L2 x5_2 x6_1) from ge126_0)
                                                    clear hv126_0 ge126_0
                                                    have HX126_0 := Aside0.mk hx126_0
                                                    clear hcc126 hce126
                                                    (first | simp only [add_plain] at hx126_0 | simp only [add_at] at hx126_0 | simp only [Addr.add, Nat.zero_add] at hx126_0 | skip)
                                                    have HR126_0 := Aside0.mk hi126_0
                                                    have HC126_0 := Aside0.mk hl126_0
                                                    clear hi126_0 hl126_0
                                                    replace p126 := eq_true p126
                                                    replace q126 := eq_true q126
                                                    have p127 : 0 ≤ ((ji28) : Int) := of_decide_eq_true (by first | (with_reducible assumption) | assumption)
                                                    have q127 : (ji28) < (x5_2.length : Int) := of_decide_eq_true (by first | (with_reducible assumption) | assumption)
                                                    obtain ⟨ad127, A127_0, c127_0, e127, hx127_0, hl127_0, hi127_0⟩ := at_L2 (Kd.S_reads' HO_5.out).2.2 (ji28) p127 q127
                                                    obtain rfl : (⟨go14, 0, none⟩ : Addr) = ad127 := (by injection e127)
                                                    obtain ⟨ce127, hce127, hMe127, hcc127⟩ := Kd.S_get HO_5.out [] (ji28) p127 (by first | exact q127 | exact of_decide_eq_true (by first | (with_reducible assumption) | assumption) | (have e_ := (Kd.S_reads' HO_5.out).1; omega))
                                                    obtain ⟨ve127_0, rfl, ge127_0⟩ := hMe127
                                                    have hv127_0 := hcc127 0 _ rfl
                                                    rw [Nat.add_zero, show ((Kd.slice 3 (Kd.int .i64))).sz = 1 from rfl, Nat.mul_one] at hv127_0
                                                    replace hv127_0 := Option.some.inj (hv127_0.symm.trans hx127_0)
                                                    rw [hv127_0] at ge127_0
                                                    have HL127_0 := Aside0.mk (show Kd.R (Kd.int .i64) 3 _ _ _ _ (rd_L2 x5_2 (ji28)) from ge127_0)
                                                    clear hv127_0 ge127_0
                                                    have HX127_0 := Aside0.mk hx127_0
                                                    clear hcc127 hce127
                                                    (first | simp only [add_plain] at hx127_0 | simp only [add_at] at hx127_0 | simp only [Addr.add, Nat.zero_add] at hx127_0 | skip)
                                                    have HR127_0 := Aside0.mk hi127_0
                                                    have HC127_0 := Aside0.mk hl127_0
                                                    clear hi127_0 hl127_0
                                                    replace p127 := eq_true p127
                                                    replace q127 := eq_true q127
                                                    have p128 : 0 ≤ ((ji31) : Int) := of_decide_eq_true (by first | (with_reducible assumption) | assumption)
                                                    have q128 : (ji31) < ((rd_L2 x5_2 (ji28)).length : Int) := of_decide_eq_true (by first | (with_reducible assumption) | assumption)
                                                    obtain ⟨ad128, e128, hx128_0⟩ := Kd.at_int (by repeat (first | (with_reducible exact HR127_0.out) | (with_reducible refine Kd.C_alloc ?_ _) | (with_reducible refine Kd.C_drewN ?_ _) | (with_reducible refine Kd.C_drew ?_) | exact HR127_0.out)) (ji31) p128 q128
                                                    cases e128
                                                    replace p128 := eq_true p128
                                                    replace q128 := eq_true q128
                                                    have p35 : 0 ≤ (x7_2 : Int) := of_decide_eq_true (by first | (with_reducible assumption) | assumption)
                                                    have q35 : (x7_2 : Int) < (((rd_L2 x5_2 x6_1).length : Int) : Int) := of_decide_eq_true (by first | (with_reducible assumption) | assumption)
                                                    obtain ⟨go35, co35, eo35, gb35, gl35, cl35, HG35⟩ := Kd.R_form HL126_0.out (by omega)
                                                    (first | cases eo35 | (injection eo35 with ea_ en_ ec_; (first | subst ea_ | (injection ea_ with ea_; subst ea_)); subst ec_; clear en_))
                                                    have GB35 := Aside0.mk gb35
                                                    have GG35 := Aside0.mk HG35
                                                    clear gb35 gl35 HG35
                                                    obtain ⟨hx35_0, hf35_0⟩ := Kd.R_celln 0 HL126_0.out (x7_2 : Int) p35 q35
                                                    replace p35 := eq_true p35
                                                    replace q35 := eq_true q35
                                                    have hq38 : (x6_1 : Int) < (x5_2.length : Int) := (by have h_ : (x6_1 : Int) < ((x5_2.length : Int) : Int) := of_decide_eq_true (by first | (with_reducible assumption) | assumption); first | exact h_ | (have e_ := (Kd.S_reads' HO_5.out).1; omega) | simpa only [List.length_set, List.length_set] using h_)
                                                    obtain ⟨oki38, ce38, hcl38, hM38, hcc38, hok38, hbk38⟩ := Kd.S_borrow HO_5.out [] (x6_1 : Int) (of_decide_eq_true (by first | (with_reducible assumption) | assumption)) hq38
                                                    obtain ⟨ve38_0, rfl, ge38_0⟩ := hM38
                                                    have hv38 := hcc38 0 _ rfl
                                                    rw [Nat.add_zero, show ((Kd.slice 3 (Kd.int .i64))).sz = 1 from rfl, Nat.mul_one] at hv38
                                                    replace hv38 := Option.some.inj (hv38.symm.trans HX126_0.out)
                                                    subst hv38
                                                    clear hcc38 hcl38
                                                    replace ge38_0 := (show Kd.R (Kd.int .i64) 3 _ _ _ _ (rd_L2 x5_2 x6_1) from ge38_0)
                                                    have HP38 := Kd.R_putg ge38_0 (x7_2 : Int) (wrap64 ((rd (rd_L2 x5_2 (ji28)) (ji31)) + 1))
                                                    rw [← Ny129.out] at HP38
                                                    have HS38 := hbk38 HP38.2 (fun k_ e_ => by injection e_ with e_; subst e_; exact ge38_0.1 _ rfl) (x' := y129) (Kd.M_row HP38.1)
                                                    rw [← Ny131.out] at HS38
                                                    have HQ38 := Aside0.mk HS38
                                                    clear HP38 HS38 hbk38 hok38
                                                    refine start_ (n := 17) (S := fun w' => w'.cell? ⟨go14, (x6_1).toNat, none⟩ = some (.slice (some ⟨go35, 0, none⟩) (rd_L2 x5_2 x6_1).length c126_0) ∧ w'.cell? ⟨go14, ((ji28)).toNat, none⟩ = some (.slice (some ad128) (rd_L2 x5_2 (ji28)).length c127_0) ∧ w'.cell? (ad128.add ((ji31)).toNat) = some (.int .i64 (rd (rd_L2 x5_2 (ji28)) (ji31)))) (ds := [16]) #[false, false, false, false, false, false, false, false, false, false, false, false, false, false, false, false, false] (by kernel_rfl) rfl rfl ⟨hx126_0, hx127_0, hx128_0⟩ (fun hHeld => ?_); refine with_tabW tattingref7_Behind.tab10 tattingref7_Behind.bits10 (fun HT_ HW_ => ?_)
                                                    generalize w36.drew = w37 at HO_5 HB GG35 HL126_0 HL127_0 HQ38 HR126_0 HR127_0 HX126_0 HX127_0 hf35_0 hx126_0 hx127_0 hx128_0 hx35_0 hHeld ⊢
                                                    refine pure_ (i := 0) (N := some 47) (v := ?_) (a' := ?_) #[true, false, false, false, false, false, false, false, false, false, false, false, false, false, false, false, false] rfl rfl (any_of HT_.out (by kernel_rfl)) (fun _ _ _ h => h) (Or.inl ⟨by rfl, ?_⟩) ?_ ?_
                                                    rotate_left
                                                    · intro w'
                                                      go_simp
                                                      with_reducible rfl
                                                    rotate_left
                                                    · simp only [Act.put, List.setIfInBounds_toArray, List.set_cons_zero, List.set_cons_succ, i64_w, i32_w]
                                                      rfl
                                                    refine pure_ (i := 1) (N := some 48) (v := ?_) (a' := ?_) #[true, true, false, false, false, false, false, false, false, false, false, false, false, false, false, false, false] rfl rfl (any_of HT_.out (by kernel_rfl)) (fun _ _ _ h => h) (Or.inl ⟨by rfl, ?_⟩) ?_ ?_
                                                    rotate_left
                                                    · intro w'
                                                      go_simp
                                                      with_reducible rfl
                                                    rotate_left
                                                    · simp only [Act.put, List.setIfInBounds_toArray, List.set_cons_zero, List.set_cons_succ, i64_w, i32_w]
                                                      rfl
                                                    refine pure_ (i := 2) (N := some 49) (v := ?_) (a' := ?_) #[true, true, true, false, false, false, false, false, false, false, false, false, false, false, false, false, false] rfl rfl (any_of HT_.out (by kernel_rfl)) (fun _ _ _ h => h) (Or.inl ⟨by rfl, ?_⟩) ?_ ?_
                                                    rotate_left
                                                    · intro w'
                                                      go_simp
                                                      with_reducible rfl
                                                    rotate_left
                                                    · simp only [Act.put, List.setIfInBounds_toArray, List.set_cons_zero, List.set_cons_succ, i64_w, i32_w]
                                                      rfl
                                                    refine pure_ (i := 4) (N := some 51) (v := ?_) (a' := ?_) #[true, true, true, false, true, false, false, false, false, false, false, false, false, false, false, false, false] rfl rfl (any_of HT_.out (by kernel_rfl)) (fun _ _ _ h => h) (Or.inl ⟨by rfl, ?_⟩) ?_ ?_
                                                    rotate_left
                                                    · intro w'
                                                      go_simp
                                                      with_reducible rfl
                                                    rotate_left
                                                    · simp only [Act.put, List.setIfInBounds_toArray, List.set_cons_zero, List.set_cons_succ, i64_w, i32_w]
                                                      rfl
                                                    refine pure_ (i := 5) (N := some 52) (v := ?_) (a' := ?_) #[true, true, true, false, true, true, false, false, false, false, false, false, false, false, false, false, false] rfl rfl (any_of HT_.out (by kernel_rfl)) (fun _ _ _ h => h) (Or.inl ⟨by rfl, ?_⟩) ?_ ?_
                                                    rotate_left
                                                    · intro w'
                                                      go_simp
                                                      with_reducible rfl
                                                    rotate_left
                                                    · simp only [Act.put, List.setIfInBounds_toArray, List.set_cons_zero, List.set_cons_succ, i64_w, i32_w]
                                                      rfl
                                                    refine pure_ (i := 6) (N := some 53) (v := ?_) (a' := ?_) #[true, true, true, false, true, true, true, false, false, false, false, false, false, false, false, false, false] rfl rfl (any_of HT_.out (by kernel_rfl)) (fun _ _ _ h => h) (Or.inl ⟨by rfl, ?_⟩) ?_ ?_
                                                    rotate_left
                                                    · intro w'
                                                      go_simp
                                                      with_reducible rfl
                                                    rotate_left
                                                    · simp only [Act.put, List.setIfInBounds_toArray, List.set_cons_zero, List.set_cons_succ, i64_w, i32_w]
                                                      rfl
                                                    refine pure_ (i := 7) (N := some 54) (v := ?_) (a' := ?_) #[true, true, true, false, true, true, true, true, false, false, false, false, false, false, false, false, false] rfl rfl (any_of HT_.out (by kernel_rfl)) (fun _ _ _ h => h) (Or.inl ⟨by rfl, ?_⟩) ?_ ?_
                                                    rotate_left
                                                    · intro w'
                                                      go_simp
                                                      with_reducible rfl
                                                    rotate_left
                                                    · simp only [Act.put, List.setIfInBounds_toArray, List.set_cons_zero, List.set_cons_succ, i64_w, i32_w]
                                                      rfl
                                                    refine pure_ (i := 8) (N := some 55) (v := ?_) (a' := ?_) #[true, true, true, false, true, true, true, true, true, false, false, false, false, false, false, false, false] rfl rfl (any_of HT_.out (by kernel_rfl)) (fun _ _ _ h => h) (Or.inl ⟨by rfl, ?_⟩) ?_ ?_
                                                    rotate_left
                                                    · intro w'
                                                      go_simp
                                                      with_reducible rfl
                                                    rotate_left
                                                    · simp only [Act.put, List.setIfInBounds_toArray, List.set_cons_zero, List.set_cons_succ, i64_w, i32_w]
                                                      rfl
                                                    refine pure_ (i := 10) (N := some 57) (v := ?_) (a' := ?_) #[true, true, true, false, true, true, true, true, true, false, true, false, false, false, false, false, false] rfl rfl (any_of HT_.out (by kernel_rfl)) (fun _ _ _ h => h) (Or.inl ⟨by rfl, ?_⟩) ?_ ?_
                                                    rotate_left
                                                    · intro w'
                                                      go_simp
                                                      with_reducible rfl
                                                    rotate_left
                                                    · simp only [Act.put, List.setIfInBounds_toArray, List.set_cons_zero, List.set_cons_succ, i64_w, i32_w]
                                                      rfl
                                                    refine pure_ (i := 11) (N := some 58) (v := ?_) (a' := ?_) #[true, true, true, false, true, true, true, true, true, false, true, true, false, false, false, false, false] rfl rfl (any_of HT_.out (by kernel_rfl)) (fun _ _ _ h => h) (Or.inl ⟨by rfl, ?_⟩) ?_ ?_
                                                    rotate_left
                                                    · intro w'
                                                      go_simp
                                                      with_reducible rfl
                                                    rotate_left
                                                    · simp only [Act.put, List.setIfInBounds_toArray, List.set_cons_zero, List.set_cons_succ, i64_w, i32_w]
                                                      rfl
                                                    refine take_ (i := 3) (N := some 50) (v := ?_) (a' := ?_) #[true, true, true, true, true, true, true, true, true, false, true, true, false, false, false, false, false] rfl rfl (take_ofW HT_.out HW_.out (by kernel_rfl)) (fun _ _ _ h => h) (Or.inl ⟨by rfl, ?_⟩) hHeld ?_ ?_
                                                    rotate_left
                                                    · rintro w' ⟨s0, s1, s2⟩
                                                      go_simp
                                                      with_reducible rfl
                                                    rotate_left
                                                    · simp only [Act.put, List.setIfInBounds_toArray, List.set_cons_zero, List.set_cons_succ, i64_w, i32_w]
                                                      rfl
                                                    refine take_ (i := 9) (N := some 56) (v := ?_) (a' := ?_) #[true, true, true, true, true, true, true, true, true, true, true, true, false, false, false, false, false] rfl rfl (take_ofW HT_.out HW_.out (by kernel_rfl)) (fun _ _ _ h => h) (Or.inl ⟨by rfl, ?_⟩) hHeld ?_ ?_
                                                    rotate_left
                                                    · rintro w' ⟨s0, s1, s2⟩
                                                      go_simp
                                                      with_reducible rfl
                                                    rotate_left
                                                    · simp only [Act.put, List.setIfInBounds_toArray, List.set_cons_zero, List.set_cons_succ, i64_w, i32_w]
                                                      rfl
                                                    refine pure_ (i := 12) (N := some 59) (v := ?_) (a' := ?_) #[true, true, true, true, true, true, true, true, true, true, true, true, true, false, false, false, false] rfl rfl (any_of HT_.out (by kernel_rfl)) (fun _ _ _ h => h) (Or.inl ⟨by rfl, ?_⟩) ?_ ?_
                                                    rotate_left
                                                    · intro w'
                                                      go_simp
                                                      with_reducible rfl
                                                    rotate_left
                                                    · simp only [Act.put, List.setIfInBounds_toArray, List.set_cons_zero, List.set_cons_succ, i64_w, i32_w]
                                                      rfl
                                                    refine take_ (i := 13) (N := some 60) (v := ?_) (a' := ?_) #[true, true, true, true, true, true, true, true, true, true, true, true, true, true, false, false, false] rfl rfl (take_ofW HT_.out HW_.out (by kernel_rfl)) (fun _ _ _ h => h) (Or.inl ⟨by rfl, ?_⟩) hHeld ?_ ?_
                                                    rotate_left
                                                    · rintro w' ⟨s0, s1, s2⟩
                                                      go_simp
                                                      with_reducible rfl
                                                    rotate_left
                                                    · simp only [Act.put, List.setIfInBounds_toArray, List.set_cons_zero, List.set_cons_succ, i64_w, i32_w]
                                                      rfl
                                                    refine pure_ (i := 14) (N := some 61) (v := ?_) (a' := ?_) #[true, true, true, true, true, true, true, true, true, true, true, true, true, true, true, false, false] rfl rfl (any_of HT_.out (by kernel_rfl)) (fun _ _ _ h => h) (Or.inl ⟨by rfl, ?_⟩) ?_ ?_
                                                    rotate_left
                                                    · intro w'
                                                      go_simp
                                                      with_reducible rfl
                                                    rotate_left
                                                    · simp only [Act.put, List.setIfInBounds_toArray, List.set_cons_zero, List.set_cons_succ, i64_w, i32_w]
                                                      rfl
                                                    refine pure_ (i := 15) (N := some 62) (v := ?_) (a' := ?_) #[true, true, true, true, true, true, true, true, true, true, true, true, true, true, true, true, false] rfl rfl (any_of HT_.out (by kernel_rfl)) (fun _ _ _ h => h) (Or.inl ⟨by rfl, ?_⟩) ?_ ?_
                                                    rotate_left
                                                    · intro w'
                                                      go_simp
                                                      with_reducible rfl
                                                    rotate_left
                                                    · simp only [Act.put, List.setIfInBounds_toArray, List.set_cons_zero, List.set_cons_succ, i64_w, i32_w]
                                                      rfl
                                                    refine last_ (i := 16) (N := none) #[true, true, true, true, true, true, true, true, true, true, true, true, true, true, true, true, true] rfl rfl (one_of HT_.out (by kernel_rfl)) (by decide) (fun K hK => ?_)
                                                    refine skip_ (w1 := ?_) (by rfl) rfl ?_ ?_
                                                    rotate_left
                                                    · go_simp
                                                      rfl
                                                    refine hK.out _ _ ?_
                                                    clear hK K
                                                    refine done_ (done_of HT_.out (by kernel_rfl)) ?_
                                                    try go_wp2
                                                    (try simp only [← hl5_2])
                                                    go_roundg kj18
                                                    case measure => have := HK1.out; have := HK2.out; have := HJ18.out; omega
                                                    case rel => exact ⟨(y131), (wrap64 (x7_2 - 1)), (by first | rfl | (simp; done) | (simp [*]; done)), H', ⟨by have := HK1.out; have := HK2.out; have := HJ18.out; omega⟩, ⟨by (try simp only [hl5_2]); (with_reducible repeat (first | apply Kd.S_alloc | apply Kd.S_drewN | apply Kd.S_drew)); exact HQ38.out⟩, ⟨by repeat (first | (with_reducible first | exact HB.out | apply below_alloc | apply pw_below_drewN | apply below_drew1 | refine below_set ?_ GB35.out) | exact HB.out)⟩⟩
                                                  · rw [if_neg c34] at H
                                                    exact absurd H (by simp)
                                                · rw [if_neg c33] at H
                                                  exact absurd H (by simp)
                                              · rw [if_neg c32] at H
                                                exact absurd H (by simp)
                                            · rw [if_neg c30] at H
                                              exact absurd H (by simp)
                                          · rw [if_neg c29] at H
                                            exact absurd H (by simp)
                                        · rw [if_neg c27] at H
                                          exact absurd H (by simp)
                                      · rw [if_neg c26] at H
                                        have c26b0 : ((rd l0 x6_1) == (rd l1 x7_2)) = false := beq_eq_false_iff_ne.mpr c26
                                        have c26b1 : ((rd l0 x6_1) != (rd l1 x7_2)) = true := bne_iff_ne.mpr c26
                                        by_cases c40 : x6_1 < (x5_2.length : Int)
                                        · rw [if_pos c40] at H
                                          have c40b0 : decide (x6_1 < (x5_2.length : Int)) = true := decide_eq_true c40
                                          (try simp only [hl5_2] at c40b0)
                                          clear c40
                                          obtain ⟨ji41, hji41⟩ : ∃ j_ : Int, (wrap64 (x6_1 + 1)) = j_ := ⟨_, rfl⟩
                                          replace H : (if 0 ≤ (ji41) then (if (ji41) < (x5_2.length : Int) then (if x7_2 < ((rd_L2 x5_2 (ji41)).length : Int) then (if 0 ≤ (wrap64 (x7_2 + 1)) then (if (wrap64 (x7_2 + 1)) < ((rd_L2 x5_2 x6_1).length : Int) then (if x7_2 < ((rd_L2 x5_2 x6_1).length : Int) then (tattingref7_Behind.l1 kj18 l0 l1 (x5_2.set (x6_1 : Int).toNat ((rd_L2 x5_2 x6_1).set (x7_2 : Int).toNat (mx (rd (rd_L2 x5_2 (ji41)) x7_2) (rd (rd_L2 x5_2 x6_1) (wrap64 (x7_2 + 1)))))) x6_1 (wrap64 (x7_2 - 1))) else (none)) else (none)) else (none)) else (none)) else (none)) else (none)) = some r := by first | (rw [hji41] at H; exact H) | (simp only [hji41] at H ⊢; exact H)
                                          have hji41w : (IntKind.i64.wrap (x6_1 + 1)) = ji41 := (i64_w _).trans hji41
                                          by_cases c42 : 0 ≤ (ji41)
                                          · rw [if_pos c42] at H
                                            have c42b0 : decide (0 ≤ (ji41)) = true := decide_eq_true c42
                                            clear c42
                                            by_cases c43 : (ji41) < (x5_2.length : Int)
                                            · rw [if_pos c43] at H
                                              have c43b0 : decide ((ji41) < (x5_2.length : Int)) = true := decide_eq_true c43
                                              (try simp only [hl5_2] at c43b0)
                                              clear c43
                                              by_cases c44 : x7_2 < ((rd_L2 x5_2 (ji41)).length : Int)
                                              · rw [if_pos c44] at H
                                                have c44b0 : decide (x7_2 < ((rd_L2 x5_2 (ji41)).length : Int)) = true := decide_eq_true c44
                                                (try simp only [hl5_2] at c44b0)
                                                clear c44
                                                obtain ⟨ji45, hji45⟩ : ∃ j_ : Int, (wrap64 (x7_2 + 1)) = j_ := ⟨_, rfl⟩
                                                replace H : (if 0 ≤ (ji45) then (if (ji45) < ((rd_L2 x5_2 x6_1).length : Int) then (if x7_2 < ((rd_L2 x5_2 x6_1).length : Int) then (tattingref7_Behind.l1 kj18 l0 l1 (x5_2.set (x6_1 : Int).toNat ((rd_L2 x5_2 x6_1).set (x7_2 : Int).toNat (mx (rd (rd_L2 x5_2 (ji41)) x7_2) (rd (rd_L2 x5_2 x6_1) (ji45))))) x6_1 (wrap64 (x7_2 - 1))) else (none)) else (none)) else (none)) = some r := by first | (rw [hji45] at H; exact H) | (simp only [hji45] at H ⊢; exact H)
                                                have hji45w : (IntKind.i64.wrap (x7_2 + 1)) = ji45 := (i64_w _).trans hji45
                                                by_cases c46 : 0 ≤ (ji45)
                                                · rw [if_pos c46] at H
                                                  have c46b0 : decide (0 ≤ (ji45)) = true := decide_eq_true c46
                                                  clear c46
                                                  by_cases c47 : (ji45) < ((rd_L2 x5_2 x6_1).length : Int)
                                                  · rw [if_pos c47] at H
                                                    have c47b0 : decide ((ji45) < ((rd_L2 x5_2 x6_1).length : Int)) = true := decide_eq_true c47
                                                    (try simp only [hl5_2] at c47b0)
                                                    clear c47
                                                    obtain ⟨ji48, hji48⟩ : ∃ j_ : Int, (mx (rd (rd_L2 x5_2 (ji41)) x7_2) (rd (rd_L2 x5_2 x6_1) (ji45))) = j_ := ⟨_, rfl⟩
                                                    replace H : (if x7_2 < ((rd_L2 x5_2 x6_1).length : Int) then (tattingref7_Behind.l1 kj18 l0 l1 (x5_2.set (x6_1 : Int).toNat ((rd_L2 x5_2 x6_1).set (x7_2 : Int).toNat (ji48))) x6_1 (wrap64 (x7_2 - 1))) else (none)) = some r := by first | (rw [hji48] at H; exact H) | (simp only [hji48] at H ⊢; exact H)
                                                    have hji48_ : (if (rd (rd_L2 x5_2 (ji41)) x7_2) < (rd (rd_L2 x5_2 x6_1) (ji45)) then (rd (rd_L2 x5_2 x6_1) (ji45)) else (rd (rd_L2 x5_2 (ji41)) x7_2)) = ji48 := hji48
                                                    by_cases c49 : x7_2 < ((rd_L2 x5_2 x6_1).length : Int)
                                                    · rw [if_pos c49] at H
                                                      have c49b0 : decide (x7_2 < ((rd_L2 x5_2 x6_1).length : Int)) = true := decide_eq_true c49
                                                      (try simp only [hl5_2] at c49b0)
                                                      clear c49
                                                      obtain ⟨y137, hy137⟩ : ∃ y_ : List Int, y_ = ((rd_L2 x5_2 x6_1).set (x7_2 : Int).toNat (ji48)) := ⟨_, rfl⟩
                                                      replace H : (tattingref7_Behind.l1 kj18 l0 l1 (x5_2.set (x6_1 : Int).toNat y137) x6_1 (wrap64 (x7_2 - 1))) = some r := by first | (rw [hy137]; with_reducible exact H) | (have H2_ := (Option.bind_some _ _).symm.trans H; rw [hy137]; with_reducible exact H2_) | (have H2_ := (Option.bind_some _ _).symm.trans H; with_reducible exact H2_) | with_reducible exact H | (rw [hy137]; exact H) | exact H
                                                      have Ny137 := Aside0.mk hy137
                                                      clear hy137
                                                      obtain ⟨y139, hy139⟩ : ∃ y_ : List (List Int), y_ = (x5_2.set (x6_1 : Int).toNat y137) := ⟨_, rfl⟩
                                                      replace H : (tattingref7_Behind.l1 kj18 l0 l1 y139 x6_1 (wrap64 (x7_2 - 1))) = some r := by first | (rw [hy139]; with_reducible exact H) | (have H2_ := (Option.bind_some _ _).symm.trans H; rw [hy139]; with_reducible exact H2_) | (have H2_ := (Option.bind_some _ _).symm.trans H; with_reducible exact H2_) | with_reducible exact H | (rw [hy139]; exact H) | exact H
                                                      have Ny139 := Aside0.mk hy139
                                                      clear hy139
                                                      have H' := Aside0.mk H
                                                      clear H
                                                      try go_wp2
                                                      have n0_ := Aside0.mk (Kd.S_drew HO_5.out)
                                                      have n1_ := Aside0.mk (below_drew1 HB.out)
                                                      clear HO_5
                                                      clear HB
                                                      have HO_5 := n0_
                                                      have HB := n1_
                                                      clear n0_ n1_
                                                      have p124 : 0 ≤ (x6_1 : Int) := of_decide_eq_true (by first | (with_reducible assumption) | assumption)
                                                      have q124 : x6_1 < (l0.length : Int) := of_decide_eq_true (by first | (with_reducible assumption) | assumption)
                                                      obtain ⟨ad124, e124, hx124_0⟩ := Kd.at_int HR0.out x6_1 p124 q124
                                                      have hw124_0 := hx124_0
                                                      cases e124
                                                      replace hx124_0 := (HB.out.cell (World.block_lt_of_cell? w _ hx124_0)).trans hx124_0
                                                      replace p124 := eq_true p124
                                                      replace q124 := eq_true q124
                                                      have p125 : 0 ≤ (x7_2 : Int) := of_decide_eq_true (by first | (with_reducible assumption) | assumption)
                                                      have q125 : x7_2 < (l1.length : Int) := of_decide_eq_true (by first | (with_reducible assumption) | assumption)
                                                      obtain ⟨ad125, e125, hx125_0⟩ := Kd.at_int HR1.out x7_2 p125 q125
                                                      have hw125_0 := hx125_0
                                                      cases e125
                                                      replace hx125_0 := (HB.out.cell (World.block_lt_of_cell? w _ hx125_0)).trans hx125_0
                                                      replace p125 := eq_true p125
                                                      replace q125 := eq_true q125
                                                      refine start_ (n := 9) (S := fun w' => w'.cell? (ad124.add (x6_1).toNat) = some (.int .i64 (rd l0 x6_1)) ∧ w'.cell? (ad125.add (x7_2).toNat) = some (.int .i64 (rd l1 x7_2))) (ds := []) #[false, false, false, false, false, false, false, false, false] (by kernel_rfl) rfl rfl ⟨((HB.out.cell (World.block_lt_of_cell? w _ hw124_0)).trans hw124_0), ((HB.out.cell (World.block_lt_of_cell? w _ hw125_0)).trans hw125_0)⟩ (fun hHeld => ?_); refine with_tabW tattingref7_Behind.tab9 tattingref7_Behind.bits9 (fun HT_ HW_ => ?_)
                                                      generalize wc.drew = w51 at HO_5 HB hx124_0 hx125_0 hHeld ⊢
                                                      refine pure_ (i := 0) (N := some 38) (v := ?_) (a' := ?_) #[true, false, false, false, false, false, false, false, false] rfl rfl (any_of HT_.out (by kernel_rfl)) (fun _ _ _ h => h) (Or.inl ⟨by rfl, ?_⟩) ?_ ?_
                                                      rotate_left
                                                      · intro w'
                                                        go_simp
                                                        with_reducible rfl
                                                      rotate_left
                                                      · simp only [Act.put, List.setIfInBounds_toArray, List.set_cons_zero, List.set_cons_succ, i64_w, i32_w]
                                                        rfl
                                                      refine pure_ (i := 1) (N := some 39) (v := ?_) (a' := ?_) #[true, true, false, false, false, false, false, false, false] rfl rfl (any_of HT_.out (by kernel_rfl)) (fun _ _ _ h => h) (Or.inl ⟨by rfl, ?_⟩) ?_ ?_
                                                      rotate_left
                                                      · intro w'
                                                        go_simp
                                                        with_reducible rfl
                                                      rotate_left
                                                      · simp only [Act.put, List.setIfInBounds_toArray, List.set_cons_zero, List.set_cons_succ, i64_w, i32_w]
                                                        rfl
                                                      refine pure_ (i := 2) (N := some 40) (v := ?_) (a' := ?_) #[true, true, true, false, false, false, false, false, false] rfl rfl (any_of HT_.out (by kernel_rfl)) (fun _ _ _ h => h) (Or.inl ⟨by rfl, ?_⟩) ?_ ?_
                                                      rotate_left
                                                      · intro w'
                                                        go_simp
                                                        with_reducible rfl
                                                      rotate_left
                                                      · simp only [Act.put, List.setIfInBounds_toArray, List.set_cons_zero, List.set_cons_succ, i64_w, i32_w]
                                                        rfl
                                                      refine pure_ (i := 4) (N := some 42) (v := ?_) (a' := ?_) #[true, true, true, false, true, false, false, false, false] rfl rfl (any_of HT_.out (by kernel_rfl)) (fun _ _ _ h => h) (Or.inl ⟨by rfl, ?_⟩) ?_ ?_
                                                      rotate_left
                                                      · intro w'
                                                        go_simp
                                                        with_reducible rfl
                                                      rotate_left
                                                      · simp only [Act.put, List.setIfInBounds_toArray, List.set_cons_zero, List.set_cons_succ, i64_w, i32_w]
                                                        rfl
                                                      refine pure_ (i := 5) (N := some 43) (v := ?_) (a' := ?_) #[true, true, true, false, true, true, false, false, false] rfl rfl (any_of HT_.out (by kernel_rfl)) (fun _ _ _ h => h) (Or.inl ⟨by rfl, ?_⟩) ?_ ?_
                                                      rotate_left
                                                      · intro w'
                                                        go_simp
                                                        with_reducible rfl
                                                      rotate_left
                                                      · simp only [Act.put, List.setIfInBounds_toArray, List.set_cons_zero, List.set_cons_succ, i64_w, i32_w]
                                                        rfl
                                                      refine pure_ (i := 6) (N := some 44) (v := ?_) (a' := ?_) #[true, true, true, false, true, true, true, false, false] rfl rfl (any_of HT_.out (by kernel_rfl)) (fun _ _ _ h => h) (Or.inl ⟨by rfl, ?_⟩) ?_ ?_
                                                      rotate_left
                                                      · intro w'
                                                        go_simp
                                                        with_reducible rfl
                                                      rotate_left
                                                      · simp only [Act.put, List.setIfInBounds_toArray, List.set_cons_zero, List.set_cons_succ, i64_w, i32_w]
                                                        rfl
                                                      refine take_ (i := 3) (N := some 41) (v := ?_) (a' := ?_) #[true, true, true, true, true, true, true, false, false] rfl rfl (take_ofW HT_.out HW_.out (by kernel_rfl)) (fun _ _ _ h => h) (Or.inl ⟨by rfl, ?_⟩) hHeld ?_ ?_
                                                      rotate_left
                                                      · rintro w' ⟨s0, s1⟩
                                                        go_simp
                                                        with_reducible rfl
                                                      rotate_left
                                                      · simp only [Act.put, List.setIfInBounds_toArray, List.set_cons_zero, List.set_cons_succ, i64_w, i32_w]
                                                        rfl
                                                      refine take_ (i := 7) (N := some 45) (v := ?_) (a' := ?_) #[true, true, true, true, true, true, true, true, false] rfl rfl (take_ofW HT_.out HW_.out (by kernel_rfl)) (fun _ _ _ h => h) (Or.inl ⟨by rfl, ?_⟩) hHeld ?_ ?_
                                                      rotate_left
                                                      · rintro w' ⟨s0, s1⟩
                                                        go_simp
                                                        with_reducible rfl
                                                      rotate_left
                                                      · simp only [Act.put, List.setIfInBounds_toArray, List.set_cons_zero, List.set_cons_succ, i64_w, i32_w]
                                                        rfl
                                                      refine pure_ (i := 8) (N := some 46) (v := ?_) (a' := ?_) #[true, true, true, true, true, true, true, true, true] rfl rfl (any_of HT_.out (by kernel_rfl)) (fun _ _ _ h => h) (Or.inl ⟨by rfl, ?_⟩) ?_ ?_
                                                      rotate_left
                                                      · intro w'
                                                        go_simp
                                                        with_reducible rfl
                                                      rotate_left
                                                      · simp only [Act.put, List.setIfInBounds_toArray, List.set_cons_zero, List.set_cons_succ, i64_w, i32_w]
                                                        rfl
                                                      refine done_ (done_of HT_.out (by kernel_rfl)) ?_
                                                      try go_wp2
                                                      have n0_ := Aside0.mk (Kd.S_drew HO_5.out)
                                                      have n1_ := Aside0.mk (below_drew1 HB.out)
                                                      clear HO_5
                                                      clear HB
                                                      have HO_5 := n0_
                                                      have HB := n1_
                                                      clear n0_ n1_
                                                      have p132 : 0 ≤ (x6_1 : Int) := of_decide_eq_true (by first | (with_reducible assumption) | assumption)
                                                      have q132 : x6_1 < (x5_2.length : Int) := of_decide_eq_true (by first | (with_reducible assumption) | assumption)
                                                      obtain ⟨ad132, A132_0, c132_0, e132, hx132_0, hl132_0, hi132_0⟩ := at_L2 (Kd.S_reads' HO_5.out).2.2 x6_1 p132 q132
                                                      obtain rfl : (⟨go14, 0, none⟩ : Addr) = ad132 := (by injection e132)
                                                      obtain ⟨ce132, hce132, hMe132, hcc132⟩ := Kd.S_get HO_5.out [] x6_1 p132 (by first | exact q132 | exact of_decide_eq_true (by first | (with_reducible assumption) | assumption) | (have e_ := (Kd.S_reads' HO_5.out).1; omega))
                                                      obtain ⟨ve132_0, rfl, ge132_0⟩ := hMe132
                                                      have hv132_0 := hcc132 0 _ rfl
                                                      rw [Nat.add_zero, show ((Kd.slice 3 (Kd.int .i64))).sz = 1 from rfl, Nat.mul_one] at hv132_0
                                                      replace hv132_0 := Option.some.inj (hv132_0.symm.trans hx132_0)
                                                      rw [hv132_0] at ge132_0
                                                      have HL132_0 := Aside0.mk (show Kd.R (Kd.int .i64) 3 _ _ _ _ (rd_L2 x5_2 x6_1) from ge132_0)
                                                      clear hv132_0 ge132_0
                                                      have HX132_0 := Aside0.mk hx132_0
                                                      clear hcc132 hce132
                                                      (first | simp only [add_plain] at hx132_0 | simp only [add_at] at hx132_0 | simp only [Addr.add, Nat.zero_add] at hx132_0 | skip)
                                                      have HR132_0 := Aside0.mk hi132_0
                                                      have HC132_0 := Aside0.mk hl132_0
                                                      clear hi132_0 hl132_0
                                                      replace p132 := eq_true p132
                                                      replace q132 := eq_true q132
                                                      have p133 : 0 ≤ ((ji41) : Int) := of_decide_eq_true (by first | (with_reducible assumption) | assumption)
                                                      have q133 : (ji41) < (x5_2.length : Int) := of_decide_eq_true (by first | (with_reducible assumption) | assumption)
                                                      obtain ⟨ad133, A133_0, c133_0, e133, hx133_0, hl133_0, hi133_0⟩ := at_L2 (Kd.S_reads' HO_5.out).2.2 (ji41) p133 q133
                                                      obtain rfl : (⟨go14, 0, none⟩ : Addr) = ad133 := (by injection e133)
                                                      obtain ⟨ce133, hce133, hMe133, hcc133⟩ := Kd.S_get HO_5.out [] (ji41) p133 (by first | exact q133 | exact of_decide_eq_true (by first | (with_reducible assumption) | assumption) | (have e_ := (Kd.S_reads' HO_5.out).1; omega))
                                                      obtain ⟨ve133_0, rfl, ge133_0⟩ := hMe133
                                                      have hv133_0 := hcc133 0 _ rfl
                                                      rw [Nat.add_zero, show ((Kd.slice 3 (Kd.int .i64))).sz = 1 from rfl, Nat.mul_one] at hv133_0
                                                      replace hv133_0 := Option.some.inj (hv133_0.symm.trans hx133_0)
                                                      rw [hv133_0] at ge133_0
                                                      have HL133_0 := Aside0.mk (show Kd.R (Kd.int .i64) 3 _ _ _ _ (rd_L2 x5_2 (ji41)) from ge133_0)
                                                      clear hv133_0 ge133_0
                                                      have HX133_0 := Aside0.mk hx133_0
                                                      clear hcc133 hce133
                                                      (first | simp only [add_plain] at hx133_0 | simp only [add_at] at hx133_0 | simp only [Addr.add, Nat.zero_add] at hx133_0 | skip)
                                                      have HR133_0 := Aside0.mk hi133_0
                                                      have HC133_0 := Aside0.mk hl133_0
                                                      clear hi133_0 hl133_0
                                                      replace p133 := eq_true p133
                                                      replace q133 := eq_true q133
                                                      have p134 : 0 ≤ (x7_2 : Int) := of_decide_eq_true (by first | (with_reducible assumption) | assumption)
                                                      have q134 : x7_2 < ((rd_L2 x5_2 (ji41)).length : Int) := of_decide_eq_true (by first | (with_reducible assumption) | assumption)
                                                      obtain ⟨ad134, e134, hx134_0⟩ := Kd.at_int (by repeat (first | (with_reducible exact HR133_0.out) | (with_reducible refine Kd.C_alloc ?_ _) | (with_reducible refine Kd.C_drewN ?_ _) | (with_reducible refine Kd.C_drew ?_) | exact HR133_0.out)) x7_2 p134 q134
                                                      cases e134
                                                      replace p134 := eq_true p134
                                                      replace q134 := eq_true q134
                                                      have p135 : 0 ≤ (x6_1 : Int) := of_decide_eq_true (by first | (with_reducible assumption) | assumption)
                                                      have q135 : x6_1 < (x5_2.length : Int) := of_decide_eq_true (by first | (with_reducible assumption) | assumption)
                                                      obtain ⟨ad135, A135_0, c135_0, e135, hx135_0, hl135_0, hi135_0⟩ := at_L2 (Kd.S_reads' HO_5.out).2.2 x6_1 p135 q135
                                                      obtain rfl : (⟨go14, 0, none⟩ : Addr) = ad135 := (by injection e135)
                                                      obtain ⟨ce135, hce135, hMe135, hcc135⟩ := Kd.S_get HO_5.out [] x6_1 p135 (by first | exact q135 | exact of_decide_eq_true (by first | (with_reducible assumption) | assumption) | (have e_ := (Kd.S_reads' HO_5.out).1; omega))
                                                      obtain ⟨ve135_0, rfl, ge135_0⟩ := hMe135
                                                      have hv135_0 := hcc135 0 _ rfl
                                                      rw [Nat.add_zero, show ((Kd.slice 3 (Kd.int .i64))).sz = 1 from rfl, Nat.mul_one] at hv135_0
                                                      replace hv135_0 := Option.some.inj (hv135_0.symm.trans hx135_0)
                                                      rw [hv135_0] at ge135_0
                                                      have HL135_0 := Aside0.mk (show Kd.R (Kd.int .i64) 3 _ _ _ _ (rd_L2 x5_2 x6_1) from ge135_0)
                                                      clear hv135_0 ge135_0
                                                      have HX135_0 := Aside0.mk hx135_0
                                                      clear hcc135 hce135
                                                      (first | simp only [add_plain] at hx135_0 | simp only [add_at] at hx135_0 | simp only [Addr.add, Nat.zero_add] at hx135_0 | skip)
                                                      have HR135_0 := Aside0.mk hi135_0
                                                      have HC135_0 := Aside0.mk hl135_0
                                                      clear hi135_0 hl135_0
                                                      replace p135 := eq_true p135
                                                      replace q135 := eq_true q135
                                                      have ea_ := Option.some.inj (hx132_0.symm.trans hx135_0)
                                                      injection ea_ with ea_ en_ ec_
                                                      subst ea_
                                                      subst ec_
                                                      clear en_
                                                      have p136 : 0 ≤ ((ji45) : Int) := of_decide_eq_true (by first | (with_reducible assumption) | assumption)
                                                      have q136 : (ji45) < ((rd_L2 x5_2 x6_1).length : Int) := of_decide_eq_true (by first | (with_reducible assumption) | assumption)
                                                      obtain ⟨ad136, e136, hx136_0⟩ := Kd.at_int (by repeat (first | (with_reducible exact HR135_0.out) | (with_reducible refine Kd.C_alloc ?_ _) | (with_reducible refine Kd.C_drewN ?_ _) | (with_reducible refine Kd.C_drew ?_) | exact HR135_0.out)) (ji45) p136 q136
                                                      cases e136
                                                      replace p136 := eq_true p136
                                                      replace q136 := eq_true q136
                                                      have p50 : 0 ≤ (x7_2 : Int) := of_decide_eq_true (by first | (with_reducible assumption) | assumption)
                                                      have q50 : (x7_2 : Int) < (((rd_L2 x5_2 x6_1).length : Int) : Int) := of_decide_eq_true (by first | (with_reducible assumption) | assumption)
                                                      obtain ⟨go50, co50, eo50, gb50, gl50, cl50, HG50⟩ := Kd.R_form HL132_0.out (by omega)
                                                      (first | cases eo50 | (injection eo50 with ea_ en_ ec_; (first | subst ea_ | (injection ea_ with ea_; subst ea_)); subst ec_; clear en_))
                                                      have GB50 := Aside0.mk gb50
                                                      have GG50 := Aside0.mk HG50
                                                      clear gb50 gl50 HG50
                                                      (first | simp only [add_plain] at hx136_0 | skip)
                                                      obtain ⟨hx50_0, hf50_0⟩ := Kd.R_celln 0 HL132_0.out (x7_2 : Int) p50 q50
                                                      replace p50 := eq_true p50
                                                      replace q50 := eq_true q50
                                                      have hq53 : (x6_1 : Int) < (x5_2.length : Int) := (by have h_ : (x6_1 : Int) < ((x5_2.length : Int) : Int) := of_decide_eq_true (by first | (with_reducible assumption) | assumption); first | exact h_ | (have e_ := (Kd.S_reads' HO_5.out).1; omega) | simpa only [List.length_set, List.length_set] using h_)
                                                      obtain ⟨oki53, ce53, hcl53, hM53, hcc53, hok53, hbk53⟩ := Kd.S_borrow HO_5.out [] (x6_1 : Int) (of_decide_eq_true (by first | (with_reducible assumption) | assumption)) hq53
                                                      obtain ⟨ve53_0, rfl, ge53_0⟩ := hM53
                                                      have hv53 := hcc53 0 _ rfl
                                                      rw [Nat.add_zero, show ((Kd.slice 3 (Kd.int .i64))).sz = 1 from rfl, Nat.mul_one] at hv53
                                                      replace hv53 := Option.some.inj (hv53.symm.trans HX132_0.out)
                                                      subst hv53
                                                      clear hcc53 hcl53
                                                      replace ge53_0 := (show Kd.R (Kd.int .i64) 3 _ _ _ _ (rd_L2 x5_2 x6_1) from ge53_0)
                                                      have HP53 := Kd.R_putg ge53_0 (x7_2 : Int) ji48
                                                      rw [← Ny137.out] at HP53
                                                      have HS53 := hbk53 HP53.2 (fun k_ e_ => by injection e_ with e_; subst e_; exact ge53_0.1 _ rfl) (x' := y137) (Kd.M_row HP53.1)
                                                      rw [← Ny139.out] at HS53
                                                      have HQ53 := Aside0.mk HS53
                                                      clear HP53 HS53 hbk53 hok53
                                                      refine start_ (n := 24) (S := fun w' => w'.cell? ⟨go14, (x6_1).toNat, none⟩ = some (.slice (some ⟨go50, 0, none⟩) (rd_L2 x5_2 x6_1).length c132_0) ∧ w'.cell? ⟨go14, ((ji41)).toNat, none⟩ = some (.slice (some ad134) (rd_L2 x5_2 (ji41)).length c133_0) ∧ w'.cell? (ad134.add (x7_2).toNat) = some (.int .i64 (rd (rd_L2 x5_2 (ji41)) x7_2)) ∧ w'.cell? ⟨go14, (x6_1).toNat, none⟩ = some (.slice (some ⟨go50, 0, none⟩) (rd_L2 x5_2 x6_1).length c132_0) ∧ w'.cell? ⟨go50, ((ji45)).toNat, none⟩ = some (.int .i64 (rd (rd_L2 x5_2 x6_1) (ji45)))) (ds := [23]) #[false, false, false, false, false, false, false, false, false, false, false, false, false, false, false, false, false, false, false, false, false, false, false, false] (by kernel_rfl) rfl rfl ⟨hx132_0, hx133_0, hx134_0, hx135_0, hx136_0⟩ (fun hHeld => ?_); refine with_tabW tattingref7_Behind.tab11 tattingref7_Behind.bits11 (fun HT_ HW_ => ?_)
                                                      generalize w51.drew = w52 at HO_5 HB GG50 HL132_0 HL133_0 HL135_0 HQ53 HR132_0 HR133_0 HR135_0 HX132_0 HX133_0 HX135_0 hf50_0 hx132_0 hx133_0 hx134_0 hx135_0 hx136_0 hx50_0 hHeld ⊢
                                                      refine pure_ (i := 0) (N := some 63) (v := ?_) (a' := ?_) #[true, false, false, false, false, false, false, false, false, false, false, false, false, false, false, false, false, false, false, false, false, false, false, false] rfl rfl (any_of HT_.out (by kernel_rfl)) (fun _ _ _ h => h) (Or.inl ⟨by rfl, ?_⟩) ?_ ?_
                                                      rotate_left
                                                      · intro w'
                                                        go_simp
                                                        with_reducible rfl
                                                      rotate_left
                                                      · simp only [Act.put, List.setIfInBounds_toArray, List.set_cons_zero, List.set_cons_succ, i64_w, i32_w]
                                                        rfl
                                                      refine pure_ (i := 1) (N := some 64) (v := ?_) (a' := ?_) #[true, true, false, false, false, false, false, false, false, false, false, false, false, false, false, false, false, false, false, false, false, false, false, false] rfl rfl (any_of HT_.out (by kernel_rfl)) (fun _ _ _ h => h) (Or.inl ⟨by rfl, ?_⟩) ?_ ?_
                                                      rotate_left
                                                      · intro w'
                                                        go_simp
                                                        with_reducible rfl
                                                      rotate_left
                                                      · simp only [Act.put, List.setIfInBounds_toArray, List.set_cons_zero, List.set_cons_succ, i64_w, i32_w]
                                                        rfl
                                                      refine pure_ (i := 2) (N := some 65) (v := ?_) (a' := ?_) #[true, true, true, false, false, false, false, false, false, false, false, false, false, false, false, false, false, false, false, false, false, false, false, false] rfl rfl (any_of HT_.out (by kernel_rfl)) (fun _ _ _ h => h) (Or.inl ⟨by rfl, ?_⟩) ?_ ?_
                                                      rotate_left
                                                      · intro w'
                                                        go_simp
                                                        with_reducible rfl
                                                      rotate_left
                                                      · simp only [Act.put, List.setIfInBounds_toArray, List.set_cons_zero, List.set_cons_succ, i64_w, i32_w]
                                                        rfl
                                                      refine pure_ (i := 4) (N := some 67) (v := ?_) (a' := ?_) #[true, true, true, false, true, false, false, false, false, false, false, false, false, false, false, false, false, false, false, false, false, false, false, false] rfl rfl (any_of HT_.out (by kernel_rfl)) (fun _ _ _ h => h) (Or.inl ⟨by rfl, ?_⟩) ?_ ?_
                                                      rotate_left
                                                      · intro w'
                                                        go_simp
                                                        with_reducible rfl
                                                      rotate_left
                                                      · simp only [Act.put, List.setIfInBounds_toArray, List.set_cons_zero, List.set_cons_succ, i64_w, i32_w]
                                                        rfl
                                                      refine pure_ (i := 5) (N := some 68) (v := ?_) (a' := ?_) #[true, true, true, false, true, true, false, false, false, false, false, false, false, false, false, false, false, false, false, false, false, false, false, false] rfl rfl (any_of HT_.out (by kernel_rfl)) (fun _ _ _ h => h) (Or.inl ⟨by rfl, ?_⟩) ?_ ?_
                                                      rotate_left
                                                      · intro w'
                                                        go_simp
                                                        with_reducible rfl
                                                      rotate_left
                                                      · simp only [Act.put, List.setIfInBounds_toArray, List.set_cons_zero, List.set_cons_succ, i64_w, i32_w]
                                                        rfl
                                                      refine pure_ (i := 6) (N := some 69) (v := ?_) (a' := ?_) #[true, true, true, false, true, true, true, false, false, false, false, false, false, false, false, false, false, false, false, false, false, false, false, false] rfl rfl (any_of HT_.out (by kernel_rfl)) (fun _ _ _ h => h) (Or.inl ⟨by rfl, ?_⟩) ?_ ?_
                                                      rotate_left
                                                      · intro w'
                                                        go_simp
                                                        with_reducible rfl
                                                      rotate_left
                                                      · simp only [Act.put, List.setIfInBounds_toArray, List.set_cons_zero, List.set_cons_succ, i64_w, i32_w]
                                                        rfl
                                                      refine pure_ (i := 7) (N := some 70) (v := ?_) (a' := ?_) #[true, true, true, false, true, true, true, true, false, false, false, false, false, false, false, false, false, false, false, false, false, false, false, false] rfl rfl (any_of HT_.out (by kernel_rfl)) (fun _ _ _ h => h) (Or.inl ⟨by rfl, ?_⟩) ?_ ?_
                                                      rotate_left
                                                      · intro w'
                                                        go_simp
                                                        with_reducible rfl
                                                      rotate_left
                                                      · simp only [Act.put, List.setIfInBounds_toArray, List.set_cons_zero, List.set_cons_succ, i64_w, i32_w]
                                                        rfl
                                                      refine pure_ (i := 8) (N := some 71) (v := ?_) (a' := ?_) #[true, true, true, false, true, true, true, true, true, false, false, false, false, false, false, false, false, false, false, false, false, false, false, false] rfl rfl (any_of HT_.out (by kernel_rfl)) (fun _ _ _ h => h) (Or.inl ⟨by rfl, ?_⟩) ?_ ?_
                                                      rotate_left
                                                      · intro w'
                                                        go_simp
                                                        with_reducible rfl
                                                      rotate_left
                                                      · simp only [Act.put, List.setIfInBounds_toArray, List.set_cons_zero, List.set_cons_succ, i64_w, i32_w]
                                                        rfl
                                                      refine pure_ (i := 10) (N := some 73) (v := ?_) (a' := ?_) #[true, true, true, false, true, true, true, true, true, false, true, false, false, false, false, false, false, false, false, false, false, false, false, false] rfl rfl (any_of HT_.out (by kernel_rfl)) (fun _ _ _ h => h) (Or.inl ⟨by rfl, ?_⟩) ?_ ?_
                                                      rotate_left
                                                      · intro w'
                                                        go_simp
                                                        with_reducible rfl
                                                      rotate_left
                                                      · simp only [Act.put, List.setIfInBounds_toArray, List.set_cons_zero, List.set_cons_succ, i64_w, i32_w]
                                                        rfl
                                                      refine pure_ (i := 13) (N := some 76) (v := ?_) (a' := ?_) #[true, true, true, false, true, true, true, true, true, false, true, false, false, true, false, false, false, false, false, false, false, false, false, false] rfl rfl (any_of HT_.out (by kernel_rfl)) (fun _ _ _ h => h) (Or.inl ⟨by rfl, ?_⟩) ?_ ?_
                                                      rotate_left
                                                      · intro w'
                                                        go_simp
                                                        with_reducible rfl
                                                      rotate_left
                                                      · simp only [Act.put, List.setIfInBounds_toArray, List.set_cons_zero, List.set_cons_succ, i64_w, i32_w]
                                                        rfl
                                                      refine pure_ (i := 14) (N := some 77) (v := ?_) (a' := ?_) #[true, true, true, false, true, true, true, true, true, false, true, false, false, true, true, false, false, false, false, false, false, false, false, false] rfl rfl (any_of HT_.out (by kernel_rfl)) (fun _ _ _ h => h) (Or.inl ⟨by rfl, ?_⟩) ?_ ?_
                                                      rotate_left
                                                      · intro w'
                                                        go_simp
                                                        with_reducible rfl
                                                      rotate_left
                                                      · simp only [Act.put, List.setIfInBounds_toArray, List.set_cons_zero, List.set_cons_succ, i64_w, i32_w]
                                                        rfl
                                                      refine pure_ (i := 15) (N := some 78) (v := ?_) (a' := ?_) #[true, true, true, false, true, true, true, true, true, false, true, false, false, true, true, true, false, false, false, false, false, false, false, false] rfl rfl (any_of HT_.out (by kernel_rfl)) (fun _ _ _ h => h) (Or.inl ⟨by rfl, ?_⟩) ?_ ?_
                                                      rotate_left
                                                      · intro w'
                                                        go_simp
                                                        with_reducible rfl
                                                      rotate_left
                                                      · simp only [Act.put, List.setIfInBounds_toArray, List.set_cons_zero, List.set_cons_succ, i64_w, i32_w]
                                                        rfl
                                                      refine pure_ (i := 17) (N := some 80) (v := ?_) (a' := ?_) #[true, true, true, false, true, true, true, true, true, false, true, false, false, true, true, true, false, true, false, false, false, false, false, false] rfl rfl (any_of HT_.out (by kernel_rfl)) (fun _ _ _ h => h) (Or.inl ⟨by rfl, ?_⟩) ?_ ?_
                                                      rotate_left
                                                      · intro w'
                                                        go_simp
                                                        with_reducible rfl
                                                      rotate_left
                                                      · simp only [Act.put, List.setIfInBounds_toArray, List.set_cons_zero, List.set_cons_succ, i64_w, i32_w]
                                                        rfl
                                                      refine pure_ (i := 18) (N := some 81) (v := ?_) (a' := ?_) #[true, true, true, false, true, true, true, true, true, false, true, false, false, true, true, true, false, true, true, false, false, false, false, false] rfl rfl (any_of HT_.out (by kernel_rfl)) (fun _ _ _ h => h) (Or.inl ⟨by rfl, ?_⟩) ?_ ?_
                                                      rotate_left
                                                      · intro w'
                                                        go_simp
                                                        with_reducible rfl
                                                      rotate_left
                                                      · simp only [Act.put, List.setIfInBounds_toArray, List.set_cons_zero, List.set_cons_succ, i64_w, i32_w]
                                                        rfl
                                                      refine take_ (i := 3) (N := some 66) (v := ?_) (a' := ?_) #[true, true, true, true, true, true, true, true, true, false, true, false, false, true, true, true, false, true, true, false, false, false, false, false] rfl rfl (take_ofW HT_.out HW_.out (by kernel_rfl)) (fun _ _ _ h => h) (Or.inl ⟨by rfl, ?_⟩) hHeld ?_ ?_
                                                      rotate_left
                                                      · rintro w' ⟨s0, s1, s2, s3, s4⟩
                                                        go_simp
                                                        with_reducible rfl
                                                      rotate_left
                                                      · simp only [Act.put, List.setIfInBounds_toArray, List.set_cons_zero, List.set_cons_succ, i64_w, i32_w]
                                                        rfl
                                                      refine take_ (i := 9) (N := some 72) (v := ?_) (a' := ?_) #[true, true, true, true, true, true, true, true, true, true, true, false, false, true, true, true, false, true, true, false, false, false, false, false] rfl rfl (take_ofW HT_.out HW_.out (by kernel_rfl)) (fun _ _ _ h => h) (Or.inl ⟨by rfl, ?_⟩) hHeld ?_ ?_
                                                      rotate_left
                                                      · rintro w' ⟨s0, s1, s2, s3, s4⟩
                                                        go_simp
                                                        with_reducible rfl
                                                      rotate_left
                                                      · simp only [Act.put, List.setIfInBounds_toArray, List.set_cons_zero, List.set_cons_succ, i64_w, i32_w]
                                                        rfl
                                                      refine pure_ (i := 11) (N := some 74) (v := ?_) (a' := ?_) #[true, true, true, true, true, true, true, true, true, true, true, true, false, true, true, true, false, true, true, false, false, false, false, false] rfl rfl (any_of HT_.out (by kernel_rfl)) (fun _ _ _ h => h) (Or.inl ⟨by rfl, ?_⟩) ?_ ?_
                                                      rotate_left
                                                      · intro w'
                                                        go_simp
                                                        with_reducible rfl
                                                      rotate_left
                                                      · simp only [Act.put, List.setIfInBounds_toArray, List.set_cons_zero, List.set_cons_succ, i64_w, i32_w]
                                                        rfl
                                                      refine take_ (i := 12) (N := some 75) (v := ?_) (a' := ?_) #[true, true, true, true, true, true, true, true, true, true, true, true, true, true, true, true, false, true, true, false, false, false, false, false] rfl rfl (take_ofW HT_.out HW_.out (by kernel_rfl)) (fun _ _ _ h => h) (Or.inl ⟨by rfl, ?_⟩) hHeld ?_ ?_
                                                      rotate_left
                                                      · rintro w' ⟨s0, s1, s2, s3, s4⟩
                                                        go_simp
                                                        with_reducible rfl
                                                      rotate_left
                                                      · simp only [Act.put, List.setIfInBounds_toArray, List.set_cons_zero, List.set_cons_succ, i64_w, i32_w]
                                                        rfl
                                                      refine take_ (i := 16) (N := some 79) (v := ?_) (a' := ?_) #[true, true, true, true, true, true, true, true, true, true, true, true, true, true, true, true, true, true, true, false, false, false, false, false] rfl rfl (take_ofW HT_.out HW_.out (by kernel_rfl)) (fun _ _ _ h => h) (Or.inl ⟨by rfl, ?_⟩) hHeld ?_ ?_
                                                      rotate_left
                                                      · rintro w' ⟨s0, s1, s2, s3, s4⟩
                                                        go_simp
                                                        with_reducible rfl
                                                      rotate_left
                                                      · simp only [Act.put, List.setIfInBounds_toArray, List.set_cons_zero, List.set_cons_succ, i64_w, i32_w]
                                                        rfl
                                                      refine pure_ (i := 19) (N := some 82) (v := ?_) (a' := ?_) #[true, true, true, true, true, true, true, true, true, true, true, true, true, true, true, true, true, true, true, true, false, false, false, false] rfl rfl (any_of HT_.out (by kernel_rfl)) (fun _ _ _ h => h) (Or.inl ⟨by rfl, ?_⟩) ?_ ?_
                                                      rotate_left
                                                      · intro w'
                                                        go_simp
                                                        with_reducible rfl
                                                      rotate_left
                                                      · simp only [Act.put, List.setIfInBounds_toArray, List.set_cons_zero, List.set_cons_succ, i64_w, i32_w]
                                                        rfl
                                                      refine take_ (i := 20) (N := some 83) (v := ?_) (a' := ?_) #[true, true, true, true, true, true, true, true, true, true, true, true, true, true, true, true, true, true, true, true, true, false, false, false] rfl rfl (take_ofW HT_.out HW_.out (by kernel_rfl)) (fun _ _ _ h => h) (Or.inl ⟨by rfl, ?_⟩) hHeld ?_ ?_
                                                      rotate_left
                                                      · rintro w' ⟨s0, s1, s2, s3, s4⟩
                                                        go_simp
                                                        with_reducible rfl
                                                      rotate_left
                                                      · simp only [Act.put, List.setIfInBounds_toArray, List.set_cons_zero, List.set_cons_succ, i64_w, i32_w]
                                                        rfl
                                                      refine pure_ (i := 21) (N := some 84) (v := ?_) (a' := ?_) #[true, true, true, true, true, true, true, true, true, true, true, true, true, true, true, true, true, true, true, true, true, true, false, false] rfl rfl (any_of HT_.out (by kernel_rfl)) (fun _ _ _ h => h) (Or.inl ⟨by rfl, ?_⟩) ?_ ?_
                                                      rotate_left
                                                      · intro w'
                                                        go_simp
                                                        with_reducible rfl
                                                      rotate_left
                                                      · simp only [Act.put, List.setIfInBounds_toArray, List.set_cons_zero, List.set_cons_succ, i64_w, i32_w]
                                                        rfl
                                                      refine pure_ (i := 22) (N := some 85) (v := ?_) (a' := ?_) #[true, true, true, true, true, true, true, true, true, true, true, true, true, true, true, true, true, true, true, true, true, true, true, false] rfl rfl (any_of HT_.out (by kernel_rfl)) (fun _ _ _ h => h) (Or.inl ⟨by rfl, ?_⟩) ?_ ?_
                                                      rotate_left
                                                      · intro w'
                                                        go_simp
                                                        with_reducible rfl
                                                      rotate_left
                                                      · simp only [Act.put, List.setIfInBounds_toArray, List.set_cons_zero, List.set_cons_succ, i64_w, i32_w]
                                                        rfl
                                                      refine last_ (i := 23) (N := none) #[true, true, true, true, true, true, true, true, true, true, true, true, true, true, true, true, true, true, true, true, true, true, true, true] rfl rfl (one_of HT_.out (by kernel_rfl)) (by decide) (fun K hK => ?_)
                                                      refine skip_ (w1 := ?_) (by rfl) rfl ?_ ?_
                                                      rotate_left
                                                      · go_simp
                                                        rfl
                                                      refine hK.out _ _ ?_
                                                      clear hK K
                                                      refine done_ (done_of HT_.out (by kernel_rfl)) ?_
                                                      try go_wp2
                                                      (try simp only [← hl5_2])
                                                      go_roundg kj18
                                                      case measure => have := HK1.out; have := HK2.out; have := HJ18.out; omega
                                                      case rel => exact ⟨(y139), (wrap64 (x7_2 - 1)), (by first | rfl | (simp; done) | (simp [*]; done)), H', ⟨by have := HK1.out; have := HK2.out; have := HJ18.out; omega⟩, ⟨by (try simp only [hl5_2]); (with_reducible repeat (first | apply Kd.S_alloc | apply Kd.S_drewN | apply Kd.S_drew)); exact HQ53.out⟩, ⟨by repeat (first | (with_reducible first | exact HB.out | apply below_alloc | apply pw_below_drewN | apply below_drew1 | refine below_set ?_ GB50.out) | exact HB.out)⟩⟩
                                                    · rw [if_neg c49] at H
                                                      exact absurd H (by simp)
                                                  · rw [if_neg c47] at H
                                                    exact absurd H (by simp)
                                                · rw [if_neg c46] at H
                                                  exact absurd H (by simp)
                                              · rw [if_neg c44] at H
                                                exact absurd H (by simp)
                                            · rw [if_neg c43] at H
                                              exact absurd H (by simp)
                                          · rw [if_neg c42] at H
                                            exact absurd H (by simp)
                                        · rw [if_neg c40] at H
                                          exact absurd H (by simp)
                                    · rw [if_neg c25] at H
                                      exact absurd H (by simp)
                                  · rw [if_neg c24] at H
                                    exact absurd H (by simp)
                                · rw [if_neg c23] at H
                                  exact absurd H (by simp)
                              · rw [if_neg c22] at H
                                exact absurd H (by simp)
                            · replace c21 := Bool.eq_false_iff.mpr c21
                              subst c21
                              have H1 : (tattingref7_Behind.l0 kj18 l0 l1 x5_2 (wrap64 (x6_1 - 1))) = some r := by rw [if_neg (show ¬ (false = true) by decide)] at H; first | done | exact H
                              clear H
                              have H := H1
                              clear H1
                              have H' := Aside0.mk H
                              clear H
                              go_wp2
                              (try simp only [← hl5_2])
                              go_roundg kj18
                              case measure => have := HK1.out; have := HK2.out; have := HJ18.out; omega
                              case rel => exact ⟨(x5_2), (wrap64 (x6_1 - 1)), (by first | rfl | (simp; done) | (simp [*]; done)), H', ⟨by have := HK1.out; have := HK2.out; have := HJ18.out; omega⟩, ⟨by (try simp only [hl5_2]); (with_reducible repeat (first | apply Kd.S_alloc | apply Kd.S_drewN | apply Kd.S_drew)); exact HO_5.out⟩, ⟨by repeat (first | (with_reducible first | exact HB.out | apply below_alloc | apply pw_below_drewN | apply below_drew1) | exact HB.out)⟩⟩
                  · rw [if_neg c13] at H
                    exact absurd H (by simp)
                · rw [if_neg c12] at H
                  exact absurd H (by simp)
              · rw [if_neg c11] at H
                exact absurd H (by simp)
            · rw [if_neg c10] at H
              exact absurd H (by simp)
          · rw [if_neg c8] at H
            have c8b0 : decide (0 ≤ x6_1) = false := decide_eq_false c8
            clear c8
            obtain rfl := Option.some.inj H
            go_wp2
            go_ret
            exact ⟨_, by first | rfl | (simp [errW_none, errW_some] <;> rfl) | (simp only [← hji3]; first | rfl | (simp [errW_none, errW_some] <;> rfl)) | (simp [*, errW_none, errW_some] <;> rfl), by (with_reducible repeat (first | apply Kd.S_alloc | apply Kd.S_drewN | apply Kd.S_drew)); exact HO_5.out, by repeat (first | (with_reducible first | exact HB.out | apply below_alloc | apply pw_below_drewN | apply below_drew1) | exact HB.out)⟩
    · rw [if_neg c5] at H
      exact absurd H (by simp)
  · rw [if_neg c4] at H
    exact absurd H (by simp)

end Go.Proofs.Ytbbbcdfagmcfgaa.PV

namespace Go.Proofs.Ytbbbcdfagmcfgaa.PV
open Go.RowKit Go.Proofs.YtbbbcdfagmcfgaaW.PrintWords Go.Proofs.YtbbbcdfagmcfgaaW.PrintLast Go.Proofs.YtbbbcdfagmcfgaaW.PrintMore Go.Proofs.Ytbbbcdfagmcfgaa.XBits
attribute [local go_sem] max2_int min2_int max_two min_two max_three min_three max_four min_four   -- for this text's walks alone
set_option linter.unusedVariables false
set_option linter.unusedSimpArgs false

/-! ### tattingref7_Turned: function 45 -/
def tattingref7_Turned.l0 : Nat → List Int → List Int → Int → Option (List Int)
  | 0, _, _, _ => none
  | k + 1, x0, x3, x4 => if x4 ≥ 0 then (if 0 ≤ x4 then (if x4 < (x0.length : Int) then (if x3.length < 17592186044416 then (tattingref7_Turned.l0 k x0 (x3 ++ [rd x0 x4]) (wrap64 (x4 - 1))) else (none)) else (none)) else (none)) else (some x3)
def tattingref7_Turned.f (k : Nat) (l0 : List Int) : Option (List Int) := tattingref7_Turned.l0 k l0 ([] : List Int) (wrap64 ((l0.length : Int) - 1))
theorem tattingref7_Turned.mono_l : ∀ k, (∀ y0 y1 y2, LeO (tattingref7_Turned.l0 k y0 y1 y2) (tattingref7_Turned.l0 (k + 1) y0 y1 y2))
  | 0 => fun _ _ _ r h => by simp [tattingref7_Turned.l0] at h
  | k + 1 => by
    have ih0 := tattingref7_Turned.mono_l k
    · intro y0 y1 y2
      unfold tattingref7_Turned.l0
      repeat' first
      | (with_reducible exact ih0 _ _ _)
      | (with_reducible exact LeO.refl _)
      | (with_reducible exact LeO.none _)
      | (with_reducible refine LeO.ite ?_ ?_)
      | (with_reducible refine LeO.bind ?_ (fun _ => ?_))
      | exact ih0 _ _ _
      | exact LeO.none _
      | refine LeO.ite ?_ ?_
      | refine LeO.bind ?_ (fun _ => ?_)
theorem tattingref7_Turned.mono : ∀ a0 k, LeO (tattingref7_Turned.f k a0) (tattingref7_Turned.f (k + 1) a0) := by
  intro a0 k
  have ih0 := tattingref7_Turned.mono_l k
  unfold tattingref7_Turned.f
  repeat' first
      | (with_reducible exact ih0 _ _ _)
      | (with_reducible exact LeO.refl _)
      | (with_reducible exact LeO.none _)
      | (with_reducible refine LeO.ite ?_ ?_)
      | (with_reducible refine LeO.bind ?_ (fun _ => ?_))
      | exact ih0 _ _ _
      | exact LeO.none _
      | refine LeO.ite ?_ ?_
      | refine LeO.bind ?_ (fun _ => ?_)
set_option maxHeartbeats 8000000 in
set_option maxRecDepth 100000 in
theorem tattingref7_Turned.calls (k : Nat) (A0 : Option Addr) (c0 : Nat) (l0 : List Int) (r : List Int) (w : World) (hr0 : Kd.C (Kd.int .i64) w A0 l0.length l0) (hc0 : l0.length ≤ c0) (h : tattingref7_Turned.f k l0 = some r) :
    Calls Try.prog 45 #[.slice A0 l0.length c0] w fun e w' => ∃ v0_ : Value, e = .returned (v0_) ∧ Kd.R (Kd.int .i64) 3 w' w.heap.size (fun _ => True) v0_ r ∧ Below w.heap.size w w' := by
  have HR0 := Aside0.mk hr0
  have HC0 := Aside0.mk hc0
  clear hr0 hc0
  have HB := Aside0.mk (Below.refl w.heap.size w)
  have H : (tattingref7_Turned.l0 k l0 ([] : List Int) (wrap64 ((l0.length : Int) - 1))) = some r := h
  clear h
  have H' := Aside0.mk H
  clear H
  go_enter Try.func45, Try.ntmps45
  go_wp2
  go_loopg [3, 4] k (fun kq v3 v4 w' => ∃ (x3_1 : List Int) (x4_1 : Int), v4 = .int .i64 x4_1 ∧ Aside0 (tattingref7_Turned.l0 kq l0 x3_1 x4_1 = some r) ∧ Aside0 (kq ≤ k) ∧ Aside0 (Kd.R (Kd.int .i64) 3 w' w.heap.size (fun _ => True) v3 x3_1) ∧ Aside0 (Below w.heap.size w w'))
  case atStart => exact ⟨(([] : List Int)), (wrap64 ((l0.length : Int) - 1)), (by first | rfl | (simp; done) | (simp [*]; done)), H', ⟨Nat.le_refl _⟩, ⟨by first | exact Kd.R_nil _ _ _ _ _ | exact Kd.N_nil _ _ _ _ _ | exact Kd.V_nil _ _ _ _ _ | exact Kd.Q_nil _ _ _ _ _ | exact Kd.S_nil _ _ _ _ _⟩, ⟨by repeat (first | (with_reducible first | exact HB.out | apply below_alloc | apply pw_below_drewN | apply below_drew1) | exact HB.out)⟩⟩
  case round =>
    clear H'
    obtain ⟨x3_1, x4_1, rfl, HA, HK1, HO_3, HB⟩ := hrel
    cases gk with
    | zero => exact absurd HA.out (by simp [tattingref7_Turned.l0])
    | succ k1 =>
      have H := HA.out
      clear HA
      simp only [tattingref7_Turned.l0] at H
      by_cases c2 : x4_1 ≥ 0
      · rw [if_pos c2] at H
        have c2b0 : decide (0 ≤ x4_1) = true := decide_eq_true c2
        clear c2
        by_cases c3 : 0 ≤ x4_1
        · rw [if_pos c3] at H
          have c3b0 : decide (0 ≤ x4_1) = true := decide_eq_true c3
          clear c3
          by_cases c4 : x4_1 < (l0.length : Int)
          · rw [if_pos c4] at H
            have c4b0 : decide (x4_1 < (l0.length : Int)) = true := decide_eq_true c4
            clear c4
            by_cases c5 : x3_1.length < 17592186044416
            · rw [if_pos c5] at H
              have LMc5 := Aside0.mk c5
              clear c5
              obtain ⟨y141, hy141⟩ : ∃ y_ : List Int, y_ = (x3_1 ++ [rd l0 x4_1]) := ⟨_, rfl⟩
              replace H : (tattingref7_Turned.l0 k1 l0 y141 (wrap64 (x4_1 - 1))) = some r := by first | (rw [hy141]; with_reducible exact H) | (have H2_ := (Option.bind_some _ _).symm.trans H; rw [hy141]; with_reducible exact H2_) | (have H2_ := (Option.bind_some _ _).symm.trans H; with_reducible exact H2_) | with_reducible exact H | (rw [hy141]; exact H) | exact H
              have Ny141 := Aside0.mk hy141
              clear hy141
              have H' := Aside0.mk H
              clear H
              have p140 : 0 ≤ (x4_1 : Int) := of_decide_eq_true (by first | (with_reducible assumption) | assumption)
              have q140 : x4_1 < (l0.length : Int) := of_decide_eq_true (by first | (with_reducible assumption) | assumption)
              obtain ⟨ad140, e140, hx140_0⟩ := Kd.at_int HR0.out x4_1 p140 q140
              cases e140
              replace hx140_0 := (HB.out.cell (World.block_lt_of_cell? w _ hx140_0)).trans hx140_0
              replace p140 := eq_true p140
              replace q140 := eq_true q140
              go_wp2_with (first | ((with_reducible refine gate_builtin (b := .append) (xs := #[.tmp 12, .tmp 17]) rfl ?_); at_builtin; refine Kd.R_append (Kd.int .i64) (w0 := w) w.heap.size rfl (.tmp 12) (.tmp 17) 26 3 (.int .i64 0) 8 rfl Try.underlying26 info3 rfl (by decide) (by omega) u3 x3_1 (rd l0 x4_1) [.int .i64 (rd l0 x4_1)] (fun _ => True) (fun _ => False) rfl rfl ?aP (fun _ hk => hk.elim) ?aF ?aO ?aB ?aS ?aL ?_; (case aP => exact rfl); (case aB => exact (by repeat (first | (with_reducible first | exact HB.out | apply below_alloc | apply pw_below_drewN | apply below_drew1) | exact HB.out))); (case aF => exact (fun _ _ => trivial)); (case aO => exact (by (with_reducible repeat (first | apply Kd.R_alloc | apply Kd.R_drewN | apply Kd.R_drew)); exact HO_3.out)); (case aS => exact (below_size (by repeat (first | (with_reducible first | exact HB.out | apply below_alloc | apply pw_below_drewN | apply below_drew1) | exact HB.out)))); (case aL => have := LMc5.out; omega); intro v142 w6 ho hb hg hat; rw [← Ny141.out] at ho; have n0_ := Aside0.mk (hb); have n1_ := Aside0.mk (ho); clear HB; clear HO_3; have HB := n0_; have HO143 := n1_; clear n0_ n1_; clear ho hb hg hat))
              go_roundg k1
              case measure => have := HK1.out; omega
              case rel => exact ⟨(y141), (wrap64 (x4_1 - 1)), (by first | rfl | (simp; done) | (simp [*]; done)), H', ⟨by have := HK1.out; omega⟩, ⟨by (with_reducible repeat (first | apply Kd.R_alloc | apply Kd.R_drewN | apply Kd.R_drew)); exact HO143.out⟩, ⟨by repeat (first | (with_reducible first | exact HB.out | apply below_alloc | apply pw_below_drewN | apply below_drew1) | exact HB.out)⟩⟩
            · rw [if_neg c5] at H
              exact absurd H (by simp)
          · rw [if_neg c4] at H
            exact absurd H (by simp)
        · rw [if_neg c3] at H
          exact absurd H (by simp)
      · rw [if_neg c2] at H
        have c2b0 : decide (0 ≤ x4_1) = false := decide_eq_false c2
        clear c2
        obtain rfl := Option.some.inj H
        go_wp2
        go_ret
        exact ⟨_, by first | rfl | (simp [errW_none, errW_some] <;> rfl) | (simp [*, errW_none, errW_some] <;> rfl), by (with_reducible repeat (first | apply Kd.R_alloc | apply Kd.R_drewN | apply Kd.R_drew)); exact HO_3.out, by repeat (first | (with_reducible first | exact HB.out | apply below_alloc | apply pw_below_drewN | apply below_drew1) | exact HB.out)⟩

end Go.Proofs.Ytbbbcdfagmcfgaa.PV

/- tattingref7.Ahead: the table from the front. Put together out of two printed texts. -/
namespace Go.Proofs.Ytbbbcdfagmcfgaa.PV
open Go.RowKit Go.Proofs.YtbbbcdfagmcfgaaW.PrintWords Go.Proofs.YtbbbcdfagmcfgaaW.PrintLast Go.Proofs.YtbbbcdfagmcfgaaW.PrintMore Go.Proofs.Ytbbbcdfagmcfgaa.XBits
attribute [local go_sem] max2_int min2_int max_two min_two max_three min_three max_four min_four   -- for this text's walks alone
set_option linter.unusedVariables false
set_option linter.unusedSimpArgs false

/-! ### tattingref7_Ahead: function 32 -/
mutual
def tattingref7_AheadT.l0 : Nat → List Int → List Int → List (List Int) → List (List Int) → Int → Option ((List (List Int)))
  | 0, _, _, _, _, _ => none
  | k + 1, x0, x1, x5, x6, x7 => if x7 ≤ (x0.length : Int) then (if 0 ≤ (wrap64 ((x1.length : Int) + 1)) then (if (wrap64 ((x1.length : Int) + 1) : Int).toNat ≤ 35184372088832 then (if 0 ≤ x7 then (if x7 < (x6.length : Int) then (tattingref7_AheadT.l1 k x0 x1 x5 (x6.set (x7 : Int).toNat (List.replicate (wrap64 ((x1.length : Int) + 1) : Int).toNat 0)) x7 0) else (none)) else (none)) else (none)) else (none)) else (some x6)
def tattingref7_AheadT.l1 : Nat → List Int → List Int → List (List Int) → List (List Int) → Int → Int → Option ((List (List Int)))
  | 0, _, _, _, _, _, _ => none
  | k + 1, x0, x1, x5, x6, x7, x8 => if x8 ≤ (x1.length : Int) then (if 0 ≤ x7 then (if x7 < (x6.length : Int) then (if 0 ≤ (wrap64 ((x0.length : Int) - x7)) then (if (wrap64 ((x0.length : Int) - x7)) < (x5.length : Int) then (if 0 ≤ (wrap64 ((x1.length : Int) - x8)) then (if (wrap64 ((x1.length : Int) - x8)) < ((rd_L2 x5 (wrap64 ((x0.length : Int) - x7))).length : Int) then (if 0 ≤ x8 then (if x8 < ((rd_L2 x6 x7).length : Int) then (tattingref7_AheadT.l1 k x0 x1 x5 (x6.set (x7 : Int).toNat ((rd_L2 x6 x7).set (x8 : Int).toNat (rd (rd_L2 x5 (wrap64 ((x0.length : Int) - x7))) (wrap64 ((x1.length : Int) - x8))))) x7 (wrap64 (x8 + 1))) else (none)) else (none)) else (none)) else (none)) else (none)) else (none)) else (none)) else (none)) else (tattingref7_AheadT.l0 k x0 x1 x5 x6 (wrap64 (x7 + 1)))
end
def tattingref7_AheadT.f (k : Nat) (l0 : List Int) (l1 : List Int) (l2 : List (List Int)) : Option ((List (List Int))) := if 0 ≤ (wrap64 ((l0.length : Int) + 1)) then (if (wrap64 ((l0.length : Int) + 1) : Int).toNat ≤ 11728124029610 then (tattingref7_AheadT.l0 k l0 l1 l2 (List.replicate (wrap64 ((l0.length : Int) + 1) : Int).toNat []) 0) else (none)) else (none)
theorem tattingref7_AheadT.mono_l : ∀ k, (∀ y0 y1 y2 y3 y4, LeO (tattingref7_AheadT.l0 k y0 y1 y2 y3 y4) (tattingref7_AheadT.l0 (k + 1) y0 y1 y2 y3 y4)) ∧ (∀ y0 y1 y2 y3 y4 y5, LeO (tattingref7_AheadT.l1 k y0 y1 y2 y3 y4 y5) (tattingref7_AheadT.l1 (k + 1) y0 y1 y2 y3 y4 y5))
  | 0 => ⟨fun _ _ _ _ _ r h => by simp [tattingref7_AheadT.l0] at h, fun _ _ _ _ _ _ r h => by simp [tattingref7_AheadT.l1] at h⟩
  | k + 1 => by
    obtain ⟨ih0, ih1⟩ := tattingref7_AheadT.mono_l k
    refine ⟨?_, ?_⟩
    · intro y0 y1 y2 y3 y4
      unfold tattingref7_AheadT.l0
      repeat' first
      | (with_reducible exact ih0 _ _ _ _ _)
      | (with_reducible exact ih1 _ _ _ _ _ _)
      | (with_reducible exact LeO.refl _)
      | (with_reducible exact LeO.none _)
      | (with_reducible refine LeO.ite ?_ ?_)
      | (with_reducible refine LeO.bind ?_ (fun _ => ?_))
      | exact ih0 _ _ _ _ _
      | exact ih1 _ _ _ _ _ _
      | exact LeO.none _
      | refine LeO.ite ?_ ?_
      | refine LeO.bind ?_ (fun _ => ?_)
    · intro y0 y1 y2 y3 y4 y5
      unfold tattingref7_AheadT.l1
      repeat' first
      | (with_reducible exact ih0 _ _ _ _ _)
      | (with_reducible exact ih1 _ _ _ _ _ _)
      | (with_reducible exact LeO.refl _)
      | (with_reducible exact LeO.none _)
      | (with_reducible refine LeO.ite ?_ ?_)
      | (with_reducible refine LeO.bind ?_ (fun _ => ?_))
      | exact ih0 _ _ _ _ _
      | exact ih1 _ _ _ _ _ _
      | exact LeO.none _
      | refine LeO.ite ?_ ?_
      | refine LeO.bind ?_ (fun _ => ?_)
theorem tattingref7_AheadT.mono : ∀ a0 a1 a2 k, LeO (tattingref7_AheadT.f k a0 a1 a2) (tattingref7_AheadT.f (k + 1) a0 a1 a2) := by
  intro a0 a1 a2 k
  obtain ⟨ih0, ih1⟩ := tattingref7_AheadT.mono_l k
  unfold tattingref7_AheadT.f
  repeat' first
      | (with_reducible exact ih0 _ _ _ _ _)
      | (with_reducible exact ih1 _ _ _ _ _ _)
      | (with_reducible exact LeO.refl _)
      | (with_reducible exact LeO.none _)
      | (with_reducible refine LeO.ite ?_ ?_)
      | (with_reducible refine LeO.bind ?_ (fun _ => ?_))
      | exact ih0 _ _ _ _ _
      | exact ih1 _ _ _ _ _ _
      | exact LeO.none _
      | refine LeO.ite ?_ ?_
      | refine LeO.bind ?_ (fun _ => ?_)
def tattingref7_AheadT.T10 : Bool × List (List Nat × List Nat) := (true, [([], []), ([], []), ([0, 1], [0, 1]), ([2], [2]), ([], []), ([], []), ([], []), ([6], [6]), ([], []), ([7, 8], [7, 8]), ([5, 9], [5, 9]), ([10], [10]), ([], []), ([12], [12]), ([], []), ([13, 14], [13, 14]), ([11, 15], [11, 15]), ([16], [16]), ([3, 4, 0, 1, 2, 3, 4, 5, 6, 7, 8, 9, 10, 11, 12, 13, 14, 15, 16, 17], [3, 4]), ([18, 17, 0, 1, 2, 3, 4, 5, 6, 7, 8, 9, 10, 11, 12, 13, 14, 15, 16, 17], [17, 18])])
def tattingref7_AheadT.B10 : List Nat := [0, 0, 3, 7, 0, 0, 0, 64, 0, 448, 992, 2016, 0, 4096, 0, 28672, 65504, 131040, 262143, 524287]
theorem tattingref7_AheadT.tab10 : rtab .any (opsOf Try.f32 10) = tattingref7_AheadT.T10 := by kernel_rfl
theorem tattingref7_AheadT.bits10 : waitsOk tattingref7_AheadT.T10.2 tattingref7_AheadT.B10 = true := by kernel_rfl
def tattingref7_Ahead.f (k : Nat) (l0 : List Int) (l1 : List Int) : Option (List (List Int)) := (tattingref7_Turned.f k l0).bind fun x => (tattingref7_Turned.f k l1).bind fun y => (tattingref7_Behind.f k x y).bind fun t => tattingref7_AheadT.f k l0 l1 t
theorem tattingref7_Ahead.mono : ∀ a0 a1 k, LeO (tattingref7_Ahead.f k a0 a1) (tattingref7_Ahead.f (k + 1) a0 a1) := by
  intro a0 a1 k
  unfold tattingref7_Ahead.f
  exact LeO.bind (tattingref7_Turned.mono _ _) fun _ => LeO.bind (tattingref7_Turned.mono _ _) fun _ => LeO.bind (tattingref7_Behind.mono _ _ _) fun _ => tattingref7_AheadT.mono _ _ _ _
set_option maxHeartbeats 8000000 in
set_option maxRecDepth 100000 in
theorem tattingref7_Ahead.calls (k : Nat) (A0 : Option Addr) (c0 : Nat) (l0 : List Int) (A1 : Option Addr) (c1 : Nat) (l1 : List Int) (r : List (List Int)) (w : World) (hr0 : Kd.C (Kd.int .i64) w A0 l0.length l0) (hc0 : l0.length ≤ c0) (hr1 : Kd.C (Kd.int .i64) w A1 l1.length l1) (hc1 : l1.length ≤ c1) (h : tattingref7_Ahead.f k l0 l1 = some r) :
    Calls Try.prog 32 #[.slice A0 l0.length c0, .slice A1 l1.length c1] w fun e w' => ∃ v0_ : Value, e = .returned (v0_) ∧ Kd.S (Kd.slice 3 (Kd.int .i64)) 26 w' w.heap.size (fun _ => True) v0_ r ∧ Below w.heap.size w w' := by
  have HR0 := Aside0.mk hr0
  have HC0 := Aside0.mk hc0
  clear hr0 hc0
  have HR1 := Aside0.mk hr1
  have HC1 := Aside0.mk hc1
  clear hr1 hc1
  have HB := Aside0.mk (Below.refl w.heap.size w)
  have H : ((tattingref7_Turned.f k l0).bind fun bt128 => ((tattingref7_Turned.f k l1).bind fun bt131 => ((tattingref7_Behind.f k bt128 bt131).bind fun bt134 => (tattingref7_AheadT.f k l0 l1 bt134)))) = some r := h
  clear h
  replace H := Option.bind_eq_some_iff.mp H
  obtain ⟨bt128, bA30, H⟩ := H
  replace H : ((tattingref7_Turned.f k l1).bind fun bt131 => ((tattingref7_Behind.f k bt128 bt131).bind fun bt134 => (tattingref7_AheadT.f k l0 l1 bt134))) = some r := H
  have bA3 := Aside0.mk bA30
  clear bA30
  replace H := Option.bind_eq_some_iff.mp H
  obtain ⟨bt131, bA40, H⟩ := H
  replace H : ((tattingref7_Behind.f k bt128 bt131).bind fun bt134 => (tattingref7_AheadT.f k l0 l1 bt134)) = some r := H
  have bA4 := Aside0.mk bA40
  clear bA40
  replace H := Option.bind_eq_some_iff.mp H
  obtain ⟨bt134, bA50, H⟩ := H
  replace H : (tattingref7_AheadT.f k l0 l1 bt134) = some r := H
  have bA5 := Aside0.mk bA50
  clear bA50
  have h : tattingref7_AheadT.f k l0 l1 bt134 = some r := H
  clear H
  have H : (if 0 ≤ (wrap64 ((l0.length : Int) + 1)) then (if (wrap64 ((l0.length : Int) + 1) : Int).toNat ≤ 11728124029610 then (tattingref7_AheadT.l0 k l0 l1 bt134 (List.replicate (wrap64 ((l0.length : Int) + 1) : Int).toNat []) 0) else (none)) else (none)) = some r := h
  clear h
  obtain ⟨ji4, hji4⟩ : ∃ j_ : Int, (wrap64 ((l0.length : Int) + 1)) = j_ := ⟨_, rfl⟩
  replace H : (if 0 ≤ (ji4) then (if (ji4 : Int).toNat ≤ 11728124029610 then (tattingref7_AheadT.l0 k l0 l1 bt134 (List.replicate (ji4 : Int).toNat []) 0) else (none)) else (none)) = some r := by first | (rw [hji4] at H; exact H) | (simp only [hji4] at H ⊢; exact H)
  have hji4w : (IntKind.i64.wrap ((l0.length : Int) + 1)) = ji4 := (i64_w _).trans hji4
  by_cases c5 : 0 ≤ (ji4)
  · rw [if_pos c5] at H
    have c5b0 := eq_true c5
    have c5b1 : decide (0 ≤ (ji4)) = true := decide_eq_true c5
    clear c5
    by_cases c6 : (ji4 : Int).toNat ≤ 11728124029610
    · rw [if_pos c6] at H
      have c6b0 := eq_true c6
      have c6b1 : decide ((ji4 : Int).toNat ≤ 11728124029610) = true := decide_eq_true c6
      clear c6
      obtain ⟨y128, hy128⟩ : ∃ y_ : List (List Int), y_ = (List.replicate (ji4 : Int).toNat []) := ⟨_, rfl⟩
      replace H : (tattingref7_AheadT.l0 k l0 l1 bt134 y128 0) = some r := by first | (rw [hy128]; with_reducible exact H) | (have H2_ := (Option.bind_some _ _).symm.trans H; rw [hy128]; with_reducible exact H2_) | (have H2_ := (Option.bind_some _ _).symm.trans H; with_reducible exact H2_) | with_reducible exact H | (rw [hy128]; exact H) | exact H
      have Ny128 := Aside0.mk hy128
      clear hy128
      have H' := Aside0.mk H
      clear H
      go_enter Try.func32, Try.ntmps32
      go_upto_region 2 with (first | ((with_reducible refine gate_callee (f := 45) rfl ?_); refine goesL_ (some 10) rfl rfl Try.func45 (by kernel_rfl) rfl #[.slice A0 l0.length c0] rfl (by (try simp only [List.map_toArray, List.map_cons, List.map_nil]); first | done | rfl | (simp only [List.length_drop, List.length_take]; rfl)) ?_; (with_reducible refine (tattingref7_Turned.calls k _ _ l0 bt128 _ ?side1 ?side2 bA3.out).mono ?_); (case side1 => repeat (first | exact HR0.out | (with_reducible refine Kd.C_alloc ?_ _) | (with_reducible refine Kd.C_drewN ?_ _) | (with_reducible refine Kd.C_drew ?_))); (case side2 => exact HC0.out); rintro e bw6 ⟨bv129, rfl, ho0, hb⟩; refine ⟨_, rfl, ?_⟩; have n0_ := Aside0.mk (Kd.R_lower ho0 (below_size (by repeat (first | (with_reducible first | exact HB.out | apply below_alloc | apply pw_below_drewN | apply below_drew1) | exact HB.out)))); have n1_ := Aside0.mk (below_step (by repeat (first | (with_reducible first | exact HB.out | apply below_alloc | apply pw_below_drewN | apply below_drew1) | exact HB.out)) hb); clear HB; have bHO130 := n0_; have HB := n1_; clear n0_ n1_; (try clear hb); (try clear hb2); (try clear hk); (try clear hi); (try clear ho0)) | ((with_reducible refine gate_callee (f := 45) rfl ?_); refine goesL_ (some 12) rfl rfl Try.func45 (by kernel_rfl) rfl #[.slice A1 l1.length c1] rfl (by (try simp only [List.map_toArray, List.map_cons, List.map_nil]); first | done | rfl | (simp only [List.length_drop, List.length_take]; rfl)) ?_; (with_reducible refine (tattingref7_Turned.calls k _ _ l1 bt131 _ ?side1 ?side2 bA4.out).mono ?_); (case side1 => repeat (first | (first | exact (Kd.C_below HR1.out HB.out) | exact HR1.out) | (with_reducible refine Kd.C_alloc ?_ _) | (with_reducible refine Kd.C_drewN ?_ _) | (with_reducible refine Kd.C_drew ?_))); (case side2 => exact HC1.out); rintro e bw7 ⟨bv132, rfl, ho0, hb⟩; refine ⟨_, rfl, ?_⟩; have n0_ := Aside0.mk (Kd.R_elder' (by (with_reducible repeat (first | apply Kd.R_alloc | apply Kd.R_drewN | apply Kd.R_drew)); exact bHO130.out) (Kd.R_base ho0) hb); have n1_ := Aside0.mk (Kd.R_lower (Kd.R_new' ho0 (Kd.R_lt (by (with_reducible repeat (first | apply Kd.R_alloc | apply Kd.R_drewN | apply Kd.R_drew)); exact bHO130.out))) (below_size (by repeat (first | (with_reducible first | exact HB.out | apply below_alloc | apply pw_below_drewN | apply below_drew1) | exact HB.out)))); have n2_ := Aside0.mk (below_step (by repeat (first | (with_reducible first | exact HB.out | apply below_alloc | apply pw_below_drewN | apply below_drew1) | exact HB.out)) hb); clear bHO130; clear HB; have bHO130 := n0_; have bHO133 := n1_; have HB := n2_; clear n0_ n1_ n2_; (try clear hb); (try clear hb2); (try clear hk); (try clear hi); (try clear ho0); obtain ⟨Ao8, co8, eo8⟩ := Kd.R_slice bHO130.out; subst eo8; obtain ⟨Ao9, co9, eo9⟩ := Kd.R_slice bHO133.out; subst eo9) | ((with_reducible refine gate_callee (f := 34) rfl ?_); refine goesL_ (some 13) rfl rfl Try.func34 (by kernel_rfl) rfl #[.slice Ao8 bt128.length co8, .slice Ao9 bt131.length co9] rfl (by (try simp only [List.map_toArray, List.map_cons, List.map_nil]); first | done | rfl | (simp only [List.length_drop, List.length_take]; rfl)) ?_; (with_reducible refine (tattingref7_Behind.calls k _ _ bt128 _ _ bt131 bt134 _ ?side1 ?side2 ?side3 ?side4 bA5.out).mono ?_); (case side1 => repeat (first | exact (Kd.R_reads' bHO130.out).2.2 | (with_reducible refine Kd.C_alloc ?_ _) | (with_reducible refine Kd.C_drewN ?_ _) | (with_reducible refine Kd.C_drew ?_))); (case side2 => exact (Kd.R_reads' bHO130.out).2.1); (case side3 => repeat (first | exact (Kd.R_reads' bHO133.out).2.2 | (with_reducible refine Kd.C_alloc ?_ _) | (with_reducible refine Kd.C_drewN ?_ _) | (with_reducible refine Kd.C_drew ?_))); (case side4 => exact (Kd.R_reads' bHO133.out).2.1); rintro e bw10 ⟨bv135, rfl, ho0, hb⟩; refine ⟨_, rfl, ?_⟩; have n0_ := Aside0.mk (Kd.R_below (by (with_reducible repeat (first | apply Kd.R_alloc | apply Kd.R_drewN | apply Kd.R_drew)); exact bHO130.out) hb); have n1_ := Aside0.mk (Kd.R_below (by (with_reducible repeat (first | apply Kd.R_alloc | apply Kd.R_drewN | apply Kd.R_drew)); exact bHO133.out) hb); have n2_ := Aside0.mk (Kd.S_lower (Kd.S_new' (Kd.S_new' ho0 (Kd.R_lt (by (with_reducible repeat (first | apply Kd.R_alloc | apply Kd.R_drewN | apply Kd.R_drew)); exact bHO130.out))) (Kd.R_lt (by (with_reducible repeat (first | apply Kd.R_alloc | apply Kd.R_drewN | apply Kd.R_drew)); exact bHO133.out))) (below_size (by repeat (first | (with_reducible first | exact HB.out | apply below_alloc | apply pw_below_drewN | apply below_drew1) | exact HB.out)))); have n3_ := Aside0.mk (below_step (by repeat (first | (with_reducible first | exact HB.out | apply below_alloc | apply pw_below_drewN | apply below_drew1) | exact HB.out)) hb); clear bHO130; clear bHO133; clear HB; have bHO130 := n0_; have bHO133 := n1_; have bHO136 := n2_; have HB := n3_; clear n0_ n1_ n2_ n3_; (try clear hb); (try clear hb2); (try clear hk); (try clear hi); (try clear ho0)))
      obtain ⟨bA2, bc2, bev, bhc, bhC⟩ := Kd.S_reads bHO136.out
      cases bev
      have HR2 := Aside0.mk bhC
      have HC2 := Aside0.mk bhc
      clear bhC bhc
      have HR0b := Aside0.mk (Kd.C_below HR0.out HB.out)
      have HR1b := Aside0.mk (Kd.C_below HR1.out HB.out)
      clear HR0 HR1
      have HR0 := HR0b
      have HR1 := HR1b
      clear HR0b HR1b
      have HB0 := HB
      clear HB
      have HB := Aside0.mk (Below.refl bw10.heap.size bw10)
      try clear bHO130
      try clear bHO133
      try clear bHO136
      go_wp2_with (first | ((with_reducible refine gate_dst (N := 17) rfl ?_); refine Kd.S_make (Kd.slice 3 (Kd.int .i64)) _ 26 rfl (N := 17) rfl 54 _ _ rfl ji4 rfl rfl Try.underlying54 (.slice none 0 0) 24 info26 rfl (by decide) (by omega) [] (ok := fun _ => True) (okp := fun _ => True) ⟨_, rfl, Kd.R_nil _ _ _ _ _⟩ (fun _ hk => hk) trivial (of_decide_eq_true (by first | (with_reducible assumption) | assumption)) (Nat.le_trans (Nat.mul_le_mul_right _ (of_decide_eq_true (by first | (with_reducible assumption) | assumption) : ji4.toNat ≤ 11728124029610)) (by omega)) (Below.refl _ _) (Nat.le_refl _) ?_; intro v129 w7 ho8 hb hg_ hnew_; clear hg_ hnew_; (first | rw [← Ny128.out] at ho8 | (simp only [Int.reduceToNat] at ho8; rw [← Ny128.out] at ho8)); have n0_ := Aside0.mk (Kd.S_lower ho8 (below_size (by repeat (first | (with_reducible first | exact HB.out | apply below_alloc | apply pw_below_drewN | apply below_drew1) | exact HB.out)))); have n1_ := Aside0.mk (below_step (by repeat (first | (with_reducible first | exact HB.out | apply below_alloc | apply pw_below_drewN | apply below_drew1) | exact HB.out)) hb); clear HB; have HO130 := n0_; have HB := n1_; clear n0_ n1_; clear hb ho8))
      go_loopg [7] k (fun kq v7 w' => ∃ (x6_1 : List (List Int)) (x7_1 : Int), v7 = .int .i64 x7_1 ∧ Aside0 (tattingref7_AheadT.l0 kq l0 l1 bt134 x6_1 x7_1 = some r) ∧ Aside0 (kq ≤ k) ∧ Aside0 (Kd.S (Kd.slice 3 (Kd.int .i64)) 26 w' bw10.heap.size (fun _ => True) v129 x6_1) ∧ Aside0 (Below bw10.heap.size bw10 w'))
      case atStart => exact ⟨(y128), (0), (by first | rfl | (simp; done) | (simp [*]; done)), H', ⟨Nat.le_refl _⟩, ⟨by (with_reducible repeat (first | apply Kd.S_alloc | apply Kd.S_drewN | apply Kd.S_drew)); exact HO130.out⟩, ⟨by repeat (first | (with_reducible first | exact HB.out | apply below_alloc | apply pw_below_drewN | apply below_drew1) | exact HB.out)⟩⟩
      case round =>
        clear H'
        try clear c1
        try clear c2
        try clear p2
        try clear c3
        try clear c5
        try clear c5b0
        try clear c5b1
        try clear c6
        try clear c6b0
        try clear c6b1
        try clear p6
        obtain ⟨x6_1, x7_1, rfl, HA, HK1, HO_6, HB⟩ := hrel
        cases gk with
        | zero => exact absurd HA.out (by simp [tattingref7_AheadT.l0])
        | succ k1 =>
          have H := HA.out
          clear HA
          simp only [tattingref7_AheadT.l0] at H
          by_cases c9 : x7_1 ≤ (l0.length : Int)
          · rw [if_pos c9] at H
            have c9b0 : decide (x7_1 ≤ (l0.length : Int)) = true := decide_eq_true c9
            clear c9
            obtain ⟨ji10, hji10⟩ : ∃ j_ : Int, (wrap64 ((l1.length : Int) + 1)) = j_ := ⟨_, rfl⟩
            replace H : (if 0 ≤ (ji10) then (if (ji10 : Int).toNat ≤ 35184372088832 then (if 0 ≤ x7_1 then (if x7_1 < (x6_1.length : Int) then (tattingref7_AheadT.l1 k1 l0 l1 bt134 (x6_1.set (x7_1 : Int).toNat (List.replicate (ji10 : Int).toNat 0)) x7_1 0) else (none)) else (none)) else (none)) else (none)) = some r := by first | (rw [hji10] at H; exact H) | (simp only [hji10] at H ⊢; exact H)
            have hji10w : (IntKind.i64.wrap ((l1.length : Int) + 1)) = ji10 := (i64_w _).trans hji10
            by_cases c11 : 0 ≤ (ji10)
            · rw [if_pos c11] at H
              have c11b0 := eq_true c11
              have c11b1 : decide (0 ≤ (ji10)) = true := decide_eq_true c11
              clear c11
              by_cases c12 : (ji10 : Int).toNat ≤ 35184372088832
              · rw [if_pos c12] at H
                have c12b0 := eq_true c12
                have c12b1 : decide ((ji10 : Int).toNat ≤ 35184372088832) = true := decide_eq_true c12
                clear c12
                obtain ⟨y131, hy131⟩ : ∃ y_ : List Int, y_ = (List.replicate (ji10 : Int).toNat 0) := ⟨_, rfl⟩
                replace H : (if 0 ≤ x7_1 then (if x7_1 < (x6_1.length : Int) then (tattingref7_AheadT.l1 k1 l0 l1 bt134 (x6_1.set (x7_1 : Int).toNat y131) x7_1 0) else (none)) else (none)) = some r := by first | (rw [hy131]; with_reducible exact H) | (have H2_ := (Option.bind_some _ _).symm.trans H; rw [hy131]; with_reducible exact H2_) | (have H2_ := (Option.bind_some _ _).symm.trans H; with_reducible exact H2_) | with_reducible exact H | (rw [hy131]; exact H) | exact H
                have Ny131 := Aside0.mk hy131
                clear hy131
                by_cases c13 : 0 ≤ x7_1
                · rw [if_pos c13] at H
                  have c13b0 : decide (0 ≤ x7_1) = true := decide_eq_true c13
                  clear c13
                  by_cases c14 : x7_1 < (x6_1.length : Int)
                  · rw [if_pos c14] at H
                    have c14b0 : decide (x7_1 < (x6_1.length : Int)) = true := decide_eq_true c14
                    clear c14
                    obtain ⟨y134, hy134⟩ : ∃ y_ : List (List Int), y_ = (x6_1.set (x7_1 : Int).toNat y131) := ⟨_, rfl⟩
                    replace H : (tattingref7_AheadT.l1 k1 l0 l1 bt134 y134 x7_1 0) = some r := by first | (rw [hy134]; with_reducible exact H) | (have H2_ := (Option.bind_some _ _).symm.trans H; rw [hy134]; with_reducible exact H2_) | (have H2_ := (Option.bind_some _ _).symm.trans H; with_reducible exact H2_) | with_reducible exact H | (rw [hy134]; exact H) | exact H
                    have Ny134 := Aside0.mk hy134
                    clear hy134
                    have H' := Aside0.mk H
                    clear H
                    go_wp2_with (first | ((with_reducible refine gate_dst (N := 29) rfl ?_); refine Kd.R_make (Kd.int .i64) _ 3 rfl (N := 29) rfl 26 _ _ rfl ji10 rfl rfl Try.underlying26 (.int .i64 0) 8 info3 rfl (by decide) (by omega) 0 (ok := fun _ => True) (okp := fun _ => True) rfl (fun _ hk => hk) trivial (of_decide_eq_true (by first | (with_reducible assumption) | assumption)) (Nat.le_trans (Nat.mul_le_mul_right _ (of_decide_eq_true (by first | (with_reducible assumption) | assumption) : ji10.toNat ≤ 35184372088832)) (by omega)) (Below.refl _ _) (Nat.le_refl _) ?_; intro v132 w16 ho17 hb hg_ hnew_; clear hg_ hnew_; obtain ⟨Af_v132, cf_v132, ef_v132⟩ := Kd.R_slice ho17; (first | rw [← Ny131.out] at ho17 | (simp only [Int.reduceToNat] at ho17; rw [← Ny131.out] at ho17)); have n0_ := Aside0.mk (Kd.S_elder' (by (with_reducible repeat (first | apply Kd.S_alloc | apply Kd.S_drewN | apply Kd.S_drew)); exact HO_6.out) (Kd.R_base ho17) hb); have n1_ := Aside0.mk (Kd.R_lower ho17 (below_size (by repeat (first | (with_reducible first | exact HB.out | apply below_alloc | apply pw_below_drewN | apply below_drew1) | exact HB.out)))); have n2_ := Aside0.mk (below_step (by repeat (first | (with_reducible first | exact HB.out | apply below_alloc | apply pw_below_drewN | apply below_drew1) | exact HB.out)) hb); clear HO_6; clear HB; have HO_6 := n0_; have HO133 := n1_; have HB := n2_; clear n0_ n1_ n2_; clear hb ho17; have p15 : 0 ≤ (x7_1 : Int) := of_decide_eq_true (by first | (with_reducible assumption) | assumption); have q15 : (x7_1 : Int) < ((x6_1.length : Int) : Int) := of_decide_eq_true (by first | (with_reducible assumption) | assumption); obtain ⟨go15, co15, eo15, gb15, gl15, cl15, HG15⟩ := Kd.S_form HO_6.out (by omega); (first | cases eo15 | (injection eo15 with ea_ en_ ec_; (first | subst ea_ | (injection ea_ with ea_; subst ea_)); subst ec_; clear en_)); have GB15 := Aside0.mk gb15; have GG15 := Aside0.mk HG15; clear gb15 gl15 HG15; obtain ⟨_, ce15, hcl15, hM15, hcc15, hfr15, _, _⟩ := Kd.S_elem HO_6.out [] (x7_1 : Int) p15 q15; obtain ⟨ve15_0, rfl, ge15_0⟩ := hM15; have hx15_0 := hcc15 0 _ rfl; have hf15_0 := hfr15 0; (try simp only [show ((Kd.slice 3 (Kd.int .i64))).sz = 1 from rfl, Nat.mul_one, Nat.add_zero] at hx15_0); (try simp only [show ((Kd.slice 3 (Kd.int .i64))).sz = 1 from rfl, Nat.mul_one, Nat.add_zero] at hf15_0); clear hcl15 hcc15 hfr15; (try clear hM15); replace p15 := eq_true p15; replace q15 := eq_true q15; have n_ := Aside0.mk (Kd.S_mono (ok' := (fun k_ => some k_ ≠ (v132 : Value).ownBlock)) HO_6.out (fun k_ hk => hk.2)); clear HO_6; have HO_6 := n_; clear n_; have HX18 := Aside0.mk (show Kd.S (Kd.slice 3 (Kd.int .i64)) 26 w16 bw10.heap.size (fun k_ => ((fun _ => True)) k_ ∧ ¬ ((fun k_ => some k_ = (v132 : Value).ownBlock)) k_) (.slice (some ⟨go15, 0, none⟩) x6_1.length co15) x6_1 from (by (with_reducible repeat (first | apply Kd.S_alloc | apply Kd.S_drewN | apply Kd.S_drew)); exact Kd.S_mono HO_6.out (fun k_ hk => ⟨trivial, fun e_ => hk e_⟩))); obtain ⟨oki18, ce18, hcl18, hM18, hcc18, hfr18, hoki18, hH18⟩ := Kd.S_elem HX18.out [] (x7_1 : Int) (of_decide_eq_true (by first | (with_reducible assumption) | assumption)) (by have h_ : (x7_1 : Int) < ((x6_1.length : Int) : Int) := of_decide_eq_true (by first | (with_reducible assumption) | assumption); first | exact h_ | (have e_ := (Kd.S_reads' HO_6.out).1; omega) | simpa using h_); obtain ⟨ve18_0, rfl, ge18_0⟩ := hM18; have HP18 := Kd.S_seg hH18 (of_decide_eq_true (by first | (with_reducible assumption) | assumption)) (by have h_ : (x7_1 : Int) < ((x6_1.length : Int) : Int) := of_decide_eq_true (by first | (with_reducible assumption) | assumption); first | exact h_ | (have e_ := (Kd.S_reads' HO_6.out).1; omega) | simpa using h_) (seg := [v132]) (j := 0) (show 1 ≤ 1 from by decide) (x' := y131) (Kd.M_row (Kd.R_mono (Kd.R_tight rfl (Kd.R_mono (ok' := fun k_ => ((fun _ => True)) k_ ∧ k_ ≠ go15) (Kd.R_apart' (HO133.out) (Kd.S_typed HO_6.out) (by decide)) (fun k_ hk => ⟨trivial, fun e_ => (hk.2) (by rw [e_]; rfl)⟩))) (fun _ h_ => Or.inr (h_)))) (fun _ hk => hk) (fun k_ hk_ => ((Kd.R_mono (ok' := fun k_ => ((fun _ => True)) k_ ∧ k_ ≠ go15) (Kd.R_apart' (HO133.out) (Kd.S_typed HO_6.out) (by decide)) (fun k_ hk => ⟨trivial, fun e_ => (hk.2) (by rw [e_]; rfl)⟩))).1 k_ hk_.symm); have hx18_0 := hcc18 0 _ rfl; (try simp only [show ((Kd.slice 3 (Kd.int .i64))).sz = 1 from rfl, Nat.mul_one, Nat.add_zero] at hx18_0); have hf18_0 := hfr18 0; (try simp only [show ((Kd.slice 3 (Kd.int .i64))).sz = 1 from rfl, Nat.mul_one, Nat.add_zero] at hf18_0); clear hcl18 hcc18 hfr18 hoki18 hH18; (try clear hM18); (try simp only [show ((Kd.slice 3 (Kd.int .i64))).sz = 1 from rfl, Nat.mul_one, Nat.add_zero] at HP18)) | ((with_reducible refine gate_store (t := 26) (p := 30) rfl ?_); refine store_event (t := 26) (p := 30) (v := ?vo_w19) (w1 := (w16.setCell ⟨go15, (x7_1 : Int).toNat, none⟩ (v132))) ?hg ?ho ?hn ?hr ?_; (case ho => rfl); (case hg => rfl); (case hn => rfl); (case hr => first | (go_simp; done) | (go_simp; rfl) | (rw [ef_v132]; go_simp; first | done | rfl)); intro w19 hw; have hg : w16.grownBy w19 (some go15) := (by rw [hw]; exact HP18.2); have hp_ : Kd.S (Kd.slice 3 (Kd.int .i64)) 26 w19 bw10.heap.size (fun _ => True) (.slice (some ⟨go15, 0, none⟩) x6_1.length co15) y134 := (by rw [hw, Ny134.out]; exact HP18.1); clear HP18; have n0_ := Aside0.mk (hp_); have n1_ := Aside0.mk ((by rw [hw]; exact below_set (HB.out) GB15.out : Below bw10.heap.size bw10 w19)); clear HO_6; clear HB; clear HO133; have HO_6 := n0_; have HB := n1_; clear n0_ n1_; clear hg hw hp_))
                    go_loopg [8] k1 (fun kq v8 w' => ∃ (x6_2 : List (List Int)) (x8_2 : Int), v8 = .int .i64 x8_2 ∧ Aside0 (tattingref7_AheadT.l1 kq l0 l1 bt134 x6_2 x7_1 x8_2 = some r) ∧ Aside0 (kq ≤ k1) ∧ Aside0 (Kd.S (Kd.slice 3 (Kd.int .i64)) 26 w' bw10.heap.size (fun _ => True) (.slice (some ⟨go15, 0, none⟩) x6_1.length co15) x6_2) ∧ Aside0 (Below bw10.heap.size bw10 w'))
                    case atStart => exact ⟨(y134), (0), (by first | rfl | (simp; done) | (simp [*]; done)), H', ⟨Nat.le_refl _⟩, ⟨by (with_reducible repeat (first | apply Kd.S_alloc | apply Kd.S_drewN | apply Kd.S_drew)); exact HO_6.out⟩, ⟨by repeat (first | (with_reducible first | exact HB.out | apply below_alloc | apply pw_below_drewN | apply below_drew1) | exact HB.out)⟩⟩
                    case round =>
                      clear H'
                      try clear c1
                      try clear p1
                      try clear q1
                      try clear hx1
                      try clear c2
                      try clear p2
                      try clear c3
                      try clear c5
                      try clear c5b0
                      try clear c5b1
                      try clear c6
                      try clear c6b0
                      try clear c6b1
                      try clear p6
                      try clear c9
                      try clear c9b0
                      try clear c11
                      try clear c11b0
                      try clear c11b1
                      try clear c12
                      try clear c12b0
                      try clear c12b1
                      try clear c13
                      try clear c13b0
                      try clear c14
                      try clear c14b0
                      try clear c15
                      try clear p15
                      try clear q15
                      try clear hx15
                      try clear hf15
                      try clear c18
                      try clear hx18
                      try clear hf18
                      try clear hx15_0
                      try clear hx18_0
                      try clear p15
                      try clear p2
                      try clear p6
                      try clear q15
                      obtain ⟨x6_2, x8_2, rfl, HA, HK2, HO_6, HB⟩ := hrel
                      have hl6_2 := (Kd.S_reads' HO_6.out).1
                      rw [hl6_2] at HO_6
                      (try simp only [hl6_2])
                      cases gk with
                      | zero => exact absurd HA.out (by simp [tattingref7_AheadT.l1])
                      | succ k2 =>
                        have H := HA.out
                        clear HA
                        simp only [tattingref7_AheadT.l1] at H
                        by_cases c20 : x8_2 ≤ (l1.length : Int)
                        · rw [if_pos c20] at H
                          have c20b0 : decide (x8_2 ≤ (l1.length : Int)) = true := decide_eq_true c20
                          (try simp only [hl6_2] at c20b0)
                          clear c20
                          by_cases c21 : 0 ≤ x7_1
                          · rw [if_pos c21] at H
                            have c21b0 : decide (0 ≤ x7_1) = true := decide_eq_true c21
                            clear c21
                            by_cases c22 : x7_1 < (x6_2.length : Int)
                            · rw [if_pos c22] at H
                              have c22b0 : decide (x7_1 < (x6_2.length : Int)) = true := decide_eq_true c22
                              (try simp only [hl6_2] at c22b0)
                              clear c22
                              obtain ⟨ji23, hji23⟩ : ∃ j_ : Int, (wrap64 ((l0.length : Int) - x7_1)) = j_ := ⟨_, rfl⟩
                              replace H : (if 0 ≤ (ji23) then (if (ji23) < (bt134.length : Int) then (if 0 ≤ (wrap64 ((l1.length : Int) - x8_2)) then (if (wrap64 ((l1.length : Int) - x8_2)) < ((rd_L2 bt134 (ji23)).length : Int) then (if 0 ≤ x8_2 then (if x8_2 < ((rd_L2 x6_2 x7_1).length : Int) then (tattingref7_AheadT.l1 k2 l0 l1 bt134 (x6_2.set (x7_1 : Int).toNat ((rd_L2 x6_2 x7_1).set (x8_2 : Int).toNat (rd (rd_L2 bt134 (ji23)) (wrap64 ((l1.length : Int) - x8_2))))) x7_1 (wrap64 (x8_2 + 1))) else (none)) else (none)) else (none)) else (none)) else (none)) else (none)) = some r := by first | (rw [hji23] at H; exact H) | (simp only [hji23] at H ⊢; exact H)
                              have hji23w : (IntKind.i64.wrap ((l0.length : Int) - x7_1)) = ji23 := (i64_w _).trans hji23
                              by_cases c24 : 0 ≤ (ji23)
                              · rw [if_pos c24] at H
                                have c24b0 : decide (0 ≤ (ji23)) = true := decide_eq_true c24
                                clear c24
                                by_cases c25 : (ji23) < (bt134.length : Int)
                                · rw [if_pos c25] at H
                                  have c25b0 : decide ((ji23) < (bt134.length : Int)) = true := decide_eq_true c25
                                  (try simp only [hl6_2] at c25b0)
                                  clear c25
                                  obtain ⟨ji26, hji26⟩ : ∃ j_ : Int, (wrap64 ((l1.length : Int) - x8_2)) = j_ := ⟨_, rfl⟩
                                  replace H : (if 0 ≤ (ji26) then (if (ji26) < ((rd_L2 bt134 (ji23)).length : Int) then (if 0 ≤ x8_2 then (if x8_2 < ((rd_L2 x6_2 x7_1).length : Int) then (tattingref7_AheadT.l1 k2 l0 l1 bt134 (x6_2.set (x7_1 : Int).toNat ((rd_L2 x6_2 x7_1).set (x8_2 : Int).toNat (rd (rd_L2 bt134 (ji23)) (ji26)))) x7_1 (wrap64 (x8_2 + 1))) else (none)) else (none)) else (none)) else (none)) = some r := by first | (rw [hji26] at H; exact H) | (simp only [hji26] at H ⊢; exact H)
                                  have hji26w : (IntKind.i64.wrap ((l1.length : Int) - x8_2)) = ji26 := (i64_w _).trans hji26
                                  by_cases c27 : 0 ≤ (ji26)
                                  · rw [if_pos c27] at H
                                    have c27b0 : decide (0 ≤ (ji26)) = true := decide_eq_true c27
                                    clear c27
                                    by_cases c28 : (ji26) < ((rd_L2 bt134 (ji23)).length : Int)
                                    · rw [if_pos c28] at H
                                      have c28b0 : decide ((ji26) < ((rd_L2 bt134 (ji23)).length : Int)) = true := decide_eq_true c28
                                      (try simp only [hl6_2] at c28b0)
                                      clear c28
                                      by_cases c29 : 0 ≤ x8_2
                                      · rw [if_pos c29] at H
                                        have c29b0 : decide (0 ≤ x8_2) = true := decide_eq_true c29
                                        clear c29
                                        by_cases c30 : x8_2 < ((rd_L2 x6_2 x7_1).length : Int)
                                        · rw [if_pos c30] at H
                                          have c30b0 : decide (x8_2 < ((rd_L2 x6_2 x7_1).length : Int)) = true := decide_eq_true c30
                                          (try simp only [hl6_2] at c30b0)
                                          clear c30
                                          obtain ⟨y138, hy138⟩ : ∃ y_ : List Int, y_ = ((rd_L2 x6_2 x7_1).set (x8_2 : Int).toNat (rd (rd_L2 bt134 (ji23)) (ji26))) := ⟨_, rfl⟩
                                          replace H : (tattingref7_AheadT.l1 k2 l0 l1 bt134 (x6_2.set (x7_1 : Int).toNat y138) x7_1 (wrap64 (x8_2 + 1))) = some r := by first | (rw [hy138]; with_reducible exact H) | (have H2_ := (Option.bind_some _ _).symm.trans H; rw [hy138]; with_reducible exact H2_) | (have H2_ := (Option.bind_some _ _).symm.trans H; with_reducible exact H2_) | with_reducible exact H | (rw [hy138]; exact H) | exact H
                                          have Ny138 := Aside0.mk hy138
                                          clear hy138
                                          obtain ⟨y140, hy140⟩ : ∃ y_ : List (List Int), y_ = (x6_2.set (x7_1 : Int).toNat y138) := ⟨_, rfl⟩
                                          replace H : (tattingref7_AheadT.l1 k2 l0 l1 bt134 y140 x7_1 (wrap64 (x8_2 + 1))) = some r := by first | (rw [hy140]; with_reducible exact H) | (have H2_ := (Option.bind_some _ _).symm.trans H; rw [hy140]; with_reducible exact H2_) | (have H2_ := (Option.bind_some _ _).symm.trans H; with_reducible exact H2_) | with_reducible exact H | (rw [hy140]; exact H) | exact H
                                          have Ny140 := Aside0.mk hy140
                                          clear hy140
                                          have H' := Aside0.mk H
                                          clear H
                                          try go_wp2
                                          have n0_ := Aside0.mk (Kd.S_drew HO_6.out)
                                          have n1_ := Aside0.mk (below_drew1 HB.out)
                                          clear HO_6
                                          clear HB
                                          have HO_6 := n0_
                                          have HB := n1_
                                          clear n0_ n1_
                                          have p135 : 0 ≤ (x7_1 : Int) := of_decide_eq_true (by first | (with_reducible assumption) | assumption)
                                          have q135 : x7_1 < (x6_2.length : Int) := of_decide_eq_true (by first | (with_reducible assumption) | assumption)
                                          obtain ⟨ad135, A135_0, c135_0, e135, hx135_0, hl135_0, hi135_0⟩ := at_L2 (Kd.S_reads' HO_6.out).2.2 x7_1 p135 q135
                                          obtain rfl : (⟨go15, 0, none⟩ : Addr) = ad135 := (by injection e135)
                                          obtain ⟨ce135, hce135, hMe135, hcc135⟩ := Kd.S_get HO_6.out [] x7_1 p135 (by first | exact q135 | exact of_decide_eq_true (by first | (with_reducible assumption) | assumption) | (have e_ := (Kd.S_reads' HO_6.out).1; omega))
                                          obtain ⟨ve135_0, rfl, ge135_0⟩ := hMe135
                                          have hv135_0 := hcc135 0 _ rfl
                                          rw [Nat.add_zero, show ((Kd.slice 3 (Kd.int .i64))).sz = 1 from rfl, Nat.mul_one] at hv135_0
                                          replace hv135_0 := Option.some.inj (hv135_0.symm.trans hx135_0)
                                          rw [hv135_0] at ge135_0
                                          have HL135_0 := Aside0.mk (show Kd.R (Kd.int .i64) 3 _ _ _ _ (rd_L2 x6_2 x7_1) from ge135_0)
                                          clear hv135_0 ge135_0
                                          have HX135_0 := Aside0.mk hx135_0
                                          clear hcc135 hce135
                                          (first | simp only [add_plain] at hx135_0 | simp only [add_at] at hx135_0 | simp only [Addr.add, Nat.zero_add] at hx135_0 | skip)
                                          have HR135_0 := Aside0.mk hi135_0
                                          have HC135_0 := Aside0.mk hl135_0
                                          clear hi135_0 hl135_0
                                          replace p135 := eq_true p135
                                          replace q135 := eq_true q135
                                          have p136 : 0 ≤ ((ji23) : Int) := of_decide_eq_true (by first | (with_reducible assumption) | assumption)
                                          have q136 : (ji23) < (bt134.length : Int) := of_decide_eq_true (by first | (with_reducible assumption) | assumption)
                                          obtain ⟨ad136, A136_0, c136_0, e136, hx136_0, hl136_0, hi136_0⟩ := at_L2 HR2.out (ji23) p136 q136
                                          have hw136_0 := hx136_0
                                          cases e136
                                          replace hx136_0 := (HB.out.cell (World.block_lt_of_cell? bw10 _ hx136_0)).trans hx136_0
                                          have HR136_0 := Aside0.mk hi136_0
                                          have HC136_0 := Aside0.mk hl136_0
                                          clear hi136_0 hl136_0
                                          replace p136 := eq_true p136
                                          replace q136 := eq_true q136
                                          have p137 : 0 ≤ ((ji26) : Int) := of_decide_eq_true (by first | (with_reducible assumption) | assumption)
                                          have q137 : (ji26) < ((rd_L2 bt134 (ji23)).length : Int) := of_decide_eq_true (by first | (with_reducible assumption) | assumption)
                                          obtain ⟨ad137, e137, hx137_0⟩ := Kd.at_int HR136_0.out (ji26) p137 q137
                                          have hw137_0 := hx137_0
                                          cases e137
                                          replace hx137_0 := (HB.out.cell (World.block_lt_of_cell? bw10 _ hx137_0)).trans hx137_0
                                          replace p137 := eq_true p137
                                          replace q137 := eq_true q137
                                          have p31 : 0 ≤ (x8_2 : Int) := of_decide_eq_true (by first | (with_reducible assumption) | assumption)
                                          have q31 : (x8_2 : Int) < (((rd_L2 x6_2 x7_1).length : Int) : Int) := of_decide_eq_true (by first | (with_reducible assumption) | assumption)
                                          obtain ⟨go31, co31, eo31, gb31, gl31, cl31, HG31⟩ := Kd.R_form HL135_0.out (by omega)
                                          (first | cases eo31 | (injection eo31 with ea_ en_ ec_; (first | subst ea_ | (injection ea_ with ea_; subst ea_)); subst ec_; clear en_))
                                          have GB31 := Aside0.mk gb31
                                          have GG31 := Aside0.mk HG31
                                          clear gb31 gl31 HG31
                                          obtain ⟨hx31_0, hf31_0⟩ := Kd.R_celln 0 HL135_0.out (x8_2 : Int) p31 q31
                                          replace p31 := eq_true p31
                                          replace q31 := eq_true q31
                                          have hq33 : (x7_1 : Int) < (x6_2.length : Int) := (by have h_ : (x7_1 : Int) < ((x6_2.length : Int) : Int) := of_decide_eq_true (by first | (with_reducible assumption) | assumption); first | exact h_ | (have e_ := (Kd.S_reads' HO_6.out).1; omega) | simpa only [List.length_set, List.length_set] using h_)
                                          obtain ⟨oki33, ce33, hcl33, hM33, hcc33, hok33, hbk33⟩ := Kd.S_borrow HO_6.out [] (x7_1 : Int) (of_decide_eq_true (by first | (with_reducible assumption) | assumption)) hq33
                                          obtain ⟨ve33_0, rfl, ge33_0⟩ := hM33
                                          have hv33 := hcc33 0 _ rfl
                                          rw [Nat.add_zero, show ((Kd.slice 3 (Kd.int .i64))).sz = 1 from rfl, Nat.mul_one] at hv33
                                          replace hv33 := Option.some.inj (hv33.symm.trans HX135_0.out)
                                          subst hv33
                                          clear hcc33 hcl33
                                          replace ge33_0 := (show Kd.R (Kd.int .i64) 3 _ _ _ _ (rd_L2 x6_2 x7_1) from ge33_0)
                                          have HP33 := Kd.R_putg ge33_0 (x8_2 : Int) (rd (rd_L2 bt134 (ji23)) (ji26))
                                          rw [← Ny138.out] at HP33
                                          have HS33 := hbk33 HP33.2 (fun k_ e_ => by injection e_ with e_; subst e_; exact ge33_0.1 _ rfl) (x' := y138) (Kd.M_row HP33.1)
                                          rw [← Ny140.out] at HS33
                                          have HQ33 := Aside0.mk HS33
                                          clear HP33 HS33 hbk33 hok33
                                          refine start_ (n := 20) (S := fun w' => w'.cell? ⟨go15, (x7_1).toNat, none⟩ = some (.slice (some ⟨go31, 0, none⟩) (rd_L2 x6_2 x7_1).length c135_0) ∧ w'.cell? (ad136.add ((ji23)).toNat) = some (.slice (some ad137) (rd_L2 bt134 (ji23)).length c136_0) ∧ w'.cell? (ad137.add ((ji26)).toNat) = some (.int .i64 (rd (rd_L2 bt134 (ji23)) (ji26)))) (ds := [19]) #[false, false, false, false, false, false, false, false, false, false, false, false, false, false, false, false, false, false, false, false] (by kernel_rfl) rfl rfl ⟨hx135_0, ((HB.out.cell (World.block_lt_of_cell? bw10 _ hw136_0)).trans hw136_0), ((HB.out.cell (World.block_lt_of_cell? bw10 _ hw137_0)).trans hw137_0)⟩ (fun hHeld => ?_); refine with_tabW tattingref7_AheadT.tab10 tattingref7_AheadT.bits10 (fun HT_ HW_ => ?_)
                                          generalize wr.drew = w32 at HO_6 HB GG31 HL135_0 HQ33 HR135_0 HR136_0 HX135_0 hf31_0 hx135_0 hx136_0 hx137_0 hx31_0 hHeld ⊢
                                          refine pure_ (i := 0) (N := some 37) (v := ?_) (a' := ?_) #[true, false, false, false, false, false, false, false, false, false, false, false, false, false, false, false, false, false, false, false] rfl rfl (any_of HT_.out (by kernel_rfl)) (fun _ _ _ h => h) (Or.inl ⟨by rfl, ?_⟩) ?_ ?_
                                          rotate_left
                                          · intro w'
                                            go_simp
                                            with_reducible rfl
                                          rotate_left
                                          · simp only [Act.put, List.setIfInBounds_toArray, List.set_cons_zero, List.set_cons_succ, i64_w, i32_w]
                                            rfl
                                          refine pure_ (i := 1) (N := some 38) (v := ?_) (a' := ?_) #[true, true, false, false, false, false, false, false, false, false, false, false, false, false, false, false, false, false, false, false] rfl rfl (any_of HT_.out (by kernel_rfl)) (fun _ _ _ h => h) (Or.inl ⟨by rfl, ?_⟩) ?_ ?_
                                          rotate_left
                                          · intro w'
                                            go_simp
                                            with_reducible rfl
                                          rotate_left
                                          · simp only [Act.put, List.setIfInBounds_toArray, List.set_cons_zero, List.set_cons_succ, i64_w, i32_w]
                                            rfl
                                          refine pure_ (i := 2) (N := some 39) (v := ?_) (a' := ?_) #[true, true, true, false, false, false, false, false, false, false, false, false, false, false, false, false, false, false, false, false] rfl rfl (any_of HT_.out (by kernel_rfl)) (fun _ _ _ h => h) (Or.inl ⟨by rfl, ?_⟩) ?_ ?_
                                          rotate_left
                                          · intro w'
                                            go_simp
                                            with_reducible rfl
                                          rotate_left
                                          · simp only [Act.put, List.setIfInBounds_toArray, List.set_cons_zero, List.set_cons_succ, i64_w, i32_w]
                                            rfl
                                          refine pure_ (i := 4) (N := some 41) (v := ?_) (a' := ?_) #[true, true, true, false, true, false, false, false, false, false, false, false, false, false, false, false, false, false, false, false] rfl rfl (any_of HT_.out (by kernel_rfl)) (fun _ _ _ h => h) (Or.inl ⟨by rfl, ?_⟩) ?_ ?_
                                          rotate_left
                                          · intro w'
                                            go_simp
                                            with_reducible rfl
                                          rotate_left
                                          · simp only [Act.put, List.setIfInBounds_toArray, List.set_cons_zero, List.set_cons_succ, i64_w, i32_w]
                                            rfl
                                          refine pure_ (i := 5) (N := some 42) (v := ?_) (a' := ?_) #[true, true, true, false, true, true, false, false, false, false, false, false, false, false, false, false, false, false, false, false] rfl rfl (any_of HT_.out (by kernel_rfl)) (fun _ _ _ h => h) (Or.inl ⟨by rfl, ?_⟩) ?_ ?_
                                          rotate_left
                                          · intro w'
                                            go_simp
                                            with_reducible rfl
                                          rotate_left
                                          · simp only [Act.put, List.setIfInBounds_toArray, List.set_cons_zero, List.set_cons_succ, i64_w, i32_w]
                                            rfl
                                          refine pure_ (i := 6) (N := some 43) (v := ?_) (a' := ?_) #[true, true, true, false, true, true, true, false, false, false, false, false, false, false, false, false, false, false, false, false] rfl rfl (any_of HT_.out (by kernel_rfl)) (fun _ _ _ h => h) (Or.inl ⟨by rfl, ?_⟩) ?_ ?_
                                          rotate_left
                                          · intro w'
                                            go_simp
                                            with_reducible rfl
                                          rotate_left
                                          · simp only [Act.put, List.setIfInBounds_toArray, List.set_cons_zero, List.set_cons_succ, i64_w, i32_w]
                                            rfl
                                          refine pure_ (i := 7) (N := some 44) (v := ?_) (a' := ?_) #[true, true, true, false, true, true, true, true, false, false, false, false, false, false, false, false, false, false, false, false] rfl rfl (any_of HT_.out (by kernel_rfl)) (fun _ _ _ h => h) (Or.inl ⟨by rfl, ?_⟩) ?_ ?_
                                          rotate_left
                                          · intro w'
                                            go_simp
                                            with_reducible rfl
                                          rotate_left
                                          · simp only [Act.put, List.setIfInBounds_toArray, List.set_cons_zero, List.set_cons_succ, i64_w, i32_w]
                                            rfl
                                          refine pure_ (i := 8) (N := some 45) (v := ?_) (a' := ?_) #[true, true, true, false, true, true, true, true, true, false, false, false, false, false, false, false, false, false, false, false] rfl rfl (any_of HT_.out (by kernel_rfl)) (fun _ _ _ h => h) (Or.inl ⟨by rfl, ?_⟩) ?_ ?_
                                          rotate_left
                                          · intro w'
                                            go_simp
                                            with_reducible rfl
                                          rotate_left
                                          · simp only [Act.put, List.setIfInBounds_toArray, List.set_cons_zero, List.set_cons_succ, i64_w, i32_w]
                                            rfl
                                          refine pure_ (i := 9) (N := some 46) (v := ?_) (a' := ?_) #[true, true, true, false, true, true, true, true, true, true, false, false, false, false, false, false, false, false, false, false] rfl rfl (any_of HT_.out (by kernel_rfl)) (fun _ _ _ h => h) (Or.inl ⟨by rfl, ?_⟩) ?_ ?_
                                          rotate_left
                                          · intro w'
                                            go_simp
                                            with_reducible rfl
                                          rotate_left
                                          · simp only [Act.put, List.setIfInBounds_toArray, List.set_cons_zero, List.set_cons_succ, i64_w, i32_w]
                                            rfl
                                          refine pure_ (i := 10) (N := some 47) (v := ?_) (a' := ?_) #[true, true, true, false, true, true, true, true, true, true, true, false, false, false, false, false, false, false, false, false] rfl rfl (any_of HT_.out (by kernel_rfl)) (fun _ _ _ h => h) (Or.inl ⟨by rfl, ?_⟩) ?_ ?_
                                          rotate_left
                                          · intro w'
                                            go_simp
                                            with_reducible rfl
                                          rotate_left
                                          · simp only [Act.put, List.setIfInBounds_toArray, List.set_cons_zero, List.set_cons_succ, i64_w, i32_w]
                                            rfl
                                          refine pure_ (i := 12) (N := some 49) (v := ?_) (a' := ?_) #[true, true, true, false, true, true, true, true, true, true, true, false, true, false, false, false, false, false, false, false] rfl rfl (any_of HT_.out (by kernel_rfl)) (fun _ _ _ h => h) (Or.inl ⟨by rfl, ?_⟩) ?_ ?_
                                          rotate_left
                                          · intro w'
                                            go_simp
                                            with_reducible rfl
                                          rotate_left
                                          · simp only [Act.put, List.setIfInBounds_toArray, List.set_cons_zero, List.set_cons_succ, i64_w, i32_w]
                                            rfl
                                          refine pure_ (i := 13) (N := some 50) (v := ?_) (a' := ?_) #[true, true, true, false, true, true, true, true, true, true, true, false, true, true, false, false, false, false, false, false] rfl rfl (any_of HT_.out (by kernel_rfl)) (fun _ _ _ h => h) (Or.inl ⟨by rfl, ?_⟩) ?_ ?_
                                          rotate_left
                                          · intro w'
                                            go_simp
                                            with_reducible rfl
                                          rotate_left
                                          · simp only [Act.put, List.setIfInBounds_toArray, List.set_cons_zero, List.set_cons_succ, i64_w, i32_w]
                                            rfl
                                          refine pure_ (i := 14) (N := some 51) (v := ?_) (a' := ?_) #[true, true, true, false, true, true, true, true, true, true, true, false, true, true, true, false, false, false, false, false] rfl rfl (any_of HT_.out (by kernel_rfl)) (fun _ _ _ h => h) (Or.inl ⟨by rfl, ?_⟩) ?_ ?_
                                          rotate_left
                                          · intro w'
                                            go_simp
                                            with_reducible rfl
                                          rotate_left
                                          · simp only [Act.put, List.setIfInBounds_toArray, List.set_cons_zero, List.set_cons_succ, i64_w, i32_w]
                                            rfl
                                          refine pure_ (i := 15) (N := some 52) (v := ?_) (a' := ?_) #[true, true, true, false, true, true, true, true, true, true, true, false, true, true, true, true, false, false, false, false] rfl rfl (any_of HT_.out (by kernel_rfl)) (fun _ _ _ h => h) (Or.inl ⟨by rfl, ?_⟩) ?_ ?_
                                          rotate_left
                                          · intro w'
                                            go_simp
                                            with_reducible rfl
                                          rotate_left
                                          · simp only [Act.put, List.setIfInBounds_toArray, List.set_cons_zero, List.set_cons_succ, i64_w, i32_w]
                                            rfl
                                          refine take_ (i := 3) (N := some 40) (v := ?_) (a' := ?_) #[true, true, true, true, true, true, true, true, true, true, true, false, true, true, true, true, false, false, false, false] rfl rfl (take_ofW HT_.out HW_.out (by kernel_rfl)) (fun _ _ _ h => h) (Or.inl ⟨by rfl, ?_⟩) hHeld ?_ ?_
                                          rotate_left
                                          · rintro w' ⟨s0, s1, s2⟩
                                            go_simp
                                            with_reducible rfl
                                          rotate_left
                                          · simp only [Act.put, List.setIfInBounds_toArray, List.set_cons_zero, List.set_cons_succ, i64_w, i32_w]
                                            rfl
                                          refine take_ (i := 11) (N := some 48) (v := ?_) (a' := ?_) #[true, true, true, true, true, true, true, true, true, true, true, true, true, true, true, true, false, false, false, false] rfl rfl (take_ofW HT_.out HW_.out (by kernel_rfl)) (fun _ _ _ h => h) (Or.inl ⟨by rfl, ?_⟩) hHeld ?_ ?_
                                          rotate_left
                                          · rintro w' ⟨s0, s1, s2⟩
                                            go_simp
                                            with_reducible rfl
                                          rotate_left
                                          · simp only [Act.put, List.setIfInBounds_toArray, List.set_cons_zero, List.set_cons_succ, i64_w, i32_w]
                                            rfl
                                          refine pure_ (i := 16) (N := some 53) (v := ?_) (a' := ?_) #[true, true, true, true, true, true, true, true, true, true, true, true, true, true, true, true, true, false, false, false] rfl rfl (any_of HT_.out (by kernel_rfl)) (fun _ _ _ h => h) (Or.inl ⟨by rfl, ?_⟩) ?_ ?_
                                          rotate_left
                                          · intro w'
                                            go_simp
                                            with_reducible rfl
                                          rotate_left
                                          · simp only [Act.put, List.setIfInBounds_toArray, List.set_cons_zero, List.set_cons_succ, i64_w, i32_w]
                                            rfl
                                          refine take_ (i := 17) (N := some 54) (v := ?_) (a' := ?_) #[true, true, true, true, true, true, true, true, true, true, true, true, true, true, true, true, true, true, false, false] rfl rfl (take_ofW HT_.out HW_.out (by kernel_rfl)) (fun _ _ _ h => h) (Or.inl ⟨by rfl, ?_⟩) hHeld ?_ ?_
                                          rotate_left
                                          · rintro w' ⟨s0, s1, s2⟩
                                            go_simp
                                            with_reducible rfl
                                          rotate_left
                                          · simp only [Act.put, List.setIfInBounds_toArray, List.set_cons_zero, List.set_cons_succ, i64_w, i32_w]
                                            rfl
                                          refine pure_ (i := 18) (N := some 55) (v := ?_) (a' := ?_) #[true, true, true, true, true, true, true, true, true, true, true, true, true, true, true, true, true, true, true, false] rfl rfl (any_of HT_.out (by kernel_rfl)) (fun _ _ _ h => h) (Or.inl ⟨by rfl, ?_⟩) ?_ ?_
                                          rotate_left
                                          · intro w'
                                            go_simp
                                            with_reducible rfl
                                          rotate_left
                                          · simp only [Act.put, List.setIfInBounds_toArray, List.set_cons_zero, List.set_cons_succ, i64_w, i32_w]
                                            rfl
                                          refine last_ (i := 19) (N := none) #[true, true, true, true, true, true, true, true, true, true, true, true, true, true, true, true, true, true, true, true] rfl rfl (one_of HT_.out (by kernel_rfl)) (by decide) (fun K hK => ?_)
                                          refine skip_ (w1 := ?_) (by rfl) rfl ?_ ?_
                                          rotate_left
                                          · go_simp
                                            rfl
                                          refine hK.out _ _ ?_
                                          clear hK K
                                          refine done_ (done_of HT_.out (by kernel_rfl)) ?_
                                          try go_wp2
                                          (try simp only [← hl6_2])
                                          go_roundg k2
                                          case measure => have := HK1.out; have := HK2.out; omega
                                          case rel => exact ⟨(y140), (wrap64 (x8_2 + 1)), (by first | rfl | (simp; done) | (simp [*]; done)), H', ⟨by have := HK1.out; have := HK2.out; omega⟩, ⟨by (try simp only [hl6_2]); (with_reducible repeat (first | apply Kd.S_alloc | apply Kd.S_drewN | apply Kd.S_drew)); exact HQ33.out⟩, ⟨by repeat (first | (with_reducible first | exact HB.out | apply below_alloc | apply pw_below_drewN | apply below_drew1 | refine below_set ?_ GB31.out) | exact HB.out)⟩⟩
                                        · rw [if_neg c30] at H
                                          exact absurd H (by simp)
                                      · rw [if_neg c29] at H
                                        exact absurd H (by simp)
                                    · rw [if_neg c28] at H
                                      exact absurd H (by simp)
                                  · rw [if_neg c27] at H
                                    exact absurd H (by simp)
                                · rw [if_neg c25] at H
                                  exact absurd H (by simp)
                              · rw [if_neg c24] at H
                                exact absurd H (by simp)
                            · rw [if_neg c22] at H
                              exact absurd H (by simp)
                          · rw [if_neg c21] at H
                            exact absurd H (by simp)
                        · rw [if_neg c20] at H
                          have c20b0 : decide (x8_2 ≤ (l1.length : Int)) = false := decide_eq_false c20
                          (try simp only [hl6_2] at c20b0)
                          clear c20
                          have H' := Aside0.mk H
                          clear H
                          go_wp2
                          (try simp only [← hl6_2])
                          go_roundg k2
                          case measure => have := HK1.out; have := HK2.out; omega
                          case rel => exact ⟨(x6_2), (wrap64 (x7_1 + 1)), (by first | rfl | (simp; done) | (simp [*]; done)), H', ⟨by have := HK1.out; have := HK2.out; omega⟩, ⟨by (try simp only [hl6_2]); (with_reducible repeat (first | apply Kd.S_alloc | apply Kd.S_drewN | apply Kd.S_drew)); exact HO_6.out⟩, ⟨by repeat (first | (with_reducible first | exact HB.out | apply below_alloc | apply pw_below_drewN | apply below_drew1) | exact HB.out)⟩⟩
                  · rw [if_neg c14] at H
                    exact absurd H (by simp)
                · rw [if_neg c13] at H
                  exact absurd H (by simp)
              · rw [if_neg c12] at H
                exact absurd H (by simp)
            · rw [if_neg c11] at H
              exact absurd H (by simp)
          · rw [if_neg c9] at H
            have c9b0 : decide (x7_1 ≤ (l0.length : Int)) = false := decide_eq_false c9
            clear c9
            obtain rfl := Option.some.inj H
            go_wp2
            go_ret
            exact ⟨_, by first | rfl | (simp [errW_none, errW_some] <;> rfl) | (simp only [← hji4]; first | rfl | (simp [errW_none, errW_some] <;> rfl)) | (simp [*, errW_none, errW_some] <;> rfl), by exact Kd.S_lower (by (with_reducible repeat (first | apply Kd.S_alloc | apply Kd.S_drewN | apply Kd.S_drew)); exact HO_6.out) (below_size HB0.out), below_step HB0.out (by repeat (first | (with_reducible first | exact HB.out | apply below_alloc | apply pw_below_drewN | apply below_drew1) | exact HB.out))⟩
    · rw [if_neg c6] at H
      exact absurd H (by simp)
  · rw [if_neg c5] at H
    exact absurd H (by simp)
end Go.Proofs.Ytbbbcdfagmcfgaa.PV
