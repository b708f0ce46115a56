-- Printed by a program of this session out of the seat (wip/xprint.py).
import Derived.Test.YteahldmjmncmlaaPVx0
import Derived.Test.YteahldmjmncmlaaPVx1
namespace Go.Proofs.Yteahldmjmncmlaa.PV
open Go.RowKit Go.Proofs.YteahldmjmncmlaaW.PrintWords Go.Proofs.YteahldmjmncmlaaW.PrintLast Go.Proofs.YteahldmjmncmlaaW.PrintMore Go.Proofs.Yteahldmjmncmlaa.XBits
attribute [local go_sem] max2_int min2_int max_two min_two max_three min_three max_four min_four   -- for this text's walks alone
set_option linter.unusedVariables false
set_option linter.unusedSimpArgs false
attribute [local go_sem] run_ext32 run_ext35

/-! ### vec_And: function 15 -/
def vec_And.l0 : Nat → List Int → List Int → List Int → Int → Int → Option (List Int)
  | 0, _, _, _, _, _ => none
  | k + 1, x0, x1, x5, x14, x15 => if x15 < x14 then ((vec_at.f x0 x15).bind fun t206 => ((vec_at.f x1 x15).bind fun t207 => (if 0 ≤ x15 then (if x15 < (x5.length : Int) then (vec_And.l0 k x0 x1 (x5.set (x15 : Int).toNat (Go.bits .and .u64 t206 t207)) x14 (wrap64 (x15 + 1))) else (none)) else (none)))) else (some x5)
def vec_And.f (k : Nat) (l0 : List Int) (l1 : List Int) : Option (List Int) := if 0 ≤ (mx (l0.length : Int) (l1.length : Int)) then (if (mx (l0.length : Int) (l1.length : Int) : Int).toNat ≤ 35184372088832 then ((some (List.replicate (mx (l0.length : Int) (l1.length : Int) : Int).toNat 0 : List Int)).bind fun y203 => (vec_And.l0 k l0 l1 y203 (y203.length : Int) 0)) else (none)) else (none)
theorem vec_And.mono_l : ∀ k, (∀ y0 y1 y2 y3 y4, LeO (vec_And.l0 k y0 y1 y2 y3 y4) (vec_And.l0 (k + 1) y0 y1 y2 y3 y4))
  | 0 => fun _ _ _ _ _ r h => by simp [vec_And.l0] at h
  | k + 1 => by
    have ih0 := vec_And.mono_l k
    · intro y0 y1 y2 y3 y4
      unfold vec_And.l0
      repeat' first
      | (with_reducible exact ih0 _ _ _ _ _)
      | (with_reducible exact LeO.refl _)
      | (with_reducible exact LeO.none _)
      | (with_reducible refine LeO.ite ?_ ?_)
      | (with_reducible refine LeO.bind ?_ (fun _ => ?_))
      | exact ih0 _ _ _ _ _
      | exact LeO.none _
      | refine LeO.ite ?_ ?_
      | refine LeO.bind ?_ (fun _ => ?_)
theorem vec_And.mono : ∀ a0 a1 k, LeO (vec_And.f k a0 a1) (vec_And.f (k + 1) a0 a1) := by
  intro a0 a1 k
  have ih0 := vec_And.mono_l k
  unfold vec_And.f
  repeat' first
      | (with_reducible exact ih0 _ _ _ _ _)
      | (with_reducible exact LeO.refl _)
      | (with_reducible exact LeO.none _)
      | (with_reducible refine LeO.ite ?_ ?_)
      | (with_reducible refine LeO.bind ?_ (fun _ => ?_))
      | exact ih0 _ _ _ _ _
      | exact LeO.none _
      | refine LeO.ite ?_ ?_
      | refine LeO.bind ?_ (fun _ => ?_)
set_option maxHeartbeats 8000000 in
set_option maxRecDepth 100000 in
theorem vec_And.calls (k : Nat) (A0 : Option Addr) (c0 : Nat) (l0 : List Int) (A1 : Option Addr) (c1 : Nat) (l1 : List Int) (r : List Int) (w : World) (hr0 : Kd.C (Kd.int .u64) w A0 l0.length l0) (hc0 : l0.length ≤ c0) (hr1 : Kd.C (Kd.int .u64) w A1 l1.length l1) (hc1 : l1.length ≤ c1) (h : vec_And.f k l0 l1 = some r) :
    Calls Try.prog 15 #[.slice A0 l0.length c0, .slice A1 l1.length c1] w fun e w' => ∃ v0_ : Value, e = .returned (v0_) ∧ Kd.R (Kd.int .u64) 33 w' w.heap.size (fun _ => True) v0_ r ∧ Below w.heap.size w w' := by
  have HR0 := Aside0.mk hr0
  have HC0 := Aside0.mk hc0
  clear hr0 hc0
  have HR1 := Aside0.mk hr1
  have HC1 := Aside0.mk hc1
  clear hr1 hc1
  have HB := Aside0.mk (Below.refl w.heap.size w)
  have H : (if 0 ≤ (mx (l0.length : Int) (l1.length : Int)) then (if (mx (l0.length : Int) (l1.length : Int) : Int).toNat ≤ 35184372088832 then ((some (List.replicate (mx (l0.length : Int) (l1.length : Int) : Int).toNat 0 : List Int)).bind fun y203 => (vec_And.l0 k l0 l1 y203 (y203.length : Int) 0)) else (none)) else (none)) = some r := h
  clear h
  obtain ⟨ji3, hji3⟩ : ∃ j_ : Int, (mx (l0.length : Int) (l1.length : Int)) = j_ := ⟨_, rfl⟩
  replace H : (if 0 ≤ (ji3) then (if (ji3 : Int).toNat ≤ 35184372088832 then ((some (List.replicate (ji3 : Int).toNat 0 : List Int)).bind fun y203 => (vec_And.l0 k l0 l1 y203 (y203.length : Int) 0)) else (none)) else (none)) = some r := by first | (rw [hji3] at H; exact H) | (simp only [hji3] at H ⊢; exact H)
  (try (have hji3l : 0 ≤ ji3 := by (rw [← hji3]; unfold mx; (repeat' split) <;> omega)))
  (try (have hji3m : 0 ≤ ji3 := by omega))
  have hji3_ : (if (l0.length : Int) < (l1.length : Int) then (l1.length : Int) else (l0.length : Int)) = ji3 := hji3
  have hji3n : (if l0.length < l1.length then (l1.length : Int) else (l0.length : Int)) = ji3 := by have h_ := hji3_; simp only [Int.ofNat_lt] at h_; exact h_
  by_cases c4 : 0 ≤ (ji3)
  · rw [if_pos c4] at H
    have c4b0 := eq_true c4
    have c4b1 : decide (0 ≤ (ji3)) = true := decide_eq_true c4
    clear c4
    by_cases c5 : (ji3 : Int).toNat ≤ 35184372088832
    · rw [if_pos c5] at H
      have c5b0 := eq_true c5
      have c5b1 : decide ((ji3 : Int).toNat ≤ 35184372088832) = true := decide_eq_true c5
      clear c5
      obtain ⟨y203, hy203⟩ : ∃ y_ : List Int, y_ = (List.replicate (ji3 : Int).toNat 0) := ⟨_, rfl⟩
      replace H : (vec_And.l0 k l0 l1 y203 (y203.length : Int) 0) = some r := by first | (rw [hy203]; with_reducible exact H) | (have H2_ := (Option.bind_some _ _).symm.trans H; rw [hy203]; with_reducible exact H2_) | (have H2_ := (Option.bind_some _ _).symm.trans H; with_reducible exact H2_) | with_reducible exact H | (rw [hy203]; exact H) | exact H
      have Ny203 := Aside0.mk hy203
      clear hy203
      have H' := Aside0.mk H
      clear H
      go_enter Try.func15, Try.ntmps15
      go_wp2_with (first | ((with_reducible refine gate_dst (N := 12) rfl ?_); refine Kd.R_make (Kd.int .u64) _ 33 rfl (N := 12) rfl 22 _ _ rfl ji3 rfl rfl Try.underlying22 (.int .u64 0) 8 info33 rfl (by decide) (by omega) 0 (ok := fun _ => True) (okp := fun _ => True) rfl (fun _ hk => hk) trivial (of_decide_eq_true (by first | (with_reducible assumption) | assumption)) (Nat.le_trans (Nat.mul_le_mul_right _ (of_decide_eq_true (by first | (with_reducible assumption) | assumption) : ji3.toNat ≤ 35184372088832)) (by omega)) (Below.refl _ _) (Nat.le_refl _) ?_; intro v204 w6 ho7 hb hg_ hnew_; clear hg_ hnew_; (first | rw [← Ny203.out] at ho7 | (simp only [Int.reduceToNat] at ho7; rw [← Ny203.out] at ho7)); have n0_ := Aside0.mk (Kd.R_lower ho7 (below_size (by repeat (first | (with_reducible first | exact HB.out | apply below_alloc | apply pw_below_drewN | apply below_drew1) | exact HB.out)))); have n1_ := Aside0.mk (below_step (by repeat (first | (with_reducible first | exact HB.out | apply below_alloc | apply pw_below_drewN | apply below_drew1) | exact HB.out)) hb); clear HB; have HO205 := n0_; have HB := n1_; clear n0_ n1_; clear hb ho7; obtain ⟨Ao8, co8, eo8⟩ := Kd.R_slice HO205.out; subst eo8))
      go_loopg [15] k (fun kq v15 w' => ∃ (x5_1 : List Int) (x15_1 : Int), v15 = .int .i64 x15_1 ∧ Aside0 (vec_And.l0 kq l0 l1 x5_1 (y203.length : Int) x15_1 = some r) ∧ Aside0 (kq ≤ k) ∧ Aside0 (Kd.R (Kd.int .u64) 33 w' w.heap.size (fun _ => True) (.slice Ao8 y203.length co8) x5_1) ∧ Aside0 (Below w.heap.size w w'))
      case atStart => exact ⟨(y203), (0), (by first | rfl | (simp; done) | (simp [*]; done)), H', ⟨Nat.le_refl _⟩, ⟨by (with_reducible repeat (first | apply Kd.R_alloc | apply Kd.R_drewN | apply Kd.R_drew)); exact HO205.out⟩, ⟨by repeat (first | (with_reducible first | exact HB.out | apply below_alloc | apply pw_below_drewN | apply below_drew1) | exact HB.out)⟩⟩
      case round =>
        clear H'
        try clear c1
        try clear p2
        try clear c4
        try clear c4b0
        try clear c4b1
        try clear c5
        try clear c5b0
        try clear c5b1
        obtain ⟨x5_1, x15_1, rfl, HA, HK1, HO_5, HB⟩ := hrel
        have hl5_1 := (Kd.R_reads' HO_5.out).1
        rw [hl5_1] at HO_5
        (try simp only [hl5_1])
        cases gk with
        | zero => exact absurd HA.out (by simp [vec_And.l0])
        | succ k1 =>
          have H := HA.out
          clear HA
          simp only [vec_And.l0] at H
          by_cases c9 : x15_1 < (y203.length : Int)
          · rw [if_pos c9] at H
            have c9b0 : decide (x15_1 < (y203.length : Int)) = true := decide_eq_true c9
            (try simp only [hl5_1] at c9b0)
            clear c9
            replace H := Option.bind_eq_some_iff.mp H
            obtain ⟨t206, A100, H⟩ := H
            replace H : ((vec_at.f l1 x15_1).bind fun t207 => (if 0 ≤ x15_1 then (if x15_1 < (x5_1.length : Int) then (vec_And.l0 k1 l0 l1 (x5_1.set (x15_1 : Int).toNat (Go.bits .and .u64 t206 t207)) (y203.length : Int) (wrap64 (x15_1 + 1))) else (none)) else (none))) = some r := H
            have A10 := Aside0.mk A100
            clear A100
            replace H := Option.bind_eq_some_iff.mp H
            obtain ⟨t207, A110, H⟩ := H
            replace H : (if 0 ≤ x15_1 then (if x15_1 < (x5_1.length : Int) then (vec_And.l0 k1 l0 l1 (x5_1.set (x15_1 : Int).toNat (Go.bits .and .u64 t206 t207)) (y203.length : Int) (wrap64 (x15_1 + 1))) else (none)) else (none)) = some r := H
            have A11 := Aside0.mk A110
            clear A110
            by_cases c12 : 0 ≤ x15_1
            · rw [if_pos c12] at H
              have c12b0 : decide (0 ≤ x15_1) = true := decide_eq_true c12
              clear c12
              by_cases c13 : x15_1 < (x5_1.length : Int)
              · rw [if_pos c13] at H
                have c13b0 : decide (x15_1 < (x5_1.length : Int)) = true := decide_eq_true c13
                (try simp only [hl5_1] at c13b0)
                clear c13
                obtain ⟨y208, hy208⟩ : ∃ y_ : List Int, y_ = (x5_1.set (x15_1 : Int).toNat (Go.bits .and .u64 t206 t207)) := ⟨_, rfl⟩
                replace H : (vec_And.l0 k1 l0 l1 y208 (y203.length : Int) (wrap64 (x15_1 + 1))) = some r := by first | (rw [hy208]; with_reducible exact H) | (have H2_ := (Option.bind_some _ _).symm.trans H; rw [hy208]; with_reducible exact H2_) | (have H2_ := (Option.bind_some _ _).symm.trans H; with_reducible exact H2_) | with_reducible exact H | (rw [hy208]; exact H) | exact H
                have Ny208 := Aside0.mk hy208
                clear hy208
                have H' := Aside0.mk H
                clear H
                go_wp2_with (first | ((with_reducible refine gate_callee (f := 33) rfl ?_); refine goesL_ (some 22) rfl rfl Try.func33 (by kernel_rfl) rfl #[.slice A0 l0.length c0, .int .i64 x15_1] rfl (by (try simp only [List.map_toArray, List.map_cons, List.map_nil]); first | done | rfl | (simp only [List.length_drop, List.length_take]; rfl)) ?_; (with_reducible refine (vec_at.calls _ _ l0 x15_1 t206 _ ?side1 ?side2 A10.out).mono ?_); (case side1 => repeat (first | exact (Kd.C_below HR0.out HB.out) | (with_reducible refine Kd.C_alloc ?_ _) | (with_reducible refine Kd.C_drewN ?_ _) | (with_reducible refine Kd.C_drew ?_))); (case side2 => exact HC0.out); rintro e w' ⟨rfl, ⟨nd, rfl⟩⟩; refine ⟨_, rfl, ?_⟩; (try (rw [drewN_self wr]; generalize hq_ : World.drewN wr _ = wr; have n0_ : Aside0 (Kd.R (Kd.int .u64) 33 wr w.heap.size (fun _ => True) (.slice Ao8 x5_1.length co8) x5_1) := ⟨by rw [← hq_]; exact (by (with_reducible repeat (first | apply Kd.R_alloc | apply Kd.R_drewN | apply Kd.R_drew)); exact HO_5.out)⟩; have n1_ : Aside0 (Below w.heap.size w wr) := ⟨by rw [← hq_]; exact (by repeat (first | (with_reducible first | exact HB.out | apply below_alloc | apply pw_below_drewN | apply below_drew1) | exact HB.out))⟩; clear HO_5 HB hq_; have HO_5 := n0_; have HB := n1_; clear n0_ n1_))) | ((with_reducible refine gate_callee (f := 33) rfl ?_); refine goesL_ (some 25) rfl rfl Try.func33 (by kernel_rfl) rfl #[.slice A1 l1.length c1, .int .i64 x15_1] rfl (by (try simp only [List.map_toArray, List.map_cons, List.map_nil]); first | done | rfl | (simp only [List.length_drop, List.length_take]; rfl)) ?_; (with_reducible refine (vec_at.calls _ _ l1 x15_1 t207 _ ?side1 ?side2 A11.out).mono ?_); (case side1 => repeat (first | exact (Kd.C_below HR1.out HB.out) | (with_reducible refine Kd.C_alloc ?_ _) | (with_reducible refine Kd.C_drewN ?_ _) | (with_reducible refine Kd.C_drew ?_))); (case side2 => exact HC1.out); rintro e w' ⟨rfl, ⟨nd, rfl⟩⟩; refine ⟨_, rfl, ?_⟩; (try (rw [drewN_self wr]; generalize hq_ : World.drewN wr _ = wr; have n0_ : Aside0 (Kd.R (Kd.int .u64) 33 wr w.heap.size (fun _ => True) (.slice Ao8 x5_1.length co8) x5_1) := ⟨by rw [← hq_]; exact (by (with_reducible repeat (first | apply Kd.R_alloc | apply Kd.R_drewN | apply Kd.R_drew)); exact HO_5.out)⟩; have n1_ : Aside0 (Below w.heap.size w wr) := ⟨by rw [← hq_]; exact (by repeat (first | (with_reducible first | exact HB.out | apply below_alloc | apply pw_below_drewN | apply below_drew1) | exact HB.out))⟩; clear HO_5 HB hq_; have HO_5 := n0_; have HB := n1_; clear n0_ n1_)); have p14 : 0 ≤ (x15_1 : Int) := of_decide_eq_true (by first | (with_reducible assumption) | assumption); have q14 : (x15_1 : Int) < ((x5_1.length : Int) : Int) := of_decide_eq_true (by first | (with_reducible assumption) | assumption); obtain ⟨go14, co14, eo14, gb14, gl14, cl14, HG14⟩ := Kd.R_form HO_5.out (by omega); (first | cases eo14 | (injection eo14 with ea_ en_ ec_; (first | subst ea_ | (injection ea_ with ea_; subst ea_)); subst ec_; clear en_)); have GB14 := Aside0.mk gb14; have GG14 := Aside0.mk HG14; clear gb14 gl14 HG14; obtain ⟨hx14_0, hf14_0⟩ := Kd.R_celln 0 HO_5.out (x15_1 : Int) p14 q14; replace p14 := eq_true p14; replace q14 := eq_true q14; obtain ⟨hy15_, hz15_⟩ := Kd.R_celln 0 HO_5.out (x15_1 : Int) (of_decide_eq_true (by first | (with_reducible assumption) | assumption)) (of_decide_eq_true (by first | (with_reducible assumption) | assumption)); have HP15 := Kd.R_putg HO_5.out (x15_1 : Int) (Go.bits .and .u64 t206 t207)) | ((with_reducible refine gate_store (t := 33) (p := 27) rfl ?_); refine store_event (t := 33) (p := 27) (v := ?vo_w16) (w1 := (wr.setCell ⟨go14, (x15_1 : Int).toNat, none⟩ (.int .u64 (Go.bits .and .u64 t206 t207)))) ?hg ?ho ?hn ?hr ?_; (case ho => rfl); (case hg => rfl); (case hn => rfl); (case hr => first | (go_simp; done) | (go_simp; rfl)); intro w16 hw; have hg : wr.grownBy w16 (some go14) := (by rw [hw]; exact HP15.2); have hp_ : Kd.R (Kd.int .u64) 33 w16 w.heap.size (fun _ => True) (.slice (some ⟨go14, 0, none⟩) x5_1.length co8) y208 := (by rw [hw, Ny208.out]; exact HP15.1); clear HP15; have n0_ := Aside0.mk (hp_); have n1_ := Aside0.mk ((by rw [hw]; exact below_set (HB.out) GB14.out : Below w.heap.size w w16)); clear HO_5; clear HB; have HO_5 := n0_; have HB := n1_; clear n0_ n1_; clear hg hw hp_))
                (try simp only [← hl5_1])
                go_roundg k1
                case measure => have := HK1.out; omega
                case rel => exact ⟨(y208), (wrap64 (x15_1 + 1)), (by first | rfl | (simp; done) | (simp [*]; done)), H', ⟨by have := HK1.out; omega⟩, ⟨by (try simp only [hl5_1]); (with_reducible repeat (first | apply Kd.R_alloc | apply Kd.R_drewN | apply Kd.R_drew)); exact HO_5.out⟩, ⟨by repeat (first | (with_reducible first | exact HB.out | apply below_alloc | apply pw_below_drewN | apply below_drew1) | exact HB.out)⟩⟩
              · rw [if_neg c13] at H
                exact absurd H (by simp)
            · rw [if_neg c12] at H
              exact absurd H (by simp)
          · rw [if_neg c9] at H
            have c9b0 : decide (x15_1 < (y203.length : Int)) = false := decide_eq_false c9
            (try simp only [hl5_1] at c9b0)
            clear c9
            obtain rfl := Option.some.inj H
            go_wp2
            go_ret
            exact ⟨_, by first | rfl | (simp [errW_none, errW_some] <;> rfl) | (simp only [← hji3]; first | rfl | (simp [errW_none, errW_some] <;> rfl)) | (simp [*, errW_none, errW_some] <;> rfl), by (with_reducible repeat (first | apply Kd.R_alloc | apply Kd.R_drewN | apply Kd.R_drew)); exact HO_5.out, by repeat (first | (with_reducible first | exact HB.out | apply below_alloc | apply pw_below_drewN | apply below_drew1) | exact HB.out)⟩
    · rw [if_neg c5] at H
      exact absurd H (by simp)
  · rw [if_neg c4] at H
    exact absurd H (by simp)

end Go.Proofs.Yteahldmjmncmlaa.PV
