import Derived.Test.YtahfckadomemiaaPVx1
import Derived.Test.YtahfckadomemiaaPVx2
import Derived.Test.YtahfckadomemiaaMasks
import Derived.Test.YtahfckadomemiaaShelf
import Derived.Test.YtahfckadomemiaaRowCroch
import Derived.Test.YtahfckadomemiaaVecSpecs
open Go Go.RowKit Go.Maps Go.Proofs Go.Proofs.YtahfckadomemiaaW.PrintWords Go.Proofs.YtahfckadomemiaaW.PrintLast Go.Proofs.YtahfckadomemiaaW.PrintMore
namespace Go.Proofs.Ytahfckadomemiaa.PV
open VecMath VecSpec RowSpec Masks
set_option linter.unusedVariables false
set_option linter.unusedSimpArgs false

theorem sortC : SortC := fun blk off cap zs w h1 h2 h3 => Try.slices_Sort_int blk off cap zs w h1 h2 h3
theorem sortN : SortN := fun p cap w => Try.slices_Sort_int_none p cap w
theorem compC : CompC := fun blk off cap zs w h1 h2 h3 => Try.slices_Compact_int blk off cap zs w h1 h2 h3
theorem compN : CompN := fun p cap w => Try.slices_Compact_int_empty p cap w

/-- The row behind the first i numbers, as a number. -/
def stN (a b : List Int) : Nat → Nat
  | 0 => 2 ^ wid (b.length : Int) - 1
  | i + 1 => rowN (stN a b i) (mk b (a.getD i 0) b.length) (wid (b.length : Int))
theorem stN_lt (a b : List Int) : ∀ i, stN a b i < 2 ^ wid (b.length : Int)
  | 0 => by
    have := Nat.two_pow_pos (wid (b.length : Int))
    unfold stN
    omega
  | i + 1 => rowN_lt _ _ _
def Grd (a b : List Int) : Prop := b.length < 17592186044416 ∧ a.length < 4398046511104 ∧ (∀ x ∈ a, (Lit.int .i64 x).wf = true) ∧ ∀ x ∈ b, (Lit.int .i64 x).wf = true
instance (a b : List Int) : Decidable (Grd a b) := by unfold Grd; infer_instance
def croch_Len.f (k : Nat) (l0 l1 : List Int) : Option Int := if Grd l0 l1 then some ((l1.length : Int) - (cnt (stN l0 l1 l0.length) (wid (l1.length : Int)) : Int)) else none
theorem croch_Len.mono : ∀ a0 a1 k, LeO (croch_Len.f k a0 a1) (croch_Len.f (k + 1) a0 a1) := fun _ _ _ _ h => h
def croch_Rows.f (k : Nat) (l0 l1 : List Int) : Option (List (List Int)) := if Grd l0 l1 then some ((List.range (l0.length + 1)).map fun i => lay (stN l0 l1 i) (wds (l1.length : Int))) else none
theorem croch_Rows.mono : ∀ a0 a1 k, LeO (croch_Rows.f k a0 a1) (croch_Rows.f (k + 1) a0 a1) := fun _ _ _ _ h => h

theorem mk_none (b : List Int) (y : Int) (hy : y ∉ b) : ∀ j, j ≤ b.length → mk b y j = 0
  | 0, _ => rfl
  | j + 1, h => by
    unfold mk
    rw [if_neg (fun e => hy ?_), mk_none b y hy j (by omega)]
    rw [← e, List.getD_eq_getElem?_getD, List.getElem?_eq_getElem (show j < b.length by omega)]
    exact List.getElem_mem _
theorem rws_OK (b syms : List Int) (m j : Nat) (y : Int) : OK (rws b syms m j y) := by
  unfold rws
  split
  · exact lay_OK _ _
  · intro x hx
    simp at hx
theorem rws_val (b syms : List Int) (m w : Nat) (hw : w ≤ 64 * m) (hs : ∀ x, x ∈ syms ↔ x ∈ b) (y : Int) : val (rws b syms m b.length y) % 2 ^ w = mk b y b.length % 2 ^ w := by
  unfold rws
  split
  · rw [val_lay, Nat.mod_mod_of_dvd _ (Nat.pow_dvd_pow 2 hw)]
  · rename_i h
    rw [mk_none b y (fun e => h ((hs y).2 e)) _ (Nat.le_refl _)]
    rfl
theorem IsMask.below {w w' g b s r} (h : IsMask w g b s r) (hb : Below w.heap.size w w') : IsMask w' g b s r := by
  obtain ⟨As, cs, bm, n, D, h1, h2, h3, h4, h5⟩ := h
  have hg : w.grownBy w' none := ⟨hb.os, hb.tape, hb.output, hb.size, fun k hk _ => hb.block k hk⟩
  refine ⟨As, cs, bm, n, D, (hb.block _ (Array.getElem?_eq_some_iff.1 h1).1).trans h1, Kd.C_below h2 hb, h3, h4.kept hg (by simp), fun x hx => ?_⟩
  obtain ⟨A, c, e1, e2, e3⟩ := h5 x hx
  exact ⟨A, c, e1, Kd.C_below e2 hb, e3⟩
theorem Fit_of (b syms : List Int) (hs : ∀ x, x ∈ syms ↔ x ∈ b) (y : Int) : ∃ k, vec_Fit.f k (rws b syms (wds (b.length : Int)) b.length y) (b.length : Int) = some (lay (mk b y b.length % 2 ^ wid (b.length : Int)) (wds (b.length : Int))) := by
  have h := VecSpec.Fit_is (rws b syms (wds (b.length : Int)) b.length y) (b.length : Int) (rws_OK _ _ _ _ _)
  rw [rws_val b syms _ _ (wid_wds _) hs] at h
  exact h.rounds
theorem Row_of (a b : List Int) (i : Nat) (y : Int) (hy : y = a.getD i 0) : ∃ k, croch_Row.f k (lay (stN a b i) (wds (b.length : Int))) (lay (mk b y b.length % 2 ^ wid (b.length : Int)) (wds (b.length : Int))) (b.length : Int) = some (lay (stN a b (i + 1)) (wds (b.length : Int))) := by
  have h := croch_is (lay (stN a b i) (wds (b.length : Int))) (lay (mk b y b.length % 2 ^ wid (b.length : Int)) (wds (b.length : Int))) (b.length : Int) (lay_OK _ _) (lay_OK _ _)
  have hp : 2 ^ wid (b.length : Int) ≤ 2 ^ (64 * wds (b.length : Int)) := Nat.pow_le_pow_right (by decide) (wid_wds _)
  rw [val_lay_lt (Nat.lt_of_lt_of_le (stN_lt a b i) hp), val_lay_lt (Nat.lt_of_lt_of_le (Nat.mod_lt _ (Nat.two_pow_pos _)) hp)] at h
  have e : rowN (stN a b i) (mk b y b.length % 2 ^ wid (b.length : Int)) (wid (b.length : Int)) = stN a b (i + 1) := by
    show _ = rowN _ _ _
    subst hy
    unfold rowN
    rw [Nat.mod_mod]
  rw [e] at h
  exact h.rounds
theorem Len_of (a b : List Int) : ∃ k, vec_Count.f k (lay (stN a b a.length) (wds (b.length : Int))) (b.length : Int) = some (cnt (stN a b a.length) (wid (b.length : Int)) : Int) := by
  have h := VecSpec.Count_is (lay (stN a b a.length) (wds (b.length : Int))) (b.length : Int) (lay_OK _ _)
  have hp : 2 ^ wid (b.length : Int) ≤ 2 ^ (64 * wds (b.length : Int)) := Nat.pow_le_pow_right (by decide) (wid_wds _)
  rw [val_lay_lt (Nat.lt_of_lt_of_le (stN_lt a b _) hp)] at h
  exact h.rounds

theorem croch_Len.calls (k : Nat) (A0 : Option Addr) (c0 : Nat) (l0 : List Int) (A1 : Option Addr) (c1 : Nat) (l1 : List Int) (r : Int) (w : World) (hr0 : Kd.C (Kd.int .i64) w A0 l0.length l0) (hc0 : l0.length ≤ c0) (hr1 : Kd.C (Kd.int .i64) w A1 l1.length l1) (hc1 : l1.length ≤ c1) (h : croch_Len.f k l0 l1 = some r) :
    Calls Try.prog 12 #[.slice A0 l0.length c0, .slice A1 l1.length c1] w fun e w' => e = .returned (.int .i64 r) ∧ Below w.heap.size w w' := by
  unfold croch_Len.f at h
  split at h
  case isFalse => cases h
  rename_i hG
  obtain rfl := Option.some.inj h
  obtain ⟨kO, hO⟩ := (VecSpec.Ones_is (l1.length : Int)).rounds
  obtain ⟨kC, hC⟩ := Len_of l0 l1
  have HR0 := Aside0.mk hr0
  have HR1 := Aside0.mk hr1
  have HC1 := Aside0.mk hc1
  have HG := Aside0.mk hG
  have HO := Aside0.mk hO
  have HC := Aside0.mk hC
  clear hr0 hr1 hc1 hG hO hC h
  go_enter Try.func12, Try.ntmps12
  go_wp2_with (first
    | (go_at_call 29; refine (New_calls sortC sortN compC compN A1 c1 l1 _ (by exact HR1.out) HC1.out HG.out.1 HG.out.2.2.2).mono ?_; rintro e w1 ⟨g, rfl, hm1, hb1⟩; have HM1 := Aside0.mk hm1; have HB1 := Aside0.mk hb1; clear hm1 hb1)
    | (go_at_call 30; refine (vec_Ones.calls kO (l1.length : Int) _ _ HO.out).mono ?_; rintro e w2 ⟨v2, rfl, ho2, hb2⟩; have HM2 := Aside0.mk (IsMask.below HM1.out hb2); have HB2 := Aside0.mk (HB1.out.trans (hb2.mono HB1.out.size)); have HO2 := Aside0.mk (Kd.R_lower ho2 HB1.out.size); clear ho2 hb2))
  have hst : Kd.R (Kd.int .u64) 24 w2 w.heap.size (fun _ => True) v2 (lay (stN l0 l1 0) (wds (l1.length : Int))) := HO2.out
  have HS := Aside0.mk hst
  have SY := Aside0.mk (fun x => show x ∈ Lib.compact (sortL l1) ↔ x ∈ l1 by rw [mem_comp, mem_sortL])
  clear hst HO2 HM1 HB1
  go_loopg [6, 16] l0.length (fun kq v6 v16 w' => ∃ (i : Int), v16 = .int .i64 i ∧ Aside0 (0 ≤ i ∧ kq + i.toNat = l0.length) ∧ Aside0 (Kd.R (Kd.int .u64) 24 w' w.heap.size (fun _ => True) v6 (lay (stN l0 l1 i.toNat) (wds (l1.length : Int)))) ∧ Aside0 (IsMask w' g l1 (Lib.compact (sortL l1)) (rws l1 (Lib.compact (sortL l1)) (wds (l1.length : Int)) l1.length)) ∧ Aside0 (Below w.heap.size w w'))
  case atStart => exact ⟨0, rfl, ⟨by omega, rfl⟩, HS, HM2, HB2⟩
  case round =>
    clear HS HM2 HB2
    obtain ⟨i, rfl, HK, HO, HM, HB⟩ := hrel
    obtain ⟨A6, c6, e6⟩ := Kd.R_slice HO.out
    subst e6
    by_cases c : i < (l0.length : Int)
    · have cb : decide (i < (l0.length : Int)) = true := decide_eq_true c
      have h0 := HK.out.1
      obtain ⟨ad, ea, hx0⟩ := Kd.at_int (Kd.C_below HR0.out HB.out) i h0 c
      have HI := Aside0.mk (And.intro h0 c)
      clear c
      replace h0 := eq_true h0
      have p1 : (i < (l0.length : Int)) = True := eq_true (by have := HI.out; omega)
      cases ea
      have hx : (Lit.int .i64 (rd l0 i)).wf = true := by
        refine HG.out.2.2.1 _ ?_
        have h := HI.out
        unfold rd
        rw [List.getD_eq_getElem?_getD, List.getElem?_eq_getElem (show i.toNat < l0.length by omega)]
        exact List.getElem_mem _
      obtain ⟨kF, hF⟩ := Fit_of l1 (Lib.compact (sortL l1)) SY.out (rd l0 i)
      obtain ⟨kR, hR⟩ := Row_of l0 l1 i.toNat (rd l0 i) rfl
      have HX := Aside0.mk hx
      have HF := Aside0.mk hF
      have HR := Aside0.mk hR
      clear hx hF hR
      go_wp2_with (first
        | (go_at_call 31; refine (Of_calls kF g l1 _ _ (rd l0 i) HX.out _ _ HM.out HF.out).mono ?_; rintro e w3 ⟨v3, rfl, ho3, hb3⟩; obtain ⟨A7, c7, e7⟩ := Kd.R_slice ho3; subst e7; have HM3 := Aside0.mk (IsMask.below HM.out hb3); have HB3 := Aside0.mk (HB.out.trans (hb3.mono HB.out.size)); have HO3 := Aside0.mk (Kd.R_below HO.out hb3); have HU3 := Aside0.mk ho3; clear ho3 hb3)
        | (go_at_call 9; refine (croch_Row.calls kR _ _ _ _ _ _ (l1.length : Int) _ _ (by have h := Kd.R_reads' HO3.out; rw [← h.1] at h; exact h.2.2) (by exact (Kd.R_reads' HO3.out).2.1) (by have h := Kd.R_reads' HU3.out; rw [← h.1] at h; exact h.2.2) (by exact (Kd.R_reads' HU3.out).2.1) HR.out).mono ?_; rintro e w4 ⟨v4, rfl, ho4, hb4⟩))
      go_roundg (l0.length - i.toNat - 1)
      case measure => have := HK.out; have := HI.out; omega
      case rel =>
        have hw1 : wrap64 (i + 1) = i + 1 := wrap64_id (by have := HI.out; omega) (by have := HI.out; have := HG.out.2.1; omega)
        have hw2 : (i + 1).toNat = i.toNat + 1 := by have := HI.out; omega
        refine ⟨i + 1, congrArg (Value.int .i64) hw1, ⟨by have := HI.out; have := HK.out; omega⟩, ⟨?_⟩, ⟨IsMask.below HM3.out hb4⟩, ⟨HB3.out.trans (hb4.mono HB3.out.size)⟩⟩
        rw [hw2]
        exact Kd.R_lower ho4 HB3.out.size
    · have cb : decide (i < (l0.length : Int)) = false := decide_eq_false c
      have hi : i.toNat = l0.length := by have := HK.out; omega
      have hs := HO.out
      rw [hi] at hs
      have HS := Aside0.mk (Kd.R_reads' hs)
      rw [hi]
      clear hs hi HO
      go_wp2_with (go_at_call 32; refine (vec_Count.calls kC _ _ (lay (stN l0 l1 l0.length) (wds (l1.length : Int))) (l1.length : Int) _ _ (by exact HS.out.2.2) (by exact HS.out.2.1) HC.out).mono ?_; rintro e w5 ⟨rfl, hb5⟩)
      go_ret
      refine ⟨?_, HB.out.trans (hb5.mono HB.out.size)⟩
      have h1 := cnt_le (stN l0 l1 l0.length) (wid (l1.length : Int))
      have h2 := wid_le (l1.length : Int)
      have h3 := HG.out.1
      have hw : wrap64 ((l1.length : Int) - (cnt (stN l0 l1 l0.length) (wid (l1.length : Int)) : Int)) = (l1.length : Int) - (cnt (stN l0 l1 l0.length) (wid (l1.length : Int)) : Int) := by
        generalize cnt (stN l0 l1 l0.length) (wid (l1.length : Int)) = q at *
        generalize wid (l1.length : Int) = p at *
        exact wrap64_id (by omega) (by omega)
      exact congrArg (fun q => Ending.returned (Value.int .i64 q)) hw

theorem below_none {w w' : World} (hg : w.grownBy w' none) : Below w.heap.size w w' := ⟨hg.os, hg.tape, hg.output, hg.size, fun k hk => hg.block k hk (by simp)⟩
theorem IsMask.drew {w g b s r} (h : IsMask w g b s r) : IsMask w.drew g b s r := IsMask.below h (below_drew1 (Below.refl _ _))
theorem cellB {W W' : World} {p : Addr} {v : Value} (h : W.cell? p = some v) (hb : Below W.heap.size W W') : W'.cell? p = some v := by
  rw [← h]
  unfold World.cell?
  rw [hb.block _ (World.block_lt_of_cell? W p h)]
theorem fresh4 {d : Kd Int} {e : Nat} {w4 : World} {B b : Nat} {v : Value} {l : List Int} (h : d.R e w4 B (fun _ => True) v l) (hb : b ≤ B) : d.R e w4 b (fun k => B ≤ k) v l :=
  Kd.R_lower (Kd.R_mono (Kd.R_bound h) (fun k hk => hk.2.1)) hb
/-- The rows behind the first i numbers. -/
def rowsN (a b : List Int) (n : Nat) : List (List Int) := (List.range n).map fun i => lay (stN a b i) (wds (b.length : Int))
theorem rowsN_len (a b : List Int) (n : Nat) : (rowsN a b n).length = n := by simp [rowsN]
theorem rowsN_succ (a b : List Int) (n : Nat) : rowsN a b n ++ [lay (stN a b n) (wds (b.length : Int))] = rowsN a b (n + 1) := by
  unfold rowsN
  rw [List.range_succ, List.map_append]
  rfl
theorem rowsN_get (a b : List Int) (n i : Nat) (h : i < n) (z : List Int) : (rowsN a b n).getD i z = lay (stN a b i) (wds (b.length : Int)) := by
  unfold rowsN
  rw [List.getD_eq_getElem?_getD, List.getElem?_map, List.getElem?_range h]
  rfl
theorem croch_Rows.calls (k : Nat) (A0 : Option Addr) (c0 : Nat) (l0 : List Int) (A1 : Option Addr) (c1 : Nat) (l1 : List Int) (r : List (List Int)) (w : World) (hr0 : Kd.C (Kd.int .i64) w A0 l0.length l0) (hc0 : l0.length ≤ c0) (hr1 : Kd.C (Kd.int .i64) w A1 l1.length l1) (hc1 : l1.length ≤ c1) (h : croch_Rows.f k l0 l1 = some r) :
    Calls Try.prog 10 #[.slice A0 l0.length c0, .slice A1 l1.length c1] w fun e w' => ∃ v0_ : Value, e = .returned (v0_) ∧ Kd.S (Kd.slice 24 (Kd.int .u64)) 22 w' w.heap.size (fun _ => True) v0_ r ∧ Below w.heap.size w w' := by
  unfold croch_Rows.f at h
  split at h
  case isFalse => cases h
  rename_i hG
  obtain rfl := Option.some.inj h
  obtain ⟨kO, hO⟩ := (VecSpec.Ones_is (l1.length : Int)).rounds
  have HR0 := Aside0.mk hr0
  have HR1 := Aside0.mk hr1
  have HC1 := Aside0.mk hc1
  have HG := Aside0.mk hG
  have HO := Aside0.mk hO
  clear hr0 hr1 hc1 hG hO h
  go_enter Try.func10, Try.ntmps10
  go_wp2_with (first
    | (go_at_call 29; refine (New_calls sortC sortN compC compN A1 c1 l1 _ (by exact HR1.out) HC1.out HG.out.1 HG.out.2.2.2).mono ?_; rintro e w1 ⟨g, rfl, hm1, hb1⟩; have HM1 := Aside0.mk hm1; have HB1 := Aside0.mk hb1; clear hm1 hb1)
    | (go_at_call 30; refine (vec_Ones.calls kO (l1.length : Int) _ _ HO.out).mono ?_; rintro e w2 ⟨v2, rfl, ho2, hb2⟩; have HB2 := Aside0.mk hb2; obtain ⟨A2, c2, e2⟩ := Kd.R_slice ho2; subst e2; have HO2 := Aside0.mk ho2; clear ho2 hb2)
    | ((with_reducible refine gate_dst (N := 14) rfl ?_); refine Kd.S_lits (Kd.slice 24 (Kd.int .u64)) (w0 := w1) w1.heap.size 22 ?hg (N := 14) ?hd (xs := [lay (2 ^ wid (l1.length : Int) - 1) (wds (l1.length : Int))]) (inner := [.slice A2 (lay (2 ^ wid (l1.length : Int) - 1) (wds (l1.length : Int))).length c2]) (ok := fun _ => True) (fun j _ => j = 0) ?hr rfl ?hp (fun i j k h1 h2 => h1.trans h2.symm) (fun _ _ _ => trivial) trivial HB2.out HB2.out.size (by simp) ?_; (case hd => rfl); (case hg => rfl); (case hr => first | (go_simp; done) | (go_simp; rfl)); (case hp => (intro j x hj; cases j with | zero => (obtain rfl := Option.some.inj hj; exact ⟨_, rfl, Kd.R_mono HO2.out (fun _ _ => rfl)⟩) | succ j => simp at hj)); intro v6 w6 ho6 hb6 hg6 hn6; have HB6 := Aside0.mk hb6; have HV6 := Aside0.mk ho6; clear ho6 hb6 hg6 hn6))
  have SY := Aside0.mk (fun x => show x ∈ Lib.compact (sortL l1) ↔ x ∈ l1 by rw [mem_comp, mem_sortL])
  have HV := Aside0.mk (show Kd.S (Kd.slice 24 (Kd.int .u64)) 22 w6 w1.heap.size (fun _ => True) v6 (rowsN l0 l1 1) from HV6.out)
  clear HO2 HB2 HV6
  go_loopg [6, 17] l0.length (fun kq v6 v17 w' => ∃ (i : Int), v17 = .int .i64 i ∧ Aside0 (0 ≤ i ∧ kq + i.toNat = l0.length) ∧ Aside0 (Kd.S (Kd.slice 24 (Kd.int .u64)) 22 w' w1.heap.size (fun _ => True) v6 (rowsN l0 l1 (i.toNat + 1))) ∧ Aside0 (Below w1.heap.size w1 w'))
  case atStart => exact ⟨0, rfl, ⟨by omega, rfl⟩, HV, HB6⟩
  case round =>
    clear HV HB6
    obtain ⟨i, rfl, HK, HV, HB⟩ := hrel
    have HBW := Aside0.mk (HB1.out.trans (HB.out.mono HB1.out.size))
    have HM := Aside0.mk (IsMask.below HM1.out HB.out)
    obtain ⟨g6, c6, e6, _⟩ := Kd.S_form HV.out (by rw [rowsN_len]; omega)
    subst e6
    by_cases c : i < (l0.length : Int)
    · have cb : decide (i < (l0.length : Int)) = true := decide_eq_true c
      have h0 := HK.out.1
      obtain ⟨ad, ea, hx0⟩ := Kd.at_int (Kd.C_below HR0.out HBW.out) i h0 c
      have HI := Aside0.mk (And.intro h0 c)
      obtain ⟨ce, hce1, ⟨vi, hce2, hri⟩, hce3, _⟩ := Kd.R_elem (Kd.S_R HV.out) [] i h0 (by rw [rowsN_len]; omega)
      subst hce2
      have hcell := hce3 0 vi rfl
      rw [show (Kd.slice 24 (Kd.int .u64)).sz = 1 from rfl, Nat.mul_one, Nat.add_zero] at hcell
      rw [rowsN_get l0 l1 _ _ (by omega)] at hri
      obtain ⟨Ai, ci, ei⟩ := Kd.R_slice hri
      subst ei
      have HRI := Aside0.mk (Kd.R_reads' hri).2.2
      have HRL := Aside0.mk (Kd.R_reads' hri).2.1
      clear c hri hce3 hce1
      replace h0 := eq_true h0
      have p1 : (i < (l0.length : Int)) = True := eq_true (by have := HI.out; omega)
      have p2 : (i < ((rowsN l0 l1 (i.toNat + 1)).length : Int)) = True := eq_true (by have := HI.out; rw [rowsN_len]; omega)
      cases ea
      have hx : (Lit.int .i64 (rd l0 i)).wf = true := by
        refine HG.out.2.2.1 _ ?_
        have h := HI.out
        unfold rd
        rw [List.getD_eq_getElem?_getD, List.getElem?_eq_getElem (show i.toNat < l0.length by omega)]
        exact List.getElem_mem _
      obtain ⟨kF, hF⟩ := Fit_of l1 (Lib.compact (sortL l1)) SY.out (rd l0 i)
      obtain ⟨kR, hR⟩ := Row_of l0 l1 i.toNat (rd l0 i) rfl
      have HX := Aside0.mk hx
      have HF := Aside0.mk hF
      have HR := Aside0.mk hR
      clear hx hF hR
      go_wp2
      refine start_ (n := 14) (S := fun w' => w'.cell? ⟨g6, i.toNat, none⟩ = some (.slice Ai (lay (stN l0 l1 i.toNat) (wds (l1.length : Int))).length ci)) (ds := [12]) #[false, false, false, false, false, false, false, false, false, false, false, false, false, false] (by kernel_rfl) rfl rfl (hcell) (fun hHeld => ?_)
      refine pure_ (i := 0) (N := some 22) (v := ?_) (a' := ?_) #[true, false, false, false, false, false, false, false, false, false, false, false, false, false] rfl rfl (by kernel_rfl) (fun _ _ _ h => h) (Or.inl ⟨by rfl, ?_⟩) ?_ ?_
      rotate_left
      · intro w'
        go_simp
        with_reducible rfl
      rotate_left
      · simp only [Act.put, List.setIfInBounds_toArray, List.set_cons_zero, List.set_cons_succ, i64_w, i32_w]
        rfl
      refine pure_ (i := 1) (N := some 23) (v := ?_) (a' := ?_) #[true, true, false, false, false, false, false, false, false, false, false, false, false, false] rfl rfl (by kernel_rfl) (fun _ _ _ h => h) (Or.inl ⟨by rfl, ?_⟩) ?_ ?_
      rotate_left
      · intro w'
        go_simp
        with_reducible rfl
      rotate_left
      · simp only [Act.put, List.setIfInBounds_toArray, List.set_cons_zero, List.set_cons_succ, i64_w, i32_w]
        rfl
      refine pure_ (i := 2) (N := some 24) (v := ?_) (a' := ?_) #[true, true, true, false, false, false, false, false, false, false, false, false, false, false] rfl rfl (by kernel_rfl) (fun _ _ _ h => h) (Or.inl ⟨by rfl, ?_⟩) ?_ ?_
      rotate_left
      · intro w'
        go_simp
        with_reducible rfl
      rotate_left
      · simp only [Act.put, List.setIfInBounds_toArray, List.set_cons_zero, List.set_cons_succ, i64_w, i32_w]
        rfl
      refine pure_ (i := 3) (N := some 25) (v := ?_) (a' := ?_) #[true, true, true, true, false, false, false, false, false, false, false, false, false, false] rfl rfl (by kernel_rfl) (fun _ _ _ h => h) (Or.inl ⟨by rfl, ?_⟩) ?_ ?_
      rotate_left
      · intro w'
        go_simp
        with_reducible rfl
      rotate_left
      · simp only [Act.put, List.setIfInBounds_toArray, List.set_cons_zero, List.set_cons_succ, i64_w, i32_w]
        rfl
      refine pure_ (i := 5) (N := some 27) (v := ?_) (a' := ?_) #[true, true, true, true, false, true, false, false, false, false, false, false, false, false] rfl rfl (by kernel_rfl) (fun _ _ _ h => h) (Or.inl ⟨by rfl, ?_⟩) ?_ ?_
      rotate_left
      · intro w'
        go_simp
        with_reducible rfl
      rotate_left
      · simp only [Act.put, List.setIfInBounds_toArray, List.set_cons_zero, List.set_cons_succ, i64_w, i32_w]
        rfl
      refine pure_ (i := 6) (N := some 28) (v := ?_) (a' := ?_) #[true, true, true, true, false, true, true, false, false, false, false, false, false, false] rfl rfl (by kernel_rfl) (fun _ _ _ h => h) (Or.inl ⟨by rfl, ?_⟩) ?_ ?_
      rotate_left
      · intro w'
        go_simp
        with_reducible rfl
      rotate_left
      · simp only [Act.put, List.setIfInBounds_toArray, List.set_cons_zero, List.set_cons_succ, i64_w, i32_w]
        rfl
      refine pure_ (i := 8) (N := some 30) (v := ?_) (a' := ?_) #[true, true, true, true, false, true, true, false, true, false, false, false, false, false] rfl rfl (by kernel_rfl) (fun _ _ _ h => h) (Or.inl ⟨by rfl, ?_⟩) ?_ ?_
      rotate_left
      · intro w'
        go_simp
        with_reducible rfl
      rotate_left
      · simp only [Act.put, List.setIfInBounds_toArray, List.set_cons_zero, List.set_cons_succ, i64_w, i32_w]
        rfl
      refine pure_ (i := 9) (N := some 31) (v := ?_) (a' := ?_) #[true, true, true, true, false, true, true, false, true, true, false, false, false, false] rfl rfl (by kernel_rfl) (fun _ _ _ h => h) (Or.inl ⟨by rfl, ?_⟩) ?_ ?_
      rotate_left
      · intro w'
        go_simp
        with_reducible rfl
      rotate_left
      · simp only [Act.put, List.setIfInBounds_toArray, List.set_cons_zero, List.set_cons_succ, i64_w, i32_w]
        rfl
      refine take_ (i := 4) (N := some 26) (v := ?_) (a' := ?_) #[true, true, true, true, true, true, true, false, true, true, false, false, false, false] rfl rfl (by kernel_rfl) (fun _ _ _ h => h) (Or.inl ⟨by rfl, ?_⟩) hHeld ?_ ?_
      rotate_left
      · intro w' s0
        go_simp
        with_reducible rfl
      rotate_left
      · simp only [Act.put, List.setIfInBounds_toArray, List.set_cons_zero, List.set_cons_succ, i64_w, i32_w]
        rfl
      refine one_ (i := 7) (N := some 29) #[true, true, true, true, true, true, true, true, true, true, false, false, false, false] rfl rfl (by kernel_rfl) (by decide) (fun K hK => ?_)
      refine goes_ Try.func31 (by kernel_rfl) rfl #[.pointer (some ⟨g, 0, none⟩), .int .i64 (rd l0 i)] (by rfl) rfl rfl (by simp only [List.map_toArray, List.map_cons, List.map_nil]; rfl) ?_
      with_reducible refine (Of_calls kF g l1 _ _ (rd l0 i) HX.out _ _ (IsMask.drew HM.out) HF.out).mono ?_
      rintro e w3 ⟨v3, rfl, ho3, hb3⟩
      refine ⟨_, rfl, ?_⟩
      obtain ⟨A7, c7, e7⟩ := Kd.R_slice ho3
      subst e7
      have HU3 := Aside0.mk ho3
      have HBD := Aside0.mk (below_drew1 HB.out)
      have HB3 := Aside0.mk (HBD.out.trans (hb3.mono HBD.out.size))
      have HM3 := Aside0.mk (IsMask.below (IsMask.drew HM.out) hb3)
      have HV3 := Aside0.mk (Kd.S_below (Kd.S_drew HV.out) hb3)
      have HC3 := Aside0.mk (cellB (W := wr.drew) hcell hb3)
      have HRI3 := Aside0.mk (Kd.C_below (Kd.C_drew HRI.out) hb3)
      clear ho3 hb3
      refine hK.out _ _ (HC3.out) (fun hHeld => ?_)
      clear hK K
      refine norm_ (a' := ?_) ?_ ?_
      rotate_left
      · show Act.put _ (some 29) _ = _
        simp only [Act.put, List.setIfInBounds_toArray, List.set_cons_zero, List.set_cons_succ, i64_w, i32_w]
        rfl
      refine one_ (i := 10) (N := some 32) #[true, true, true, true, true, true, true, true, true, true, true, false, false, false] rfl rfl (by kernel_rfl) (by decide) (fun K hK => ?_)
      refine goes_ Try.func9 (by kernel_rfl) rfl #[.slice Ai (lay (stN l0 l1 i.toNat) (wds (l1.length : Int))).length ci, .slice A7 (lay (mk l1 (rd l0 i) l1.length % 2 ^ wid (l1.length : Int)) (wds (l1.length : Int))).length c7, .int .i64 (l1.length : Int)] (by rfl) rfl rfl (by simp only [List.map_toArray, List.map_cons, List.map_nil]; rfl) ?_
      with_reducible refine (croch_Row.calls kR _ _ _ _ _ _ (l1.length : Int) _ _ HRI3.out HRL.out (Kd.R_reads' HU3.out).2.2 (Kd.R_reads' HU3.out).2.1 HR.out).mono ?_
      rintro e w4 ⟨v4, rfl, ho4, hb4⟩
      refine ⟨_, rfl, ?_⟩
      obtain ⟨A8, c8, e8⟩ := Kd.R_slice ho4
      subst e8
      have HB4 := Aside0.mk (HB3.out.trans (hb4.mono HB3.out.size))
      have HM4 := Aside0.mk (IsMask.below HM3.out hb4)
      have HV4 := Aside0.mk (Kd.S_below (Kd.S_mono (ok' := fun k => True ∧ ¬ w3.heap.size ≤ k) (Kd.S_bound HV3.out) (fun k hk => ⟨trivial, by have := hk.2.2.1; omega⟩)) hb4)
      have HC4 := Aside0.mk (cellB HC3.out hb4)
      have HN4 := Aside0.mk ho4
      clear ho4 hb4
      refine hK.out _ _ (HC4.out) (fun hHeld => ?_)
      clear hK K
      refine norm_ (a' := ?_) ?_ ?_
      rotate_left
      · show Act.put _ (some 32) _ = _
        simp only [Act.put, List.setIfInBounds_toArray, List.set_cons_zero, List.set_cons_succ, i64_w, i32_w]
        rfl
      refine one_ (i := 11) (N := some 33) #[true, true, true, true, true, true, true, true, true, true, true, true, false, false] rfl rfl (by kernel_rfl) (by decide) (fun K hK => ?_)
      refine value_ (w1 := ?_) (v := ?_) (by rfl) rfl ?_ ?_
      rotate_left 2
      · go_simp
        constructor
        · rfl
        · rfl
      refine hK.out _ _ (cellA HC4.out _) (fun hHeld => ?_)
      clear hK K
      refine norm_ (a' := ?_) ?_ ?_
      rotate_left
      · show Act.put _ (some 33) _ = _
        simp only [Act.put, List.setIfInBounds_toArray, List.set_cons_zero, List.set_cons_succ, i64_w, i32_w]
        rfl
      refine last_ (i := 12) (N := some 34) #[true, true, true, true, true, true, true, true, true, true, true, true, true, false] rfl rfl (by kernel_rfl) (by decide) (fun K hK => ?_)
      refine Kd.S_append_step (Kd.slice 24 (Kd.int .u64)) (w0 := w1) w1.heap.size (by rfl) (.tmp 22) (.tmp 33) 25 22 (.slice none 0 0) 24 rfl Try.underlying25 (by kernel_rfl) rfl (by decide) (by decide) (.slice (some ⟨g6, 0, none⟩) (rowsN l0 l1 (i.toNat + 1)).length c6) (rowsN l0 l1 (i.toNat + 1)) (lay (stN l0 l1 (i.toNat + 1)) (wds (l1.length : Int))) [.slice A8 (lay (stN l0 l1 (i.toNat + 1)) (wds (l1.length : Int))).length c8] (fun _ => True) (fun k => w3.heap.size ≤ k) rfl rfl ⟨_, rfl, fresh4 HN4.out HB3.out.size⟩ (fun k hk => ⟨trivial, fun e => absurd (Kd.R_lt (Kd.S_R HV3.out) g6 rfl) (by have e2 : some k = some g6 := e; injection e2 with e2; omega)⟩) (fun _ _ => trivial) HV4.out HB4.out HB4.out.size (by rw [rowsN_len]; have := HI.out; have := HG.out.2.1; omega) ?_
      intro v5 w5 ho5 hb5 hg5 hat5
      refine hK.out _ _ ?_
      clear hK K
      refine norm_ (a' := ?_) ?_ ?_
      rotate_left
      · show Act.put _ (some 34) _ = _
        simp only [Act.put, List.setIfInBounds_toArray, List.set_cons_zero, List.set_cons_succ, i64_w, i32_w]
        rfl
      refine pure_ (i := 13) (N := some 6) (v := ?_) (a' := ?_) #[true, true, true, true, true, true, true, true, true, true, true, true, true, true] rfl rfl (by kernel_rfl) (fun _ _ _ h => h) (Or.inl ⟨by rfl, ?_⟩) ?_ ?_
      rotate_left
      · intro w'
        go_simp
        with_reducible rfl
      rotate_left
      · simp only [Act.put, List.setIfInBounds_toArray, List.set_cons_zero, List.set_cons_succ, i64_w, i32_w]
        rfl
      refine done_ (by kernel_rfl) ?_
      go_wp2
      go_roundg (l0.length - i.toNat - 1)
      case measure => have := HK.out; have := HI.out; omega
      case rel =>
        have hw1 : wrap64 (i + 1) = i + 1 := wrap64_id (by have := HI.out; omega) (by have := HI.out; have := HG.out.2.1; omega)
        have hw2 : (i + 1).toNat = i.toNat + 1 := by have := HI.out; omega
        refine ⟨i + 1, congrArg (Value.int .i64) hw1, ⟨by have := HI.out; have := HK.out; omega⟩, ⟨?_⟩, ⟨hb5⟩⟩
        rw [hw2, ← rowsN_succ]
        exact ho5
    · have cb : decide (i < (l0.length : Int)) = false := decide_eq_false c
      have hi : i.toNat = l0.length := by have := HK.out; omega
      have hs := HV.out
      rw [hi] at hs
      have HS := Aside0.mk hs
      clear hs HV
      rw [hi]
      go_wp2
      go_ret
      exact ⟨_, rfl, (congrArg (fun l => Kd.S (Kd.slice 24 (Kd.int .u64)) 22 wr w.heap.size (fun _ => True) (.slice (some ⟨g6, 0, none⟩) (rowsN l0 l1 (l0.length + 1)).length c6) l) (rowsN_succ l0 l1 l0.length).symm).mp (Kd.S_lower HS.out HB1.out.size), HBW.out⟩
end Go.Proofs.Ytahfckadomemiaa.PV
