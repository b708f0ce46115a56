/- tattingref7.Ahead: the table from the front. Put together out of two printed texts. -/
import Derived.Test.YtahfckadomemiaaPVx5
import Derived.Test.YtahfckadomemiaaPVx6
namespace Go.Proofs.Ytahfckadomemiaa.PV
open Go.RowKit Go.Proofs.YtahfckadomemiaaW.PrintWords Go.Proofs.YtahfckadomemiaaW.PrintLast Go.Proofs.YtahfckadomemiaaW.PrintMore Go.Proofs.Ytahfckadomemiaa.XBits
attribute [local go_sem] max2_int min2_int max_two min_two max_three min_three max_four min_four   -- for this text's walks alone
set_option linter.unusedVariables false
set_option linter.unusedSimpArgs false
attribute [local go_sem] run_ext49

/-! ### tattingref7_Ahead: function 40 -/
mutual
def tattingref7_AheadT.l0 : Nat → List Int → List Int → List (List Int) → List (List Int) → Int → Option ((List (List Int)))
  | 0, _, _, _, _, _ => none
  | k + 1, x0, x1, x5, x6, x7 => if x7 ≤ (x0.length : Int) then (if 0 ≤ (wrap64 ((x1.length : Int) + 1)) then (if (wrap64 ((x1.length : Int) + 1) : Int).toNat ≤ 35184372088832 then (if 0 ≤ x7 then (if x7 < (x6.length : Int) then (tattingref7_AheadT.l1 k x0 x1 x5 (x6.set (x7 : Int).toNat (List.replicate (wrap64 ((x1.length : Int) + 1) : Int).toNat 0)) x7 0) else (none)) else (none)) else (none)) else (none)) else (some x6)
def tattingref7_AheadT.l1 : Nat → List Int → List Int → List (List Int) → List (List Int) → Int → Int → Option ((List (List Int)))
  | 0, _, _, _, _, _, _ => none
  | k + 1, x0, x1, x5, x6, x7, x8 => if x8 ≤ (x1.length : Int) then (if 0 ≤ x7 then (if x7 < (x6.length : Int) then (if 0 ≤ (wrap64 ((x0.length : Int) - x7)) then (if (wrap64 ((x0.length : Int) - x7)) < (x5.length : Int) then (if 0 ≤ (wrap64 ((x1.length : Int) - x8)) then (if (wrap64 ((x1.length : Int) - x8)) < ((rd_L3 x5 (wrap64 ((x0.length : Int) - x7))).length : Int) then (if 0 ≤ x8 then (if x8 < ((rd_L3 x6 x7).length : Int) then (tattingref7_AheadT.l1 k x0 x1 x5 (x6.set (x7 : Int).toNat ((rd_L3 x6 x7).set (x8 : Int).toNat (rd (rd_L3 x5 (wrap64 ((x0.length : Int) - x7))) (wrap64 ((x1.length : Int) - x8))))) x7 (wrap64 (x8 + 1))) else (none)) else (none)) else (none)) else (none)) else (none)) else (none)) else (none)) else (none)) else (tattingref7_AheadT.l0 k x0 x1 x5 x6 (wrap64 (x7 + 1)))
end
def tattingref7_AheadT.f (k : Nat) (l0 : List Int) (l1 : List Int) (l2 : List (List Int)) : Option ((List (List Int))) := if 0 ≤ (wrap64 ((l0.length : Int) + 1)) then (if (wrap64 ((l0.length : Int) + 1) : Int).toNat ≤ 11728124029610 then (tattingref7_AheadT.l0 k l0 l1 l2 (List.replicate (wrap64 ((l0.length : Int) + 1) : Int).toNat []) 0) else (none)) else (none)
theorem tattingref7_AheadT.mono_l : ∀ k, (∀ y0 y1 y2 y3 y4, LeO (tattingref7_AheadT.l0 k y0 y1 y2 y3 y4) (tattingref7_AheadT.l0 (k + 1) y0 y1 y2 y3 y4)) ∧ (∀ y0 y1 y2 y3 y4 y5, LeO (tattingref7_AheadT.l1 k y0 y1 y2 y3 y4 y5) (tattingref7_AheadT.l1 (k + 1) y0 y1 y2 y3 y4 y5))
  | 0 => ⟨fun _ _ _ _ _ r h => by simp [tattingref7_AheadT.l0] at h, fun _ _ _ _ _ _ r h => by simp [tattingref7_AheadT.l1] at h⟩
  | k + 1 => by
    obtain ⟨ih0, ih1⟩ := tattingref7_AheadT.mono_l k
    refine ⟨?_, ?_⟩
    · intro y0 y1 y2 y3 y4
      unfold tattingref7_AheadT.l0
      repeat' first
      | (with_reducible exact ih0 _ _ _ _ _)
      | (with_reducible exact ih1 _ _ _ _ _ _)
      | (with_reducible exact LeO.refl _)
      | (with_reducible exact LeO.none _)
      | (with_reducible refine LeO.ite ?_ ?_)
      | (with_reducible refine LeO.bind ?_ (fun _ => ?_))
      | exact ih0 _ _ _ _ _
      | exact ih1 _ _ _ _ _ _
      | exact LeO.none _
      | refine LeO.ite ?_ ?_
      | refine LeO.bind ?_ (fun _ => ?_)
    · intro y0 y1 y2 y3 y4 y5
      unfold tattingref7_AheadT.l1
      repeat' first
      | (with_reducible exact ih0 _ _ _ _ _)
      | (with_reducible exact ih1 _ _ _ _ _ _)
      | (with_reducible exact LeO.refl _)
      | (with_reducible exact LeO.none _)
      | (with_reducible refine LeO.ite ?_ ?_)
      | (with_reducible refine LeO.bind ?_ (fun _ => ?_))
      | exact ih0 _ _ _ _ _
      | exact ih1 _ _ _ _ _ _
      | exact LeO.none _
      | refine LeO.ite ?_ ?_
      | refine LeO.bind ?_ (fun _ => ?_)
theorem tattingref7_AheadT.mono : ∀ a0 a1 a2 k, LeO (tattingref7_AheadT.f k a0 a1 a2) (tattingref7_AheadT.f (k + 1) a0 a1 a2) := by
  intro a0 a1 a2 k
  obtain ⟨ih0, ih1⟩ := tattingref7_AheadT.mono_l k
  unfold tattingref7_AheadT.f
  repeat' first
      | (with_reducible exact ih0 _ _ _ _ _)
      | (with_reducible exact ih1 _ _ _ _ _ _)
      | (with_reducible exact LeO.refl _)
      | (with_reducible exact LeO.none _)
      | (with_reducible refine LeO.ite ?_ ?_)
      | (with_reducible refine LeO.bind ?_ (fun _ => ?_))
      | exact ih0 _ _ _ _ _
      | exact ih1 _ _ _ _ _ _
      | exact LeO.none _
      | refine LeO.ite ?_ ?_
      | refine LeO.bind ?_ (fun _ => ?_)
def tattingref7_AheadT.T10 : Bool × List (List Nat × List Nat) := (true, [([], []), ([], []), ([0, 1], [0, 1]), ([2], [2]), ([], []), ([], []), ([], []), ([6], [6]), ([], []), ([7, 8], [7, 8]), ([5, 9], [5, 9]), ([10], [10]), ([], []), ([12], [12]), ([], []), ([13, 14], [13, 14]), ([11, 15], [11, 15]), ([16], [16]), ([3, 4, 0, 1, 2, 3, 4, 5, 6, 7, 8, 9, 10, 11, 12, 13, 14, 15, 16, 17], [3, 4]), ([18, 17, 0, 1, 2, 3, 4, 5, 6, 7, 8, 9, 10, 11, 12, 13, 14, 15, 16, 17], [17, 18])])
def tattingref7_AheadT.B10 : List Nat := [0, 0, 3, 7, 0, 0, 0, 64, 0, 448, 992, 2016, 0, 4096, 0, 28672, 65504, 131040, 262143, 524287]
theorem tattingref7_AheadT.tab10 : rtab .any (opsOf Try.f40 10) = tattingref7_AheadT.T10 := by kernel_rfl
theorem tattingref7_AheadT.bits10 : waitsOk tattingref7_AheadT.T10.2 tattingref7_AheadT.B10 = true := by kernel_rfl
def tattingref7_Ahead.f (k : Nat) (l0 : List Int) (l1 : List Int) : Option (List (List Int)) := (tattingref7_Turned.f k l0).bind fun x => (tattingref7_Turned.f k l1).bind fun y => (tattingref7_Behind.f k x y).bind fun t => tattingref7_AheadT.f k l0 l1 t
theorem tattingref7_Ahead.mono : ∀ a0 a1 k, LeO (tattingref7_Ahead.f k a0 a1) (tattingref7_Ahead.f (k + 1) a0 a1) := by
  intro a0 a1 k
  unfold tattingref7_Ahead.f
  exact LeO.bind (tattingref7_Turned.mono _ _) fun _ => LeO.bind (tattingref7_Turned.mono _ _) fun _ => LeO.bind (tattingref7_Behind.mono _ _ _) fun _ => tattingref7_AheadT.mono _ _ _ _
set_option maxHeartbeats 8000000 in
set_option maxRecDepth 100000 in
theorem tattingref7_Ahead.calls (k : Nat) (A0 : Option Addr) (c0 : Nat) (l0 : List Int) (A1 : Option Addr) (c1 : Nat) (l1 : List Int) (r : List (List Int)) (w : World) (hr0 : Kd.C (Kd.int .i64) w A0 l0.length l0) (hc0 : l0.length ≤ c0) (hr1 : Kd.C (Kd.int .i64) w A1 l1.length l1) (hc1 : l1.length ≤ c1) (h : tattingref7_Ahead.f k l0 l1 = some r) :
    Calls Try.prog 40 #[.slice A0 l0.length c0, .slice A1 l1.length c1] w fun e w' => ∃ v0_ : Value, e = .returned (v0_) ∧ Kd.S (Kd.slice 3 (Kd.int .i64)) 27 w' w.heap.size (fun _ => True) v0_ r ∧ Below w.heap.size w w' := by
  have HR0 := Aside0.mk hr0
  have HC0 := Aside0.mk hc0
  clear hr0 hc0
  have HR1 := Aside0.mk hr1
  have HC1 := Aside0.mk hc1
  clear hr1 hc1
  have HB := Aside0.mk (Below.refl w.heap.size w)
  have H : ((tattingref7_Turned.f k l0).bind fun bt249 => ((tattingref7_Turned.f k l1).bind fun bt252 => ((tattingref7_Behind.f k bt249 bt252).bind fun bt255 => (tattingref7_AheadT.f k l0 l1 bt255)))) = some r := h
  clear h
  replace H := Option.bind_eq_some_iff.mp H
  obtain ⟨bt249, bA30, H⟩ := H
  replace H : ((tattingref7_Turned.f k l1).bind fun bt252 => ((tattingref7_Behind.f k bt249 bt252).bind fun bt255 => (tattingref7_AheadT.f k l0 l1 bt255))) = some r := H
  have bA3 := Aside0.mk bA30
  clear bA30
  replace H := Option.bind_eq_some_iff.mp H
  obtain ⟨bt252, bA40, H⟩ := H
  replace H : ((tattingref7_Behind.f k bt249 bt252).bind fun bt255 => (tattingref7_AheadT.f k l0 l1 bt255)) = some r := H
  have bA4 := Aside0.mk bA40
  clear bA40
  replace H := Option.bind_eq_some_iff.mp H
  obtain ⟨bt255, bA50, H⟩ := H
  replace H : (tattingref7_AheadT.f k l0 l1 bt255) = some r := H
  have bA5 := Aside0.mk bA50
  clear bA50
  have h : tattingref7_AheadT.f k l0 l1 bt255 = some r := H
  clear H
  have H : (if 0 ≤ (wrap64 ((l0.length : Int) + 1)) then (if (wrap64 ((l0.length : Int) + 1) : Int).toNat ≤ 11728124029610 then (tattingref7_AheadT.l0 k l0 l1 bt255 (List.replicate (wrap64 ((l0.length : Int) + 1) : Int).toNat []) 0) else (none)) else (none)) = some r := h
  clear h
  obtain ⟨ji4, hji4⟩ : ∃ j_ : Int, (wrap64 ((l0.length : Int) + 1)) = j_ := ⟨_, rfl⟩
  replace H : (if 0 ≤ (ji4) then (if (ji4 : Int).toNat ≤ 11728124029610 then (tattingref7_AheadT.l0 k l0 l1 bt255 (List.replicate (ji4 : Int).toNat []) 0) else (none)) else (none)) = some r := by first | (rw [hji4] at H; exact H) | (simp only [hji4] at H ⊢; exact H)
  have hji4w : (IntKind.i64.wrap ((l0.length : Int) + 1)) = ji4 := (i64_w _).trans hji4
  by_cases c5 : 0 ≤ (ji4)
  · rw [if_pos c5] at H
    have c5b0 := eq_true c5
    have c5b1 : decide (0 ≤ (ji4)) = true := decide_eq_true c5
    clear c5
    by_cases c6 : (ji4 : Int).toNat ≤ 11728124029610
    · rw [if_pos c6] at H
      have c6b0 := eq_true c6
      have c6b1 : decide ((ji4 : Int).toNat ≤ 11728124029610) = true := decide_eq_true c6
      clear c6
      obtain ⟨y249, hy249⟩ : ∃ y_ : List (List Int), y_ = (List.replicate (ji4 : Int).toNat []) := ⟨_, rfl⟩
      replace H : (tattingref7_AheadT.l0 k l0 l1 bt255 y249 0) = some r := by first | (rw [hy249]; with_reducible exact H) | (have H2_ := (Option.bind_some _ _).symm.trans H; rw [hy249]; with_reducible exact H2_) | (have H2_ := (Option.bind_some _ _).symm.trans H; with_reducible exact H2_) | with_reducible exact H | (rw [hy249]; exact H) | exact H
      have Ny249 := Aside0.mk hy249
      clear hy249
      have H' := Aside0.mk H
      clear H
      go_enter Try.func40, Try.ntmps40
      go_upto_region 2 with (first | ((with_reducible refine gate_callee (f := 55) rfl ?_); refine goesL_ (some 10) rfl rfl Try.func55 (by kernel_rfl) rfl #[.slice A0 l0.length c0] rfl (by (try simp only [List.map_toArray, List.map_cons, List.map_nil]); first | done | rfl | (simp only [List.length_drop, List.length_take]; rfl)) ?_; (with_reducible refine (tattingref7_Turned.calls k _ _ l0 bt249 _ ?side1 ?side2 bA3.out).mono ?_); (case side1 => repeat (first | exact HR0.out | (with_reducible refine Kd.C_alloc ?_ _) | (with_reducible refine Kd.C_drewN ?_ _) | (with_reducible refine Kd.C_drew ?_))); (case side2 => exact HC0.out); rintro e bw6 ⟨bv250, rfl, ho0, hb⟩; refine ⟨_, rfl, ?_⟩; have n0_ := Aside0.mk (Kd.R_lower ho0 (below_size (by repeat (first | (with_reducible first | exact HB.out | apply below_alloc | apply pw_below_drewN | apply below_drew1) | exact HB.out)))); have n1_ := Aside0.mk (below_step (by repeat (first | (with_reducible first | exact HB.out | apply below_alloc | apply pw_below_drewN | apply below_drew1) | exact HB.out)) hb); clear HB; have bHO251 := n0_; have HB := n1_; clear n0_ n1_; (try clear hb); (try clear hb2); (try clear hk); (try clear hi); (try clear ho0)) | ((with_reducible refine gate_callee (f := 55) rfl ?_); refine goesL_ (some 12) rfl rfl Try.func55 (by kernel_rfl) rfl #[.slice A1 l1.length c1] rfl (by (try simp only [List.map_toArray, List.map_cons, List.map_nil]); first | done | rfl | (simp only [List.length_drop, List.length_take]; rfl)) ?_; (with_reducible refine (tattingref7_Turned.calls k _ _ l1 bt252 _ ?side1 ?side2 bA4.out).mono ?_); (case side1 => repeat (first | (first | exact (Kd.C_below HR1.out HB.out) | exact HR1.out) | (with_reducible refine Kd.C_alloc ?_ _) | (with_reducible refine Kd.C_drewN ?_ _) | (with_reducible refine Kd.C_drew ?_))); (case side2 => exact HC1.out); rintro e bw7 ⟨bv253, rfl, ho0, hb⟩; refine ⟨_, rfl, ?_⟩; have n0_ := Aside0.mk (Kd.R_elder' (by (with_reducible repeat (first | apply Kd.R_alloc | apply Kd.R_drewN | apply Kd.R_drew)); exact bHO251.out) (Kd.R_base ho0) hb); have n1_ := Aside0.mk (Kd.R_lower (Kd.R_new' ho0 (Kd.R_lt (by (with_reducible repeat (first | apply Kd.R_alloc | apply Kd.R_drewN | apply Kd.R_drew)); exact bHO251.out))) (below_size (by repeat (first | (with_reducible first | exact HB.out | apply below_alloc | apply pw_below_drewN | apply below_drew1) | exact HB.out)))); have n2_ := Aside0.mk (below_step (by repeat (first | (with_reducible first | exact HB.out | apply below_alloc | apply pw_below_drewN | apply below_drew1) | exact HB.out)) hb); clear bHO251; clear HB; have bHO251 := n0_; have bHO254 := n1_; have HB := n2_; clear n0_ n1_ n2_; (try clear hb); (try clear hb2); (try clear hk); (try clear hi); (try clear ho0); obtain ⟨Ao8, co8, eo8⟩ := Kd.R_slice bHO251.out; subst eo8; obtain ⟨Ao9, co9, eo9⟩ := Kd.R_slice bHO254.out; subst eo9) | ((with_reducible refine gate_callee (f := 43) rfl ?_); refine goesL_ (some 13) rfl rfl Try.func43 (by kernel_rfl) rfl #[.slice Ao8 bt249.length co8, .slice Ao9 bt252.length co9] rfl (by (try simp only [List.map_toArray, List.map_cons, List.map_nil]); first | done | rfl | (simp only [List.length_drop, List.length_take]; rfl)) ?_; (with_reducible refine (tattingref7_Behind.calls k _ _ bt249 _ _ bt252 bt255 _ ?side1 ?side2 ?side3 ?side4 bA5.out).mono ?_); (case side1 => repeat (first | exact (Kd.R_reads' bHO251.out).2.2 | (with_reducible refine Kd.C_alloc ?_ _) | (with_reducible refine Kd.C_drewN ?_ _) | (with_reducible refine Kd.C_drew ?_))); (case side2 => exact (Kd.R_reads' bHO251.out).2.1); (case side3 => repeat (first | exact (Kd.R_reads' bHO254.out).2.2 | (with_reducible refine Kd.C_alloc ?_ _) | (with_reducible refine Kd.C_drewN ?_ _) | (with_reducible refine Kd.C_drew ?_))); (case side4 => exact (Kd.R_reads' bHO254.out).2.1); rintro e bw10 ⟨bv256, rfl, ho0, hb⟩; refine ⟨_, rfl, ?_⟩; have n0_ := Aside0.mk (Kd.R_below (by (with_reducible repeat (first | apply Kd.R_alloc | apply Kd.R_drewN | apply Kd.R_drew)); exact bHO251.out) hb); have n1_ := Aside0.mk (Kd.R_below (by (with_reducible repeat (first | apply Kd.R_alloc | apply Kd.R_drewN | apply Kd.R_drew)); exact bHO254.out) hb); have n2_ := Aside0.mk (Kd.S_lower (Kd.S_new' (Kd.S_new' ho0 (Kd.R_lt (by (with_reducible repeat (first | apply Kd.R_alloc | apply Kd.R_drewN | apply Kd.R_drew)); exact bHO251.out))) (Kd.R_lt (by (with_reducible repeat (first | apply Kd.R_alloc | apply Kd.R_drewN | apply Kd.R_drew)); exact bHO254.out))) (below_size (by repeat (first | (with_reducible first | exact HB.out | apply below_alloc | apply pw_below_drewN | apply below_drew1) | exact HB.out)))); have n3_ := Aside0.mk (below_step (by repeat (first | (with_reducible first | exact HB.out | apply below_alloc | apply pw_below_drewN | apply below_drew1) | exact HB.out)) hb); clear bHO251; clear bHO254; clear HB; have bHO251 := n0_; have bHO254 := n1_; have bHO257 := n2_; have HB := n3_; clear n0_ n1_ n2_ n3_; (try clear hb); (try clear hb2); (try clear hk); (try clear hi); (try clear ho0)))
      obtain ⟨bA2, bc2, bev, bhc, bhC⟩ := Kd.S_reads bHO257.out
      cases bev
      have HR2 := Aside0.mk bhC
      have HC2 := Aside0.mk bhc
      clear bhC bhc
      have HR0b := Aside0.mk (Kd.C_below HR0.out HB.out)
      have HR1b := Aside0.mk (Kd.C_below HR1.out HB.out)
      clear HR0 HR1
      have HR0 := HR0b
      have HR1 := HR1b
      clear HR0b HR1b
      have HB0 := HB
      clear HB
      have HB := Aside0.mk (Below.refl bw10.heap.size bw10)
      try clear bHO251
      try clear bHO254
      try clear bHO257
      go_wp2_with (first | ((with_reducible refine gate_dst (N := 17) rfl ?_); refine Kd.S_make (Kd.slice 3 (Kd.int .i64)) _ 27 rfl (N := 17) rfl 47 _ _ rfl ji4 rfl rfl Try.underlying47 (.slice none 0 0) 24 info27 rfl (by decide) (by omega) [] (ok := fun _ => True) (okp := fun _ => True) ⟨_, rfl, Kd.R_nil _ _ _ _ _⟩ (fun _ hk => hk) trivial (of_decide_eq_true (by first | (with_reducible assumption) | assumption)) (Nat.le_trans (Nat.mul_le_mul_right _ (of_decide_eq_true (by first | (with_reducible assumption) | assumption) : ji4.toNat ≤ 11728124029610)) (by omega)) (Below.refl _ _) (Nat.le_refl _) ?_; intro v250 w7 ho8 hb hg_ hnew_; clear hg_ hnew_; (first | rw [← Ny249.out] at ho8 | (simp only [Int.reduceToNat] at ho8; rw [← Ny249.out] at ho8)); have n0_ := Aside0.mk (Kd.S_lower ho8 (below_size (by repeat (first | (with_reducible first | exact HB.out | apply below_alloc | apply pw_below_drewN | apply below_drew1) | exact HB.out)))); have n1_ := Aside0.mk (below_step (by repeat (first | (with_reducible first | exact HB.out | apply below_alloc | apply pw_below_drewN | apply below_drew1) | exact HB.out)) hb); clear HB; have HO251 := n0_; have HB := n1_; clear n0_ n1_; clear hb ho8))
      go_loopg [7] k (fun kq v7 w' => ∃ (x6_1 : List (List Int)) (x7_1 : Int), v7 = .int .i64 x7_1 ∧ Aside0 (tattingref7_AheadT.l0 kq l0 l1 bt255 x6_1 x7_1 = some r) ∧ Aside0 (kq ≤ k) ∧ Aside0 (Kd.S (Kd.slice 3 (Kd.int .i64)) 27 w' bw10.heap.size (fun _ => True) v250 x6_1) ∧ Aside0 (Below bw10.heap.size bw10 w'))
      case atStart => exact ⟨(y249), (0), (by first | rfl | (simp; done) | (simp [*]; done)), H', ⟨Nat.le_refl _⟩, ⟨by (with_reducible repeat (first | apply Kd.S_alloc | apply Kd.S_drewN | apply Kd.S_drew)); exact HO251.out⟩, ⟨by repeat (first | (with_reducible first | exact HB.out | apply below_alloc | apply pw_below_drewN | apply below_drew1) | exact HB.out)⟩⟩
      case round =>
        clear H'
        try clear c1
        try clear c2
        try clear p2
        try clear c4
        try clear c5
        try clear c5b0
        try clear c5b1
        try clear c6
        try clear c6b0
        try clear c6b1
        try clear p6
        obtain ⟨x6_1, x7_1, rfl, HA, HK1, HO_6, HB⟩ := hrel
        cases gk with
        | zero => exact absurd HA.out (by simp [tattingref7_AheadT.l0])
        | succ k1 =>
          have H := HA.out
          clear HA
          simp only [tattingref7_AheadT.l0] at H
          by_cases c9 : x7_1 ≤ (l0.length : Int)
          · rw [if_pos c9] at H
            have c9b0 : decide (x7_1 ≤ (l0.length : Int)) = true := decide_eq_true c9
            clear c9
            obtain ⟨ji10, hji10⟩ : ∃ j_ : Int, (wrap64 ((l1.length : Int) + 1)) = j_ := ⟨_, rfl⟩
            replace H : (if 0 ≤ (ji10) then (if (ji10 : Int).toNat ≤ 35184372088832 then (if 0 ≤ x7_1 then (if x7_1 < (x6_1.length : Int) then (tattingref7_AheadT.l1 k1 l0 l1 bt255 (x6_1.set (x7_1 : Int).toNat (List.replicate (ji10 : Int).toNat 0)) x7_1 0) else (none)) else (none)) else (none)) else (none)) = some r := by first | (rw [hji10] at H; exact H) | (simp only [hji10] at H ⊢; exact H)
            have hji10w : (IntKind.i64.wrap ((l1.length : Int) + 1)) = ji10 := (i64_w _).trans hji10
            by_cases c11 : 0 ≤ (ji10)
            · rw [if_pos c11] at H
              have c11b0 := eq_true c11
              have c11b1 : decide (0 ≤ (ji10)) = true := decide_eq_true c11
              clear c11
              by_cases c12 : (ji10 : Int).toNat ≤ 35184372088832
              · rw [if_pos c12] at H
                have c12b0 := eq_true c12
                have c12b1 : decide ((ji10 : Int).toNat ≤ 35184372088832) = true := decide_eq_true c12
                clear c12
                obtain ⟨y252, hy252⟩ : ∃ y_ : List Int, y_ = (List.replicate (ji10 : Int).toNat 0) := ⟨_, rfl⟩
                replace H : (if 0 ≤ x7_1 then (if x7_1 < (x6_1.length : Int) then (tattingref7_AheadT.l1 k1 l0 l1 bt255 (x6_1.set (x7_1 : Int).toNat y252) x7_1 0) else (none)) else (none)) = some r := by first | (rw [hy252]; with_reducible exact H) | (have H2_ := (Option.bind_some _ _).symm.trans H; rw [hy252]; with_reducible exact H2_) | (have H2_ := (Option.bind_some _ _).symm.trans H; with_reducible exact H2_) | with_reducible exact H | (rw [hy252]; exact H) | exact H
                have Ny252 := Aside0.mk hy252
                clear hy252
                by_cases c13 : 0 ≤ x7_1
                · rw [if_pos c13] at H
                  have c13b0 : decide (0 ≤ x7_1) = true := decide_eq_true c13
                  clear c13
                  by_cases c14 : x7_1 < (x6_1.length : Int)
                  · rw [if_pos c14] at H
                    have c14b0 : decide (x7_1 < (x6_1.length : Int)) = true := decide_eq_true c14
                    clear c14
                    obtain ⟨y255, hy255⟩ : ∃ y_ : List (List Int), y_ = (x6_1.set (x7_1 : Int).toNat y252) := ⟨_, rfl⟩
                    replace H : (tattingref7_AheadT.l1 k1 l0 l1 bt255 y255 x7_1 0) = some r := by first | (rw [hy255]; with_reducible exact H) | (have H2_ := (Option.bind_some _ _).symm.trans H; rw [hy255]; with_reducible exact H2_) | (have H2_ := (Option.bind_some _ _).symm.trans H; with_reducible exact H2_) | with_reducible exact H | (rw [hy255]; exact H) | exact H
                    have Ny255 := Aside0.mk hy255
                    clear hy255
                    have H' := Aside0.mk H
                    clear H
                    go_wp2_with (first | ((with_reducible refine gate_dst (N := 29) rfl ?_); refine Kd.R_make (Kd.int .i64) _ 3 rfl (N := 29) rfl 27 _ _ rfl ji10 rfl rfl Try.underlying27 (.int .i64 0) 8 info3 rfl (by decide) (by omega) 0 (ok := fun _ => True) (okp := fun _ => True) rfl (fun _ hk => hk) trivial (of_decide_eq_true (by first | (with_reducible assumption) | assumption)) (Nat.le_trans (Nat.mul_le_mul_right _ (of_decide_eq_true (by first | (with_reducible assumption) | assumption) : ji10.toNat ≤ 35184372088832)) (by omega)) (Below.refl _ _) (Nat.le_refl _) ?_; intro v253 w16 ho17 hb hg_ hnew_; clear hg_ hnew_; obtain ⟨Af_v253, cf_v253, ef_v253⟩ := Kd.R_slice ho17; (first | rw [← Ny252.out] at ho17 | (simp only [Int.reduceToNat] at ho17; rw [← Ny252.out] at ho17)); have n0_ := Aside0.mk (Kd.S_elder' (by (with_reducible repeat (first | apply Kd.S_alloc | apply Kd.S_drewN | apply Kd.S_drew)); exact HO_6.out) (Kd.R_base ho17) hb); have n1_ := Aside0.mk (Kd.R_lower ho17 (below_size (by repeat (first | (with_reducible first | exact HB.out | apply below_alloc | apply pw_below_drewN | apply below_drew1) | exact HB.out)))); have n2_ := Aside0.mk (below_step (by repeat (first | (with_reducible first | exact HB.out | apply below_alloc | apply pw_below_drewN | apply below_drew1) | exact HB.out)) hb); clear HO_6; clear HB; have HO_6 := n0_; have HO254 := n1_; have HB := n2_; clear n0_ n1_ n2_; clear hb ho17; have p15 : 0 ≤ (x7_1 : Int) := of_decide_eq_true (by first | (with_reducible assumption) | assumption); have q15 : (x7_1 : Int) < ((x6_1.length : Int) : Int) := of_decide_eq_true (by first | (with_reducible assumption) | assumption); obtain ⟨go15, co15, eo15, gb15, gl15, cl15, HG15⟩ := Kd.S_form HO_6.out (by omega); (first | cases eo15 | (injection eo15 with ea_ en_ ec_; (first | subst ea_ | (injection ea_ with ea_; subst ea_)); subst ec_; clear en_)); have GB15 := Aside0.mk gb15; have GG15 := Aside0.mk HG15; clear gb15 gl15 HG15; obtain ⟨_, ce15, hcl15, hM15, hcc15, hfr15, _, _⟩ := Kd.S_elem HO_6.out [] (x7_1 : Int) p15 q15; obtain ⟨ve15_0, rfl, ge15_0⟩ := hM15; have hx15_0 := hcc15 0 _ rfl; have hf15_0 := hfr15 0; (try simp only [show ((Kd.slice 3 (Kd.int .i64))).sz = 1 from rfl, Nat.mul_one, Nat.add_zero] at hx15_0); (try simp only [show ((Kd.slice 3 (Kd.int .i64))).sz = 1 from rfl, Nat.mul_one, Nat.add_zero] at hf15_0); clear hcl15 hcc15 hfr15; (try clear hM15); replace p15 := eq_true p15; replace q15 := eq_true q15; have n_ := Aside0.mk (Kd.S_mono (ok' := (fun k_ => some k_ ≠ (v253 : Value).ownBlock)) HO_6.out (fun k_ hk => hk.2)); clear HO_6; have HO_6 := n_; clear n_; have HX18 := Aside0.mk (show Kd.S (Kd.slice 3 (Kd.int .i64)) 27 w16 bw10.heap.size (fun k_ => ((fun _ => True)) k_ ∧ ¬ ((fun k_ => some k_ = (v253 : Value).ownBlock)) k_) (.slice (some ⟨go15, 0, none⟩) x6_1.length co15) x6_1 from (by (with_reducible repeat (first | apply Kd.S_alloc | apply Kd.S_drewN | apply Kd.S_drew)); exact Kd.S_mono HO_6.out (fun k_ hk => ⟨trivial, fun e_ => hk e_⟩))); obtain ⟨oki18, ce18, hcl18, hM18, hcc18, hfr18, hoki18, hH18⟩ := Kd.S_elem HX18.out [] (x7_1 : Int) (of_decide_eq_true (by first | (with_reducible assumption) | assumption)) (by have h_ : (x7_1 : Int) < ((x6_1.length : Int) : Int) := of_decide_eq_true (by first | (with_reducible assumption) | assumption); first | exact h_ | (have e_ := (Kd.S_reads' HO_6.out).1; omega) | simpa using h_); obtain ⟨ve18_0, rfl, ge18_0⟩ := hM18; have HP18 := Kd.S_seg hH18 (of_decide_eq_true (by first | (with_reducible assumption) | assumption)) (by have h_ : (x7_1 : Int) < ((x6_1.length : Int) : Int) := of_decide_eq_true (by first | (with_reducible assumption) | assumption); first | exact h_ | (have e_ := (Kd.S_reads' HO_6.out).1; omega) | simpa using h_) (seg := [v253]) (j := 0) (show 1 ≤ 1 from by decide) (x' := y252) (Kd.M_row (Kd.R_mono (Kd.R_tight rfl (Kd.R_mono (ok' := fun k_ => ((fun _ => True)) k_ ∧ k_ ≠ go15) (Kd.R_apart' (HO254.out) (Kd.S_typed HO_6.out) (by decide)) (fun k_ hk => ⟨trivial, fun e_ => (hk.2) (by rw [e_]; rfl)⟩))) (fun _ h_ => Or.inr (h_)))) (fun _ hk => hk) (fun k_ hk_ => ((Kd.R_mono (ok' := fun k_ => ((fun _ => True)) k_ ∧ k_ ≠ go15) (Kd.R_apart' (HO254.out) (Kd.S_typed HO_6.out) (by decide)) (fun k_ hk => ⟨trivial, fun e_ => (hk.2) (by rw [e_]; rfl)⟩))).1 k_ hk_.symm); have hx18_0 := hcc18 0 _ rfl; (try simp only [show ((Kd.slice 3 (Kd.int .i64))).sz = 1 from rfl, Nat.mul_one, Nat.add_zero] at hx18_0); have hf18_0 := hfr18 0; (try simp only [show ((Kd.slice 3 (Kd.int .i64))).sz = 1 from rfl, Nat.mul_one, Nat.add_zero] at hf18_0); clear hcl18 hcc18 hfr18 hoki18 hH18; (try clear hM18); (try simp only [show ((Kd.slice 3 (Kd.int .i64))).sz = 1 from rfl, Nat.mul_one, Nat.add_zero] at HP18)) | ((with_reducible refine gate_store (t := 27) (p := 30) rfl ?_); refine store_event (t := 27) (p := 30) (v := ?vo_w19) (w1 := (w16.setCell ⟨go15, (x7_1 : Int).toNat, none⟩ (v253))) ?hg ?ho ?hn ?hr ?_; (case ho => rfl); (case hg => rfl); (case hn => rfl); (case hr => first | (go_simp; done) | (go_simp; rfl) | (rw [ef_v253]; go_simp; first | done | rfl)); intro w19 hw; have hg : w16.grownBy w19 (some go15) := (by rw [hw]; exact HP18.2); have hp_ : Kd.S (Kd.slice 3 (Kd.int .i64)) 27 w19 bw10.heap.size (fun _ => True) (.slice (some ⟨go15, 0, none⟩) x6_1.length co15) y255 := (by rw [hw, Ny255.out]; exact HP18.1); clear HP18; have n0_ := Aside0.mk (hp_); have n1_ := Aside0.mk ((by rw [hw]; exact below_set (HB.out) GB15.out : Below bw10.heap.size bw10 w19)); clear HO_6; clear HB; clear HO254; have HO_6 := n0_; have HB := n1_; clear n0_ n1_; clear hg hw hp_))
                    go_loopg [8] k1 (fun kq v8 w' => ∃ (x6_2 : List (List Int)) (x8_2 : Int), v8 = .int .i64 x8_2 ∧ Aside0 (tattingref7_AheadT.l1 kq l0 l1 bt255 x6_2 x7_1 x8_2 = some r) ∧ Aside0 (kq ≤ k1) ∧ Aside0 (Kd.S (Kd.slice 3 (Kd.int .i64)) 27 w' bw10.heap.size (fun _ => True) (.slice (some ⟨go15, 0, none⟩) x6_1.length co15) x6_2) ∧ Aside0 (Below bw10.heap.size bw10 w'))
                    case atStart => exact ⟨(y255), (0), (by first | rfl | (simp; done) | (simp [*]; done)), H', ⟨Nat.le_refl _⟩, ⟨by (with_reducible repeat (first | apply Kd.S_alloc | apply Kd.S_drewN | apply Kd.S_drew)); exact HO_6.out⟩, ⟨by repeat (first | (with_reducible first | exact HB.out | apply below_alloc | apply pw_below_drewN | apply below_drew1) | exact HB.out)⟩⟩
                    case round =>
                      clear H'
                      try clear c1
                      try clear p1
                      try clear q1
                      try clear hx1
                      try clear c2
                      try clear p2
                      try clear c4
                      try clear c5
                      try clear c5b0
                      try clear c5b1
                      try clear c6
                      try clear c6b0
                      try clear c6b1
                      try clear p6
                      try clear c9
                      try clear c9b0
                      try clear c11
                      try clear c11b0
                      try clear c11b1
                      try clear c12
                      try clear c12b0
                      try clear c12b1
                      try clear c13
                      try clear c13b0
                      try clear c14
                      try clear c14b0
                      try clear c15
                      try clear p15
                      try clear q15
                      try clear hx15
                      try clear hf15
                      try clear c18
                      try clear hx18
                      try clear hf18
                      try clear hx15_0
                      try clear hx18_0
                      try clear p15
                      try clear p2
                      try clear p6
                      try clear q15
                      obtain ⟨x6_2, x8_2, rfl, HA, HK2, HO_6, HB⟩ := hrel
                      have hl6_2 := (Kd.S_reads' HO_6.out).1
                      rw [hl6_2] at HO_6
                      (try simp only [hl6_2])
                      cases gk with
                      | zero => exact absurd HA.out (by simp [tattingref7_AheadT.l1])
                      | succ k2 =>
                        have H := HA.out
                        clear HA
                        simp only [tattingref7_AheadT.l1] at H
                        by_cases c20 : x8_2 ≤ (l1.length : Int)
                        · rw [if_pos c20] at H
                          have c20b0 : decide (x8_2 ≤ (l1.length : Int)) = true := decide_eq_true c20
                          (try simp only [hl6_2] at c20b0)
                          clear c20
                          by_cases c21 : 0 ≤ x7_1
                          · rw [if_pos c21] at H
                            have c21b0 : decide (0 ≤ x7_1) = true := decide_eq_true c21
                            clear c21
                            by_cases c22 : x7_1 < (x6_2.length : Int)
                            · rw [if_pos c22] at H
                              have c22b0 : decide (x7_1 < (x6_2.length : Int)) = true := decide_eq_true c22
                              (try simp only [hl6_2] at c22b0)
                              clear c22
                              obtain ⟨ji23, hji23⟩ : ∃ j_ : Int, (wrap64 ((l0.length : Int) - x7_1)) = j_ := ⟨_, rfl⟩
                              replace H : (if 0 ≤ (ji23) then (if (ji23) < (bt255.length : Int) then (if 0 ≤ (wrap64 ((l1.length : Int) - x8_2)) then (if (wrap64 ((l1.length : Int) - x8_2)) < ((rd_L3 bt255 (ji23)).length : Int) then (if 0 ≤ x8_2 then (if x8_2 < ((rd_L3 x6_2 x7_1).length : Int) then (tattingref7_AheadT.l1 k2 l0 l1 bt255 (x6_2.set (x7_1 : Int).toNat ((rd_L3 x6_2 x7_1).set (x8_2 : Int).toNat (rd (rd_L3 bt255 (ji23)) (wrap64 ((l1.length : Int) - x8_2))))) x7_1 (wrap64 (x8_2 + 1))) else (none)) else (none)) else (none)) else (none)) else (none)) else (none)) = some r := by first | (rw [hji23] at H; exact H) | (simp only [hji23] at H ⊢; exact H)
                              have hji23w : (IntKind.i64.wrap ((l0.length : Int) - x7_1)) = ji23 := (i64_w _).trans hji23
                              by_cases c24 : 0 ≤ (ji23)
                              · rw [if_pos c24] at H
                                have c24b0 : decide (0 ≤ (ji23)) = true := decide_eq_true c24
                                clear c24
                                by_cases c25 : (ji23) < (bt255.length : Int)
                                · rw [if_pos c25] at H
                                  have c25b0 : decide ((ji23) < (bt255.length : Int)) = true := decide_eq_true c25
                                  (try simp only [hl6_2] at c25b0)
                                  clear c25
                                  obtain ⟨ji26, hji26⟩ : ∃ j_ : Int, (wrap64 ((l1.length : Int) - x8_2)) = j_ := ⟨_, rfl⟩
                                  replace H : (if 0 ≤ (ji26) then (if (ji26) < ((rd_L3 bt255 (ji23)).length : Int) then (if 0 ≤ x8_2 then (if x8_2 < ((rd_L3 x6_2 x7_1).length : Int) then (tattingref7_AheadT.l1 k2 l0 l1 bt255 (x6_2.set (x7_1 : Int).toNat ((rd_L3 x6_2 x7_1).set (x8_2 : Int).toNat (rd (rd_L3 bt255 (ji23)) (ji26)))) x7_1 (wrap64 (x8_2 + 1))) else (none)) else (none)) else (none)) else (none)) = some r := by first | (rw [hji26] at H; exact H) | (simp only [hji26] at H ⊢; exact H)
                                  have hji26w : (IntKind.i64.wrap ((l1.length : Int) - x8_2)) = ji26 := (i64_w _).trans hji26
                                  by_cases c27 : 0 ≤ (ji26)
                                  · rw [if_pos c27] at H
                                    have c27b0 : decide (0 ≤ (ji26)) = true := decide_eq_true c27
                                    clear c27
                                    by_cases c28 : (ji26) < ((rd_L3 bt255 (ji23)).length : Int)
                                    · rw [if_pos c28] at H
                                      have c28b0 : decide ((ji26) < ((rd_L3 bt255 (ji23)).length : Int)) = true := decide_eq_true c28
                                      (try simp only [hl6_2] at c28b0)
                                      clear c28
                                      by_cases c29 : 0 ≤ x8_2
                                      · rw [if_pos c29] at H
                                        have c29b0 : decide (0 ≤ x8_2) = true := decide_eq_true c29
                                        clear c29
                                        by_cases c30 : x8_2 < ((rd_L3 x6_2 x7_1).length : Int)
                                        · rw [if_pos c30] at H
                                          have c30b0 : decide (x8_2 < ((rd_L3 x6_2 x7_1).length : Int)) = true := decide_eq_true c30
                                          (try simp only [hl6_2] at c30b0)
                                          clear c30
                                          obtain ⟨y259, hy259⟩ : ∃ y_ : List Int, y_ = ((rd_L3 x6_2 x7_1).set (x8_2 : Int).toNat (rd (rd_L3 bt255 (ji23)) (ji26))) := ⟨_, rfl⟩
                                          replace H : (tattingref7_AheadT.l1 k2 l0 l1 bt255 (x6_2.set (x7_1 : Int).toNat y259) x7_1 (wrap64 (x8_2 + 1))) = some r := by first | (rw [hy259]; with_reducible exact H) | (have H2_ := (Option.bind_some _ _).symm.trans H; rw [hy259]; with_reducible exact H2_) | (have H2_ := (Option.bind_some _ _).symm.trans H; with_reducible exact H2_) | with_reducible exact H | (rw [hy259]; exact H) | exact H
                                          have Ny259 := Aside0.mk hy259
                                          clear hy259
                                          obtain ⟨y261, hy261⟩ : ∃ y_ : List (List Int), y_ = (x6_2.set (x7_1 : Int).toNat y259) := ⟨_, rfl⟩
                                          replace H : (tattingref7_AheadT.l1 k2 l0 l1 bt255 y261 x7_1 (wrap64 (x8_2 + 1))) = some r := by first | (rw [hy261]; with_reducible exact H) | (have H2_ := (Option.bind_some _ _).symm.trans H; rw [hy261]; with_reducible exact H2_) | (have H2_ := (Option.bind_some _ _).symm.trans H; with_reducible exact H2_) | with_reducible exact H | (rw [hy261]; exact H) | exact H
                                          have Ny261 := Aside0.mk hy261
                                          clear hy261
                                          have H' := Aside0.mk H
                                          clear H
                                          try go_wp2
                                          have n0_ := Aside0.mk (Kd.S_drew HO_6.out)
                                          have n1_ := Aside0.mk (below_drew1 HB.out)
                                          clear HO_6
                                          clear HB
                                          have HO_6 := n0_
                                          have HB := n1_
                                          clear n0_ n1_
                                          have p256 : 0 ≤ (x7_1 : Int) := of_decide_eq_true (by first | (with_reducible assumption) | assumption)
                                          have q256 : x7_1 < (x6_2.length : Int) := of_decide_eq_true (by first | (with_reducible assumption) | assumption)
                                          obtain ⟨ad256, A256_0, c256_0, e256, hx256_0, hl256_0, hi256_0⟩ := at_L3 (Kd.S_reads' HO_6.out).2.2 x7_1 p256 q256
                                          obtain rfl : (⟨go15, 0, none⟩ : Addr) = ad256 := (by injection e256)
                                          obtain ⟨ce256, hce256, hMe256, hcc256⟩ := Kd.S_get HO_6.out [] x7_1 p256 (by first | exact q256 | exact of_decide_eq_true (by first | (with_reducible assumption) | assumption) | (have e_ := (Kd.S_reads' HO_6.out).1; omega))
                                          obtain ⟨ve256_0, rfl, ge256_0⟩ := hMe256
                                          have hv256_0 := hcc256 0 _ rfl
                                          rw [Nat.add_zero, show ((Kd.slice 3 (Kd.int .i64))).sz = 1 from rfl, Nat.mul_one] at hv256_0
                                          replace hv256_0 := Option.some.inj (hv256_0.symm.trans hx256_0)
                                          rw [hv256_0] at ge256_0
                                          have HL256_0 := Aside0.mk (show Kd.R (Kd.int .i64) 3 _ _ _ _ (rd_L3 x6_2 x7_1) from ge256_0)
                                          clear hv256_0 ge256_0
                                          have HX256_0 := Aside0.mk hx256_0
                                          clear hcc256 hce256
                                          (first | simp only [add_plain] at hx256_0 | simp only [add_at] at hx256_0 | simp only [Addr.add, Nat.zero_add] at hx256_0 | skip)
                                          have HR256_0 := Aside0.mk hi256_0
                                          have HC256_0 := Aside0.mk hl256_0
                                          clear hi256_0 hl256_0
                                          replace p256 := eq_true p256
                                          replace q256 := eq_true q256
                                          have p257 : 0 ≤ ((ji23) : Int) := of_decide_eq_true (by first | (with_reducible assumption) | assumption)
                                          have q257 : (ji23) < (bt255.length : Int) := of_decide_eq_true (by first | (with_reducible assumption) | assumption)
                                          obtain ⟨ad257, A257_0, c257_0, e257, hx257_0, hl257_0, hi257_0⟩ := at_L3 HR2.out (ji23) p257 q257
                                          have hw257_0 := hx257_0
                                          cases e257
                                          replace hx257_0 := (HB.out.cell (World.block_lt_of_cell? bw10 _ hx257_0)).trans hx257_0
                                          have HR257_0 := Aside0.mk hi257_0
                                          have HC257_0 := Aside0.mk hl257_0
                                          clear hi257_0 hl257_0
                                          replace p257 := eq_true p257
                                          replace q257 := eq_true q257
                                          have p258 : 0 ≤ ((ji26) : Int) := of_decide_eq_true (by first | (with_reducible assumption) | assumption)
                                          have q258 : (ji26) < ((rd_L3 bt255 (ji23)).length : Int) := of_decide_eq_true (by first | (with_reducible assumption) | assumption)
                                          obtain ⟨ad258, e258, hx258_0⟩ := Kd.at_int HR257_0.out (ji26) p258 q258
                                          have hw258_0 := hx258_0
                                          cases e258
                                          replace hx258_0 := (HB.out.cell (World.block_lt_of_cell? bw10 _ hx258_0)).trans hx258_0
                                          replace p258 := eq_true p258
                                          replace q258 := eq_true q258
                                          have p31 : 0 ≤ (x8_2 : Int) := of_decide_eq_true (by first | (with_reducible assumption) | assumption)
                                          have q31 : (x8_2 : Int) < (((rd_L3 x6_2 x7_1).length : Int) : Int) := of_decide_eq_true (by first | (with_reducible assumption) | assumption)
                                          obtain ⟨go31, co31, eo31, gb31, gl31, cl31, HG31⟩ := Kd.R_form HL256_0.out (by omega)
                                          (first | cases eo31 | (injection eo31 with ea_ en_ ec_; (first | subst ea_ | (injection ea_ with ea_; subst ea_)); subst ec_; clear en_))
                                          have GB31 := Aside0.mk gb31
                                          have GG31 := Aside0.mk HG31
                                          clear gb31 gl31 HG31
                                          obtain ⟨hx31_0, hf31_0⟩ := Kd.R_celln 0 HL256_0.out (x8_2 : Int) p31 q31
                                          replace p31 := eq_true p31
                                          replace q31 := eq_true q31
                                          have hq33 : (x7_1 : Int) < (x6_2.length : Int) := (by have h_ : (x7_1 : Int) < ((x6_2.length : Int) : Int) := of_decide_eq_true (by first | (with_reducible assumption) | assumption); first | exact h_ | (have e_ := (Kd.S_reads' HO_6.out).1; omega) | simpa only [List.length_set, List.length_set] using h_)
                                          obtain ⟨oki33, ce33, hcl33, hM33, hcc33, hok33, hbk33⟩ := Kd.S_borrow HO_6.out [] (x7_1 : Int) (of_decide_eq_true (by first | (with_reducible assumption) | assumption)) hq33
                                          obtain ⟨ve33_0, rfl, ge33_0⟩ := hM33
                                          have hv33 := hcc33 0 _ rfl
                                          rw [Nat.add_zero, show ((Kd.slice 3 (Kd.int .i64))).sz = 1 from rfl, Nat.mul_one] at hv33
                                          replace hv33 := Option.some.inj (hv33.symm.trans HX256_0.out)
                                          subst hv33
                                          clear hcc33 hcl33
                                          replace ge33_0 := (show Kd.R (Kd.int .i64) 3 _ _ _ _ (rd_L3 x6_2 x7_1) from ge33_0)
                                          have HP33 := Kd.R_putg ge33_0 (x8_2 : Int) (rd (rd_L3 bt255 (ji23)) (ji26))
                                          rw [← Ny259.out] at HP33
                                          have HS33 := hbk33 HP33.2 (fun k_ e_ => by injection e_ with e_; subst e_; exact ge33_0.1 _ rfl) (x' := y259) (Kd.M_row HP33.1)
                                          rw [← Ny261.out] at HS33
                                          have HQ33 := Aside0.mk HS33
                                          clear HP33 HS33 hbk33 hok33
                                          refine start_ (n := 20) (S := fun w' => w'.cell? ⟨go15, (x7_1).toNat, none⟩ = some (.slice (some ⟨go31, 0, none⟩) (rd_L3 x6_2 x7_1).length c256_0) ∧ w'.cell? (ad257.add ((ji23)).toNat) = some (.slice (some ad258) (rd_L3 bt255 (ji23)).length c257_0) ∧ w'.cell? (ad258.add ((ji26)).toNat) = some (.int .i64 (rd (rd_L3 bt255 (ji23)) (ji26)))) (ds := [19]) #[false, false, false, false, false, false, false, false, false, false, false, false, false, false, false, false, false, false, false, false] (by kernel_rfl) rfl rfl ⟨hx256_0, ((HB.out.cell (World.block_lt_of_cell? bw10 _ hw257_0)).trans hw257_0), ((HB.out.cell (World.block_lt_of_cell? bw10 _ hw258_0)).trans hw258_0)⟩ (fun hHeld => ?_); refine with_tabW tattingref7_AheadT.tab10 tattingref7_AheadT.bits10 (fun HT_ HW_ => ?_)
                                          generalize wr.drew = w32 at HO_6 HB GG31 HL256_0 HQ33 HR256_0 HR257_0 HX256_0 hf31_0 hx256_0 hx257_0 hx258_0 hx31_0 hHeld ⊢
                                          refine pure_ (i := 0) (N := some 37) (v := ?_) (a' := ?_) #[true, false, false, false, false, false, false, false, false, false, false, false, false, false, false, false, false, false, false, false] rfl rfl (any_of HT_.out (by kernel_rfl)) (fun _ _ _ h => h) (Or.inl ⟨by rfl, ?_⟩) ?_ ?_
                                          rotate_left
                                          · intro w'
                                            go_simp
                                            with_reducible rfl
                                          rotate_left
                                          · simp only [Act.put, List.setIfInBounds_toArray, List.set_cons_zero, List.set_cons_succ, i64_w, i32_w]
                                            rfl
                                          refine pure_ (i := 1) (N := some 38) (v := ?_) (a' := ?_) #[true, true, false, false, false, false, false, false, false, false, false, false, false, false, false, false, false, false, false, false] rfl rfl (any_of HT_.out (by kernel_rfl)) (fun _ _ _ h => h) (Or.inl ⟨by rfl, ?_⟩) ?_ ?_
                                          rotate_left
                                          · intro w'
                                            go_simp
                                            with_reducible rfl
                                          rotate_left
                                          · simp only [Act.put, List.setIfInBounds_toArray, List.set_cons_zero, List.set_cons_succ, i64_w, i32_w]
                                            rfl
                                          refine pure_ (i := 2) (N := some 39) (v := ?_) (a' := ?_) #[true, true, true, false, false, false, false, false, false, false, false, false, false, false, false, false, false, false, false, false] rfl rfl (any_of HT_.out (by kernel_rfl)) (fun _ _ _ h => h) (Or.inl ⟨by rfl, ?_⟩) ?_ ?_
                                          rotate_left
                                          · intro w'
                                            go_simp
                                            with_reducible rfl
                                          rotate_left
                                          · simp only [Act.put, List.setIfInBounds_toArray, List.set_cons_zero, List.set_cons_succ, i64_w, i32_w]
                                            rfl
                                          refine pure_ (i := 4) (N := some 41) (v := ?_) (a' := ?_) #[true, true, true, false, true, false, false, false, false, false, false, false, false, false, false, false, false, false, false, false] rfl rfl (any_of HT_.out (by kernel_rfl)) (fun _ _ _ h => h) (Or.inl ⟨by rfl, ?_⟩) ?_ ?_
                                          rotate_left
                                          · intro w'
                                            go_simp
                                            with_reducible rfl
                                          rotate_left
                                          · simp only [Act.put, List.setIfInBounds_toArray, List.set_cons_zero, List.set_cons_succ, i64_w, i32_w]
                                            rfl
                                          refine pure_ (i := 5) (N := some 42) (v := ?_) (a' := ?_) #[true, true, true, false, true, true, false, false, false, false, false, false, false, false, false, false, false, false, false, false] rfl rfl (any_of HT_.out (by kernel_rfl)) (fun _ _ _ h => h) (Or.inl ⟨by rfl, ?_⟩) ?_ ?_
                                          rotate_left
                                          · intro w'
                                            go_simp
                                            with_reducible rfl
                                          rotate_left
                                          · simp only [Act.put, List.setIfInBounds_toArray, List.set_cons_zero, List.set_cons_succ, i64_w, i32_w]
                                            rfl
                                          refine pure_ (i := 6) (N := some 43) (v := ?_) (a' := ?_) #[true, true, true, false, true, true, true, false, false, false, false, false, false, false, false, false, false, false, false, false] rfl rfl (any_of HT_.out (by kernel_rfl)) (fun _ _ _ h => h) (Or.inl ⟨by rfl, ?_⟩) ?_ ?_
                                          rotate_left
                                          · intro w'
                                            go_simp
                                            with_reducible rfl
                                          rotate_left
                                          · simp only [Act.put, List.setIfInBounds_toArray, List.set_cons_zero, List.set_cons_succ, i64_w, i32_w]
                                            rfl
                                          refine pure_ (i := 7) (N := some 44) (v := ?_) (a' := ?_) #[true, true, true, false, true, true, true, true, false, false, false, false, false, false, false, false, false, false, false, false] rfl rfl (any_of HT_.out (by kernel_rfl)) (fun _ _ _ h => h) (Or.inl ⟨by rfl, ?_⟩) ?_ ?_
                                          rotate_left
                                          · intro w'
                                            go_simp
                                            with_reducible rfl
                                          rotate_left
                                          · simp only [Act.put, List.setIfInBounds_toArray, List.set_cons_zero, List.set_cons_succ, i64_w, i32_w]
                                            rfl
                                          refine pure_ (i := 8) (N := some 45) (v := ?_) (a' := ?_) #[true, true, true, false, true, true, true, true, true, false, false, false, false, false, false, false, false, false, false, false] rfl rfl (any_of HT_.out (by kernel_rfl)) (fun _ _ _ h => h) (Or.inl ⟨by rfl, ?_⟩) ?_ ?_
                                          rotate_left
                                          · intro w'
                                            go_simp
                                            with_reducible rfl
                                          rotate_left
                                          · simp only [Act.put, List.setIfInBounds_toArray, List.set_cons_zero, List.set_cons_succ, i64_w, i32_w]
                                            rfl
                                          refine pure_ (i := 9) (N := some 46) (v := ?_) (a' := ?_) #[true, true, true, false, true, true, true, true, true, true, false, false, false, false, false, false, false, false, false, false] rfl rfl (any_of HT_.out (by kernel_rfl)) (fun _ _ _ h => h) (Or.inl ⟨by rfl, ?_⟩) ?_ ?_
                                          rotate_left
                                          · intro w'
                                            go_simp
                                            with_reducible rfl
                                          rotate_left
                                          · simp only [Act.put, List.setIfInBounds_toArray, List.set_cons_zero, List.set_cons_succ, i64_w, i32_w]
                                            rfl
                                          refine pure_ (i := 10) (N := some 47) (v := ?_) (a' := ?_) #[true, true, true, false, true, true, true, true, true, true, true, false, false, false, false, false, false, false, false, false] rfl rfl (any_of HT_.out (by kernel_rfl)) (fun _ _ _ h => h) (Or.inl ⟨by rfl, ?_⟩) ?_ ?_
                                          rotate_left
                                          · intro w'
                                            go_simp
                                            with_reducible rfl
                                          rotate_left
                                          · simp only [Act.put, List.setIfInBounds_toArray, List.set_cons_zero, List.set_cons_succ, i64_w, i32_w]
                                            rfl
                                          refine pure_ (i := 12) (N := some 49) (v := ?_) (a' := ?_) #[true, true, true, false, true, true, true, true, true, true, true, false, true, false, false, false, false, false, false, false] rfl rfl (any_of HT_.out (by kernel_rfl)) (fun _ _ _ h => h) (Or.inl ⟨by rfl, ?_⟩) ?_ ?_
                                          rotate_left
                                          · intro w'
                                            go_simp
                                            with_reducible rfl
                                          rotate_left
                                          · simp only [Act.put, List.setIfInBounds_toArray, List.set_cons_zero, List.set_cons_succ, i64_w, i32_w]
                                            rfl
                                          refine pure_ (i := 13) (N := some 50) (v := ?_) (a' := ?_) #[true, true, true, false, true, true, true, true, true, true, true, false, true, true, false, false, false, false, false, false] rfl rfl (any_of HT_.out (by kernel_rfl)) (fun _ _ _ h => h) (Or.inl ⟨by rfl, ?_⟩) ?_ ?_
                                          rotate_left
                                          · intro w'
                                            go_simp
                                            with_reducible rfl
                                          rotate_left
                                          · simp only [Act.put, List.setIfInBounds_toArray, List.set_cons_zero, List.set_cons_succ, i64_w, i32_w]
                                            rfl
                                          refine pure_ (i := 14) (N := some 51) (v := ?_) (a' := ?_) #[true, true, true, false, true, true, true, true, true, true, true, false, true, true, true, false, false, false, false, false] rfl rfl (any_of HT_.out (by kernel_rfl)) (fun _ _ _ h => h) (Or.inl ⟨by rfl, ?_⟩) ?_ ?_
                                          rotate_left
                                          · intro w'
                                            go_simp
                                            with_reducible rfl
                                          rotate_left
                                          · simp only [Act.put, List.setIfInBounds_toArray, List.set_cons_zero, List.set_cons_succ, i64_w, i32_w]
                                            rfl
                                          refine pure_ (i := 15) (N := some 52) (v := ?_) (a' := ?_) #[true, true, true, false, true, true, true, true, true, true, true, false, true, true, true, true, false, false, false, false] rfl rfl (any_of HT_.out (by kernel_rfl)) (fun _ _ _ h => h) (Or.inl ⟨by rfl, ?_⟩) ?_ ?_
                                          rotate_left
                                          · intro w'
                                            go_simp
                                            with_reducible rfl
                                          rotate_left
                                          · simp only [Act.put, List.setIfInBounds_toArray, List.set_cons_zero, List.set_cons_succ, i64_w, i32_w]
                                            rfl
                                          refine take_ (i := 3) (N := some 40) (v := ?_) (a' := ?_) #[true, true, true, true, true, true, true, true, true, true, true, false, true, true, true, true, false, false, false, false] rfl rfl (take_ofW HT_.out HW_.out (by kernel_rfl)) (fun _ _ _ h => h) (Or.inl ⟨by rfl, ?_⟩) hHeld ?_ ?_
                                          rotate_left
                                          · rintro w' ⟨s0, s1, s2⟩
                                            go_simp
                                            with_reducible rfl
                                          rotate_left
                                          · simp only [Act.put, List.setIfInBounds_toArray, List.set_cons_zero, List.set_cons_succ, i64_w, i32_w]
                                            rfl
                                          refine take_ (i := 11) (N := some 48) (v := ?_) (a' := ?_) #[true, true, true, true, true, true, true, true, true, true, true, true, true, true, true, true, false, false, false, false] rfl rfl (take_ofW HT_.out HW_.out (by kernel_rfl)) (fun _ _ _ h => h) (Or.inl ⟨by rfl, ?_⟩) hHeld ?_ ?_
                                          rotate_left
                                          · rintro w' ⟨s0, s1, s2⟩
                                            go_simp
                                            with_reducible rfl
                                          rotate_left
                                          · simp only [Act.put, List.setIfInBounds_toArray, List.set_cons_zero, List.set_cons_succ, i64_w, i32_w]
                                            rfl
                                          refine pure_ (i := 16) (N := some 53) (v := ?_) (a' := ?_) #[true, true, true, true, true, true, true, true, true, true, true, true, true, true, true, true, true, false, false, false] rfl rfl (any_of HT_.out (by kernel_rfl)) (fun _ _ _ h => h) (Or.inl ⟨by rfl, ?_⟩) ?_ ?_
                                          rotate_left
                                          · intro w'
                                            go_simp
                                            with_reducible rfl
                                          rotate_left
                                          · simp only [Act.put, List.setIfInBounds_toArray, List.set_cons_zero, List.set_cons_succ, i64_w, i32_w]
                                            rfl
                                          refine take_ (i := 17) (N := some 54) (v := ?_) (a' := ?_) #[true, true, true, true, true, true, true, true, true, true, true, true, true, true, true, true, true, true, false, false] rfl rfl (take_ofW HT_.out HW_.out (by kernel_rfl)) (fun _ _ _ h => h) (Or.inl ⟨by rfl, ?_⟩) hHeld ?_ ?_
                                          rotate_left
                                          · rintro w' ⟨s0, s1, s2⟩
                                            go_simp
                                            with_reducible rfl
                                          rotate_left
                                          · simp only [Act.put, List.setIfInBounds_toArray, List.set_cons_zero, List.set_cons_succ, i64_w, i32_w]
                                            rfl
                                          refine pure_ (i := 18) (N := some 55) (v := ?_) (a' := ?_) #[true, true, true, true, true, true, true, true, true, true, true, true, true, true, true, true, true, true, true, false] rfl rfl (any_of HT_.out (by kernel_rfl)) (fun _ _ _ h => h) (Or.inl ⟨by rfl, ?_⟩) ?_ ?_
                                          rotate_left
                                          · intro w'
                                            go_simp
                                            with_reducible rfl
                                          rotate_left
                                          · simp only [Act.put, List.setIfInBounds_toArray, List.set_cons_zero, List.set_cons_succ, i64_w, i32_w]
                                            rfl
                                          refine last_ (i := 19) (N := none) #[true, true, true, true, true, true, true, true, true, true, true, true, true, true, true, true, true, true, true, true] rfl rfl (one_of HT_.out (by kernel_rfl)) (by decide) (fun K hK => ?_)
                                          refine skip_ (w1 := ?_) (by rfl) rfl ?_ ?_
                                          rotate_left
                                          · go_simp
                                            rfl
                                          refine hK.out _ _ ?_
                                          clear hK K
                                          refine done_ (done_of HT_.out (by kernel_rfl)) ?_
                                          try go_wp2
                                          (try simp only [← hl6_2])
                                          go_roundg k2
                                          case measure => have := HK1.out; have := HK2.out; omega
                                          case rel => exact ⟨(y261), (wrap64 (x8_2 + 1)), (by first | rfl | (simp; done) | (simp [*]; done)), H', ⟨by have := HK1.out; have := HK2.out; omega⟩, ⟨by (try simp only [hl6_2]); (with_reducible repeat (first | apply Kd.S_alloc | apply Kd.S_drewN | apply Kd.S_drew)); exact HQ33.out⟩, ⟨by repeat (first | (with_reducible first | exact HB.out | apply below_alloc | apply pw_below_drewN | apply below_drew1 | refine below_set ?_ GB31.out) | exact HB.out)⟩⟩
                                        · rw [if_neg c30] at H
                                          exact absurd H (by simp)
                                      · rw [if_neg c29] at H
                                        exact absurd H (by simp)
                                    · rw [if_neg c28] at H
                                      exact absurd H (by simp)
                                  · rw [if_neg c27] at H
                                    exact absurd H (by simp)
                                · rw [if_neg c25] at H
                                  exact absurd H (by simp)
                              · rw [if_neg c24] at H
                                exact absurd H (by simp)
                            · rw [if_neg c22] at H
                              exact absurd H (by simp)
                          · rw [if_neg c21] at H
                            exact absurd H (by simp)
                        · rw [if_neg c20] at H
                          have c20b0 : decide (x8_2 ≤ (l1.length : Int)) = false := decide_eq_false c20
                          (try simp only [hl6_2] at c20b0)
                          clear c20
                          have H' := Aside0.mk H
                          clear H
                          go_wp2
                          (try simp only [← hl6_2])
                          go_roundg k2
                          case measure => have := HK1.out; have := HK2.out; omega
                          case rel => exact ⟨(x6_2), (wrap64 (x7_1 + 1)), (by first | rfl | (simp; done) | (simp [*]; done)), H', ⟨by have := HK1.out; have := HK2.out; omega⟩, ⟨by (try simp only [hl6_2]); (with_reducible repeat (first | apply Kd.S_alloc | apply Kd.S_drewN | apply Kd.S_drew)); exact HO_6.out⟩, ⟨by repeat (first | (with_reducible first | exact HB.out | apply below_alloc | apply pw_below_drewN | apply below_drew1) | exact HB.out)⟩⟩
                  · rw [if_neg c14] at H
                    exact absurd H (by simp)
                · rw [if_neg c13] at H
                  exact absurd H (by simp)
              · rw [if_neg c12] at H
                exact absurd H (by simp)
            · rw [if_neg c11] at H
              exact absurd H (by simp)
          · rw [if_neg c9] at H
            have c9b0 : decide (x7_1 ≤ (l0.length : Int)) = false := decide_eq_false c9
            clear c9
            obtain rfl := Option.some.inj H
            go_wp2
            go_ret
            exact ⟨_, by first | rfl | (simp [errW_none, errW_some] <;> rfl) | (simp only [← hji4]; first | rfl | (simp [errW_none, errW_some] <;> rfl)) | (simp [*, errW_none, errW_some] <;> rfl), by exact Kd.S_lower (by (with_reducible repeat (first | apply Kd.S_alloc | apply Kd.S_drewN | apply Kd.S_drew)); exact HO_6.out) (below_size HB0.out), below_step HB0.out (by repeat (first | (with_reducible first | exact HB.out | apply below_alloc | apply pw_below_drewN | apply below_drew1) | exact HB.out))⟩
    · rw [if_neg c6] at H
      exact absurd H (by simp)
  · rw [if_neg c5] at H
    exact absurd H (by simp)
end Go.Proofs.Ytahfckadomemiaa.PV
