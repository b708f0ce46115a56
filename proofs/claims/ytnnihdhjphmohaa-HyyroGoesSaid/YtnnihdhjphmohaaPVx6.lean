-- Printed by a program of this session out of the seat (wip/xprint.py).
import Derived.Test.YtnnihdhjphmohaaPVx0
import Derived.Test.YtnnihdhjphmohaaPVx2
import Derived.Test.YtnnihdhjphmohaaPVx4
import Derived.Test.YtnnihdhjphmohaaPVx5
import Derived.Test.YtnnihdhjphmohaaMaskRowsHyyro
namespace Go.Proofs.Ytnnihdhjphmohaa.PV
open Go.RowKit Go.Proofs.YtnnihdhjphmohaaW.PrintWords Go.Proofs.YtnnihdhjphmohaaW.PrintLast Go.Proofs.YtnnihdhjphmohaaW.PrintMore Go.Proofs.Ytnnihdhjphmohaa.XBits
attribute [local go_sem] max2_int min2_int max_two min_two max_three min_three max_four min_four   -- for this text's walks alone
set_option linter.unusedVariables false
set_option linter.unusedSimpArgs false
attribute [local go_sem] run_ext47 run_ext48

/-! ### tattinglaw20_HyyroGoes: function 8 -/
mutual
def tattinglaw20_HyyroGoes.j0 : Nat → List Int → List Int → Int → Bool → Option (Bool)
  | 0, _, _, _, _ => none
  | k + 1, x0, x1, x2, x22 => if x22 = true then (some true) else ((tattingref1_Few.f k x0 3).bind fun t245 => ((tattingref1_Few.f k x1 3).bind fun t248 => (if (wrap64 ((t245.length : Int) + 1)) = 0 then (none) else ((hyyro_Rows.f k t245 t248).bind fun t251 => (if 0 ≤ (Int.tmod (wrap64 (x2)) (wrap64 ((t245.length : Int) + 1))) then (if (Int.tmod (wrap64 (x2)) (wrap64 ((t245.length : Int) + 1))) ≤ (t245.length : Int) then ((hyyro_Rows.f k (t245.take ((Int.tmod (wrap64 (x2)) (wrap64 ((t245.length : Int) + 1))) : Int).toNat) t248).bind fun t258 => (if (t251.length : Int) = (wrap64 ((t245.length : Int) + 1)) then (if (t258.length : Int) = (wrap64 ((Int.tmod (wrap64 (x2)) (wrap64 ((t245.length : Int) + 1))) + 1)) then (if 0 ≤ (wrap64 ((Int.tmod (wrap64 (x2)) (wrap64 ((t245.length : Int) + 1))) + 1)) then (if (wrap64 ((Int.tmod (wrap64 (x2)) (wrap64 ((t245.length : Int) + 1))) + 1)) ≤ (t251.length : Int) then ((tattingref20_SameRows.f k (t251.take ((wrap64 ((Int.tmod (wrap64 (x2)) (wrap64 ((t245.length : Int) + 1))) + 1)) : Int).toNat) t258).bind fun t265 => (tattinglaw20_HyyroGoes.j1 k t245 t248 t251 (!t265))) else (none)) else (none)) else (tattinglaw20_HyyroGoes.j1 k t245 t248 t251 true)) else (tattinglaw20_HyyroGoes.j1 k t245 t248 t251 true))) else (none)) else (none))))))
def tattinglaw20_HyyroGoes.j1 : Nat → List Int → List Int → List (List Int) → Bool → Option (Bool)
  | 0, _, _, _, _ => none
  | k + 1, x7, x8, x10, x62 => if x62 = true then (some false) else (tattinglaw20_HyyroGoes.l0 k x7 x8 x10 0)
def tattinglaw20_HyyroGoes.l0 : Nat → List Int → List Int → List (List Int) → Int → Option (Bool)
  | 0, _, _, _, _ => none
  | k + 1, x7, x8, x10, x12 => if x12 < (x7.length : Int) then (if 0 ≤ (wrap64 (x12 + 1)) then (if (wrap64 (x12 + 1)) < (x10.length : Int) then (if 0 ≤ x12 then (if x12 < (x10.length : Int) then ((tattingref5_Mask.f k x8 (rd x7 x12)).bind fun t272 => ((hyyro_Row.f k (rd_L2 x10 x12) t272 (x8.length : Int)).bind fun t275 => ((tattingref5_Same.f k (rd_L2 x10 (wrap64 (x12 + 1))) t275).bind fun t278 => (if t278 = true then (tattinglaw20_HyyroGoes.l0 k x7 x8 x10 (wrap64 (x12 + 1))) else (some false))))) else (none)) else (none)) else (none)) else (none)) else (if 0 ≤ (x7.length : Int) then (if (x7.length : Int) < (x10.length : Int) then ((tattingref5_Count.f k (rd_L2 x10 (x7.length : Int)) (x8.length : Int)).bind fun t267 => ((hyyro_Len.f k x7 x8).bind fun t268 => (some ((wrap64 ((x8.length : Int) - t267)) == t268)))) else (none)) else (none))
end
def tattinglaw20_HyyroGoes.f (k : Nat) (l0 : List Int) (l1 : List Int) (a2 : Int) : Option (Bool) := (tattinglaw20_awake.f k).bind fun t244 => (if t244 = true then (if (l0.length : Int) > 40 then (tattinglaw20_HyyroGoes.j0 k l0 l1 a2 true) else (tattinglaw20_HyyroGoes.j0 k l0 l1 a2 (decide ((l1.length : Int) > 130)))) else (some false))
theorem tattinglaw20_HyyroGoes.mono_l : ∀ k, (∀ y0 y1 y2 y3, LeO (tattinglaw20_HyyroGoes.j0 k y0 y1 y2 y3) (tattinglaw20_HyyroGoes.j0 (k + 1) y0 y1 y2 y3)) ∧ (∀ y0 y1 y2 y3, LeO (tattinglaw20_HyyroGoes.j1 k y0 y1 y2 y3) (tattinglaw20_HyyroGoes.j1 (k + 1) y0 y1 y2 y3)) ∧ (∀ y0 y1 y2 y3, LeO (tattinglaw20_HyyroGoes.l0 k y0 y1 y2 y3) (tattinglaw20_HyyroGoes.l0 (k + 1) y0 y1 y2 y3))
  | 0 => ⟨fun _ _ _ _ r h => by simp [tattinglaw20_HyyroGoes.j0] at h, fun _ _ _ _ r h => by simp [tattinglaw20_HyyroGoes.j1] at h, fun _ _ _ _ r h => by simp [tattinglaw20_HyyroGoes.l0] at h⟩
  | k + 1 => by
    obtain ⟨ih0, ih1, ih2⟩ := tattinglaw20_HyyroGoes.mono_l k
    refine ⟨?_, ?_, ?_⟩
    · intro y0 y1 y2 y3
      unfold tattinglaw20_HyyroGoes.j0
      repeat' first
      | (with_reducible exact ih0 _ _ _ _)
      | (with_reducible exact ih1 _ _ _ _)
      | (with_reducible exact ih2 _ _ _ _)
      | (with_reducible exact hyyro_Len.mono _ _ _)
      | (with_reducible exact hyyro_Row.mono _ _ _ _)
      | (with_reducible exact hyyro_Rows.mono _ _ _)
      | (with_reducible exact tattinglaw20_awake.mono _)
      | (with_reducible exact tattingref1_Few.mono _ _ _)
      | (with_reducible exact tattingref20_SameRows.mono _ _ _)
      | (with_reducible exact tattingref5_Count.mono _ _ _)
      | (with_reducible exact tattingref5_Mask.mono _ _ _)
      | (with_reducible exact tattingref5_Same.mono _ _ _)
      | (with_reducible exact LeO.refl _)
      | (with_reducible exact LeO.none _)
      | (with_reducible refine LeO.ite ?_ ?_)
      | (with_reducible refine LeO.bind ?_ (fun _ => ?_))
      | exact ih0 _ _ _ _
      | exact ih1 _ _ _ _
      | exact ih2 _ _ _ _
      | exact hyyro_Len.mono _ _ _
      | exact hyyro_Row.mono _ _ _ _
      | exact hyyro_Rows.mono _ _ _
      | exact tattinglaw20_awake.mono _
      | exact tattingref1_Few.mono _ _ _
      | exact tattingref20_SameRows.mono _ _ _
      | exact tattingref5_Count.mono _ _ _
      | exact tattingref5_Mask.mono _ _ _
      | exact tattingref5_Same.mono _ _ _
      | exact LeO.none _
      | refine LeO.ite ?_ ?_
      | refine LeO.bind ?_ (fun _ => ?_)
    · intro y0 y1 y2 y3
      unfold tattinglaw20_HyyroGoes.j1
      repeat' first
      | (with_reducible exact ih0 _ _ _ _)
      | (with_reducible exact ih1 _ _ _ _)
      | (with_reducible exact ih2 _ _ _ _)
      | (with_reducible exact hyyro_Len.mono _ _ _)
      | (with_reducible exact hyyro_Row.mono _ _ _ _)
      | (with_reducible exact hyyro_Rows.mono _ _ _)
      | (with_reducible exact tattinglaw20_awake.mono _)
      | (with_reducible exact tattingref1_Few.mono _ _ _)
      | (with_reducible exact tattingref20_SameRows.mono _ _ _)
      | (with_reducible exact tattingref5_Count.mono _ _ _)
      | (with_reducible exact tattingref5_Mask.mono _ _ _)
      | (with_reducible exact tattingref5_Same.mono _ _ _)
      | (with_reducible exact LeO.refl _)
      | (with_reducible exact LeO.none _)
      | (with_reducible refine LeO.ite ?_ ?_)
      | (with_reducible refine LeO.bind ?_ (fun _ => ?_))
      | exact ih0 _ _ _ _
      | exact ih1 _ _ _ _
      | exact ih2 _ _ _ _
      | exact hyyro_Len.mono _ _ _
      | exact hyyro_Row.mono _ _ _ _
      | exact hyyro_Rows.mono _ _ _
      | exact tattinglaw20_awake.mono _
      | exact tattingref1_Few.mono _ _ _
      | exact tattingref20_SameRows.mono _ _ _
      | exact tattingref5_Count.mono _ _ _
      | exact tattingref5_Mask.mono _ _ _
      | exact tattingref5_Same.mono _ _ _
      | exact LeO.none _
      | refine LeO.ite ?_ ?_
      | refine LeO.bind ?_ (fun _ => ?_)
    · intro y0 y1 y2 y3
      unfold tattinglaw20_HyyroGoes.l0
      repeat' first
      | (with_reducible exact ih0 _ _ _ _)
      | (with_reducible exact ih1 _ _ _ _)
      | (with_reducible exact ih2 _ _ _ _)
      | (with_reducible exact hyyro_Len.mono _ _ _)
      | (with_reducible exact hyyro_Row.mono _ _ _ _)
      | (with_reducible exact hyyro_Rows.mono _ _ _)
      | (with_reducible exact tattinglaw20_awake.mono _)
      | (with_reducible exact tattingref1_Few.mono _ _ _)
      | (with_reducible exact tattingref20_SameRows.mono _ _ _)
      | (with_reducible exact tattingref5_Count.mono _ _ _)
      | (with_reducible exact tattingref5_Mask.mono _ _ _)
      | (with_reducible exact tattingref5_Same.mono _ _ _)
      | (with_reducible exact LeO.refl _)
      | (with_reducible exact LeO.none _)
      | (with_reducible refine LeO.ite ?_ ?_)
      | (with_reducible refine LeO.bind ?_ (fun _ => ?_))
      | exact ih0 _ _ _ _
      | exact ih1 _ _ _ _
      | exact ih2 _ _ _ _
      | exact hyyro_Len.mono _ _ _
      | exact hyyro_Row.mono _ _ _ _
      | exact hyyro_Rows.mono _ _ _
      | exact tattinglaw20_awake.mono _
      | exact tattingref1_Few.mono _ _ _
      | exact tattingref20_SameRows.mono _ _ _
      | exact tattingref5_Count.mono _ _ _
      | exact tattingref5_Mask.mono _ _ _
      | exact tattingref5_Same.mono _ _ _
      | exact LeO.none _
      | refine LeO.ite ?_ ?_
      | refine LeO.bind ?_ (fun _ => ?_)
theorem tattinglaw20_HyyroGoes.mono : ∀ a0 a1 a2 k, LeO (tattinglaw20_HyyroGoes.f k a0 a1 a2) (tattinglaw20_HyyroGoes.f (k + 1) a0 a1 a2) := by
  intro a0 a1 a2 k
  obtain ⟨ih0, ih1, ih2⟩ := tattinglaw20_HyyroGoes.mono_l k
  unfold tattinglaw20_HyyroGoes.f
  repeat' first
      | (with_reducible exact ih0 _ _ _ _)
      | (with_reducible exact ih1 _ _ _ _)
      | (with_reducible exact ih2 _ _ _ _)
      | (with_reducible exact hyyro_Len.mono _ _ _)
      | (with_reducible exact hyyro_Row.mono _ _ _ _)
      | (with_reducible exact hyyro_Rows.mono _ _ _)
      | (with_reducible exact tattinglaw20_awake.mono _)
      | (with_reducible exact tattingref1_Few.mono _ _ _)
      | (with_reducible exact tattingref20_SameRows.mono _ _ _)
      | (with_reducible exact tattingref5_Count.mono _ _ _)
      | (with_reducible exact tattingref5_Mask.mono _ _ _)
      | (with_reducible exact tattingref5_Same.mono _ _ _)
      | (with_reducible exact LeO.refl _)
      | (with_reducible exact LeO.none _)
      | (with_reducible refine LeO.ite ?_ ?_)
      | (with_reducible refine LeO.bind ?_ (fun _ => ?_))
      | exact ih0 _ _ _ _
      | exact ih1 _ _ _ _
      | exact ih2 _ _ _ _
      | exact hyyro_Len.mono _ _ _
      | exact hyyro_Row.mono _ _ _ _
      | exact hyyro_Rows.mono _ _ _
      | exact tattinglaw20_awake.mono _
      | exact tattingref1_Few.mono _ _ _
      | exact tattingref20_SameRows.mono _ _ _
      | exact tattingref5_Count.mono _ _ _
      | exact tattingref5_Mask.mono _ _ _
      | exact tattingref5_Same.mono _ _ _
      | exact LeO.none _
      | refine LeO.ite ?_ ?_
      | refine LeO.bind ?_ (fun _ => ?_)
def tattinglaw20_HyyroGoes.T7 : Bool × List (List Nat × List Nat) := (true, [([], []), ([], []), ([0, 1], [0, 1]), ([], []), ([], []), ([3, 4], [3, 4]), ([], []), ([5, 6, 2], [5, 6]), ([2, 7, 0, 1, 2], [2]), ([7, 8, 0, 1, 2, 3, 4, 5, 6, 7, 8], [7])])
def tattinglaw20_HyyroGoes.B7 : List Nat := [0, 0, 3, 0, 0, 24, 0, 127, 255, 511]
theorem tattinglaw20_HyyroGoes.tab7 : rtab .any (opsOf Try.f8 7) = tattinglaw20_HyyroGoes.T7 := by kernel_rfl
theorem tattinglaw20_HyyroGoes.bits7 : waitsOk tattinglaw20_HyyroGoes.T7.2 tattinglaw20_HyyroGoes.B7 = true := by kernel_rfl
def tattinglaw20_HyyroGoes.T13 : Bool × List (List Nat × List Nat) := (true, [([], []), ([], []), ([1], [1]), ([0, 2], [0, 2]), ([3], [3]), ([], []), ([], []), ([5, 6], [5, 6]), ([7], [7]), ([], []), ([], []), ([], []), ([10, 11], [10, 11]), ([12], [12]), ([9, 13], [9, 13]), ([], []), ([15], [15]), ([8, 14, 16, 14], [8, 14, 16]), ([4, 17, 17], [4, 17]), ([18], [18])])
def tattinglaw20_HyyroGoes.B13 : List Nat := [0, 0, 2, 7, 15, 0, 0, 96, 224, 0, 0, 0, 3072, 7168, 15872, 0, 32768, 131040, 262143, 524287]
theorem tattinglaw20_HyyroGoes.tab13 : rtab .any (opsOf Try.f8 13) = tattinglaw20_HyyroGoes.T13 := by kernel_rfl
theorem tattinglaw20_HyyroGoes.bits13 : waitsOk tattinglaw20_HyyroGoes.T13.2 tattinglaw20_HyyroGoes.B13 = true := by kernel_rfl
set_option maxHeartbeats 8000000 in
set_option maxRecDepth 100000 in
theorem tattinglaw20_HyyroGoes.calls (k : Nat) (A0 : Option Addr) (c0 : Nat) (l0 : List Int) (A1 : Option Addr) (c1 : Nat) (l1 : List Int) (a2 : Int) (w : World) (hr0 : Kd.C (Kd.int .i64) w A0 l0.length l0) (hc0 : l0.length ≤ c0) (hr1 : Kd.C (Kd.int .i64) w A1 l1.length l1) (hc1 : l1.length ≤ c1) (h : tattinglaw20_HyyroGoes.f k l0 l1 a2 = some true) :
    Calls Try.prog 8 #[.slice A0 l0.length c0, .slice A1 l1.length c1, .int .u8 a2] w fun e w' => e = .returned (.bool true) ∧ Below w.heap.size w w' := by
  have HR0 := Aside0.mk hr0
  have HC0 := Aside0.mk hc0
  clear hr0 hc0
  have HR1 := Aside0.mk hr1
  have HC1 := Aside0.mk hc1
  clear hr1 hc1
  have HB := Aside0.mk (Below.refl w.heap.size w)
  have H : ((tattinglaw20_awake.f k).bind fun t244 => (if t244 = true then (if (l0.length : Int) > 40 then (tattinglaw20_HyyroGoes.j0 k l0 l1 a2 true) else (tattinglaw20_HyyroGoes.j0 k l0 l1 a2 (decide ((l1.length : Int) > 130)))) else (some false))) = some true := h
  clear h
  replace H := Option.bind_eq_some_iff.mp H
  obtain ⟨t244, A40, H⟩ := H
  replace H : (if t244 = true then (if (l0.length : Int) > 40 then (tattinglaw20_HyyroGoes.j0 k l0 l1 a2 true) else (tattinglaw20_HyyroGoes.j0 k l0 l1 a2 (decide ((l1.length : Int) > 130)))) else (some false)) = some true := H
  have A4 := Aside0.mk A40
  clear A40
  by_cases c5 : t244 = true
  · subst c5
    have H1 : (if (l0.length : Int) > 40 then (tattinglaw20_HyyroGoes.j0 k l0 l1 a2 true) else (tattinglaw20_HyyroGoes.j0 k l0 l1 a2 (decide ((l1.length : Int) > 130)))) = some true := by rw [if_pos rfl] at H; first | done | exact H
    clear H
    have H := H1
    clear H1
    have HC6 := Aside0.mk H
    clear H
    go_enter Try.func8, Try.ntmps8
    go_upto_region 3 with (first | ((with_reducible refine gate_callee (f := 11) rfl ?_); refine goesL_ (some 13) rfl rfl Try.func11 (by kernel_rfl) rfl #[] rfl (by (try simp only [List.map_toArray, List.map_cons, List.map_nil]); first | done | rfl | (simp only [List.length_drop, List.length_take]; rfl)) ?_; (with_reducible refine (tattinglaw20_awake.calls k  true _ A4.out).mono ?_); rintro e w7 ⟨rfl, hb⟩; refine ⟨_, rfl, ?_⟩; have n0_ := Aside0.mk (below_step (by repeat (first | (with_reducible first | exact HB.out | apply below_alloc | apply pw_below_drewN | apply below_drew1) | exact HB.out)) hb); clear HB; have HB := n0_; clear n0_; (try clear hb); (try clear hb2); (try clear hk); (try clear hi)))
    (try simp only [Act.put, List.setIfInBounds_toArray, List.set_cons_zero, List.set_cons_succ])
    go_cut [22] (fun v22 wc => ∃ (kq : Nat) (x22_5 : Bool), v22 = .bool x22_5 ∧ Aside0 (tattinglaw20_HyyroGoes.j0 kq l0 l1 a2 x22_5 = some true) ∧ Aside0 (kq ≤ k) ∧ Aside0 (Below w.heap.size w wc))
    case first =>
      have H := HC6.out
      clear HC6
      by_cases c8 : (l0.length : Int) > 40
      · rw [if_pos c8] at H
        have c8b0 : decide (40 < (l0.length : Int)) = true := decide_eq_true c8
        have c8b1 : decide (40 < l0.length) = true := decide_eq_true (by omega)
        clear c8
        (first | rw [c8b0] | (simp only [i64_w, i32_w]; rw [c8b0]) | skip)
        have H' := Aside0.mk H
        clear H
        go_wp2
        go_meet
        case rel => exact ⟨_, (true), (by first | rfl | (simp; done) | (simp [*]; done)), H', ⟨by first | omega | exact Nat.le_refl _⟩, ⟨by repeat (first | (with_reducible first | exact HB.out | apply below_alloc | apply pw_below_drewN | apply below_drew1) | exact HB.out)⟩⟩
      · rw [if_neg c8] at H
        have c8b0 : decide (40 < (l0.length : Int)) = false := decide_eq_false c8
        have c8b1 : decide (40 < l0.length) = false := decide_eq_false (by omega)
        clear c8
        (first | rw [c8b0] | (simp only [i64_w, i32_w]; rw [c8b0]) | skip)
        have H' := Aside0.mk H
        clear H
        go_wp2
        go_meet
        case rel => exact ⟨_, (decide ((l1.length : Int) > 130)), (by first | rfl | (simp; done) | (simp [*]; done)), H', ⟨by first | omega | exact Nat.le_refl _⟩, ⟨by repeat (first | (with_reducible first | exact HB.out | apply below_alloc | apply pw_below_drewN | apply below_drew1) | exact HB.out)⟩⟩
    case rest =>
      clear HC6
      try clear c1
      try clear p2
      try clear c5
      try clear c8
      try clear c8b0
      try clear c8b1
      obtain ⟨kq, x22_5, rfl, HA, HJ5, HB⟩ := hcut
      cases kq with
      | zero => exact absurd HA.out (by simp [tattinglaw20_HyyroGoes.j0])
      | succ kj5 =>
        have H := HA.out
        clear HA
        simp only [tattinglaw20_HyyroGoes.j0] at H
        by_cases c9 : x22_5 = true
        · subst c9
          have H1 : (some true) = some true := by rw [if_pos rfl] at H; first | done | exact H
          clear H
          have H := H1
          clear H1
          clear H
          go_wp2
          go_ret
          exact ⟨by first | rfl | (simp [errW_none, errW_some] <;> rfl) | exact congrArg (fun b_ => Ending.returned (Value.bool b_)) hr_ | (simp [*, errW_none, errW_some] <;> rfl), by repeat (first | (with_reducible first | exact HB.out | apply below_alloc | apply pw_below_drewN | apply below_drew1) | exact HB.out)⟩
        · replace c9 := Bool.eq_false_iff.mpr c9
          subst c9
          have H1 : ((tattingref1_Few.f kj5 l0 3).bind fun t245 => ((tattingref1_Few.f kj5 l1 3).bind fun t248 => (if (wrap64 ((t245.length : Int) + 1)) = 0 then (none) else ((hyyro_Rows.f kj5 t245 t248).bind fun t251 => (if 0 ≤ (Int.tmod (wrap64 (a2)) (wrap64 ((t245.length : Int) + 1))) then (if (Int.tmod (wrap64 (a2)) (wrap64 ((t245.length : Int) + 1))) ≤ (t245.length : Int) then ((hyyro_Rows.f kj5 (t245.take ((Int.tmod (wrap64 (a2)) (wrap64 ((t245.length : Int) + 1))) : Int).toNat) t248).bind fun t258 => (if (t251.length : Int) = (wrap64 ((t245.length : Int) + 1)) then (if (t258.length : Int) = (wrap64 ((Int.tmod (wrap64 (a2)) (wrap64 ((t245.length : Int) + 1))) + 1)) then (if 0 ≤ (wrap64 ((Int.tmod (wrap64 (a2)) (wrap64 ((t245.length : Int) + 1))) + 1)) then (if (wrap64 ((Int.tmod (wrap64 (a2)) (wrap64 ((t245.length : Int) + 1))) + 1)) ≤ (t251.length : Int) then ((tattingref20_SameRows.f kj5 (t251.take ((wrap64 ((Int.tmod (wrap64 (a2)) (wrap64 ((t245.length : Int) + 1))) + 1)) : Int).toNat) t258).bind fun t265 => (tattinglaw20_HyyroGoes.j1 kj5 t245 t248 t251 (!t265))) else (none)) else (none)) else (tattinglaw20_HyyroGoes.j1 kj5 t245 t248 t251 true)) else (tattinglaw20_HyyroGoes.j1 kj5 t245 t248 t251 true))) else (none)) else (none)))))) = some true := by rw [if_neg (show ¬ (false = true) by decide)] at H; first | done | exact H
          clear H
          have H := H1
          clear H1
          replace H := Option.bind_eq_some_iff.mp H
          obtain ⟨t245, A100, H⟩ := H
          replace H : ((tattingref1_Few.f kj5 l1 3).bind fun t248 => (if (wrap64 ((t245.length : Int) + 1)) = 0 then (none) else ((hyyro_Rows.f kj5 t245 t248).bind fun t251 => (if 0 ≤ (Int.tmod (wrap64 (a2)) (wrap64 ((t245.length : Int) + 1))) then (if (Int.tmod (wrap64 (a2)) (wrap64 ((t245.length : Int) + 1))) ≤ (t245.length : Int) then ((hyyro_Rows.f kj5 (t245.take ((Int.tmod (wrap64 (a2)) (wrap64 ((t245.length : Int) + 1))) : Int).toNat) t248).bind fun t258 => (if (t251.length : Int) = (wrap64 ((t245.length : Int) + 1)) then (if (t258.length : Int) = (wrap64 ((Int.tmod (wrap64 (a2)) (wrap64 ((t245.length : Int) + 1))) + 1)) then (if 0 ≤ (wrap64 ((Int.tmod (wrap64 (a2)) (wrap64 ((t245.length : Int) + 1))) + 1)) then (if (wrap64 ((Int.tmod (wrap64 (a2)) (wrap64 ((t245.length : Int) + 1))) + 1)) ≤ (t251.length : Int) then ((tattingref20_SameRows.f kj5 (t251.take ((wrap64 ((Int.tmod (wrap64 (a2)) (wrap64 ((t245.length : Int) + 1))) + 1)) : Int).toNat) t258).bind fun t265 => (tattinglaw20_HyyroGoes.j1 kj5 t245 t248 t251 (!t265))) else (none)) else (none)) else (tattinglaw20_HyyroGoes.j1 kj5 t245 t248 t251 true)) else (tattinglaw20_HyyroGoes.j1 kj5 t245 t248 t251 true))) else (none)) else (none))))) = some true := H
          have A10 := Aside0.mk A100
          clear A100
          replace H := Option.bind_eq_some_iff.mp H
          obtain ⟨t248, A110, H⟩ := H
          replace H : (if (wrap64 ((t245.length : Int) + 1)) = 0 then (none) else ((hyyro_Rows.f kj5 t245 t248).bind fun t251 => (if 0 ≤ (Int.tmod (wrap64 (a2)) (wrap64 ((t245.length : Int) + 1))) then (if (Int.tmod (wrap64 (a2)) (wrap64 ((t245.length : Int) + 1))) ≤ (t245.length : Int) then ((hyyro_Rows.f kj5 (t245.take ((Int.tmod (wrap64 (a2)) (wrap64 ((t245.length : Int) + 1))) : Int).toNat) t248).bind fun t258 => (if (t251.length : Int) = (wrap64 ((t245.length : Int) + 1)) then (if (t258.length : Int) = (wrap64 ((Int.tmod (wrap64 (a2)) (wrap64 ((t245.length : Int) + 1))) + 1)) then (if 0 ≤ (wrap64 ((Int.tmod (wrap64 (a2)) (wrap64 ((t245.length : Int) + 1))) + 1)) then (if (wrap64 ((Int.tmod (wrap64 (a2)) (wrap64 ((t245.length : Int) + 1))) + 1)) ≤ (t251.length : Int) then ((tattingref20_SameRows.f kj5 (t251.take ((wrap64 ((Int.tmod (wrap64 (a2)) (wrap64 ((t245.length : Int) + 1))) + 1)) : Int).toNat) t258).bind fun t265 => (tattinglaw20_HyyroGoes.j1 kj5 t245 t248 t251 (!t265))) else (none)) else (none)) else (tattinglaw20_HyyroGoes.j1 kj5 t245 t248 t251 true)) else (tattinglaw20_HyyroGoes.j1 kj5 t245 t248 t251 true))) else (none)) else (none)))) = some true := H
          have A11 := Aside0.mk A110
          clear A110
          by_cases c12 : (wrap64 ((t245.length : Int) + 1)) = 0
          · rw [if_pos c12] at H
            exact absurd H (by simp)
          · rw [if_neg c12] at H
            have c12b0 : ((wrap64 ((t245.length : Int) + 1)) == 0) = false := beq_eq_false_iff_ne.mpr c12
            have c12b1 : ((wrap64 ((t245.length : Int) + 1)) != 0) = true := bne_iff_ne.mpr c12
            replace H := Option.bind_eq_some_iff.mp H
            obtain ⟨t251, A130, H⟩ := H
            replace H : (if 0 ≤ (Int.tmod (wrap64 (a2)) (wrap64 ((t245.length : Int) + 1))) then (if (Int.tmod (wrap64 (a2)) (wrap64 ((t245.length : Int) + 1))) ≤ (t245.length : Int) then ((hyyro_Rows.f kj5 (t245.take ((Int.tmod (wrap64 (a2)) (wrap64 ((t245.length : Int) + 1))) : Int).toNat) t248).bind fun t258 => (if (t251.length : Int) = (wrap64 ((t245.length : Int) + 1)) then (if (t258.length : Int) = (wrap64 ((Int.tmod (wrap64 (a2)) (wrap64 ((t245.length : Int) + 1))) + 1)) then (if 0 ≤ (wrap64 ((Int.tmod (wrap64 (a2)) (wrap64 ((t245.length : Int) + 1))) + 1)) then (if (wrap64 ((Int.tmod (wrap64 (a2)) (wrap64 ((t245.length : Int) + 1))) + 1)) ≤ (t251.length : Int) then ((tattingref20_SameRows.f kj5 (t251.take ((wrap64 ((Int.tmod (wrap64 (a2)) (wrap64 ((t245.length : Int) + 1))) + 1)) : Int).toNat) t258).bind fun t265 => (tattinglaw20_HyyroGoes.j1 kj5 t245 t248 t251 (!t265))) else (none)) else (none)) else (tattinglaw20_HyyroGoes.j1 kj5 t245 t248 t251 true)) else (tattinglaw20_HyyroGoes.j1 kj5 t245 t248 t251 true))) else (none)) else (none)) = some true := H
            have A13 := Aside0.mk A130
            clear A130
            obtain ⟨ji14, hji14⟩ : ∃ j_ : Int, (Int.tmod (wrap64 (a2)) (wrap64 ((t245.length : Int) + 1))) = j_ := ⟨_, rfl⟩
            replace H : (if 0 ≤ (ji14) then (if (ji14) ≤ (t245.length : Int) then ((hyyro_Rows.f kj5 (t245.take ((ji14) : Int).toNat) t248).bind fun t258 => (if (t251.length : Int) = (wrap64 ((t245.length : Int) + 1)) then (if (t258.length : Int) = (wrap64 ((ji14) + 1)) then (if 0 ≤ (wrap64 ((ji14) + 1)) then (if (wrap64 ((ji14) + 1)) ≤ (t251.length : Int) then ((tattingref20_SameRows.f kj5 (t251.take ((wrap64 ((ji14) + 1)) : Int).toNat) t258).bind fun t265 => (tattinglaw20_HyyroGoes.j1 kj5 t245 t248 t251 (!t265))) else (none)) else (none)) else (tattinglaw20_HyyroGoes.j1 kj5 t245 t248 t251 true)) else (tattinglaw20_HyyroGoes.j1 kj5 t245 t248 t251 true))) else (none)) else (none)) = some true := by first | (rw [hji14] at H; exact H) | (simp only [hji14] at H ⊢; exact H)
            (try rw [hji14] at A10)
            (try rw [hji14] at A11)
            (try rw [hji14] at A13)
            by_cases c15 : 0 ≤ (ji14)
            · rw [if_pos c15] at H
              have c15b0 := eq_true c15
              have c15b1 : decide (0 ≤ (ji14)) = true := decide_eq_true c15
              clear c15
              by_cases c16 : (ji14) ≤ (t245.length : Int)
              · rw [if_pos c16] at H
                have c16b0 := eq_true c16
                have c16b1 : decide ((ji14) ≤ (t245.length : Int)) = true := decide_eq_true c16
                clear c16
                obtain ⟨y254, hy254⟩ : ∃ y_ : List Int, y_ = (t245.take ((ji14) : Int).toNat) := ⟨_, rfl⟩
                replace H : ((hyyro_Rows.f kj5 y254 t248).bind fun t258 => (if (t251.length : Int) = (wrap64 ((t245.length : Int) + 1)) then (if (t258.length : Int) = (wrap64 ((ji14) + 1)) then (if 0 ≤ (wrap64 ((ji14) + 1)) then (if (wrap64 ((ji14) + 1)) ≤ (t251.length : Int) then ((tattingref20_SameRows.f kj5 (t251.take ((wrap64 ((ji14) + 1)) : Int).toNat) t258).bind fun t265 => (tattinglaw20_HyyroGoes.j1 kj5 t245 t248 t251 (!t265))) else (none)) else (none)) else (tattinglaw20_HyyroGoes.j1 kj5 t245 t248 t251 true)) else (tattinglaw20_HyyroGoes.j1 kj5 t245 t248 t251 true))) = some true := by first | (rw [hy254]; with_reducible exact H) | (have H2_ := (Option.bind_some _ _).symm.trans H; rw [hy254]; with_reducible exact H2_) | (have H2_ := (Option.bind_some _ _).symm.trans H; with_reducible exact H2_) | with_reducible exact H | (rw [hy254]; exact H) | exact H
                have Ny254 := Aside0.mk hy254
                clear hy254
                replace H := Option.bind_eq_some_iff.mp H
                obtain ⟨t258, A170, H⟩ := H
                replace H : (if (t251.length : Int) = (wrap64 ((t245.length : Int) + 1)) then (if (t258.length : Int) = (wrap64 ((ji14) + 1)) then (if 0 ≤ (wrap64 ((ji14) + 1)) then (if (wrap64 ((ji14) + 1)) ≤ (t251.length : Int) then ((tattingref20_SameRows.f kj5 (t251.take ((wrap64 ((ji14) + 1)) : Int).toNat) t258).bind fun t265 => (tattinglaw20_HyyroGoes.j1 kj5 t245 t248 t251 (!t265))) else (none)) else (none)) else (tattinglaw20_HyyroGoes.j1 kj5 t245 t248 t251 true)) else (tattinglaw20_HyyroGoes.j1 kj5 t245 t248 t251 true)) = some true := H
                have A17 := Aside0.mk A170
                clear A170
                have HC18 := Aside0.mk H
                clear H
                try go_wp2_with (first | ((with_reducible refine gate_callee (f := 16) rfl ?_); refine goesL_ (some 24) rfl rfl Try.func16 (by kernel_rfl) rfl #[.slice A0 l0.length c0, .int .i64 3] rfl (by (try simp only [List.map_toArray, List.map_cons, List.map_nil]); first | done | rfl | (simp only [List.length_drop, List.length_take]; rfl)) ?_; (with_reducible refine (tattingref1_Few.calls kj5 _ _ l0 3 t245 _ ?side1 ?side2 A10.out).mono ?_); (case side1 => repeat (first | (first | exact (Kd.C_below HR0.out HB.out) | exact HR0.out) | (with_reducible refine Kd.C_alloc ?_ _) | (with_reducible refine Kd.C_drewN ?_ _) | (with_reducible refine Kd.C_drew ?_))); (case side2 => exact HC0.out); rintro e w19 ⟨v246, rfl, ho0, hb⟩; refine ⟨_, rfl, ?_⟩; have n0_ := Aside0.mk (Kd.R_lower ho0 (below_size (by repeat (first | (with_reducible first | exact HB.out | apply below_alloc | apply pw_below_drewN | apply below_drew1) | exact HB.out)))); have n1_ := Aside0.mk (below_step (by repeat (first | (with_reducible first | exact HB.out | apply below_alloc | apply pw_below_drewN | apply below_drew1) | exact HB.out)) hb); clear HB; have HO247 := n0_; have HB := n1_; clear n0_ n1_; (try clear hb); (try clear hb2); (try clear hk); (try clear hi); (try clear ho0)) | ((with_reducible refine gate_callee (f := 16) rfl ?_); refine goesL_ (some 26) rfl rfl Try.func16 (by kernel_rfl) rfl #[.slice A1 l1.length c1, .int .i64 3] rfl (by (try simp only [List.map_toArray, List.map_cons, List.map_nil]); first | done | rfl | (simp only [List.length_drop, List.length_take]; rfl)) ?_; (with_reducible refine (tattingref1_Few.calls kj5 _ _ l1 3 t248 _ ?side1 ?side2 A11.out).mono ?_); (case side1 => repeat (first | (first | exact (Kd.C_below HR1.out HB.out) | exact HR1.out) | (with_reducible refine Kd.C_alloc ?_ _) | (with_reducible refine Kd.C_drewN ?_ _) | (with_reducible refine Kd.C_drew ?_))); (case side2 => exact HC1.out); rintro e w20 ⟨v249, rfl, ho0, hb⟩; refine ⟨_, rfl, ?_⟩; have n0_ := Aside0.mk (Kd.R_elder' (by (with_reducible repeat (first | apply Kd.R_alloc | apply Kd.R_drewN | apply Kd.R_drew)); exact HO247.out) (Kd.R_base ho0) hb); have n1_ := Aside0.mk (Kd.R_lower (Kd.R_new' ho0 (Kd.R_lt (by (with_reducible repeat (first | apply Kd.R_alloc | apply Kd.R_drewN | apply Kd.R_drew)); exact HO247.out))) (below_size (by repeat (first | (with_reducible first | exact HB.out | apply below_alloc | apply pw_below_drewN | apply below_drew1) | exact HB.out)))); have n2_ := Aside0.mk (below_step (by repeat (first | (with_reducible first | exact HB.out | apply below_alloc | apply pw_below_drewN | apply below_drew1) | exact HB.out)) hb); clear HO247; clear HB; have HO247 := n0_; have HO250 := n1_; have HB := n2_; clear n0_ n1_ n2_; (try clear hb); (try clear hb2); (try clear hk); (try clear hi); (try clear ho0); obtain ⟨Ao21, co21, eo21⟩ := Kd.R_slice HO247.out; subst eo21))
                have n0_ := Aside0.mk (Kd.R_drew HO247.out)
                have n1_ := Aside0.mk (Kd.R_drew HO250.out)
                have n2_ := Aside0.mk (below_drew1 HB.out)
                clear HO247
                clear HO250
                clear HB
                have HO247 := n0_
                have HO250 := n1_
                have HB := n2_
                clear n0_ n1_ n2_
                have q23 : ((ji14) : Int) ≤ ((t245.length : Int) : Int) := of_decide_eq_true (by first | (with_reducible assumption) | assumption)
                obtain ⟨i023, hi023, _, hsz23, _⟩ := info_parts info3
                have hroom23 : t245.length ≤ co21 := (Kd.R_reads' HO247.out).2.1
                have hC23 : Kd.C (Kd.int .i64) _ Ao21 t245.length t245 := (Kd.R_reads' HO247.out).2.2
                have hcut23 := cut_to (P := Try.prog) 27 3 .i64 Try.underlying27 hi023 Ao21 t245.length co21 (ji14) (of_decide_eq_true (by first | (with_reducible assumption) | assumption)) q23 hroom23
                have hr23 := Kd.C_take (m := ((ji14) : Int).toNat) hC23 (by omega)
                have hy23 : y254.length = ((ji14) : Int).toNat := (by rw [Ny254.out, List.length_take]; omega)
                rw [← Ny254.out] at hr23
                rw [← hy23] at hcut23
                have HR257 := Aside0.mk hr23
                have HC257 := Aside0.mk (show y254.length ≤ co21 from by omega)
                clear hr23 hC23 hroom23 hi023 hsz23
                have KY23 := Aside0.mk hy23
                clear hy23
                have KL23 := Aside0.mk (show ((ji14) : Int).toNat ≤ t245.length from by omega)
                replace q23 := eq_true q23
                obtain ⟨Ao24, co24, eo24⟩ := Kd.R_slice HO250.out
                (first | subst eo24 | (injection eo24 with f1_ f2_ f3_; have f4_ := f1_.symm; have f5_ := f3_.symm; clear f1_ f2_ f3_; subst f4_; subst f5_))
                refine start_ (n := 10) (S := fun w' => True) (ds := []) #[false, false, false, false, false, false, false, false, false, false] (by kernel_rfl) rfl rfl trivial (fun hHeld => ?_); refine with_tabW tattinglaw20_HyyroGoes.tab7 tattinglaw20_HyyroGoes.bits7 (fun HT_ HW_ => ?_)
                generalize w20.drew = w22 at HO247 HO250 HB HR257 hHeld ⊢
                refine pure_ (i := 0) (N := some 33) (v := ?_) (a' := ?_) #[true, false, false, false, false, false, false, false, false, false] rfl rfl (any_of HT_.out (by kernel_rfl)) (fun _ _ _ h => h) (Or.inl ⟨by rfl, ?_⟩) ?_ ?_
                rotate_left
                · intro w'
                  go_simp
                  with_reducible rfl
                rotate_left
                · simp only [Act.put, List.setIfInBounds_toArray, List.set_cons_zero, List.set_cons_succ, i64_w, i32_w]
                  rfl
                refine pure_ (i := 1) (N := some 34) (v := ?_) (a' := ?_) #[true, true, false, false, false, false, false, false, false, false] rfl rfl (any_of HT_.out (by kernel_rfl)) (fun _ _ _ h => h) (Or.inl ⟨by rfl, ?_⟩) ?_ ?_
                rotate_left
                · intro w'
                  go_simp
                  with_reducible rfl
                rotate_left
                · simp only [Act.put, List.setIfInBounds_toArray, List.set_cons_zero, List.set_cons_succ, i64_w, i32_w]
                  rfl
                refine pure_ (i := 3) (N := some 36) (v := ?_) (a' := ?_) #[true, true, false, true, false, false, false, false, false, false] rfl rfl (any_of HT_.out (by kernel_rfl)) (fun _ _ _ h => h) (Or.inl ⟨by rfl, ?_⟩) ?_ ?_
                rotate_left
                · intro w'
                  go_simp
                  with_reducible rfl
                rotate_left
                · simp only [Act.put, List.setIfInBounds_toArray, List.set_cons_zero, List.set_cons_succ, i64_w, i32_w]
                  rfl
                refine pure_ (i := 4) (N := some 37) (v := ?_) (a' := ?_) #[true, true, false, true, true, false, false, false, false, false] rfl rfl (any_of HT_.out (by kernel_rfl)) (fun _ _ _ h => h) (Or.inl ⟨by rfl, ?_⟩) ?_ ?_
                rotate_left
                · intro w'
                  go_simp
                  with_reducible rfl
                rotate_left
                · simp only [Act.put, List.setIfInBounds_toArray, List.set_cons_zero, List.set_cons_succ, i64_w, i32_w]
                  rfl
                refine pure_ (i := 5) (N := some 38) (v := ?_) (a' := ?_) #[true, true, false, true, true, true, false, false, false, false] rfl rfl (any_of HT_.out (by kernel_rfl)) (fun _ _ _ h => h) (Or.inl ⟨by rfl, ?_⟩) ?_ ?_
                rotate_left
                · intro w'
                  go_simp
                  with_reducible rfl
                rotate_left
                · simp only [Act.put, List.setIfInBounds_toArray, List.set_cons_zero, List.set_cons_succ, i64_w, i32_w]
                  rfl
                refine pure_ (i := 6) (N := some 39) (v := ?_) (a' := ?_) #[true, true, false, true, true, true, true, false, false, false] rfl rfl (any_of HT_.out (by kernel_rfl)) (fun _ _ _ h => h) (Or.inl ⟨by rfl, ?_⟩) ?_ ?_
                rotate_left
                · intro w'
                  go_simp
                  with_reducible rfl
                rotate_left
                · simp only [Act.put, List.setIfInBounds_toArray, List.set_cons_zero, List.set_cons_succ, i64_w, i32_w]
                  rfl
                refine one_ (i := 2) (N := some 35) #[true, true, true, true, true, true, true, false, false, false] rfl rfl (one_of HT_.out (by kernel_rfl)) (by decide) (fun K hK => ?_)
                refine goes_ Try.func10 (by kernel_rfl) rfl #[.slice Ao21 t245.length co21, .slice Ao24 t248.length co24] (by rfl) rfl rfl (by (try simp only [List.map_toArray, List.map_cons, List.map_nil]); first | done | rfl | (simp only [List.length_drop, List.length_take]; rfl)) ?_
                with_reducible refine (hyyro_Rows.calls kj5 _ _ t245 _ _ t248 t251 _ ?side1 ?side2 ?side3 ?side4 A13.out).mono ?_
                (case side1 => repeat (first | exact (Kd.R_reads' HO247.out).2.2 | (with_reducible refine Kd.C_alloc ?_ _) | (with_reducible refine Kd.C_drewN ?_ _) | (with_reducible refine Kd.C_drew ?_)))
                (case side2 => exact (Kd.R_reads' HO247.out).2.1)
                (case side3 => repeat (first | exact (Kd.R_reads' HO250.out).2.2 | (with_reducible refine Kd.C_alloc ?_ _) | (with_reducible refine Kd.C_drewN ?_ _) | (with_reducible refine Kd.C_drew ?_)))
                (case side4 => exact (Kd.R_reads' HO250.out).2.1)
                rintro e w25 ⟨v252, rfl, ho0, hb⟩
                refine ⟨_, rfl, ?_⟩
                have n0_ := Aside0.mk (Kd.R_below (by (with_reducible repeat (first | apply Kd.R_alloc | apply Kd.R_drewN | apply Kd.R_drew)); exact HO247.out) hb)
                have n1_ := Aside0.mk (Kd.R_below (by (with_reducible repeat (first | apply Kd.R_alloc | apply Kd.R_drewN | apply Kd.R_drew)); exact HO250.out) hb)
                have n2_ := Aside0.mk (Kd.S_lower ho0 (below_size (by repeat (first | (with_reducible first | exact HB.out | apply below_alloc | apply pw_below_drewN | apply below_drew1) | exact HB.out))))
                have n3_ := Aside0.mk (Kd.C_below (by repeat (first | (with_reducible exact HR257.out) | (with_reducible refine Kd.C_alloc ?_ _) | (with_reducible refine Kd.C_drewN ?_ _) | (with_reducible refine Kd.C_drew ?_) | exact HR257.out)) hb)
                have n4_ := Aside0.mk (below_step (by repeat (first | (with_reducible first | exact HB.out | apply below_alloc | apply pw_below_drewN | apply below_drew1) | exact HB.out)) hb)
                clear HO247
                clear HO250
                clear HR257
                clear HB
                have HO247 := n0_
                have HO250 := n1_
                have HO253 := n2_
                have HR257 := n3_
                have HB := n4_
                clear n0_ n1_ n2_ n3_ n4_
                (try clear hb)
                (try clear hb2)
                (try clear hk)
                (try clear hi)
                (try clear ho0)
                refine hK.out _ _ trivial (fun hHeld => ?_)
                clear hK K
                refine norm_ (a' := ?_) ?_ ?_
                rotate_left
                · show Act.put _ (some 35) _ = _
                  simp only [Act.put, List.setIfInBounds_toArray, List.set_cons_zero, List.set_cons_succ, i64_w, i32_w]
                  rfl
                refine one_ (i := 7) (N := some 40) #[true, true, true, true, true, true, true, true, false, false] rfl rfl (one_of HT_.out (by kernel_rfl)) (by decide) (fun K hK => ?_)
                refine goes_ Try.func10 (by kernel_rfl) rfl #[.slice Ao21 y254.length co21, .slice Ao24 t248.length co24] (by rfl) rfl rfl (by (try simp only [List.map_toArray, List.map_cons, List.map_nil]); first | done | rfl | (simp only [List.length_drop, List.length_take]; rfl)) ?_
                with_reducible refine (hyyro_Rows.calls kj5 _ _ y254 _ _ t248 t258 _ ?side1 ?side2 ?side3 ?side4 A17.out).mono ?_
                (case side1 => repeat (first | exact (by repeat (first | (with_reducible exact HR257.out) | (with_reducible refine Kd.C_alloc ?_ _) | (with_reducible refine Kd.C_drewN ?_ _) | (with_reducible refine Kd.C_drew ?_) | exact HR257.out)) | (with_reducible refine Kd.C_alloc ?_ _) | (with_reducible refine Kd.C_drewN ?_ _) | (with_reducible refine Kd.C_drew ?_)))
                (case side2 => exact HC257.out)
                (case side3 => repeat (first | exact (Kd.R_reads' HO250.out).2.2 | (with_reducible refine Kd.C_alloc ?_ _) | (with_reducible refine Kd.C_drewN ?_ _) | (with_reducible refine Kd.C_drew ?_)))
                (case side4 => exact (Kd.R_reads' HO250.out).2.1)
                rintro e w26 ⟨v259, rfl, ho0, hb⟩
                refine ⟨_, rfl, ?_⟩
                have n0_ := Aside0.mk (Kd.R_below (by (with_reducible repeat (first | apply Kd.R_alloc | apply Kd.R_drewN | apply Kd.R_drew)); exact HO247.out) hb)
                have n1_ := Aside0.mk (Kd.R_below (by (with_reducible repeat (first | apply Kd.R_alloc | apply Kd.R_drewN | apply Kd.R_drew)); exact HO250.out) hb)
                have n2_ := Aside0.mk (Kd.S_elder' (by (with_reducible repeat (first | apply Kd.S_alloc | apply Kd.S_drewN | apply Kd.S_drew)); exact HO253.out) (Kd.S_base ho0) hb)
                have n3_ := Aside0.mk (Kd.S_lower (Kd.S_new' ho0 (Kd.S_lt (by (with_reducible repeat (first | apply Kd.S_alloc | apply Kd.S_drewN | apply Kd.S_drew)); exact HO253.out))) (below_size (by repeat (first | (with_reducible first | exact HB.out | apply below_alloc | apply pw_below_drewN | apply below_drew1) | exact HB.out))))
                have n4_ := Aside0.mk (Kd.C_below (by repeat (first | (with_reducible exact HR257.out) | (with_reducible refine Kd.C_alloc ?_ _) | (with_reducible refine Kd.C_drewN ?_ _) | (with_reducible refine Kd.C_drew ?_) | exact HR257.out)) hb)
                have n5_ := Aside0.mk (below_step (by repeat (first | (with_reducible first | exact HB.out | apply below_alloc | apply pw_below_drewN | apply below_drew1) | exact HB.out)) hb)
                clear HO247
                clear HO250
                clear HO253
                clear HR257
                clear HB
                have HO247 := n0_
                have HO250 := n1_
                have HO253 := n2_
                have HO260 := n3_
                have HR257 := n4_
                have HB := n5_
                clear n0_ n1_ n2_ n3_ n4_ n5_
                (try clear hb)
                (try clear hb2)
                (try clear hk)
                (try clear hi)
                (try clear ho0)
                refine hK.out _ _ trivial (fun hHeld => ?_)
                clear hK K
                refine norm_ (a' := ?_) ?_ ?_
                rotate_left
                · show Act.put _ (some 40) _ = _
                  simp only [Act.put, List.setIfInBounds_toArray, List.set_cons_zero, List.set_cons_succ, i64_w, i32_w]
                  rfl
                refine pure_ (i := 8) (N := some 10) (v := ?_) (a' := ?_) #[true, true, true, true, true, true, true, true, true, false] rfl rfl (any_of HT_.out (by kernel_rfl)) (fun _ _ _ h => h) (Or.inl ⟨by rfl, ?_⟩) ?_ ?_
                rotate_left
                · intro w'
                  go_simp
                  with_reducible rfl
                rotate_left
                · simp only [Act.put, List.setIfInBounds_toArray, List.set_cons_zero, List.set_cons_succ, i64_w, i32_w]
                  rfl
                refine pure_ (i := 9) (N := some 11) (v := ?_) (a' := ?_) #[true, true, true, true, true, true, true, true, true, true] rfl rfl (any_of HT_.out (by kernel_rfl)) (fun _ _ _ h => h) (Or.inl ⟨by rfl, ?_⟩) ?_ ?_
                rotate_left
                · intro w'
                  go_simp
                  with_reducible rfl
                rotate_left
                · simp only [Act.put, List.setIfInBounds_toArray, List.set_cons_zero, List.set_cons_succ, i64_w, i32_w]
                  rfl
                refine done_ (done_of HT_.out (by kernel_rfl)) ?_
                go_upto_region 8 with (fail)
                go_cut [62] (fun v62 wc => ∃ (kq : Nat) (x62_17 : Bool), v62 = .bool x62_17 ∧ Aside0 (tattinglaw20_HyyroGoes.j1 kq t245 t248 t251 x62_17 = some true) ∧ Aside0 (kq ≤ kj5) ∧ Aside0 (Kd.R (Kd.int .i64) 3 wc w.heap.size (fun k_ => some k_ ≠ ((.slice Ao24 t248.length co24) : Value).ownBlock) (.slice Ao21 t245.length co21) t245) ∧ Aside0 (Kd.R (Kd.int .i64) 3 wc w.heap.size (fun k_ => some k_ ≠ ((.slice Ao21 t245.length co21) : Value).ownBlock) (.slice Ao24 t248.length co24) t248) ∧ Aside0 (Kd.S (Kd.slice 24 (Kd.int .u64)) 22 wc w.heap.size (fun _ => True) v252 t251) ∧ Aside0 (Kd.C (Kd.int .i64) wc Ao21 y254.length y254) ∧ Aside0 (Below w.heap.size w wc))
                case first =>
                  have H := HC18.out
                  clear HC18
                  by_cases c27 : (t251.length : Int) = (wrap64 ((t245.length : Int) + 1))
                  · rw [if_pos c27] at H
                    have c27b0 : ((t251.length : Int) == (wrap64 ((t245.length : Int) + 1))) = true := beq_iff_eq.mpr c27
                    have c27b1 : ((t251.length : Int) != (wrap64 ((t245.length : Int) + 1))) = false := bne_eq_false_iff_eq.mpr c27
                    clear c27
                    (first | rw [c27b0] | (simp only [i64_w, i32_w]; rw [c27b0]) | skip)
                    by_cases c28 : (t258.length : Int) = (wrap64 ((ji14) + 1))
                    · rw [if_pos c28] at H
                      have c28b0 : ((t258.length : Int) == (wrap64 ((ji14) + 1))) = true := beq_iff_eq.mpr c28
                      have c28b1 : ((t258.length : Int) != (wrap64 ((ji14) + 1))) = false := bne_eq_false_iff_eq.mpr c28
                      clear c28
                      obtain ⟨ji29, hji29⟩ : ∃ j_ : Int, (wrap64 ((ji14) + 1)) = j_ := ⟨_, rfl⟩
                      replace H : (if 0 ≤ (ji29) then (if (ji29) ≤ (t251.length : Int) then ((tattingref20_SameRows.f kj5 (t251.take ((ji29) : Int).toNat) t258).bind fun t265 => (tattinglaw20_HyyroGoes.j1 kj5 t245 t248 t251 (!t265))) else (none)) else (none)) = some true := by first | (rw [hji29] at H; exact H) | (simp only [hji29] at H ⊢; exact H)
                      (try rw [hji29] at c28b0)
                      (try rw [hji29] at c28b1)
                      have hji29w : (IntKind.i64.wrap ((ji14) + 1)) = ji29 := (i64_w _).trans hji29
                      by_cases c30 : 0 ≤ (ji29)
                      · rw [if_pos c30] at H
                        have c30b0 := eq_true c30
                        have c30b1 : decide (0 ≤ (ji29)) = true := decide_eq_true c30
                        clear c30
                        by_cases c31 : (ji29) ≤ (t251.length : Int)
                        · rw [if_pos c31] at H
                          have c31b0 := eq_true c31
                          have c31b1 : decide ((ji29) ≤ (t251.length : Int)) = true := decide_eq_true c31
                          clear c31
                          obtain ⟨y261, hy261⟩ : ∃ y_ : List (List Int), y_ = (t251.take ((ji29) : Int).toNat) := ⟨_, rfl⟩
                          replace H : ((tattingref20_SameRows.f kj5 y261 t258).bind fun t265 => (tattinglaw20_HyyroGoes.j1 kj5 t245 t248 t251 (!t265))) = some true := by first | (rw [hy261]; with_reducible exact H) | (have H2_ := (Option.bind_some _ _).symm.trans H; rw [hy261]; with_reducible exact H2_) | (have H2_ := (Option.bind_some _ _).symm.trans H; with_reducible exact H2_) | with_reducible exact H | (rw [hy261]; exact H) | exact H
                          have Ny261 := Aside0.mk hy261
                          clear hy261
                          replace H := Option.bind_eq_some_iff.mp H
                          obtain ⟨t265, A320, H⟩ := H
                          replace H : (tattinglaw20_HyyroGoes.j1 kj5 t245 t248 t251 (!t265)) = some true := H
                          have A32 := Aside0.mk A320
                          clear A320
                          have H' := Aside0.mk H
                          clear H
                          obtain ⟨Ao33, co33, eo33⟩ := Kd.S_slice HO253.out
                          subst eo33
                          obtain ⟨Ao34, co34, eo34⟩ := Kd.S_slice HO260.out
                          subst eo34
                          have q35 : ((ji29) : Int) ≤ ((t251.length : Int) : Int) := of_decide_eq_true (by first | (with_reducible assumption) | assumption)
                          obtain ⟨i035, hi035, _, hsz35, _⟩ := info_parts info22
                          have hroom35 : t251.length ≤ co33 := (Kd.S_reads' HO253.out).2.1
                          have hC35 : Kd.C (Kd.slice 24 (Kd.int .u64)) _ Ao33 t251.length t251 := (Kd.S_reads' HO253.out).2.2
                          have hcut35 := cut_to (P := Try.prog) 25 22 .i64 Try.underlying25 hi035 Ao33 t251.length co33 (ji29) (of_decide_eq_true (by first | (with_reducible assumption) | assumption)) q35 hroom35
                          have hr35 := Kd.C_take (m := ((ji29) : Int).toNat) hC35 (by omega)
                          have hy35 : y261.length = ((ji29) : Int).toNat := (by rw [Ny261.out, List.length_take]; omega)
                          rw [← Ny261.out] at hr35
                          rw [← hy35] at hcut35
                          have HR264 := Aside0.mk hr35
                          have HC264 := Aside0.mk (show y261.length ≤ co33 from by omega)
                          clear hr35 hC35 hroom35 hi035 hsz35
                          have KY35 := Aside0.mk hy35
                          clear hy35
                          have KL35 := Aside0.mk (show ((ji29) : Int).toNat ≤ t251.length from by omega)
                          replace q35 := eq_true q35
                          go_wp2_with (first | (go_at_call 17; (with_reducible refine (tattingref20_SameRows.calls kj5 _ _ y261 _ _ t258 t265 _ ?side1 ?side2 ?side3 ?side4 A32.out).mono ?_); (case side1 => repeat (first | exact (by repeat (first | (with_reducible exact HR264.out) | (with_reducible refine Kd.C_alloc ?_ _) | (with_reducible refine Kd.C_drewN ?_ _) | (with_reducible refine Kd.C_drew ?_) | exact HR264.out)) | (with_reducible refine Kd.C_alloc ?_ _) | (with_reducible refine Kd.C_drewN ?_ _) | (with_reducible refine Kd.C_drew ?_))); (case side2 => exact HC264.out); (case side3 => repeat (first | exact (Kd.S_reads' HO260.out).2.2 | (with_reducible refine Kd.C_alloc ?_ _) | (with_reducible refine Kd.C_drewN ?_ _) | (with_reducible refine Kd.C_drew ?_))); (case side4 => exact (Kd.S_reads' HO260.out).2.1); rintro e w' ⟨rfl, ⟨nd, rfl⟩⟩))
                          go_meet
                          case rel => exact ⟨_, (!t265), (by first | rfl | (simp; done) | (simp [*]; done)), H', ⟨by have := HJ5.out; first | omega | exact Nat.le_refl _⟩, ⟨by (with_reducible repeat (first | apply Kd.R_alloc | apply Kd.R_drewN | apply Kd.R_drew)); exact Kd.R_mono HO247.out (fun _ hk => hk.2)⟩, ⟨by (with_reducible repeat (first | apply Kd.R_alloc | apply Kd.R_drewN | apply Kd.R_drew)); exact Kd.R_mono HO250.out (fun _ hk => hk.2)⟩, ⟨by (with_reducible repeat (first | apply Kd.S_alloc | apply Kd.S_drewN | apply Kd.S_drew)); exact Kd.S_mono HO253.out (fun _ hk => trivial)⟩, ⟨by repeat (first | (with_reducible exact HR257.out) | (with_reducible refine Kd.C_alloc ?_ _) | (with_reducible refine Kd.C_drewN ?_ _) | (with_reducible refine Kd.C_drew ?_) | exact HR257.out)⟩, ⟨by repeat (first | (with_reducible first | exact HB.out | apply below_alloc | apply pw_below_drewN | apply below_drew1) | exact HB.out)⟩⟩
                        · rw [if_neg c31] at H
                          exact absurd H (by simp)
                      · rw [if_neg c30] at H
                        exact absurd H (by simp)
                    · rw [if_neg c28] at H
                      have c28b0 : ((t258.length : Int) == (wrap64 ((ji14) + 1))) = false := beq_eq_false_iff_ne.mpr c28
                      have c28b1 : ((t258.length : Int) != (wrap64 ((ji14) + 1))) = true := bne_iff_ne.mpr c28
                      have H' := Aside0.mk H
                      clear H
                      obtain ⟨Ao36, co36, eo36⟩ := Kd.S_slice HO253.out
                      subst eo36
                      obtain ⟨Ao37, co37, eo37⟩ := Kd.S_slice HO260.out
                      subst eo37
                      go_wp2
                      go_meet
                      case rel => exact ⟨_, (true), (by first | rfl | (simp; done) | (simp [*]; done)), H', ⟨by have := HJ5.out; first | omega | exact Nat.le_refl _⟩, ⟨by (with_reducible repeat (first | apply Kd.R_alloc | apply Kd.R_drewN | apply Kd.R_drew)); exact Kd.R_mono HO247.out (fun _ hk => hk.2)⟩, ⟨by (with_reducible repeat (first | apply Kd.R_alloc | apply Kd.R_drewN | apply Kd.R_drew)); exact Kd.R_mono HO250.out (fun _ hk => hk.2)⟩, ⟨by (with_reducible repeat (first | apply Kd.S_alloc | apply Kd.S_drewN | apply Kd.S_drew)); exact Kd.S_mono HO253.out (fun _ hk => trivial)⟩, ⟨by repeat (first | (with_reducible exact HR257.out) | (with_reducible refine Kd.C_alloc ?_ _) | (with_reducible refine Kd.C_drewN ?_ _) | (with_reducible refine Kd.C_drew ?_) | exact HR257.out)⟩, ⟨by repeat (first | (with_reducible first | exact HB.out | apply below_alloc | apply pw_below_drewN | apply below_drew1) | exact HB.out)⟩⟩
                  · rw [if_neg c27] at H
                    have c27b0 : ((t251.length : Int) == (wrap64 ((t245.length : Int) + 1))) = false := beq_eq_false_iff_ne.mpr c27
                    have c27b1 : ((t251.length : Int) != (wrap64 ((t245.length : Int) + 1))) = true := bne_iff_ne.mpr c27
                    (first | rw [c27b0] | (simp only [i64_w, i32_w]; rw [c27b0]) | skip)
                    have H' := Aside0.mk H
                    clear H
                    obtain ⟨Ao38, co38, eo38⟩ := Kd.S_slice HO253.out
                    subst eo38
                    go_wp2
                    go_meet
                    case rel => exact ⟨_, (true), (by first | rfl | (simp; done) | (simp [*]; done)), H', ⟨by have := HJ5.out; first | omega | exact Nat.le_refl _⟩, ⟨by (with_reducible repeat (first | apply Kd.R_alloc | apply Kd.R_drewN | apply Kd.R_drew)); exact Kd.R_mono HO247.out (fun _ hk => hk.2)⟩, ⟨by (with_reducible repeat (first | apply Kd.R_alloc | apply Kd.R_drewN | apply Kd.R_drew)); exact Kd.R_mono HO250.out (fun _ hk => hk.2)⟩, ⟨by (with_reducible repeat (first | apply Kd.S_alloc | apply Kd.S_drewN | apply Kd.S_drew)); exact Kd.S_mono HO253.out (fun _ hk => trivial)⟩, ⟨by repeat (first | (with_reducible exact HR257.out) | (with_reducible refine Kd.C_alloc ?_ _) | (with_reducible refine Kd.C_drewN ?_ _) | (with_reducible refine Kd.C_drew ?_) | exact HR257.out)⟩, ⟨by repeat (first | (with_reducible first | exact HB.out | apply below_alloc | apply pw_below_drewN | apply below_drew1) | exact HB.out)⟩⟩
                case rest =>
                  clear HC18
                  try clear c1
                  try clear c2
                  try clear p2
                  try clear q2
                  try clear c3
                  try clear q3
                  try clear c5
                  try clear p6
                  try clear c8
                  try clear c8b0
                  try clear c8b1
                  try clear c9
                  try clear c10
                  try clear c11
                  try clear c12
                  try clear c12b0
                  try clear c12b1
                  try clear c15
                  try clear c15b0
                  try clear c15b1
                  try clear c16
                  try clear c16b0
                  try clear c16b1
                  try clear q23
                  try clear c27
                  try clear c27b0
                  try clear c27b1
                  try clear c28
                  try clear c28b0
                  try clear c28b1
                  try clear c30
                  try clear c30b0
                  try clear c30b1
                  try clear c31
                  try clear c31b0
                  try clear c31b1
                  try clear q35
                  try clear p2
                  try clear q23
                  try clear q35
                  obtain ⟨kq, x62_17, rfl, HA, HJ17, HO_7, HO_8, HO_10, HR257, HB⟩ := hcut
                  cases kq with
                  | zero => exact absurd HA.out (by simp [tattinglaw20_HyyroGoes.j1])
                  | succ kj17 =>
                    have H := HA.out
                    clear HA
                    simp only [tattinglaw20_HyyroGoes.j1] at H
                    by_cases c39 : x62_17 = true
                    · subst c39
                      have H1 : (some false) = some true := by rw [if_pos rfl] at H; first | done | exact H
                      clear H
                      have H := H1
                      clear H1
                      exact absurd H (by simp)
                    · replace c39 := Bool.eq_false_iff.mpr c39
                      subst c39
                      have H1 : (tattinglaw20_HyyroGoes.l0 kj17 t245 t248 t251 0) = some true := by rw [if_neg (show ¬ (false = true) by decide)] at H; first | done | exact H
                      clear H
                      have H := H1
                      clear H1
                      have H' := Aside0.mk H
                      clear H
                      go_wp2
                      go_loopg [12] kj17 (fun kq v12 w' => ∃ (x12_3 : Int), v12 = .int .i64 x12_3 ∧ Aside0 (tattinglaw20_HyyroGoes.l0 kq t245 t248 t251 x12_3 = some true) ∧ Aside0 (kq ≤ kj17) ∧ Aside0 (Kd.R (Kd.int .i64) 3 w' w.heap.size (fun k_ => some k_ ≠ ((.slice Ao24 t248.length co24) : Value).ownBlock) (.slice Ao21 t245.length co21) t245) ∧ Aside0 (Kd.R (Kd.int .i64) 3 w' w.heap.size (fun k_ => some k_ ≠ ((.slice Ao21 t245.length co21) : Value).ownBlock) (.slice Ao24 t248.length co24) t248) ∧ Aside0 (Kd.S (Kd.slice 24 (Kd.int .u64)) 22 w' w.heap.size (fun _ => True) v252 t251) ∧ Aside0 (Kd.C (Kd.int .i64) w' Ao21 y254.length y254) ∧ Aside0 (Below w.heap.size w w'))
                      case atStart => exact ⟨(0), (by first | rfl | (simp; done) | (simp [*]; done)), H', ⟨Nat.le_refl _⟩, ⟨by (with_reducible repeat (first | apply Kd.R_alloc | apply Kd.R_drewN | apply Kd.R_drew)); exact HO_7.out⟩, ⟨by (with_reducible repeat (first | apply Kd.R_alloc | apply Kd.R_drewN | apply Kd.R_drew)); exact HO_8.out⟩, ⟨by (with_reducible repeat (first | apply Kd.S_alloc | apply Kd.S_drewN | apply Kd.S_drew)); exact HO_10.out⟩, ⟨by repeat (first | (with_reducible exact HR257.out) | (with_reducible refine Kd.C_alloc ?_ _) | (with_reducible refine Kd.C_drewN ?_ _) | (with_reducible refine Kd.C_drew ?_) | exact HR257.out)⟩, ⟨by repeat (first | (with_reducible first | exact HB.out | apply below_alloc | apply pw_below_drewN | apply below_drew1) | exact HB.out)⟩⟩
                      case round =>
                        clear H'
                        try clear c1
                        try clear c2
                        try clear p2
                        try clear q2
                        try clear c3
                        try clear q3
                        try clear c5
                        try clear p6
                        try clear c8
                        try clear c8b0
                        try clear c8b1
                        try clear c9
                        try clear c10
                        try clear c11
                        try clear c12
                        try clear c12b0
                        try clear c12b1
                        try clear c15
                        try clear c15b0
                        try clear c15b1
                        try clear c16
                        try clear c16b0
                        try clear c16b1
                        try clear q23
                        try clear c27
                        try clear c27b0
                        try clear c27b1
                        try clear c28
                        try clear c28b0
                        try clear c28b1
                        try clear c30
                        try clear c30b0
                        try clear c30b1
                        try clear c31
                        try clear c31b0
                        try clear c31b1
                        try clear q35
                        try clear c39
                        try clear p2
                        try clear p6
                        try clear q2
                        try clear q23
                        try clear q3
                        try clear q35
                        obtain ⟨x12_3, rfl, HA, HK3, HO_7, HO_8, HO_10, HR257, HB⟩ := hrel
                        cases gk with
                        | zero => exact absurd HA.out (by simp [tattinglaw20_HyyroGoes.l0])
                        | succ k3 =>
                          have H := HA.out
                          clear HA
                          simp only [tattinglaw20_HyyroGoes.l0] at H
                          by_cases c40 : x12_3 < (t245.length : Int)
                          · rw [if_pos c40] at H
                            have c40b0 : decide (x12_3 < (t245.length : Int)) = true := decide_eq_true c40
                            clear c40
                            obtain ⟨ji41, hji41⟩ : ∃ j_ : Int, (wrap64 (x12_3 + 1)) = j_ := ⟨_, rfl⟩
                            replace H : (if 0 ≤ (ji41) then (if (ji41) < (t251.length : Int) then (if 0 ≤ x12_3 then (if x12_3 < (t251.length : Int) then ((tattingref5_Mask.f k3 t248 (rd t245 x12_3)).bind fun t272 => ((hyyro_Row.f k3 (rd_L2 t251 x12_3) t272 (t248.length : Int)).bind fun t275 => ((tattingref5_Same.f k3 (rd_L2 t251 (ji41)) t275).bind fun t278 => (if t278 = true then (tattinglaw20_HyyroGoes.l0 k3 t245 t248 t251 ji41) else (some false))))) else (none)) else (none)) else (none)) else (none)) = some true := by first | (rw [hji41] at H; exact H) | (simp only [hji41] at H ⊢; exact H)
                            have hji41w : (IntKind.i64.wrap (x12_3 + 1)) = ji41 := (i64_w _).trans hji41
                            by_cases c42 : 0 ≤ (ji41)
                            · rw [if_pos c42] at H
                              have c42b0 : decide (0 ≤ (ji41)) = true := decide_eq_true c42
                              clear c42
                              by_cases c43 : (ji41) < (t251.length : Int)
                              · rw [if_pos c43] at H
                                have c43b0 : decide ((ji41) < (t251.length : Int)) = true := decide_eq_true c43
                                clear c43
                                by_cases c44 : 0 ≤ x12_3
                                · rw [if_pos c44] at H
                                  have c44b0 : decide (0 ≤ x12_3) = true := decide_eq_true c44
                                  clear c44
                                  by_cases c45 : x12_3 < (t251.length : Int)
                                  · rw [if_pos c45] at H
                                    have c45b0 : decide (x12_3 < (t251.length : Int)) = true := decide_eq_true c45
                                    clear c45
                                    replace H := Option.bind_eq_some_iff.mp H
                                    obtain ⟨t272, A460, H⟩ := H
                                    replace H : ((hyyro_Row.f k3 (rd_L2 t251 x12_3) t272 (t248.length : Int)).bind fun t275 => ((tattingref5_Same.f k3 (rd_L2 t251 (ji41)) t275).bind fun t278 => (if t278 = true then (tattinglaw20_HyyroGoes.l0 k3 t245 t248 t251 ji41) else (some false)))) = some true := H
                                    have A46 := Aside0.mk A460
                                    clear A460
                                    replace H := Option.bind_eq_some_iff.mp H
                                    obtain ⟨t275, A470, H⟩ := H
                                    replace H : ((tattingref5_Same.f k3 (rd_L2 t251 (ji41)) t275).bind fun t278 => (if t278 = true then (tattinglaw20_HyyroGoes.l0 k3 t245 t248 t251 ji41) else (some false))) = some true := H
                                    have A47 := Aside0.mk A470
                                    clear A470
                                    replace H := Option.bind_eq_some_iff.mp H
                                    obtain ⟨t278, A480, H⟩ := H
                                    replace H : (if t278 = true then (tattinglaw20_HyyroGoes.l0 k3 t245 t248 t251 ji41) else (some false)) = some true := H
                                    have A48 := Aside0.mk A480
                                    clear A480
                                    by_cases c49 : t278 = true
                                    · subst c49
                                      have H1 : (tattinglaw20_HyyroGoes.l0 k3 t245 t248 t251 ji41) = some true := by rw [if_pos rfl] at H; first | done | exact H
                                      clear H
                                      have H := H1
                                      clear H1
                                      have H' := Aside0.mk H
                                      clear H
                                      try go_wp2
                                      have n0_ := Aside0.mk (Kd.R_drew HO_7.out)
                                      have n1_ := Aside0.mk (Kd.R_drew HO_8.out)
                                      have n2_ := Aside0.mk (Kd.S_drew HO_10.out)
                                      have n3_ := Aside0.mk (Kd.C_drew HR257.out)
                                      have n4_ := Aside0.mk (below_drew1 HB.out)
                                      clear HO_7
                                      clear HO_8
                                      clear HO_10
                                      clear HR257
                                      clear HB
                                      have HO_7 := n0_
                                      have HO_8 := n1_
                                      have HO_10 := n2_
                                      have HR257 := n3_
                                      have HB := n4_
                                      clear n0_ n1_ n2_ n3_ n4_
                                      obtain ⟨Ao51, co51, eo51⟩ := Kd.S_slice HO_10.out
                                      (first | subst eo51 | (injection eo51 with f1_ f2_ f3_; have f4_ := f1_.symm; have f5_ := f3_.symm; clear f1_ f2_ f3_; subst f4_; subst f5_))
                                      have p269 : 0 ≤ ((ji41) : Int) := of_decide_eq_true (by first | (with_reducible assumption) | assumption)
                                      have q269 : (ji41) < (t251.length : Int) := of_decide_eq_true (by first | (with_reducible assumption) | assumption)
                                      obtain ⟨ad269, A269_0, c269_0, e269, hx269_0, hl269_0, hi269_0⟩ := at_L2 (Kd.S_reads' HO_10.out).2.2 (ji41) p269 q269
                                      cases e269
                                      obtain ⟨ce269, hce269, hMe269, hcc269⟩ := Kd.S_get HO_10.out [] (ji41) p269 (by first | exact q269 | exact of_decide_eq_true (by first | (with_reducible assumption) | assumption) | (have e_ := (Kd.S_reads' HO_10.out).1; omega))
                                      obtain ⟨ve269_0, rfl, ge269_0⟩ := hMe269
                                      have hv269_0 := hcc269 0 _ rfl
                                      rw [Nat.add_zero, show ((Kd.slice 24 (Kd.int .u64))).sz = 1 from rfl, Nat.mul_one] at hv269_0
                                      replace hv269_0 := Option.some.inj (hv269_0.symm.trans hx269_0)
                                      rw [hv269_0] at ge269_0
                                      have HL269_0 := Aside0.mk (show Kd.R (Kd.int .u64) 24 _ _ _ _ (rd_L2 t251 (ji41)) from ge269_0)
                                      clear hv269_0 ge269_0
                                      clear hcc269 hce269
                                      have HR269_0 := Aside0.mk hi269_0
                                      have HC269_0 := Aside0.mk hl269_0
                                      clear hi269_0 hl269_0
                                      replace p269 := eq_true p269
                                      replace q269 := eq_true q269
                                      have p270 : 0 ≤ (x12_3 : Int) := of_decide_eq_true (by first | (with_reducible assumption) | assumption)
                                      have q270 : x12_3 < (t251.length : Int) := of_decide_eq_true (by first | (with_reducible assumption) | assumption)
                                      obtain ⟨ad270, A270_0, c270_0, e270, hx270_0, hl270_0, hi270_0⟩ := at_L2 (Kd.S_reads' HO_10.out).2.2 x12_3 p270 q270
                                      obtain rfl : ad269 = ad270 := (by injection e270)
                                      obtain ⟨ce270, hce270, hMe270, hcc270⟩ := Kd.S_get HO_10.out [] x12_3 p270 (by first | exact q270 | exact of_decide_eq_true (by first | (with_reducible assumption) | assumption) | (have e_ := (Kd.S_reads' HO_10.out).1; omega))
                                      obtain ⟨ve270_0, rfl, ge270_0⟩ := hMe270
                                      have hv270_0 := hcc270 0 _ rfl
                                      rw [Nat.add_zero, show ((Kd.slice 24 (Kd.int .u64))).sz = 1 from rfl, Nat.mul_one] at hv270_0
                                      replace hv270_0 := Option.some.inj (hv270_0.symm.trans hx270_0)
                                      rw [hv270_0] at ge270_0
                                      have HL270_0 := Aside0.mk (show Kd.R (Kd.int .u64) 24 _ _ _ _ (rd_L2 t251 x12_3) from ge270_0)
                                      clear hv270_0 ge270_0
                                      clear hcc270 hce270
                                      have HR270_0 := Aside0.mk hi270_0
                                      have HC270_0 := Aside0.mk hl270_0
                                      clear hi270_0 hl270_0
                                      replace p270 := eq_true p270
                                      replace q270 := eq_true q270
                                      have p271 : 0 ≤ (x12_3 : Int) := of_decide_eq_true (by first | (with_reducible assumption) | assumption)
                                      have q271 : x12_3 < (t245.length : Int) := of_decide_eq_true (by first | (with_reducible assumption) | assumption)
                                      obtain ⟨ad271, e271, hx271_0⟩ := Kd.at_int (Kd.R_reads' HO_7.out).2.2 x12_3 p271 q271
                                      cases e271
                                      replace p271 := eq_true p271
                                      replace q271 := eq_true q271
                                      refine start_ (n := 20) (S := fun w' => w'.cell? (ad269.add ((ji41)).toNat) = some (.slice A269_0 (rd_L2 t251 (ji41)).length c269_0) ∧ w'.cell? (ad269.add (x12_3).toNat) = some (.slice A270_0 (rd_L2 t251 x12_3).length c270_0) ∧ w'.cell? (ad271.add (x12_3).toNat) = some (.int .i64 (rd t245 x12_3))) (ds := []) #[false, false, false, false, false, false, false, false, false, false, false, false, false, false, false, false, false, false, false, false] (by kernel_rfl) rfl rfl ⟨hx269_0, hx270_0, hx271_0⟩ (fun hHeld => ?_); refine with_tabW tattinglaw20_HyyroGoes.tab13 tattinglaw20_HyyroGoes.bits13 (fun HT_ HW_ => ?_)
                                      generalize wr.drew = w50 at HO_7 HO_8 HO_10 HR257 HB HL269_0 HL270_0 HR269_0 HR270_0 hx269_0 hx270_0 hx271_0 hHeld ⊢
                                      refine pure_ (i := 0) (N := some 69) (v := ?_) (a' := ?_) #[true, false, false, false, false, false, false, false, false, false, false, false, false, false, false, false, false, false, false, false] rfl rfl (any_of HT_.out (by kernel_rfl)) (fun _ _ _ h => h) (Or.inl ⟨by rfl, ?_⟩) ?_ ?_
                                      rotate_left
                                      · intro w'
                                        go_simp
                                        with_reducible rfl
                                      rotate_left
                                      · simp only [Act.put, List.setIfInBounds_toArray, List.set_cons_zero, List.set_cons_succ, i64_w, i32_w]
                                        rfl
                                      refine pure_ (i := 1) (N := some 70) (v := ?_) (a' := ?_) #[true, true, false, false, false, false, false, false, false, false, false, false, false, false, false, false, false, false, false, false] rfl rfl (any_of HT_.out (by kernel_rfl)) (fun _ _ _ h => h) (Or.inl ⟨by rfl, ?_⟩) ?_ ?_
                                      rotate_left
                                      · intro w'
                                        go_simp
                                        with_reducible rfl
                                      rotate_left
                                      · simp only [Act.put, List.setIfInBounds_toArray, List.set_cons_zero, List.set_cons_succ, i64_w, i32_w]
                                        rfl
                                      refine pure_ (i := 2) (N := some 71) (v := ?_) (a' := ?_) #[true, true, true, false, false, false, false, false, false, false, false, false, false, false, false, false, false, false, false, false] rfl rfl (any_of HT_.out (by kernel_rfl)) (fun _ _ _ h => h) (Or.inl ⟨by rfl, ?_⟩) ?_ ?_
                                      rotate_left
                                      · intro w'
                                        go_simp
                                        with_reducible rfl
                                      rotate_left
                                      · simp only [Act.put, List.setIfInBounds_toArray, List.set_cons_zero, List.set_cons_succ, i64_w, i32_w]
                                        rfl
                                      refine pure_ (i := 3) (N := some 72) (v := ?_) (a' := ?_) #[true, true, true, true, false, false, false, false, false, false, false, false, false, false, false, false, false, false, false, false] rfl rfl (any_of HT_.out (by kernel_rfl)) (fun _ _ _ h => h) (Or.inl ⟨by rfl, ?_⟩) ?_ ?_
                                      rotate_left
                                      · intro w'
                                        go_simp
                                        with_reducible rfl
                                      rotate_left
                                      · simp only [Act.put, List.setIfInBounds_toArray, List.set_cons_zero, List.set_cons_succ, i64_w, i32_w]
                                        rfl
                                      refine pure_ (i := 5) (N := some 74) (v := ?_) (a' := ?_) #[true, true, true, true, false, true, false, false, false, false, false, false, false, false, false, false, false, false, false, false] rfl rfl (any_of HT_.out (by kernel_rfl)) (fun _ _ _ h => h) (Or.inl ⟨by rfl, ?_⟩) ?_ ?_
                                      rotate_left
                                      · intro w'
                                        go_simp
                                        with_reducible rfl
                                      rotate_left
                                      · simp only [Act.put, List.setIfInBounds_toArray, List.set_cons_zero, List.set_cons_succ, i64_w, i32_w]
                                        rfl
                                      refine pure_ (i := 6) (N := some 75) (v := ?_) (a' := ?_) #[true, true, true, true, false, true, true, false, false, false, false, false, false, false, false, false, false, false, false, false] rfl rfl (any_of HT_.out (by kernel_rfl)) (fun _ _ _ h => h) (Or.inl ⟨by rfl, ?_⟩) ?_ ?_
                                      rotate_left
                                      · intro w'
                                        go_simp
                                        with_reducible rfl
                                      rotate_left
                                      · simp only [Act.put, List.setIfInBounds_toArray, List.set_cons_zero, List.set_cons_succ, i64_w, i32_w]
                                        rfl
                                      refine pure_ (i := 7) (N := some 76) (v := ?_) (a' := ?_) #[true, true, true, true, false, true, true, true, false, false, false, false, false, false, false, false, false, false, false, false] rfl rfl (any_of HT_.out (by kernel_rfl)) (fun _ _ _ h => h) (Or.inl ⟨by rfl, ?_⟩) ?_ ?_
                                      rotate_left
                                      · intro w'
                                        go_simp
                                        with_reducible rfl
                                      rotate_left
                                      · simp only [Act.put, List.setIfInBounds_toArray, List.set_cons_zero, List.set_cons_succ, i64_w, i32_w]
                                        rfl
                                      refine pure_ (i := 9) (N := some 78) (v := ?_) (a' := ?_) #[true, true, true, true, false, true, true, true, false, true, false, false, false, false, false, false, false, false, false, false] rfl rfl (any_of HT_.out (by kernel_rfl)) (fun _ _ _ h => h) (Or.inl ⟨by rfl, ?_⟩) ?_ ?_
                                      rotate_left
                                      · intro w'
                                        go_simp
                                        with_reducible rfl
                                      rotate_left
                                      · simp only [Act.put, List.setIfInBounds_toArray, List.set_cons_zero, List.set_cons_succ, i64_w, i32_w]
                                        rfl
                                      refine pure_ (i := 10) (N := some 79) (v := ?_) (a' := ?_) #[true, true, true, true, false, true, true, true, false, true, true, false, false, false, false, false, false, false, false, false] rfl rfl (any_of HT_.out (by kernel_rfl)) (fun _ _ _ h => h) (Or.inl ⟨by rfl, ?_⟩) ?_ ?_
                                      rotate_left
                                      · intro w'
                                        go_simp
                                        with_reducible rfl
                                      rotate_left
                                      · simp only [Act.put, List.setIfInBounds_toArray, List.set_cons_zero, List.set_cons_succ, i64_w, i32_w]
                                        rfl
                                      refine pure_ (i := 11) (N := some 80) (v := ?_) (a' := ?_) #[true, true, true, true, false, true, true, true, false, true, true, true, false, false, false, false, false, false, false, false] rfl rfl (any_of HT_.out (by kernel_rfl)) (fun _ _ _ h => h) (Or.inl ⟨by rfl, ?_⟩) ?_ ?_
                                      rotate_left
                                      · intro w'
                                        go_simp
                                        with_reducible rfl
                                      rotate_left
                                      · simp only [Act.put, List.setIfInBounds_toArray, List.set_cons_zero, List.set_cons_succ, i64_w, i32_w]
                                        rfl
                                      refine pure_ (i := 12) (N := some 81) (v := ?_) (a' := ?_) #[true, true, true, true, false, true, true, true, false, true, true, true, true, false, false, false, false, false, false, false] rfl rfl (any_of HT_.out (by kernel_rfl)) (fun _ _ _ h => h) (Or.inl ⟨by rfl, ?_⟩) ?_ ?_
                                      rotate_left
                                      · intro w'
                                        go_simp
                                        with_reducible rfl
                                      rotate_left
                                      · simp only [Act.put, List.setIfInBounds_toArray, List.set_cons_zero, List.set_cons_succ, i64_w, i32_w]
                                        rfl
                                      refine pure_ (i := 15) (N := some 84) (v := ?_) (a' := ?_) #[true, true, true, true, false, true, true, true, false, true, true, true, true, false, false, true, false, false, false, false] rfl rfl (any_of HT_.out (by kernel_rfl)) (fun _ _ _ h => h) (Or.inl ⟨by rfl, ?_⟩) ?_ ?_
                                      rotate_left
                                      · intro w'
                                        go_simp
                                        with_reducible rfl
                                      rotate_left
                                      · simp only [Act.put, List.setIfInBounds_toArray, List.set_cons_zero, List.set_cons_succ, i64_w, i32_w]
                                        rfl
                                      refine pure_ (i := 16) (N := some 85) (v := ?_) (a' := ?_) #[true, true, true, true, false, true, true, true, false, true, true, true, true, false, false, true, true, false, false, false] rfl rfl (any_of HT_.out (by kernel_rfl)) (fun _ _ _ h => h) (Or.inl ⟨by rfl, ?_⟩) ?_ ?_
                                      rotate_left
                                      · intro w'
                                        go_simp
                                        with_reducible rfl
                                      rotate_left
                                      · simp only [Act.put, List.setIfInBounds_toArray, List.set_cons_zero, List.set_cons_succ, i64_w, i32_w]
                                        rfl
                                      refine take_ (i := 4) (N := some 73) (v := ?_) (a' := ?_) #[true, true, true, true, true, true, true, true, false, true, true, true, true, false, false, true, true, false, false, false] rfl rfl (take_ofW HT_.out HW_.out (by kernel_rfl)) (fun _ _ _ h => h) (Or.inl ⟨by rfl, ?_⟩) hHeld ?_ ?_
                                      rotate_left
                                      · rintro w' ⟨s0, s1, s2⟩
                                        go_simp
                                        with_reducible rfl
                                      rotate_left
                                      · simp only [Act.put, List.setIfInBounds_toArray, List.set_cons_zero, List.set_cons_succ, i64_w, i32_w]
                                        rfl
                                      refine take_ (i := 8) (N := some 77) (v := ?_) (a' := ?_) #[true, true, true, true, true, true, true, true, true, true, true, true, true, false, false, true, true, false, false, false] rfl rfl (take_ofW HT_.out HW_.out (by kernel_rfl)) (fun _ _ _ h => h) (Or.inl ⟨by rfl, ?_⟩) hHeld ?_ ?_
                                      rotate_left
                                      · rintro w' ⟨s0, s1, s2⟩
                                        go_simp
                                        with_reducible rfl
                                      rotate_left
                                      · simp only [Act.put, List.setIfInBounds_toArray, List.set_cons_zero, List.set_cons_succ, i64_w, i32_w]
                                        rfl
                                      refine take_ (i := 13) (N := some 82) (v := ?_) (a' := ?_) #[true, true, true, true, true, true, true, true, true, true, true, true, true, true, false, true, true, false, false, false] rfl rfl (take_ofW HT_.out HW_.out (by kernel_rfl)) (fun _ _ _ h => h) (Or.inl ⟨by rfl, ?_⟩) hHeld ?_ ?_
                                      rotate_left
                                      · rintro w' ⟨s0, s1, s2⟩
                                        go_simp
                                        with_reducible rfl
                                      rotate_left
                                      · simp only [Act.put, List.setIfInBounds_toArray, List.set_cons_zero, List.set_cons_succ, i64_w, i32_w]
                                        rfl
                                      refine one_ (i := 14) (N := some 83) #[true, true, true, true, true, true, true, true, true, true, true, true, true, true, true, true, true, false, false, false] rfl rfl (one_of HT_.out (by kernel_rfl)) (by decide) (fun K hK => ?_)
                                      refine goes_ Try.func21 (by kernel_rfl) rfl #[.slice Ao24 t248.length co24, .int .i64 (rd t245 x12_3)] (by rfl) rfl rfl (by (try simp only [List.map_toArray, List.map_cons, List.map_nil]); first | done | rfl | (simp only [List.length_drop, List.length_take]; rfl)) ?_
                                      with_reducible refine (tattingref5_Mask.calls k3 _ _ t248 (rd t245 x12_3) t272 _ ?side1 ?side2 A46.out).mono ?_
                                      (case side1 => repeat (first | exact (Kd.R_reads' HO_8.out).2.2 | (with_reducible refine Kd.C_alloc ?_ _) | (with_reducible refine Kd.C_drewN ?_ _) | (with_reducible refine Kd.C_drew ?_)))
                                      (case side2 => exact (Kd.R_reads' HO_8.out).2.1)
                                      rintro e w52 ⟨v273, rfl, ho0, hb⟩
                                      have HS0_ := (hb.cell (World.block_lt_of_cell? _ _ (hHeld.1))).trans (hHeld.1)
                                      have HS1_ := (hb.cell (World.block_lt_of_cell? _ _ (hHeld.2.1))).trans (hHeld.2.1)
                                      have HS2_ := (hb.cell (World.block_lt_of_cell? _ _ (hHeld.2.2))).trans (hHeld.2.2)
                                      refine ⟨_, rfl, ?_⟩
                                      have n0_ := Aside0.mk (Kd.R_below (by (with_reducible repeat (first | apply Kd.R_alloc | apply Kd.R_drewN | apply Kd.R_drew)); exact HO_7.out) hb)
                                      have n1_ := Aside0.mk (Kd.R_below (by (with_reducible repeat (first | apply Kd.R_alloc | apply Kd.R_drewN | apply Kd.R_drew)); exact HO_8.out) hb)
                                      have n2_ := Aside0.mk (Kd.S_elder' (by (with_reducible repeat (first | apply Kd.S_alloc | apply Kd.S_drewN | apply Kd.S_drew)); exact HO_10.out) (Kd.R_base ho0) hb)
                                      have n3_ := Aside0.mk (Kd.R_elder' (by (with_reducible repeat (first | apply Kd.R_alloc | apply Kd.R_drewN | apply Kd.R_drew)); exact HL269_0.out) (Kd.R_base ho0) hb)
                                      have n4_ := Aside0.mk (Kd.R_elder' (by (with_reducible repeat (first | apply Kd.R_alloc | apply Kd.R_drewN | apply Kd.R_drew)); exact HL270_0.out) (Kd.R_base ho0) hb)
                                      have n5_ := Aside0.mk (Kd.R_lower (Kd.R_new' (Kd.R_new' ho0 (Kd.R_lt (by (with_reducible repeat (first | apply Kd.R_alloc | apply Kd.R_drewN | apply Kd.R_drew)); exact HL269_0.out))) (Kd.R_lt (by (with_reducible repeat (first | apply Kd.R_alloc | apply Kd.R_drewN | apply Kd.R_drew)); exact HL270_0.out))) (below_size (by repeat (first | (with_reducible first | exact HB.out | apply below_alloc | apply pw_below_drewN | apply below_drew1) | exact HB.out))))
                                      have n6_ := Aside0.mk (Kd.C_below (by repeat (first | (with_reducible exact HR257.out) | (with_reducible refine Kd.C_alloc ?_ _) | (with_reducible refine Kd.C_drewN ?_ _) | (with_reducible refine Kd.C_drew ?_) | exact HR257.out)) hb)
                                      have n7_ := Aside0.mk (Kd.C_below (by repeat (first | (with_reducible exact HR269_0.out) | (with_reducible refine Kd.C_alloc ?_ _) | (with_reducible refine Kd.C_drewN ?_ _) | (with_reducible refine Kd.C_drew ?_) | exact HR269_0.out)) hb)
                                      have n8_ := Aside0.mk (Kd.C_below (by repeat (first | (with_reducible exact HR270_0.out) | (with_reducible refine Kd.C_alloc ?_ _) | (with_reducible refine Kd.C_drewN ?_ _) | (with_reducible refine Kd.C_drew ?_) | exact HR270_0.out)) hb)
                                      have n9_ := Aside0.mk (below_step (by repeat (first | (with_reducible first | exact HB.out | apply below_alloc | apply pw_below_drewN | apply below_drew1) | exact HB.out)) hb)
                                      clear HO_7
                                      clear HO_8
                                      clear HO_10
                                      clear HL269_0
                                      clear HL270_0
                                      clear HR257
                                      clear HR269_0
                                      clear HR270_0
                                      clear HB
                                      have HO_7 := n0_
                                      have HO_8 := n1_
                                      have HO_10 := n2_
                                      have HL269_0 := n3_
                                      have HL270_0 := n4_
                                      have HO274 := n5_
                                      have HR257 := n6_
                                      have HR269_0 := n7_
                                      have HR270_0 := n8_
                                      have HB := n9_
                                      clear n0_ n1_ n2_ n3_ n4_ n5_ n6_ n7_ n8_ n9_
                                      (try clear hb)
                                      (try clear hb2)
                                      (try clear hk)
                                      (try clear hi)
                                      (try clear ho0)
                                      obtain ⟨Ao53, co53, eo53⟩ := Kd.R_slice HO274.out
                                      (first | subst eo53 | (injection eo53 with f1_ f2_ f3_; have f4_ := f1_.symm; have f5_ := f3_.symm; clear f1_ f2_ f3_; subst f4_; subst f5_))
                                      refine hK.out _ _ ⟨HS0_, HS1_, HS2_⟩ (fun hHeld => ?_)
                                      clear hK K
                                      refine norm_ (a' := ?_) ?_ ?_
                                      rotate_left
                                      · show Act.put _ (some 83) _ = _
                                        simp only [Act.put, List.setIfInBounds_toArray, List.set_cons_zero, List.set_cons_succ, i64_w, i32_w]
                                        rfl
                                      refine one_ (i := 17) (N := some 86) #[true, true, true, true, true, true, true, true, true, true, true, true, true, true, true, true, true, true, false, false] rfl rfl (one_of HT_.out (by kernel_rfl)) (by decide) (fun K hK => ?_)
                                      refine goes_ Try.func9 (by kernel_rfl) rfl #[.slice A270_0 (rd_L2 t251 x12_3).length c270_0, .slice Ao53 t272.length co53, .int .i64 (t248.length : Int)] (by rfl) rfl rfl (by (try simp only [List.map_toArray, List.map_cons, List.map_nil]); first | done | rfl | (simp only [List.length_drop, List.length_take]; rfl)) ?_
                                      with_reducible refine (hyyro_Row.calls k3 _ _ (rd_L2 t251 x12_3) _ _ t272 (t248.length : Int) t275 _ ?side1 ?side2 ?side3 ?side4 A47.out).mono ?_
                                      (case side1 => repeat (first | exact (by repeat (first | (with_reducible exact HR270_0.out) | (with_reducible refine Kd.C_alloc ?_ _) | (with_reducible refine Kd.C_drewN ?_ _) | (with_reducible refine Kd.C_drew ?_) | exact HR270_0.out)) | (with_reducible refine Kd.C_alloc ?_ _) | (with_reducible refine Kd.C_drewN ?_ _) | (with_reducible refine Kd.C_drew ?_)))
                                      (case side2 => exact HC270_0.out)
                                      (case side3 => repeat (first | exact (Kd.R_reads' HO274.out).2.2 | (with_reducible refine Kd.C_alloc ?_ _) | (with_reducible refine Kd.C_drewN ?_ _) | (with_reducible refine Kd.C_drew ?_)))
                                      (case side4 => exact (Kd.R_reads' HO274.out).2.1)
                                      rintro e w54 ⟨v276, rfl, ho0, hb⟩
                                      have HS0_ := (hb.cell (World.block_lt_of_cell? _ _ (hHeld.1))).trans (hHeld.1)
                                      have HS1_ := (hb.cell (World.block_lt_of_cell? _ _ (hHeld.2.1))).trans (hHeld.2.1)
                                      have HS2_ := (hb.cell (World.block_lt_of_cell? _ _ (hHeld.2.2))).trans (hHeld.2.2)
                                      refine ⟨_, rfl, ?_⟩
                                      have n0_ := Aside0.mk (Kd.R_below (by (with_reducible repeat (first | apply Kd.R_alloc | apply Kd.R_drewN | apply Kd.R_drew)); exact HO_7.out) hb)
                                      have n1_ := Aside0.mk (Kd.R_below (by (with_reducible repeat (first | apply Kd.R_alloc | apply Kd.R_drewN | apply Kd.R_drew)); exact HO_8.out) hb)
                                      have n2_ := Aside0.mk (Kd.S_elder' (by (with_reducible repeat (first | apply Kd.S_alloc | apply Kd.S_drewN | apply Kd.S_drew)); exact HO_10.out) (Kd.R_base ho0) hb)
                                      have n3_ := Aside0.mk (Kd.R_elder' (by (with_reducible repeat (first | apply Kd.R_alloc | apply Kd.R_drewN | apply Kd.R_drew)); exact HL269_0.out) (Kd.R_base ho0) hb)
                                      have n4_ := Aside0.mk (Kd.R_elder' (by (with_reducible repeat (first | apply Kd.R_alloc | apply Kd.R_drewN | apply Kd.R_drew)); exact HL270_0.out) (Kd.R_base ho0) hb)
                                      have n5_ := Aside0.mk (Kd.R_elder' (by (with_reducible repeat (first | apply Kd.R_alloc | apply Kd.R_drewN | apply Kd.R_drew)); exact HO274.out) (Kd.R_base ho0) hb)
                                      have n6_ := Aside0.mk (Kd.R_lower (Kd.R_new' (Kd.R_new' (Kd.R_new' ho0 (Kd.R_lt (by (with_reducible repeat (first | apply Kd.R_alloc | apply Kd.R_drewN | apply Kd.R_drew)); exact HL269_0.out))) (Kd.R_lt (by (with_reducible repeat (first | apply Kd.R_alloc | apply Kd.R_drewN | apply Kd.R_drew)); exact HL270_0.out))) (Kd.R_lt (by (with_reducible repeat (first | apply Kd.R_alloc | apply Kd.R_drewN | apply Kd.R_drew)); exact HO274.out))) (below_size (by repeat (first | (with_reducible first | exact HB.out | apply below_alloc | apply pw_below_drewN | apply below_drew1) | exact HB.out))))
                                      have n7_ := Aside0.mk (Kd.C_below (by repeat (first | (with_reducible exact HR257.out) | (with_reducible refine Kd.C_alloc ?_ _) | (with_reducible refine Kd.C_drewN ?_ _) | (with_reducible refine Kd.C_drew ?_) | exact HR257.out)) hb)
                                      have n8_ := Aside0.mk (Kd.C_below (by repeat (first | (with_reducible exact HR269_0.out) | (with_reducible refine Kd.C_alloc ?_ _) | (with_reducible refine Kd.C_drewN ?_ _) | (with_reducible refine Kd.C_drew ?_) | exact HR269_0.out)) hb)
                                      have n9_ := Aside0.mk (Kd.C_below (by repeat (first | (with_reducible exact HR270_0.out) | (with_reducible refine Kd.C_alloc ?_ _) | (with_reducible refine Kd.C_drewN ?_ _) | (with_reducible refine Kd.C_drew ?_) | exact HR270_0.out)) hb)
                                      have n10_ := Aside0.mk (below_step (by repeat (first | (with_reducible first | exact HB.out | apply below_alloc | apply pw_below_drewN | apply below_drew1) | exact HB.out)) hb)
                                      clear HO_7
                                      clear HO_8
                                      clear HO_10
                                      clear HL269_0
                                      clear HL270_0
                                      clear HO274
                                      clear HR257
                                      clear HR269_0
                                      clear HR270_0
                                      clear HB
                                      have HO_7 := n0_
                                      have HO_8 := n1_
                                      have HO_10 := n2_
                                      have HL269_0 := n3_
                                      have HL270_0 := n4_
                                      have HO274 := n5_
                                      have HO277 := n6_
                                      have HR257 := n7_
                                      have HR269_0 := n8_
                                      have HR270_0 := n9_
                                      have HB := n10_
                                      clear n0_ n1_ n2_ n3_ n4_ n5_ n6_ n7_ n8_ n9_ n10_
                                      (try clear hb)
                                      (try clear hb2)
                                      (try clear hk)
                                      (try clear hi)
                                      (try clear ho0)
                                      obtain ⟨Ao55, co55, eo55⟩ := Kd.R_slice HO277.out
                                      (first | subst eo55 | (injection eo55 with f1_ f2_ f3_; have f4_ := f1_.symm; have f5_ := f3_.symm; clear f1_ f2_ f3_; subst f4_; subst f5_))
                                      refine hK.out _ _ ⟨HS0_, HS1_, HS2_⟩ (fun hHeld => ?_)
                                      clear hK K
                                      refine norm_ (a' := ?_) ?_ ?_
                                      rotate_left
                                      · show Act.put _ (some 86) _ = _
                                        simp only [Act.put, List.setIfInBounds_toArray, List.set_cons_zero, List.set_cons_succ, i64_w, i32_w]
                                        rfl
                                      refine one_ (i := 18) (N := some 87) #[true, true, true, true, true, true, true, true, true, true, true, true, true, true, true, true, true, true, true, false] rfl rfl (one_of HT_.out (by kernel_rfl)) (by decide) (fun K hK => ?_)
                                      refine goes_ Try.func14 (by kernel_rfl) rfl #[.slice A269_0 (rd_L2 t251 (ji41)).length c269_0, .slice Ao55 t275.length co55] (by rfl) rfl rfl (by (try simp only [List.map_toArray, List.map_cons, List.map_nil]); first | done | (simp only [hji41]; rfl) | rfl | (simp only [List.length_drop, List.length_take]; rfl)) ?_
                                      with_reducible refine (tattingref5_Same.calls k3 _ _ (rd_L2 t251 (ji41)) _ _ t275 true _ ?side1 ?side2 ?side3 ?side4 A48.out).mono ?_
                                      (case side1 => repeat (first | exact (by repeat (first | (with_reducible exact HR269_0.out) | (with_reducible refine Kd.C_alloc ?_ _) | (with_reducible refine Kd.C_drewN ?_ _) | (with_reducible refine Kd.C_drew ?_) | exact HR269_0.out)) | (with_reducible refine Kd.C_alloc ?_ _) | (with_reducible refine Kd.C_drewN ?_ _) | (with_reducible refine Kd.C_drew ?_)))
                                      (case side2 => exact HC269_0.out)
                                      (case side3 => repeat (first | exact (Kd.R_reads' HO277.out).2.2 | (with_reducible refine Kd.C_alloc ?_ _) | (with_reducible refine Kd.C_drewN ?_ _) | (with_reducible refine Kd.C_drew ?_)))
                                      (case side4 => exact (Kd.R_reads' HO277.out).2.1)
                                      rintro e w' ⟨rfl, ⟨nd, rfl⟩⟩
                                      refine ⟨_, rfl, ?_⟩
                                      refine hK.out _ _ ⟨hHeld.1, hHeld.2.1, hHeld.2.2⟩ (fun hHeld => ?_)
                                      clear hK K
                                      refine norm_ (a' := ?_) ?_ ?_
                                      rotate_left
                                      · show Act.put _ (some 87) _ = _
                                        simp only [Act.put, List.setIfInBounds_toArray, List.set_cons_zero, List.set_cons_succ, i64_w, i32_w]
                                        rfl
                                      refine pure_ (i := 19) (N := some 88) (v := ?_) (a' := ?_) #[true, true, true, true, true, true, true, true, true, true, true, true, true, true, true, true, true, true, true, true] rfl rfl (any_of HT_.out (by kernel_rfl)) (fun _ _ _ h => h) (Or.inl ⟨by rfl, ?_⟩) ?_ ?_
                                      rotate_left
                                      · intro w'
                                        go_simp
                                        with_reducible rfl
                                      rotate_left
                                      · simp only [Act.put, List.setIfInBounds_toArray, List.set_cons_zero, List.set_cons_succ, i64_w, i32_w]
                                        rfl
                                      refine done_ (done_of HT_.out (by kernel_rfl)) ?_
                                      try go_wp2
                                      go_roundg k3
                                      case measure => have := HJ5.out; have := HJ17.out; have := HK3.out; omega
                                      case rel => exact ⟨(ji41), (by first | rfl | (simp; done) | (simp only [← hji41] <;> (first | rfl | simp)) | (simp [*]; done)), H', ⟨by have := HJ5.out; have := HJ17.out; have := HK3.out; omega⟩, ⟨by (with_reducible repeat (first | apply Kd.R_alloc | apply Kd.R_drewN | apply Kd.R_drew)); exact HO_7.out⟩, ⟨by (with_reducible repeat (first | apply Kd.R_alloc | apply Kd.R_drewN | apply Kd.R_drew)); exact HO_8.out⟩, ⟨by (with_reducible repeat (first | apply Kd.S_alloc | apply Kd.S_drewN | apply Kd.S_drew)); exact Kd.S_mono HO_10.out (fun _ hk => trivial)⟩, ⟨by repeat (first | (with_reducible exact HR257.out) | (with_reducible refine Kd.C_alloc ?_ _) | (with_reducible refine Kd.C_drewN ?_ _) | (with_reducible refine Kd.C_drew ?_) | exact HR257.out)⟩, ⟨by repeat (first | (with_reducible first | exact HB.out | apply below_alloc | apply pw_below_drewN | apply below_drew1) | exact HB.out)⟩⟩
                                    · replace c49 := Bool.eq_false_iff.mpr c49
                                      subst c49
                                      have H1 : (some false) = some true := by rw [if_neg (show ¬ (false = true) by decide)] at H; first | done | exact H
                                      clear H
                                      have H := H1
                                      clear H1
                                      exact absurd H (by simp)
                                  · rw [if_neg c45] at H
                                    exact absurd H (by simp)
                                · rw [if_neg c44] at H
                                  exact absurd H (by simp)
                              · rw [if_neg c43] at H
                                exact absurd H (by simp)
                            · rw [if_neg c42] at H
                              exact absurd H (by simp)
                          · rw [if_neg c40] at H
                            have c40b0 : decide (x12_3 < (t245.length : Int)) = false := decide_eq_false c40
                            clear c40
                            by_cases c56 : 0 ≤ (t245.length : Int)
                            · rw [if_pos c56] at H
                              have c56b0 : decide (0 ≤ (t245.length : Int)) = true := decide_eq_true c56
                              have c56b1 : decide (0 ≤ t245.length) = true := decide_eq_true (by omega)
                              clear c56
                              by_cases c57 : (t245.length : Int) < (t251.length : Int)
                              · rw [if_pos c57] at H
                                have c57b0 : decide ((t245.length : Int) < (t251.length : Int)) = true := decide_eq_true c57
                                have c57b1 : decide (t245.length < t251.length) = true := decide_eq_true (Int.ofNat_lt.mp c57)
                                clear c57
                                replace H := Option.bind_eq_some_iff.mp H
                                obtain ⟨t267, A580, H⟩ := H
                                replace H : ((hyyro_Len.f k3 t245 t248).bind fun t268 => (some ((wrap64 ((t248.length : Int) - t267)) == t268))) = some true := H
                                have A58 := Aside0.mk A580
                                clear A580
                                replace H := Option.bind_eq_some_iff.mp H
                                obtain ⟨t268, A590, H⟩ := H
                                replace H : (some ((wrap64 ((t248.length : Int) - t267)) == t268)) = some true := H
                                have A59 := Aside0.mk A590
                                clear A590
                                have hr_ := Option.some.inj H
                                clear H
                                obtain ⟨Ao60, co60, eo60⟩ := Kd.S_slice HO_10.out
                                subst eo60
                                have p266 : 0 ≤ ((t245.length : Int) : Int) := of_decide_eq_true (by first | (with_reducible assumption) | assumption)
                                have q266 : (t245.length : Int) < (t251.length : Int) := of_decide_eq_true (by first | (with_reducible assumption) | assumption)
                                obtain ⟨ad266, A266_0, c266_0, e266, hx266_0, hl266_0, hi266_0⟩ := at_L2 (Kd.S_reads' HO_10.out).2.2 (t245.length : Int) p266 q266
                                cases e266
                                obtain ⟨ce266, hce266, hMe266, hcc266⟩ := Kd.S_get HO_10.out [] (t245.length : Int) p266 (by first | exact q266 | exact of_decide_eq_true (by first | (with_reducible assumption) | assumption) | (have e_ := (Kd.S_reads' HO_10.out).1; omega))
                                obtain ⟨ve266_0, rfl, ge266_0⟩ := hMe266
                                have hv266_0 := hcc266 0 _ rfl
                                rw [Nat.add_zero, show ((Kd.slice 24 (Kd.int .u64))).sz = 1 from rfl, Nat.mul_one] at hv266_0
                                replace hv266_0 := Option.some.inj (hv266_0.symm.trans hx266_0)
                                rw [hv266_0] at ge266_0
                                have HL266_0 := Aside0.mk (show Kd.R (Kd.int .u64) 24 _ _ _ _ (rd_L2 t251 (t245.length : Int)) from ge266_0)
                                clear hv266_0 ge266_0
                                clear hcc266 hce266
                                have HR266_0 := Aside0.mk hi266_0
                                have HC266_0 := Aside0.mk hl266_0
                                clear hi266_0 hl266_0
                                (try simp only [Go.IntWalk.toNatUp] at hx266_0)
                                replace p266 := eq_true p266
                                replace q266 := eq_true q266
                                go_wp2_with (first | ((with_reducible refine gate_callee (f := 22) rfl ?_); refine goesL_ (some 98) rfl rfl Try.func22 (by kernel_rfl) rfl #[.slice A266_0 (rd_L2 t251 (t245.length : Int)).length c266_0, .int .i64 (t248.length : Int)] rfl (by (try simp only [List.map_toArray, List.map_cons, List.map_nil]); first | done | rfl | (simp only [List.length_drop, List.length_take]; rfl)) ?_; (with_reducible refine (tattingref5_Count.calls k3 _ _ (rd_L2 t251 (t245.length : Int)) (t248.length : Int) t267 _ ?side1 ?side2 A58.out).mono ?_); (case side1 => repeat (first | exact (by repeat (first | (with_reducible exact HR266_0.out) | (with_reducible refine Kd.C_alloc ?_ _) | (with_reducible refine Kd.C_drewN ?_ _) | (with_reducible refine Kd.C_drew ?_) | exact HR266_0.out)) | (with_reducible refine Kd.C_alloc ?_ _) | (with_reducible refine Kd.C_drewN ?_ _) | (with_reducible refine Kd.C_drew ?_))); (case side2 => exact HC266_0.out); rintro e w' ⟨rfl, ⟨nd, rfl⟩⟩; refine ⟨_, rfl, ?_⟩) | ((with_reducible refine gate_callee (f := 12) rfl ?_); refine goesL_ (some 102) rfl rfl Try.func12 (by kernel_rfl) rfl #[.slice Ao21 t245.length co21, .slice Ao24 t248.length co24] rfl (by (try simp only [List.map_toArray, List.map_cons, List.map_nil]); first | done | rfl | (simp only [List.length_drop, List.length_take]; rfl)) ?_; (with_reducible refine (hyyro_Len.calls k3 _ _ t245 _ _ t248 t268 _ ?side1 ?side2 ?side3 ?side4 A59.out).mono ?_); (case side1 => repeat (first | exact (Kd.R_reads' HO_7.out).2.2 | (with_reducible refine Kd.C_alloc ?_ _) | (with_reducible refine Kd.C_drewN ?_ _) | (with_reducible refine Kd.C_drew ?_))); (case side2 => exact (Kd.R_reads' HO_7.out).2.1); (case side3 => repeat (first | exact (Kd.R_reads' HO_8.out).2.2 | (with_reducible refine Kd.C_alloc ?_ _) | (with_reducible refine Kd.C_drewN ?_ _) | (with_reducible refine Kd.C_drew ?_))); (case side4 => exact (Kd.R_reads' HO_8.out).2.1); rintro e w61 ⟨rfl, hb⟩; refine ⟨_, rfl, ?_⟩; have n0_ := Aside0.mk (Kd.R_below (by (with_reducible repeat (first | apply Kd.R_alloc | apply Kd.R_drewN | apply Kd.R_drew)); exact HO_7.out) hb); have n1_ := Aside0.mk (Kd.R_below (by (with_reducible repeat (first | apply Kd.R_alloc | apply Kd.R_drewN | apply Kd.R_drew)); exact HO_8.out) hb); have n2_ := Aside0.mk (Kd.S_below (by (with_reducible repeat (first | apply Kd.S_alloc | apply Kd.S_drewN | apply Kd.S_drew)); exact HO_10.out) hb); have n3_ := Aside0.mk (Kd.R_below (by (with_reducible repeat (first | apply Kd.R_alloc | apply Kd.R_drewN | apply Kd.R_drew)); exact HL266_0.out) hb); have n4_ := Aside0.mk (Kd.C_below (by repeat (first | (with_reducible exact HR257.out) | (with_reducible refine Kd.C_alloc ?_ _) | (with_reducible refine Kd.C_drewN ?_ _) | (with_reducible refine Kd.C_drew ?_) | exact HR257.out)) hb); have n5_ := Aside0.mk (Kd.C_below (by repeat (first | (with_reducible exact HR266_0.out) | (with_reducible refine Kd.C_alloc ?_ _) | (with_reducible refine Kd.C_drewN ?_ _) | (with_reducible refine Kd.C_drew ?_) | exact HR266_0.out)) hb); have n6_ := Aside0.mk (below_step (by repeat (first | (with_reducible first | exact HB.out | apply below_alloc | apply pw_below_drewN | apply below_drew1) | exact HB.out)) hb); clear HO_7; clear HO_8; clear HO_10; clear HL266_0; clear HR257; clear HR266_0; clear HB; have HO_7 := n0_; have HO_8 := n1_; have HO_10 := n2_; have HL266_0 := n3_; have HR257 := n4_; have HR266_0 := n5_; have HB := n6_; clear n0_ n1_ n2_ n3_ n4_ n5_ n6_; (try clear hb); (try clear hb2); (try clear hk); (try clear hi)))
                                go_ret
                                exact ⟨by first | rfl | (simp [errW_none, errW_some] <;> rfl) | exact congrArg (fun b_ => Ending.returned (Value.bool b_)) hr_ | (simp only [← hji14]; first | rfl | (simp [errW_none, errW_some] <;> rfl)) | (simp [*, errW_none, errW_some] <;> rfl), by repeat (first | (with_reducible first | exact HB.out | apply below_alloc | apply pw_below_drewN | apply below_drew1) | exact HB.out)⟩
                              · rw [if_neg c57] at H
                                exact absurd H (by simp)
                            · rw [if_neg c56] at H
                              exact absurd H (by simp)
              · rw [if_neg c16] at H
                exact absurd H (by simp)
            · rw [if_neg c15] at H
              exact absurd H (by simp)
  · replace c5 := Bool.eq_false_iff.mpr c5
    subst c5
    have H1 : (some false) = some true := by rw [if_neg (show ¬ (false = true) by decide)] at H; first | done | exact H
    clear H
    have H := H1
    clear H1
    exact absurd H (by simp)

/-- THE ONE PURE STATEMENT of tattinglaw20_HyyroGoes: yours. -/
def tattinglaw20_HyyroGoes.Pure : Prop := ∀ (l0 : List Int) (l1 : List Int) (a2 : Int), l0.length ≤ maxLen → l0.length * 8 ≤ 140737488351232 → (∀ x ∈ l0, (Lit.int .i64 x).wf = true) → l1.length ≤ maxLen → l1.length * 8 ≤ 140737488351232 → (∀ x ∈ l1, (Lit.int .i64 x).wf = true) → (Lit.int .u8 a2).wf = true → ∃ k, tattinglaw20_HyyroGoes.f k l0 l1 a2 = some true
theorem tattinglaw20_HyyroGoes.walk (P : tattinglaw20_HyyroGoes.Pure) (a0 : Option Addr) (len0 cap0 : Nat) (z0 : List Int) (a1 : Option Addr) (len1 cap1 : Nat) (z1 : List Int) (a2 : Int) (w : World) (w0 : (a0 = none ∧ len0 = 0 ∧ cap0 = 0 ∧ z0 = []) ∨ ∃ x, a0 = some x ∧ len0 ≤ cap0 ∧ cap0 ≤ maxLen ∧ z0.length = cap0 ∧ (∀ i, i < z0.length → w.cell? (x.add i) = some (.int .i64 (z0.getD i 0))) ∧ ∀ n ∈ z0, (Lit.int .i64 n).wf = true) (y0 : len0 * 8 ≤ 140737488351232) (w1 : (a1 = none ∧ len1 = 0 ∧ cap1 = 0 ∧ z1 = []) ∨ ∃ x, a1 = some x ∧ len1 ≤ cap1 ∧ cap1 ≤ maxLen ∧ z1.length = cap1 ∧ (∀ i, i < z1.length → w.cell? (x.add i) = some (.int .i64 (z1.getD i 0))) ∧ ∀ n ∈ z1, (Lit.int .i64 n).wf = true) (y1 : len1 * 8 ≤ 140737488351232) (w2 : (Lit.int .u8 a2).wf = true) :
    Calls Try.prog 8 #[.slice a0 len0 cap0, .slice a1 len1 cap1, .int .u8 a2] w fun e w' => e = .returned (.bool true) ∧ Below w.heap.size w w' := by
  obtain ⟨l0, rfl, hr0, hm0, hw0, hc0⟩ := ReadsInt.ofRowC w0
  obtain ⟨l1, rfl, hr1, hm1, hw1, hc1⟩ := ReadsInt.ofRowC w1
  obtain ⟨k, h⟩ := P l0 l1 a2 hm0 y0 hw0 hm1 y1 hw1 w2
  refine (tattinglaw20_HyyroGoes.calls k _ _ l0 _ _ l1 a2 w (Kd.C_of_reads (d := (0 : Int)) (h1 := fun _ => rfl) hr0) hc0 (Kd.C_of_reads (d := (0 : Int)) (h1 := fun _ => rfl) hr1) hc1 h).mono ?_
  rintro e w' ⟨rfl, hd⟩
  exact ⟨rfl, hd⟩

end Go.Proofs.Ytnnihdhjphmohaa.PV
