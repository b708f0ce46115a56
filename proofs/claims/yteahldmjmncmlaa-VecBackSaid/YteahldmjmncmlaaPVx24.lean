-- Printed by a program of this session out of the seat (wip/xprint.py).
import Derived.Test.YteahldmjmncmlaaPVx0
import Derived.Test.YteahldmjmncmlaaPVx1
import Derived.Test.YteahldmjmncmlaaPVx3
import Derived.Test.YteahldmjmncmlaaPVx4
import Derived.Test.YteahldmjmncmlaaPVx5
import Derived.Test.YteahldmjmncmlaaPVx8
import Derived.Test.YteahldmjmncmlaaPVx19
import Derived.Test.YteahldmjmncmlaaPVx20
import Derived.Test.YteahldmjmncmlaaPVx22
namespace Go.Proofs.Yteahldmjmncmlaa.PV
open Go.RowKit Go.Proofs.YteahldmjmncmlaaW.PrintWords Go.Proofs.YteahldmjmncmlaaW.PrintLast Go.Proofs.YteahldmjmncmlaaW.PrintMore Go.Proofs.Yteahldmjmncmlaa.XBits
attribute [local go_sem] max2_int min2_int max_two min_two max_three min_three max_four min_four   -- for this text's walks alone
set_option linter.unusedVariables false
set_option linter.unusedSimpArgs false
attribute [local go_sem] run_ext32 run_ext35

/-! ### tattinglaw5_VecBack: function 7 -/
def tattinglaw5_VecBack.j0 : Nat → List Int → List Int → Int → Bool → Option (Bool)
  | 0, _, _, _, _ => none
  | k + 1, x0, x1, x2, x18 => if x18 = true then (some true) else ((vec_Add.f k x0 x1).bind fun t343 => ((vec_Sub.f k t343 x1).bind fun t346 => ((tattingref5_Fit.f k x0 (wrap64 (64 * (mx (x0.length : Int) (x1.length : Int))))).bind fun t349 => ((tattingref5_Same.f k t346 t349).bind fun t352 => (if t352 = true then ((vec_Add.f k x0 x1).bind fun t353 => ((vec_Add.f k x1 x0).bind fun t356 => ((tattingref5_Same.f k t353 t356).bind fun t359 => (if t359 = true then ((vec_Not.f k x0 (Int.tmod (wrap64 (x2)) 400)).bind fun t360 => ((vec_Not.f k t360 (Int.tmod (wrap64 (x2)) 400)).bind fun t363 => ((vec_Fit.f k x0 (Int.tmod (wrap64 (x2)) 400)).bind fun t366 => ((tattingref5_Same.f k t363 t366).bind fun t369 => (if t369 = true then ((vec_Count.f k x0 (Int.tmod (wrap64 (x2)) 400)).bind fun t370 => ((vec_Not.f k x0 (Int.tmod (wrap64 (x2)) 400)).bind fun t371 => ((vec_Count.f k t371 (Int.tmod (wrap64 (x2)) 400)).bind fun t374 => (some ((wrap64 (t370 + t374)) == (Int.tmod (wrap64 (x2)) 400)))))) else (some false)))))) else (some false))))) else (some false))))))
def tattinglaw5_VecBack.f (k : Nat) (l0 : List Int) (l1 : List Int) (a2 : Int) : Option (Bool) := (tattinglaw5_awake.f k).bind fun t342 => (if t342 = true then (if (l0.length : Int) > 6 then (tattinglaw5_VecBack.j0 k l0 l1 a2 true) else (tattinglaw5_VecBack.j0 k l0 l1 a2 (decide ((l1.length : Int) > 6)))) else (some false))
theorem tattinglaw5_VecBack.mono_l : ∀ k, (∀ y0 y1 y2 y3, LeO (tattinglaw5_VecBack.j0 k y0 y1 y2 y3) (tattinglaw5_VecBack.j0 (k + 1) y0 y1 y2 y3))
  | 0 => fun _ _ _ _ r h => by simp [tattinglaw5_VecBack.j0] at h
  | k + 1 => by
    have ih0 := tattinglaw5_VecBack.mono_l k
    · intro y0 y1 y2 y3
      unfold tattinglaw5_VecBack.j0
      repeat' first
      | (with_reducible exact ih0 _ _ _ _)
      | (with_reducible exact tattinglaw5_awake.mono _)
      | (with_reducible exact tattingref5_Fit.mono _ _ _)
      | (with_reducible exact tattingref5_Same.mono _ _ _)
      | (with_reducible exact vec_Add.mono _ _ _)
      | (with_reducible exact vec_Count.mono _ _ _)
      | (with_reducible exact vec_Fit.mono _ _ _)
      | (with_reducible exact vec_Not.mono _ _ _)
      | (with_reducible exact vec_Sub.mono _ _ _)
      | (with_reducible exact LeO.refl _)
      | (with_reducible exact LeO.none _)
      | (with_reducible refine LeO.ite ?_ ?_)
      | (with_reducible refine LeO.bind ?_ (fun _ => ?_))
      | exact ih0 _ _ _ _
      | exact tattinglaw5_awake.mono _
      | exact tattingref5_Fit.mono _ _ _
      | exact tattingref5_Same.mono _ _ _
      | exact vec_Add.mono _ _ _
      | exact vec_Count.mono _ _ _
      | exact vec_Fit.mono _ _ _
      | exact vec_Not.mono _ _ _
      | exact vec_Sub.mono _ _ _
      | exact LeO.none _
      | refine LeO.ite ?_ ?_
      | refine LeO.bind ?_ (fun _ => ?_)
theorem tattinglaw5_VecBack.mono : ∀ a0 a1 a2 k, LeO (tattinglaw5_VecBack.f k a0 a1 a2) (tattinglaw5_VecBack.f (k + 1) a0 a1 a2) := by
  intro a0 a1 a2 k
  have ih0 := tattinglaw5_VecBack.mono_l k
  unfold tattinglaw5_VecBack.f
  repeat' first
      | (with_reducible exact ih0 _ _ _ _)
      | (with_reducible exact tattinglaw5_awake.mono _)
      | (with_reducible exact tattingref5_Fit.mono _ _ _)
      | (with_reducible exact tattingref5_Same.mono _ _ _)
      | (with_reducible exact vec_Add.mono _ _ _)
      | (with_reducible exact vec_Count.mono _ _ _)
      | (with_reducible exact vec_Fit.mono _ _ _)
      | (with_reducible exact vec_Not.mono _ _ _)
      | (with_reducible exact vec_Sub.mono _ _ _)
      | (with_reducible exact LeO.refl _)
      | (with_reducible exact LeO.none _)
      | (with_reducible refine LeO.ite ?_ ?_)
      | (with_reducible refine LeO.bind ?_ (fun _ => ?_))
      | exact ih0 _ _ _ _
      | exact tattinglaw5_awake.mono _
      | exact tattingref5_Fit.mono _ _ _
      | exact tattingref5_Same.mono _ _ _
      | exact vec_Add.mono _ _ _
      | exact vec_Count.mono _ _ _
      | exact vec_Fit.mono _ _ _
      | exact vec_Not.mono _ _ _
      | exact vec_Sub.mono _ _ _
      | exact LeO.none _
      | refine LeO.ite ?_ ?_
      | refine LeO.bind ?_ (fun _ => ?_)
set_option maxHeartbeats 8000000 in
set_option maxRecDepth 100000 in
theorem tattinglaw5_VecBack.calls (k : Nat) (A0 : Option Addr) (c0 : Nat) (l0 : List Int) (A1 : Option Addr) (c1 : Nat) (l1 : List Int) (a2 : Int) (w : World) (hr0 : Kd.C (Kd.int .u64) w A0 l0.length l0) (hc0 : l0.length ≤ c0) (hr1 : Kd.C (Kd.int .u64) w A1 l1.length l1) (hc1 : l1.length ≤ c1) (h : tattinglaw5_VecBack.f k l0 l1 a2 = some true) :
    Calls Try.prog 7 #[.slice A0 l0.length c0, .slice A1 l1.length c1, .int .u16 a2] w fun e w' => e = .returned (.bool true) ∧ Below w.heap.size w w' := by
  have HR0 := Aside0.mk hr0
  have HC0 := Aside0.mk hc0
  clear hr0 hc0
  have HR1 := Aside0.mk hr1
  have HC1 := Aside0.mk hc1
  clear hr1 hc1
  have HB := Aside0.mk (Below.refl w.heap.size w)
  have H : ((tattinglaw5_awake.f k).bind fun t342 => (if t342 = true then (if (l0.length : Int) > 6 then (tattinglaw5_VecBack.j0 k l0 l1 a2 true) else (tattinglaw5_VecBack.j0 k l0 l1 a2 (decide ((l1.length : Int) > 6)))) else (some false))) = some true := h
  clear h
  replace H := Option.bind_eq_some_iff.mp H
  obtain ⟨t342, A40, H⟩ := H
  replace H : (if t342 = true then (if (l0.length : Int) > 6 then (tattinglaw5_VecBack.j0 k l0 l1 a2 true) else (tattinglaw5_VecBack.j0 k l0 l1 a2 (decide ((l1.length : Int) > 6)))) else (some false)) = some true := H
  have A4 := Aside0.mk A40
  clear A40
  by_cases c5 : t342 = true
  · subst c5
    have H1 : (if (l0.length : Int) > 6 then (tattinglaw5_VecBack.j0 k l0 l1 a2 true) else (tattinglaw5_VecBack.j0 k l0 l1 a2 (decide ((l1.length : Int) > 6)))) = some true := by rw [if_pos rfl] at H; first | done | exact H
    clear H
    have H := H1
    clear H1
    have HC6 := Aside0.mk H
    clear H
    go_enter Try.func7, Try.ntmps7
    go_upto_region 3 with (first | ((with_reducible refine gate_callee (f := 9) rfl ?_); refine goesL_ (some 9) rfl rfl Try.func9 (by kernel_rfl) rfl #[] rfl (by (try simp only [List.map_toArray, List.map_cons, List.map_nil]); first | done | rfl | (simp only [List.length_drop, List.length_take]; rfl)) ?_; (with_reducible refine (tattinglaw5_awake.calls k  true _ A4.out).mono ?_); rintro e w7 ⟨rfl, hb⟩; refine ⟨_, rfl, ?_⟩; have n0_ := Aside0.mk (below_step (by repeat (first | (with_reducible first | exact HB.out | apply below_alloc | apply pw_below_drewN | apply below_drew1) | exact HB.out)) hb); clear HB; have HB := n0_; clear n0_; (try clear hb); (try clear hb2); (try clear hk); (try clear hi)))
    (try simp only [Act.put, List.setIfInBounds_toArray, List.set_cons_zero, List.set_cons_succ])
    go_cut [18] (fun v18 wc => ∃ (kq : Nat) (x18_5 : Bool), v18 = .bool x18_5 ∧ Aside0 (tattinglaw5_VecBack.j0 kq l0 l1 a2 x18_5 = some true) ∧ Aside0 (kq ≤ k) ∧ Aside0 (Below w.heap.size w wc))
    case first =>
      have H := HC6.out
      clear HC6
      by_cases c8 : (l0.length : Int) > 6
      · rw [if_pos c8] at H
        have c8b0 : decide (6 < (l0.length : Int)) = true := decide_eq_true c8
        have c8b1 : decide (6 < l0.length) = true := decide_eq_true (by omega)
        clear c8
        (first | rw [c8b0] | (simp only [i64_w, i32_w]; rw [c8b0]) | skip)
        have H' := Aside0.mk H
        clear H
        go_wp2
        go_meet
        case rel => exact ⟨_, (true), (by first | rfl | (simp; done) | (simp [*]; done)), H', ⟨by first | omega | exact Nat.le_refl _⟩, ⟨by repeat (first | (with_reducible first | exact HB.out | apply below_alloc | apply pw_below_drewN | apply below_drew1) | exact HB.out)⟩⟩
      · rw [if_neg c8] at H
        have c8b0 : decide (6 < (l0.length : Int)) = false := decide_eq_false c8
        have c8b1 : decide (6 < l0.length) = false := decide_eq_false (by omega)
        clear c8
        (first | rw [c8b0] | (simp only [i64_w, i32_w]; rw [c8b0]) | skip)
        have H' := Aside0.mk H
        clear H
        go_wp2
        go_meet
        case rel => exact ⟨_, (decide ((l1.length : Int) > 6)), (by first | rfl | (simp; done) | (simp [*]; done)), H', ⟨by first | omega | exact Nat.le_refl _⟩, ⟨by repeat (first | (with_reducible first | exact HB.out | apply below_alloc | apply pw_below_drewN | apply below_drew1) | exact HB.out)⟩⟩
    case rest =>
      clear HC6
      try clear c1
      try clear p2
      try clear c5
      try clear c7
      try clear c8
      try clear c8b0
      try clear c8b1
      obtain ⟨kq, x18_5, rfl, HA, HJ5, HB⟩ := hcut
      cases kq with
      | zero => exact absurd HA.out (by simp [tattinglaw5_VecBack.j0])
      | succ kj5 =>
        have H := HA.out
        clear HA
        simp only [tattinglaw5_VecBack.j0] at H
        by_cases c9 : x18_5 = true
        · subst c9
          have H1 : (some true) = some true := by rw [if_pos rfl] at H; first | done | exact H
          clear H
          have H := H1
          clear H1
          clear H
          go_wp2
          go_ret
          exact ⟨by first | rfl | (simp [errW_none, errW_some] <;> rfl) | exact congrArg (fun b_ => Ending.returned (Value.bool b_)) hr_ | (simp [*, errW_none, errW_some] <;> rfl), by repeat (first | (with_reducible first | exact HB.out | apply below_alloc | apply pw_below_drewN | apply below_drew1) | exact HB.out)⟩
        · replace c9 := Bool.eq_false_iff.mpr c9
          subst c9
          have H1 : ((vec_Add.f kj5 l0 l1).bind fun t343 => ((vec_Sub.f kj5 t343 l1).bind fun t346 => ((tattingref5_Fit.f kj5 l0 (wrap64 (64 * (mx (l0.length : Int) (l1.length : Int))))).bind fun t349 => ((tattingref5_Same.f kj5 t346 t349).bind fun t352 => (if t352 = true then ((vec_Add.f kj5 l0 l1).bind fun t353 => ((vec_Add.f kj5 l1 l0).bind fun t356 => ((tattingref5_Same.f kj5 t353 t356).bind fun t359 => (if t359 = true then ((vec_Not.f kj5 l0 (Int.tmod (wrap64 (a2)) 400)).bind fun t360 => ((vec_Not.f kj5 t360 (Int.tmod (wrap64 (a2)) 400)).bind fun t363 => ((vec_Fit.f kj5 l0 (Int.tmod (wrap64 (a2)) 400)).bind fun t366 => ((tattingref5_Same.f kj5 t363 t366).bind fun t369 => (if t369 = true then ((vec_Count.f kj5 l0 (Int.tmod (wrap64 (a2)) 400)).bind fun t370 => ((vec_Not.f kj5 l0 (Int.tmod (wrap64 (a2)) 400)).bind fun t371 => ((vec_Count.f kj5 t371 (Int.tmod (wrap64 (a2)) 400)).bind fun t374 => (some ((wrap64 (t370 + t374)) == (Int.tmod (wrap64 (a2)) 400)))))) else (some false)))))) else (some false))))) else (some false)))))) = some true := by rw [if_neg (show ¬ (false = true) by decide)] at H; first | done | exact H
          clear H
          have H := H1
          clear H1
          obtain ⟨ji10, hji10⟩ : ∃ j_ : Int, (mx (l0.length : Int) (l1.length : Int)) = j_ := ⟨_, rfl⟩
          replace H : ((vec_Add.f kj5 l0 l1).bind fun t343 => ((vec_Sub.f kj5 t343 l1).bind fun t346 => ((tattingref5_Fit.f kj5 l0 (wrap64 (64 * (ji10)))).bind fun t349 => ((tattingref5_Same.f kj5 t346 t349).bind fun t352 => (if t352 = true then ((vec_Add.f kj5 l0 l1).bind fun t353 => ((vec_Add.f kj5 l1 l0).bind fun t356 => ((tattingref5_Same.f kj5 t353 t356).bind fun t359 => (if t359 = true then ((vec_Not.f kj5 l0 (Int.tmod (wrap64 (a2)) 400)).bind fun t360 => ((vec_Not.f kj5 t360 (Int.tmod (wrap64 (a2)) 400)).bind fun t363 => ((vec_Fit.f kj5 l0 (Int.tmod (wrap64 (a2)) 400)).bind fun t366 => ((tattingref5_Same.f kj5 t363 t366).bind fun t369 => (if t369 = true then ((vec_Count.f kj5 l0 (Int.tmod (wrap64 (a2)) 400)).bind fun t370 => ((vec_Not.f kj5 l0 (Int.tmod (wrap64 (a2)) 400)).bind fun t371 => ((vec_Count.f kj5 t371 (Int.tmod (wrap64 (a2)) 400)).bind fun t374 => (some ((wrap64 (t370 + t374)) == (Int.tmod (wrap64 (a2)) 400)))))) else (some false)))))) else (some false))))) else (some false)))))) = some true := by first | (rw [hji10] at H; exact H) | (simp only [hji10] at H ⊢; exact H)
          (try (have hji10l : 0 ≤ ji10 := by (rw [← hji10]; unfold mx; (repeat' split) <;> omega)))
          (try (have hji10m : 0 ≤ ji10 := by omega))
          have hji10_ : (if (l0.length : Int) < (l1.length : Int) then (l1.length : Int) else (l0.length : Int)) = ji10 := hji10
          have hji10n : (if l0.length < l1.length then (l1.length : Int) else (l0.length : Int)) = ji10 := by have h_ := hji10_; simp only [Int.ofNat_lt] at h_; exact h_
          replace H := Option.bind_eq_some_iff.mp H
          obtain ⟨t343, A110, H⟩ := H
          replace H : ((vec_Sub.f kj5 t343 l1).bind fun t346 => ((tattingref5_Fit.f kj5 l0 (wrap64 (64 * (ji10)))).bind fun t349 => ((tattingref5_Same.f kj5 t346 t349).bind fun t352 => (if t352 = true then ((vec_Add.f kj5 l0 l1).bind fun t353 => ((vec_Add.f kj5 l1 l0).bind fun t356 => ((tattingref5_Same.f kj5 t353 t356).bind fun t359 => (if t359 = true then ((vec_Not.f kj5 l0 (Int.tmod (wrap64 (a2)) 400)).bind fun t360 => ((vec_Not.f kj5 t360 (Int.tmod (wrap64 (a2)) 400)).bind fun t363 => ((vec_Fit.f kj5 l0 (Int.tmod (wrap64 (a2)) 400)).bind fun t366 => ((tattingref5_Same.f kj5 t363 t366).bind fun t369 => (if t369 = true then ((vec_Count.f kj5 l0 (Int.tmod (wrap64 (a2)) 400)).bind fun t370 => ((vec_Not.f kj5 l0 (Int.tmod (wrap64 (a2)) 400)).bind fun t371 => ((vec_Count.f kj5 t371 (Int.tmod (wrap64 (a2)) 400)).bind fun t374 => (some ((wrap64 (t370 + t374)) == (Int.tmod (wrap64 (a2)) 400)))))) else (some false)))))) else (some false))))) else (some false))))) = some true := H
          have A11 := Aside0.mk A110
          clear A110
          replace H := Option.bind_eq_some_iff.mp H
          obtain ⟨t346, A120, H⟩ := H
          replace H : ((tattingref5_Fit.f kj5 l0 (wrap64 (64 * (ji10)))).bind fun t349 => ((tattingref5_Same.f kj5 t346 t349).bind fun t352 => (if t352 = true then ((vec_Add.f kj5 l0 l1).bind fun t353 => ((vec_Add.f kj5 l1 l0).bind fun t356 => ((tattingref5_Same.f kj5 t353 t356).bind fun t359 => (if t359 = true then ((vec_Not.f kj5 l0 (Int.tmod (wrap64 (a2)) 400)).bind fun t360 => ((vec_Not.f kj5 t360 (Int.tmod (wrap64 (a2)) 400)).bind fun t363 => ((vec_Fit.f kj5 l0 (Int.tmod (wrap64 (a2)) 400)).bind fun t366 => ((tattingref5_Same.f kj5 t363 t366).bind fun t369 => (if t369 = true then ((vec_Count.f kj5 l0 (Int.tmod (wrap64 (a2)) 400)).bind fun t370 => ((vec_Not.f kj5 l0 (Int.tmod (wrap64 (a2)) 400)).bind fun t371 => ((vec_Count.f kj5 t371 (Int.tmod (wrap64 (a2)) 400)).bind fun t374 => (some ((wrap64 (t370 + t374)) == (Int.tmod (wrap64 (a2)) 400)))))) else (some false)))))) else (some false))))) else (some false)))) = some true := H
          have A12 := Aside0.mk A120
          clear A120
          replace H := Option.bind_eq_some_iff.mp H
          obtain ⟨t349, A130, H⟩ := H
          replace H : ((tattingref5_Same.f kj5 t346 t349).bind fun t352 => (if t352 = true then ((vec_Add.f kj5 l0 l1).bind fun t353 => ((vec_Add.f kj5 l1 l0).bind fun t356 => ((tattingref5_Same.f kj5 t353 t356).bind fun t359 => (if t359 = true then ((vec_Not.f kj5 l0 (Int.tmod (wrap64 (a2)) 400)).bind fun t360 => ((vec_Not.f kj5 t360 (Int.tmod (wrap64 (a2)) 400)).bind fun t363 => ((vec_Fit.f kj5 l0 (Int.tmod (wrap64 (a2)) 400)).bind fun t366 => ((tattingref5_Same.f kj5 t363 t366).bind fun t369 => (if t369 = true then ((vec_Count.f kj5 l0 (Int.tmod (wrap64 (a2)) 400)).bind fun t370 => ((vec_Not.f kj5 l0 (Int.tmod (wrap64 (a2)) 400)).bind fun t371 => ((vec_Count.f kj5 t371 (Int.tmod (wrap64 (a2)) 400)).bind fun t374 => (some ((wrap64 (t370 + t374)) == (Int.tmod (wrap64 (a2)) 400)))))) else (some false)))))) else (some false))))) else (some false))) = some true := H
          have A13 := Aside0.mk A130
          clear A130
          replace H := Option.bind_eq_some_iff.mp H
          obtain ⟨t352, A140, H⟩ := H
          replace H : (if t352 = true then ((vec_Add.f kj5 l0 l1).bind fun t353 => ((vec_Add.f kj5 l1 l0).bind fun t356 => ((tattingref5_Same.f kj5 t353 t356).bind fun t359 => (if t359 = true then ((vec_Not.f kj5 l0 (Int.tmod (wrap64 (a2)) 400)).bind fun t360 => ((vec_Not.f kj5 t360 (Int.tmod (wrap64 (a2)) 400)).bind fun t363 => ((vec_Fit.f kj5 l0 (Int.tmod (wrap64 (a2)) 400)).bind fun t366 => ((tattingref5_Same.f kj5 t363 t366).bind fun t369 => (if t369 = true then ((vec_Count.f kj5 l0 (Int.tmod (wrap64 (a2)) 400)).bind fun t370 => ((vec_Not.f kj5 l0 (Int.tmod (wrap64 (a2)) 400)).bind fun t371 => ((vec_Count.f kj5 t371 (Int.tmod (wrap64 (a2)) 400)).bind fun t374 => (some ((wrap64 (t370 + t374)) == (Int.tmod (wrap64 (a2)) 400)))))) else (some false)))))) else (some false))))) else (some false)) = some true := H
          have A14 := Aside0.mk A140
          clear A140
          by_cases c15 : t352 = true
          · subst c15
            have H1 : ((vec_Add.f kj5 l0 l1).bind fun t353 => ((vec_Add.f kj5 l1 l0).bind fun t356 => ((tattingref5_Same.f kj5 t353 t356).bind fun t359 => (if t359 = true then ((vec_Not.f kj5 l0 (Int.tmod (wrap64 (a2)) 400)).bind fun t360 => ((vec_Not.f kj5 t360 (Int.tmod (wrap64 (a2)) 400)).bind fun t363 => ((vec_Fit.f kj5 l0 (Int.tmod (wrap64 (a2)) 400)).bind fun t366 => ((tattingref5_Same.f kj5 t363 t366).bind fun t369 => (if t369 = true then ((vec_Count.f kj5 l0 (Int.tmod (wrap64 (a2)) 400)).bind fun t370 => ((vec_Not.f kj5 l0 (Int.tmod (wrap64 (a2)) 400)).bind fun t371 => ((vec_Count.f kj5 t371 (Int.tmod (wrap64 (a2)) 400)).bind fun t374 => (some ((wrap64 (t370 + t374)) == (Int.tmod (wrap64 (a2)) 400)))))) else (some false)))))) else (some false))))) = some true := by rw [if_pos rfl] at H; first | done | exact H
            clear H
            have H := H1
            clear H1
            replace H := Option.bind_eq_some_iff.mp H
            obtain ⟨t353, A160, H⟩ := H
            replace H : ((vec_Add.f kj5 l1 l0).bind fun t356 => ((tattingref5_Same.f kj5 t353 t356).bind fun t359 => (if t359 = true then ((vec_Not.f kj5 l0 (Int.tmod (wrap64 (a2)) 400)).bind fun t360 => ((vec_Not.f kj5 t360 (Int.tmod (wrap64 (a2)) 400)).bind fun t363 => ((vec_Fit.f kj5 l0 (Int.tmod (wrap64 (a2)) 400)).bind fun t366 => ((tattingref5_Same.f kj5 t363 t366).bind fun t369 => (if t369 = true then ((vec_Count.f kj5 l0 (Int.tmod (wrap64 (a2)) 400)).bind fun t370 => ((vec_Not.f kj5 l0 (Int.tmod (wrap64 (a2)) 400)).bind fun t371 => ((vec_Count.f kj5 t371 (Int.tmod (wrap64 (a2)) 400)).bind fun t374 => (some ((wrap64 (t370 + t374)) == (Int.tmod (wrap64 (a2)) 400)))))) else (some false)))))) else (some false)))) = some true := H
            have A16 := Aside0.mk A160
            clear A160
            replace H := Option.bind_eq_some_iff.mp H
            obtain ⟨t356, A170, H⟩ := H
            replace H : ((tattingref5_Same.f kj5 t353 t356).bind fun t359 => (if t359 = true then ((vec_Not.f kj5 l0 (Int.tmod (wrap64 (a2)) 400)).bind fun t360 => ((vec_Not.f kj5 t360 (Int.tmod (wrap64 (a2)) 400)).bind fun t363 => ((vec_Fit.f kj5 l0 (Int.tmod (wrap64 (a2)) 400)).bind fun t366 => ((tattingref5_Same.f kj5 t363 t366).bind fun t369 => (if t369 = true then ((vec_Count.f kj5 l0 (Int.tmod (wrap64 (a2)) 400)).bind fun t370 => ((vec_Not.f kj5 l0 (Int.tmod (wrap64 (a2)) 400)).bind fun t371 => ((vec_Count.f kj5 t371 (Int.tmod (wrap64 (a2)) 400)).bind fun t374 => (some ((wrap64 (t370 + t374)) == (Int.tmod (wrap64 (a2)) 400)))))) else (some false)))))) else (some false))) = some true := H
            have A17 := Aside0.mk A170
            clear A170
            replace H := Option.bind_eq_some_iff.mp H
            obtain ⟨t359, A180, H⟩ := H
            replace H : (if t359 = true then ((vec_Not.f kj5 l0 (Int.tmod (wrap64 (a2)) 400)).bind fun t360 => ((vec_Not.f kj5 t360 (Int.tmod (wrap64 (a2)) 400)).bind fun t363 => ((vec_Fit.f kj5 l0 (Int.tmod (wrap64 (a2)) 400)).bind fun t366 => ((tattingref5_Same.f kj5 t363 t366).bind fun t369 => (if t369 = true then ((vec_Count.f kj5 l0 (Int.tmod (wrap64 (a2)) 400)).bind fun t370 => ((vec_Not.f kj5 l0 (Int.tmod (wrap64 (a2)) 400)).bind fun t371 => ((vec_Count.f kj5 t371 (Int.tmod (wrap64 (a2)) 400)).bind fun t374 => (some ((wrap64 (t370 + t374)) == (Int.tmod (wrap64 (a2)) 400)))))) else (some false)))))) else (some false)) = some true := H
            have A18 := Aside0.mk A180
            clear A180
            by_cases c19 : t359 = true
            · subst c19
              have H1 : ((vec_Not.f kj5 l0 (Int.tmod (wrap64 (a2)) 400)).bind fun t360 => ((vec_Not.f kj5 t360 (Int.tmod (wrap64 (a2)) 400)).bind fun t363 => ((vec_Fit.f kj5 l0 (Int.tmod (wrap64 (a2)) 400)).bind fun t366 => ((tattingref5_Same.f kj5 t363 t366).bind fun t369 => (if t369 = true then ((vec_Count.f kj5 l0 (Int.tmod (wrap64 (a2)) 400)).bind fun t370 => ((vec_Not.f kj5 l0 (Int.tmod (wrap64 (a2)) 400)).bind fun t371 => ((vec_Count.f kj5 t371 (Int.tmod (wrap64 (a2)) 400)).bind fun t374 => (some ((wrap64 (t370 + t374)) == (Int.tmod (wrap64 (a2)) 400)))))) else (some false)))))) = some true := by rw [if_pos rfl] at H; first | done | exact H
              clear H
              have H := H1
              clear H1
              replace H := Option.bind_eq_some_iff.mp H
              obtain ⟨t360, A200, H⟩ := H
              replace H : ((vec_Not.f kj5 t360 (Int.tmod (wrap64 (a2)) 400)).bind fun t363 => ((vec_Fit.f kj5 l0 (Int.tmod (wrap64 (a2)) 400)).bind fun t366 => ((tattingref5_Same.f kj5 t363 t366).bind fun t369 => (if t369 = true then ((vec_Count.f kj5 l0 (Int.tmod (wrap64 (a2)) 400)).bind fun t370 => ((vec_Not.f kj5 l0 (Int.tmod (wrap64 (a2)) 400)).bind fun t371 => ((vec_Count.f kj5 t371 (Int.tmod (wrap64 (a2)) 400)).bind fun t374 => (some ((wrap64 (t370 + t374)) == (Int.tmod (wrap64 (a2)) 400)))))) else (some false))))) = some true := H
              have A20 := Aside0.mk A200
              clear A200
              replace H := Option.bind_eq_some_iff.mp H
              obtain ⟨t363, A210, H⟩ := H
              replace H : ((vec_Fit.f kj5 l0 (Int.tmod (wrap64 (a2)) 400)).bind fun t366 => ((tattingref5_Same.f kj5 t363 t366).bind fun t369 => (if t369 = true then ((vec_Count.f kj5 l0 (Int.tmod (wrap64 (a2)) 400)).bind fun t370 => ((vec_Not.f kj5 l0 (Int.tmod (wrap64 (a2)) 400)).bind fun t371 => ((vec_Count.f kj5 t371 (Int.tmod (wrap64 (a2)) 400)).bind fun t374 => (some ((wrap64 (t370 + t374)) == (Int.tmod (wrap64 (a2)) 400)))))) else (some false)))) = some true := H
              have A21 := Aside0.mk A210
              clear A210
              replace H := Option.bind_eq_some_iff.mp H
              obtain ⟨t366, A220, H⟩ := H
              replace H : ((tattingref5_Same.f kj5 t363 t366).bind fun t369 => (if t369 = true then ((vec_Count.f kj5 l0 (Int.tmod (wrap64 (a2)) 400)).bind fun t370 => ((vec_Not.f kj5 l0 (Int.tmod (wrap64 (a2)) 400)).bind fun t371 => ((vec_Count.f kj5 t371 (Int.tmod (wrap64 (a2)) 400)).bind fun t374 => (some ((wrap64 (t370 + t374)) == (Int.tmod (wrap64 (a2)) 400)))))) else (some false))) = some true := H
              have A22 := Aside0.mk A220
              clear A220
              replace H := Option.bind_eq_some_iff.mp H
              obtain ⟨t369, A230, H⟩ := H
              replace H : (if t369 = true then ((vec_Count.f kj5 l0 (Int.tmod (wrap64 (a2)) 400)).bind fun t370 => ((vec_Not.f kj5 l0 (Int.tmod (wrap64 (a2)) 400)).bind fun t371 => ((vec_Count.f kj5 t371 (Int.tmod (wrap64 (a2)) 400)).bind fun t374 => (some ((wrap64 (t370 + t374)) == (Int.tmod (wrap64 (a2)) 400)))))) else (some false)) = some true := H
              have A23 := Aside0.mk A230
              clear A230
              by_cases c24 : t369 = true
              · subst c24
                have H1 : ((vec_Count.f kj5 l0 (Int.tmod (wrap64 (a2)) 400)).bind fun t370 => ((vec_Not.f kj5 l0 (Int.tmod (wrap64 (a2)) 400)).bind fun t371 => ((vec_Count.f kj5 t371 (Int.tmod (wrap64 (a2)) 400)).bind fun t374 => (some ((wrap64 (t370 + t374)) == (Int.tmod (wrap64 (a2)) 400)))))) = some true := by rw [if_pos rfl] at H; first | done | exact H
                clear H
                have H := H1
                clear H1
                replace H := Option.bind_eq_some_iff.mp H
                obtain ⟨t370, A250, H⟩ := H
                replace H : ((vec_Not.f kj5 l0 (Int.tmod (wrap64 (a2)) 400)).bind fun t371 => ((vec_Count.f kj5 t371 (Int.tmod (wrap64 (a2)) 400)).bind fun t374 => (some ((wrap64 (t370 + t374)) == (Int.tmod (wrap64 (a2)) 400))))) = some true := H
                have A25 := Aside0.mk A250
                clear A250
                replace H := Option.bind_eq_some_iff.mp H
                obtain ⟨t371, A260, H⟩ := H
                replace H : ((vec_Count.f kj5 t371 (Int.tmod (wrap64 (a2)) 400)).bind fun t374 => (some ((wrap64 (t370 + t374)) == (Int.tmod (wrap64 (a2)) 400)))) = some true := H
                have A26 := Aside0.mk A260
                clear A260
                replace H := Option.bind_eq_some_iff.mp H
                obtain ⟨t374, A270, H⟩ := H
                replace H : (some ((wrap64 (t370 + t374)) == (Int.tmod (wrap64 (a2)) 400))) = some true := H
                have A27 := Aside0.mk A270
                clear A270
                have hr_ := Option.some.inj H
                clear H
                have tok8_ : True := trivial
                have tok9_ : True := trivial
                have tok10_ : True := trivial
                have tok11_ : True := trivial
                have tok12_ : True := trivial
                have tok13_ : True := trivial
                have tok14_ : True := trivial
                have tok15_ : True := trivial
                have tok16_ : True := trivial
                go_wp2_with (first | ((with_reducible refine gate_callee (f := 11) rfl ?_); refine goesL_ (some 29) rfl rfl Try.func11 (by kernel_rfl) rfl #[.slice A0 l0.length c0, .slice A1 l1.length c1] rfl (by (try simp only [List.map_toArray, List.map_cons, List.map_nil]); first | done | rfl | (simp only [List.length_drop, List.length_take]; rfl)) ?_; (with_reducible refine (vec_Add.calls kj5 _ _ l0 _ _ l1 t343 _ ?side1 ?side2 ?side3 ?side4 A11.out).mono ?_); (case side1 => repeat (first | exact (Kd.C_below HR0.out HB.out) | (with_reducible refine Kd.C_alloc ?_ _) | (with_reducible refine Kd.C_drewN ?_ _) | (with_reducible refine Kd.C_drew ?_))); (case side2 => exact HC0.out); (case side3 => repeat (first | exact (Kd.C_below HR1.out HB.out) | (with_reducible refine Kd.C_alloc ?_ _) | (with_reducible refine Kd.C_drewN ?_ _) | (with_reducible refine Kd.C_drew ?_))); (case side4 => exact HC1.out); rintro e w28 ⟨v344, rfl, ho0, hb⟩; refine ⟨_, rfl, ?_⟩; have n0_ := Aside0.mk (Kd.R_lower ho0 (below_size (by repeat (first | (with_reducible first | exact HB.out | apply below_alloc | apply pw_below_drewN | apply below_drew1) | exact HB.out)))); have n1_ := Aside0.mk (below_step (by repeat (first | (with_reducible first | exact HB.out | apply below_alloc | apply pw_below_drewN | apply below_drew1) | exact HB.out)) hb); clear HB; have HO345 := n0_; have HB := n1_; clear n0_ n1_; (try clear hb); (try clear hb2); (try clear hk); (try clear hi); (try clear ho0); obtain ⟨Ao29, co29, eo29⟩ := Kd.R_slice HO345.out; subst eo29) | ((with_reducible refine gate_callee (f := 13) rfl ?_); refine goesL_ (some 31) rfl rfl Try.func13 (by kernel_rfl) rfl #[.slice Ao29 t343.length co29, .slice A1 l1.length c1] rfl (by (try simp only [List.map_toArray, List.map_cons, List.map_nil]); first | done | rfl | (simp only [List.length_drop, List.length_take]; rfl)) ?_; (with_reducible refine (vec_Sub.calls kj5 _ _ t343 _ _ l1 t346 _ ?side1 ?side2 ?side3 ?side4 A12.out).mono ?_); (case side1 => repeat (first | exact (Kd.R_reads' HO345.out).2.2 | (with_reducible refine Kd.C_alloc ?_ _) | (with_reducible refine Kd.C_drewN ?_ _) | (with_reducible refine Kd.C_drew ?_))); (case side2 => exact (Kd.R_reads' HO345.out).2.1); (case side3 => repeat (first | exact (Kd.C_below HR1.out HB.out) | (with_reducible refine Kd.C_alloc ?_ _) | (with_reducible refine Kd.C_drewN ?_ _) | (with_reducible refine Kd.C_drew ?_))); (case side4 => exact HC1.out); rintro e w30 ⟨v347, rfl, ho0, hb⟩; refine ⟨_, rfl, ?_⟩; have n0_ := Aside0.mk (Kd.R_elder' (by (with_reducible repeat (first | apply Kd.R_alloc | apply Kd.R_drewN | apply Kd.R_drew)); exact HO345.out) (Kd.R_base ho0) hb); have n1_ := Aside0.mk (Kd.R_lower (Kd.R_new' ho0 (Kd.R_lt (by (with_reducible repeat (first | apply Kd.R_alloc | apply Kd.R_drewN | apply Kd.R_drew)); exact HO345.out))) (below_size (by repeat (first | (with_reducible first | exact HB.out | apply below_alloc | apply pw_below_drewN | apply below_drew1) | exact HB.out)))); have n2_ := Aside0.mk (below_step (by repeat (first | (with_reducible first | exact HB.out | apply below_alloc | apply pw_below_drewN | apply below_drew1) | exact HB.out)) hb); clear HO345; clear HB; have HO345 := n0_; have HO348 := n1_; have HB := n2_; clear n0_ n1_ n2_; (try clear hb); (try clear hb2); (try clear hk); (try clear hi); (try clear ho0)) | ((with_reducible refine gate_callee (f := 27) rfl ?_); refine goesL_ (some 35) rfl rfl Try.func27 (by kernel_rfl) rfl #[.slice A0 l0.length c0, .int .i64 (wrap64 (64 * (ji10)))] rfl (by (try simp only [List.map_toArray, List.map_cons, List.map_nil]); first | done | (simp only [hji10]; rfl) | rfl | (simp only [List.length_drop, List.length_take]; rfl)) ?_; (with_reducible refine (tattingref5_Fit.calls kj5 _ _ l0 (wrap64 (64 * (ji10))) t349 _ ?side1 ?side2 A13.out).mono ?_); (case side1 => repeat (first | exact (Kd.C_below HR0.out HB.out) | (with_reducible refine Kd.C_alloc ?_ _) | (with_reducible refine Kd.C_drewN ?_ _) | (with_reducible refine Kd.C_drew ?_))); (case side2 => exact HC0.out); rintro e w31 ⟨v350, rfl, ho0, hb⟩; refine ⟨_, rfl, ?_⟩; have n0_ := Aside0.mk (Kd.R_elder' (by (with_reducible repeat (first | apply Kd.R_alloc | apply Kd.R_drewN | apply Kd.R_drew)); exact HO345.out) (Kd.R_base ho0) hb); have n1_ := Aside0.mk (Kd.R_elder' (by (with_reducible repeat (first | apply Kd.R_alloc | apply Kd.R_drewN | apply Kd.R_drew)); exact HO348.out) (Kd.R_base ho0) hb); have n2_ := Aside0.mk (Kd.R_lower (Kd.R_new' (Kd.R_new' ho0 (Kd.R_lt (by (with_reducible repeat (first | apply Kd.R_alloc | apply Kd.R_drewN | apply Kd.R_drew)); exact HO345.out))) (Kd.R_lt (by (with_reducible repeat (first | apply Kd.R_alloc | apply Kd.R_drewN | apply Kd.R_drew)); exact HO348.out))) (below_size (by repeat (first | (with_reducible first | exact HB.out | apply below_alloc | apply pw_below_drewN | apply below_drew1) | exact HB.out)))); have n3_ := Aside0.mk (below_step (by repeat (first | (with_reducible first | exact HB.out | apply below_alloc | apply pw_below_drewN | apply below_drew1) | exact HB.out)) hb); clear HO345; clear HO348; clear HB; have HO345 := n0_; have HO348 := n1_; have HO351 := n2_; have HB := n3_; clear n0_ n1_ n2_ n3_; (try clear hb); (try clear hb2); (try clear hk); (try clear hi); (try clear ho0); obtain ⟨Ao32, co32, eo32⟩ := Kd.R_slice HO348.out; subst eo32; obtain ⟨Ao33, co33, eo33⟩ := Kd.R_slice HO351.out; subst eo33) | ((with_reducible refine gate_callee (f := 10) rfl ?_); refine goesL_ (some 36) rfl rfl Try.func10 (by kernel_rfl) rfl #[.slice Ao32 t346.length co32, .slice Ao33 t349.length co33] rfl (by (try simp only [List.map_toArray, List.map_cons, List.map_nil]); first | done | rfl | (simp only [List.length_drop, List.length_take]; rfl)) ?_; (with_reducible refine (tattingref5_Same.calls kj5 _ _ t346 _ _ t349 true _ ?side1 ?side2 ?side3 ?side4 A14.out).mono ?_); (case side1 => repeat (first | exact (Kd.R_reads' HO348.out).2.2 | (with_reducible refine Kd.C_alloc ?_ _) | (with_reducible refine Kd.C_drewN ?_ _) | (with_reducible refine Kd.C_drew ?_))); (case side2 => exact (Kd.R_reads' HO348.out).2.1); (case side3 => repeat (first | exact (Kd.R_reads' HO351.out).2.2 | (with_reducible refine Kd.C_alloc ?_ _) | (with_reducible refine Kd.C_drewN ?_ _) | (with_reducible refine Kd.C_drew ?_))); (case side4 => exact (Kd.R_reads' HO351.out).2.1); rintro e w' ⟨rfl, ⟨nd, rfl⟩⟩; refine ⟨_, rfl, ?_⟩) | (go_at_call 11; have t_ := tok8_; (with_reducible refine (vec_Add.calls kj5 _ _ l0 _ _ l1 t353 _ ?side1 ?side2 ?side3 ?side4 A16.out).mono ?_); (case side1 => repeat (first | exact (Kd.C_below HR0.out (by repeat (first | (with_reducible first | exact HB.out | apply below_alloc | apply pw_below_drewN | apply below_drew1) | exact HB.out))) | (with_reducible refine Kd.C_alloc ?_ _) | (with_reducible refine Kd.C_drewN ?_ _) | (with_reducible refine Kd.C_drew ?_))); (case side2 => exact HC0.out); (case side3 => repeat (first | exact (Kd.C_below HR1.out (by repeat (first | (with_reducible first | exact HB.out | apply below_alloc | apply pw_below_drewN | apply below_drew1) | exact HB.out))) | (with_reducible refine Kd.C_alloc ?_ _) | (with_reducible refine Kd.C_drewN ?_ _) | (with_reducible refine Kd.C_drew ?_))); (case side4 => exact HC1.out); rintro e w34 ⟨v354, rfl, ho0, hb⟩; have n0_ := Aside0.mk (Kd.R_elder' (by (with_reducible repeat (first | apply Kd.R_alloc | apply Kd.R_drewN | apply Kd.R_drew)); exact HO345.out) (Kd.R_base ho0) hb); have n1_ := Aside0.mk (Kd.R_elder' (by (with_reducible repeat (first | apply Kd.R_alloc | apply Kd.R_drewN | apply Kd.R_drew)); exact HO348.out) (Kd.R_base ho0) hb); have n2_ := Aside0.mk (Kd.R_elder' (by (with_reducible repeat (first | apply Kd.R_alloc | apply Kd.R_drewN | apply Kd.R_drew)); exact HO351.out) (Kd.R_base ho0) hb); have n3_ := Aside0.mk (Kd.R_lower (Kd.R_new' (Kd.R_new' (Kd.R_new' ho0 (Kd.R_lt (by (with_reducible repeat (first | apply Kd.R_alloc | apply Kd.R_drewN | apply Kd.R_drew)); exact HO345.out))) (Kd.R_lt (by (with_reducible repeat (first | apply Kd.R_alloc | apply Kd.R_drewN | apply Kd.R_drew)); exact HO348.out))) (Kd.R_lt (by (with_reducible repeat (first | apply Kd.R_alloc | apply Kd.R_drewN | apply Kd.R_drew)); exact HO351.out))) (below_size (by repeat (first | (with_reducible first | exact HB.out | apply below_alloc | apply pw_below_drewN | apply below_drew1) | exact HB.out)))); have n4_ := Aside0.mk (below_step (by repeat (first | (with_reducible first | exact HB.out | apply below_alloc | apply pw_below_drewN | apply below_drew1) | exact HB.out)) hb); clear HO345; clear HO348; clear HO351; clear HB; have HO345 := n0_; have HO348 := n1_; have HO351 := n2_; have HO355 := n3_; have HB := n4_; clear n0_ n1_ n2_ n3_ n4_; (try clear hb); (try clear hb2); (try clear hk); (try clear hi); (try clear ho0); clear t_ tok8_) | (go_at_call 11; have t_ := tok9_; (with_reducible refine (vec_Add.calls kj5 _ _ l1 _ _ l0 t356 _ ?side1 ?side2 ?side3 ?side4 A17.out).mono ?_); (case side1 => repeat (first | exact (Kd.C_below HR1.out HB.out) | (with_reducible refine Kd.C_alloc ?_ _) | (with_reducible refine Kd.C_drewN ?_ _) | (with_reducible refine Kd.C_drew ?_))); (case side2 => exact HC1.out); (case side3 => repeat (first | exact (Kd.C_below HR0.out HB.out) | (with_reducible refine Kd.C_alloc ?_ _) | (with_reducible refine Kd.C_drewN ?_ _) | (with_reducible refine Kd.C_drew ?_))); (case side4 => exact HC0.out); rintro e w35 ⟨v357, rfl, ho0, hb⟩; have n0_ := Aside0.mk (Kd.R_elder' (by (with_reducible repeat (first | apply Kd.R_alloc | apply Kd.R_drewN | apply Kd.R_drew)); exact HO345.out) (Kd.R_base ho0) hb); have n1_ := Aside0.mk (Kd.R_elder' (by (with_reducible repeat (first | apply Kd.R_alloc | apply Kd.R_drewN | apply Kd.R_drew)); exact HO348.out) (Kd.R_base ho0) hb); have n2_ := Aside0.mk (Kd.R_elder' (by (with_reducible repeat (first | apply Kd.R_alloc | apply Kd.R_drewN | apply Kd.R_drew)); exact HO351.out) (Kd.R_base ho0) hb); have n3_ := Aside0.mk (Kd.R_elder' (by (with_reducible repeat (first | apply Kd.R_alloc | apply Kd.R_drewN | apply Kd.R_drew)); exact HO355.out) (Kd.R_base ho0) hb); have n4_ := Aside0.mk (Kd.R_lower (Kd.R_new' (Kd.R_new' (Kd.R_new' (Kd.R_new' ho0 (Kd.R_lt (by (with_reducible repeat (first | apply Kd.R_alloc | apply Kd.R_drewN | apply Kd.R_drew)); exact HO345.out))) (Kd.R_lt (by (with_reducible repeat (first | apply Kd.R_alloc | apply Kd.R_drewN | apply Kd.R_drew)); exact HO348.out))) (Kd.R_lt (by (with_reducible repeat (first | apply Kd.R_alloc | apply Kd.R_drewN | apply Kd.R_drew)); exact HO351.out))) (Kd.R_lt (by (with_reducible repeat (first | apply Kd.R_alloc | apply Kd.R_drewN | apply Kd.R_drew)); exact HO355.out))) (below_size (by repeat (first | (with_reducible first | exact HB.out | apply below_alloc | apply pw_below_drewN | apply below_drew1) | exact HB.out)))); have n5_ := Aside0.mk (below_step (by repeat (first | (with_reducible first | exact HB.out | apply below_alloc | apply pw_below_drewN | apply below_drew1) | exact HB.out)) hb); clear HO345; clear HO348; clear HO351; clear HO355; clear HB; have HO345 := n0_; have HO348 := n1_; have HO351 := n2_; have HO355 := n3_; have HO358 := n4_; have HB := n5_; clear n0_ n1_ n2_ n3_ n4_ n5_; (try clear hb); (try clear hb2); (try clear hk); (try clear hi); (try clear ho0); obtain ⟨Ao36, co36, eo36⟩ := Kd.R_slice HO355.out; subst eo36; obtain ⟨Ao37, co37, eo37⟩ := Kd.R_slice HO358.out; subst eo37; clear t_ tok9_) | (go_at_call 10; have t_ := tok10_; (with_reducible refine (tattingref5_Same.calls kj5 _ _ t353 _ _ t356 true _ ?side1 ?side2 ?side3 ?side4 A18.out).mono ?_); (case side1 => repeat (first | exact (Kd.R_reads' HO355.out).2.2 | (with_reducible refine Kd.C_alloc ?_ _) | (with_reducible refine Kd.C_drewN ?_ _) | (with_reducible refine Kd.C_drew ?_))); (case side2 => exact (Kd.R_reads' HO355.out).2.1); (case side3 => repeat (first | exact (Kd.R_reads' HO358.out).2.2 | (with_reducible refine Kd.C_alloc ?_ _) | (with_reducible refine Kd.C_drewN ?_ _) | (with_reducible refine Kd.C_drew ?_))); (case side4 => exact (Kd.R_reads' HO358.out).2.1); rintro e w' ⟨rfl, ⟨nd, rfl⟩⟩; clear t_ tok10_) | (go_at_call 28; have t_ := tok11_; (with_reducible refine (vec_Not.calls kj5 _ _ l0 (Int.tmod (wrap64 (a2)) 400) t360 _ ?side1 ?side2 A20.out).mono ?_); (case side1 => repeat (first | exact (Kd.C_below HR0.out (by repeat (first | (with_reducible first | exact HB.out | apply below_alloc | apply pw_below_drewN | apply below_drew1) | exact HB.out))) | (with_reducible refine Kd.C_alloc ?_ _) | (with_reducible refine Kd.C_drewN ?_ _) | (with_reducible refine Kd.C_drew ?_))); (case side2 => exact HC0.out); rintro e w38 ⟨v361, rfl, ho0, hb⟩; have n0_ := Aside0.mk (Kd.R_elder' (by (with_reducible repeat (first | apply Kd.R_alloc | apply Kd.R_drewN | apply Kd.R_drew)); exact HO345.out) (Kd.R_base ho0) hb); have n1_ := Aside0.mk (Kd.R_elder' (by (with_reducible repeat (first | apply Kd.R_alloc | apply Kd.R_drewN | apply Kd.R_drew)); exact HO348.out) (Kd.R_base ho0) hb); have n2_ := Aside0.mk (Kd.R_elder' (by (with_reducible repeat (first | apply Kd.R_alloc | apply Kd.R_drewN | apply Kd.R_drew)); exact HO351.out) (Kd.R_base ho0) hb); have n3_ := Aside0.mk (Kd.R_elder' (by (with_reducible repeat (first | apply Kd.R_alloc | apply Kd.R_drewN | apply Kd.R_drew)); exact HO355.out) (Kd.R_base ho0) hb); have n4_ := Aside0.mk (Kd.R_elder' (by (with_reducible repeat (first | apply Kd.R_alloc | apply Kd.R_drewN | apply Kd.R_drew)); exact HO358.out) (Kd.R_base ho0) hb); have n5_ := Aside0.mk (Kd.R_lower (Kd.R_new' (Kd.R_new' (Kd.R_new' (Kd.R_new' (Kd.R_new' ho0 (Kd.R_lt (by (with_reducible repeat (first | apply Kd.R_alloc | apply Kd.R_drewN | apply Kd.R_drew)); exact HO345.out))) (Kd.R_lt (by (with_reducible repeat (first | apply Kd.R_alloc | apply Kd.R_drewN | apply Kd.R_drew)); exact HO348.out))) (Kd.R_lt (by (with_reducible repeat (first | apply Kd.R_alloc | apply Kd.R_drewN | apply Kd.R_drew)); exact HO351.out))) (Kd.R_lt (by (with_reducible repeat (first | apply Kd.R_alloc | apply Kd.R_drewN | apply Kd.R_drew)); exact HO355.out))) (Kd.R_lt (by (with_reducible repeat (first | apply Kd.R_alloc | apply Kd.R_drewN | apply Kd.R_drew)); exact HO358.out))) (below_size (by repeat (first | (with_reducible first | exact HB.out | apply below_alloc | apply pw_below_drewN | apply below_drew1) | exact HB.out)))); have n6_ := Aside0.mk (below_step (by repeat (first | (with_reducible first | exact HB.out | apply below_alloc | apply pw_below_drewN | apply below_drew1) | exact HB.out)) hb); clear HO345; clear HO348; clear HO351; clear HO355; clear HO358; clear HB; have HO345 := n0_; have HO348 := n1_; have HO351 := n2_; have HO355 := n3_; have HO358 := n4_; have HO362 := n5_; have HB := n6_; clear n0_ n1_ n2_ n3_ n4_ n5_ n6_; (try clear hb); (try clear hb2); (try clear hk); (try clear hi); (try clear ho0); obtain ⟨Ao39, co39, eo39⟩ := Kd.R_slice HO362.out; subst eo39; clear t_ tok11_) | (go_at_call 28; have t_ := tok12_; (with_reducible refine (vec_Not.calls kj5 _ _ t360 (Int.tmod (wrap64 (a2)) 400) t363 _ ?side1 ?side2 A21.out).mono ?_); (case side1 => repeat (first | exact (Kd.R_reads' HO362.out).2.2 | (with_reducible refine Kd.C_alloc ?_ _) | (with_reducible refine Kd.C_drewN ?_ _) | (with_reducible refine Kd.C_drew ?_))); (case side2 => exact (Kd.R_reads' HO362.out).2.1); rintro e w40 ⟨v364, rfl, ho0, hb⟩; have n0_ := Aside0.mk (Kd.R_elder' (by (with_reducible repeat (first | apply Kd.R_alloc | apply Kd.R_drewN | apply Kd.R_drew)); exact HO345.out) (Kd.R_base ho0) hb); have n1_ := Aside0.mk (Kd.R_elder' (by (with_reducible repeat (first | apply Kd.R_alloc | apply Kd.R_drewN | apply Kd.R_drew)); exact HO348.out) (Kd.R_base ho0) hb); have n2_ := Aside0.mk (Kd.R_elder' (by (with_reducible repeat (first | apply Kd.R_alloc | apply Kd.R_drewN | apply Kd.R_drew)); exact HO351.out) (Kd.R_base ho0) hb); have n3_ := Aside0.mk (Kd.R_elder' (by (with_reducible repeat (first | apply Kd.R_alloc | apply Kd.R_drewN | apply Kd.R_drew)); exact HO355.out) (Kd.R_base ho0) hb); have n4_ := Aside0.mk (Kd.R_elder' (by (with_reducible repeat (first | apply Kd.R_alloc | apply Kd.R_drewN | apply Kd.R_drew)); exact HO358.out) (Kd.R_base ho0) hb); have n5_ := Aside0.mk (Kd.R_elder' (by (with_reducible repeat (first | apply Kd.R_alloc | apply Kd.R_drewN | apply Kd.R_drew)); exact HO362.out) (Kd.R_base ho0) hb); have n6_ := Aside0.mk (Kd.R_lower (Kd.R_new' (Kd.R_new' (Kd.R_new' (Kd.R_new' (Kd.R_new' (Kd.R_new' ho0 (Kd.R_lt (by (with_reducible repeat (first | apply Kd.R_alloc | apply Kd.R_drewN | apply Kd.R_drew)); exact HO345.out))) (Kd.R_lt (by (with_reducible repeat (first | apply Kd.R_alloc | apply Kd.R_drewN | apply Kd.R_drew)); exact HO348.out))) (Kd.R_lt (by (with_reducible repeat (first | apply Kd.R_alloc | apply Kd.R_drewN | apply Kd.R_drew)); exact HO351.out))) (Kd.R_lt (by (with_reducible repeat (first | apply Kd.R_alloc | apply Kd.R_drewN | apply Kd.R_drew)); exact HO355.out))) (Kd.R_lt (by (with_reducible repeat (first | apply Kd.R_alloc | apply Kd.R_drewN | apply Kd.R_drew)); exact HO358.out))) (Kd.R_lt (by (with_reducible repeat (first | apply Kd.R_alloc | apply Kd.R_drewN | apply Kd.R_drew)); exact HO362.out))) (below_size (by repeat (first | (with_reducible first | exact HB.out | apply below_alloc | apply pw_below_drewN | apply below_drew1) | exact HB.out)))); have n7_ := Aside0.mk (below_step (by repeat (first | (with_reducible first | exact HB.out | apply below_alloc | apply pw_below_drewN | apply below_drew1) | exact HB.out)) hb); clear HO345; clear HO348; clear HO351; clear HO355; clear HO358; clear HO362; clear HB; have HO345 := n0_; have HO348 := n1_; have HO351 := n2_; have HO355 := n3_; have HO358 := n4_; have HO362 := n5_; have HO365 := n6_; have HB := n7_; clear n0_ n1_ n2_ n3_ n4_ n5_ n6_ n7_; (try clear hb); (try clear hb2); (try clear hk); (try clear hi); (try clear ho0); clear t_ tok12_) | (go_at_call 26; (with_reducible refine (vec_Fit.calls kj5 _ _ l0 (Int.tmod (wrap64 (a2)) 400) t366 _ ?side1 ?side2 A22.out).mono ?_); (case side1 => repeat (first | exact (Kd.C_below HR0.out HB.out) | (with_reducible refine Kd.C_alloc ?_ _) | (with_reducible refine Kd.C_drewN ?_ _) | (with_reducible refine Kd.C_drew ?_))); (case side2 => exact HC0.out); rintro e w41 ⟨v367, rfl, ho0, hb⟩; have n0_ := Aside0.mk (Kd.R_elder' (by (with_reducible repeat (first | apply Kd.R_alloc | apply Kd.R_drewN | apply Kd.R_drew)); exact HO345.out) (Kd.R_base ho0) hb); have n1_ := Aside0.mk (Kd.R_elder' (by (with_reducible repeat (first | apply Kd.R_alloc | apply Kd.R_drewN | apply Kd.R_drew)); exact HO348.out) (Kd.R_base ho0) hb); have n2_ := Aside0.mk (Kd.R_elder' (by (with_reducible repeat (first | apply Kd.R_alloc | apply Kd.R_drewN | apply Kd.R_drew)); exact HO351.out) (Kd.R_base ho0) hb); have n3_ := Aside0.mk (Kd.R_elder' (by (with_reducible repeat (first | apply Kd.R_alloc | apply Kd.R_drewN | apply Kd.R_drew)); exact HO355.out) (Kd.R_base ho0) hb); have n4_ := Aside0.mk (Kd.R_elder' (by (with_reducible repeat (first | apply Kd.R_alloc | apply Kd.R_drewN | apply Kd.R_drew)); exact HO358.out) (Kd.R_base ho0) hb); have n5_ := Aside0.mk (Kd.R_elder' (by (with_reducible repeat (first | apply Kd.R_alloc | apply Kd.R_drewN | apply Kd.R_drew)); exact HO362.out) (Kd.R_base ho0) hb); have n6_ := Aside0.mk (Kd.R_elder' (by (with_reducible repeat (first | apply Kd.R_alloc | apply Kd.R_drewN | apply Kd.R_drew)); exact HO365.out) (Kd.R_base ho0) hb); have n7_ := Aside0.mk (Kd.R_lower (Kd.R_new' (Kd.R_new' (Kd.R_new' (Kd.R_new' (Kd.R_new' (Kd.R_new' (Kd.R_new' ho0 (Kd.R_lt (by (with_reducible repeat (first | apply Kd.R_alloc | apply Kd.R_drewN | apply Kd.R_drew)); exact HO345.out))) (Kd.R_lt (by (with_reducible repeat (first | apply Kd.R_alloc | apply Kd.R_drewN | apply Kd.R_drew)); exact HO348.out))) (Kd.R_lt (by (with_reducible repeat (first | apply Kd.R_alloc | apply Kd.R_drewN | apply Kd.R_drew)); exact HO351.out))) (Kd.R_lt (by (with_reducible repeat (first | apply Kd.R_alloc | apply Kd.R_drewN | apply Kd.R_drew)); exact HO355.out))) (Kd.R_lt (by (with_reducible repeat (first | apply Kd.R_alloc | apply Kd.R_drewN | apply Kd.R_drew)); exact HO358.out))) (Kd.R_lt (by (with_reducible repeat (first | apply Kd.R_alloc | apply Kd.R_drewN | apply Kd.R_drew)); exact HO362.out))) (Kd.R_lt (by (with_reducible repeat (first | apply Kd.R_alloc | apply Kd.R_drewN | apply Kd.R_drew)); exact HO365.out))) (below_size (by repeat (first | (with_reducible first | exact HB.out | apply below_alloc | apply pw_below_drewN | apply below_drew1) | exact HB.out)))); have n8_ := Aside0.mk (below_step (by repeat (first | (with_reducible first | exact HB.out | apply below_alloc | apply pw_below_drewN | apply below_drew1) | exact HB.out)) hb); clear HO345; clear HO348; clear HO351; clear HO355; clear HO358; clear HO362; clear HO365; clear HB; have HO345 := n0_; have HO348 := n1_; have HO351 := n2_; have HO355 := n3_; have HO358 := n4_; have HO362 := n5_; have HO365 := n6_; have HO368 := n7_; have HB := n8_; clear n0_ n1_ n2_ n3_ n4_ n5_ n6_ n7_ n8_; (try clear hb); (try clear hb2); (try clear hk); (try clear hi); (try clear ho0); obtain ⟨Ao42, co42, eo42⟩ := Kd.R_slice HO365.out; subst eo42; obtain ⟨Ao43, co43, eo43⟩ := Kd.R_slice HO368.out; subst eo43) | (go_at_call 10; have t_ := tok13_; (with_reducible refine (tattingref5_Same.calls kj5 _ _ t363 _ _ t366 true _ ?side1 ?side2 ?side3 ?side4 A23.out).mono ?_); (case side1 => repeat (first | exact (Kd.R_reads' HO365.out).2.2 | (with_reducible refine Kd.C_alloc ?_ _) | (with_reducible refine Kd.C_drewN ?_ _) | (with_reducible refine Kd.C_drew ?_))); (case side2 => exact (Kd.R_reads' HO365.out).2.1); (case side3 => repeat (first | exact (Kd.R_reads' HO368.out).2.2 | (with_reducible refine Kd.C_alloc ?_ _) | (with_reducible refine Kd.C_drewN ?_ _) | (with_reducible refine Kd.C_drew ?_))); (case side4 => exact (Kd.R_reads' HO368.out).2.1); rintro e w' ⟨rfl, ⟨nd, rfl⟩⟩; clear t_ tok13_) | (go_at_call 30; have t_ := tok14_; (with_reducible refine (vec_Count.calls kj5 _ _ l0 (Int.tmod (wrap64 (a2)) 400) t370 _ ?side1 ?side2 A25.out).mono ?_); (case side1 => repeat (first | exact (Kd.C_below HR0.out (by repeat (first | (with_reducible first | exact HB.out | apply below_alloc | apply pw_below_drewN | apply below_drew1) | exact HB.out))) | (with_reducible refine Kd.C_alloc ?_ _) | (with_reducible refine Kd.C_drewN ?_ _) | (with_reducible refine Kd.C_drew ?_))); (case side2 => exact HC0.out); rintro e w44 ⟨rfl, hb⟩; have n0_ := Aside0.mk (Kd.R_below (by (with_reducible repeat (first | apply Kd.R_alloc | apply Kd.R_drewN | apply Kd.R_drew)); exact HO345.out) hb); have n1_ := Aside0.mk (Kd.R_below (by (with_reducible repeat (first | apply Kd.R_alloc | apply Kd.R_drewN | apply Kd.R_drew)); exact HO348.out) hb); have n2_ := Aside0.mk (Kd.R_below (by (with_reducible repeat (first | apply Kd.R_alloc | apply Kd.R_drewN | apply Kd.R_drew)); exact HO351.out) hb); have n3_ := Aside0.mk (Kd.R_below (by (with_reducible repeat (first | apply Kd.R_alloc | apply Kd.R_drewN | apply Kd.R_drew)); exact HO355.out) hb); have n4_ := Aside0.mk (Kd.R_below (by (with_reducible repeat (first | apply Kd.R_alloc | apply Kd.R_drewN | apply Kd.R_drew)); exact HO358.out) hb); have n5_ := Aside0.mk (Kd.R_below (by (with_reducible repeat (first | apply Kd.R_alloc | apply Kd.R_drewN | apply Kd.R_drew)); exact HO362.out) hb); have n6_ := Aside0.mk (Kd.R_below (by (with_reducible repeat (first | apply Kd.R_alloc | apply Kd.R_drewN | apply Kd.R_drew)); exact HO365.out) hb); have n7_ := Aside0.mk (Kd.R_below (by (with_reducible repeat (first | apply Kd.R_alloc | apply Kd.R_drewN | apply Kd.R_drew)); exact HO368.out) hb); have n8_ := Aside0.mk (below_step (by repeat (first | (with_reducible first | exact HB.out | apply below_alloc | apply pw_below_drewN | apply below_drew1) | exact HB.out)) hb); clear HO345; clear HO348; clear HO351; clear HO355; clear HO358; clear HO362; clear HO365; clear HO368; clear HB; have HO345 := n0_; have HO348 := n1_; have HO351 := n2_; have HO355 := n3_; have HO358 := n4_; have HO362 := n5_; have HO365 := n6_; have HO368 := n7_; have HB := n8_; clear n0_ n1_ n2_ n3_ n4_ n5_ n6_ n7_ n8_; (try clear hb); (try clear hb2); (try clear hk); (try clear hi); clear t_ tok14_) | (go_at_call 28; have t_ := tok15_; (with_reducible refine (vec_Not.calls kj5 _ _ l0 (Int.tmod (wrap64 (a2)) 400) t371 _ ?side1 ?side2 A26.out).mono ?_); (case side1 => repeat (first | exact (Kd.C_below HR0.out HB.out) | (with_reducible refine Kd.C_alloc ?_ _) | (with_reducible refine Kd.C_drewN ?_ _) | (with_reducible refine Kd.C_drew ?_))); (case side2 => exact HC0.out); rintro e w45 ⟨v372, rfl, ho0, hb⟩; have n0_ := Aside0.mk (Kd.R_elder' (by (with_reducible repeat (first | apply Kd.R_alloc | apply Kd.R_drewN | apply Kd.R_drew)); exact HO345.out) (Kd.R_base ho0) hb); have n1_ := Aside0.mk (Kd.R_elder' (by (with_reducible repeat (first | apply Kd.R_alloc | apply Kd.R_drewN | apply Kd.R_drew)); exact HO348.out) (Kd.R_base ho0) hb); have n2_ := Aside0.mk (Kd.R_elder' (by (with_reducible repeat (first | apply Kd.R_alloc | apply Kd.R_drewN | apply Kd.R_drew)); exact HO351.out) (Kd.R_base ho0) hb); have n3_ := Aside0.mk (Kd.R_elder' (by (with_reducible repeat (first | apply Kd.R_alloc | apply Kd.R_drewN | apply Kd.R_drew)); exact HO355.out) (Kd.R_base ho0) hb); have n4_ := Aside0.mk (Kd.R_elder' (by (with_reducible repeat (first | apply Kd.R_alloc | apply Kd.R_drewN | apply Kd.R_drew)); exact HO358.out) (Kd.R_base ho0) hb); have n5_ := Aside0.mk (Kd.R_elder' (by (with_reducible repeat (first | apply Kd.R_alloc | apply Kd.R_drewN | apply Kd.R_drew)); exact HO362.out) (Kd.R_base ho0) hb); have n6_ := Aside0.mk (Kd.R_elder' (by (with_reducible repeat (first | apply Kd.R_alloc | apply Kd.R_drewN | apply Kd.R_drew)); exact HO365.out) (Kd.R_base ho0) hb); have n7_ := Aside0.mk (Kd.R_elder' (by (with_reducible repeat (first | apply Kd.R_alloc | apply Kd.R_drewN | apply Kd.R_drew)); exact HO368.out) (Kd.R_base ho0) hb); have n8_ := Aside0.mk (Kd.R_lower (Kd.R_new' (Kd.R_new' (Kd.R_new' (Kd.R_new' (Kd.R_new' (Kd.R_new' (Kd.R_new' (Kd.R_new' ho0 (Kd.R_lt (by (with_reducible repeat (first | apply Kd.R_alloc | apply Kd.R_drewN | apply Kd.R_drew)); exact HO345.out))) (Kd.R_lt (by (with_reducible repeat (first | apply Kd.R_alloc | apply Kd.R_drewN | apply Kd.R_drew)); exact HO348.out))) (Kd.R_lt (by (with_reducible repeat (first | apply Kd.R_alloc | apply Kd.R_drewN | apply Kd.R_drew)); exact HO351.out))) (Kd.R_lt (by (with_reducible repeat (first | apply Kd.R_alloc | apply Kd.R_drewN | apply Kd.R_drew)); exact HO355.out))) (Kd.R_lt (by (with_reducible repeat (first | apply Kd.R_alloc | apply Kd.R_drewN | apply Kd.R_drew)); exact HO358.out))) (Kd.R_lt (by (with_reducible repeat (first | apply Kd.R_alloc | apply Kd.R_drewN | apply Kd.R_drew)); exact HO362.out))) (Kd.R_lt (by (with_reducible repeat (first | apply Kd.R_alloc | apply Kd.R_drewN | apply Kd.R_drew)); exact HO365.out))) (Kd.R_lt (by (with_reducible repeat (first | apply Kd.R_alloc | apply Kd.R_drewN | apply Kd.R_drew)); exact HO368.out))) (below_size (by repeat (first | (with_reducible first | exact HB.out | apply below_alloc | apply pw_below_drewN | apply below_drew1) | exact HB.out)))); have n9_ := Aside0.mk (below_step (by repeat (first | (with_reducible first | exact HB.out | apply below_alloc | apply pw_below_drewN | apply below_drew1) | exact HB.out)) hb); clear HO345; clear HO348; clear HO351; clear HO355; clear HO358; clear HO362; clear HO365; clear HO368; clear HB; have HO345 := n0_; have HO348 := n1_; have HO351 := n2_; have HO355 := n3_; have HO358 := n4_; have HO362 := n5_; have HO365 := n6_; have HO368 := n7_; have HO373 := n8_; have HB := n9_; clear n0_ n1_ n2_ n3_ n4_ n5_ n6_ n7_ n8_ n9_; (try clear hb); (try clear hb2); (try clear hk); (try clear hi); (try clear ho0); obtain ⟨Ao46, co46, eo46⟩ := Kd.R_slice HO373.out; subst eo46; clear t_ tok15_) | (go_at_call 30; have t_ := tok16_; (with_reducible refine (vec_Count.calls kj5 _ _ t371 (Int.tmod (wrap64 (a2)) 400) t374 _ ?side1 ?side2 A27.out).mono ?_); (case side1 => repeat (first | exact (Kd.R_reads' HO373.out).2.2 | (with_reducible refine Kd.C_alloc ?_ _) | (with_reducible refine Kd.C_drewN ?_ _) | (with_reducible refine Kd.C_drew ?_))); (case side2 => exact (Kd.R_reads' HO373.out).2.1); rintro e w47 ⟨rfl, hb⟩; have n0_ := Aside0.mk (Kd.R_below (by (with_reducible repeat (first | apply Kd.R_alloc | apply Kd.R_drewN | apply Kd.R_drew)); exact HO345.out) hb); have n1_ := Aside0.mk (Kd.R_below (by (with_reducible repeat (first | apply Kd.R_alloc | apply Kd.R_drewN | apply Kd.R_drew)); exact HO348.out) hb); have n2_ := Aside0.mk (Kd.R_below (by (with_reducible repeat (first | apply Kd.R_alloc | apply Kd.R_drewN | apply Kd.R_drew)); exact HO351.out) hb); have n3_ := Aside0.mk (Kd.R_below (by (with_reducible repeat (first | apply Kd.R_alloc | apply Kd.R_drewN | apply Kd.R_drew)); exact HO355.out) hb); have n4_ := Aside0.mk (Kd.R_below (by (with_reducible repeat (first | apply Kd.R_alloc | apply Kd.R_drewN | apply Kd.R_drew)); exact HO358.out) hb); have n5_ := Aside0.mk (Kd.R_below (by (with_reducible repeat (first | apply Kd.R_alloc | apply Kd.R_drewN | apply Kd.R_drew)); exact HO362.out) hb); have n6_ := Aside0.mk (Kd.R_below (by (with_reducible repeat (first | apply Kd.R_alloc | apply Kd.R_drewN | apply Kd.R_drew)); exact HO365.out) hb); have n7_ := Aside0.mk (Kd.R_below (by (with_reducible repeat (first | apply Kd.R_alloc | apply Kd.R_drewN | apply Kd.R_drew)); exact HO368.out) hb); have n8_ := Aside0.mk (Kd.R_below (by (with_reducible repeat (first | apply Kd.R_alloc | apply Kd.R_drewN | apply Kd.R_drew)); exact HO373.out) hb); have n9_ := Aside0.mk (below_step (by repeat (first | (with_reducible first | exact HB.out | apply below_alloc | apply pw_below_drewN | apply below_drew1) | exact HB.out)) hb); clear HO345; clear HO348; clear HO351; clear HO355; clear HO358; clear HO362; clear HO365; clear HO368; clear HO373; clear HB; have HO345 := n0_; have HO348 := n1_; have HO351 := n2_; have HO355 := n3_; have HO358 := n4_; have HO362 := n5_; have HO365 := n6_; have HO368 := n7_; have HO373 := n8_; have HB := n9_; clear n0_ n1_ n2_ n3_ n4_ n5_ n6_ n7_ n8_ n9_; (try clear hb); (try clear hb2); (try clear hk); (try clear hi); clear t_ tok16_))
                go_ret
                exact ⟨by first | rfl | (simp [errW_none, errW_some] <;> rfl) | exact congrArg (fun b_ => Ending.returned (Value.bool b_)) hr_ | (simp only [← hji10]; first | rfl | (simp [errW_none, errW_some] <;> rfl)) | (simp [*, errW_none, errW_some] <;> rfl), by repeat (first | (with_reducible first | exact HB.out | apply below_alloc | apply pw_below_drewN | apply below_drew1) | exact HB.out)⟩
              · replace c24 := Bool.eq_false_iff.mpr c24
                subst c24
                have H1 : (some false) = some true := by rw [if_neg (show ¬ (false = true) by decide)] at H; first | done | exact H
                clear H
                have H := H1
                clear H1
                exact absurd H (by simp)
            · replace c19 := Bool.eq_false_iff.mpr c19
              subst c19
              have H1 : (some false) = some true := by rw [if_neg (show ¬ (false = true) by decide)] at H; first | done | exact H
              clear H
              have H := H1
              clear H1
              exact absurd H (by simp)
          · replace c15 := Bool.eq_false_iff.mpr c15
            subst c15
            have H1 : (some false) = some true := by rw [if_neg (show ¬ (false = true) by decide)] at H; first | done | exact H
            clear H
            have H := H1
            clear H1
            exact absurd H (by simp)
  · replace c5 := Bool.eq_false_iff.mpr c5
    subst c5
    have H1 : (some false) = some true := by rw [if_neg (show ¬ (false = true) by decide)] at H; first | done | exact H
    clear H
    have H := H1
    clear H1
    exact absurd H (by simp)

/-- THE ONE PURE STATEMENT of tattinglaw5_VecBack: yours. -/
def tattinglaw5_VecBack.Pure : Prop := ∀ (l0 : List Int) (l1 : List Int) (a2 : Int), l0.length ≤ maxLen → l0.length * 8 ≤ 140737488351232 → (∀ x ∈ l0, (Lit.int .u64 x).wf = true) → l1.length ≤ maxLen → l1.length * 8 ≤ 140737488351232 → (∀ x ∈ l1, (Lit.int .u64 x).wf = true) → (Lit.int .u16 a2).wf = true → ∃ k, tattinglaw5_VecBack.f k l0 l1 a2 = some true
theorem tattinglaw5_VecBack.walk (P : tattinglaw5_VecBack.Pure) (a0 : Option Addr) (len0 cap0 : Nat) (z0 : List Int) (a1 : Option Addr) (len1 cap1 : Nat) (z1 : List Int) (a2 : Int) (w : World) (w0 : (a0 = none ∧ len0 = 0 ∧ cap0 = 0 ∧ z0 = []) ∨ ∃ x, a0 = some x ∧ len0 ≤ cap0 ∧ cap0 ≤ maxLen ∧ z0.length = cap0 ∧ (∀ i, i < z0.length → w.cell? (x.add i) = some (.int .u64 (z0.getD i 0))) ∧ ∀ n ∈ z0, (Lit.int .u64 n).wf = true) (y0 : len0 * 8 ≤ 140737488351232) (w1 : (a1 = none ∧ len1 = 0 ∧ cap1 = 0 ∧ z1 = []) ∨ ∃ x, a1 = some x ∧ len1 ≤ cap1 ∧ cap1 ≤ maxLen ∧ z1.length = cap1 ∧ (∀ i, i < z1.length → w.cell? (x.add i) = some (.int .u64 (z1.getD i 0))) ∧ ∀ n ∈ z1, (Lit.int .u64 n).wf = true) (y1 : len1 * 8 ≤ 140737488351232) (w2 : (Lit.int .u16 a2).wf = true) :
    Calls Try.prog 7 #[.slice a0 len0 cap0, .slice a1 len1 cap1, .int .u16 a2] w fun e w' => e = .returned (.bool true) ∧ Below w.heap.size w w' := by
  obtain ⟨l0, rfl, hr0, hm0, hw0, hc0⟩ := ReadsInt.ofRowC w0
  obtain ⟨l1, rfl, hr1, hm1, hw1, hc1⟩ := ReadsInt.ofRowC w1
  obtain ⟨k, h⟩ := P l0 l1 a2 hm0 y0 hw0 hm1 y1 hw1 w2
  refine (tattinglaw5_VecBack.calls k _ _ l0 _ _ l1 a2 w (Kd.C_of_reads (d := (0 : Int)) (h1 := fun _ => rfl) hr0) hc0 (Kd.C_of_reads (d := (0 : Int)) (h1 := fun _ => rfl) hr1) hc1 h).mono ?_
  rintro e w' ⟨rfl, hd⟩
  exact ⟨rfl, hd⟩

end Go.Proofs.Yteahldmjmncmlaa.PV
