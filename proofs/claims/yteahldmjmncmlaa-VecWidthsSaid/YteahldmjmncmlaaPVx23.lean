-- Printed by a program of this session out of the seat (wip/xprint.py).
import Derived.Test.YteahldmjmncmlaaPVx0
import Derived.Test.YteahldmjmncmlaaPVx2
import Derived.Test.YteahldmjmncmlaaPVx3
import Derived.Test.YteahldmjmncmlaaPVx4
import Derived.Test.YteahldmjmncmlaaPVx5
import Derived.Test.YteahldmjmncmlaaPVx18
import Derived.Test.YteahldmjmncmlaaPVx19
import Derived.Test.YteahldmjmncmlaaPVx20
import Derived.Test.YteahldmjmncmlaaPVx21
import Derived.Test.YteahldmjmncmlaaPVx22
namespace Go.Proofs.Yteahldmjmncmlaa.PV
open Go.RowKit Go.Proofs.YteahldmjmncmlaaW.PrintWords Go.Proofs.YteahldmjmncmlaaW.PrintLast Go.Proofs.YteahldmjmncmlaaW.PrintMore Go.Proofs.Yteahldmjmncmlaa.XBits
attribute [local go_sem] max2_int min2_int max_two min_two max_three min_three max_four min_four   -- for this text's walks alone
set_option linter.unusedVariables false
set_option linter.unusedSimpArgs false
attribute [local go_sem] run_ext32 run_ext35

/-! ### tattinglaw5_VecWidths: function 6 -/
def tattinglaw5_VecWidths.j0 : Nat → List Int → Int → Bool → Option (Bool)
  | 0, _, _, _ => none
  | k + 1, x0, x1, x17 => if x17 = true then (some true) else ((vec_Words.f x1).bind fun t317 => ((tattingref5_Words.f x1).bind fun t318 => (if t317 = t318 then ((vec_Ones.f k x1).bind fun t319 => ((tattingref5_Ones.f k x1).bind fun t322 => ((tattingref5_Same.f k t319 t322).bind fun t325 => (if t325 = true then ((vec_Fit.f k x0 x1).bind fun t326 => ((tattingref5_Fit.f k x0 x1).bind fun t329 => ((tattingref5_Same.f k t326 t329).bind fun t332 => (if t332 = true then ((vec_Not.f k x0 x1).bind fun t333 => ((tattingref5_Not.f k x0 x1).bind fun t336 => ((tattingref5_Same.f k t333 t336).bind fun t339 => (if t339 = true then ((vec_Count.f k x0 x1).bind fun t340 => ((tattingref5_Count.f k x0 x1).bind fun t341 => (some (t340 == t341)))) else (some false))))) else (some false))))) else (some false))))) else (some false))))
def tattinglaw5_VecWidths.f (k : Nat) (l0 : List Int) (a1 : Int) : Option (Bool) := (tattinglaw5_awake.f k).bind fun t316 => (if t316 = true then (if (l0.length : Int) > 8 then (tattinglaw5_VecWidths.j0 k l0 a1 true) else (if a1 > 700 then (tattinglaw5_VecWidths.j0 k l0 a1 (decide (a1 < 1048576))) else (tattinglaw5_VecWidths.j0 k l0 a1 false))) else (some false))
theorem tattinglaw5_VecWidths.mono_l : ∀ k, (∀ y0 y1 y2, LeO (tattinglaw5_VecWidths.j0 k y0 y1 y2) (tattinglaw5_VecWidths.j0 (k + 1) y0 y1 y2))
  | 0 => fun _ _ _ r h => by simp [tattinglaw5_VecWidths.j0] at h
  | k + 1 => by
    have ih0 := tattinglaw5_VecWidths.mono_l k
    · intro y0 y1 y2
      unfold tattinglaw5_VecWidths.j0
      repeat' first
      | (with_reducible exact ih0 _ _ _)
      | (with_reducible exact tattinglaw5_awake.mono _)
      | (with_reducible exact tattingref5_Count.mono _ _ _)
      | (with_reducible exact tattingref5_Fit.mono _ _ _)
      | (with_reducible exact tattingref5_Not.mono _ _ _)
      | (with_reducible exact tattingref5_Ones.mono _ _)
      | (with_reducible exact tattingref5_Same.mono _ _ _)
      | (with_reducible exact vec_Count.mono _ _ _)
      | (with_reducible exact vec_Fit.mono _ _ _)
      | (with_reducible exact vec_Not.mono _ _ _)
      | (with_reducible exact vec_Ones.mono _ _)
      | (with_reducible exact LeO.refl _)
      | (with_reducible exact LeO.none _)
      | (with_reducible refine LeO.ite ?_ ?_)
      | (with_reducible refine LeO.bind ?_ (fun _ => ?_))
      | exact ih0 _ _ _
      | exact tattinglaw5_awake.mono _
      | exact tattingref5_Count.mono _ _ _
      | exact tattingref5_Fit.mono _ _ _
      | exact tattingref5_Not.mono _ _ _
      | exact tattingref5_Ones.mono _ _
      | exact tattingref5_Same.mono _ _ _
      | exact vec_Count.mono _ _ _
      | exact vec_Fit.mono _ _ _
      | exact vec_Not.mono _ _ _
      | exact vec_Ones.mono _ _
      | exact LeO.none _
      | refine LeO.ite ?_ ?_
      | refine LeO.bind ?_ (fun _ => ?_)
theorem tattinglaw5_VecWidths.mono : ∀ a0 a1 k, LeO (tattinglaw5_VecWidths.f k a0 a1) (tattinglaw5_VecWidths.f (k + 1) a0 a1) := by
  intro a0 a1 k
  have ih0 := tattinglaw5_VecWidths.mono_l k
  unfold tattinglaw5_VecWidths.f
  repeat' first
      | (with_reducible exact ih0 _ _ _)
      | (with_reducible exact tattinglaw5_awake.mono _)
      | (with_reducible exact tattingref5_Count.mono _ _ _)
      | (with_reducible exact tattingref5_Fit.mono _ _ _)
      | (with_reducible exact tattingref5_Not.mono _ _ _)
      | (with_reducible exact tattingref5_Ones.mono _ _)
      | (with_reducible exact tattingref5_Same.mono _ _ _)
      | (with_reducible exact vec_Count.mono _ _ _)
      | (with_reducible exact vec_Fit.mono _ _ _)
      | (with_reducible exact vec_Not.mono _ _ _)
      | (with_reducible exact vec_Ones.mono _ _)
      | (with_reducible exact LeO.refl _)
      | (with_reducible exact LeO.none _)
      | (with_reducible refine LeO.ite ?_ ?_)
      | (with_reducible refine LeO.bind ?_ (fun _ => ?_))
      | exact ih0 _ _ _
      | exact tattinglaw5_awake.mono _
      | exact tattingref5_Count.mono _ _ _
      | exact tattingref5_Fit.mono _ _ _
      | exact tattingref5_Not.mono _ _ _
      | exact tattingref5_Ones.mono _ _
      | exact tattingref5_Same.mono _ _ _
      | exact vec_Count.mono _ _ _
      | exact vec_Fit.mono _ _ _
      | exact vec_Not.mono _ _ _
      | exact vec_Ones.mono _ _
      | exact LeO.none _
      | refine LeO.ite ?_ ?_
      | refine LeO.bind ?_ (fun _ => ?_)
set_option maxHeartbeats 8000000 in
set_option maxRecDepth 100000 in
theorem tattinglaw5_VecWidths.calls (k : Nat) (A0 : Option Addr) (c0 : Nat) (l0 : List Int) (a1 : Int) (w : World) (hr0 : Kd.C (Kd.int .u64) w A0 l0.length l0) (hc0 : l0.length ≤ c0) (h : tattinglaw5_VecWidths.f k l0 a1 = some true) :
    Calls Try.prog 6 #[.slice A0 l0.length c0, .int .i64 a1] w fun e w' => e = .returned (.bool true) ∧ Below w.heap.size w w' := by
  have HR0 := Aside0.mk hr0
  have HC0 := Aside0.mk hc0
  clear hr0 hc0
  have HB := Aside0.mk (Below.refl w.heap.size w)
  have H : ((tattinglaw5_awake.f k).bind fun t316 => (if t316 = true then (if (l0.length : Int) > 8 then (tattinglaw5_VecWidths.j0 k l0 a1 true) else (if a1 > 700 then (tattinglaw5_VecWidths.j0 k l0 a1 (decide (a1 < 1048576))) else (tattinglaw5_VecWidths.j0 k l0 a1 false))) else (some false))) = some true := h
  clear h
  replace H := Option.bind_eq_some_iff.mp H
  obtain ⟨t316, A30, H⟩ := H
  replace H : (if t316 = true then (if (l0.length : Int) > 8 then (tattinglaw5_VecWidths.j0 k l0 a1 true) else (if a1 > 700 then (tattinglaw5_VecWidths.j0 k l0 a1 (decide (a1 < 1048576))) else (tattinglaw5_VecWidths.j0 k l0 a1 false))) else (some false)) = some true := H
  have A3 := Aside0.mk A30
  clear A30
  by_cases c4 : t316 = true
  · subst c4
    have H1 : (if (l0.length : Int) > 8 then (tattinglaw5_VecWidths.j0 k l0 a1 true) else (if a1 > 700 then (tattinglaw5_VecWidths.j0 k l0 a1 (decide (a1 < 1048576))) else (tattinglaw5_VecWidths.j0 k l0 a1 false))) = some true := by rw [if_pos rfl] at H; first | done | exact H
    clear H
    have H := H1
    clear H1
    have HC5 := Aside0.mk H
    clear H
    go_enter Try.func6, Try.ntmps6
    go_upto_region 3 with (first | ((with_reducible refine gate_callee (f := 9) rfl ?_); refine goesL_ (some 5) rfl rfl Try.func9 (by kernel_rfl) rfl #[] rfl (by (try simp only [List.map_toArray, List.map_cons, List.map_nil]); first | done | rfl | (simp only [List.length_drop, List.length_take]; rfl)) ?_; (with_reducible refine (tattinglaw5_awake.calls k  true _ A3.out).mono ?_); rintro e w6 ⟨rfl, hb⟩; refine ⟨_, rfl, ?_⟩; have n0_ := Aside0.mk (below_step (by repeat (first | (with_reducible first | exact HB.out | apply below_alloc | apply pw_below_drewN | apply below_drew1) | exact HB.out)) hb); clear HB; have HB := n0_; clear n0_; (try clear hb); (try clear hb2); (try clear hk); (try clear hi)))
    (try simp only [Act.put, List.setIfInBounds_toArray, List.set_cons_zero, List.set_cons_succ])
    go_cut [17] (fun v17 wc => ∃ (kq : Nat) (x17_4 : Bool), v17 = .bool x17_4 ∧ Aside0 (tattinglaw5_VecWidths.j0 kq l0 a1 x17_4 = some true) ∧ Aside0 (kq ≤ k) ∧ Aside0 (Below w.heap.size w wc))
    case first =>
      have H := HC5.out
      clear HC5
      by_cases c7 : (l0.length : Int) > 8
      · rw [if_pos c7] at H
        have c7b0 : decide (8 < (l0.length : Int)) = true := decide_eq_true c7
        have c7b1 : decide (8 < l0.length) = true := decide_eq_true (by omega)
        clear c7
        (first | rw [c7b0] | (simp only [i64_w, i32_w]; rw [c7b0]) | skip)
        have H' := Aside0.mk H
        clear H
        go_wp2
        go_meet
        case rel => exact ⟨_, (true), (by first | rfl | (simp; done) | (simp [*]; done)), H', ⟨by first | omega | exact Nat.le_refl _⟩, ⟨by repeat (first | (with_reducible first | exact HB.out | apply below_alloc | apply pw_below_drewN | apply below_drew1) | exact HB.out)⟩⟩
      · rw [if_neg c7] at H
        have c7b0 : decide (8 < (l0.length : Int)) = false := decide_eq_false c7
        have c7b1 : decide (8 < l0.length) = false := decide_eq_false (by omega)
        clear c7
        (first | rw [c7b0] | (simp only [i64_w, i32_w]; rw [c7b0]) | skip)
        by_cases c8 : a1 > 700
        · rw [if_pos c8] at H
          have c8b0 : decide (700 < a1) = true := decide_eq_true c8
          clear c8
          have H' := Aside0.mk H
          clear H
          go_wp2
          go_meet
          case rel => exact ⟨_, (decide (a1 < 1048576)), (by first | rfl | (simp; done) | (simp [*]; done)), H', ⟨by first | omega | exact Nat.le_refl _⟩, ⟨by repeat (first | (with_reducible first | exact HB.out | apply below_alloc | apply pw_below_drewN | apply below_drew1) | exact HB.out)⟩⟩
        · rw [if_neg c8] at H
          have c8b0 : decide (700 < a1) = false := decide_eq_false c8
          clear c8
          have H' := Aside0.mk H
          clear H
          go_wp2
          go_meet
          case rel => exact ⟨_, (false), (by first | rfl | (simp; done) | (simp [*]; done)), H', ⟨by first | omega | exact Nat.le_refl _⟩, ⟨by repeat (first | (with_reducible first | exact HB.out | apply below_alloc | apply pw_below_drewN | apply below_drew1) | exact HB.out)⟩⟩
    case rest =>
      clear HC5
      try clear p2
      try clear c4
      try clear c6
      try clear c7
      try clear c7b0
      try clear c7b1
      try clear c8
      try clear c8b0
      obtain ⟨kq, x17_4, rfl, HA, HJ4, HB⟩ := hcut
      cases kq with
      | zero => exact absurd HA.out (by simp [tattinglaw5_VecWidths.j0])
      | succ kj4 =>
        have H := HA.out
        clear HA
        simp only [tattinglaw5_VecWidths.j0] at H
        by_cases c9 : x17_4 = true
        · subst c9
          have H1 : (some true) = some true := by rw [if_pos rfl] at H; first | done | exact H
          clear H
          have H := H1
          clear H1
          clear H
          go_wp2
          go_ret
          exact ⟨by first | rfl | (simp [errW_none, errW_some] <;> rfl) | exact congrArg (fun b_ => Ending.returned (Value.bool b_)) hr_ | (simp [*, errW_none, errW_some] <;> rfl), by repeat (first | (with_reducible first | exact HB.out | apply below_alloc | apply pw_below_drewN | apply below_drew1) | exact HB.out)⟩
        · replace c9 := Bool.eq_false_iff.mpr c9
          subst c9
          have H1 : ((vec_Words.f a1).bind fun t317 => ((tattingref5_Words.f a1).bind fun t318 => (if t317 = t318 then ((vec_Ones.f kj4 a1).bind fun t319 => ((tattingref5_Ones.f kj4 a1).bind fun t322 => ((tattingref5_Same.f kj4 t319 t322).bind fun t325 => (if t325 = true then ((vec_Fit.f kj4 l0 a1).bind fun t326 => ((tattingref5_Fit.f kj4 l0 a1).bind fun t329 => ((tattingref5_Same.f kj4 t326 t329).bind fun t332 => (if t332 = true then ((vec_Not.f kj4 l0 a1).bind fun t333 => ((tattingref5_Not.f kj4 l0 a1).bind fun t336 => ((tattingref5_Same.f kj4 t333 t336).bind fun t339 => (if t339 = true then ((vec_Count.f kj4 l0 a1).bind fun t340 => ((tattingref5_Count.f kj4 l0 a1).bind fun t341 => (some (t340 == t341)))) else (some false))))) else (some false))))) else (some false))))) else (some false)))) = some true := by rw [if_neg (show ¬ (false = true) by decide)] at H; first | done | exact H
          clear H
          have H := H1
          clear H1
          replace H := Option.bind_eq_some_iff.mp H
          obtain ⟨t317, A100, H⟩ := H
          replace H : ((tattingref5_Words.f a1).bind fun t318 => (if t317 = t318 then ((vec_Ones.f kj4 a1).bind fun t319 => ((tattingref5_Ones.f kj4 a1).bind fun t322 => ((tattingref5_Same.f kj4 t319 t322).bind fun t325 => (if t325 = true then ((vec_Fit.f kj4 l0 a1).bind fun t326 => ((tattingref5_Fit.f kj4 l0 a1).bind fun t329 => ((tattingref5_Same.f kj4 t326 t329).bind fun t332 => (if t332 = true then ((vec_Not.f kj4 l0 a1).bind fun t333 => ((tattingref5_Not.f kj4 l0 a1).bind fun t336 => ((tattingref5_Same.f kj4 t333 t336).bind fun t339 => (if t339 = true then ((vec_Count.f kj4 l0 a1).bind fun t340 => ((tattingref5_Count.f kj4 l0 a1).bind fun t341 => (some (t340 == t341)))) else (some false))))) else (some false))))) else (some false))))) else (some false))) = some true := H
          have A10 := Aside0.mk A100
          clear A100
          replace H := Option.bind_eq_some_iff.mp H
          obtain ⟨t318, A110, H⟩ := H
          replace H : (if t317 = t318 then ((vec_Ones.f kj4 a1).bind fun t319 => ((tattingref5_Ones.f kj4 a1).bind fun t322 => ((tattingref5_Same.f kj4 t319 t322).bind fun t325 => (if t325 = true then ((vec_Fit.f kj4 l0 a1).bind fun t326 => ((tattingref5_Fit.f kj4 l0 a1).bind fun t329 => ((tattingref5_Same.f kj4 t326 t329).bind fun t332 => (if t332 = true then ((vec_Not.f kj4 l0 a1).bind fun t333 => ((tattingref5_Not.f kj4 l0 a1).bind fun t336 => ((tattingref5_Same.f kj4 t333 t336).bind fun t339 => (if t339 = true then ((vec_Count.f kj4 l0 a1).bind fun t340 => ((tattingref5_Count.f kj4 l0 a1).bind fun t341 => (some (t340 == t341)))) else (some false))))) else (some false))))) else (some false))))) else (some false)) = some true := H
          have A11 := Aside0.mk A110
          clear A110
          by_cases c12 : t317 = t318
          · rw [if_pos c12] at H
            have c12b0 : (t317 == t318) = true := beq_iff_eq.mpr c12
            have c12b1 : (t317 != t318) = false := bne_eq_false_iff_eq.mpr c12
            clear c12
            replace H := Option.bind_eq_some_iff.mp H
            obtain ⟨t319, A130, H⟩ := H
            replace H : ((tattingref5_Ones.f kj4 a1).bind fun t322 => ((tattingref5_Same.f kj4 t319 t322).bind fun t325 => (if t325 = true then ((vec_Fit.f kj4 l0 a1).bind fun t326 => ((tattingref5_Fit.f kj4 l0 a1).bind fun t329 => ((tattingref5_Same.f kj4 t326 t329).bind fun t332 => (if t332 = true then ((vec_Not.f kj4 l0 a1).bind fun t333 => ((tattingref5_Not.f kj4 l0 a1).bind fun t336 => ((tattingref5_Same.f kj4 t333 t336).bind fun t339 => (if t339 = true then ((vec_Count.f kj4 l0 a1).bind fun t340 => ((tattingref5_Count.f kj4 l0 a1).bind fun t341 => (some (t340 == t341)))) else (some false))))) else (some false))))) else (some false)))) = some true := H
            have A13 := Aside0.mk A130
            clear A130
            replace H := Option.bind_eq_some_iff.mp H
            obtain ⟨t322, A140, H⟩ := H
            replace H : ((tattingref5_Same.f kj4 t319 t322).bind fun t325 => (if t325 = true then ((vec_Fit.f kj4 l0 a1).bind fun t326 => ((tattingref5_Fit.f kj4 l0 a1).bind fun t329 => ((tattingref5_Same.f kj4 t326 t329).bind fun t332 => (if t332 = true then ((vec_Not.f kj4 l0 a1).bind fun t333 => ((tattingref5_Not.f kj4 l0 a1).bind fun t336 => ((tattingref5_Same.f kj4 t333 t336).bind fun t339 => (if t339 = true then ((vec_Count.f kj4 l0 a1).bind fun t340 => ((tattingref5_Count.f kj4 l0 a1).bind fun t341 => (some (t340 == t341)))) else (some false))))) else (some false))))) else (some false))) = some true := H
            have A14 := Aside0.mk A140
            clear A140
            replace H := Option.bind_eq_some_iff.mp H
            obtain ⟨t325, A150, H⟩ := H
            replace H : (if t325 = true then ((vec_Fit.f kj4 l0 a1).bind fun t326 => ((tattingref5_Fit.f kj4 l0 a1).bind fun t329 => ((tattingref5_Same.f kj4 t326 t329).bind fun t332 => (if t332 = true then ((vec_Not.f kj4 l0 a1).bind fun t333 => ((tattingref5_Not.f kj4 l0 a1).bind fun t336 => ((tattingref5_Same.f kj4 t333 t336).bind fun t339 => (if t339 = true then ((vec_Count.f kj4 l0 a1).bind fun t340 => ((tattingref5_Count.f kj4 l0 a1).bind fun t341 => (some (t340 == t341)))) else (some false))))) else (some false))))) else (some false)) = some true := H
            have A15 := Aside0.mk A150
            clear A150
            by_cases c16 : t325 = true
            · subst c16
              have H1 : ((vec_Fit.f kj4 l0 a1).bind fun t326 => ((tattingref5_Fit.f kj4 l0 a1).bind fun t329 => ((tattingref5_Same.f kj4 t326 t329).bind fun t332 => (if t332 = true then ((vec_Not.f kj4 l0 a1).bind fun t333 => ((tattingref5_Not.f kj4 l0 a1).bind fun t336 => ((tattingref5_Same.f kj4 t333 t336).bind fun t339 => (if t339 = true then ((vec_Count.f kj4 l0 a1).bind fun t340 => ((tattingref5_Count.f kj4 l0 a1).bind fun t341 => (some (t340 == t341)))) else (some false))))) else (some false))))) = some true := by rw [if_pos rfl] at H; first | done | exact H
              clear H
              have H := H1
              clear H1
              replace H := Option.bind_eq_some_iff.mp H
              obtain ⟨t326, A170, H⟩ := H
              replace H : ((tattingref5_Fit.f kj4 l0 a1).bind fun t329 => ((tattingref5_Same.f kj4 t326 t329).bind fun t332 => (if t332 = true then ((vec_Not.f kj4 l0 a1).bind fun t333 => ((tattingref5_Not.f kj4 l0 a1).bind fun t336 => ((tattingref5_Same.f kj4 t333 t336).bind fun t339 => (if t339 = true then ((vec_Count.f kj4 l0 a1).bind fun t340 => ((tattingref5_Count.f kj4 l0 a1).bind fun t341 => (some (t340 == t341)))) else (some false))))) else (some false)))) = some true := H
              have A17 := Aside0.mk A170
              clear A170
              replace H := Option.bind_eq_some_iff.mp H
              obtain ⟨t329, A180, H⟩ := H
              replace H : ((tattingref5_Same.f kj4 t326 t329).bind fun t332 => (if t332 = true then ((vec_Not.f kj4 l0 a1).bind fun t333 => ((tattingref5_Not.f kj4 l0 a1).bind fun t336 => ((tattingref5_Same.f kj4 t333 t336).bind fun t339 => (if t339 = true then ((vec_Count.f kj4 l0 a1).bind fun t340 => ((tattingref5_Count.f kj4 l0 a1).bind fun t341 => (some (t340 == t341)))) else (some false))))) else (some false))) = some true := H
              have A18 := Aside0.mk A180
              clear A180
              replace H := Option.bind_eq_some_iff.mp H
              obtain ⟨t332, A190, H⟩ := H
              replace H : (if t332 = true then ((vec_Not.f kj4 l0 a1).bind fun t333 => ((tattingref5_Not.f kj4 l0 a1).bind fun t336 => ((tattingref5_Same.f kj4 t333 t336).bind fun t339 => (if t339 = true then ((vec_Count.f kj4 l0 a1).bind fun t340 => ((tattingref5_Count.f kj4 l0 a1).bind fun t341 => (some (t340 == t341)))) else (some false))))) else (some false)) = some true := H
              have A19 := Aside0.mk A190
              clear A190
              by_cases c20 : t332 = true
              · subst c20
                have H1 : ((vec_Not.f kj4 l0 a1).bind fun t333 => ((tattingref5_Not.f kj4 l0 a1).bind fun t336 => ((tattingref5_Same.f kj4 t333 t336).bind fun t339 => (if t339 = true then ((vec_Count.f kj4 l0 a1).bind fun t340 => ((tattingref5_Count.f kj4 l0 a1).bind fun t341 => (some (t340 == t341)))) else (some false))))) = some true := by rw [if_pos rfl] at H; first | done | exact H
                clear H
                have H := H1
                clear H1
                replace H := Option.bind_eq_some_iff.mp H
                obtain ⟨t333, A210, H⟩ := H
                replace H : ((tattingref5_Not.f kj4 l0 a1).bind fun t336 => ((tattingref5_Same.f kj4 t333 t336).bind fun t339 => (if t339 = true then ((vec_Count.f kj4 l0 a1).bind fun t340 => ((tattingref5_Count.f kj4 l0 a1).bind fun t341 => (some (t340 == t341)))) else (some false)))) = some true := H
                have A21 := Aside0.mk A210
                clear A210
                replace H := Option.bind_eq_some_iff.mp H
                obtain ⟨t336, A220, H⟩ := H
                replace H : ((tattingref5_Same.f kj4 t333 t336).bind fun t339 => (if t339 = true then ((vec_Count.f kj4 l0 a1).bind fun t340 => ((tattingref5_Count.f kj4 l0 a1).bind fun t341 => (some (t340 == t341)))) else (some false))) = some true := H
                have A22 := Aside0.mk A220
                clear A220
                replace H := Option.bind_eq_some_iff.mp H
                obtain ⟨t339, A230, H⟩ := H
                replace H : (if t339 = true then ((vec_Count.f kj4 l0 a1).bind fun t340 => ((tattingref5_Count.f kj4 l0 a1).bind fun t341 => (some (t340 == t341)))) else (some false)) = some true := H
                have A23 := Aside0.mk A230
                clear A230
                by_cases c24 : t339 = true
                · subst c24
                  have H1 : ((vec_Count.f kj4 l0 a1).bind fun t340 => ((tattingref5_Count.f kj4 l0 a1).bind fun t341 => (some (t340 == t341)))) = some true := by rw [if_pos rfl] at H; first | done | exact H
                  clear H
                  have H := H1
                  clear H1
                  replace H := Option.bind_eq_some_iff.mp H
                  obtain ⟨t340, A250, H⟩ := H
                  replace H : ((tattingref5_Count.f kj4 l0 a1).bind fun t341 => (some (t340 == t341))) = some true := H
                  have A25 := Aside0.mk A250
                  clear A250
                  replace H := Option.bind_eq_some_iff.mp H
                  obtain ⟨t341, A260, H⟩ := H
                  replace H : (some (t340 == t341)) = some true := H
                  have A26 := Aside0.mk A260
                  clear A260
                  have hr_ := Option.some.inj H
                  clear H
                  have tok5_ : True := trivial
                  have tok6_ : True := trivial
                  have tok7_ : True := trivial
                  go_wp2_with (first | ((with_reducible refine gate_callee (f := 22) rfl ?_); refine goesL_ (some 19) rfl rfl Try.func22 (by kernel_rfl) rfl #[.int .i64 a1] rfl (by (try simp only [List.map_toArray, List.map_cons, List.map_nil]); first | done | rfl | (simp only [List.length_drop, List.length_take]; rfl)) ?_; (with_reducible refine (vec_Words.calls a1 t317 _ A10.out).mono ?_); rintro e w27 ⟨rfl, hb⟩; refine ⟨_, rfl, ?_⟩; have n0_ := Aside0.mk (below_step (by repeat (first | (with_reducible first | exact HB.out | apply below_alloc | apply pw_below_drewN | apply below_drew1) | exact HB.out)) hb); clear HB; have HB := n0_; clear n0_; (try clear hb); (try clear hb2); (try clear hk); (try clear hi)) | ((with_reducible refine gate_callee (f := 23) rfl ?_); refine goesL_ (some 21) rfl rfl Try.func23 (by kernel_rfl) rfl #[.int .i64 a1] rfl (by (try simp only [List.map_toArray, List.map_cons, List.map_nil]); first | done | rfl | (simp only [List.length_drop, List.length_take]; rfl)) ?_; (with_reducible refine (tattingref5_Words.calls a1 t318 _ A11.out).mono ?_); rintro e w' ⟨rfl, ⟨nd, rfl⟩⟩; refine ⟨_, rfl, ?_⟩) | (go_at_call 24; (with_reducible refine (vec_Ones.calls kj4 a1 t319 _ A13.out).mono ?_); rintro e w28 ⟨v320, rfl, ho0, hb⟩; have n0_ := Aside0.mk (Kd.R_lower ho0 (below_size (by repeat (first | (with_reducible first | exact HB.out | apply below_alloc | apply pw_below_drewN | apply below_drew1) | exact HB.out)))); have n1_ := Aside0.mk (below_step (by repeat (first | (with_reducible first | exact HB.out | apply below_alloc | apply pw_below_drewN | apply below_drew1) | exact HB.out)) hb); clear HB; have HO321 := n0_; have HB := n1_; clear n0_ n1_; (try clear hb); (try clear hb2); (try clear hk); (try clear hi); (try clear ho0)) | (go_at_call 25; (with_reducible refine (tattingref5_Ones.calls kj4 a1 t322 _ A14.out).mono ?_); rintro e w29 ⟨v323, rfl, ho0, hb⟩; have n0_ := Aside0.mk (Kd.R_elder' (by (with_reducible repeat (first | apply Kd.R_alloc | apply Kd.R_drewN | apply Kd.R_drew)); exact HO321.out) (Kd.R_base ho0) hb); have n1_ := Aside0.mk (Kd.R_lower (Kd.R_new' ho0 (Kd.R_lt (by (with_reducible repeat (first | apply Kd.R_alloc | apply Kd.R_drewN | apply Kd.R_drew)); exact HO321.out))) (below_size (by repeat (first | (with_reducible first | exact HB.out | apply below_alloc | apply pw_below_drewN | apply below_drew1) | exact HB.out)))); have n2_ := Aside0.mk (below_step (by repeat (first | (with_reducible first | exact HB.out | apply below_alloc | apply pw_below_drewN | apply below_drew1) | exact HB.out)) hb); clear HO321; clear HB; have HO321 := n0_; have HO324 := n1_; have HB := n2_; clear n0_ n1_ n2_; (try clear hb); (try clear hb2); (try clear hk); (try clear hi); (try clear ho0); obtain ⟨Ao30, co30, eo30⟩ := Kd.R_slice HO321.out; subst eo30; obtain ⟨Ao31, co31, eo31⟩ := Kd.R_slice HO324.out; subst eo31) | (go_at_call 10; have t_ := tok5_; (with_reducible refine (tattingref5_Same.calls kj4 _ _ t319 _ _ t322 true _ ?side1 ?side2 ?side3 ?side4 A15.out).mono ?_); (case side1 => repeat (first | exact (Kd.R_reads' HO321.out).2.2 | (with_reducible refine Kd.C_alloc ?_ _) | (with_reducible refine Kd.C_drewN ?_ _) | (with_reducible refine Kd.C_drew ?_))); (case side2 => exact (Kd.R_reads' HO321.out).2.1); (case side3 => repeat (first | exact (Kd.R_reads' HO324.out).2.2 | (with_reducible refine Kd.C_alloc ?_ _) | (with_reducible refine Kd.C_drewN ?_ _) | (with_reducible refine Kd.C_drew ?_))); (case side4 => exact (Kd.R_reads' HO324.out).2.1); rintro e w' ⟨rfl, ⟨nd, rfl⟩⟩; clear t_ tok5_) | (go_at_call 26; (with_reducible refine (vec_Fit.calls kj4 _ _ l0 a1 t326 _ ?side1 ?side2 A17.out).mono ?_); (case side1 => repeat (first | exact (Kd.C_below HR0.out (by repeat (first | (with_reducible first | exact HB.out | apply below_alloc | apply pw_below_drewN | apply below_drew1) | exact HB.out))) | (with_reducible refine Kd.C_alloc ?_ _) | (with_reducible refine Kd.C_drewN ?_ _) | (with_reducible refine Kd.C_drew ?_))); (case side2 => exact HC0.out); rintro e w32 ⟨v327, rfl, ho0, hb⟩; have n0_ := Aside0.mk (Kd.R_elder' (by (with_reducible repeat (first | apply Kd.R_alloc | apply Kd.R_drewN | apply Kd.R_drew)); exact HO321.out) (Kd.R_base ho0) hb); have n1_ := Aside0.mk (Kd.R_elder' (by (with_reducible repeat (first | apply Kd.R_alloc | apply Kd.R_drewN | apply Kd.R_drew)); exact HO324.out) (Kd.R_base ho0) hb); have n2_ := Aside0.mk (Kd.R_lower (Kd.R_new' (Kd.R_new' ho0 (Kd.R_lt (by (with_reducible repeat (first | apply Kd.R_alloc | apply Kd.R_drewN | apply Kd.R_drew)); exact HO321.out))) (Kd.R_lt (by (with_reducible repeat (first | apply Kd.R_alloc | apply Kd.R_drewN | apply Kd.R_drew)); exact HO324.out))) (below_size (by repeat (first | (with_reducible first | exact HB.out | apply below_alloc | apply pw_below_drewN | apply below_drew1) | exact HB.out)))); have n3_ := Aside0.mk (below_step (by repeat (first | (with_reducible first | exact HB.out | apply below_alloc | apply pw_below_drewN | apply below_drew1) | exact HB.out)) hb); clear HO321; clear HO324; clear HB; have HO321 := n0_; have HO324 := n1_; have HO328 := n2_; have HB := n3_; clear n0_ n1_ n2_ n3_; (try clear hb); (try clear hb2); (try clear hk); (try clear hi); (try clear ho0)) | (go_at_call 27; (with_reducible refine (tattingref5_Fit.calls kj4 _ _ l0 a1 t329 _ ?side1 ?side2 A18.out).mono ?_); (case side1 => repeat (first | exact (Kd.C_below HR0.out HB.out) | (with_reducible refine Kd.C_alloc ?_ _) | (with_reducible refine Kd.C_drewN ?_ _) | (with_reducible refine Kd.C_drew ?_))); (case side2 => exact HC0.out); rintro e w33 ⟨v330, rfl, ho0, hb⟩; have n0_ := Aside0.mk (Kd.R_elder' (by (with_reducible repeat (first | apply Kd.R_alloc | apply Kd.R_drewN | apply Kd.R_drew)); exact HO321.out) (Kd.R_base ho0) hb); have n1_ := Aside0.mk (Kd.R_elder' (by (with_reducible repeat (first | apply Kd.R_alloc | apply Kd.R_drewN | apply Kd.R_drew)); exact HO324.out) (Kd.R_base ho0) hb); have n2_ := Aside0.mk (Kd.R_elder' (by (with_reducible repeat (first | apply Kd.R_alloc | apply Kd.R_drewN | apply Kd.R_drew)); exact HO328.out) (Kd.R_base ho0) hb); have n3_ := Aside0.mk (Kd.R_lower (Kd.R_new' (Kd.R_new' (Kd.R_new' ho0 (Kd.R_lt (by (with_reducible repeat (first | apply Kd.R_alloc | apply Kd.R_drewN | apply Kd.R_drew)); exact HO321.out))) (Kd.R_lt (by (with_reducible repeat (first | apply Kd.R_alloc | apply Kd.R_drewN | apply Kd.R_drew)); exact HO324.out))) (Kd.R_lt (by (with_reducible repeat (first | apply Kd.R_alloc | apply Kd.R_drewN | apply Kd.R_drew)); exact HO328.out))) (below_size (by repeat (first | (with_reducible first | exact HB.out | apply below_alloc | apply pw_below_drewN | apply below_drew1) | exact HB.out)))); have n4_ := Aside0.mk (below_step (by repeat (first | (with_reducible first | exact HB.out | apply below_alloc | apply pw_below_drewN | apply below_drew1) | exact HB.out)) hb); clear HO321; clear HO324; clear HO328; clear HB; have HO321 := n0_; have HO324 := n1_; have HO328 := n2_; have HO331 := n3_; have HB := n4_; clear n0_ n1_ n2_ n3_ n4_; (try clear hb); (try clear hb2); (try clear hk); (try clear hi); (try clear ho0); obtain ⟨Ao34, co34, eo34⟩ := Kd.R_slice HO328.out; subst eo34; obtain ⟨Ao35, co35, eo35⟩ := Kd.R_slice HO331.out; subst eo35) | (go_at_call 10; have t_ := tok6_; (with_reducible refine (tattingref5_Same.calls kj4 _ _ t326 _ _ t329 true _ ?side1 ?side2 ?side3 ?side4 A19.out).mono ?_); (case side1 => repeat (first | exact (Kd.R_reads' HO328.out).2.2 | (with_reducible refine Kd.C_alloc ?_ _) | (with_reducible refine Kd.C_drewN ?_ _) | (with_reducible refine Kd.C_drew ?_))); (case side2 => exact (Kd.R_reads' HO328.out).2.1); (case side3 => repeat (first | exact (Kd.R_reads' HO331.out).2.2 | (with_reducible refine Kd.C_alloc ?_ _) | (with_reducible refine Kd.C_drewN ?_ _) | (with_reducible refine Kd.C_drew ?_))); (case side4 => exact (Kd.R_reads' HO331.out).2.1); rintro e w' ⟨rfl, ⟨nd, rfl⟩⟩; clear t_ tok6_) | (go_at_call 28; (with_reducible refine (vec_Not.calls kj4 _ _ l0 a1 t333 _ ?side1 ?side2 A21.out).mono ?_); (case side1 => repeat (first | exact (Kd.C_below HR0.out (by repeat (first | (with_reducible first | exact HB.out | apply below_alloc | apply pw_below_drewN | apply below_drew1) | exact HB.out))) | (with_reducible refine Kd.C_alloc ?_ _) | (with_reducible refine Kd.C_drewN ?_ _) | (with_reducible refine Kd.C_drew ?_))); (case side2 => exact HC0.out); rintro e w36 ⟨v334, rfl, ho0, hb⟩; have n0_ := Aside0.mk (Kd.R_elder' (by (with_reducible repeat (first | apply Kd.R_alloc | apply Kd.R_drewN | apply Kd.R_drew)); exact HO321.out) (Kd.R_base ho0) hb); have n1_ := Aside0.mk (Kd.R_elder' (by (with_reducible repeat (first | apply Kd.R_alloc | apply Kd.R_drewN | apply Kd.R_drew)); exact HO324.out) (Kd.R_base ho0) hb); have n2_ := Aside0.mk (Kd.R_elder' (by (with_reducible repeat (first | apply Kd.R_alloc | apply Kd.R_drewN | apply Kd.R_drew)); exact HO328.out) (Kd.R_base ho0) hb); have n3_ := Aside0.mk (Kd.R_elder' (by (with_reducible repeat (first | apply Kd.R_alloc | apply Kd.R_drewN | apply Kd.R_drew)); exact HO331.out) (Kd.R_base ho0) hb); have n4_ := Aside0.mk (Kd.R_lower (Kd.R_new' (Kd.R_new' (Kd.R_new' (Kd.R_new' ho0 (Kd.R_lt (by (with_reducible repeat (first | apply Kd.R_alloc | apply Kd.R_drewN | apply Kd.R_drew)); exact HO321.out))) (Kd.R_lt (by (with_reducible repeat (first | apply Kd.R_alloc | apply Kd.R_drewN | apply Kd.R_drew)); exact HO324.out))) (Kd.R_lt (by (with_reducible repeat (first | apply Kd.R_alloc | apply Kd.R_drewN | apply Kd.R_drew)); exact HO328.out))) (Kd.R_lt (by (with_reducible repeat (first | apply Kd.R_alloc | apply Kd.R_drewN | apply Kd.R_drew)); exact HO331.out))) (below_size (by repeat (first | (with_reducible first | exact HB.out | apply below_alloc | apply pw_below_drewN | apply below_drew1) | exact HB.out)))); have n5_ := Aside0.mk (below_step (by repeat (first | (with_reducible first | exact HB.out | apply below_alloc | apply pw_below_drewN | apply below_drew1) | exact HB.out)) hb); clear HO321; clear HO324; clear HO328; clear HO331; clear HB; have HO321 := n0_; have HO324 := n1_; have HO328 := n2_; have HO331 := n3_; have HO335 := n4_; have HB := n5_; clear n0_ n1_ n2_ n3_ n4_ n5_; (try clear hb); (try clear hb2); (try clear hk); (try clear hi); (try clear ho0)) | (go_at_call 29; (with_reducible refine (tattingref5_Not.calls kj4 _ _ l0 a1 t336 _ ?side1 ?side2 A22.out).mono ?_); (case side1 => repeat (first | exact (Kd.C_below HR0.out HB.out) | (with_reducible refine Kd.C_alloc ?_ _) | (with_reducible refine Kd.C_drewN ?_ _) | (with_reducible refine Kd.C_drew ?_))); (case side2 => exact HC0.out); rintro e w37 ⟨v337, rfl, ho0, hb⟩; have n0_ := Aside0.mk (Kd.R_elder' (by (with_reducible repeat (first | apply Kd.R_alloc | apply Kd.R_drewN | apply Kd.R_drew)); exact HO321.out) (Kd.R_base ho0) hb); have n1_ := Aside0.mk (Kd.R_elder' (by (with_reducible repeat (first | apply Kd.R_alloc | apply Kd.R_drewN | apply Kd.R_drew)); exact HO324.out) (Kd.R_base ho0) hb); have n2_ := Aside0.mk (Kd.R_elder' (by (with_reducible repeat (first | apply Kd.R_alloc | apply Kd.R_drewN | apply Kd.R_drew)); exact HO328.out) (Kd.R_base ho0) hb); have n3_ := Aside0.mk (Kd.R_elder' (by (with_reducible repeat (first | apply Kd.R_alloc | apply Kd.R_drewN | apply Kd.R_drew)); exact HO331.out) (Kd.R_base ho0) hb); have n4_ := Aside0.mk (Kd.R_elder' (by (with_reducible repeat (first | apply Kd.R_alloc | apply Kd.R_drewN | apply Kd.R_drew)); exact HO335.out) (Kd.R_base ho0) hb); have n5_ := Aside0.mk (Kd.R_lower (Kd.R_new' (Kd.R_new' (Kd.R_new' (Kd.R_new' (Kd.R_new' ho0 (Kd.R_lt (by (with_reducible repeat (first | apply Kd.R_alloc | apply Kd.R_drewN | apply Kd.R_drew)); exact HO321.out))) (Kd.R_lt (by (with_reducible repeat (first | apply Kd.R_alloc | apply Kd.R_drewN | apply Kd.R_drew)); exact HO324.out))) (Kd.R_lt (by (with_reducible repeat (first | apply Kd.R_alloc | apply Kd.R_drewN | apply Kd.R_drew)); exact HO328.out))) (Kd.R_lt (by (with_reducible repeat (first | apply Kd.R_alloc | apply Kd.R_drewN | apply Kd.R_drew)); exact HO331.out))) (Kd.R_lt (by (with_reducible repeat (first | apply Kd.R_alloc | apply Kd.R_drewN | apply Kd.R_drew)); exact HO335.out))) (below_size (by repeat (first | (with_reducible first | exact HB.out | apply below_alloc | apply pw_below_drewN | apply below_drew1) | exact HB.out)))); have n6_ := Aside0.mk (below_step (by repeat (first | (with_reducible first | exact HB.out | apply below_alloc | apply pw_below_drewN | apply below_drew1) | exact HB.out)) hb); clear HO321; clear HO324; clear HO328; clear HO331; clear HO335; clear HB; have HO321 := n0_; have HO324 := n1_; have HO328 := n2_; have HO331 := n3_; have HO335 := n4_; have HO338 := n5_; have HB := n6_; clear n0_ n1_ n2_ n3_ n4_ n5_ n6_; (try clear hb); (try clear hb2); (try clear hk); (try clear hi); (try clear ho0); obtain ⟨Ao38, co38, eo38⟩ := Kd.R_slice HO335.out; subst eo38; obtain ⟨Ao39, co39, eo39⟩ := Kd.R_slice HO338.out; subst eo39) | (go_at_call 10; have t_ := tok7_; (with_reducible refine (tattingref5_Same.calls kj4 _ _ t333 _ _ t336 true _ ?side1 ?side2 ?side3 ?side4 A23.out).mono ?_); (case side1 => repeat (first | exact (Kd.R_reads' HO335.out).2.2 | (with_reducible refine Kd.C_alloc ?_ _) | (with_reducible refine Kd.C_drewN ?_ _) | (with_reducible refine Kd.C_drew ?_))); (case side2 => exact (Kd.R_reads' HO335.out).2.1); (case side3 => repeat (first | exact (Kd.R_reads' HO338.out).2.2 | (with_reducible refine Kd.C_alloc ?_ _) | (with_reducible refine Kd.C_drewN ?_ _) | (with_reducible refine Kd.C_drew ?_))); (case side4 => exact (Kd.R_reads' HO338.out).2.1); rintro e w' ⟨rfl, ⟨nd, rfl⟩⟩; clear t_ tok7_) | (go_at_call 30; (with_reducible refine (vec_Count.calls kj4 _ _ l0 a1 t340 _ ?side1 ?side2 A25.out).mono ?_); (case side1 => repeat (first | exact (Kd.C_below HR0.out (by repeat (first | (with_reducible first | exact HB.out | apply below_alloc | apply pw_below_drewN | apply below_drew1) | exact HB.out))) | (with_reducible refine Kd.C_alloc ?_ _) | (with_reducible refine Kd.C_drewN ?_ _) | (with_reducible refine Kd.C_drew ?_))); (case side2 => exact HC0.out); rintro e w40 ⟨rfl, hb⟩; have n0_ := Aside0.mk (Kd.R_below (by (with_reducible repeat (first | apply Kd.R_alloc | apply Kd.R_drewN | apply Kd.R_drew)); exact HO321.out) hb); have n1_ := Aside0.mk (Kd.R_below (by (with_reducible repeat (first | apply Kd.R_alloc | apply Kd.R_drewN | apply Kd.R_drew)); exact HO324.out) hb); have n2_ := Aside0.mk (Kd.R_below (by (with_reducible repeat (first | apply Kd.R_alloc | apply Kd.R_drewN | apply Kd.R_drew)); exact HO328.out) hb); have n3_ := Aside0.mk (Kd.R_below (by (with_reducible repeat (first | apply Kd.R_alloc | apply Kd.R_drewN | apply Kd.R_drew)); exact HO331.out) hb); have n4_ := Aside0.mk (Kd.R_below (by (with_reducible repeat (first | apply Kd.R_alloc | apply Kd.R_drewN | apply Kd.R_drew)); exact HO335.out) hb); have n5_ := Aside0.mk (Kd.R_below (by (with_reducible repeat (first | apply Kd.R_alloc | apply Kd.R_drewN | apply Kd.R_drew)); exact HO338.out) hb); have n6_ := Aside0.mk (below_step (by repeat (first | (with_reducible first | exact HB.out | apply below_alloc | apply pw_below_drewN | apply below_drew1) | exact HB.out)) hb); clear HO321; clear HO324; clear HO328; clear HO331; clear HO335; clear HO338; clear HB; have HO321 := n0_; have HO324 := n1_; have HO328 := n2_; have HO331 := n3_; have HO335 := n4_; have HO338 := n5_; have HB := n6_; clear n0_ n1_ n2_ n3_ n4_ n5_ n6_; (try clear hb); (try clear hb2); (try clear hk); (try clear hi)) | (go_at_call 31; (with_reducible refine (tattingref5_Count.calls kj4 _ _ l0 a1 t341 _ ?side1 ?side2 A26.out).mono ?_); (case side1 => repeat (first | exact (Kd.C_below HR0.out HB.out) | (with_reducible refine Kd.C_alloc ?_ _) | (with_reducible refine Kd.C_drewN ?_ _) | (with_reducible refine Kd.C_drew ?_))); (case side2 => exact HC0.out); rintro e w' ⟨rfl, ⟨nd, rfl⟩⟩))
                  go_ret
                  exact ⟨by first | rfl | (simp [errW_none, errW_some] <;> rfl) | exact congrArg (fun b_ => Ending.returned (Value.bool b_)) hr_ | (simp [*, errW_none, errW_some] <;> rfl), by repeat (first | (with_reducible first | exact HB.out | apply below_alloc | apply pw_below_drewN | apply below_drew1) | exact HB.out)⟩
                · replace c24 := Bool.eq_false_iff.mpr c24
                  subst c24
                  have H1 : (some false) = some true := by rw [if_neg (show ¬ (false = true) by decide)] at H; first | done | exact H
                  clear H
                  have H := H1
                  clear H1
                  exact absurd H (by simp)
              · replace c20 := Bool.eq_false_iff.mpr c20
                subst c20
                have H1 : (some false) = some true := by rw [if_neg (show ¬ (false = true) by decide)] at H; first | done | exact H
                clear H
                have H := H1
                clear H1
                exact absurd H (by simp)
            · replace c16 := Bool.eq_false_iff.mpr c16
              subst c16
              have H1 : (some false) = some true := by rw [if_neg (show ¬ (false = true) by decide)] at H; first | done | exact H
              clear H
              have H := H1
              clear H1
              exact absurd H (by simp)
          · rw [if_neg c12] at H
            have c12b0 : (t317 == t318) = false := beq_eq_false_iff_ne.mpr c12
            have c12b1 : (t317 != t318) = true := bne_iff_ne.mpr c12
            exact absurd H (by simp)
  · replace c4 := Bool.eq_false_iff.mpr c4
    subst c4
    have H1 : (some false) = some true := by rw [if_neg (show ¬ (false = true) by decide)] at H; first | done | exact H
    clear H
    have H := H1
    clear H1
    exact absurd H (by simp)

/-- THE ONE PURE STATEMENT of tattinglaw5_VecWidths: yours. -/
def tattinglaw5_VecWidths.Pure : Prop := ∀ (l0 : List Int) (a1 : Int), l0.length ≤ maxLen → l0.length * 8 ≤ 140737488351232 → (∀ x ∈ l0, (Lit.int .u64 x).wf = true) → (Lit.int .i64 a1).wf = true → ∃ k, tattinglaw5_VecWidths.f k l0 a1 = some true
theorem tattinglaw5_VecWidths.walk (P : tattinglaw5_VecWidths.Pure) (a0 : Option Addr) (len0 cap0 : Nat) (z0 : List Int) (a1 : Int) (w : World) (w0 : (a0 = none ∧ len0 = 0 ∧ cap0 = 0 ∧ z0 = []) ∨ ∃ x, a0 = some x ∧ len0 ≤ cap0 ∧ cap0 ≤ maxLen ∧ z0.length = cap0 ∧ (∀ i, i < z0.length → w.cell? (x.add i) = some (.int .u64 (z0.getD i 0))) ∧ ∀ n ∈ z0, (Lit.int .u64 n).wf = true) (y0 : len0 * 8 ≤ 140737488351232) (w1 : (Lit.int .i64 a1).wf = true) :
    Calls Try.prog 6 #[.slice a0 len0 cap0, .int .i64 a1] w fun e w' => e = .returned (.bool true) ∧ Below w.heap.size w w' := by
  obtain ⟨l0, rfl, hr0, hm0, hw0, hc0⟩ := ReadsInt.ofRowC w0
  obtain ⟨k, h⟩ := P l0 a1 hm0 y0 hw0 w1
  refine (tattinglaw5_VecWidths.calls k _ _ l0 a1 w (Kd.C_of_reads (d := (0 : Int)) (h1 := fun _ => rfl) hr0) hc0 h).mono ?_
  rintro e w' ⟨rfl, hd⟩
  exact ⟨rfl, hd⟩

end Go.Proofs.Yteahldmjmncmlaa.PV
