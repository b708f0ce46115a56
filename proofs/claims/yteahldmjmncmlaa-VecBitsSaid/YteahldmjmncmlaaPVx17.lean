-- Printed by a program of this session out of the seat (wip/xprint.py).
import Derived.Test.YteahldmjmncmlaaPVx0
import Derived.Test.YteahldmjmncmlaaPVx2
import Derived.Test.YteahldmjmncmlaaPVx4
import Derived.Test.YteahldmjmncmlaaPVx5
import Derived.Test.YteahldmjmncmlaaPVx16
namespace Go.Proofs.Yteahldmjmncmlaa.PV
open Go.RowKit Go.Proofs.YteahldmjmncmlaaW.PrintWords Go.Proofs.YteahldmjmncmlaaW.PrintLast Go.Proofs.YteahldmjmncmlaaW.PrintMore Go.Proofs.Yteahldmjmncmlaa.XBits
attribute [local go_sem] max2_int min2_int max_two min_two max_three min_three max_four min_four   -- for this text's walks alone
set_option linter.unusedVariables false
set_option linter.unusedSimpArgs false
attribute [local go_sem] run_ext32 run_ext35

/-! ### tattinglaw5_VecBits: function 5 -/
mutual
def tattinglaw5_VecBits.l0 : Nat → List Int → Int → List Int → Int → Option (Bool)
  | 0, _, _, _, _ => none
  | k + 1, x0, x1, x5, x6 => if x6 ≤ (wrap64 (64 * (x0.length : Int))) then (if x6 = x1 then (if x6 ≥ 0 then (tattinglaw5_VecBits.j1 k x0 x1 x5 x6 (decide (x6 < (wrap64 (64 * (x0.length : Int)))))) else (tattinglaw5_VecBits.j1 k x0 x1 x5 x6 false)) else (tattinglaw5_VecBits.j1 k x0 x1 x5 x6 false)) else ((vec_Get.f x0 x1).bind fun t266 => ((tattingref5_Get.f x0 x1).bind fun t267 => (some (t266 == t267))))
def tattinglaw5_VecBits.j1 : Nat → List Int → Int → List Int → Int → Bool → Option (Bool)
  | 0, _, _, _, _, _ => none
  | k + 1, x0, x1, x5, x6, x7 => (vec_Get.f x0 x6).bind fun t268 => ((tattingref5_Get.f x0 x6).bind fun t269 => (if (t268 != t269) = true then (some false) else ((vec_Get.f x5 x6).bind fun t270 => (if x7 = true then (if (t270 != true) = true then (some false) else (tattinglaw5_VecBits.l0 k x0 x1 x5 (wrap64 (x6 + 1)))) else ((tattingref5_Get.f x0 x6).bind fun t271 => (if (t270 != t271) = true then (some false) else (tattinglaw5_VecBits.l0 k x0 x1 x5 (wrap64 (x6 + 1)))))))))
end
def tattinglaw5_VecBits.f (k : Nat) (l0 : List Int) (a1 : Int) : Option (Bool) := (tattinglaw5_awake.f k).bind fun t262 => (if t262 = true then (if (l0.length : Int) > 8 then (some true) else ((vec_Set.f l0 a1).bind fun t263 => (if (t263.length : Int) = (l0.length : Int) then (tattinglaw5_VecBits.l0 k l0 a1 t263 (-1)) else (some false)))) else (some false))
theorem tattinglaw5_VecBits.mono_l : ∀ k, (∀ y0 y1 y2 y3, LeO (tattinglaw5_VecBits.l0 k y0 y1 y2 y3) (tattinglaw5_VecBits.l0 (k + 1) y0 y1 y2 y3)) ∧ (∀ y0 y1 y2 y3 y4, LeO (tattinglaw5_VecBits.j1 k y0 y1 y2 y3 y4) (tattinglaw5_VecBits.j1 (k + 1) y0 y1 y2 y3 y4))
  | 0 => ⟨fun _ _ _ _ r h => by simp [tattinglaw5_VecBits.l0] at h, fun _ _ _ _ _ r h => by simp [tattinglaw5_VecBits.j1] at h⟩
  | k + 1 => by
    obtain ⟨ih0, ih1⟩ := tattinglaw5_VecBits.mono_l k
    refine ⟨?_, ?_⟩
    · intro y0 y1 y2 y3
      unfold tattinglaw5_VecBits.l0
      repeat' first
      | (with_reducible exact ih0 _ _ _ _)
      | (with_reducible exact ih1 _ _ _ _ _)
      | (with_reducible exact tattinglaw5_awake.mono _)
      | (with_reducible exact LeO.refl _)
      | (with_reducible exact LeO.none _)
      | (with_reducible refine LeO.ite ?_ ?_)
      | (with_reducible refine LeO.bind ?_ (fun _ => ?_))
      | exact ih0 _ _ _ _
      | exact ih1 _ _ _ _ _
      | exact tattinglaw5_awake.mono _
      | exact LeO.none _
      | refine LeO.ite ?_ ?_
      | refine LeO.bind ?_ (fun _ => ?_)
    · intro y0 y1 y2 y3 y4
      unfold tattinglaw5_VecBits.j1
      repeat' first
      | (with_reducible exact ih0 _ _ _ _)
      | (with_reducible exact ih1 _ _ _ _ _)
      | (with_reducible exact tattinglaw5_awake.mono _)
      | (with_reducible exact LeO.refl _)
      | (with_reducible exact LeO.none _)
      | (with_reducible refine LeO.ite ?_ ?_)
      | (with_reducible refine LeO.bind ?_ (fun _ => ?_))
      | exact ih0 _ _ _ _
      | exact ih1 _ _ _ _ _
      | exact tattinglaw5_awake.mono _
      | exact LeO.none _
      | refine LeO.ite ?_ ?_
      | refine LeO.bind ?_ (fun _ => ?_)
theorem tattinglaw5_VecBits.mono : ∀ a0 a1 k, LeO (tattinglaw5_VecBits.f k a0 a1) (tattinglaw5_VecBits.f (k + 1) a0 a1) := by
  intro a0 a1 k
  obtain ⟨ih0, ih1⟩ := tattinglaw5_VecBits.mono_l k
  unfold tattinglaw5_VecBits.f
  repeat' first
      | (with_reducible exact ih0 _ _ _ _)
      | (with_reducible exact ih1 _ _ _ _ _)
      | (with_reducible exact tattinglaw5_awake.mono _)
      | (with_reducible exact LeO.refl _)
      | (with_reducible exact LeO.none _)
      | (with_reducible refine LeO.ite ?_ ?_)
      | (with_reducible refine LeO.bind ?_ (fun _ => ?_))
      | exact ih0 _ _ _ _
      | exact ih1 _ _ _ _ _
      | exact tattinglaw5_awake.mono _
      | exact LeO.none _
      | refine LeO.ite ?_ ?_
      | refine LeO.bind ?_ (fun _ => ?_)
set_option maxHeartbeats 8000000 in
set_option maxRecDepth 100000 in
theorem tattinglaw5_VecBits.calls (k : Nat) (A0 : Option Addr) (c0 : Nat) (l0 : List Int) (a1 : Int) (w : World) (hr0 : Kd.C (Kd.int .u64) w A0 l0.length l0) (hc0 : l0.length ≤ c0) (h : tattinglaw5_VecBits.f k l0 a1 = some true) :
    Calls Try.prog 5 #[.slice A0 l0.length c0, .int .i64 a1] w fun e w' => e = .returned (.bool true) ∧ Below w.heap.size w w' := by
  have HR0 := Aside0.mk hr0
  have HC0 := Aside0.mk hc0
  clear hr0 hc0
  have HB := Aside0.mk (Below.refl w.heap.size w)
  have H : ((tattinglaw5_awake.f k).bind fun t262 => (if t262 = true then (if (l0.length : Int) > 8 then (some true) else ((vec_Set.f l0 a1).bind fun t263 => (if (t263.length : Int) = (l0.length : Int) then (tattinglaw5_VecBits.l0 k l0 a1 t263 (-1)) else (some false)))) else (some false))) = some true := h
  clear h
  replace H := Option.bind_eq_some_iff.mp H
  obtain ⟨t262, A30, H⟩ := H
  replace H : (if t262 = true then (if (l0.length : Int) > 8 then (some true) else ((vec_Set.f l0 a1).bind fun t263 => (if (t263.length : Int) = (l0.length : Int) then (tattinglaw5_VecBits.l0 k l0 a1 t263 (-1)) else (some false)))) else (some false)) = some true := H
  have A3 := Aside0.mk A30
  clear A30
  by_cases c4 : t262 = true
  · subst c4
    have H1 : (if (l0.length : Int) > 8 then (some true) else ((vec_Set.f l0 a1).bind fun t263 => (if (t263.length : Int) = (l0.length : Int) then (tattinglaw5_VecBits.l0 k l0 a1 t263 (-1)) else (some false)))) = some true := by rw [if_pos rfl] at H; first | done | exact H
    clear H
    have H := H1
    clear H1
    by_cases c5 : (l0.length : Int) > 8
    · rw [if_pos c5] at H
      have c5b0 : decide (8 < (l0.length : Int)) = true := decide_eq_true c5
      have c5b1 : decide (8 < l0.length) = true := decide_eq_true (by omega)
      clear c5
      clear H
      go_enter Try.func5, Try.ntmps5
      go_wp2_with (first | ((with_reducible refine gate_callee (f := 9) rfl ?_); refine goesL_ (some 8) rfl rfl Try.func9 (by kernel_rfl) rfl #[] rfl (by (try simp only [List.map_toArray, List.map_cons, List.map_nil]); first | done | rfl | (simp only [List.length_drop, List.length_take]; rfl)) ?_; (with_reducible refine (tattinglaw5_awake.calls k  true _ A3.out).mono ?_); rintro e w6 ⟨rfl, hb⟩; refine ⟨_, rfl, ?_⟩; have n0_ := Aside0.mk (below_step (by repeat (first | (with_reducible first | exact HB.out | apply below_alloc | apply pw_below_drewN | apply below_drew1) | exact HB.out)) hb); clear HB; have HB := n0_; clear n0_; (try clear hb); (try clear hb2); (try clear hk); (try clear hi)))
      go_ret
      exact ⟨by first | rfl | (simp [errW_none, errW_some] <;> rfl) | exact congrArg (fun b_ => Ending.returned (Value.bool b_)) hr_ | (simp [*, errW_none, errW_some] <;> rfl), by repeat (first | (with_reducible first | exact HB.out | apply below_alloc | apply pw_below_drewN | apply below_drew1) | exact HB.out)⟩
    · rw [if_neg c5] at H
      have c5b0 : decide (8 < (l0.length : Int)) = false := decide_eq_false c5
      have c5b1 : decide (8 < l0.length) = false := decide_eq_false (by omega)
      clear c5
      replace H := Option.bind_eq_some_iff.mp H
      obtain ⟨t263, A70, H⟩ := H
      replace H : (if (t263.length : Int) = (l0.length : Int) then (tattinglaw5_VecBits.l0 k l0 a1 t263 (-1)) else (some false)) = some true := H
      have A7 := Aside0.mk A70
      clear A70
      by_cases c8 : (t263.length : Int) = (l0.length : Int)
      · rw [if_pos c8] at H
        have c8b0 : ((t263.length : Int) == (l0.length : Int)) = true := beq_iff_eq.mpr c8
        have c8b1 : ((t263.length : Int) != (l0.length : Int)) = false := bne_eq_false_iff_eq.mpr c8
        have c8b2 : (t263.length == l0.length) = true := by first | simpa using c8 | (simp at c8 ⊢; omega)
        clear c8
        have H' := Aside0.mk H
        clear H
        go_enter Try.func5, Try.ntmps5
        go_wp2_with (first | ((with_reducible refine gate_callee (f := 9) rfl ?_); refine goesL_ (some 8) rfl rfl Try.func9 (by kernel_rfl) rfl #[] rfl (by (try simp only [List.map_toArray, List.map_cons, List.map_nil]); first | done | rfl | (simp only [List.length_drop, List.length_take]; rfl)) ?_; (with_reducible refine (tattinglaw5_awake.calls k  true _ A3.out).mono ?_); rintro e w9 ⟨rfl, hb⟩; refine ⟨_, rfl, ?_⟩; have n0_ := Aside0.mk (below_step (by repeat (first | (with_reducible first | exact HB.out | apply below_alloc | apply pw_below_drewN | apply below_drew1) | exact HB.out)) hb); clear HB; have HB := n0_; clear n0_; (try clear hb); (try clear hb2); (try clear hk); (try clear hi)) | ((with_reducible refine gate_callee (f := 19) rfl ?_); refine goesL_ (some 15) rfl rfl Try.func19 (by kernel_rfl) rfl #[.slice A0 l0.length c0, .int .i64 a1] rfl (by (try simp only [List.map_toArray, List.map_cons, List.map_nil]); first | done | rfl | (simp only [List.length_drop, List.length_take]; rfl)) ?_; (with_reducible refine (vec_Set.calls _ _ l0 a1 t263 _ ?side1 ?side2 A7.out).mono ?_); (case side1 => repeat (first | exact (Kd.C_below HR0.out HB.out) | (with_reducible refine Kd.C_alloc ?_ _) | (with_reducible refine Kd.C_drewN ?_ _) | (with_reducible refine Kd.C_drew ?_))); (case side2 => exact HC0.out); rintro e w10 ⟨v264, rfl, ho0, hb⟩; refine ⟨_, rfl, ?_⟩; have n0_ := Aside0.mk (Kd.R_lower ho0 (below_size (by repeat (first | (with_reducible first | exact HB.out | apply below_alloc | apply pw_below_drewN | apply below_drew1) | exact HB.out)))); have n1_ := Aside0.mk (below_step (by repeat (first | (with_reducible first | exact HB.out | apply below_alloc | apply pw_below_drewN | apply below_drew1) | exact HB.out)) hb); clear HB; have HO265 := n0_; have HB := n1_; clear n0_ n1_; (try clear hb); (try clear hb2); (try clear hk); (try clear hi); (try clear ho0); obtain ⟨Ao11, co11, eo11⟩ := Kd.R_slice HO265.out; subst eo11))
        go_loopg [6] k (fun kq v6 w' => ∃ (x6_1 : Int), v6 = .int .i64 x6_1 ∧ Aside0 (tattinglaw5_VecBits.l0 kq l0 a1 t263 x6_1 = some true) ∧ Aside0 (kq ≤ k) ∧ Aside0 (Kd.R (Kd.int .u64) 33 w' w.heap.size (fun _ => True) (.slice Ao11 t263.length co11) t263) ∧ Aside0 (Below w.heap.size w w'))
        case atStart => exact ⟨((-1)), (by first | rfl | (simp; done) | (simp [*]; done)), H', ⟨Nat.le_refl _⟩, ⟨by (with_reducible repeat (first | apply Kd.R_alloc | apply Kd.R_drewN | apply Kd.R_drew)); exact HO265.out⟩, ⟨by repeat (first | (with_reducible first | exact HB.out | apply below_alloc | apply pw_below_drewN | apply below_drew1) | exact HB.out)⟩⟩
        case round =>
          clear H'
          try clear c1
          try clear p2
          try clear c4
          try clear c5
          try clear c5b0
          try clear c5b1
          try clear c8
          try clear c8b0
          try clear c8b1
          try clear c8b2
          try clear c9
          obtain ⟨x6_1, rfl, HA, HK1, HO_5, HB⟩ := hrel
          cases gk with
          | zero => exact absurd HA.out (by simp [tattinglaw5_VecBits.l0])
          | succ k1 =>
            have H := HA.out
            clear HA
            simp only [tattinglaw5_VecBits.l0] at H
            by_cases c12 : x6_1 ≤ (wrap64 (64 * (l0.length : Int)))
            · rw [if_pos c12] at H
              have c12b0 : decide (x6_1 ≤ (wrap64 (64 * (l0.length : Int)))) = true := decide_eq_true c12
              clear c12
              have HC13 := Aside0.mk H
              clear H
              go_upto_region 11 with (fail)
              go_cut [7] (fun v7 wc => ∃ (kq : Nat) (x7_12 : Bool), v7 = .bool x7_12 ∧ Aside0 (tattinglaw5_VecBits.j1 kq l0 a1 t263 x6_1 x7_12 = some true) ∧ Aside0 (kq ≤ k1) ∧ Aside0 (Kd.R (Kd.int .u64) 33 wc w.heap.size (fun _ => True) (.slice Ao11 t263.length co11) t263) ∧ Aside0 (Below w.heap.size w wc))
              case first =>
                have H := HC13.out
                clear HC13
                by_cases c14 : x6_1 = a1
                · rw [if_pos c14] at H
                  have c14b0 : (x6_1 == a1) = true := beq_iff_eq.mpr c14
                  have c14b1 : (x6_1 != a1) = false := bne_eq_false_iff_eq.mpr c14
                  clear c14
                  (first | rw [c14b0] | (simp only [i64_w, i32_w]; rw [c14b0]) | skip)
                  by_cases c15 : x6_1 ≥ 0
                  · rw [if_pos c15] at H
                    have c15b0 : decide (0 ≤ x6_1) = true := decide_eq_true c15
                    clear c15
                    have H' := Aside0.mk H
                    clear H
                    go_wp2
                    go_meet
                    case rel => exact ⟨_, (decide (x6_1 < (wrap64 (64 * (l0.length : Int))))), (by first | rfl | (simp; done) | (simp [*]; done)), H', ⟨by have := HK1.out; first | omega | exact Nat.le_refl _⟩, ⟨by (with_reducible repeat (first | apply Kd.R_alloc | apply Kd.R_drewN | apply Kd.R_drew)); exact HO_5.out⟩, ⟨by repeat (first | (with_reducible first | exact HB.out | apply below_alloc | apply pw_below_drewN | apply below_drew1) | exact HB.out)⟩⟩
                  · rw [if_neg c15] at H
                    have c15b0 : decide (0 ≤ x6_1) = false := decide_eq_false c15
                    clear c15
                    have H' := Aside0.mk H
                    clear H
                    go_wp2
                    go_meet
                    case rel => exact ⟨_, (false), (by first | rfl | (simp; done) | (simp [*]; done)), H', ⟨by have := HK1.out; first | omega | exact Nat.le_refl _⟩, ⟨by (with_reducible repeat (first | apply Kd.R_alloc | apply Kd.R_drewN | apply Kd.R_drew)); exact HO_5.out⟩, ⟨by repeat (first | (with_reducible first | exact HB.out | apply below_alloc | apply pw_below_drewN | apply below_drew1) | exact HB.out)⟩⟩
                · rw [if_neg c14] at H
                  have c14b0 : (x6_1 == a1) = false := beq_eq_false_iff_ne.mpr c14
                  have c14b1 : (x6_1 != a1) = true := bne_iff_ne.mpr c14
                  (first | rw [c14b0] | (simp only [i64_w, i32_w]; rw [c14b0]) | skip)
                  have H' := Aside0.mk H
                  clear H
                  go_wp2
                  go_meet
                  case rel => exact ⟨_, (false), (by first | rfl | (simp; done) | (simp [*]; done)), H', ⟨by have := HK1.out; first | omega | exact Nat.le_refl _⟩, ⟨by (with_reducible repeat (first | apply Kd.R_alloc | apply Kd.R_drewN | apply Kd.R_drew)); exact HO_5.out⟩, ⟨by repeat (first | (with_reducible first | exact HB.out | apply below_alloc | apply pw_below_drewN | apply below_drew1) | exact HB.out)⟩⟩
              case rest =>
                clear HC13
                try clear c1
                try clear p2
                try clear c4
                try clear c5
                try clear c5b0
                try clear c5b1
                try clear p6
                try clear c8
                try clear c8b0
                try clear c8b1
                try clear c8b2
                try clear c9
                try clear c12
                try clear c12b0
                try clear c14
                try clear c14b0
                try clear c14b1
                try clear c15
                try clear c15b0
                try clear p2
                obtain ⟨kq, x7_12, rfl, HA, HJ12, HO_5, HB⟩ := hcut
                cases kq with
                | zero => exact absurd HA.out (by simp [tattinglaw5_VecBits.j1])
                | succ kj12 =>
                  have H := HA.out
                  clear HA
                  simp only [tattinglaw5_VecBits.j1] at H
                  replace H := Option.bind_eq_some_iff.mp H
                  obtain ⟨t268, A160, H⟩ := H
                  replace H : ((tattingref5_Get.f l0 x6_1).bind fun t269 => (if (t268 != t269) = true then (some false) else ((vec_Get.f t263 x6_1).bind fun t270 => (if x7_12 = true then (if (t270 != true) = true then (some false) else (tattinglaw5_VecBits.l0 kj12 l0 a1 t263 (wrap64 (x6_1 + 1)))) else ((tattingref5_Get.f l0 x6_1).bind fun t271 => (if (t270 != t271) = true then (some false) else (tattinglaw5_VecBits.l0 kj12 l0 a1 t263 (wrap64 (x6_1 + 1))))))))) = some true := H
                  have A16 := Aside0.mk A160
                  clear A160
                  replace H := Option.bind_eq_some_iff.mp H
                  obtain ⟨t269, A170, H⟩ := H
                  replace H : (if (t268 != t269) = true then (some false) else ((vec_Get.f t263 x6_1).bind fun t270 => (if x7_12 = true then (if (t270 != true) = true then (some false) else (tattinglaw5_VecBits.l0 kj12 l0 a1 t263 (wrap64 (x6_1 + 1)))) else ((tattingref5_Get.f l0 x6_1).bind fun t271 => (if (t270 != t271) = true then (some false) else (tattinglaw5_VecBits.l0 kj12 l0 a1 t263 (wrap64 (x6_1 + 1)))))))) = some true := H
                  have A17 := Aside0.mk A170
                  clear A170
                  by_cases c18 : (t268 != t269) = true
                  · rw [if_pos c18] at H
                    have c18b0 : (t268 != t269) = true := c18
                    (try (have c18b1 : decide (t268 = t269) = false := by simpa using c18))
                    (try (have c18b2 : (t268 == t269) = false := by simpa using c18))
                    (try (have c18b3 : ¬ (t268 = t269) := by simpa using c18))
                    clear c18
                    exact absurd H (by simp)
                  · rw [if_neg c18] at H
                    have c18b0 : (t268 != t269) = false := by simpa using c18
                    (try (have c18b1 : decide (t268 = t269) = true := by simpa using c18))
                    (try (have c18b2 : (t268 == t269) = true := by simpa using c18))
                    clear c18
                    replace H := Option.bind_eq_some_iff.mp H
                    obtain ⟨t270, A190, H⟩ := H
                    replace H : (if x7_12 = true then (if (t270 != true) = true then (some false) else (tattinglaw5_VecBits.l0 kj12 l0 a1 t263 (wrap64 (x6_1 + 1)))) else ((tattingref5_Get.f l0 x6_1).bind fun t271 => (if (t270 != t271) = true then (some false) else (tattinglaw5_VecBits.l0 kj12 l0 a1 t263 (wrap64 (x6_1 + 1)))))) = some true := H
                    have A19 := Aside0.mk A190
                    clear A190
                    by_cases c20 : x7_12 = true
                    · subst c20
                      have H1 : (if (t270 != true) = true then (some false) else (tattinglaw5_VecBits.l0 kj12 l0 a1 t263 (wrap64 (x6_1 + 1)))) = some true := by rw [if_pos rfl] at H; first | done | exact H
                      clear H
                      have H := H1
                      clear H1
                      by_cases c21 : (t270 != true) = true
                      · rw [if_pos c21] at H
                        have c21b0 : (t270 != true) = true := c21
                        (try (have c21b1 : decide (t270 = true) = false := by simpa using c21))
                        (try (have c21b2 : (t270 == true) = false := by simpa using c21))
                        (try (have c21b3 : ¬ (t270 = true) := by simpa using c21))
                        clear c21
                        exact absurd H (by simp)
                      · rw [if_neg c21] at H
                        have c21b0 : (t270 != true) = false := by simpa using c21
                        (try (have c21b1 : decide (t270 = true) = true := by simpa using c21))
                        (try (have c21b2 : (t270 == true) = true := by simpa using c21))
                        clear c21
                        have H' := Aside0.mk H
                        clear H
                        go_wp2_with (first | ((with_reducible refine gate_callee (f := 20) rfl ?_); refine goesL_ (some 44) rfl rfl Try.func20 (by kernel_rfl) rfl #[.slice A0 l0.length c0, .int .i64 x6_1] rfl (by (try simp only [List.map_toArray, List.map_cons, List.map_nil]); first | done | rfl | (simp only [List.length_drop, List.length_take]; rfl)) ?_; (with_reducible refine (vec_Get.calls _ _ l0 x6_1 t268 _ ?side1 ?side2 A16.out).mono ?_); (case side1 => repeat (first | exact (Kd.C_below HR0.out HB.out) | (with_reducible refine Kd.C_alloc ?_ _) | (with_reducible refine Kd.C_drewN ?_ _) | (with_reducible refine Kd.C_drew ?_))); (case side2 => exact HC0.out); rintro e w' ⟨rfl, ⟨nd, rfl⟩⟩; refine ⟨_, rfl, ?_⟩) | ((with_reducible refine gate_callee (f := 21) rfl ?_); refine goesL_ (some 47) rfl rfl Try.func21 (by kernel_rfl) rfl #[.slice A0 l0.length c0, .int .i64 x6_1] rfl (by (try simp only [List.map_toArray, List.map_cons, List.map_nil]); first | done | rfl | (simp only [List.length_drop, List.length_take]; rfl)) ?_; (with_reducible refine (tattingref5_Get.calls _ _ l0 x6_1 t269 _ ?side1 ?side2 A17.out).mono ?_); (case side1 => repeat (first | exact (Kd.C_below HR0.out (by repeat (first | (with_reducible first | exact HB.out | apply below_alloc | apply pw_below_drewN | apply below_drew1) | exact HB.out))) | (with_reducible refine Kd.C_alloc ?_ _) | (with_reducible refine Kd.C_drewN ?_ _) | (with_reducible refine Kd.C_drew ?_))); (case side2 => exact HC0.out); rintro e w' ⟨rfl, ⟨nd, rfl⟩⟩; refine ⟨_, rfl, ?_⟩) | (go_at_call 20; (with_reducible refine (vec_Get.calls _ _ t263 x6_1 t270 _ ?side1 ?side2 A19.out).mono ?_); (case side1 => repeat (first | exact (Kd.R_reads' HO_5.out).2.2 | (with_reducible refine Kd.C_alloc ?_ _) | (with_reducible refine Kd.C_drewN ?_ _) | (with_reducible refine Kd.C_drew ?_))); (case side2 => exact (Kd.R_reads' HO_5.out).2.1); rintro e w' ⟨rfl, ⟨nd, rfl⟩⟩))
                        go_roundg kj12
                        case measure => have := HK1.out; have := HJ12.out; omega
                        case rel => exact ⟨(wrap64 (x6_1 + 1)), (by first | rfl | (simp; done) | (simp [*]; done)), H', ⟨by have := HK1.out; have := HJ12.out; omega⟩, ⟨by (with_reducible repeat (first | apply Kd.R_alloc | apply Kd.R_drewN | apply Kd.R_drew)); exact HO_5.out⟩, ⟨by repeat (first | (with_reducible first | exact HB.out | apply below_alloc | apply pw_below_drewN | apply below_drew1) | exact HB.out)⟩⟩
                    · replace c20 := Bool.eq_false_iff.mpr c20
                      subst c20
                      have H1 : ((tattingref5_Get.f l0 x6_1).bind fun t271 => (if (t270 != t271) = true then (some false) else (tattinglaw5_VecBits.l0 kj12 l0 a1 t263 (wrap64 (x6_1 + 1))))) = some true := by rw [if_neg (show ¬ (false = true) by decide)] at H; first | done | exact H
                      clear H
                      have H := H1
                      clear H1
                      replace H := Option.bind_eq_some_iff.mp H
                      obtain ⟨t271, A220, H⟩ := H
                      replace H : (if (t270 != t271) = true then (some false) else (tattinglaw5_VecBits.l0 kj12 l0 a1 t263 (wrap64 (x6_1 + 1)))) = some true := H
                      have A22 := Aside0.mk A220
                      clear A220
                      by_cases c23 : (t270 != t271) = true
                      · rw [if_pos c23] at H
                        have c23b0 : (t270 != t271) = true := c23
                        (try (have c23b1 : decide (t270 = t271) = false := by simpa using c23))
                        (try (have c23b2 : (t270 == t271) = false := by simpa using c23))
                        (try (have c23b3 : ¬ (t270 = t271) := by simpa using c23))
                        clear c23
                        exact absurd H (by simp)
                      · rw [if_neg c23] at H
                        have c23b0 : (t270 != t271) = false := by simpa using c23
                        (try (have c23b1 : decide (t270 = t271) = true := by simpa using c23))
                        (try (have c23b2 : (t270 == t271) = true := by simpa using c23))
                        clear c23
                        have H' := Aside0.mk H
                        clear H
                        go_wp2_with (first | ((with_reducible refine gate_callee (f := 20) rfl ?_); refine goesL_ (some 44) rfl rfl Try.func20 (by kernel_rfl) rfl #[.slice A0 l0.length c0, .int .i64 x6_1] rfl (by (try simp only [List.map_toArray, List.map_cons, List.map_nil]); first | done | rfl | (simp only [List.length_drop, List.length_take]; rfl)) ?_; (with_reducible refine (vec_Get.calls _ _ l0 x6_1 t268 _ ?side1 ?side2 A16.out).mono ?_); (case side1 => repeat (first | exact (Kd.C_below HR0.out HB.out) | (with_reducible refine Kd.C_alloc ?_ _) | (with_reducible refine Kd.C_drewN ?_ _) | (with_reducible refine Kd.C_drew ?_))); (case side2 => exact HC0.out); rintro e w' ⟨rfl, ⟨nd, rfl⟩⟩; refine ⟨_, rfl, ?_⟩) | ((with_reducible refine gate_callee (f := 21) rfl ?_); refine goesL_ (some 47) rfl rfl Try.func21 (by kernel_rfl) rfl #[.slice A0 l0.length c0, .int .i64 x6_1] rfl (by (try simp only [List.map_toArray, List.map_cons, List.map_nil]); first | done | rfl | (simp only [List.length_drop, List.length_take]; rfl)) ?_; (with_reducible refine (tattingref5_Get.calls _ _ l0 x6_1 t269 _ ?side1 ?side2 A17.out).mono ?_); (case side1 => repeat (first | exact (Kd.C_below HR0.out (by repeat (first | (with_reducible first | exact HB.out | apply below_alloc | apply pw_below_drewN | apply below_drew1) | exact HB.out))) | (with_reducible refine Kd.C_alloc ?_ _) | (with_reducible refine Kd.C_drewN ?_ _) | (with_reducible refine Kd.C_drew ?_))); (case side2 => exact HC0.out); rintro e w' ⟨rfl, ⟨nd, rfl⟩⟩; refine ⟨_, rfl, ?_⟩) | (go_at_call 20; (with_reducible refine (vec_Get.calls _ _ t263 x6_1 t270 _ ?side1 ?side2 A19.out).mono ?_); (case side1 => repeat (first | exact (Kd.R_reads' HO_5.out).2.2 | (with_reducible refine Kd.C_alloc ?_ _) | (with_reducible refine Kd.C_drewN ?_ _) | (with_reducible refine Kd.C_drew ?_))); (case side2 => exact (Kd.R_reads' HO_5.out).2.1); rintro e w' ⟨rfl, ⟨nd, rfl⟩⟩) | (go_at_call 21; (with_reducible refine (tattingref5_Get.calls _ _ l0 x6_1 t271 _ ?side1 ?side2 A22.out).mono ?_); (case side1 => repeat (first | exact (Kd.C_below HR0.out (by repeat (first | (with_reducible first | exact HB.out | apply below_alloc | apply pw_below_drewN | apply below_drew1) | exact HB.out))) | (with_reducible refine Kd.C_alloc ?_ _) | (with_reducible refine Kd.C_drewN ?_ _) | (with_reducible refine Kd.C_drew ?_))); (case side2 => exact HC0.out); rintro e w' ⟨rfl, ⟨nd, rfl⟩⟩))
                        go_roundg kj12
                        case measure => have := HK1.out; have := HJ12.out; omega
                        case rel => exact ⟨(wrap64 (x6_1 + 1)), (by first | rfl | (simp; done) | (simp [*]; done)), H', ⟨by have := HK1.out; have := HJ12.out; omega⟩, ⟨by (with_reducible repeat (first | apply Kd.R_alloc | apply Kd.R_drewN | apply Kd.R_drew)); exact HO_5.out⟩, ⟨by repeat (first | (with_reducible first | exact HB.out | apply below_alloc | apply pw_below_drewN | apply below_drew1) | exact HB.out)⟩⟩
            · rw [if_neg c12] at H
              have c12b0 : decide (x6_1 ≤ (wrap64 (64 * (l0.length : Int)))) = false := decide_eq_false c12
              clear c12
              replace H := Option.bind_eq_some_iff.mp H
              obtain ⟨t266, A240, H⟩ := H
              replace H : ((tattingref5_Get.f l0 a1).bind fun t267 => (some (t266 == t267))) = some true := H
              have A24 := Aside0.mk A240
              clear A240
              replace H := Option.bind_eq_some_iff.mp H
              obtain ⟨t267, A250, H⟩ := H
              replace H : (some (t266 == t267)) = some true := H
              have A25 := Aside0.mk A250
              clear A250
              have hr_ := Option.some.inj H
              clear H
              go_wp2_with (first | ((with_reducible refine gate_callee (f := 20) rfl ?_); refine goesL_ (some 63) rfl rfl Try.func20 (by kernel_rfl) rfl #[.slice A0 l0.length c0, .int .i64 a1] rfl (by (try simp only [List.map_toArray, List.map_cons, List.map_nil]); first | done | rfl | (simp only [List.length_drop, List.length_take]; rfl)) ?_; (with_reducible refine (vec_Get.calls _ _ l0 a1 t266 _ ?side1 ?side2 A24.out).mono ?_); (case side1 => repeat (first | exact (Kd.C_below HR0.out HB.out) | (with_reducible refine Kd.C_alloc ?_ _) | (with_reducible refine Kd.C_drewN ?_ _) | (with_reducible refine Kd.C_drew ?_))); (case side2 => exact HC0.out); rintro e w' ⟨rfl, ⟨nd, rfl⟩⟩; refine ⟨_, rfl, ?_⟩) | ((with_reducible refine gate_callee (f := 21) rfl ?_); refine goesL_ (some 66) rfl rfl Try.func21 (by kernel_rfl) rfl #[.slice A0 l0.length c0, .int .i64 a1] rfl (by (try simp only [List.map_toArray, List.map_cons, List.map_nil]); first | done | rfl | (simp only [List.length_drop, List.length_take]; rfl)) ?_; (with_reducible refine (tattingref5_Get.calls _ _ l0 a1 t267 _ ?side1 ?side2 A25.out).mono ?_); (case side1 => repeat (first | exact (Kd.C_below HR0.out (by repeat (first | (with_reducible first | exact HB.out | apply below_alloc | apply pw_below_drewN | apply below_drew1) | exact HB.out))) | (with_reducible refine Kd.C_alloc ?_ _) | (with_reducible refine Kd.C_drewN ?_ _) | (with_reducible refine Kd.C_drew ?_))); (case side2 => exact HC0.out); rintro e w' ⟨rfl, ⟨nd, rfl⟩⟩; refine ⟨_, rfl, ?_⟩))
              go_ret
              exact ⟨by first | rfl | (simp [errW_none, errW_some] <;> rfl) | exact congrArg (fun b_ => Ending.returned (Value.bool b_)) hr_ | (simp [*, errW_none, errW_some] <;> rfl), by repeat (first | (with_reducible first | exact HB.out | apply below_alloc | apply pw_below_drewN | apply below_drew1) | exact HB.out)⟩
      · rw [if_neg c8] at H
        have c8b0 : ((t263.length : Int) == (l0.length : Int)) = false := beq_eq_false_iff_ne.mpr c8
        have c8b1 : ((t263.length : Int) != (l0.length : Int)) = true := bne_iff_ne.mpr c8
        have c8b2 : (t263.length == l0.length) = false := by first | simpa using c8 | (simp at c8 ⊢; omega)
        exact absurd H (by simp)
  · replace c4 := Bool.eq_false_iff.mpr c4
    subst c4
    have H1 : (some false) = some true := by rw [if_neg (show ¬ (false = true) by decide)] at H; first | done | exact H
    clear H
    have H := H1
    clear H1
    exact absurd H (by simp)

/-- THE ONE PURE STATEMENT of tattinglaw5_VecBits: yours. -/
def tattinglaw5_VecBits.Pure : Prop := ∀ (l0 : List Int) (a1 : Int), l0.length ≤ maxLen → l0.length * 8 ≤ 140737488351232 → (∀ x ∈ l0, (Lit.int .u64 x).wf = true) → (Lit.int .i64 a1).wf = true → ∃ k, tattinglaw5_VecBits.f k l0 a1 = some true
theorem tattinglaw5_VecBits.walk (P : tattinglaw5_VecBits.Pure) (a0 : Option Addr) (len0 cap0 : Nat) (z0 : List Int) (a1 : Int) (w : World) (w0 : (a0 = none ∧ len0 = 0 ∧ cap0 = 0 ∧ z0 = []) ∨ ∃ x, a0 = some x ∧ len0 ≤ cap0 ∧ cap0 ≤ maxLen ∧ z0.length = cap0 ∧ (∀ i, i < z0.length → w.cell? (x.add i) = some (.int .u64 (z0.getD i 0))) ∧ ∀ n ∈ z0, (Lit.int .u64 n).wf = true) (y0 : len0 * 8 ≤ 140737488351232) (w1 : (Lit.int .i64 a1).wf = true) :
    Calls Try.prog 5 #[.slice a0 len0 cap0, .int .i64 a1] w fun e w' => e = .returned (.bool true) ∧ Below w.heap.size w w' := by
  obtain ⟨l0, rfl, hr0, hm0, hw0, hc0⟩ := ReadsInt.ofRowC w0
  obtain ⟨k, h⟩ := P l0 a1 hm0 y0 hw0 w1
  refine (tattinglaw5_VecBits.calls k _ _ l0 a1 w (Kd.C_of_reads (d := (0 : Int)) (h1 := fun _ => rfl) hr0) hc0 h).mono ?_
  rintro e w' ⟨rfl, hd⟩
  exact ⟨rfl, hd⟩

end Go.Proofs.Yteahldmjmncmlaa.PV
