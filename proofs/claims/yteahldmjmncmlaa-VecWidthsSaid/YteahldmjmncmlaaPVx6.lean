-- Printed by a program of this session out of the seat (wip/xprint.py).
import Derived.Test.YteahldmjmncmlaaPVx0
namespace Go.Proofs.Yteahldmjmncmlaa.PV
open Go.RowKit Go.Proofs.YteahldmjmncmlaaW.PrintWords Go.Proofs.YteahldmjmncmlaaW.PrintLast Go.Proofs.YteahldmjmncmlaaW.PrintMore Go.Proofs.Yteahldmjmncmlaa.XBits
attribute [local go_sem] max2_int min2_int max_two min_two max_three min_three max_four min_four   -- for this text's walks alone
set_option linter.unusedVariables false
set_option linter.unusedSimpArgs false
attribute [local go_sem] run_ext32 run_ext35

/-! ### tattingref5_Laid: function 34 -/
mutual
def tattingref5_Laid.l0 : Nat → List Bool → Int → List Int → Int → Option (List Int)
  | 0, _, _, _, _ => none
  | k + 1, x0, x1, x5, x6 => if x6 < (x0.length : Int) then (tattingref5_Laid.j1 k x0 x1 x5 x6 (decide ((wrap64 (Int.tdiv x6 64)) < x1))) else (tattingref5_Laid.j1 k x0 x1 x5 x6 false)
def tattingref5_Laid.j1 : Nat → List Bool → Int → List Int → Int → Bool → Option (List Int)
  | 0, _, _, _, _, _ => none
  | k + 1, x0, x1, x5, x6, x18 => if x18 = true then (if 0 ≤ x6 then (if x6 < (x0.length : Int) then (if rdOf false x0 x6 = true then (if 0 ≤ (wrap64 (Int.tdiv x6 64)) then (if (wrap64 (Int.tdiv x6 64)) < (x5.length : Int) then (if 0 ≤ (IntKind.u64.wrap (Int.tmod x6 64)) then (tattingref5_Laid.l0 k x0 x1 (x5.set ((wrap64 (Int.tdiv x6 64)) : Int).toNat (Go.bits .or .u64 (rd x5 (wrap64 (Int.tdiv x6 64))) (shl .u64 1 (IntKind.u64.wrap (Int.tmod x6 64))))) (wrap64 (x6 + 1))) else (none)) else (none)) else (none)) else (tattingref5_Laid.l0 k x0 x1 x5 (wrap64 (x6 + 1)))) else (none)) else (none)) else (some x5)
end
def tattingref5_Laid.f (k : Nat) (l0 : List Bool) (a1 : Int) : Option (List Int) := if 0 ≤ a1 then (if (a1 : Int).toNat ≤ 35184372088832 then (tattingref5_Laid.l0 k l0 a1 (List.replicate (a1 : Int).toNat 0) 0) else (none)) else (none)
theorem tattingref5_Laid.mono_l : ∀ k, (∀ y0 y1 y2 y3, LeO (tattingref5_Laid.l0 k y0 y1 y2 y3) (tattingref5_Laid.l0 (k + 1) y0 y1 y2 y3)) ∧ (∀ y0 y1 y2 y3 y4, LeO (tattingref5_Laid.j1 k y0 y1 y2 y3 y4) (tattingref5_Laid.j1 (k + 1) y0 y1 y2 y3 y4))
  | 0 => ⟨fun _ _ _ _ r h => by simp [tattingref5_Laid.l0] at h, fun _ _ _ _ _ r h => by simp [tattingref5_Laid.j1] at h⟩
  | k + 1 => by
    obtain ⟨ih0, ih1⟩ := tattingref5_Laid.mono_l k
    refine ⟨?_, ?_⟩
    · intro y0 y1 y2 y3
      unfold tattingref5_Laid.l0
      repeat' first
      | (with_reducible exact ih0 _ _ _ _)
      | (with_reducible exact ih1 _ _ _ _ _)
      | (with_reducible exact LeO.refl _)
      | (with_reducible exact LeO.none _)
      | (with_reducible refine LeO.ite ?_ ?_)
      | (with_reducible refine LeO.bind ?_ (fun _ => ?_))
      | exact ih0 _ _ _ _
      | exact ih1 _ _ _ _ _
      | exact LeO.none _
      | refine LeO.ite ?_ ?_
      | refine LeO.bind ?_ (fun _ => ?_)
    · intro y0 y1 y2 y3 y4
      unfold tattingref5_Laid.j1
      repeat' first
      | (with_reducible exact ih0 _ _ _ _)
      | (with_reducible exact ih1 _ _ _ _ _)
      | (with_reducible exact LeO.refl _)
      | (with_reducible exact LeO.none _)
      | (with_reducible refine LeO.ite ?_ ?_)
      | (with_reducible refine LeO.bind ?_ (fun _ => ?_))
      | exact ih0 _ _ _ _
      | exact ih1 _ _ _ _ _
      | exact LeO.none _
      | refine LeO.ite ?_ ?_
      | refine LeO.bind ?_ (fun _ => ?_)
theorem tattingref5_Laid.mono : ∀ a0 a1 k, LeO (tattingref5_Laid.f k a0 a1) (tattingref5_Laid.f (k + 1) a0 a1) := by
  intro a0 a1 k
  obtain ⟨ih0, ih1⟩ := tattingref5_Laid.mono_l k
  unfold tattingref5_Laid.f
  repeat' first
      | (with_reducible exact ih0 _ _ _ _)
      | (with_reducible exact ih1 _ _ _ _ _)
      | (with_reducible exact LeO.refl _)
      | (with_reducible exact LeO.none _)
      | (with_reducible refine LeO.ite ?_ ?_)
      | (with_reducible refine LeO.bind ?_ (fun _ => ?_))
      | exact ih0 _ _ _ _
      | exact ih1 _ _ _ _ _
      | exact LeO.none _
      | refine LeO.ite ?_ ?_
      | refine LeO.bind ?_ (fun _ => ?_)
set_option maxHeartbeats 8000000 in
set_option maxRecDepth 100000 in
theorem tattingref5_Laid.calls (k : Nat) (A0 : Option Addr) (c0 : Nat) (l0 : List Bool) (a1 : Int) (r : List Int) (w : World) (hr0 : Kd.C Kd.bool w A0 l0.length l0) (hc0 : l0.length ≤ c0) (h : tattingref5_Laid.f k l0 a1 = some r) :
    Calls Try.prog 34 #[.slice A0 l0.length c0, .int .i64 a1] w fun e w' => ∃ v0_ : Value, e = .returned (v0_) ∧ Kd.R (Kd.int .u64) 33 w' w.heap.size (fun _ => True) v0_ r ∧ Below w.heap.size w w' := by
  have HR0 := Aside0.mk hr0
  have HC0 := Aside0.mk hc0
  clear hr0 hc0
  have HB := Aside0.mk (Below.refl w.heap.size w)
  have H : (if 0 ≤ a1 then (if (a1 : Int).toNat ≤ 35184372088832 then (tattingref5_Laid.l0 k l0 a1 (List.replicate (a1 : Int).toNat 0) 0) else (none)) else (none)) = some r := h
  clear h
  by_cases c3 : 0 ≤ a1
  · rw [if_pos c3] at H
    have c3b0 := eq_true c3
    have c3b1 : decide (0 ≤ a1) = true := decide_eq_true c3
    clear c3
    by_cases c4 : (a1 : Int).toNat ≤ 35184372088832
    · rw [if_pos c4] at H
      have c4b0 := eq_true c4
      have c4b1 : decide ((a1 : Int).toNat ≤ 35184372088832) = true := decide_eq_true c4
      clear c4
      obtain ⟨y158, hy158⟩ : ∃ y_ : List Int, y_ = (List.replicate (a1 : Int).toNat 0) := ⟨_, rfl⟩
      replace H : (tattingref5_Laid.l0 k l0 a1 y158 0) = some r := by first | (rw [hy158]; with_reducible exact H) | (have H2_ := (Option.bind_some _ _).symm.trans H; rw [hy158]; with_reducible exact H2_) | (have H2_ := (Option.bind_some _ _).symm.trans H; with_reducible exact H2_) | with_reducible exact H | (rw [hy158]; exact H) | exact H
      have Ny158 := Aside0.mk hy158
      clear hy158
      have H' := Aside0.mk H
      clear H
      go_enter Try.func34, Try.ntmps34
      go_wp2_with (first | ((with_reducible refine gate_dst (N := 8) rfl ?_); refine Kd.R_make (Kd.int .u64) _ 33 rfl (N := 8) rfl 22 _ _ rfl a1 rfl rfl Try.underlying22 (.int .u64 0) 8 info33 rfl (by decide) (by omega) 0 (ok := fun _ => True) (okp := fun _ => True) rfl (fun _ hk => hk) trivial (of_decide_eq_true (by first | (with_reducible assumption) | assumption)) (Nat.le_trans (Nat.mul_le_mul_right _ (of_decide_eq_true (by first | (with_reducible assumption) | assumption) : a1.toNat ≤ 35184372088832)) (by omega)) (Below.refl _ _) (Nat.le_refl _) ?_; intro v159 w5 ho6 hb hg_ hnew_; clear hg_ hnew_; (first | rw [← Ny158.out] at ho6 | (simp only [Int.reduceToNat] at ho6; rw [← Ny158.out] at ho6)); have n0_ := Aside0.mk (Kd.R_lower ho6 (below_size (by repeat (first | (with_reducible first | exact HB.out | apply below_alloc | apply pw_below_drewN | apply below_drew1) | exact HB.out)))); have n1_ := Aside0.mk (below_step (by repeat (first | (with_reducible first | exact HB.out | apply below_alloc | apply pw_below_drewN | apply below_drew1) | exact HB.out)) hb); clear HB; have HO160 := n0_; have HB := n1_; clear n0_ n1_; clear hb ho6))
      go_loopg [6] k (fun kq v6 w' => ∃ (x5_1 : List Int) (x6_1 : Int), v6 = .int .i64 x6_1 ∧ Aside0 (tattingref5_Laid.l0 kq l0 a1 x5_1 x6_1 = some r) ∧ Aside0 (kq ≤ k) ∧ Aside0 (Kd.R (Kd.int .u64) 33 w' w.heap.size (fun _ => True) v159 x5_1) ∧ Aside0 (Below w.heap.size w w'))
      case atStart => exact ⟨(y158), (0), (by first | rfl | (simp; done) | (simp [*]; done)), H', ⟨Nat.le_refl _⟩, ⟨by (with_reducible repeat (first | apply Kd.R_alloc | apply Kd.R_drewN | apply Kd.R_drew)); exact HO160.out⟩, ⟨by repeat (first | (with_reducible first | exact HB.out | apply below_alloc | apply pw_below_drewN | apply below_drew1) | exact HB.out)⟩⟩
      case round =>
        clear H'
        try clear p2
        try clear c3
        try clear c3b0
        try clear c3b1
        try clear c4
        try clear c4b0
        try clear c4b1
        obtain ⟨x5_1, x6_1, rfl, HA, HK1, HO_5, HB⟩ := hrel
        cases gk with
        | zero => exact absurd HA.out (by simp [tattingref5_Laid.l0])
        | succ k1 =>
          have H := HA.out
          clear HA
          simp only [tattingref5_Laid.l0] at H
          have HC7 := Aside0.mk H
          clear H
          go_upto_region 3 with (fail)
          go_cut [18] (fun v18 wc => ∃ (kq : Nat) (x18_6 : Bool), v18 = .bool x18_6 ∧ Aside0 (tattingref5_Laid.j1 kq l0 a1 x5_1 x6_1 x18_6 = some r) ∧ Aside0 (kq ≤ k1) ∧ Aside0 (Kd.R (Kd.int .u64) 33 wc w.heap.size (fun _ => True) v159 x5_1) ∧ Aside0 (Below w.heap.size w wc))
          case first =>
            have H := HC7.out
            clear HC7
            by_cases c8 : x6_1 < (l0.length : Int)
            · rw [if_pos c8] at H
              have c8b0 : decide (x6_1 < (l0.length : Int)) = true := decide_eq_true c8
              clear c8
              (first | rw [c8b0] | (simp only [i64_w, i32_w]; rw [c8b0]) | skip)
              have H' := Aside0.mk H
              clear H
              go_wp2
              go_meet
              case rel => exact ⟨_, (decide ((wrap64 (Int.tdiv x6_1 64)) < a1)), (by first | rfl | (simp; done) | (simp [*]; done)), H', ⟨by have := HK1.out; first | omega | exact Nat.le_refl _⟩, ⟨by (with_reducible repeat (first | apply Kd.R_alloc | apply Kd.R_drewN | apply Kd.R_drew)); exact HO_5.out⟩, ⟨by repeat (first | (with_reducible first | exact HB.out | apply below_alloc | apply pw_below_drewN | apply below_drew1) | exact HB.out)⟩⟩
            · rw [if_neg c8] at H
              have c8b0 : decide (x6_1 < (l0.length : Int)) = false := decide_eq_false c8
              clear c8
              (first | rw [c8b0] | (simp only [i64_w, i32_w]; rw [c8b0]) | skip)
              have H' := Aside0.mk H
              clear H
              go_wp2
              go_meet
              case rel => exact ⟨_, (false), (by first | rfl | (simp; done) | (simp [*]; done)), H', ⟨by have := HK1.out; first | omega | exact Nat.le_refl _⟩, ⟨by (with_reducible repeat (first | apply Kd.R_alloc | apply Kd.R_drewN | apply Kd.R_drew)); exact HO_5.out⟩, ⟨by repeat (first | (with_reducible first | exact HB.out | apply below_alloc | apply pw_below_drewN | apply below_drew1) | exact HB.out)⟩⟩
          case rest =>
            clear HC7
            try clear p2
            try clear c3
            try clear c3b0
            try clear c3b1
            try clear c4
            try clear c4b0
            try clear c4b1
            try clear p6
            try clear c8
            try clear c8b0
            try clear p2
            obtain ⟨kq, x18_6, rfl, HA, HJ6, HO_5, HB⟩ := hcut
            cases kq with
            | zero => exact absurd HA.out (by simp [tattingref5_Laid.j1])
            | succ kj6 =>
              have H := HA.out
              clear HA
              simp only [tattingref5_Laid.j1] at H
              by_cases c9 : x18_6 = true
              · subst c9
                have H1 : (if 0 ≤ x6_1 then (if x6_1 < (l0.length : Int) then (if rdOf false l0 x6_1 = true then (if 0 ≤ (wrap64 (Int.tdiv x6_1 64)) then (if (wrap64 (Int.tdiv x6_1 64)) < (x5_1.length : Int) then (if 0 ≤ (IntKind.u64.wrap (Int.tmod x6_1 64)) then (tattingref5_Laid.l0 kj6 l0 a1 (x5_1.set ((wrap64 (Int.tdiv x6_1 64)) : Int).toNat (Go.bits .or .u64 (rd x5_1 (wrap64 (Int.tdiv x6_1 64))) (shl .u64 1 (IntKind.u64.wrap (Int.tmod x6_1 64))))) (wrap64 (x6_1 + 1))) else (none)) else (none)) else (none)) else (tattingref5_Laid.l0 kj6 l0 a1 x5_1 (wrap64 (x6_1 + 1)))) else (none)) else (none)) = some r := by rw [if_pos rfl] at H; first | done | exact H
                clear H
                have H := H1
                clear H1
                by_cases c10 : 0 ≤ x6_1
                · rw [if_pos c10] at H
                  have c10b0 : decide (0 ≤ x6_1) = true := decide_eq_true c10
                  clear c10
                  by_cases c11 : x6_1 < (l0.length : Int)
                  · rw [if_pos c11] at H
                    have c11b0 : decide (x6_1 < (l0.length : Int)) = true := decide_eq_true c11
                    clear c11
                    obtain ⟨bq12, hbq12⟩ : ∃ b_ : Bool, b_ = (rdOf false l0 x6_1) := ⟨_, rfl⟩
                    replace H : (if bq12 = true then (if 0 ≤ (wrap64 (Int.tdiv x6_1 64)) then (if (wrap64 (Int.tdiv x6_1 64)) < (x5_1.length : Int) then (if 0 ≤ (IntKind.u64.wrap (Int.tmod x6_1 64)) then (tattingref5_Laid.l0 kj6 l0 a1 (x5_1.set ((wrap64 (Int.tdiv x6_1 64)) : Int).toNat (Go.bits .or .u64 (rd x5_1 (wrap64 (Int.tdiv x6_1 64))) (shl .u64 1 (IntKind.u64.wrap (Int.tmod x6_1 64))))) (wrap64 (x6_1 + 1))) else (none)) else (none)) else (none)) else (tattingref5_Laid.l0 kj6 l0 a1 x5_1 (wrap64 (x6_1 + 1)))) = some r := by rw [← hbq12] at H; first | done | exact H
                    have Nbq12 := Aside0.mk hbq12
                    clear hbq12
                    by_cases c13 : bq12 = true
                    · subst c13
                      have H1 : (if 0 ≤ (wrap64 (Int.tdiv x6_1 64)) then (if (wrap64 (Int.tdiv x6_1 64)) < (x5_1.length : Int) then (if 0 ≤ (IntKind.u64.wrap (Int.tmod x6_1 64)) then (tattingref5_Laid.l0 kj6 l0 a1 (x5_1.set ((wrap64 (Int.tdiv x6_1 64)) : Int).toNat (Go.bits .or .u64 (rd x5_1 (wrap64 (Int.tdiv x6_1 64))) (shl .u64 1 (IntKind.u64.wrap (Int.tmod x6_1 64))))) (wrap64 (x6_1 + 1))) else (none)) else (none)) else (none)) = some r := by rw [if_pos rfl] at H; first | done | exact H
                      clear H
                      have H := H1
                      clear H1
                      obtain ⟨ji14, hji14⟩ : ∃ j_ : Int, (wrap64 (Int.tdiv x6_1 64)) = j_ := ⟨_, rfl⟩
                      replace H : (if 0 ≤ (ji14) then (if (ji14) < (x5_1.length : Int) then (if 0 ≤ (IntKind.u64.wrap (Int.tmod x6_1 64)) then (tattingref5_Laid.l0 kj6 l0 a1 (x5_1.set ((ji14) : Int).toNat (Go.bits .or .u64 (rd x5_1 (ji14)) (shl .u64 1 (IntKind.u64.wrap (Int.tmod x6_1 64))))) (wrap64 (x6_1 + 1))) else (none)) else (none)) else (none)) = some r := by first | (rw [hji14] at H; exact H) | (simp only [hji14] at H ⊢; exact H)
                      have hji14w : (IntKind.i64.wrap (Int.tdiv x6_1 64)) = ji14 := (i64_w _).trans hji14
                      by_cases c15 : 0 ≤ (ji14)
                      · rw [if_pos c15] at H
                        have c15b0 : decide (0 ≤ (ji14)) = true := decide_eq_true c15
                        clear c15
                        by_cases c16 : (ji14) < (x5_1.length : Int)
                        · rw [if_pos c16] at H
                          have c16b0 : decide ((ji14) < (x5_1.length : Int)) = true := decide_eq_true c16
                          clear c16
                          obtain ⟨ji17, hji17⟩ : ∃ j_ : Int, (IntKind.u64.wrap (Int.tmod x6_1 64)) = j_ := ⟨_, rfl⟩
                          replace H : (if 0 ≤ (ji17) then (tattingref5_Laid.l0 kj6 l0 a1 (x5_1.set ((ji14) : Int).toNat (Go.bits .or .u64 (rd x5_1 (ji14)) (shl .u64 1 (ji17)))) (wrap64 (x6_1 + 1))) else (none)) = some r := by first | (rw [hji17] at H; exact H) | (simp only [hji17] at H ⊢; exact H)
                          by_cases c18 : 0 ≤ (ji17)
                          · rw [if_pos c18] at H
                            have c18b0 := eq_true c18
                            have c18b1 : decide (0 ≤ (ji17)) = true := decide_eq_true c18
                            clear c18
                            obtain ⟨ji19, hji19⟩ : ∃ j_ : Int, (shl .u64 1 (ji17)) = j_ := ⟨_, rfl⟩
                            replace H : (tattingref5_Laid.l0 kj6 l0 a1 (x5_1.set ((ji14) : Int).toNat (Go.bits .or .u64 (rd x5_1 (ji14)) (ji19))) (wrap64 (x6_1 + 1))) = some r := by first | (rw [hji19] at H; exact H) | (simp only [hji19] at H ⊢; exact H)
                            have hji19_ : (IntKind.u64.wrap (1 * 2 ^ min (ji17).toNat 64)) = ji19 := hji19
                            have hji19z : (ji17) ≤ 64 → (IntKind.u64.wrap (1 * 2 ^ (ji17).toNat)) = ji19 := shl_small hji19
                            have hji19u : (IntKind.u64.wrap (2 ^ min (ji17).toNat 64)) = ji19 := by have h_ := hji19_; rw [Int.one_mul] at h_; exact h_
                            have hji19v : (ji17) ≤ 64 → (IntKind.u64.wrap (2 ^ (ji17).toNat)) = ji19 := fun hle_ => by have h_ := hji19z hle_; rw [Int.one_mul] at h_; exact h_
                            obtain ⟨y163, hy163⟩ : ∃ y_ : List Int, y_ = (x5_1.set ((ji14) : Int).toNat (Go.bits .or .u64 (rd x5_1 (ji14)) (ji19))) := ⟨_, rfl⟩
                            replace H : (tattingref5_Laid.l0 kj6 l0 a1 y163 (wrap64 (x6_1 + 1))) = some r := by first | (rw [hy163]; with_reducible exact H) | (have H2_ := (Option.bind_some _ _).symm.trans H; rw [hy163]; with_reducible exact H2_) | (have H2_ := (Option.bind_some _ _).symm.trans H; with_reducible exact H2_) | with_reducible exact H | (rw [hy163]; exact H) | exact H
                            have Ny163 := Aside0.mk hy163
                            clear hy163
                            have H' := Aside0.mk H
                            clear H
                            have p161 : 0 ≤ (x6_1 : Int) := of_decide_eq_true (by first | (with_reducible assumption) | assumption)
                            have q161 : x6_1 < (l0.length : Int) := of_decide_eq_true (by first | (with_reducible assumption) | assumption)
                            obtain ⟨ad161, e161, hx161_0⟩ := Kd.at_bool HR0.out x6_1 p161 q161
                            (try rw [← Nbq12.out] at hx161_0)
                            cases e161
                            replace hx161_0 := (HB.out.cell (World.block_lt_of_cell? w _ hx161_0)).trans hx161_0
                            replace p161 := eq_true p161
                            replace q161 := eq_true q161
                            obtain ⟨Ao21, co21, eo21⟩ := Kd.R_slice HO_5.out
                            subst eo21
                            have p162 : 0 ≤ ((ji14) : Int) := of_decide_eq_true (by first | (with_reducible assumption) | assumption)
                            have q162 : (ji14) < (x5_1.length : Int) := of_decide_eq_true (by first | (with_reducible assumption) | assumption)
                            obtain ⟨ad162, e162, hx162_0⟩ := Kd.at_int (Kd.R_reads' HO_5.out).2.2 (ji14) p162 q162
                            cases e162
                            replace p162 := eq_true p162
                            replace q162 := eq_true q162
                            have p20 : 0 ≤ ((ji14) : Int) := of_decide_eq_true (by first | (with_reducible assumption) | assumption)
                            have q20 : ((ji14) : Int) < ((x5_1.length : Int) : Int) := of_decide_eq_true (by first | (with_reducible assumption) | assumption)
                            obtain ⟨go20, co20, eo20, gb20, gl20, cl20, HG20⟩ := Kd.R_form HO_5.out (by omega)
                            (first | cases eo20 | (injection eo20 with ea_ en_ ec_; (first | subst ea_ | (injection ea_ with ea_; subst ea_)); subst ec_; clear en_))
                            have GB20 := Aside0.mk gb20
                            have GG20 := Aside0.mk HG20
                            clear gb20 gl20 HG20
                            (first | simp only [add_plain] at hx162_0 | skip)
                            obtain ⟨hx20_0, hf20_0⟩ := Kd.R_celln 0 HO_5.out ((ji14) : Int) p20 q20
                            replace p20 := eq_true p20
                            replace q20 := eq_true q20
                            have HP22 := Kd.R_putg HO_5.out ((ji14) : Int) (Go.bits .or .u64 (rd x5_1 (ji14)) (ji19))
                            go_wp2_with (first | ((with_reducible refine gate_store (t := 33) (p := 38) rfl ?_); refine store_event (t := 33) (p := 38) (v := ?vo_w23) (w1 := (wc.setCell ⟨go20, ((ji14) : Int).toNat, none⟩ (.int .u64 (Go.bits .or .u64 (rd x5_1 (ji14)) (ji19))))) ?hg ?ho ?hn ?hr ?_; (case ho => rfl); (case hg => rfl); (case hn => rfl); (case hr => first | (go_simp; done) | (go_simp; rfl)); intro w23 hw; have hg : wc.grownBy w23 (some go20) := (by rw [hw]; exact HP22.2); have hp_ : Kd.R (Kd.int .u64) 33 w23 w.heap.size (fun _ => True) (.slice (some ⟨go20, 0, none⟩) x5_1.length co21) y163 := (by rw [hw, Ny163.out]; exact HP22.1); clear HP22; have n0_ := Aside0.mk (hp_); have n1_ := Aside0.mk ((by rw [hw]; exact below_set (HB.out) GB20.out : Below w.heap.size w w23)); clear HO_5; clear HB; have HO_5 := n0_; have HB := n1_; clear n0_ n1_; clear hg hw hp_))
                            go_roundg kj6
                            case measure => have := HK1.out; have := HJ6.out; omega
                            case rel => exact ⟨(y163), (wrap64 (x6_1 + 1)), (by first | rfl | (simp; done) | (simp [*]; done)), H', ⟨by have := HK1.out; have := HJ6.out; omega⟩, ⟨by (with_reducible repeat (first | apply Kd.R_alloc | apply Kd.R_drewN | apply Kd.R_drew)); exact HO_5.out⟩, ⟨by repeat (first | (with_reducible first | exact HB.out | apply below_alloc | apply pw_below_drewN | apply below_drew1) | exact HB.out)⟩⟩
                          · rw [if_neg c18] at H
                            exact absurd H (by simp)
                        · rw [if_neg c16] at H
                          exact absurd H (by simp)
                      · rw [if_neg c15] at H
                        exact absurd H (by simp)
                    · replace c13 := Bool.eq_false_iff.mpr c13
                      subst c13
                      have H1 : (tattingref5_Laid.l0 kj6 l0 a1 x5_1 (wrap64 (x6_1 + 1))) = some r := by rw [if_neg (show ¬ (false = true) by decide)] at H; first | done | exact H
                      clear H
                      have H := H1
                      clear H1
                      have H' := Aside0.mk H
                      clear H
                      have p161 : 0 ≤ (x6_1 : Int) := of_decide_eq_true (by first | (with_reducible assumption) | assumption)
                      have q161 : x6_1 < (l0.length : Int) := of_decide_eq_true (by first | (with_reducible assumption) | assumption)
                      obtain ⟨ad161, e161, hx161_0⟩ := Kd.at_bool HR0.out x6_1 p161 q161
                      (try rw [← Nbq12.out] at hx161_0)
                      cases e161
                      replace hx161_0 := (HB.out.cell (World.block_lt_of_cell? w _ hx161_0)).trans hx161_0
                      replace p161 := eq_true p161
                      replace q161 := eq_true q161
                      go_wp2
                      go_roundg kj6
                      case measure => have := HK1.out; have := HJ6.out; omega
                      case rel => exact ⟨(x5_1), (wrap64 (x6_1 + 1)), (by first | rfl | (simp; done) | (simp [*]; done)), H', ⟨by have := HK1.out; have := HJ6.out; omega⟩, ⟨by (with_reducible repeat (first | apply Kd.R_alloc | apply Kd.R_drewN | apply Kd.R_drew)); exact HO_5.out⟩, ⟨by repeat (first | (with_reducible first | exact HB.out | apply below_alloc | apply pw_below_drewN | apply below_drew1) | exact HB.out)⟩⟩
                  · rw [if_neg c11] at H
                    exact absurd H (by simp)
                · rw [if_neg c10] at H
                  exact absurd H (by simp)
              · replace c9 := Bool.eq_false_iff.mpr c9
                subst c9
                have H1 : (some x5_1) = some r := by rw [if_neg (show ¬ (false = true) by decide)] at H; first | done | exact H
                clear H
                have H := H1
                clear H1
                obtain rfl := Option.some.inj H
                go_wp2
                go_ret
                exact ⟨_, by first | rfl | (simp [errW_none, errW_some] <;> rfl) | (simp [*, errW_none, errW_some] <;> rfl), by (with_reducible repeat (first | apply Kd.R_alloc | apply Kd.R_drewN | apply Kd.R_drew)); exact HO_5.out, by repeat (first | (with_reducible first | exact HB.out | apply below_alloc | apply pw_below_drewN | apply below_drew1) | exact HB.out)⟩
    · rw [if_neg c4] at H
      exact absurd H (by simp)
  · rw [if_neg c3] at H
    exact absurd H (by simp)

end Go.Proofs.Yteahldmjmncmlaa.PV
