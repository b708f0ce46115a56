import Derived.Test.YtdhbnblpkodhjaaDoorUptoX
import Derived.Test.YtdhbnblpkodhjaaDoorRefEncCodedCuts
import Derived.Test.YtdhbnblpkodhjaaDoorSmallCodedCuts
import Derived.Test.YtdhbnblpkodhjaaDoorDecCodedCuts
import Derived.Test.YtdhbnblpkodhjaaDoorFmtKitCodedCuts
namespace Go.Proofs.YtdhbnblpkodhjaaDoor.ECodedCuts
open Go Go.Proofs.YtdhbnblpkodhjaaDoor.AE Go.Proofs.YtdhbnblpkodhjaaDoor
set_option linter.unusedVariables false
set_option linter.unusedSimpArgs false
abbrev HkT : Ty := .slice (.pair (.int .i64) (.pair (.slice (.slice (.int .u8))) (.one (.slice (.slice (.int .u8))))))
theorem bytes_of {s : List Hk} (w : WU 1048576 HkT s) : s.length ≤ 1048576 ∧ (∀ h ∈ s, h.2.1.length ≤ 1048576 ∧ h.2.2.length ≤ 1048576) ∧ BytH s ∧ (∀ h ∈ s, (∀ t ∈ h.2.1, OkB t) ∧ (∀ t ∈ h.2.2, OkB t)) := by
  refine ⟨w.1.2, fun h hh => ?_, fun h hh => ?_, fun h hh => ?_⟩
  · obtain ⟨_, a, b⟩ := w.2 h hh
    exact ⟨a.1.2, b.1.2⟩
  · obtain ⟨_, a, b⟩ := w.2 h hh
    exact ⟨fun t ht => ⟨Nat.le_trans (a.2 t ht).1.2 (by decide), fun x hx => wf_u8 ((a.2 t ht).2 x hx)⟩, fun t ht => ⟨Nat.le_trans (b.2 t ht).1.2 (by decide), fun x hx => wf_u8 ((b.2 t ht).2 x hx)⟩⟩
  · obtain ⟨_, a, b⟩ := w.2 h hh
    exact ⟨fun t ht x hx => wf_u8 ((a.2 t ht).2 x hx), fun t ht x hx => wf_u8 ((b.2 t ht).2 x hx)⟩
theorem ats_of {s : List Hk} (w : WU 1048576 HkT s) : ∀ h ∈ s, -9223372036854775808 ≤ h.1 ∧ h.1 ≤ 9223372036854775807 := fun h hh => wf_i64 (w.2 h hh).1
theorem awake : R11 40000 () = some true := by kernel_rfl
/-- The law's own function, behind the choice of the mode: what it does with a script that is one. -/
theorem cuts (mode : Int) (s : List Hk) (b4 : ∀ h ∈ s, (∀ t ∈ h.2.1, OkB t) ∧ (∀ t ∈ h.2.2, OkB t)) (hB2 : (hunksB s).length ≤ 31488) (hm : mode = 0 ∨ mode = 1) (ho : hunksOk mode (-1) s) (i : Nat) (hi : i < (encS mode s).length) :
    R14 40000 (cut (encS mode s) 0 (i : Int)) = some (0, [], (cutP s i : Int), 4) := by
  have hl := enc_len mode s
  have ec : cut (encS mode s) 0 (i : Int) = (encS mode s).take i := rfl
  rw [ec, Decode_is 39994 _ (fun x hx => okB_enc ho b4 x (List.mem_of_mem_take hx)) (by rw [List.length_take]; omega) (by rw [List.length_take]; omega), dec_cut mode s i hm ho hi]
theorem tmod_nat (a b : Nat) : (a : Int).tmod (b : Int) = ((a % b : Nat) : Int) := rfl
theorem law (lines : Bool) (s : List Hk) (x y : Int) (w1 : WU 1048576 HkT s) (w2 : WU 1048576 (.int .u16) x) (w3 : WU 1048576 (.int .u16) y) : R8 40001 lines s x y = some true := by
  obtain ⟨b1, b2, b3, b4⟩ := bytes_of w1
  have hat := ats_of w1
  have hx := wf_u16 w2
  have hy := wf_u16 w3
  obtain ⟨xn, rfl⟩ : ∃ n : Nat, x = (n : Int) := ⟨x.toNat, by omega⟩
  obtain ⟨yn, rfl⟩ : ∃ n : Nat, y = (n : Int) := ⟨y.toNat, by omega⟩
  have wx : IntKind.wrap .i64 (xn : Int) = (xn : Int) := w64 (by omega) (by omega)
  have wy : IntKind.wrap .i64 (yn : Int) = (yn : Int) := w64 (by omega) (by omega)
  rw [u8]
  unfold r8
  dsimp only
  rw [awake, Option.bind_some, small_is 39999 (by omega) s b1 b2, Option.bind_some]
  cases hs : smallS s with
  | false => rfl
  | true =>
    unfold smallS at hs
    rw [Bool.and_eq_true, decide_eq_true_eq] at hs
    have hB := hunks_small s hs.2
    have hB2 : (hunksB s).length ≤ 31488 := by omega
    simp only [Bool.not_true, cond_false]
    have main : ∀ mode : Int, R13 40000 mode s = some (encS mode s, 0) ∧ (mode = 0 ∨ mode = 1) ∧ hunksOk mode (-1) s ∨ R13 40000 mode s = some ([], 1) ∧ R9 40000 mode s = some ([], 1) := by
      intro mode
      rcases REncode_is 39992 mode s b3 (by omega) (by omega) hat with ⟨hm, ho, e⟩ | ⟨hn, e⟩
      · exact .inl ⟨e, hm, ho⟩
      · rcases Encode_is 39993 mode s b3 (by omega) (by omega) with ⟨hm, ho, _⟩ | ⟨_, e2⟩
        · exact absurd ⟨hm, ho⟩ hn
        · exact .inr ⟨e, e2⟩
    cases lines with
    | true =>
      simp only [cond_true]
      rcases main 1 with ⟨e, hm, ho⟩ | ⟨e, e2⟩
      · have hl := enc_len 1 s
        have hpos : 0 < (encS 1 s).length := by omega
        have m1 := Nat.mod_lt xn hpos
        have m2 := Nat.mod_lt yn hpos
        have D := cuts 1 s b4 hB2 hm ho
        have c1 := D _ m1
        have c2 := D _ m2
        rw [e, Option.bind_some]
        simp only [decide_true, Bool.not_true, cond_false, wx, wy, tmod_nat]
        rw [if_neg (by omega), if_neg (by omega)]
        generalize xn % (encS 1 s).length = i at *
        generalize yn % (encS 1 s).length = j at *
        have p1 := cutL_le (16 :: allLens s) 0 i (Nat.zero_le _)
        have p2 := cutL_le (16 :: allLens s) 0 j (Nat.zero_le _)
        by_cases hij : (i : Int) > (j : Int)
        · have p3 := cutL_mono (16 :: allLens s) 0 j i (by omega)
          rw [decide_eq_true hij, cond_true, if_pos (by omega), c2, Option.bind_some, if_pos (by omega), c1, Option.bind_some]
          simp only [decide_true, beq_self_eq_true, cond_true]
          rw [decide_eq_true (show (cutP s j : Int) ≥ 0 by omega), decide_eq_true (show (cutP s j : Int) ≤ (cutP s i : Int) by unfold cutP; omega), decide_eq_true (show (cutP s j : Int) ≤ (j : Int) by unfold cutP; omega), decide_eq_true (show (cutP s i : Int) ≤ (i : Int) by unfold cutP; omega)]
          rfl
        · have p3 := cutL_mono (16 :: allLens s) 0 i j (by omega)
          rw [decide_eq_false hij, cond_false, if_pos (by omega), c1, Option.bind_some, if_pos (by omega), c2, Option.bind_some]
          simp only [decide_true, beq_self_eq_true, cond_true]
          rw [decide_eq_true (show (cutP s i : Int) ≥ 0 by omega), decide_eq_true (show (cutP s i : Int) ≤ (cutP s j : Int) by unfold cutP; omega), decide_eq_true (show (cutP s i : Int) ≤ (i : Int) by unfold cutP; omega), decide_eq_true (show (cutP s j : Int) ≤ (j : Int) by unfold cutP; omega)]
          rfl
      · rw [e, Option.bind_some, e2]
        rfl
    | false =>
      simp only [cond_false]
      rcases main 0 with ⟨e, hm, ho⟩ | ⟨e, e2⟩
      · have hl := enc_len 0 s
        have hpos : 0 < (encS 0 s).length := by omega
        have m1 := Nat.mod_lt xn hpos
        have m2 := Nat.mod_lt yn hpos
        have D := cuts 0 s b4 hB2 hm ho
        have c1 := D _ m1
        have c2 := D _ m2
        rw [e, Option.bind_some]
        simp only [decide_true, Bool.not_true, cond_false, wx, wy, tmod_nat]
        rw [if_neg (by omega), if_neg (by omega)]
        generalize xn % (encS 0 s).length = i at *
        generalize yn % (encS 0 s).length = j at *
        have p1 := cutL_le (16 :: allLens s) 0 i (Nat.zero_le _)
        have p2 := cutL_le (16 :: allLens s) 0 j (Nat.zero_le _)
        by_cases hij : (i : Int) > (j : Int)
        · have p3 := cutL_mono (16 :: allLens s) 0 j i (by omega)
          rw [decide_eq_true hij, cond_true, if_pos (by omega), c2, Option.bind_some, if_pos (by omega), c1, Option.bind_some]
          simp only [decide_true, beq_self_eq_true, cond_true]
          rw [decide_eq_true (show (cutP s j : Int) ≥ 0 by omega), decide_eq_true (show (cutP s j : Int) ≤ (cutP s i : Int) by unfold cutP; omega), decide_eq_true (show (cutP s j : Int) ≤ (j : Int) by unfold cutP; omega), decide_eq_true (show (cutP s i : Int) ≤ (i : Int) by unfold cutP; omega)]
          rfl
        · have p3 := cutL_mono (16 :: allLens s) 0 i j (by omega)
          rw [decide_eq_false hij, cond_false, if_pos (by omega), c1, Option.bind_some, if_pos (by omega), c2, Option.bind_some]
          simp only [decide_true, beq_self_eq_true, cond_true]
          rw [decide_eq_true (show (cutP s i : Int) ≥ 0 by omega), decide_eq_true (show (cutP s i : Int) ≤ (cutP s j : Int) by unfold cutP; omega), decide_eq_true (show (cutP s i : Int) ≤ (i : Int) by unfold cutP; omega), decide_eq_true (show (cutP s j : Int) ≤ (j : Int) by unfold cutP; omega)]
          rfl
      · rw [e, Option.bind_some, e2]
        rfl
theorem law_run (a0 : Bool) (w0 : WU 1048576 .bool a0) (a1 : List Hk) (w1 : WU 1048576 HkT a1) (a2 : Int) (w2 : WU 1048576 (.int .u16) a2) (a3 : Int) (w3 : WU 1048576 (.int .u16) a3) : runHow E (evalF E 40000) 40000 s8 (a0, a1, a2, a3) h8 = some true :=
  (law_R 40000 a0 a1 a2 a3).trans (law a0 a1 a2 a3 w1 w2 w3)
end Go.Proofs.YtdhbnblpkodhjaaDoor.ECodedCuts
