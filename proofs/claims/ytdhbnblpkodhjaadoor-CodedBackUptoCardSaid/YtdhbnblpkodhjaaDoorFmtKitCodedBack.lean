import Derived.Test.YtdhbnblpkodhjaaDoorFmtCodedBack
namespace Go.Proofs.YtdhbnblpkodhjaaDoor.ECodedBack
open Go Go.Proofs.YtdhbnblpkodhjaaDoor.AE Go.Proofs.YtdhbnblpkodhjaaDoor
set_option linter.unusedVariables false
set_option linter.unusedSimpArgs false
/-! A script's bytes are bytes. -/
def OkB (l : List Int) : Prop := ∀ x ∈ l, 0 ≤ x ∧ x ≤ 255
theorem okB_app {a b : List Int} (h1 : OkB a) (h2 : OkB b) : OkB (a ++ b) := fun x hx => (List.mem_append.1 hx).elim (h1 x) (h2 x)
theorem okB_cons {c : Int} {b : List Int} (h1 : 0 ≤ c ∧ c ≤ 255) (h2 : OkB b) : OkB (c :: b) := fun x hx => (List.mem_cons.1 hx).elim (fun e => e ▸ h1) (h2 x)
theorem okB_nil : OkB [] := fun x hx => by cases hx
theorem okB_dg {u : Nat} (h : u ≤ 1048576) : OkB (dg u) := fun x hx => by have := dg_digit u (by omega) x hx; omega
theorem okB_tok {t : List Int} (h : t.length ≤ 1048576) (hb : OkB t) : OkB (tokB t) := okB_app (okB_dg h) (okB_cons (by omega) (okB_app hb (okB_cons (by omega) okB_nil)))
theorem okB_toks : ∀ {l : List (List Int)}, (∀ t ∈ l, t.length ≤ 1048576 ∧ OkB t) → OkB (toksB l)
  | [], _ => okB_nil
  | t :: l, h => okB_app (okB_tok (h t (by simp)).1 (h t (by simp)).2) (okB_toks fun x hx => h x (by simp [hx]))
theorem okB_line {x y z : Nat} (hx : x ≤ 1048576) (hy : y ≤ 1048576) (hz : z ≤ 1048576) : OkB (lineB x y z) :=
  okB_cons (by omega) (okB_app (okB_dg hx) (okB_cons (by omega) (okB_app (okB_dg hy) (okB_cons (by omega) (okB_app (okB_dg hz) (okB_cons (by omega) okB_nil))))))
theorem okB_hunks {mode : Int} : ∀ {s : List Hk} {en : Int}, hunksOk mode en s → (∀ h ∈ s, (∀ t ∈ h.2.1, OkB t) ∧ (∀ t ∈ h.2.2, OkB t)) → OkB (hunksB s)
  | [], _, _, _ => okB_nil
  | h :: s, en, ho, hb => by
    obtain ⟨⟨a1, a2, a3, a4, ⟨a5, a6⟩, a7, a8⟩, a9⟩ := ho
    have hh := hb h (by simp)
    refine okB_app (okB_app (okB_line (by omega) a5 a7) (okB_app (okB_toks fun t ht => ⟨(a6 t ht).2, hh.1 t ht⟩) (okB_toks fun t ht => ⟨(a8 t ht).2, hh.2 t ht⟩))) (okB_hunks a9 fun x hx => hb x (by simp [hx]))
theorem okB_hd (mode : Int) : OkB (hd mode) := by
  unfold hd
  split <;> (intro x hx; revert x hx; decide)
theorem okB_enc {mode : Int} {s : List Hk} (ho : hunksOk mode (-1) s) (hb : ∀ h ∈ s, (∀ t ∈ h.2.1, OkB t) ∧ (∀ t ∈ h.2.2, OkB t)) : OkB (encS mode s) :=
  okB_app (okB_hd mode) (okB_app (okB_hunks ho hb) (okB_cons (by omega) (okB_cons (by omega) okB_nil)))
theorem enc_len (mode : Int) (s : List Hk) : (encS mode s).length = (hunksB s).length + 18 := by
  unfold encS
  rw [List.length_append, hd_len, List.length_append]
  simp
  omega
end Go.Proofs.YtdhbnblpkodhjaaDoor.ECodedBack
