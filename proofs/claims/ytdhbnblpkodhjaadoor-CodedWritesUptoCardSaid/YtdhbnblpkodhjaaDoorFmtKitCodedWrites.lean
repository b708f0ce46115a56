import Derived.Test.YtdhbnblpkodhjaaDoorFmtCodedWrites
namespace Go.Proofs.YtdhbnblpkodhjaaDoor.ECodedWrites
open Go Go.Proofs.YtdhbnblpkodhjaaDoor.AE Go.Proofs.YtdhbnblpkodhjaaDoor
set_option linter.unusedVariables false
set_option linter.unusedSimpArgs false
/-! A script's bytes are bytes. -/
def OkB (l : List Int) : Prop := ∀ x ∈ l, 0 ≤ x ∧ x ≤ 255
theorem okB_app {a b : List Int} (h1 : OkB a) (h2 : OkB b) : OkB (a ++ b) := fun x hx => (List.mem_append.1 hx).elim (h1 x) (h2 x)
theorem okB_cons {c : Int} {b : List Int} (h1 : 0 ≤ c ∧ c ≤ 255) (h2 : OkB b) : OkB (c :: b) := fun x hx => (List.mem_cons.1 hx).elim (fun e => e ▸ h1) (h2 x)
theorem okB_nil : OkB [] := fun x hx => by cases hx
theorem okB_dg {u : Nat} (h : u ≤ 1048576) : OkB (dg u) := fun x hx => by have := dg_digit u (by omega) x hx; omega
theorem okB_tok {t : List Int} (h : t.length ≤ 1048576) (hb : OkB t) : OkB (tokB t) := okB_app (okB_dg h) (okB_cons (by omega) (okB_app hb (okB_cons (by omega) okB_nil)))
theorem okB_toks : ∀ {l : List (List Int)}, (∀ t ∈ l, t.length ≤ 1048576 ∧ OkB t) → OkB (toksB l)
  | [], _ => okB_nil
  | t :: l, h => okB_app (okB_tok (h t (by simp)).1 (h t (by simp)).2) (okB_toks fun x hx => h x (by simp [hx]))
theorem okB_line {x y z : Nat} (hx : x ≤ 1048576) (hy : y ≤ 1048576) (hz : z ≤ 1048576) : OkB (lineB x y z) :=
  okB_cons (by omega) (okB_app (okB_dg hx) (okB_cons (by omega) (okB_app (okB_dg hy) (okB_cons (by omega) (okB_app (okB_dg hz) (okB_cons (by omega) okB_nil))))))
theorem okB_hunks {mode : Int} : ∀ {s : List Hk} {en : Int}, hunksOk mode en s → (∀ h ∈ s, (∀ t ∈ h.2.1, OkB t) ∧ (∀ t ∈ h.2.2, OkB t)) → OkB (hunksB s)
  | [], _, _, _ => okB_nil
  | h :: s, en, ho, hb => by
    obtain ⟨⟨a1, a2, a3, a4, ⟨a5, a6⟩, a7, a8⟩, a9⟩ := ho
    have hh := hb h (by simp)
    refine okB_app (okB_app (okB_line (by omega) a5 a7) (okB_app (okB_toks fun t ht => ⟨(a6 t ht).2, hh.1 t ht⟩) (okB_toks fun t ht => ⟨(a8 t ht).2, hh.2 t ht⟩))) (okB_hunks a9 fun x hx => hb x (by simp [hx]))
theorem okB_hd (mode : Int) : OkB (hd mode) := by
  unfold hd
  split <;> (intro x hx; revert x hx; decide)
theorem okB_enc {mode : Int} {s : List Hk} (ho : hunksOk mode (-1) s) (hb : ∀ h ∈ s, (∀ t ∈ h.2.1, OkB t) ∧ (∀ t ∈ h.2.2, OkB t)) : OkB (encS mode s) :=
  okB_app (okB_hd mode) (okB_app (okB_hunks ho hb) (okB_cons (by omega) (okB_cons (by omega) okB_nil)))
theorem enc_len (mode : Int) (s : List Hk) : (encS mode s).length = (hunksB s).length + 18 := by
  unfold encS
  rw [List.length_append, hd_len, List.length_append]
  simp
  omega
theorem mem_tok {t : List Int} {x : Int} (h : x ∈ t) : x ∈ tokB t := by
  unfold tokB
  simp [h]
theorem mem_toks {l : List (List Int)} {t : List Int} {x : Int} (h1 : t ∈ l) (h : x ∈ t) : x ∈ toksB l :=
  List.mem_flatten.2 ⟨tokB t, List.mem_map_of_mem h1, mem_tok h⟩
theorem mem_hunks {s : List Hk} {h : Hk} {t : List Int} {x : Int} (h0 : h ∈ s) (h1 : t ∈ h.2.1 ∨ t ∈ h.2.2) (hx : x ∈ t) : x ∈ hunksB s := by
  refine List.mem_flatten.2 ⟨hunkB h, List.mem_map_of_mem h0, ?_⟩
  unfold hunkB
  rcases h1 with h1 | h1
  · exact List.mem_append.2 (.inr (List.mem_append.2 (.inl (mem_toks h1 hx))))
  · exact List.mem_append.2 (.inr (List.mem_append.2 (.inr (mem_toks h1 hx))))
theorem mem_enc {mode : Int} {s : List Hk} {x : Int} (h : x ∈ hunksB s) : x ∈ encS mode s := by
  unfold encS
  exact List.mem_append.2 (.inr (List.mem_append.2 (.inl h)))
theorem ok_mem {mode : Int} : ∀ {s : List Hk} {en : Int}, hunksOk mode en s → ∀ h ∈ s, toksOk mode h.2.1 ∧ toksOk mode h.2.2
  | [], _, _, h, hh => by cases hh
  | x :: s, en, ho, h, hh => by
    obtain ⟨⟨_, _, _, _, a5, a7⟩, a9⟩ := ho
    rcases List.mem_cons.1 hh with rfl | hh
    · exact ⟨a5, a7⟩
    · exact ok_mem a9 h hh
/-- A script that was read is of bytes. -/
theorem byt_of_enc {mode : Int} {s : List Hk} (ho : hunksOk mode (-1) s) (hb : OkB (encS mode s)) : ∀ h ∈ s, (∀ t ∈ h.2.1, t.length ≤ 1048576 ∧ OkB t) ∧ (∀ t ∈ h.2.2, t.length ≤ 1048576 ∧ OkB t) := fun h hh =>
  ⟨fun t ht => ⟨((ok_mem ho h hh).1.2 t ht).2, fun x hx => hb x (mem_enc (mem_hunks hh (.inl ht) hx))⟩, fun t ht => ⟨((ok_mem ho h hh).2.2 t ht).2, fun x hx => hb x (mem_enc (mem_hunks hh (.inr ht) hx))⟩⟩
theorem bytesStr_strEq (x : List Int) : strEq (bytesStr x) (bytesStr x) = true := by
  unfold strEq
  simp
end Go.Proofs.YtdhbnblpkodhjaaDoor.ECodedWrites
