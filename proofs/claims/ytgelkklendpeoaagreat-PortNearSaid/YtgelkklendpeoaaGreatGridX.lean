/- The table of tattingref7.Behind as data. -/
import Derived.Test.YtgelkklendpeoaaGreatWQ
import Derived.Test.YtgelkklendpeoaaGreatBehT
import Derived.Test.YtgelkklendpeoaaGreatAeB
namespace Go.Proofs.YtgelkklendpeoaaGreat.GridX
open Go Go.RowKit Go.Proofs.YtgelkklendpeoaaGreatW.PrintWords Go.Proofs.YtgelkklendpeoaaGreatW.PrintLast Go.Proofs.YtgelkklendpeoaaGreat.AE Go.Proofs.YtgelkklendpeoaaGreat.VecMath
set_option maxRecDepth 100000
set_option linter.unusedVariables false
section
variable {X : ExtRep}
theorem ints {k : IntKind} {w : World} {ok : Nat → Prop} : ∀ {l : List Int} {cs : List Value}, RepL (Rep X w ok (.int k)) l cs → cs = l.map (Value.int k)
  | [], cs, h => h
  | x :: l, cs, ⟨v1, v2, e, h1, h2⟩ => by
    have h1' : v1 = [Value.int k x] := h1
    rw [e, h1', ints h2]; rfl
theorem C_of {k : IntKind} {w : World} {ok : Nat → Prop} {l : List Int} {v : Value} (h : Rep X w ok (.slice (.int k)) l [v]) : ∃ A c, v = .slice A l.length c ∧ l.length ≤ c ∧ (Kd.int k).C w A l.length l := by
  obtain ⟨A, c, e, h1, h2, h3⟩ := h
  have h1' : l.length ≤ c := h1
  refine ⟨A, c, (List.cons.inj e).1, h1', rfl, by unfold maxLen at h2; omega, fun hp => ?_⟩
  rcases h3 with h3 | ⟨b, off, cs, eA, _, hc, hr⟩
  · have h3' : l = [] := h3
    rw [h3'] at hp; cases hp
  · subst eA
    have e := ints hr
    subst e
    refine ⟨_, rfl, fun j p hj => ⟨[.int k p], rfl, rfl, fun i u hu => ?_⟩⟩
    have hi : i = 0 := by
      have := (List.getElem?_eq_some_iff.1 hu).1
      simp at this; omega
    subst hi
    simp at hu
    subst hu
    have := hc j (.int k p) (by rw [List.getElem?_map, hj]; rfl)
    rw [← this]
    show w.cell? (Addr.add ⟨b, off, none⟩ (j * 1 + 0)) = _
    rw [Nat.mul_one, Nat.add_zero]
    congr 1
    unfold Addr.add
    split <;> simp_all
theorem of_R {k : IntKind} {e : TypeId} {w : World} {base : Nat} {ok ok' : Nat → Prop} {v : Value} {l : List Int} (h : (Kd.int k).R e w base ok v l) (hok : ∀ b, base ≤ b → b < w.heap.size → ok' b) : Rep X w ok' (.slice (.int k)) l [v] := by
  have ho := Kd.own_of_R h
  rcases ho.2 with ⟨rfl, h0⟩ | ⟨g, cap, cur, rfl, hb, hg, hn, hm, hs, ht⟩
  · have : l = [] := List.eq_nil_of_length_eq_zero h0
    subst this
    exact ⟨none, 0, rfl, Nat.le_refl _, Nat.zero_le _, .inl rfl⟩
  · refine ⟨_, cap, rfl, hn, hm, .inr ⟨g, 0, l.map (Value.int k), rfl, hok g hb (Array.getElem?_eq_some_iff.1 hg).1, fun j v hj => ?_, ?_⟩⟩
    · have hlt := (List.getElem?_eq_some_iff.1 hj).1
      rw [List.length_map] at hlt
      unfold World.cell?
      simp only [hg, Nat.zero_add]
      rw [Nat.mul_one] at ht
      have : (cur.toList.take l.length)[j]? = some v := by rw [ht]; exact hj
      rw [List.getElem?_take, if_pos hlt] at this
      simpa using this
    · clear ht hs hm hn hg hb ho h
      induction l with
      | nil => rfl
      | cons x l ih => exact ⟨[.int k x], l.map (Value.int k), rfl, rfl, ih⟩
theorem RepL_of {α : Type} {R : α → List Value → Prop} : ∀ (l : List α) (cs : List Value), cs.length = l.length → (∀ (i : Nat) (x : α) (v : Value), l[i]? = some x → cs[i]? = some v → R x [v]) → RepL R l cs
  | [], [], _, _ => rfl
  | [], _ :: _, h, _ => by simp at h
  | _ :: _, [], h, _ => by simp at h
  | x :: l, v :: cs, h, hr => ⟨[v], cs, rfl, hr 0 x v rfl rfl, RepL_of l cs (by simpa using h) fun i y u h1 h2 => hr (i + 1) y u (by simpa using h1) (by simpa using h2)⟩
/-- A table of one's own is data. -/
theorem of_S {k : IntKind} {e1 e2 : TypeId} {w : World} {base : Nat} {ok' : Nat → Prop} {v : Value} {l : List (List Int)} (h : Kd.S (Kd.slice e1 (Kd.int k)) e2 w base (fun _ => True) v l) (hok : ∀ b, base ≤ b → b < w.heap.size → ok' b) :
    Rep X w ok' (.slice (.slice (.int k))) l [v] := by
  obtain ⟨inner, ho⟩ := Kd.S_own h
  rcases ho.2 with ⟨rfl, h0⟩ | ⟨g, cap, cur, rfl, hb, hg, hn, hm, hs, ht⟩
  · have : l = [] := List.eq_nil_of_length_eq_zero h0
    subst this
    exact ⟨none, 0, rfl, Nat.le_refl _, Nat.zero_le _, .inl rfl⟩
  · have get : ∀ i, i < l.length → ∃ u, w.cell? ⟨g, i, none⟩ = some u ∧ Rep X w ok' (.slice (.int k)) (l.getD i []) [u] := by
      intro i hi
      obtain ⟨c, _, hM, hc⟩ := Kd.S_get h [] (i : Int) (Int.natCast_nonneg _) (Int.ofNat_lt.2 hi)
      obtain ⟨u, rfl, hu⟩ := hM
      rw [Int.toNat_natCast] at hu hc
      have := hc 0 u rfl
      have ea : (⟨g, 0, none⟩ : Addr).add (i * (Kd.slice e1 (Kd.int k)).sz + 0) = ⟨g, i, none⟩ := by
        rw [show (Kd.slice e1 (Kd.int k)).sz = 1 from rfl, Nat.mul_one, Nat.add_zero]
        unfold Addr.add
        split <;> simp_all
      rw [ea] at this
      exact ⟨u, this, of_R hu hok⟩
    refine ⟨_, cap, rfl, hn, hm, .inr ⟨g, 0, (List.range l.length).map (fun i => (w.cell? ⟨g, i, none⟩).getD undef), rfl, hok g hb (Array.getElem?_eq_some_iff.1 hg).1, fun j u hj => ?_, RepL_of (α := List Int) l _ (by rw [List.length_map]; exact List.length_range) fun i x u hx hu => ?_⟩⟩
    · have hlt := (List.getElem?_eq_some_iff.1 hj).1
      simp only [List.length_map, List.length_range] at hlt
      rw [List.getElem?_map, List.getElem?_range hlt, Option.map_some] at hj
      obtain ⟨z, hz, _⟩ := get j hlt
      rw [hz] at hj
      rw [Nat.zero_add, hz]
      exact hj
    · have hlt : i < (l : List (List Int)).length := (List.getElem?_eq_some_iff.1 hx).1
      rw [List.getElem?_map, List.getElem?_range hlt, Option.map_some] at hu
      obtain ⟨z, hz, hr⟩ := get i hlt
      rw [hz] at hu
      have e1 : z = u := Option.some.inj hu
      subst e1
      rw [List.getD_eq_getElem?_getD, hx] at hr
      exact hr
def behS (x : List Int × List Int) : Option (List (List Int)) := if x.1.length ≤ 1000 ∧ x.2.length ≤ 1000 then some (Pure.gridB x.1 x.2) else none
theorem Behind_spec (hX : X.OK) {x : List Int × List Int} {y : List (List Int)} (h : behS x = some y) : AE.Spec Tryz.prog X ⟨⟨[.dat (.slice (.int .i64)), .dat (.slice (.int .i64))], []⟩, ⟨[.dat (.slice (.slice (.int .i64)))], []⟩⟩ 58 x y := by
  obtain ⟨a, b⟩ := x
  refine Spec_of_calls hX Tryz.func58 (by decide) rfl fun S w vals hS _ hv => ?_
  obtain ⟨v, u, rfl, h1, h2⟩ := VRs.two (a := .sl (.int .i64) a) (b := .sl (.int .i64) b) hv
  obtain ⟨A0, c0, rfl, q1, q2⟩ := C_of h1
  obtain ⟨A1, c1, rfl, q3, q4⟩ := C_of h2
  unfold behS at h
  split at h
  · rename_i hl
    have hy : Pure.gridB a b = y := Option.some.inj h
    obtain ⟨k, hk⟩ := (Pure.behind_is a b hl.1 hl.2).rounds
    rw [hy] at hk
    refine (PV.tattingref7_Behind.calls k A0 c0 a A1 c1 b y w q2 q1 q4 q3 hk).mono ?_
    rintro e w' ⟨v0, rfl, ho, hb⟩
    exact ⟨[v0], rfl, hb, .cons (of_S ho fun b h1 h2 => ⟨hS b h1, h2, fun o ho => by cases ho⟩) .nil⟩
  · cases h
end
end Go.Proofs.YtgelkklendpeoaaGreat.GridX
