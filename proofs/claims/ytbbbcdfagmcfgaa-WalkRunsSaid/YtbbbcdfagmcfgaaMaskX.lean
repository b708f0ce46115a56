import Derived.Test.YtbbbcdfagmcfgaaMasks
import Derived.Test.YtbbbcdfagmcfgaaVecSpecFit
import Derived.Test.YtbbbcdfagmcfgaaShelf
import Derived.Test.YtbbbcdfagmcfgaaAeB
namespace Go.Proofs.Ytbbbcdfagmcfgaa.MaskX
open Go Go.RowKit Go.Maps Go.Proofs.YtbbbcdfagmcfgaaW.PrintWords Go.Proofs.YtbbbcdfagmcfgaaW.PrintLast Go.Proofs.YtbbbcdfagmcfgaaW.PrintMore Go.Proofs.Ytbbbcdfagmcfgaa.AE Go.Proofs.Ytbbbcdfagmcfgaa.Masks Go.Proofs.Ytbbbcdfagmcfgaa.VecMath Go.Proofs.Ytbbbcdfagmcfgaa.VecSpec
set_option linter.unusedVariables false
/-- What a mask is to the evaluator: the list that it was made of. -/
def RepI (k : IntKind) (w : World) (ok : Nat → Prop) (l : List Int) (v : Value) : Prop := Rep NoX w ok (.slice (.int k)) l [v]
theorem RepI_iff (X : ExtRep) (k : IntKind) (w : World) (ok : Nat → Prop) (l : List Int) (v : Value) : RepI k w ok l v ↔ Rep X w ok (.slice (.int k)) l [v] := Iff.rfl
theorem RepI.form {k : IntKind} {w : World} {ok : Nat → Prop} {l : List Int} {v : Value} (h : RepI k w ok l v) : ∃ A c, v = .slice A l.length c := by
  obtain ⟨A, c, e, _⟩ := h
  exact ⟨A, c, (List.cons.inj e).1⟩
structure MaskOk (w : World) (ok : Nat → Prop) (g : Nat) (b : List Int) : Prop where
  len : b.length < 17592186044416
  okg : ok g
  ex : ∃ (vs : Value) (bm n : Nat) (D : DataW Value), ok bm ∧ w.heap[g]? = some (.cells #[.int .i64 (b.length : Int), vs, .map (some bm)] 58 (0, 0)) ∧
    RepI .i64 w ok (Lib.compact (sortL b)) vs ∧ w.ownsMap Try.prog 3 rawR bm n D ∧
    ∀ x, (Lit.int .i64 x).wf = true → ∃ v, D.atKey (.int .i64 x) (.held (.slice none 0 0)) = .held v ∧ RepI .u64 w ok (rws b (Lib.compact (sortL b)) (wds b.length) b.length x) v
def XM : ExtRep := ⟨fun i w ok x v => i = 0 ∧ ∃ g, v = .pointer (some ⟨g, 0, none⟩) ∧ MaskOk w ok g x, fun _ _ => True⟩
theorem XM_ok : XM.OK := by
  refine ⟨fun {i w ok w' ok' x v} hb ⟨h0, g, hv, h⟩ => ⟨h0, g, hv, h.len, (hb g h.okg).1, ?_⟩, fun {i w ok x v} ⟨_, g, hv, _⟩ => by subst hv; rfl, fun {i w ok x v} ⟨_, g, hv, _⟩ => ⟨_, hv⟩, fun _ _ => trivial⟩
  obtain ⟨vs, bm, n, D, h1, h2, h3, h4, h5⟩ := h.ex
  refine ⟨vs, bm, n, D, (hb bm h1).1, (hb g h.okg).2.trans h2, Rep.mono NoX_ok hb _ _ _ h3, ?_, fun x hx => ?_⟩
  · obtain ⟨es, clock, k1, k2⟩ := h4
    exact ⟨es, clock, (hb bm h1).2.trans k1, k2⟩
  · obtain ⟨v, k1, k2⟩ := h5 x hx
    exact ⟨v, k1, Rep.mono NoX_ok hb _ _ _ k2⟩
theorem inI64_wf {x : Int} (h : inI64 x = true) : (Lit.int .i64 x).wf = true := by
  simp [inI64] at h
  simp [Lit.wf, IntKind.min, IntKind.max, IntKind.signed, IntKind.bits]
  omega
theorem sortC : SortC := fun blk off cap zs w h1 h2 h3 => Try.slices_Sort_int blk off cap zs w h1 h2 h3
theorem sortN : SortN := fun p cap w => Try.slices_Sort_int_none p cap w
theorem compC : CompC := fun blk off cap zs w h1 h2 h3 => Try.slices_Compact_int blk off cap zs w h1 h2 h3
theorem compN : CompN := fun p cap w => Try.slices_Compact_int_empty p cap w
/-- A row that is read as data is one that is read. -/
theorem RepL_ints {k : IntKind} {w : World} {ok : Nat → Prop} : ∀ {l : List Int} {cs : List Value}, RepL (Rep NoX w ok (.int k)) l cs → cs = l.map (Value.int k)
  | [], cs, h => h
  | x :: l, cs, ⟨v1, v2, e, h1, h2⟩ => by
    have h1' : v1 = [Value.int k x] := h1
    rw [e, h1', RepL_ints h2]; rfl
theorem C_of_RepI {k : IntKind} {w : World} {ok : Nat → Prop} {l : List Int} {A : Option Addr} {n c : Nat} (h : RepI k w ok l (.slice A n c)) : n = l.length ∧ l.length ≤ c ∧ (Kd.int k).C w A l.length l := by
  obtain ⟨A', c', e, h1, h2, h3⟩ := h
  simp only [List.cons.injEq, Value.slice.injEq, and_true] at e
  obtain ⟨rfl, rfl, rfl⟩ := e
  have h1' : l.length ≤ c := h1
  refine ⟨rfl, h1', rfl, by unfold maxLen at h2; omega, fun hp => ?_⟩
  rcases h3 with h3 | ⟨b, off, cs, eA, _, hc, hr⟩
  · have h3' : l = [] := h3
    rw [h3'] at hp; cases hp
  · subst eA
    have e := RepL_ints hr
    subst e
    refine ⟨_, rfl, fun j p hj => ⟨[.int k p], rfl, rfl, fun i u hu => ?_⟩⟩
    have hi : i = 0 := by
      have := (List.getElem?_eq_some_iff.1 hu).1
      simp at this; omega
    subst hi
    simp at hu
    subst hu
    have := hc j (.int k p) (by rw [List.getElem?_map, hj]; rfl)
    rw [← this]
    show w.cell? (Addr.add ⟨b, off, none⟩ (j * 1 + 0)) = _
    rw [Nat.mul_one, Nat.add_zero]
    congr 1
    unfold Addr.add
    split <;> simp_all
/-- A row of the call's own is data. -/
theorem RepI_of_R {k : IntKind} {e : TypeId} {w : World} {base : Nat} {ok ok' : Nat → Prop} {v : Value} {l : List Int} (h : (Kd.int k).R e w base ok v l) (hok : ∀ b, base ≤ b → b < w.heap.size → ok' b) : RepI k w ok' l v := by
  have ho := Kd.own_of_R h
  rcases ho.2 with ⟨rfl, h0⟩ | ⟨g, cap, cur, rfl, hb, hg, hn, hm, hs, ht⟩
  · have : l = [] := List.eq_nil_of_length_eq_zero h0
    subst this
    exact ⟨none, 0, rfl, Nat.le_refl _, Nat.zero_le _, .inl rfl⟩
  · refine ⟨_, cap, rfl, hn, hm, .inr ⟨g, 0, l.map (Value.int k), rfl, hok g hb (Array.getElem?_eq_some_iff.1 hg).1, fun j v hj => ?_, ?_⟩⟩
    · have hlt := (List.getElem?_eq_some_iff.1 hj).1
      rw [List.length_map] at hlt
      unfold World.cell?
      simp only [hg, Nat.zero_add]
      rw [Nat.mul_one] at ht
      have : (cur.toList.take l.length)[j]? = some v := by rw [ht]; exact hj
      rw [List.getElem?_take, if_pos hlt] at this
      simpa using this
    · clear ht hs hm hn hg hb ho h
      induction l with
      | nil => rfl
      | cons x l ih => exact ⟨[.int k x], l.map (Value.int k), rfl, rfl, ih⟩
theorem mk_none (b : List Int) (y : Int) (hy : y ∉ b) : ∀ j, j ≤ b.length → mk b y j = 0
  | 0, _ => rfl
  | j + 1, h => by
    unfold mk
    rw [if_neg (fun e => hy ?_), mk_none b y hy j (by omega)]
    rw [← e, List.getD_eq_getElem?_getD, List.getElem?_eq_getElem (show j < b.length by omega)]
    exact List.getElem_mem _
theorem rws_OK (b syms : List Int) (m j : Nat) (y : Int) : OK (rws b syms m j y) := by
  unfold rws
  split
  · exact lay_OK _ _
  · intro x hx
    simp at hx
theorem rws_val (b syms : List Int) (m w : Nat) (hw : w ≤ 64 * m) (hs : ∀ x, x ∈ syms ↔ x ∈ b) (y : Int) : val (rws b syms m b.length y) % 2 ^ w = mk b y b.length % 2 ^ w := by
  unfold rws
  split
  · rw [val_lay, Nat.mod_mod_of_dvd _ (Nat.pow_dvd_pow 2 hw)]
  · rename_i h
    rw [mk_none b y (fun e => h ((hs y).2 e)) _ (Nat.le_refl _)]
    rfl
theorem Fit_of (b syms : List Int) (hs : ∀ x, x ∈ syms ↔ x ∈ b) (y : Int) : ∃ k, PV.vec_Fit.f k (rws b syms (wds (b.length : Int)) b.length y) (b.length : Int) = some (lay (mk b y b.length % 2 ^ wid (b.length : Int)) (wds (b.length : Int))) := by
  have h := VecSpec.Fit_is (rws b syms (wds (b.length : Int)) b.length y) (b.length : Int) (rws_OK _ _ _ _ _)
  rw [rws_val b syms _ _ (wid_wds _) hs] at h
  exact h.rounds
theorem lay_eq (x m : Nat) : layB x m = lay x m := rfl
theorem mk_eq (b : List Int) (y : Int) : ∀ n, mkB b y n = mk b y n
  | 0 => rfl
  | n + 1 => by unfold mkB mk; rw [mk_eq b y n]
theorem words_eq (n : Nat) : maskWords n = wds (n : Int) := rfl
theorem Of_spec {x : List Int × Int} {y : List Int} (h : maskOf x = some y) : AE.Spec Try.prog XM ⟨⟨[.dat (.ext 0), .dat (.int .i64)], []⟩, ⟨[.dat (.slice (.int .u64))], []⟩⟩ 26 x y := by
  obtain ⟨b, z⟩ := x
  refine Spec_of_calls XM_ok Try.func26 (by decide) rfl fun S w vals hS _ hv => ?_
  obtain ⟨v, u, rfl, h1, h2⟩ := VRs.two (a := .ext 0 b) (b := .int .i64 z) hv
  obtain ⟨_, g, rfl, hm⟩ := (h1 : XM 0 w _ b v)
  obtain rfl : u = .int .i64 z := h2
  simp only [maskOf] at h
  split at h
  · rename_i hz
    obtain ⟨vs, bm, n, D, k1, k2, k3, k4, k5⟩ := hm.ex
    have him : IsMask w g b (Lib.compact (sortL b)) (rws b (Lib.compact (sortL b)) (wds b.length) b.length) := by
      obtain ⟨A, c, rfl⟩ := k3.form
      obtain ⟨_, q2, q3⟩ := C_of_RepI k3
      refine ⟨A, c, bm, n, D, k2, q3, q2, k4, fun x hx => ?_⟩
      obtain ⟨v, r1, r2⟩ := k5 x hx
      obtain ⟨A', c', rfl⟩ := r2.form
      obtain ⟨_, q2, q3⟩ := C_of_RepI r2
      exact ⟨A', c', r1, q3, q2⟩
    simp only [Option.some.injEq] at h
    subst h
    have hf : ∃ k, PV.vec_Fit.f k (rws b (Lib.compact (sortL b)) (wds b.length) b.length z) (b.length : Int) = some (layB (mkB b z b.length % 2 ^ min b.length 1048576) (maskWords b.length)) := by
      rw [mk_eq, lay_eq, words_eq]
      have e : min b.length 1048576 = wid (b.length : Int) := rfl
      rw [e]
      exact Fit_of b _ (fun x => by rw [mem_comp, mem_sortL]) z
    obtain ⟨k, hf⟩ := hf
    refine (Of_calls k g b _ _ z (inI64_wf hz) _ w him hf).mono ?_
    rintro e w' ⟨v0, rfl, hr, hb⟩
    exact ⟨[v0], rfl, hb, .cons (RepI_of_R hr fun b' hb1 hb2 => ⟨hS b' hb1, hb2, fun o ho => by cases ho⟩) .nil⟩
  · cases h
theorem New_spec (hSo : SortC) (hN : SortN) (hC : CompC) (hCN : CompN) {x y : List Int} (h : maskNew x = some y) : AE.Spec Try.prog XM ⟨⟨[.dat (.slice (.int .i64))], []⟩, ⟨[.dat (.ext 0)], []⟩⟩ 23 x y := by
  refine Spec_of_calls XM_ok Try.func23 (by decide) rfl fun S w vals hS _ hv => ?_
  obtain ⟨v, rfl, h1⟩ := VRs.one (a := .sl (.int .i64) x) hv
  have h1' : RepI .i64 w _ x v := h1
  obtain ⟨A, c, rfl⟩ := h1'.form
  obtain ⟨_, hc, hC0⟩ := C_of_RepI h1
  simp only [maskNew, Bool.and_eq_true, decide_eq_true_eq] at h
  split at h
  · rename_i hx
    obtain ⟨hl, ha⟩ := hx
    cases h
    refine (New_lp hSo hN hC hCN A c x w hC0 hc hl (fun z hz => inI64_wf (List.all_eq_true.1 ha z hz))).mono ?_
    rintro e w' ⟨rfl, As, cs, vl, hlp⟩
    have hsz := hlp.size
    have hin : ∀ b, w.heap.size + 2 ≤ b → b < w'.heap.size → okS S w' [] b := fun b h1 h2 => ⟨hS b (by omega), h2, fun o ho => by cases ho⟩
    refine ⟨[_], rfl, hlp.bel, .cons ?_ .nil⟩
    obtain ⟨D, hD1, hD2⟩ := hlp.map
    refine ⟨rfl, w.heap.size + 1, rfl, hl, ⟨hS _ (by omega), by omega, fun o ho => by cases ho⟩, .slice As (Lib.compact (sortL x)).length cs, w.heap.size, _, D, ⟨hS _ (by omega), by omega, fun o ho => by cases ho⟩, hlp.box, RepI_of_R hlp.row hin, hD1, fun z hz => ⟨vl z, hD2 z hz, RepI_of_R (hlp.rows z) hin⟩⟩
  · cases h
end Go.Proofs.Ytbbbcdfagmcfgaa.MaskX
