import Derived.Test.YtippdbhefcmebaaMaskX2
open Go Go.RowKit Go.Maps Go.Proofs.YtippdbhefcmebaaW.PrintWords Go.Proofs.YtippdbhefcmebaaW.PrintLast Go.Proofs.YtippdbhefcmebaaW.PrintMore Go.Proofs.Ytippdbhefcmebaa.AE Go.Proofs.Ytippdbhefcmebaa.Masks Go.Proofs.Ytippdbhefcmebaa.VecMath Go.Proofs.Ytippdbhefcmebaa.VecSpec
namespace Go.Proofs.Ytippdbhefcmebaa.MaskX
set_option linter.unusedVariables false
set_option linter.unusedSimpArgs false
/-! Of and Symbols, where what they tell is a row of one's own. -/
theorem ints_RepL {X : ExtRep} {k : IntKind} {w : World} {ok : Nat → Prop} : ∀ l : List Int, RepL (Rep X w ok (.int k)) l (l.map (Value.int k))
  | [] => rfl
  | x :: l => ⟨[.int k x], l.map (Value.int k), rfl, rfl, ints_RepL l⟩
theorem row_of_calls {X : ExtRep} (hX : X.OK) {f : FuncId} {fn : Func} {c : Code} (hf : Try.prog.funcs[f]? = some fn) (hname : (fn.name == "runtime.NumGoroutine") = false) (hb : fn.body = some c) {slots : List SP} {x : Shape.den ⟨slots, []⟩} {k : IntKind} {t : TypeId} {y : List Int}
    (h : ∀ (S : Nat → Prop) (w : World) (vals : List Value), (∀ b, w.heap.size ≤ b → S b) → VRs X w (okS S w []) [] (putSlots id slots x).1 vals →
      Calls Try.prog f vals.toArray w fun e w' => ∃ v0, e = .returned v0 ∧ (Kd.int k).R t w' w.heap.size (fun _ => True) v0 y ∧ Below w.heap.size w w') :
    AE.Spec Try.prog X ⟨⟨slots, []⟩, ⟨[.ref 0], [.row (.int k)]⟩⟩ f x y := by
  intro S w own vals hS ⟨h1, h2⟩
  have h1' : HR X S w [] own := h1
  have h0 : own = [] := List.eq_nil_of_length_eq_zero h1'.len
  subst h0
  refine Does.of_calls hf hname hb ((h S w vals hS h2).mono fun e w' ⟨v0, he, hr, hbel⟩ => ?_)
  have ho := Kd.own_of_R hr
  -- the new thing
  obtain ⟨o, ov, oor, obs⟩ : ∃ o : Own, o.v = v0 ∧ (∀ ok, OR X w' ok (.row (.int k) y) o) ∧ ∀ b ∈ o.bs, w.heap.size ≤ b ∧ b < w'.heap.size := by
    rcases ho.2 with ⟨rfl, hl⟩ | ⟨g, cap, cur, rfl, hg, hh, hn, hm, hs, ht⟩
    · have : y = [] := List.eq_nil_of_length_eq_zero hl
      subst this
      exact ⟨⟨.slice none 0 0, [], true, 1⟩, rfl, fun ok => ⟨rfl, rfl, Nat.one_pos, .inl ⟨rfl, rfl, rfl⟩⟩, fun b hb => by simp at hb⟩
    · refine ⟨⟨_, [g], true, 1⟩, rfl, fun ok => ⟨rfl, rfl, Nat.one_pos, .inr ⟨g, cap, cur, (t, 0, 0), rfl, rfl, hh, hn, hm, hs, ?_, .inl rfl⟩⟩, fun b hb => ?_⟩
      · have e2 : cur.toList.take (y.length * (Ty.int k).size) = y.map (Value.int k) := ht
        have e3 := ints_RepL (X := X) (k := k) (w := w') (ok := ok) y
        rw [← e2] at e3
        exact e3
      · simp at hb
        subst hb
        exact ⟨hg, (Array.getElem?_eq_some_iff.1 hh).1⟩
  have hhr : HR X S w' [.row (.int k) y] [o] := ⟨rfl, fun i ob o' hob ho' => by
      cases i with
      | zero => simp at hob ho'; subst hob ho'; exact oor _
      | succ i => simp at hob, fun i j oi oj b hi hj _ _ => by
        have h3 := (List.getElem?_eq_some_iff.1 hi).1
        have h4 := (List.getElem?_eq_some_iff.1 hj).1
        simp at h3 h4
        omega, fun i o' b ho' hb' => by
      cases i with
      | zero => simp at ho'; subst ho'; exact ⟨(obs b hb').2, hS b (obs b hb').1⟩
      | succ i => simp at ho'⟩
  have hfr : Frm S w [] w' [o] := ⟨hbel.os, hbel.tape, hbel.output, hbel.size, fun b ⟨k1, k2, k3⟩ => ⟨⟨k1, by have := hbel.size; omega, fun o' ho' hb' => by
      simp at ho'; subst ho'
      have := (obs b hb').1
      omega⟩, hbel.block b k2⟩, fun i o' b ho' hb' => by
      cases i with
      | zero => simp at ho'; subst ho'; exact .inl (obs b hb').1
      | succ i => simp at ho', fun b hb' _ => hbel.block b hb'⟩
  exact ⟨_, he, [o], [v0], ⟨hhr, .cons ⟨o, rfl, fun _ => ov.symm⟩ .nil⟩, hfr, fun j o' h => by simp at h, rfl⟩
theorem OfRow_spec {x : List Int × Int} {y : List Int} (h : maskOf x = some y) : AE.Spec Try.prog XM ⟨⟨[.dat (.ext 0), .dat (.int .i64)], []⟩, ⟨[.ref 0], [.row (.int .u64)]⟩⟩ 9 x y := by
  obtain ⟨b, z⟩ := x
  refine row_of_calls XM_ok (k := .u64) (t := 28) Try.func9 (by decide) rfl fun S w vals hS hv => ?_
  obtain ⟨v, u, rfl, h1, h2⟩ := VRs.two (a := .ext 0 b) (b := .int .i64 z) hv
  obtain ⟨_, g, rfl, hm⟩ := (h1 : XM 0 w _ b v)
  obtain rfl : u = .int .i64 z := h2
  simp only [maskOf] at h
  split at h
  · rename_i hz
    obtain ⟨vs, bm, n, D, k1, k2, k3, k4, k5⟩ := hm.ex
    have him : IsMask w g b (Lib.compact (sortL b)) (rws b (Lib.compact (sortL b)) (wds b.length) b.length) := by
      obtain ⟨A, c, rfl⟩ := k3.form
      obtain ⟨_, q2, q3⟩ := C_of_RepI k3
      refine ⟨A, c, bm, n, D, k2, q3, q2, k4, fun x hx => ?_⟩
      obtain ⟨v, r1, r2⟩ := k5 x hx
      obtain ⟨A', c', rfl⟩ := r2.form
      obtain ⟨_, q2, q3⟩ := C_of_RepI r2
      exact ⟨A', c', r1, q3, q2⟩
    simp only [Option.some.injEq] at h
    subst h
    have hf : ∃ k, PV.vec_Fit.f k (rws b (Lib.compact (sortL b)) (wds b.length) b.length z) (b.length : Int) = some (layB (mkB b z b.length % 2 ^ min b.length 1048576) (maskWords b.length)) := by
      rw [mk_eq, lay_eq, words_eq]
      have e : min b.length 1048576 = wid (b.length : Int) := rfl
      rw [e]
      exact Fit_of b _ (fun x => by rw [mem_comp, mem_sortL]) z
    obtain ⟨k, hf⟩ := hf
    refine (Of_calls k g b _ _ z (inI64_wf hz) _ w him hf).mono ?_
    rintro e w' ⟨v0, rfl, hr, hb⟩
    exact ⟨v0, rfl, hr, hb⟩
  · cases h
theorem SymsRow_spec {x y : List Int} (h : maskSyms x = some y) : AE.Spec Try.prog XM ⟨⟨[.dat (.ext 0)], []⟩, ⟨[.ref 0], [.row (.int .i64)]⟩⟩ 12 x y := by
  simp only [maskSyms, Option.some.injEq] at h
  rw [← syms_eq] at h
  subst h
  refine row_of_calls XM_ok (k := .i64) (t := 3) Try.func12 (by decide) rfl fun S w vals hS hv => ?_
  obtain ⟨v, rfl, h1⟩ := VRs.one (a := .ext 0 x) hv
  obtain ⟨_, g, rfl, hm⟩ := (h1 : XM 0 w _ x v)
  obtain ⟨vs, bm, n, D, k1, k2, k3, _⟩ := hm.ex
  obtain ⟨A, c, rfl⟩ := k3.form
  obtain ⟨_, q2, q3⟩ := C_of_RepI k3
  have hle : (Lib.compact (sortL x)).length < 17592186044416 := by
    have h1 := Lib.compact_length_le (sortL x)
    rw [sort_len] at h1
    have := hm.len
    omega
  exact (Symbols_calls g _ A c _ _ w hle q2 q3 k2)
end Go.Proofs.Ytippdbhefcmebaa.MaskX
