import Derived.Test.YtippdbhefcmebaaPVx1
import Derived.Test.YtippdbhefcmebaaMaskX
import Derived.Test.YtippdbhefcmebaaSyms
open Go Go.RowKit Go.Maps Go.Proofs.YtippdbhefcmebaaW.PrintWords Go.Proofs.YtippdbhefcmebaaW.PrintLast Go.Proofs.YtippdbhefcmebaaW.PrintMore Go.Proofs.Ytippdbhefcmebaa.AE Go.Proofs.Ytippdbhefcmebaa.Masks Go.Proofs.Ytippdbhefcmebaa.VecMath Go.Proofs.Ytippdbhefcmebaa.VecSpec
namespace Go.Proofs.Ytippdbhefcmebaa.MaskX
set_option linter.unusedVariables false
set_option linter.unusedSimpArgs false
def maskLen (b : List Int) : Option Int := some (b.length : Int)
def maskWordsOf (b : List Int) : Option Int := some (maskWords b.length : Int)
def maskSyms (b : List Int) : Option (List Int) := some (symsOf b)
theorem Len_calls (g : Nat) (n : Int) (vs mv : Value) (w : World) (hg : w.heap[g]? = some (.cells #[.int .i64 n, vs, mv] 43 (0, 0))) :
    Calls Try.prog 10 #[.pointer (some ⟨g, 0, none⟩)] w fun e w' => e = .returned (.int .i64 n) ∧ w' = w := by
  obtain ⟨q0, q1, q2⟩ := cells3 hg
  clear hg
  go_enter Try.func10, Try.ntmps10
  go_wp2
  go_ret
  exact ⟨rfl, rfl⟩
theorem WordsOf_calls (g : Nat) (n : Int) (vs mv : Value) (w : World) (hg : w.heap[g]? = some (.cells #[.int .i64 n, vs, mv] 43 (0, 0))) :
    Calls Try.prog 11 #[.pointer (some ⟨g, 0, none⟩)] w fun e w' => e = .returned (.int .i64 (wds n : Int)) ∧ w' = w := by
  obtain ⟨q0, q1, q2⟩ := cells3 hg
  clear hg
  go_enter Try.func11, Try.ntmps11
  go_wp2_with (go_at_call 19; refine (Words_same _ _).mono ?_; rintro e w' ⟨rfl, rfl⟩)
  go_ret
  exact ⟨rfl, rfl⟩
theorem clone_is (l : List Int) (h : l.length < 17592186044416) : PV.slices_Clone_int_int.f l = some l := by
  have hl := h
  unfold PV.slices_Clone_int_int.f
  rw [Option.bind_some, if_pos (by rw [List.length_nil]; omega), List.nil_append]
theorem Symbols_calls (g : Nat) (n : Int) (A : Option Addr) (c : Nat) (l : List Int) (mv : Value) (w : World) (hl : l.length < 17592186044416) (hc : l.length ≤ c) (hC : (Kd.int .i64).C w A l.length l) (hg : w.heap[g]? = some (.cells #[.int .i64 n, .slice A l.length c, mv] 43 (0, 0))) :
    Calls Try.prog 12 #[.pointer (some ⟨g, 0, none⟩)] w fun e w' => ∃ v, e = .returned v ∧ Kd.R (Kd.int .i64) 3 w' w.heap.size (fun _ => True) v l ∧ Below w.heap.size w w' := by
  obtain ⟨q0, q1, q2⟩ := cells3 hg
  have HC := Aside0.mk hC
  have HCc := Aside0.mk hc
  have HF := Aside0.mk (clone_is l hl)
  clear hg hC hc
  go_enter Try.func12, Try.ntmps12
  go_wp2_with (go_at_call 23; refine (PV.slices_Clone_int_int.calls A c l l _ (by exact HC.out) HCc.out HF.out).mono ?_; rintro e w1 ⟨v, rfl, ho, hb⟩)
  go_ret
  exact ⟨_, rfl, ho, ⟨hb.os, hb.tape, hb.output, hb.size, hb.block⟩⟩
theorem Len_spec {x : List Int} {y : Int} (h : maskLen x = some y) : AE.Spec Try.prog XM ⟨⟨[.dat (.ext 0)], []⟩, ⟨[.dat (.int .i64)], []⟩⟩ 10 x y := by
  cases h
  refine Spec_of_calls XM_ok Try.func10 (by decide) rfl fun S w vals hS hv => ?_
  obtain ⟨v, rfl, h1⟩ := VRs.one (a := .ext 0 x) hv
  obtain ⟨_, g, rfl, hm⟩ := (h1 : XM 0 w _ x v)
  obtain ⟨vs, bm, n, D, k1, k2, _⟩ := hm.ex
  refine (Len_calls g _ vs _ w k2).mono ?_
  rintro e w' ⟨rfl, rfl⟩
  exact ⟨[_], rfl, Below.refl _ _, .cons rfl .nil⟩
theorem Words_spec {x : List Int} {y : Int} (h : maskWordsOf x = some y) : AE.Spec Try.prog XM ⟨⟨[.dat (.ext 0)], []⟩, ⟨[.dat (.int .i64)], []⟩⟩ 11 x y := by
  cases h
  refine Spec_of_calls XM_ok Try.func11 (by decide) rfl fun S w vals hS hv => ?_
  obtain ⟨v, rfl, h1⟩ := VRs.one (a := .ext 0 x) hv
  obtain ⟨_, g, rfl, hm⟩ := (h1 : XM 0 w _ x v)
  obtain ⟨vs, bm, n, D, k1, k2, _⟩ := hm.ex
  refine (WordsOf_calls g _ vs _ w k2).mono ?_
  rintro e w' ⟨rfl, rfl⟩
  exact ⟨[_], rfl, Below.refl _ _, .cons rfl .nil⟩
theorem Symbols_spec {x y : List Int} (h : maskSyms x = some y) : AE.Spec Try.prog XM ⟨⟨[.dat (.ext 0)], []⟩, ⟨[.dat (.slice (.int .i64))], []⟩⟩ 12 x y := by
  simp only [maskSyms, Option.some.injEq] at h
  rw [← syms_eq] at h
  subst h
  refine Spec_of_calls XM_ok Try.func12 (by decide) rfl fun S w vals hS hv => ?_
  obtain ⟨v, rfl, h1⟩ := VRs.one (a := .ext 0 x) hv
  obtain ⟨_, g, rfl, hm⟩ := (h1 : XM 0 w _ x v)
  obtain ⟨vs, bm, n, D, k1, k2, k3, _⟩ := hm.ex
  obtain ⟨A, c, rfl⟩ := k3.form
  obtain ⟨_, q2, q3⟩ := C_of_RepI k3
  have hle : (Lib.compact (sortL x)).length < 17592186044416 := by
    have h1 := Lib.compact_length_le (sortL x)
    rw [sort_len] at h1
    have := hm.len
    omega
  refine (Symbols_calls g _ A c _ _ w hle q2 q3 k2).mono ?_
  rintro e w' ⟨v0, rfl, hr, hb⟩
  exact ⟨[v0], rfl, hb, .cons (RepI_of_R hr fun b' hb1 hb2 => ⟨hS b' hb1, hb2, fun o ho => by cases ho⟩) .nil⟩
/-- New, where the list is a row of one's own: it stays so. -/
theorem NewRow_spec (hSo : SortC) (hN : SortN) (hC : CompC) (hCN : CompN) {x y : List Int} {z : List Int × List Int} (h : maskNew x = some y) (hz : z = (y, x)) : AE.Spec Try.prog XM ⟨⟨[.ref 0], [.row (.int .i64)]⟩, ⟨[.dat (.ext 0)], [.row (.int .i64)]⟩⟩ 7 x z := by
  subst hz
  intro S w own vals hS ⟨h1, h2⟩
  have hr : HR XM S w [.row (.int .i64) x] own := h1
  obtain ⟨v, rfl, o, ho, hv⟩ : ∃ v, vals = [v] ∧ ∃ o : Own, own[0]? = some o ∧ (o.live = true → v = o.v) := by
    have h2' : VRs XM w (okS S w own) own [.ref 0] vals := h2
    obtain ⟨v, rfl, o, ho, hv⟩ := h2'.one
    exact ⟨v, rfl, o, ho, hv⟩
  have hlen : own.length = 1 := hr.len
  obtain ⟨p1, p2, p3, p4⟩ := hr.obj 0 _ o rfl ho
  have hv' := hv p1
  subst hv'
  have hown : own = [o] := by
    match own, hlen, ho with
    | [o'], _, ho => simp at ho; rw [ho]
  subst hown
  simp only [maskNew, Bool.and_eq_true, decide_eq_true_eq] at h
  split at h
  · rename_i hx
    obtain ⟨hl, ha⟩ := hx
    cases h
    -- the row as data
    have hrow : RepI .i64 w (fun _ => True) x o.v := by
      rcases p4 with ⟨e1, rfl, _⟩ | ⟨g, c, cur, e, e1, e2, e3, e4, e5, e6, e7⟩
      · rw [e1]; exact ⟨none, 0, rfl, Nat.le_refl _, by simp, .inl rfl⟩
      · rw [e1]
        exact ⟨_, c, rfl, e4, e5, .inr ⟨g, 0, _, rfl, trivial, CellsAt.of_row e3 _, RepL.imp (fun x vs h => Rep.mono (X := XM) (ok := okS S w [o]) (ok' := fun _ => True) XM_ok (fun b hb => ⟨trivial, rfl⟩) (.int .i64) x vs h) e7.1⟩⟩
    obtain ⟨A, c, ev⟩ := hrow.form
    rw [ev] at hrow
    obtain ⟨_, hc, hC0⟩ := C_of_RepI hrow
    have key := (New_lp hSo hN hC hCN A c x w hC0 hc hl (fun z hz => inI64_wf (List.all_eq_true.1 ha z hz)))
    refine Does.of_calls Try.func7 (by decide) rfl ?_
    rw [ev]
    refine key.mono ?_
    rintro e w' ⟨rfl, As, cs, vl, hlp⟩
    have hsz := hlp.size
    have hbel := hlp.bel
    have old : ∀ b ∈ o.bs, b < w.heap.size := fun b hb => (hr.lt 0 o b rfl hb).1
    have hin : ∀ b, w.heap.size ≤ b → b < w'.heap.size → okS S w' [o] b := fun b h1 h2 => ⟨hS b h1, h2, fun o' ho' hb => by
      simp at ho'; subst ho'
      have := old b hb
      omega⟩
    have okk : ∀ b, okS S w [o] b → okS S w' [o] b ∧ w'.heap[b]? = w.heap[b]? := fun b ⟨k1, k2, k3⟩ => ⟨⟨k1, by omega, k3⟩, hbel.block b k2⟩
    obtain ⟨D, hD1, hD2⟩ := hlp.map
    have hr' : HR XM S w' [.row (.int .i64) x] [o] := ⟨rfl, fun i ob o' hob ho' => by
      cases i with
      | zero =>
        simp at hob ho'
        subst hob ho'
        exact OR.mono XM_ok okk _ _ (fun b hb => hbel.block b (old b hb)) (hr.obj 0 _ o rfl rfl)
      | succ i => simp at hob, hr.dis, fun i o' b ho' hb => ⟨by have := (hr.lt i o' b ho' hb).1; omega, (hr.lt i o' b ho' hb).2⟩⟩
    have hm : VR XM w' (okS S w' [o]) [o] (.ext 0 x) (.pointer (some ⟨w.heap.size + 1, 0, none⟩)) :=
      ⟨rfl, w.heap.size + 1, rfl, hl, hin _ (by omega) (by omega), .slice As (Lib.compact (sortL x)).length cs, w.heap.size, _, D, hin _ (by omega) (by omega), hlp.box, RepI_of_R hlp.row (fun b h1 h2 => hin b (by omega) h2), hD1, fun z hz => ⟨vl z, hD2 z hz, RepI_of_R (hlp.rows z) (fun b h1 h2 => hin b (by omega) h2)⟩⟩
    exact ⟨_, rfl, [o], [_], ⟨hr', .cons hm .nil⟩, ⟨hbel.os, hbel.tape, hbel.output, hbel.size, okk, fun i o' b ho' hb => .inr ⟨i, o', ho', hb⟩, fun b hb _ => hbel.block b hb⟩, fun j o' ho' => ⟨o', ho', rfl, rfl, id⟩, rfl⟩
  · cases h
def maskNewRow (x : List Int) : Option (List Int × List Int) := match maskNew x with | some y => some (y, x) | none => none
theorem NewRow_spec2 (hSo : SortC) (hN : SortN) (hC : CompC) (hCN : CompN) {x : List Int} {z : List Int × List Int} (h : maskNewRow x = some z) : AE.Spec Try.prog XM ⟨⟨[.ref 0], [.row (.int .i64)]⟩, ⟨[.dat (.ext 0)], [.row (.int .i64)]⟩⟩ 7 x z := by
  unfold maskNewRow at h
  split at h
  · rename_i y hy
    cases h
    exact NewRow_spec hSo hN hC hCN hy rfl
  · cases h
end Go.Proofs.Ytippdbhefcmebaa.MaskX
