import Derived.Test.YtdhbnblpkodhjaaDoorAeB
import Derived.Test.YtdhbnblpkodhjaaDoorShelf
import Derived.Lib.BytesEntry
import Derived.Lib.AppendIntMem
import Derived.Shelf.Bytes.SlIndexAt
namespace Go.Proofs.YtdhbnblpkodhjaaDoor.BytesX
open Go Go.RowKit Go.Sort Go.Lib Go.Proofs.YtdhbnblpkodhjaaDoor.AE
set_option linter.unusedVariables false
set_option linter.unusedSimpArgs false
/-! What lies in memory all the while: the table of the powers of ten. -/
def tabName : String := "internal/strconv.uint64pow10"
def XB : ExtRep := ⟨fun _ _ _ _ _ => False, fun w ok => ∃ g, Tryd.prog.globalNamed tabName = some g ∧ ok g ∧ Lib.TabIs Tryd.prog w tabName .u64 Lib.pow10Tab⟩
theorem tab_mono {w w' : World} {g : Nat} (hg : Tryd.prog.globalNamed tabName = some g) (hb : w'.heap[g]? = w.heap[g]?) (ht : Lib.TabIs Tryd.prog w tabName .u64 Lib.pow10Tab) : Lib.TabIs Tryd.prog w' tabName .u64 Lib.pow10Tab := by
  unfold TabIs World.var? at *
  simp only [hg, Option.bind_some] at ht ⊢
  rw [hb]
  exact ht
theorem XB_ok : XB.OK := ⟨fun _ h => h.elim, fun h => h.elim, fun h => h.elim, fun hb ⟨g, hg, hk, ht⟩ => ⟨g, hg, (hb g hk).1, tab_mono hg (hb g hk).2 ht⟩⟩
/-! internal/bytealg.IndexByte -/
def idxB : List Int → Int → Int
  | [], _ => -1
  | x :: l, c => if x == c then 0 else if idxB l c == -1 then -1 else idxB l c + 1
def indexB (x : List Int × Int) : Option Int := if (x.1.all fun y => decide (0 ≤ y ∧ y < 256)) && decide (0 ≤ x.2 ∧ x.2 < 256) then some (idxB x.1 x.2) else none
theorem u8_eq {x c : Int} (hx : 0 ≤ x ∧ x < 256) (hc : 0 ≤ c ∧ c < 256) : (UInt8.ofNat x.toNat == c.toNat.toUInt8) = (x == c) := by
  rw [Bool.eq_iff_iff]
  simp only [beq_iff_eq]
  constructor
  · intro h
    have := congrArg UInt8.toNat h
    simp at this
    omega
  · rintro rfl; rfl
theorem idxB_eq {c : Int} (hc : 0 ≤ c ∧ c < 256) : ∀ l : List Int, (∀ y ∈ l, 0 ≤ y ∧ y < 256) → Lib.indexByte (Lib.bytesOf l) c.toNat.toUInt8 = idxB l c
  | [], _ => rfl
  | x :: l, h => by
    have ih := idxB_eq hc l fun y hy => h y (List.mem_cons_of_mem _ hy)
    show Lib.indexByte (UInt8.ofNat x.toNat :: Lib.bytesOf l) _ = _
    simp only [Lib.indexByte, idxB, ih, u8_eq (h x (List.mem_cons_self ..)) hc]
theorem repL_ints {X : ExtRep} {w : World} {ok : Nat → Prop} {k : IntKind} : ∀ (l : List Int) (cs : List Value), RepL (Rep X w ok (.int k)) l cs → cs = l.map (Value.int k)
  | [], _, h => h
  | x :: l, _, ⟨v1, v2, e, h1, h2⟩ => by
    subst e
    rw [repL_ints l v2 h2, show v1 = [.int k x] from h1]
    rfl
theorem cells_of_rep {w : World} {ok : Nat → Prop} {l : List Int} {v : Value} (h : Rep XB w ok (.slice (.int .u8)) l [v]) :
    ∃ A c, v = .slice A l.length c ∧ ((A = none ∧ l = []) ∨ ∃ a, A = some a ∧ ∀ i, i < l.length → w.cell? (a.add i) = some (.int .u8 (l.getD i 0))) := by
  obtain ⟨A, c, e0, e1, e2, e3⟩ := h
  cases e0
  refine ⟨A, c, rfl, ?_⟩
  rcases e3 with rfl | ⟨b, off, cs, rfl, hb, hc, hr⟩
  · cases A with
    | none => exact .inl ⟨rfl, rfl⟩
    | some a => exact .inr ⟨a, rfl, fun i hi => absurd hi (Nat.not_lt_zero i)⟩
  · refine .inr ⟨_, rfl, fun i hi => ?_⟩
    have := repL_ints l cs hr
    subst this
    rw [add_lit0]
    exact hc i _ (by simp [List.getD, List.getElem?_eq_getElem hi])
theorem IndexByte_spec {x : List Int × Int} {y : Int} (h : indexB x = some y) : AE.Spec Tryd.prog XB ⟨⟨[.dat (.slice (.int .u8)), .dat (.int .u8)], []⟩, ⟨[.dat (.int .i64)], []⟩⟩ 45 x y := by
  obtain ⟨l, c⟩ := x
  refine Spec_of_run fun ok w vals hv => ?_
  obtain ⟨v1, v2, rfl, h1, h2⟩ := VRs.two (a := .sl (.int .u8) l) (b := .int .u8 c) hv
  obtain rfl : v2 = .int .u8 c := h2
  simp only [indexB] at h
  split at h
  · rename_i hc
    cases h
    simp only [Bool.and_eq_true, List.all_eq_true, decide_eq_true_eq] at hc
    refine ⟨[.int .i64 (idxB l c)], ?_, .cons rfl .nil⟩
    rw [run_callFunc_extern Tryd.func45 (by kernel_rfl) (by kernel_rfl) (by kernel_rfl) (e := Extern.BytealgIndexByte.indexByte) (by kernel_rfl)]
    obtain ⟨A, cc, rfl, ⟨rfl, rfl⟩ | ⟨a, rfl, hcs⟩⟩ := cells_of_rep h1
    · show Result.andThen ((Extern.BytealgIndexByte.indexByte #[.slice none 0 cc, .int .u8 c]).run Tryd.prog w) _ = _
      rw [run_indexByteNil]; rfl
    · show Result.andThen ((Extern.BytealgIndexByte.indexByte #[.slice (some a) l.length cc, .int .u8 c]).run Tryd.prog w) _ = _
      rw [run_indexByteAt w a l.length cc l rfl hcs c, idxB_eq hc.2 l hc.1]; rfl
  · cases h
/-! bytes.Clone -/
def cloneB (l : List Int) : Option (List Int) := if l.length ≤ 70368744177664 then some l else none
theorem Clone_spec {x y : List Int} (h : cloneB x = some y) : AE.Spec Tryd.prog XB ⟨⟨[.dat (.slice (.int .u8))], []⟩, ⟨[.dat (.slice (.int .u8))], []⟩⟩ 43 x y := by
  simp only [cloneB] at h
  split at h
  · rename_i hl
    cases h
    refine Spec_of_calls XB_ok Tryd.func43 (by decide) rfl fun S w vals hS _ hv => ?_
    obtain ⟨v, rfl, h1⟩ := VRs.one (a := .sl (.int .u8) x) hv
    obtain ⟨A, cc, rfl, ⟨rfl, rfl⟩ | ⟨a, rfl, hcs⟩⟩ := cells_of_rep h1
    · refine (Tryd.bytes_Clone_nil _ cc w).mono ?_
      rintro e w' ⟨rfl, rfl⟩
      exact ⟨[.slice none 0 0], rfl, Below.refl .., .cons (show Rep XB _ _ (.slice (.int .u8)) [] [.slice none 0 0] from ⟨none, 0, rfl, Nat.le_refl _, Nat.zero_le _, .inl rfl⟩) .nil⟩
    · refine (Tryd.bytes_Clone_at a x.length cc x w rfl (by omega) hcs).mono ?_
      rintro e w' ⟨v', rfl, ho, _, hb⟩
      refine ⟨[v'], rfl, hb, .cons (show Rep XB w' _ (.slice (.int .u8)) x [v'] from ?_) .nil⟩
      rcases ho.2 with ⟨rfl, h0⟩ | ⟨g, cap, cur, rfl, hg, hh, hn, hm, hs, ht⟩
      · have : x = [] := List.eq_nil_of_length_eq_zero h0
        subst this
        exact ⟨none, 0, rfl, Nat.le_refl _, Nat.zero_le _, .inl rfl⟩
      · refine ⟨_, cap, rfl, hn, hm, .inr ⟨g, 0, _, rfl, ⟨hS g hg, (Array.getElem?_eq_some_iff.1 hh).1, fun o h => by cases h⟩, CellsAt.of_row hh (x.length * 1), ?_⟩⟩
        rw [ht]
        exact repL_map x
  · cases h
/-! The digits of a number. -/
def digB : Nat → Nat → List Int
  | 0, _ => []
  | f + 1, u => if u < 10 then [((48 + u : Nat) : Int)] else digB f (u / 10) ++ [((48 + u % 10 : Nat) : Int)]
theorem digB_eq : ∀ (f u : Nat), u < 10 ^ (f + 1) → digB (f + 1) u = (Lib.decDigits u).map fun b => (b.toNat : Int) := by
  intro f
  induction f with
  | zero =>
    intro u hu
    rw [Lib.decDigits]
    simp at hu
    simp [digB, hu]
    omega
  | succ f ih =>
    intro u hu
    rw [Lib.decDigits]
    by_cases h : u < 10
    · simp [digB, h]; omega
    · have hd : u / 10 < 10 ^ (f + 1) := by
        rw [Nat.pow_succ] at hu
        exact Nat.div_lt_of_lt_mul (by omega)
      rw [digB, if_neg h, ih _ hd]
      simp [h]
      omega
end Go.Proofs.YtdhbnblpkodhjaaDoor.BytesX
