import Derived.Test.YtgelkklendpeoaaGreatAeB
import Derived.Test.YtgelkklendpeoaaGreatShelf
import Derived.Lib.BytesEntry
import Derived.Lib.AppendIntMem
import Derived.Lib.Walk
import Derived.Lib.Bytealg
import Derived.WalkKit
import Derived.OwnWalk
namespace Go.Proofs.YtgelkklendpeoaaGreat.NameX
open Go Go.RowKit Go.Sort Go.Lib Go.Proofs.YtgelkklendpeoaaGreat.AE
set_option maxRecDepth 100000
set_option linter.unusedVariables false
set_option linter.unusedSimpArgs false
/-! Bytes, and how two of them stand to each other. -/
def isB (y : Int) : Bool := decide (0 ≤ y ∧ y < 256)
def isBs (l : List Int) : Bool := l.all isB
def cmpL : List Int → List Int → Int
  | [], [] => 0
  | [], _ :: _ => -1
  | _ :: _, [] => 1
  | a :: xs, b :: ys => if a < b then -1 else if b < a then 1 else cmpL xs ys
def cmpB (x : List Int × List Int) : Option Int := if isBs x.1 && isBs x.2 then some (cmpL x.1 x.2) else none
theorem isB_iff {y : Int} : isB y = true ↔ 0 ≤ y ∧ y < 256 := by simp [isB]
theorem isBs_iff {l : List Int} : isBs l = true ↔ ∀ y ∈ l, 0 ≤ y ∧ y < 256 := by simp only [isBs, List.all_eq_true, isB_iff]
theorem u8_lt {x c : Int} (hx : 0 ≤ x ∧ x < 256) (hc : 0 ≤ c ∧ c < 256) : (UInt8.ofNat x.toNat < UInt8.ofNat c.toNat) ↔ (x < c) := by
  rw [UInt8.lt_iff_toNat_lt]
  simp
  omega
theorem cmpL_eq : ∀ (a b : List Int), (∀ y ∈ a, 0 ≤ y ∧ y < 256) → (∀ y ∈ b, 0 ≤ y ∧ y < 256) → compareBytes (bytesOf a) (bytesOf b) = cmpL a b
  | [], [], _, _ => rfl
  | [], _ :: _, _, _ => rfl
  | _ :: _, [], _, _ => rfl
  | a :: xs, b :: ys, ha, hb => by
    show compareBytes (UInt8.ofNat a.toNat :: bytesOf xs) (UInt8.ofNat b.toNat :: bytesOf ys) = _
    have h1 := u8_lt (ha a (List.mem_cons_self ..)) (hb b (List.mem_cons_self ..))
    have h2 := u8_lt (hb b (List.mem_cons_self ..)) (ha a (List.mem_cons_self ..))
    rw [compareBytes, cmpL, cmpL_eq xs ys (fun y hy => ha y (List.mem_cons_of_mem _ hy)) (fun y hy => hb y (List.mem_cons_of_mem _ hy))]
    simp only [h1, h2]
theorem bytesOf_eq {a b : List Int} (ha : ∀ y ∈ a, 0 ≤ y ∧ y < 256) (hb : ∀ y ∈ b, 0 ≤ y ∧ y < 256) : (bytesOf a == bytesOf b) = decide (a = b) := by
  induction a generalizing b with
  | nil => cases b with
    | nil => rfl
    | cons b ys => rfl
  | cons a xs ih => cases b with
    | nil => rfl
    | cons b ys =>
      have h1 := ih (fun y hy => ha y (List.mem_cons_of_mem _ hy)) (b := ys) (fun y hy => hb y (List.mem_cons_of_mem _ hy))
      have ha' := ha a (List.mem_cons_self ..)
      have hb' := hb b (List.mem_cons_self ..)
      show ((UInt8.ofNat a.toNat :: bytesOf xs) == (UInt8.ofNat b.toNat :: bytesOf ys)) = _
      rw [Bool.eq_iff_iff] at h1 ⊢
      simp only [beq_iff_eq, decide_eq_true_eq, List.cons.injEq] at h1 ⊢
      rw [h1]
      refine and_congr_left fun _ => ⟨fun h => ?_, fun h => by rw [h]⟩
      have := congrArg UInt8.toNat h
      simp at this
      omega
/-! Tokens xs they lie in memory. -/
theorem repL_ints {X : ExtRep} {w : World} {ok : Nat → Prop} {k : IntKind} : ∀ (l : List Int) (cs : List Value), RepL (Rep X w ok (.int k)) l cs → cs = l.map (Value.int k)
  | [], _, h => h
  | x :: l, _, ⟨v1, v2, e, h1, h2⟩ => by
    subst e
    rw [repL_ints l v2 h2, show v1 = [.int k x] from h1]
    rfl
theorem cells_of_rep {w : World} {ok : Nat → Prop} {l : List Int} {v : Value} (h : Rep NoX w ok (.slice (.int .u8)) l [v]) :
    ∃ A c, v = .slice A l.length c ∧ ((A = none ∧ l = []) ∨ ∃ a, A = some a ∧ ∀ i, i < l.length → w.cell? (a.add i) = some (.int .u8 (l.getD i 0))) := by
  obtain ⟨A, c, e0, e1, e2, e3⟩ := h
  cases e0
  refine ⟨A, c, rfl, ?_⟩
  rcases e3 with rfl | ⟨b, off, cs, rfl, hb, hc, hr⟩
  · cases A with
    | none => exact .inl ⟨rfl, rfl⟩
    | some a => exact .inr ⟨a, rfl, fun i hi => absurd hi (Nat.not_lt_zero i)⟩
  · refine .inr ⟨_, rfl, fun i hi => ?_⟩
    have := repL_ints l cs hr
    subst this
    rw [add_lit0]
    exact hc i _ (by simp [List.getD, List.getElem?_eq_getElem hi])
theorem run_bytes {P : Program} {w : World} {ok : Nat → Prop} {l : List Int} {v : Value} (h : Rep NoX w ok (.slice (.int .u8)) l [v]) :
    (Extern.Bytes.bytesOf v).run P w = .ok ⟨(bytesOf l).toArray⟩ w := by
  obtain ⟨A, c, rfl, ⟨rfl, rfl⟩ | ⟨a, rfl, hc⟩⟩ := cells_of_rep h
  · rfl
  · have hl := run_loadBytesX (P := P) w l a .empty (fun j x hj => by
      have hjl : j < l.length := (List.getElem?_eq_some_iff.1 hj).1
      rw [hc j hjl, List.getD_eq_getElem?_getD, hj]
      rfl)
    have he : (⟨ByteArray.empty.data ++ (bytesOf l).toArray⟩ : ByteArray) = ⟨(bytesOf l).toArray⟩ := by
      apply ByteArray.ext
      show (#[] : Array UInt8) ++ (bytesOf l).toArray = (bytesOf l).toArray
      simp
    rw [he] at hl
    exact hl
theorem run_compare {P : Program} {w : World} {ok : Nat → Prop} {a b : List Int} {v u : Value} (h : Rep NoX w ok (.slice (.int .u8)) a [v]) (k : Rep NoX w ok (.slice (.int .u8)) b [u])
    (ha : ∀ y ∈ a, 0 ≤ y ∧ y < 256) (hb : ∀ y ∈ b, 0 ≤ y ∧ y < 256) : (Extern.BytealgCompare.compare #[v, u]).run P w = .ok (.int .i64 (cmpL a b)) w := by
  change Sem.run P (do pure (goInt (Extern.BytealgCompare.cmp (← Extern.Bytes.bytesOf v) (← Extern.Bytes.bytesOf u)))) w = _
  simp only [Sem.run_bind, Sem.run_pure, run_bytes h, run_bytes k, Result.andThen]
  rw [cmp_eq, ← cmpL_eq a b ha hb]
  rfl
theorem Compare_spec {x : List Int × List Int} {y : Int} (h : cmpB x = some y) : AE.Spec Tryz.prog NoX ⟨⟨[.dat (.slice (.int .u8)), .dat (.slice (.int .u8))], []⟩, ⟨[.dat (.int .i64)], []⟩⟩ 130 x y := by
  obtain ⟨a, b⟩ := x
  refine Spec_of_run fun ok w vals hv => ?_
  obtain ⟨v1, v2, rfl, h1, h2⟩ := VRs.two (a := .sl (.int .u8) a) (b := .sl (.int .u8) b) hv
  simp only [cmpB] at h
  split at h
  · rename_i hc
    cases h
    simp only [Bool.and_eq_true, isBs_iff] at hc
    refine ⟨[.int .i64 (cmpL a b)], ?_, .cons rfl .nil⟩
    rw [run_callFunc_extern Tryz.func130 (by kernel_rfl) (by kernel_rfl) (by kernel_rfl) (e := Extern.BytealgCompare.compare) (by kernel_rfl)]
    show Result.andThen ((Extern.BytealgCompare.compare #[v1, v2]).run Tryz.prog w) _ = _
    rw [run_compare h1 h2 hc.1 hc.2]; rfl
  · cases h
/-! bytes.Clone -/
def cloneB (l : List Int) : Option (List Int) := if l.length ≤ 70368744177664 then some l else none
theorem Clone_spec {x y : List Int} (h : cloneB x = some y) : AE.Spec Tryz.prog NoX ⟨⟨[.dat (.slice (.int .u8))], []⟩, ⟨[.dat (.slice (.int .u8))], []⟩⟩ 52 x y := by
  simp only [cloneB] at h
  split at h
  · rename_i hl
    cases h
    refine Spec_of_calls NoX_ok Tryz.func52 (by decide) rfl fun S w vals hS _ hv => ?_
    obtain ⟨v, rfl, h1⟩ := VRs.one (a := .sl (.int .u8) x) hv
    obtain ⟨A, cc, rfl, ⟨rfl, rfl⟩ | ⟨a, rfl, hcs⟩⟩ := cells_of_rep h1
    · refine (Tryz.bytes_Clone_nil _ cc w).mono ?_
      rintro e w' ⟨rfl, rfl⟩
      exact ⟨[.slice none 0 0], rfl, Below.refl .., .cons (show Rep NoX _ _ (.slice (.int .u8)) [] [.slice none 0 0] from ⟨none, 0, rfl, Nat.le_refl _, Nat.zero_le _, .inl rfl⟩) .nil⟩
    · refine (Tryz.bytes_Clone_at a x.length cc x w rfl (by omega) hcs).mono ?_
      rintro e w' ⟨v', rfl, ho, _, hb⟩
      refine ⟨[v'], rfl, hb, .cons (show Rep NoX w' _ (.slice (.int .u8)) x [v'] from ?_) .nil⟩
      rcases ho.2 with ⟨rfl, h0⟩ | ⟨g, cap, cur, rfl, hg, hh, hn, hm, hs, ht⟩
      · have : x = [] := List.eq_nil_of_length_eq_zero h0
        subst this
        exact ⟨none, 0, rfl, Nat.le_refl _, Nat.zero_le _, .inl rfl⟩
      · refine ⟨_, cap, rfl, hn, hm, .inr ⟨g, 0, _, rfl, ⟨hS g hg, (Array.getElem?_eq_some_iff.1 hh).1, fun o h => by cases h⟩, CellsAt.of_row hh (x.length * 1), ?_⟩⟩
        rw [ht]
        exact repL_map x
  · cases h
/-! An element of a row of tokens: its header, what it says. -/
structure El (w : World) (ok : Nat → Prop) where
  v : Value
  d : List Int
  r : Rep NoX w ok (.slice (.int .u8)) d [v]
  b : ∀ y ∈ d, 0 ≤ y ∧ y < 256
instance {w : World} {ok : Nat → Prop} : Inhabited (El w ok) := ⟨⟨.slice none 0 0, [], ⟨none, 0, rfl, Nat.le_refl _, Nat.zero_le _, .inl rfl⟩, fun y hy => by cases hy⟩⟩
theorem El.one {w : World} {ok : Nat → Prop} (x : El w ok) : x.v.oneCell' = true := Rep.one NoX_ok _ _ _ x.r x.v (List.mem_singleton.2 rfl)
theorem El.at {w W : World} {ok : Nat → Prop} (hW : ∀ b, ok b → W.heap[b]? = w.heap[b]?) (x : El w ok) : Rep NoX W (fun _ => True) (.slice (.int .u8)) x.d [x.v] :=
  Rep.mono NoX_ok (fun b hb => ⟨trivial, hW b hb⟩) _ _ _ x.r
set_option maxRecDepth 100000 in
theorem Cmp_calls {w W : World} {ok : Nat → Prop} (hW : ∀ b, ok b → W.heap[b]? = w.heap[b]?) (x y : El w ok) :
    Calls Tryz.prog 94 #[x.v, y.v] W fun e w' => e = .returned (.int .i64 (cmpL x.d y.d)) ∧ w' = W := by
  have hr := run_compare (P := Tryz.prog) (x.at hW) (y.at hW) x.b y.b
  go_enter Tryz.func94, Tryz.ntmps94
  go_wp2
  rw [run_callFunc_extern Tryz.func130 (by kernel_rfl) (by kernel_rfl) (by kernel_rfl) (e := Extern.BytealgCompare.compare) (by kernel_rfl), hr]
  simp only [Result.andThen]
  rw [Oper.upon_value]
  go_wp2
  go_ret
  exact ⟨rfl, rfl⟩
theorem run_str {w : World} {ok : Nat → Prop} {l : List Int} {v : Value} (h : Rep NoX w ok (.slice (.int .u8)) l [v]) (hb : ∀ y ∈ l, 0 ≤ y ∧ y < 256) :
    (convert 22 9 v).run Tryz.prog w = .ok (.string (strOfNums l)) w := by
  have hrow : RowAt NoX w (okS (fun _ => True) w []) (.int .u8) l v := by
    obtain ⟨A, c, ev, h1, h2, h3⟩ := h
    cases ev
    refine ⟨A, c, rfl, h1, h2, ?_⟩
    rcases h3 with h3 | ⟨b, off, cs, eA, hk, hc, hr⟩
    · exact .inl h3
    · by_cases hl : l = []
      · exact .inl hl
      · refine .inr ⟨b, off, cs, eA, ?_, hc, RepL.imp (fun x vs h => h) hr⟩
        have e := repL_ints l cs hr
        subst e
        have h5 := hc 0 _ (List.getElem?_eq_getElem (show 0 < (l.map (Value.int .u8)).length by rw [List.length_map]; exact List.length_pos_iff.2 hl))
        exact World.block_lt_of_cell? w _ h5
  have hb := run_bytesStr (P := Tryz.prog) hrow
  obtain ⟨A, c, ev, _⟩ := hrow
  rw [ev] at hb ⊢
  simp only [convert, Sem.run_bind, run_underlying Tryz.underlying22, run_underlying Tryz.underlying9, run_underlying Tryz.underlying5, Result.andThen_ok]
  exact hb
theorem Eq_calls {w W : World} {ok : Nat → Prop} (hW : ∀ b, ok b → W.heap[b]? = w.heap[b]?) (x y : El w ok) :
    Calls Tryz.prog 96 #[x.v, y.v] W fun e w' => e = .returned (.bool (decide (x.d = y.d))) ∧ w' = W := by
  have h := Tryz.bytes_Equal x.v y.v x.d y.d W (run_str (x.at hW) x.b) (run_str (y.at hW) y.b)
  rw [bytesOf_eq x.b y.b] at h
  exact h
end Go.Proofs.YtgelkklendpeoaaGreat.NameX
