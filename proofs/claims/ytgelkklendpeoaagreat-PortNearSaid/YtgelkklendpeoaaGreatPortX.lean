/- Contracts of what the laws of port call: bytealg.Count and IndexByte, slices.Clone, cost.Of, grid.Behind, band.next. -/
import Derived.Test.YtgelkklendpeoaaGreatWP
import Derived.Test.YtgelkklendpeoaaGreatCostX
import Derived.Test.YtgelkklendpeoaaGreatBytesX
import Derived.Test.YtgelkklendpeoaaGreatNameX
import Derived.Test.YtgelkklendpeoaaGreatAeB
namespace Go.Proofs.YtgelkklendpeoaaGreat.PortX
open Go Go.RowKit Go.Sort Go.Lib Go.Proofs.YtgelkklendpeoaaGreatW.PrintWords Go.Proofs.YtgelkklendpeoaaGreatW.PrintLast Go.Proofs.YtgelkklendpeoaaGreat.AE
set_option maxRecDepth 100000
set_option linter.unusedVariables false
set_option linter.unusedSimpArgs false
section
variable {X : ExtRep}
theorem ints {k : IntKind} {w : World} {ok : Nat → Prop} : ∀ {l : List Int} {cs : List Value}, RepL (Rep X w ok (.int k)) l cs → cs = l.map (Value.int k)
  | [], cs, h => h
  | x :: l, cs, ⟨v1, v2, e, h1, h2⟩ => by
    have h1' : v1 = [Value.int k x] := h1
    rw [e, h1', ints h2]; rfl
theorem C_of {k : IntKind} {w : World} {ok : Nat → Prop} {l : List Int} {v : Value} (h : Rep X w ok (.slice (.int k)) l [v]) : ∃ A c, v = .slice A l.length c ∧ l.length ≤ c ∧ (Kd.int k).C w A l.length l := by
  obtain ⟨A, c, e, h1, h2, h3⟩ := h
  have h1' : l.length ≤ c := h1
  refine ⟨A, c, (List.cons.inj e).1, h1', rfl, by unfold maxLen at h2; omega, fun hp => ?_⟩
  rcases h3 with h3 | ⟨b, off, cs, eA, _, hc, hr⟩
  · have h3' : l = [] := h3
    rw [h3'] at hp; cases hp
  · subst eA
    have e := ints hr
    subst e
    refine ⟨_, rfl, fun j p hj => ⟨[.int k p], rfl, rfl, fun i u hu => ?_⟩⟩
    have hi : i = 0 := by
      have := (List.getElem?_eq_some_iff.1 hu).1
      simp at this; omega
    subst hi
    simp at hu
    subst hu
    have := hc j (.int k p) (by rw [List.getElem?_map, hj]; rfl)
    rw [← this]
    show w.cell? (Addr.add ⟨b, off, none⟩ (j * 1 + 0)) = _
    rw [Nat.mul_one, Nat.add_zero]
    congr 1
    unfold Addr.add
    split <;> simp_all
theorem of_R {k : IntKind} {e : TypeId} {w : World} {base : Nat} {ok ok' : Nat → Prop} {v : Value} {l : List Int} (h : (Kd.int k).R e w base ok v l) (hok : ∀ b, base ≤ b → b < w.heap.size → ok' b) : Rep X w ok' (.slice (.int k)) l [v] := by
  have ho := Kd.own_of_R h
  rcases ho.2 with ⟨rfl, h0⟩ | ⟨g, cap, cur, rfl, hb, hg, hn, hm, hs, ht⟩
  · have : l = [] := List.eq_nil_of_length_eq_zero h0
    subst this
    exact ⟨none, 0, rfl, Nat.le_refl _, Nat.zero_le _, .inl rfl⟩
  · refine ⟨_, cap, rfl, hn, hm, .inr ⟨g, 0, l.map (Value.int k), rfl, hok g hb (Array.getElem?_eq_some_iff.1 hg).1, fun j v hj => ?_, ?_⟩⟩
    · have hlt := (List.getElem?_eq_some_iff.1 hj).1
      rw [List.length_map] at hlt
      unfold World.cell?
      simp only [hg, Nat.zero_add]
      rw [Nat.mul_one] at ht
      have : (cur.toList.take l.length)[j]? = some v := by rw [ht]; exact hj
      rw [List.getElem?_take, if_pos hlt] at this
      simpa using this
    · clear ht hs hm hn hg hb ho h
      induction l with
      | nil => rfl
      | cons x l ih => exact ⟨[.int k x], l.map (Value.int k), rfl, rfl, ih⟩
theorem RepL_of {α : Type} {R : α → List Value → Prop} : ∀ (l : List α) (cs : List Value), cs.length = l.length → (∀ (i : Nat) (x : α) (v : Value), l[i]? = some x → cs[i]? = some v → R x [v]) → RepL R l cs
  | [], [], _, _ => rfl
  | [], _ :: _, h, _ => by simp at h
  | _ :: _, [], h, _ => by simp at h
  | x :: l, v :: cs, h, hr => ⟨[v], cs, rfl, hr 0 x v rfl rfl, RepL_of l cs (by simpa using h) fun i y u h1 h2 => hr (i + 1) y u (by simpa using h1) (by simpa using h2)⟩
/-- A table of one's own is data. -/
theorem of_S {k : IntKind} {e1 e2 : TypeId} {w : World} {base : Nat} {ok' : Nat → Prop} {v : Value} {l : List (List Int)} (h : Kd.S (Kd.slice e1 (Kd.int k)) e2 w base (fun _ => True) v l) (hok : ∀ b, base ≤ b → b < w.heap.size → ok' b) :
    Rep X w ok' (.slice (.slice (.int k))) l [v] := by
  obtain ⟨inner, ho⟩ := Kd.S_own h
  rcases ho.2 with ⟨rfl, h0⟩ | ⟨g, cap, cur, rfl, hb, hg, hn, hm, hs, ht⟩
  · have : l = [] := List.eq_nil_of_length_eq_zero h0
    subst this
    exact ⟨none, 0, rfl, Nat.le_refl _, Nat.zero_le _, .inl rfl⟩
  · have get : ∀ i, i < l.length → ∃ u, w.cell? ⟨g, i, none⟩ = some u ∧ Rep X w ok' (.slice (.int k)) (l.getD i []) [u] := by
      intro i hi
      obtain ⟨c, _, hM, hc⟩ := Kd.S_get h [] (i : Int) (Int.natCast_nonneg _) (Int.ofNat_lt.2 hi)
      obtain ⟨u, rfl, hu⟩ := hM
      rw [Int.toNat_natCast] at hu hc
      have := hc 0 u rfl
      have ea : (⟨g, 0, none⟩ : Addr).add (i * (Kd.slice e1 (Kd.int k)).sz + 0) = ⟨g, i, none⟩ := by
        rw [show (Kd.slice e1 (Kd.int k)).sz = 1 from rfl, Nat.mul_one, Nat.add_zero]
        unfold Addr.add
        split <;> simp_all
      rw [ea] at this
      exact ⟨u, this, of_R hu hok⟩
    refine ⟨_, cap, rfl, hn, hm, .inr ⟨g, 0, (List.range l.length).map (fun i => (w.cell? ⟨g, i, none⟩).getD undef), rfl, hok g hb (Array.getElem?_eq_some_iff.1 hg).1, fun j u hj => ?_, RepL_of (α := List Int) l _ (by rw [List.length_map]; exact List.length_range) fun i x u hx hu => ?_⟩⟩
    · have hlt := (List.getElem?_eq_some_iff.1 hj).1
      simp only [List.length_map, List.length_range] at hlt
      rw [List.getElem?_map, List.getElem?_range hlt, Option.map_some] at hj
      obtain ⟨z, hz, _⟩ := get j hlt
      rw [hz] at hj
      rw [Nat.zero_add, hz]
      exact hj
    · have hlt : i < (l : List (List Int)).length := (List.getElem?_eq_some_iff.1 hx).1
      rw [List.getElem?_map, List.getElem?_range hlt, Option.map_some] at hu
      obtain ⟨z, hz, hr⟩ := get i hlt
      rw [hz] at hu
      have e1 : z = u := Option.some.inj hu
      subst e1
      rw [List.getD_eq_getElem?_getD, hx] at hr
      exact hr
end
theorem uncons {X : ExtRep} {w : World} {ok : Nat → Prop} {own : List Own} {a : AV} {ar : List AV} {vs : List Value} (h : VRs X w ok own (a :: ar) vs) : ∃ v vs', vs = v :: vs' ∧ VR X w ok own a v ∧ VRs X w ok own ar vs' := by
  cases h with | cons h1 h2 => exact ⟨_, _, rfl, h1, h2⟩
/-! internal/bytealg.Count, IndexByte -/
theorem u8_eq {x c : Int} (hx : 0 ≤ x ∧ x < 256) (hc : 0 ≤ c ∧ c < 256) : (UInt8.ofNat x.toNat == c.toNat.toUInt8) = (x == c) := by
  rw [Bool.eq_iff_iff]
  simp only [beq_iff_eq]
  constructor
  · intro h
    have := congrArg UInt8.toNat h
    simp at this
    omega
  · rintro rfl; rfl
def cntB : List Int → Int → Int
  | [], _ => 0
  | x :: l, c => if x == c then cntB l c + 1 else cntB l c
def countB (x : List Int × Int) : Option Int := if (x.1.all fun y => decide (0 ≤ y ∧ y < 256)) && decide (0 ≤ x.2 ∧ x.2 < 256) then some (cntB x.1 x.2) else none
theorem idxB_eq {c : Int} (hc : 0 ≤ c ∧ c < 256) : ∀ l : List Int, (∀ y ∈ l, 0 ≤ y ∧ y < 256) → Lib.indexByte (Lib.bytesOf l) c.toNat.toUInt8 = BytesX.idxB l c
  | [], _ => rfl
  | x :: l, h => by
    have ih := idxB_eq hc l fun y hy => h y (List.mem_cons_of_mem _ hy)
    show Lib.indexByte (UInt8.ofNat x.toNat :: Lib.bytesOf l) _ = _
    simp only [Lib.indexByte, BytesX.idxB, ih, u8_eq (h x (List.mem_cons_self ..)) hc]
theorem cntB_eq {c : Int} (hc : 0 ≤ c ∧ c < 256) : ∀ l : List Int, (∀ y ∈ l, 0 ≤ y ∧ y < 256) → ((Lib.countByte (Lib.bytesOf l) c.toNat.toUInt8 : Nat) : Int) = cntB l c
  | [], _ => rfl
  | x :: l, h => by
    have ih := cntB_eq hc l fun y hy => h y (List.mem_cons_of_mem _ hy)
    show ((Lib.countByte (UInt8.ofNat x.toNat :: Lib.bytesOf l) _ : Nat) : Int) = _
    unfold Lib.countByte at ih ⊢
    rw [List.count_cons, u8_eq (h x (List.mem_cons_self ..)) hc, cntB, ← ih]
    split <;> simp
theorem IndexByte_spec {x : List Int × Int} {y : Int} (h : BytesX.indexB x = some y) : AE.Spec Tryz.prog NoX ⟨⟨[.dat (.slice (.int .u8)), .dat (.int .u8)], []⟩, ⟨[.dat (.int .i64)], []⟩⟩ 91 x y := by
  obtain ⟨l, c⟩ := x
  refine Spec_of_run fun ok w vals hv => ?_
  obtain ⟨v1, v2, rfl, h1, h2⟩ := VRs.two (a := .sl (.int .u8) l) (b := .int .u8 c) hv
  obtain rfl : v2 = .int .u8 c := h2
  simp only [BytesX.indexB] at h
  split at h
  · rename_i hc
    cases h
    simp only [Bool.and_eq_true, List.all_eq_true, decide_eq_true_eq] at hc
    refine ⟨[.int .i64 (BytesX.idxB l c)], ?_, .cons rfl .nil⟩
    rw [run_callFunc_extern Tryz.func91 (by kernel_rfl) (by kernel_rfl) (by kernel_rfl) (e := Extern.BytealgIndexByte.indexByte) (by kernel_rfl)]
    have hs := run_indexByteString (P := Tryz.prog) ⟨(bytesOf l).toArray⟩ c w
    have hb := NameX.run_bytes (P := Tryz.prog) h1
    have key : (Extern.BytealgIndexByte.indexByte #[v1, .int .u8 c]).run Tryz.prog w = .ok (.int .i64 (BytesX.idxB l c)) w := by
      rw [← idxB_eq hc.2 l hc.1]
      change Sem.run Tryz.prog (do
        let b ← Extern.Bytes.bytesOf v1
        let c ← Extern.Bytes.asByte (.int .u8 c)
        match (List.range b.size).find? fun i => b[i]! == c with
        | some i => pure (goInt i)
        | none => pure (goInt (-1))) w = _
      change Sem.run Tryz.prog (do
        let b ← Extern.Bytes.bytesOf (.string ⟨(bytesOf l).toArray⟩)
        let c ← Extern.Bytes.asByte (.int .u8 c)
        match (List.range b.size).find? fun i => b[i]! == c with
        | some i => pure (goInt i)
        | none => pure (goInt (-1))) w = _ at hs
      simp only [Extern.Bytes.bytesOf, Sem.run_bind, Sem.run_pure, Result.andThen] at hs hb ⊢
      rw [hb]
      exact hs
    show Result.andThen ((Extern.BytealgIndexByte.indexByte #[v1, .int .u8 c]).run Tryz.prog w) _ = _
    rw [key]; rfl
  · cases h
theorem Count_spec {x : List Int × Int} {y : Int} (h : countB x = some y) : AE.Spec Tryz.prog NoX ⟨⟨[.dat (.slice (.int .u8)), .dat (.int .u8)], []⟩, ⟨[.dat (.int .i64)], []⟩⟩ 103 x y := by
  obtain ⟨l, c⟩ := x
  refine Spec_of_run fun ok w vals hv => ?_
  obtain ⟨v1, v2, rfl, h1, h2⟩ := VRs.two (a := .sl (.int .u8) l) (b := .int .u8 c) hv
  obtain rfl : v2 = .int .u8 c := h2
  simp only [countB] at h
  split at h
  · rename_i hc
    cases h
    simp only [Bool.and_eq_true, List.all_eq_true, decide_eq_true_eq] at hc
    refine ⟨[.int .i64 (cntB l c)], ?_, .cons rfl .nil⟩
    rw [run_callFunc_extern Tryz.func103 (by kernel_rfl) (by kernel_rfl) (by kernel_rfl) (e := Extern.BytealgCount.count) (by kernel_rfl)]
    have hs := run_countString (P := Tryz.prog) ⟨(bytesOf l).toArray⟩ c w
    have hb := NameX.run_bytes (P := Tryz.prog) h1
    have key : (Extern.BytealgCount.count #[v1, .int .u8 c]).run Tryz.prog w = .ok (.int .i64 (cntB l c)) w := by
      rw [← cntB_eq hc.2 l hc.1]
      change Sem.run Tryz.prog (do
        let b ← Extern.Bytes.bytesOf v1
        let c' ← Extern.Bytes.asByte (.int .u8 c)
        pure (goInt (b.foldl (fun n x => if x == c' then n + 1 else n) (0 : Nat)))) w = _
      change Sem.run Tryz.prog (do
        let b ← Extern.Bytes.bytesOf (.string ⟨(bytesOf l).toArray⟩)
        let c' ← Extern.Bytes.asByte (.int .u8 c)
        pure (goInt (b.foldl (fun n x => if x == c' then n + 1 else n) (0 : Nat)))) w = _ at hs
      simp only [Extern.Bytes.bytesOf, Sem.run_bind, Sem.run_pure, Result.andThen] at hs hb ⊢
      rw [hb]
      exact hs
    show Result.andThen ((Extern.BytealgCount.count #[v1, .int .u8 c]).run Tryz.prog w) _ = _
    rw [key]; rfl
  · cases h
/-! slices.Clone of numbers -/
def cloneI (l : List Int) : Option (List Int) := if l.length ≤ 1048576 then some l else none
theorem CloneI_spec {X : ExtRep} (hX : X.OK) {x y : List Int} (h : cloneI x = some y) : AE.Spec Tryz.prog X ⟨⟨[.dat (.slice (.int .i64))], []⟩, ⟨[.dat (.slice (.int .i64))], []⟩⟩ 56 x y := by
  refine Spec_of_calls hX Tryz.func56 (by decide) rfl fun S w vals hS _ hv => ?_
  obtain ⟨v, rfl, h1⟩ := VRs.one (a := .sl (.int .i64) x) hv
  obtain ⟨A0, c0, rfl, q1, q2⟩ := C_of h1
  unfold cloneI at h
  split at h
  · rename_i hl
    cases h
    refine (PV.slices_Clone_int_int.calls A0 c0 x x w q2 q1 (by unfold PV.slices_Clone_int_int.f; rw [Option.bind_some, if_pos (by rw [List.length_nil]; omega), List.nil_append])).mono ?_
    rintro e w' ⟨v0, rfl, ho, hb⟩
    exact ⟨[v0], rfl, hb, .cons (of_R ho fun b h1 h2 => ⟨hS b h1, h2, fun o ho => by cases ho⟩) .nil⟩
  · cases h
/-! grid.Behind, as it is printed -/
def behG (x : List Int × List Int) : Option (List (List Int)) := PV.grid_Behind.f 4000 x.1 x.2
theorem Behind_spec {X : ExtRep} (hX : X.OK) {x : List Int × List Int} {y : List (List Int)} (h : behG x = some y) : AE.Spec Tryz.prog X ⟨⟨[.dat (.slice (.int .i64)), .dat (.slice (.int .i64))], []⟩, ⟨[.dat (.slice (.slice (.int .i64)))], []⟩⟩ 65 x y := by
  obtain ⟨a, b⟩ := x
  refine Spec_of_calls hX Tryz.func65 (by decide) rfl fun S w vals hS _ hv => ?_
  obtain ⟨v, u, rfl, h1, h2⟩ := VRs.two (a := .sl (.int .i64) a) (b := .sl (.int .i64) b) hv
  obtain ⟨A0, c0, rfl, q1, q2⟩ := C_of h1
  obtain ⟨A1, c1, rfl, q3, q4⟩ := C_of h2
  refine (PV.grid_Behind.calls 4000 A0 c0 a A1 c1 b y w q2 q1 q4 q3 h).mono ?_
  rintro e w' ⟨v0, rfl, ho, hb⟩
  exact ⟨[v0], rfl, hb, .cons (of_S ho fun b h1 h2 => ⟨hS b h1, h2, fun o ho => by cases ho⟩) .nil⟩
/-! band.next, as it is printed -/
def nextB (x : List Int × List Int × Int × Int × Int × (Int × List Int)) : Option (Int × List Int) := PV.band_next.f 4000 x.1 x.2.1 x.2.2.1 x.2.2.2.1 x.2.2.2.2.1 x.2.2.2.2.2.1 x.2.2.2.2.2.2
theorem next_spec {X : ExtRep} (hX : X.OK) {x : List Int × List Int × Int × Int × Int × (Int × List Int)} {y : Int × List Int} (h : nextB x = some y) :
    AE.Spec Tryz.prog X ⟨⟨[.dat (.slice (.int .i64)), .dat (.slice (.int .i64)), .dat (.int .i64), .dat (.int .i64), .dat (.int .i64), .dat (.pair (.int .i64) (.one (.slice (.int .i64))))], []⟩, ⟨[.dat (.pair (.int .i64) (.one (.slice (.int .i64))))], []⟩⟩ 25 x y := by
  obtain ⟨a, b, i, lo, hi, f, d⟩ := x
  refine Spec_of_calls hX Tryz.func25 (by decide) rfl fun S w vals hS _ hv => ?_
  have hv' : VRs X w (okS S w []) [] [.sl (.int .i64) a, .sl (.int .i64) b, .int .i64 i, .int .i64 lo, .int .i64 hi, .agg (.pair (.int .i64) (.one (.slice (.int .i64)))) (f, d)] vals := hv
  clear hv
  obtain ⟨v1, r, rfl, h1, hv⟩ := uncons hv'
  clear hv'
  obtain ⟨v2, r, rfl, h2, hv⟩ := uncons hv
  obtain ⟨v3, r, rfl, h3, hv⟩ := uncons hv
  obtain ⟨v4, r, rfl, h4, hv⟩ := uncons hv
  obtain ⟨v5, r, rfl, h5, hv⟩ := uncons hv
  obtain ⟨v6, rfl, h6⟩ := hv.one
  clear hv
  obtain ⟨A0, c0, rfl, q1, q2⟩ := C_of h1
  obtain ⟨A1, c1, rfl, q3, q4⟩ := C_of h2
  obtain rfl : v3 = .int .i64 i := h3
  obtain rfl : v4 = .int .i64 lo := h4
  obtain rfl : v5 = .int .i64 hi := h5
  obtain ⟨_, cs, rfl, w1, w2, rfl, e1, h7⟩ := h6
  obtain rfl : w1 = [.int .i64 f] := e1
  obtain ⟨v7, rfl⟩ : ∃ v, w2 = [v] := by
    obtain ⟨A, c, e, _⟩ := (show Rep X w _ (.slice (.int .i64)) d w2 from h7)
    exact ⟨_, e⟩
  obtain ⟨A2, c2, rfl, q5, q6⟩ := C_of (show Rep X w _ (.slice (.int .i64)) d [v7] from h7)
  obtain ⟨y1, y2⟩ := y
  refine (PV.band_next.calls 4000 A0 c0 a A1 c1 b i lo hi f A2 c2 d y1 y2 w q2 q1 q4 q3 q6 q5 h).mono ?_
  rintro e w' ⟨v0, rfl, ho, hb⟩
  exact ⟨[.agg #[.int .i64 y1, v0]], rfl, hb, .cons ⟨rfl, [.int .i64 y1, v0], rfl, [.int .i64 y1], [v0], rfl, rfl, of_R ho fun b h1 h2 => ⟨hS b h1, h2, fun o ho => by cases ho⟩⟩ .nil⟩
/-! cost.Of -/
def wfI (x : Int) : Bool := decide (-9223372036854775808 ≤ x) && decide (x < 9223372036854775808)
def shapeO (x : List Int × List Int) : Option (Int × Int × Int × Int) := if decide (x.1.length ≤ 1048576) && decide (x.2.length ≤ 1048576) && x.1.all wfI && x.2.all wfI then some ((x.1.length : Int), (x.2.length : Int), (CostX.uniq (x.2 ++ x.1) : Int), (CostX.sumR x.2 x.1 : Int)) else none
theorem Of_spec {X : ExtRep} (hX : X.OK) {x : List Int × List Int} {y : Int × Int × Int × Int} (h : shapeO x = some y) :
    AE.Spec Tryz.prog X ⟨⟨[.dat (.slice (.int .i64)), .dat (.slice (.int .i64))], []⟩, ⟨[.dat (.pair (.int .i64) (.pair (.int .i64) (.pair (.int .i64) (.one (.int .i64)))))], []⟩⟩ 32 x y := by
  obtain ⟨a, b⟩ := x
  simp only [shapeO] at h
  split at h
  · rename_i hc
    cases h
    simp only [Bool.and_eq_true, decide_eq_true_eq, List.all_eq_true, wfI] at hc
    obtain ⟨⟨⟨la, lb⟩, wa⟩, wb⟩ := hc
    refine Spec_of_calls hX Tryz.func32 (by decide) rfl fun S w vals hS _ hv => ?_
    obtain ⟨v, u, rfl, h1, h2⟩ := VRs.two (a := .sl (.int .i64) a) (b := .sl (.int .i64) b) hv
    obtain ⟨A0, c0, rfl, q1, q2⟩ := C_of h1
    obtain ⟨A1, c1, rfl, q3, q4⟩ := C_of h2
    refine (CostX.Of_calls A0 c0 a A1 c1 b w q2 q1 q4 q3 la lb (fun x hx => CostX.wf_of (wa x hx)) (fun x hx => CostX.wf_of (wb x hx))).mono ?_
    rintro e w' ⟨rfl, hb⟩
    exact ⟨[.agg #[.int .i64 (a.length : Int), .int .i64 (b.length : Int), .int .i64 (CostX.uniq (b ++ a) : Int), .int .i64 (CostX.sumR b a : Int)]], rfl, hb, .cons ⟨rfl, _, rfl, [.int .i64 _], _, rfl, rfl, [.int .i64 _], _, rfl, rfl, [.int .i64 _], _, rfl, rfl, rfl⟩ .nil⟩
  · cases h
end Go.Proofs.YtgelkklendpeoaaGreat.PortX
