import Derived.Test.YtbbbcdfagmcfgaaWP
import Derived.Test.YtbbbcdfagmcfgaaProg
import Derived.Maps.Own
import Derived.Maps.OwnOps
import Derived.Maps.Views
import Derived.StillTailTactics
import Derived.Outline
import Derived.Test.YtbbbcdfagmcfgaaVecSpecFit
import Derived.Sort.OwnSortedInts
import Derived.Lib.OwnBridge
import Derived.Deep.LoopGhost
import Derived.Deep.RegionHeldLaw
import Derived.Lib.RowBridge
import Derived.Lib.SlicesCompact
open Go Go.RowKit Go.Maps Go.Proofs Go.Proofs.YtbbbcdfagmcfgaaW.PrintWords Go.Proofs.YtbbbcdfagmcfgaaW.PrintLast Go.Proofs.YtbbbcdfagmcfgaaW.PrintMore
namespace Go.Proofs.Ytbbbcdfagmcfgaa.Masks
set_option linter.unusedVariables false
set_option linter.unusedSimpArgs false

def rawR (v : Value) : Option (DataW Value × List MemPlace) := some (.held v, [])
theorem law3 : Keyed Try.prog 3 := int_keyed Try.underlying3
theorem zeroU (w : World) : (zeroValue 47).run Try.prog w = .ok (.slice none 0 0) w := by kernel_rfl

theorem look {w : World} {bm n : Nat} {D : DataW Value} (h : w.ownsMap Try.prog 3 rawR bm n D) (x : Int) (hx : (Lit.int .i64 x).wf = true) :
    ∃ v, D.atKey (.int .i64 x) (.held (.slice none 0 0)) = .held v ∧ ∀ W : World, W.heap = w.heap → (Instr.lookup 56 (.map (some bm)) (.int .i64 x) false).run Try.prog W = .ok v W := by
  obtain ⟨es, clock, hb, F, hs, hD⟩ := h
  have key := fun (W : World) (hW : W.heap = w.heap) => (show W.ownsMap Try.prog 3 rawR bm n D from ⟨es, clock, by rw [hW]; exact hb, F, hs, hD⟩).lookup law3 Try.underlying56 (zeroU W) (zd := .held (.slice none 0 0)) (zp := []) rfl (keyOf_int_mk Try.underlying3 hx)
  obtain ⟨v, ps, h1, h2⟩ := key w rfl
  simp only [rawR, Option.some.injEq, Prod.mk.injEq] at h2
  refine ⟨v, h2.1.symm, fun W hW => ?_⟩
  obtain ⟨v', ps', h1', h2'⟩ := key W hW
  simp only [rawR, Option.some.injEq, Prod.mk.injEq] at h2'
  have : (DataW.held v' : DataW Value) = .held v := h2'.1.trans h2.1.symm
  injection this with this
  subst this
  exact h1'

/-- What lies in memory for a list's masks. -/
def IsMask (w : World) (g : Nat) (b : List Int) (syms : List Int) (rows : Int → List Int) : Prop :=
  ∃ (As : Option Addr) (cs bm n : Nat) (D : DataW Value), w.heap[g]? = some (.cells #[.int .i64 (b.length : Int), .slice As syms.length cs, .map (some bm)] 58 (0, 0)) ∧
    Kd.C (Kd.int .i64) w As syms.length syms ∧ syms.length ≤ cs ∧ w.ownsMap Try.prog 3 rawR bm n D ∧
    ∀ x, (Lit.int .i64 x).wf = true → ∃ A c, D.atKey (.int .i64 x) (.held (.slice none 0 0)) = .held (.slice A (rows x).length c) ∧ Kd.C (Kd.int .u64) w A (rows x).length (rows x) ∧ (rows x).length ≤ c

theorem cells3 {w : World} {g : Nat} {v0 v1 v2 : Value} {T : TypeId} (h : w.heap[g]? = some (.cells #[v0, v1, v2] T (0, 0))) : w.cell? ⟨g, 0, none⟩ = some v0 ∧ w.cell? ⟨g, 1, none⟩ = some v1 ∧ w.cell? ⟨g, 2, none⟩ = some v2 := by
  simp [World.cell?, h]

theorem Of_calls (k : Nat) (g : Nat) (b syms : List Int) (rows : Int → List Int) (x : Int) (hx : (Lit.int .i64 x).wf = true) (r : List Int) (w : World) (hm : IsMask w g b syms rows) (h : PV.vec_Fit.f k (rows x) (b.length : Int) = some r) :
    Calls Try.prog 26 #[.pointer (some ⟨g, 0, none⟩), .int .i64 x] w fun e w' => ∃ v0_ : Value, e = .returned v0_ ∧ Kd.R (Kd.int .u64) 61 w' w.heap.size (fun _ => True) v0_ r ∧ Below w.heap.size w w' := by
  obtain ⟨As, cs, bm, n, D, hg, hs, hcs, ho, hr⟩ := hm
  obtain ⟨A, c, hD, hC, hc⟩ := hr x hx
  obtain ⟨v, hv, hl⟩ := look ho x hx
  rw [hD] at hv
  injection hv with hv
  subst hv
  obtain ⟨q0, q1, q2⟩ := cells3 hg
  clear hD hr ho hs hcs q1 hg
  have hl1 := hl { w with drawn := w.drawn + 1 } rfl
  have hl2 := hl w.drew rfl
  have HL := Aside0.mk hl
  have HC := Aside0.mk hC
  have HCc := Aside0.mk hc
  have HF := Aside0.mk h
  clear hl hC hc h
  go_enter Try.func26, Try.ntmps26
  go_wp2
  go_still_tail 10, (by kernel_rfl)
  go_wp2_with (go_at_call 41; refine (PV.vec_Fit.calls k A c (rows x) _ r _ (by exact HC.out) HCc.out HF.out).mono ?_; rintro e w1 ⟨v, rfl, ho, hb⟩)
  go_ret
  exact ⟨_, rfl, ho, ⟨hb.os, hb.tape, hb.output, hb.size, hb.block⟩⟩

def sortL (l : List Int) : List Int := l.mergeSort fun x y => decide (x ≤ y)
def SortC : Prop := ∀ (blk off cap : Nat) (zs : List Int) (w : World), Go.Sort.Holds (Value.int .i64) w blk off zs.toArray → blk < w.heap.size → zs.length < 4611686018427387904 →
  Calls Try.prog 36 #[.slice (some ⟨blk, off, none⟩) zs.length cap] w fun e w' => e = .returned (.tuple #[]) ∧ ∃ n os, w' = Go.Sort.grow (Go.Sort.putRow (Value.int .i64) (Go.Sort.ahead w n) blk off (zs.mergeSort fun x y => decide (x ≤ y)).toArray) os
def SortN : Prop := ∀ (p : Option Addr) (cap : Nat) (w : World), Calls Try.prog 36 #[.slice p 0 cap] w fun e w' => e = .returned (.tuple #[]) ∧ w' = w
def CompC : Prop := ∀ (blk off cap : Nat) (zs : List Int) (w : World), Go.Sort.Holds (Value.int .i64) w blk off zs.toArray → zs.length ≤ 9223372036854775807 → zs.length ≤ cap →
  Calls Try.prog 37 #[.slice (some ⟨blk, off, none⟩) zs.length cap] w fun e w' => e = .returned (.slice (some ⟨blk, off, none⟩) (Lib.compact zs).length cap) ∧ ∃ q, w' = Go.Sort.putRow (Value.int .i64) (Go.Sort.ahead w q) blk off (Lib.compact zs ++ List.replicate (zs.length - (Lib.compact zs).length) 0).toArray
def CompN : Prop := ∀ (a : Option Addr) (cap : Nat) (w : World), Calls Try.prog 37 #[.slice a 0 cap] w fun e w' => e = .returned (.slice a 0 cap) ∧ w' = w

theorem sort_len (l : List Int) : (sortL l).length = l.length := List.length_mergeSort l
theorem Sort_any (hS : SortC) (hN : SortN) (A : Option Addr) (c : Nat) (l : List Int) (w : World) (base : Nat) (ok : Nat → Prop) (hl : l.length < 4611686018427387904)
    (h : Kd.R (Kd.int .i64) 3 w base ok (.slice A l.length c) l) :
    Calls Try.prog 36 #[.slice A l.length c] w fun e w' => e = .returned (.tuple #[]) ∧ Kd.R (Kd.int .i64) 3 w' base ok (.slice A l.length c) (sortL l) ∧ w.grownBy w' (Value.slice A l.length c).ownBlock := by
  have ho := Kd.own_of_R h
  rcases Nat.eq_zero_or_pos l.length with h0 | h0
  · obtain rfl := List.eq_nil_of_length_eq_zero h0
    refine (hN A c w).mono ?_
    rintro e w' ⟨rfl, rfl⟩
    exact ⟨rfl, by rw [show sortL [] = [] from by simp [sortL]]; exact h, rfl, rfl, rfl, Nat.le_refl _, fun _ _ _ => rfl⟩
  · rcases ho.2 with ⟨e0, _⟩ | ⟨g, cap, cur, e0, hb, hg, hn, hm, hs, ht⟩
    · injection e0 with _ e1 _
      omega
    · injection e0 with e1 _ e3
      subst e1 e3
      refine (hS g 0 c l w (holds_of_blockI hg (by simpa [encs] using ht)) (Array.getElem?_eq_some_iff.1 hg).1 hl).mono ?_
      rintro e w' ⟨rfl, n, os, rfl⟩
      refine ⟨rfl, Kd.R_of_own ?_ h.1, grownBy_sortedI _⟩
      have := ownsRow_sortedI (n := n) (os := os) (ts := sortL l) (ss := l) (sort_len l) hb hg hn hm hs
      rw [sort_len]
      exact this
theorem Comp_any (hC : CompC) (hN : CompN) (A : Option Addr) (c n : Nat) (l : List Int) (w : World) (base : Nat) (ok : Nat → Prop) (hl : l.length < 4611686018427387904) (hnl : l.length = n)
    (h : Kd.R (Kd.int .i64) 3 w base ok (.slice A l.length c) l) :
    Calls Try.prog 37 #[.slice A n c] w fun e w' => e = .returned (.slice A (Lib.compact l).length c) ∧ Kd.R (Kd.int .i64) 3 w' base ok (.slice A (Lib.compact l).length c) (Lib.compact l) ∧ w.grownBy w' (Value.slice A l.length c).ownBlock := by
  subst hnl
  have ho := Kd.own_of_R h
  rcases Nat.eq_zero_or_pos l.length with h0 | h0
  · obtain rfl := List.eq_nil_of_length_eq_zero h0
    refine (hN A c w).mono ?_
    rintro e w' ⟨rfl, rfl⟩
    exact ⟨rfl, h, rfl, rfl, rfl, Nat.le_refl _, fun _ _ _ => rfl⟩
  · rcases ho.2 with ⟨e0, _⟩ | ⟨g, cap, cur, e0, hb, hg, hn, hm, hs, ht⟩
    · injection e0 with _ e1 _
      omega
    · injection e0 with e1 _ e3
      subst e1 e3
      refine (hC g 0 c l w (holds_of_blockI hg (by simpa [encs] using ht)) (by omega) hn).mono ?_
      rintro e w' ⟨rfl, q, rfl⟩
      have hle := Lib.compact_length_le l
      have hc := Lib.ownsRow_putRow (q := q) (k := (Lib.compact l).length) (ys := Lib.compact l ++ List.replicate (l.length - (Lib.compact l).length) 0) ho (by simp; omega) hle
      rw [List.take_left] at hc
      exact ⟨rfl, Kd.R_of_own hc h.1, ⟨rfl, rfl, rfl, by simp [Go.Sort.putRow, Go.Sort.mapBlock, Go.Sort.ahead], fun k hk hne => by
        have : g ≠ k := fun e => hne (by rw [← e]; rfl)
        simp [Go.Sort.putRow, Go.Sort.mapBlock, Go.Sort.ahead, Array.getElem?_modify, this]⟩⟩

/-- While the symbols are made: the struct, the empty map, the symbols' row. -/
structure St (w W : World) (n : Nat) (v : Value) (A : Option Addr) (c : Nat) (l : List Int) : Prop where
  box : W.heap[w.heap.size + 1]? = some (.cells #[.int .i64 (n : Int), v, .map (some w.heap.size)] 58 (0, 0))
  map : W.heap[w.heap.size]? = some (.map #[] 0)
  row : Kd.R (Kd.int .i64) 3 W (w.heap.size + 2) (fun _ => True) (.slice A l.length c) l
  bel : Below w.heap.size w W
theorem St.size {w W n v A c l} (h : St w W n v A c l) : w.heap.size + 2 ≤ W.heap.size := by
  have := (Array.getElem?_eq_some_iff.1 h.box).1
  omega
theorem St.cells {w W n v A c l} (h : St w W n v A c l) : W.cell? ⟨w.heap.size + 1, 0, none⟩ = some (.int .i64 (n : Int)) ∧ W.cell? ⟨w.heap.size + 1, 1, none⟩ = some v ∧ W.cell? ⟨w.heap.size + 1, 2, none⟩ = some (.map (some w.heap.size)) ∧ W.frozen? ⟨w.heap.size + 1, 1, none⟩ = false := by
  have := cells3 h.box
  exact ⟨this.1, this.2.1, this.2.2, by simp [World.frozen?, h.box]⟩
theorem St.grown {w W W' n v A c l} {A' : Option Addr} {c' : Nat} {l' : List Int} (h : St w W n v A c l) (hg : W.grownBy W' (Value.slice A l.length c).ownBlock) (hr : Kd.R (Kd.int .i64) 3 W' (w.heap.size + 2) (fun _ => True) (.slice A' l'.length c') l') : St w W' n v A' c' l' := by
  have hs := h.size
  have hb := fun k (e : (Value.slice A l.length c).ownBlock = some k) => Kd.R_base h.row k e
  refine ⟨(hg.block _ (by omega) fun e => ?_).trans h.box, (hg.block _ (by omega) fun e => ?_).trans h.map, hr, h.bel.grown hg h.bel.size fun k e => ?_⟩
  · have := hb _ e.symm
    omega
  · have := hb _ e.symm
    omega
  · have := hb _ e
    omega
theorem St.store {w W n v A c l} (h : St w W n v A c l) (v' : Value) : St w (W.setCell ⟨w.heap.size + 1, 1, none⟩ v') n v' A c l := by
  have hb := fun k (e : (Value.slice A l.length c).ownBlock = some k) => Kd.R_base h.row k e
  have hg : W.grownBy (W.setCell ⟨w.heap.size + 1, 1, none⟩ v') (some (w.heap.size + 1)) := ⟨rfl, rfl, rfl, by simp, fun k _ hne => heap_setCell_other W _ k v' fun e => hne (by rw [e])⟩
  refine ⟨?_, (heap_setCell_other W _ _ v' (by simp)).trans h.map, ?_, h.bel.grown hg h.bel.size fun k e => by cases e; omega⟩
  · rw [heap_setCell_same W _ 1 _ _ v' h.box]
    rfl
  · refine Kd.R_of_own ((Kd.own_of_R h.row).kept hg ?_) h.row.1
    cases e : (Value.slice A l.length c).ownBlock with
    | none => exact .inl rfl
    | some k =>
      right
      intro e2
      have := hb k e
      injection e2 with e2
      omega

theorem wds_val (n : Int) (m : Nat) (h : VecSpec.wid n = m) : (VecSpec.wds n : Int) = (((m + 63) / 64 : Nat) : Int) := by
  show (((VecSpec.wid n + 63) / 64 : Nat) : Int) = _
  rw [h]
theorem Words_same (n : Int) (w : World) : Calls Try.prog 31 #[.int .i64 n] w fun e w' => e = .returned (.int .i64 (VecSpec.wds n : Int)) ∧ w' = w := by
  by_cases h1 : n < 0
  · have e := wds_val n 0 (by unfold VecSpec.wid; rw [Int.toNat_of_nonpos (by omega)]; rfl)
    rw [e]
    clear e
    go_enter Try.func31, Try.ntmps31
    go_wp2
    go_ret
    exact ⟨rfl, rfl⟩
  · by_cases h2 : 1048576 < n
    · have e := wds_val n 1048576 (by unfold VecSpec.wid; exact Nat.min_eq_right (by omega))
      rw [e]
      clear e
      go_enter Try.func31, Try.ntmps31
      go_wp2
      go_ret
      exact ⟨rfl, rfl⟩
    · obtain ⟨m, rfl⟩ := Int.eq_ofNat_of_zero_le (show 0 ≤ n by omega)
      have h3 : ¬ (m : Int) < 0 := by omega
      have e := wds_val m m (by unfold VecSpec.wid; rw [Int.toNat_natCast]; exact Nat.min_eq_left (by omega))
      rw [e]
      clear e
      have h4 : ((((m + 63) / 64 : Nat) : Int)) = ((m : Int) + 64 - 1) / 64 := by omega
      rw [h4]
      clear h4
      go_enter Try.func31, Try.ntmps31
      go_wp2
      go_ret
      exact ⟨rfl, rfl⟩

/-- While the rows are made and filled. -/
structure Lp (w W : World) (n : Nat) (A : Option Addr) (c : Nat) (syms : List Int) (q : Nat) (vl : Int → Value) (ct : Int → List Int) : Prop where
  box : W.heap[w.heap.size + 1]? = some (.cells #[.int .i64 (n : Int), .slice A syms.length c, .map (some w.heap.size)] 58 (0, 0))
  row : Kd.R (Kd.int .i64) 3 W (w.heap.size + 2) (fun _ => True) (.slice A syms.length c) syms
  bel : Below w.heap.size w W
  map : ∃ D, W.ownsMap Try.prog 3 rawR w.heap.size q D ∧ ∀ x, (Lit.int .i64 x).wf = true → D.atKey (.int .i64 x) (.held (.slice none 0 0)) = .held (vl x)
  rows : ∀ x, Kd.R (Kd.int .u64) 61 W (w.heap.size + 2) (fun _ => True) (vl x) (ct x)
  apart : ∀ x y, x ≠ y → (vl x).ownBlock = none ∨ (vl x).ownBlock ≠ (vl y).ownBlock
theorem Lp.size {w W n A c syms q vl ct} (h : Lp w W n A c syms q vl ct) : w.heap.size + 2 ≤ W.heap.size := by
  have := (Array.getElem?_eq_some_iff.1 h.box).1
  omega
theorem Lp.cells {w W n A c syms q vl ct} (h : Lp w W n A c syms q vl ct) : W.cell? ⟨w.heap.size + 1, 0, none⟩ = some (.int .i64 (n : Int)) ∧ W.cell? ⟨w.heap.size + 1, 1, none⟩ = some (.slice A syms.length c) ∧ W.cell? ⟨w.heap.size + 1, 2, none⟩ = some (.map (some w.heap.size)) := cells3 h.box
theorem Lp.of_St {w W : World} {n : Nat} {v A c l} (h : St w W n v A c l) (hv : v = .slice A l.length c) : Lp w W n A c l 0 (fun _ => .slice none 0 0) (fun _ => []) := by
  subst hv
  refine ⟨h.box, h.row, h.bel, ⟨.map [], ⟨#[], 0, h.map, ⟨by simp, Go.MapKept.stamped_empty 0, by simp⟩, Nat.le_refl _, rfl⟩, fun _ _ => rfl⟩, fun _ => Kd.R_nil _ _ _ _ _, fun _ _ _ => .inl rfl⟩
theorem Lp.made {w W W1 W2 n A c syms q vl ct} (h : Lp w W n A c syms q vl ct) (x : Int) (v1 : Value) (l : List Int) (hr : Kd.R (Kd.int .u64) 61 W1 (w.heap.size + 2) (fun _ => True) v1 l) (hg1 : W.grownBy W1 none)
    (hk : ∃ b, v1.ownBlock = some b ∧ W.heap.size ≤ b) (hg2 : W1.grownBy W2 (some w.heap.size))
    (hm : ∃ D, W2.ownsMap Try.prog 3 rawR w.heap.size (q + 1) D ∧ ∀ y, (Lit.int .i64 y).wf = true → D.atKey (.int .i64 y) (.held (.slice none 0 0)) = .held (if y = x then v1 else vl y)) :
    Lp w W2 n A c syms (q + 1) (fun y => if y = x then v1 else vl y) (fun y => if y = x then l else ct y) := by
  have hs := h.size
  have hs1 : W.heap.size ≤ W1.heap.size := hg1.size
  have keep : ∀ {e : Nat} {kk : IntKind} {v : Value} {xs : List Int}, Kd.R (Kd.int kk) e W1 (w.heap.size + 2) (fun _ => True) v xs → Kd.R (Kd.int kk) e W2 (w.heap.size + 2) (fun _ => True) v xs := fun {e kk v xs} hh => by
    refine Kd.R_of_own ((Kd.own_of_R hh).kept hg2 ?_) hh.1
    cases e : v.ownBlock with
    | none => exact .inl rfl
    | some k =>
      right
      intro e2
      have := Kd.R_base hh k e
      injection e2 with e2
      omega
  have keep1 : ∀ {e : Nat} {kk : IntKind} {v : Value} {xs : List Int}, Kd.R (Kd.int kk) e W (w.heap.size + 2) (fun _ => True) v xs → Kd.R (Kd.int kk) e W1 (w.heap.size + 2) (fun _ => True) v xs := fun hh => Kd.R_grown hh hg1 (fun _ _ => by simp)
  refine ⟨((hg2.block _ (by omega) (by simp)).trans (hg1.block _ (by omega) (by simp))).trans h.box, keep (keep1 h.row), (h.bel.grown hg1 h.bel.size (by simp)).grown hg2 (by have := h.bel.size; omega) (fun k e => by cases e; omega), hm, fun y => ?_, fun y z hne => ?_⟩
  · by_cases e : y = x
    · simp only [if_pos e]; exact keep hr
    · simp only [if_neg e]; exact keep (keep1 (h.rows y))
  · obtain ⟨b, hb, hle⟩ := hk
    by_cases e : y = x
    · have e2 : z ≠ x := fun e2 => hne (e.trans e2.symm)
      simp only [if_pos e, if_neg e2]
      right
      intro e3
      rw [hb] at e3
      have := Kd.R_lt (h.rows z) b e3.symm
      omega
    · by_cases e2 : z = x
      · simp only [if_neg e, if_pos e2]
        right
        intro e3
        rw [hb] at e3
        have := Kd.R_lt (h.rows y) b e3
        omega
      · simp only [if_neg e, if_neg e2]
        exact h.apart y z hne
theorem Lp.draw {w W W' n A c syms q vl ct} (h : Lp w W n A c syms q vl ct) (hg : W.grownBy W' none) : Lp w W' n A c syms q vl ct := by
  obtain ⟨D, hD, hD2⟩ := h.map
  exact ⟨(hg.block _ (by have := h.size; omega) (by simp)).trans h.box, Kd.R_grown h.row hg (fun _ _ => by simp), h.bel.grown hg h.bel.size (by simp), ⟨D, hD.kept hg (by simp), hD2⟩, fun y => Kd.R_grown (h.rows y) hg (fun _ _ => by simp), h.apart⟩
theorem Lp.wrote {w W n A c syms q vl ct} (h : Lp w W n A c syms q vl ct) (x : Int) (g cap m : Nat) (hv : vl x = .slice (some ⟨g, 0, none⟩) m cap) (hm : m = (ct x).length) (i : Int) (u : Int) :
    Lp w (W.setCell ⟨g, i.toNat, none⟩ (.int .u64 u)) n A c syms q vl (fun y => if y = x then (ct x).set i.toNat u else ct y) := by
  subst hm
  have hr := h.rows x
  rw [hv] at hr
  obtain ⟨r1, r2⟩ := Kd.R_put hr i u
  have hb : w.heap.size + 2 ≤ g := Kd.R_base hr g rfl
  have hs := h.size
  obtain ⟨D, hD, hD2⟩ := h.map
  refine ⟨(r2.block _ (by omega) (by simp; omega)).trans h.box, ?_, h.bel.grown r2 h.bel.size (fun k e => by cases e; omega), ⟨D, hD.kept r2 (by simp; omega), hD2⟩, fun y => ?_, h.apart⟩
  · exact Kd.R_over h.row hr (by intro q hq; simp [Kd.int, Kd.scalar] at hq; omega) r2
  · by_cases e : y = x
    · subst e
      simp only [if_true]
      rw [hv]
      exact r1
    · simp only [if_neg e]
      refine Kd.R_of_own ((Kd.own_of_R (h.rows y)).kept r2 ?_) (h.rows y).1
      rcases h.apart y x e with h0 | h0
      · exact .inl h0
      · right
        intro e2
        rw [hv] at h0
        exact h0 e2

open VecMath VecSpec
/-- The bits of a number's places among the first j. -/
def mk (b : List Int) (y : Int) : Nat → Nat
  | 0 => 0
  | j + 1 => if b.getD j 0 = y then mk b y j ||| 2 ^ j else mk b y j
/-- A number's row when j places are done. -/
def rws (b syms : List Int) (m j : Nat) (y : Int) : List Int := if y ∈ syms then lay (mk b y j) m else []
def rws0 (syms : List Int) (m i : Nat) (y : Int) : List Int := if y ∈ syms.take i then lay 0 m else []
theorem lay_zero (m : Nat) : List.replicate m (0 : Int) = lay 0 m := by
  apply List.ext_getElem
  · simp [lay]
  · intro k h1 h2
    simp [lay, wd]

theorem mem_upTo (d : Array Int) (x : Int) : ∀ m, x ∈ Lib.compactUpTo d m ↔ ∃ j, j < m ∧ x = d[j]!
  | 0 => by simp [Lib.compactUpTo]
  | m + 1 => by
    rw [Lib.compactUpTo_succ, List.mem_append, mem_upTo d x m]
    constructor
    · rintro (⟨j, h1, h2⟩ | h)
      · exact ⟨j, by omega, h2⟩
      · split at h
        · exact ⟨m, by omega, by simpa using h⟩
        · simp at h
    · rintro ⟨j, h1, h2⟩
      by_cases e : j = m
      · subst e
        cases hk : Lib.keeps d j with
        | true => right; simp [h2]
        | false =>
          left
          have h0 : 0 < j := by
            by_cases h0 : j < 1
            · rw [Lib.keeps_lt_one d j h0] at hk
              cases hk
            · omega
          have h3 : d[j]! = d[j - 1]! := by
            by_cases h3 : d[j]! = d[j - 1]!
            · exact h3
            · rw [Lib.keeps_pos h3] at hk
              cases hk
          exact ⟨j - 1, by omega, h2.trans h3⟩
      · exact .inl ⟨j, by omega, h2⟩
theorem mem_comp (l : List Int) (x : Int) : x ∈ Lib.compact l ↔ x ∈ l := by
  unfold Lib.compact
  rw [mem_upTo]
  constructor
  · rintro ⟨j, h1, rfl⟩
    simp only [List.getElem!_toArray]
    rw [List.getElem!_eq_getElem?_getD, List.getElem?_eq_getElem h1]
    exact List.getElem_mem _
  · intro h
    obtain ⟨j, h1, h2⟩ := List.getElem_of_mem h
    refine ⟨j, h1, ?_⟩
    simp only [List.getElem!_toArray]
    rw [List.getElem!_eq_getElem?_getD, List.getElem?_eq_getElem h1]
    exact h2.symm
theorem mem_sortL (l : List Int) (x : Int) : x ∈ sortL l ↔ x ∈ l := List.mem_mergeSort
theorem rws_put (b syms : List Int) (m : Nat) (j : Int) (h0 : 0 ≤ j) (h1 : rd b j ∈ syms) (h2 : j / 64 < (m : Int)) (jr : Int) (hr : jr = j % 64) :
    (fun y => if y = rd b j then (rws b syms m j.toNat (rd b j)).set (j / 64).toNat (bits BinOp.or IntKind.u64 (rdOf 0 (lay (mk b (rd b j) j.toNat) m) (j / 64)) (IntKind.u64.wrap (2 ^ min jr.toNat 64))) else rws b syms m j.toNat y) = rws b syms m (j + 1).toNat := by
  obtain ⟨i, rfl⟩ := Int.eq_ofNat_of_zero_le h0
  have e0 : ((i : Int) / 64).toNat = i / 64 := by omega
  have e1 : jr.toNat = i % 64 := by omega
  have e2 : ((i : Int) + 1).toNat = i + 1 := by omega
  have e3 : rd b (i : Int) = b.getD i 0 := rfl
  rw [e2, e0, e1, Int.toNat_natCast]
  have e4 : min (i % 64) 64 = i % 64 := by omega
  rw [e4]
  have e5 : rdOf 0 (lay (mk b (rd b (i : Int)) i) m) ((i : Int) / 64) = (wd (mk b (rd b (i : Int)) i) (i / 64) : Int) := by
    unfold rdOf
    rw [e0]
    exact lay_getD _ _ _ (by omega)
  have e6 : IntKind.u64.wrap (2 ^ (i % 64)) = ((2 ^ (i % 64) : Nat) : Int) := by
    have h : (2 : Nat) ^ (i % 64) < 2 ^ 64 := Nat.pow_lt_pow_right (by decide) (by omega)
    have hc : (2 : Int) ^ (i % 64) = ((2 ^ (i % 64) : Nat) : Int) := by rw [Int.natCast_pow]; rfl
    rw [hc]
    exact wraps_u64 _ (Int.natCast_nonneg _) (by rw [show ((2 : Int) ^ 64) = ((2 ^ 64 : Nat) : Int) from rfl]; exact Int.ofNat_lt.2 h)
  rw [e5, e6, bor (wd_lt _ _) (Nat.pow_lt_pow_right (by decide) (by omega))]
  funext y
  by_cases e : y = rd b (i : Int)
  · subst e
    rw [if_pos rfl]
    unfold rws
    rw [if_pos h1, if_pos h1, lay_set _ _ _ (by omega)]
    show _ = lay (if b.getD i 0 = rd b (i : Int) then _ else _) m
    rw [if_pos e3.symm]
  · rw [if_neg e]
    unfold rws
    rw [show mk b y (i + 1) = mk b y i from if_neg (fun h => e (h.symm.trans e3.symm))]
theorem rws_out (b syms : List Int) (m : Nat) (j : Int) (h0 : 0 ≤ j) (h2 : ¬ j / 64 < (m : Int)) : rws b syms m j.toNat = rws b syms m (j + 1).toNat := by
  obtain ⟨i, rfl⟩ := Int.eq_ofNat_of_zero_le h0
  have e2 : ((i : Int) + 1).toNat = i + 1 := by omega
  rw [e2, Int.toNat_natCast]
  funext y
  unfold rws
  have e : lay (mk b y i) m = lay (mk b y (i + 1)) m := by
    refine lay_congr fun k hk => ?_
    show _ = (if b.getD i 0 = y then mk b y i ||| 2 ^ i else mk b y i).testBit k
    split
    · rw [Nat.testBit_or, Nat.testBit_two_pow_of_ne (by omega), Bool.or_false]
    · rfl
  rw [e]
theorem isMap_of_owns {w : World} {bm n : Nat} {D : DataW Value} (h : w.ownsMap Try.prog 3 rawR bm n D) : Go.Maps.IsMap D := by
  obtain ⟨es, clock, hb, F, hs, hD⟩ := h
  exact ⟨_, hD⟩
theorem grownCell {W W' : World} {r : Option Nat} {p : Addr} {v : Value} (hg : W.grownBy W' r) (hne : some p.block ≠ r) (h : W.cell? p = some v) : W'.cell? p = some v := by
  rw [← h]
  unfold World.cell?
  rw [hg.block _ (World.block_lt_of_cell? W p h) hne]
theorem cellA {W : World} {p : Addr} {v : Value} (h : W.cell? p = some v) (o : Obj) : (W.alloc o).cell? p = some v := by
  rw [World.cell?_alloc_some _ _ _ (by rw [h]; rfl)]
  exact h
theorem rws0_succ (syms : List Int) (m : Nat) (i : Int) (h0 : 0 ≤ i) (h : i.toNat < syms.length) : rws0 syms m (i.toNat + 1) = fun y => if y = rd syms i then lay 0 m else rws0 syms m i.toNat y := by
  funext y
  have e : rd syms i = syms[i.toNat] := by unfold rd; rw [List.getD_eq_getElem?_getD, List.getElem?_eq_getElem h]; rfl
  rw [e]
  unfold rws0
  rw [List.take_succ_eq_append_getElem h]
  simp only [List.mem_append, List.mem_singleton]
  by_cases e1 : y = syms[i.toNat]
  · rw [if_pos (.inr e1), if_pos e1]
  · simp only [e1, or_false, if_false]
theorem rws0_all (b syms : List Int) (m : Nat) : rws0 syms m syms.length = rws b syms m 0 := by
  funext y
  simp [rws0, rws, mk]
theorem Lp.toMask {w W A c syms q vl b} {rows : Int → List Int} (h : Lp w W b.length A c syms q vl rows) : IsMask W (w.heap.size + 1) b syms rows := by
  obtain ⟨D, hD1, hD2⟩ := h.map
  have hr := Kd.R_reads' h.row
  refine ⟨A, c, w.heap.size, q, D, h.box, hr.2.2, hr.2.1, hD1, fun x hx => ?_⟩
  obtain ⟨A', c', e, h1, h2⟩ := Kd.R_reads (h.rows x)
  exact ⟨A', c', by rw [hD2 x hx, e], h2, h1⟩
theorem New_lp (hS : SortC) (hN : SortN) (hC : CompC) (hCN : CompN) (A0 : Option Addr) (c0 : Nat) (b : List Int) (w : World) (hr0 : Kd.C (Kd.int .i64) w A0 b.length b) (hc0 : b.length ≤ c0) (hl : b.length < 17592186044416) (hw : ∀ x ∈ b, (Lit.int .i64 x).wf = true) :
    Calls Try.prog 23 #[.slice A0 b.length c0] w fun e w' => e = .returned (.pointer (some ⟨w.heap.size + 1, 0, none⟩)) ∧ ∃ (As : Option Addr) (cs : Nat) (vl : Int → Value), Lp w w' b.length As cs (Lib.compact (sortL b)) (Lib.compact (sortL b)).length vl (rws b (Lib.compact (sortL b)) (wds b.length) b.length) := by
  have hmm := @run_makeMap Try.prog
  have HR0 := Aside0.mk hr0
  have HC0 := Aside0.mk hc0
  have HL := Aside0.mk hl
  have HW := Aside0.mk hw
  have hcl : PV.slices_Clone_int_int.f b = some b := by
    unfold PV.slices_Clone_int_int.f
    rw [Option.bind_some, if_pos (by rw [List.length_nil]; omega), List.nil_append]
  have HCL := Aside0.mk hcl
  clear hr0 hc0 hl hw hcl
  have hs0 : ∀ {w1 : World} {A : Option Addr} {c : Nat}, Below ((w.alloc (.map #[] 0)).alloc (.cells #[.int .i64 (b.length : Int), .slice none 0 0, .map (some w.heap.size)] 58)).heap.size ((w.alloc (.map #[] 0)).alloc (.cells #[.int .i64 (b.length : Int), .slice none 0 0, .map (some w.heap.size)] 58)) w1 →
      Kd.R (Kd.int .i64) 3 w1 ((w.alloc (.map #[] 0)).alloc (.cells #[.int .i64 (b.length : Int), .slice none 0 0, .map (some w.heap.size)] 58)).heap.size (fun _ => True) (.slice A b.length c) b → St w w1 b.length (.slice none 0 0) A c b := by
    intro w1 A c hb hr
    have hsz : ((w.alloc (.map #[] 0)).alloc (.cells #[.int .i64 (b.length : Int), .slice none 0 0, .map (some w.heap.size)] 58)).heap.size = w.heap.size + 2 := by simp
    rw [hsz] at hb hr
    refine ⟨(hb.block _ (by omega)).trans ?_, (hb.block _ (by omega)).trans ?_, hr, ?_⟩
    · show ((w.heap.push _).push _)[w.heap.size + 1]? = _
      simp only [Array.getElem?_push, Array.size_push]
      rw [if_pos trivial]
    · show ((w.heap.push _).push _)[w.heap.size]? = _
      simp [Array.getElem?_push]
    · exact (((Below.refl _ _).alloc (Nat.le_refl _) _).alloc (by simp) _).trans (hb.mono (by omega))
  go_enter Try.func23, Try.ntmps23
  go_wp2_with (first
    | (go_at_call 35; refine (PV.slices_Clone_int_int.calls A0 c0 b b _ (by exact Kd.C_alloc (Kd.C_alloc HR0.out _) _) HC0.out HCL.out).mono ?_; rintro e w1 ⟨v1, rfl, ho1, hb1⟩; obtain ⟨As, cs, es⟩ := Kd.R_slice ho1; subst es; have HS1 := Aside0.mk (hs0 hb1 ho1); clear hb1 ho1 hs0; obtain ⟨q0, q1, q2, qz⟩ := HS1.out.cells)
    | (go_at_call 36; refine (Sort_any hS hN As cs b _ (w.heap.size + 2) (fun _ => True) (by have := HL.out; omega) (by exact (HS1.out.store _).row)).mono ?_; rintro e w2 ⟨rfl, ho2, hg2⟩; have HS2 := Aside0.mk ((HS1.out.store _).grown hg2 (by rw [sort_len]; exact ho2)); clear ho2 hg2 HS1 q0 q1 q2 qz; obtain ⟨q0, q1, q2, qz⟩ := HS2.out.cells)
    | (go_at_call 37; refine (Comp_any hC hCN As cs b.length (sortL b) _ (w.heap.size + 2) (fun _ => True) (by rw [sort_len]; have := HL.out; omega) (sort_len b) (by exact HS2.out.row)).mono ?_; rintro e w3 ⟨rfl, ho3, hg3⟩; have HS3 := Aside0.mk (HS2.out.grown hg3 ho3); clear ho3 hg3 HS2 q0 q1 q2 qz; obtain ⟨q0, q1, q2, qz⟩ := HS3.out.cells))
  have hlp0 := Lp.of_St (HS3.out.store (.slice As (Lib.compact (sortL b)).length cs)) rfl
  have hlen : (Lib.compact (sortL b)).length ≤ b.length := by rw [← sort_len b]; exact Lib.compact_length_le _
  have hmem : ∀ x, x ∈ Lib.compact (sortL b) ↔ x ∈ b := fun x => by rw [mem_comp, mem_sortL]
  generalize hsy : Lib.compact (sortL b) = syms at *
  have LN := Aside0.mk hlen
  have ME := Aside0.mk hmem
  have LP := Aside0.mk hlp0
  have SY := Aside0.mk hsy
  clear hlen hmem hlp0 HS3 q0 q1 q2 qz hsy
  go_loopg [36] syms.length (fun kq v36 w' => ∃ (i : Int) (vl : Int → Value), v36 = .int .i64 i ∧ Aside0 (0 ≤ i ∧ kq + i.toNat = syms.length) ∧ Aside0 (Lp w w' b.length As cs syms i.toNat vl (rws0 syms (wds b.length) i.toNat)))
  case atStart =>
    refine ⟨0, fun _ => .slice none 0 0, rfl, ⟨by omega, rfl⟩, ⟨?_⟩⟩
    have h := LP.out
    have e : rws0 syms (wds b.length) 0 = fun _ => [] := by funext y; simp [rws0]
    show Lp w _ _ _ _ _ 0 _ (rws0 syms (wds b.length) 0)
    rw [e]
    exact h
  case round =>
    clear LP
    obtain ⟨i, vl, rfl, HK, LP⟩ := hrel
    by_cases c : i < (syms.length : Int)
    · have cb : decide (i < (syms.length : Int)) = true := decide_eq_true c
      have h0 := HK.out.1
      obtain ⟨ad, ea, hx0⟩ := Kd.at_int (Kd.R_reads' LP.out.row).2.2 i h0 c
      have HI := Aside0.mk (And.intro h0 c)
      clear c
      replace h0 := eq_true h0
      have p1 : (i < (syms.length : Int)) = True := eq_true (by have := HI.out; omega)
      cases ea
      obtain ⟨q0, q1, q2⟩ := LP.out.cells
      go_wp2
      have hmk : ∀ W : World, (Instr.makeSlice 47 (.int .i64 (wds b.length : Int)) (.int .i64 (wds b.length : Int))).run Try.prog W = .ok (.slice (some ⟨W.heap.size, 0, none⟩) (wds b.length) (wds b.length)) (W.alloc (.cells (Array.replicate (wds b.length) (.int .u64 0)) 61)) := fun W => by
        have hle := wds_le b.length
        have h := run_make (P := Try.prog) W 47 61 _ (.int .u64 0) Try.underlying47 (show Try.prog.info? 61 = some _ from rfl) rfl .i64 .i64 (wds b.length : Int) (wds b.length : Int) (Int.natCast_nonneg _) (Int.le_refl _) (by generalize wds (b.length : Int) = q at *; show (8 : Int) * _ ≤ _; omega) (by generalize wds (b.length : Int) = q at *; omega)
        rw [h, Int.toNat_natCast]
        refine congrArg (fun c => Result.ok _ (W.alloc (.cells c 61))) ?_
        show madeCells #[.int .u64 0] (wds (b.length : Int) * 1) = _
        rw [Nat.mul_one]
        apply Array.ext
        · simp [madeCells]
        · intro k h1 h2
          simp [madeCells, Nat.mod_one]
      obtain ⟨D, hD1, hD2⟩ := LP.out.map
      have hx : (Lit.int .i64 (rd syms i)).wf = true := by
        refine HW.out _ ((ME.out _).1 ?_)
        have h := HI.out
        unfold rd
        rw [List.getD_eq_getElem?_getD, List.getElem?_eq_getElem (show i.toNat < syms.length by omega)]
        exact List.getElem_mem _
      obtain ⟨w2, hrun, hm2, hg2⟩ := ((hD1.alloc (.cells (Array.replicate (wds b.length) (.int .u64 0)) 61)).drew).update (t := 56) (val := .slice (some ⟨wr.heap.size, 0, none⟩) (wds b.length) (wds b.length)) (d := .held (.slice (some ⟨wr.heap.size, 0, none⟩) (wds b.length) (wds b.length))) law3 Try.underlying56 (by have := HI.out; have := HL.out; have := LN.out; simp only [maxLen]; omega) (keyOf_int_mk Try.underlying3 hx) rfl
      have HDM := Aside0.mk (isMap_of_owns hD1)
      have HX := Aside0.mk hx
      have HM2 := Aside0.mk hm2
      have HG2 := Aside0.mk hg2
      have HD2 := Aside0.mk hD2
      clear hx hm2 hg2 hD1 hD2
      go_region_held_law (fun w' => w'.cell? ⟨w.heap.size + 1, 0, none⟩ = some (.int .i64 (b.length : Int)) ∧ w'.cell? ⟨w.heap.size + 1, 2, none⟩ = some (.map (some w.heap.size))) (first | exact ⟨q0, q2⟩ | exact ⟨cellA q0 _, cellA q2 _⟩ | exact ⟨grownCell HG2.out (by simp) (cellA q0 _), grownCell HG2.out (by simp) (cellA q2 _)⟩) (first | (go_at_call 31; refine (Words_same _ _).mono ?_; rintro e w' ⟨rfl, rfl⟩))
      go_wp2
      go_roundg (syms.length - i.toNat - 1)
      case measure => have := HK.out; have := HI.out; omega
      case rel =>
        have hw1 : wrap64 (i + 1) = i + 1 := wrap64_id (by have := HI.out; omega) (by have := HI.out; have := LN.out; have := HL.out; omega)
        have hw2 : (i + 1).toNat = i.toNat + 1 := by have := HI.out; omega
        refine ⟨i + 1, fun y => if y = rd syms i then .slice (some ⟨wr.heap.size, 0, none⟩) (wds b.length) (wds b.length) else vl y, ?_, ⟨?_⟩, ⟨?_⟩⟩
        · exact congrArg (Value.int .i64) hw1
        · have := HI.out; have := HK.out; omega
        · rw [hw2, rws0_succ syms _ i (by have := HI.out; omega) (by have := HI.out; omega)]
          refine Lp.made LP.out (rd syms i) _ _ (W1 := (wr.alloc (.cells (Array.replicate (wds b.length) (.int .u64 0)) 61)).drew) ?_ ⟨rfl, rfl, rfl, by simp, fun k hk _ => ?_⟩ ⟨_, rfl, Nat.le_refl _⟩ HG2.out ⟨_, HM2.out, fun y hy => ?_⟩
          · have h2 := World.ownsRow_lit (base := w.heap.size + 2) (e := 61) (size := 1) wr (Array.replicate (wds b.length) (.int .u64 0)) (wds b.length) LP.out.size (by have := wds_le b.length; simp [maxLen]; omega) (by simp)
            refine Kd.R_drew (Kd.R_of_own ?_ (fun _ _ => trivial))
            rw [lay_length]
            simpa [encs, ← lay_zero] using h2
          · show (wr.heap.push _)[k]? = _
            rw [Array.getElem?_push, if_neg (by omega)]
          · by_cases e : y = rd syms i
            · rw [if_pos e, e]
              exact Go.Maps.atKey_put_same HDM.out (by trivial) _ _
            · rw [if_neg e, Go.Maps.atKey_put_other (fun h => e (by injection h))]
              exact HD2.out y hy
    · have cb : decide (i < (syms.length : Int)) = false := decide_eq_false c
      have hi : i.toNat = syms.length := by have := HK.out; omega
      have hlp := LP.out
      rw [hi, rws0_all b] at hlp
      have L2 := Aside0.mk hlp
      clear hlp hi LP HK c
      go_wp2
      go_loopg [54] b.length (fun kq v54 w' => ∃ (j : Int), v54 = .int .i64 j ∧ Aside0 (0 ≤ j ∧ kq + j.toNat = b.length) ∧ Aside0 (Lp w w' b.length As cs syms syms.length vl (rws b syms (wds b.length) j.toNat)))
      case atStart =>
        exact ⟨0, rfl, ⟨by omega, rfl⟩, L2⟩
      case round =>
        clear L2 cb
        obtain ⟨j, rfl, HK, LP⟩ := hrel
        by_cases c : j < (b.length : Int)
        · have cb : decide (j < (b.length : Int)) = true := decide_eq_true c
          have h0 := HK.out.1
          obtain ⟨ad, ea, hx0⟩ := Kd.at_int (Kd.C_below HR0.out LP.out.bel) j h0 c
          have HI := Aside0.mk (And.intro h0 c)
          clear c
          replace h0 := eq_true h0
          have p1 : (j < (b.length : Int)) = True := eq_true (by have := HI.out; omega)
          cases ea
          obtain ⟨q0, q1, q2⟩ := LP.out.cells
          obtain ⟨jw, hjw⟩ : ∃ jw : Int, IntKind.i64.wrap (Int.tdiv j 64) = jw := ⟨_, rfl⟩
          have hjw0 : jw = j / 64 := by
            have := HI.out
            have := HL.out
            rw [← hjw, i64_w, wrap64_id (by rw [Int.tdiv_eq_ediv_of_nonneg (by omega)]; omega) (by rw [Int.tdiv_eq_ediv_of_nonneg (by omega)]; omega), Int.tdiv_eq_ediv_of_nonneg (by omega)]
          by_cases c2 : jw < (wds b.length : Int)
          · have c2b : decide (jw < (wds b.length : Int)) = true := decide_eq_true c2
            have hmy : rd b j ∈ b := by
              have h := HI.out
              unfold rd
              rw [List.getD_eq_getElem?_getD, List.getElem?_eq_getElem (show j.toNat < b.length by omega)]
              exact List.getElem_mem _
            have hx : (Lit.int .i64 (rd b j)).wf = true := HW.out _ hmy
            have hct : rws b syms (wds b.length) j.toNat (rd b j) = lay (mk b (rd b j) j.toNat) (wds b.length) := if_pos ((ME.out _).2 hmy)
            obtain ⟨D, hD1, hD2⟩ := LP.out.map
            obtain ⟨v, hv, hl⟩ := look hD1 (rd b j) hx
            rw [hD2 _ hx] at hv
            injection hv with hv
            have hr := LP.out.rows (rd b j)
            rw [hct] at hr
            obtain ⟨g, cap, hv2, _⟩ := Kd.R_form hr (by rw [lay_length]; have := HI.out; omega)
            rw [lay_length] at hv2
            rw [hv2] at hr
            have hlk := hl wr rfl
            rw [← hv, hv2] at hlk
            have hj0 : 0 ≤ jw := by have := HI.out; omega
            obtain ⟨hc1, hc2⟩ := Kd.R_celln (0 : Int) hr jw hj0 c2
            have hj1 : (jw < (wds b.length : Int)) = True := eq_true c2
            replace hj0 := eq_true hj0
            obtain ⟨jr, hjr⟩ : ∃ jr : Int, IntKind.u64.wrap (Int.tmod j 64) = jr := ⟨_, rfl⟩
            have hjr0 : jr = j % 64 := by
              have := HI.out
              rw [← hjr, Int.tmod_eq_emod_of_nonneg (by omega), wraps_u64 _ (by omega) (by omega)]
            have hjr1 : (0 ≤ jr) = True := eq_true (by omega)
            have hjr2 : decide (0 ≤ jr) = true := decide_eq_true (by omega)
            have JW := Aside0.mk hjw0
            have JR := Aside0.mk hjr0
            have HV2 := Aside0.mk hv2
            have HCT := Aside0.mk hct
            have HMY := Aside0.mk hmy
            have HC2 := Aside0.mk c2
            clear hjw0 hjr0 hv2 hct hD1 hD2 hv hl hr hmy hx c2
            go_wp2_with (go_at_call 31; refine (Words_same _ _).mono ?_; rintro e w' ⟨rfl, rfl⟩)
            go_roundg (b.length - j.toNat - 1)
            case measure => have := HK.out; have := HI.out; omega
            case rel =>
              refine ⟨j + 1, ?_, ⟨by have := HI.out; have := HK.out; omega⟩, ⟨?_⟩⟩
              · exact congrArg (Value.int .i64) (wrap64_id (by have := HI.out; omega) (by have := HI.out; have := HL.out; omega))
              · have h := fun u => LP.out.wrote (rd b j) g cap _ HV2.out (by rw [HCT.out, lay_length]) jw u
                have e := rws_put b syms (wds b.length) j HI.out.1 ((ME.out _).2 HMY.out) (by rw [← JW.out]; exact HC2.out) jr JR.out
                rw [← JW.out] at e
                rw [← e]
                exact h _
          · have c2b : decide (jw < (wds b.length : Int)) = false := decide_eq_false c2
            go_wp2_with (go_at_call 31; refine (Words_same _ _).mono ?_; rintro e w' ⟨rfl, rfl⟩)
            go_roundg (b.length - j.toNat - 1)
            case measure => have := HK.out; have := HI.out; omega
            case rel =>
              refine ⟨j + 1, ?_, ⟨by have := HI.out; have := HK.out; omega⟩, ⟨?_⟩⟩
              · exact congrArg (Value.int .i64) (wrap64_id (by have := HI.out; omega) (by have := HI.out; have := HL.out; omega))
              · rw [← rws_out b syms (wds b.length) j HI.out.1 (by rw [← hjw0]; first | exact c2 | exact Int.not_lt.2 c2)]
                exact LP.out
        · have cb : decide (j < (b.length : Int)) = false := decide_eq_false c
          go_wp2
          go_ret
          have hj : j.toNat = b.length := by have := HK.out; omega
          have hlp := LP.out
          rw [hj] at hlp
          rw [SY.out]
          exact ⟨rfl, _, _, _, hlp⟩
theorem New_calls (hS : SortC) (hN : SortN) (hC : CompC) (hCN : CompN) (A0 : Option Addr) (c0 : Nat) (b : List Int) (w : World) (hr0 : Kd.C (Kd.int .i64) w A0 b.length b) (hc0 : b.length ≤ c0) (hl : b.length < 17592186044416) (hw : ∀ x ∈ b, (Lit.int .i64 x).wf = true) :
    Calls Try.prog 23 #[.slice A0 b.length c0] w fun e w' => ∃ g, e = .returned (.pointer (some ⟨g, 0, none⟩)) ∧ IsMask w' g b (Lib.compact (sortL b)) (rws b (Lib.compact (sortL b)) (wds b.length) b.length) ∧ Below w.heap.size w w' :=
  (New_lp hS hN hC hCN A0 c0 b w hr0 hc0 hl hw).mono fun e w' ⟨he, As, cs, vl, h⟩ => ⟨_, he, h.toMask, h.bel⟩
end Go.Proofs.Ytbbbcdfagmcfgaa.Masks
