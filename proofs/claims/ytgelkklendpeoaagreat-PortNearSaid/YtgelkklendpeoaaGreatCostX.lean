-- cost.Of by hand: two maps of the call's own.
import Derived.Test.YtgelkklendpeoaaGreatProg
import Derived.Maps.Own
import Derived.Maps.OwnOps
import Derived.Maps.OwnSet
import Derived.Maps.Views
import Derived.Outline
import Derived.Deep.LoopGhost
import Derived.Deep.RegionHeldLaw
import Derived.Lib.RowBridge
import Derived.Test.YtgelkklendpeoaaGreatWK
open Go Go.RowKit Go.Maps Go.Proofs Go.Proofs.YtgelkklendpeoaaGreatW.PrintWords Go.Proofs.YtgelkklendpeoaaGreatW.PrintLast Go.Proofs.YtgelkklendpeoaaGreatW.PrintMore
namespace Go.Proofs.YtgelkklendpeoaaGreat.CostX
set_option linter.unusedVariables false
set_option linter.unusedSimpArgs false

def cntI (x : Int) : List Int → Nat
  | [] => 0
  | y :: l => if y == x then cntI x l + 1 else cntI x l
def sumR (b : List Int) : List Int → Nat
  | [] => 0
  | x :: l => cntI x b + sumR b l
def addK (acc : List Int) (x : Int) : List Int := if acc.any (fun y => y == x) then acc else acc ++ [x]
def uniq (l : List Int) : Nat := (l.foldl addK []).length
theorem cnt_snoc (x y : Int) : ∀ l : List Int, cntI x (l ++ [y]) = cntI x l + (if y = x then 1 else 0)
  | [] => by simp [cntI]
  | z :: l => by
    have ih := cnt_snoc x y l
    simp only [List.cons_append, cntI, ih]
    split <;> omega
theorem cnt_le (x : Int) : ∀ l : List Int, cntI x l ≤ l.length
  | [] => Nat.le_refl _
  | z :: l => by
    have ih := cnt_le x l
    simp only [cntI, List.length_cons]
    split <;> omega
theorem sum_snoc (b : List Int) (y : Int) : ∀ l : List Int, sumR b (l ++ [y]) = sumR b l + cntI y b
  | [] => by simp [sumR]
  | z :: l => by
    have ih := sum_snoc b y l
    simp only [List.cons_append, sumR, ih]
    omega
theorem sum_le (b : List Int) : ∀ l : List Int, sumR b l ≤ l.length * b.length
  | [] => by simp [sumR]
  | z :: l => by
    have ih := sum_le b l
    have := cnt_le z b
    simp only [sumR, List.length_cons, Nat.succ_mul]
    omega
theorem sameKey_int (a b : Int) : (Lit.int .i64 a).sameKey (Lit.int .i64 b) = (a == b) := by
  simp only [Lit.sameKey]
  by_cases h : a = b <;> simp [h]
theorem key_fold : ∀ (l acc : List Int), ((l.map (Lit.int .i64)).foldl addKey (acc.map (Lit.int .i64))) = (l.foldl addK acc).map (Lit.int .i64)
  | [], _ => rfl
  | x :: l, acc => by
    have e : addKey (acc.map (Lit.int .i64)) (Lit.int .i64 x) = (addK acc x).map (Lit.int .i64) := by
      unfold addKey addK
      rw [List.any_map]
      have : ((fun y => Lit.sameKey y (Lit.int .i64 x)) ∘ Lit.int .i64) = fun y => y == x := by funext y; exact sameKey_int y x
      rw [this]
      split
      · rfl
      · rw [List.map_append]; rfl
    simp only [List.map_cons, List.foldl_cons]
    rw [e]
    exact key_fold l _
theorem uniq_size (u : DataW Value) (l : List Int) : Maps.size (setOf u (l.map (Lit.int .i64))) = uniq l := by
  rw [size_setOf u _ (by intro x hx; obtain ⟨y, _, rfl⟩ := List.mem_map.1 hx; trivial)]
  have := key_fold l []
  rw [List.map_nil] at this
  rw [this, List.length_map]
  rfl

theorem law3 : Keyed Tryz.prog 3 := int_keyed Tryz.underlying3
theorem zeroI (w : World) : (zeroValue 2).run Tryz.prog w = .ok (.int .i64 0) w := by kernel_rfl
abbrev KS (l : List Int) : DataW Value := setOf (.lit (.bool true)) (l.map (Lit.int .i64))
/-- While both maps are filled: j of the numbers are in. -/
structure L1 (w W : World) (l : List Int) (b : List Int) : Prop where
  bel : Below w.heap.size w W
  box : W.heap[w.heap.size]? = some (.cells #[.int .i64 0, .int .i64 0, .int .i64 0, .int .i64 0] 78 (0, 0))
  cnt : ∃ (n : Nat) (D : DataW Value), n ≤ b.length ∧ W.ownsMap Tryz.prog 3 (plainElem Tryz.prog 2) (w.heap.size + 1) n D ∧ IsMap D ∧ ∀ x, (Lit.int .i64 x).wf = true → D.atKey (.int .i64 x) (.lit (.int .i64 0)) = .lit (.int .i64 (cntI x b))
  all : W.ownsMap Tryz.prog 3 (plainElem Tryz.prog 4) (w.heap.size + 1 + 1) l.length (KS l)
theorem L1.size {w W l b} (h : L1 w W l b) : w.heap.size + 3 ≤ W.heap.size := by
  have := h.all.lt
  omega
theorem L1.start (w : World) : L1 w (((w.alloc (.cells #[.int .i64 0, .int .i64 0, .int .i64 0, .int .i64 0] 78)).alloc (.map #[] 0)).alloc (.map #[] 0)) [] [] := by
  refine ⟨?_, ?_, ⟨0, .map [], Nat.le_refl _, ?_, isMap_empty, fun x _ => rfl⟩, ?_⟩
  · exact (((Below.refl _ _).alloc (Nat.le_refl _) _).alloc (by simp) _).alloc (by simp; omega) _
  · show (((w.heap.push _).push _).push _)[w.heap.size]? = _
    rw [Array.getElem?_push, if_neg (by simp; omega), Array.getElem?_push, if_neg (by simp), Array.getElem?_push, if_pos rfl]
  · have h := World.ownsMap_made (w.alloc (.cells #[.int .i64 0, .int .i64 0, .int .i64 0, .int .i64 0] 78)) Tryz.prog 3 (plainElem (H := Value) Tryz.prog 2)
    have e : (w.alloc (.cells #[.int .i64 0, .int .i64 0, .int .i64 0, .int .i64 0] 78)).heap.size = w.heap.size + 1 := by simp
    rw [e] at h
    exact h.alloc _
  · have h := World.ownsMap_made ((w.alloc (.cells #[.int .i64 0, .int .i64 0, .int .i64 0, .int .i64 0] 78)).alloc (.map #[] 0)) Tryz.prog 3 (plainElem (H := Value) Tryz.prog 4)
    have e : ((w.alloc (.cells #[.int .i64 0, .int .i64 0, .int .i64 0, .int .i64 0] 78)).alloc (.map #[] 0)).heap.size = w.heap.size + 1 + 1 := by simp
    rw [e] at h
    exact h
theorem L1.step {w W W1 W2 : World} {b : List Int} {x : Int} {n : Nat} {D : DataW Value} (h : L1 w W b b) (hx : (Lit.int .i64 x).wf = true) (hn : n ≤ b.length) (hm : IsMap D) (hat : ∀ y, (Lit.int .i64 y).wf = true → D.atKey (.int .i64 y) (.lit (.int .i64 0)) = .lit (.int .i64 (cntI y b)))
    (h1 : W1.ownsMap Tryz.prog 3 (plainElem Tryz.prog 2) (w.heap.size + 1) (n + 1) (D.put (.int .i64 x) (.lit (.int .i64 ((cntI x b : Int) + 1))))) (g1 : W.grownBy W1 (some (w.heap.size + 1)))
    (h2 : W2.ownsMap Tryz.prog 3 (plainElem Tryz.prog 4) (w.heap.size + 1 + 1) (b.length + 1) ((KS b).put (.int .i64 x) (.lit (.bool true)))) (g2 : W1.grownBy W2 (some (w.heap.size + 1 + 1))) : L1 w W2 (b ++ [x]) (b ++ [x]) := by
  have hs := h.size
  have hs1 : W.heap.size ≤ W1.heap.size := g1.size
  refine ⟨(h.bel.grown g1 h.bel.size (fun k e => by cases e; omega)).grown g2 (by have := h.bel.size; omega) (fun k e => by cases e; omega), ((g2.block _ (by omega) (by simp; omega)).trans (g1.block _ (by omega) (by simp))).trans h.box, ⟨n + 1, _, by simp; omega, h1.kept g2 (by simp), hm.put _ _, fun y hy => ?_⟩, ?_⟩
  · by_cases e : y = x
    · subst e
      rw [atKey_put_same hm (by trivial), cnt_snoc, if_pos rfl]
      rfl
    · rw [atKey_put_other (fun h => e (by injection h)), hat y hy, cnt_snoc, if_neg (fun h => e h.symm)]
      rfl
  · rw [List.length_append, List.length_singleton]
    show W2.ownsMap _ _ _ _ _ (setOf _ ((b ++ [x]).map _))
    rw [List.map_append, List.map_singleton, setOf_snoc]
    exact h2
/-- While the second map is filled, and the pairs are counted. -/
structure L2 (w W : World) (g : Nat) (N M : Nat) (R : Nat) (l b : List Int) : Prop where
  l1 : L1 w W l b
  above : w.heap.size + 1 + 1 < g
  box2 : W.heap[g]? = some (.cells #[.int .i64 (N : Int), .int .i64 (M : Int), .int .i64 0, .int .i64 (R : Int)] 78 (0, 0))
theorem cells4 {w : World} {g : Nat} {v0 v1 v2 v3 : Value} {T : TypeId} (h : w.heap[g]? = some (.cells #[v0, v1, v2, v3] T (0, 0))) : w.cell? ⟨g, 0, none⟩ = some v0 ∧ w.cell? ⟨g, 1, none⟩ = some v1 ∧ w.cell? ⟨g, 2, none⟩ = some v2 ∧ w.cell? ⟨g, 3, none⟩ = some v3 ∧ (∀ i, w.frozen? ⟨g, i, none⟩ = false) := by
  simp [World.cell?, World.frozen?, h]
theorem L1.grown {w W W' : World} {l b : List Int} {k : Option Nat} (h : L1 w W l b) (hg : W.grownBy W' k) (hk : ∀ j, k = some j → w.heap.size + 1 + 1 < j) : L1 w W' l b := by
  have hs := h.size
  have ne : ∀ j, j ≤ w.heap.size + 1 + 1 → some j ≠ k := fun j hj e => by
    have := hk j e.symm
    omega
  obtain ⟨n, D, hn, hD, hm, hat⟩ := h.cnt
  refine ⟨h.bel.grown hg h.bel.size (fun j e => by have := hk j e; omega), (hg.block _ (by omega) (ne _ (by omega))).trans h.box, ⟨n, D, hn, hD.kept hg (ne _ (by omega)), hm, hat⟩, h.all.kept hg (ne _ (by omega))⟩
theorem grown_set (W : World) (g i : Nat) (v : Value) : W.grownBy (W.setCell ⟨g, i, none⟩ v) (some g) := ⟨rfl, rfl, rfl, by simp, fun k _ hne => heap_setCell_other W _ k v fun e => hne (by rw [e])⟩
theorem L2.start {w W : World} {l b : List Int} (h : L1 w W l b) (N M : Nat) : L2 w (W.alloc (.cells #[.int .i64 (N : Int), .int .i64 (M : Int), .int .i64 0, .int .i64 0] 78)) W.heap.size N M 0 l b :=
  ⟨h.grown (World.grownBy_alloc W _ none) (fun j e => by cases e), by have := h.size; omega, by show (W.heap.push _)[_]? = _; rw [Array.getElem?_push, if_pos rfl]; rfl⟩
theorem L2.step {w W W2 : World} {g N M R : Nat} {l b : List Int} {x : Int} {c : Nat} (h : L2 w W g N M R l b)
    (h2 : W2.ownsMap Tryz.prog 3 (plainElem Tryz.prog 4) (w.heap.size + 1 + 1) (l.length + 1) ((KS l).put (.int .i64 x) (.lit (.bool true)))) (g2 : (W.setCell ⟨g, 3, none⟩ (.int .i64 ((R : Int) + (c : Int)))).grownBy W2 (some (w.heap.size + 1 + 1))) : L2 w W2 g N M (R + c) (l ++ [x]) b := by
  have hs := h.l1.size
  have ha := h.above
  have hg := grown_set W g 3 (.int .i64 ((R : Int) + (c : Int)))
  have h1 := h.l1.grown hg (fun j e => by cases e; exact ha)
  have hs1 := h1.size
  obtain ⟨n, D, hn, hD, hm, hat⟩ := h1.cnt
  have hlt : g < (W.setCell ⟨g, 3, none⟩ (.int .i64 ((R : Int) + (c : Int)))).heap.size := by
    have := (Array.getElem?_eq_some_iff.1 h.box2).1
    have := hg.size
    omega
  refine ⟨⟨h1.bel.grown g2 h1.bel.size (fun j e => by cases e; omega), (g2.block _ (by omega) (by simp; omega)).trans h1.box, ⟨n, D, hn, hD.kept g2 (by simp), hm, hat⟩, ?_⟩, ha, ?_⟩
  · rw [List.length_append, List.length_singleton]
    show W2.ownsMap _ _ _ _ _ (setOf _ ((l ++ [x]).map _))
    rw [List.map_append, List.map_singleton, setOf_snoc]
    exact h2
  · refine (g2.block _ hlt (by simp; omega)).trans ?_
    rw [heap_setCell_same W _ 3 _ _ (.int .i64 ((R : Int) + (c : Int))) h.box2]
    simp
theorem wrap64_id {n : Int} (h1 : -2^63 ≤ n) (h2 : n < 2^63) : wrap64 n = n := by
  unfold wrap64
  omega
theorem wf_of {x : Int} (h : -9223372036854775808 ≤ x ∧ x < 9223372036854775808) : (Lit.int .i64 x).wf = true := by
  show (decide (IntKind.i64.min ≤ x) && decide (x ≤ IntKind.i64.max)) = true
  rw [show IntKind.i64.min = -9223372036854775808 from by decide, show IntKind.i64.max = 9223372036854775807 from by decide]
  simp only [Bool.and_eq_true, decide_eq_true_eq]
  omega
theorem take_rd {b : List Int} {j : Int} (h0 : 0 ≤ j) (h : j < (b.length : Int)) : b.take (j.toNat + 1) = b.take j.toNat ++ [rd b j] := by
  have hl : j.toNat < b.length := by omega
  rw [List.take_succ_eq_append_getElem hl]
  congr 2
  unfold rd
  rw [List.getD_eq_getElem?_getD, List.getElem?_eq_getElem hl]
  rfl
theorem rd_mem {b : List Int} {j : Int} (h0 : 0 ≤ j) (h : j < (b.length : Int)) : rd b j ∈ b := by
  have hl : j.toNat < b.length := by omega
  unfold rd
  rw [List.getD_eq_getElem?_getD, List.getElem?_eq_getElem hl]
  exact List.getElem_mem _
theorem hcnt (c : Nat) (h : c ≤ 1099511627776) : plainElem (H := Value) Tryz.prog 2 (.int .i64 (wrap64 ((c : Int) + 1))) = some (.lit (.int .i64 ((c : Int) + 1)), []) := by
  rw [wrap64_id (by omega) (by omega)]
  exact plainElem_int Tryz.underlying2 (wf_of (by omega))
set_option maxHeartbeats 6400000 in
set_option maxRecDepth 100000 in
theorem Of_calls (A0 : Option Addr) (c0 : Nat) (a : List Int) (A1 : Option Addr) (c1 : Nat) (b : List Int) (w : World) (hr0 : Kd.C (Kd.int .i64) w A0 a.length a) (hc0 : a.length ≤ c0) (hr1 : Kd.C (Kd.int .i64) w A1 b.length b) (hc1 : b.length ≤ c1)
    (la : a.length ≤ 1048576) (lb : b.length ≤ 1048576) (wa : ∀ x ∈ a, (Lit.int .i64 x).wf = true) (wb : ∀ x ∈ b, (Lit.int .i64 x).wf = true) :
    Calls Tryz.prog 32 #[.slice A0 a.length c0, .slice A1 b.length c1] w fun e w' => e = .returned (.agg #[.int .i64 (a.length : Int), .int .i64 (b.length : Int), .int .i64 (uniq (b ++ a) : Int), .int .i64 (sumR b a : Int)]) ∧ Below w.heap.size w w' := by
  have hmm := @run_makeMap Tryz.prog
  have HR0 := Aside0.mk hr0
  have HR1 := Aside0.mk hr1
  have LA := Aside0.mk la
  have LB := Aside0.mk lb
  have WA := Aside0.mk wa
  have WB := Aside0.mk wb
  have ST := Aside0.mk (L1.start w)
  clear hr0 hr1 la lb wa wb
  go_enter Tryz.func32, Tryz.ntmps32
  go_wp2
  go_loopg [16] b.length (fun kq v16 w' => ∃ (i : Int), v16 = .int .i64 i ∧ Aside0 (0 ≤ i ∧ kq + i.toNat = b.length) ∧ Aside0 (L1 w w' (b.take i.toNat) (b.take i.toNat)))
  case atStart =>
    exact ⟨0, rfl, ⟨by omega, rfl⟩, ⟨ST.out⟩⟩
  case round =>
    clear ST
    obtain ⟨i, rfl, HK, LP⟩ := hrel
    by_cases c : i < (b.length : Int)
    · have cb : decide (i < (b.length : Int)) = true := decide_eq_true c
      have h0 := HK.out.1
      obtain ⟨ad, ea, hx0⟩ := Kd.at_int (Kd.C_below HR1.out LP.out.bel) i h0 c
      have HI := Aside0.mk (And.intro h0 c)
      have HW := Aside0.mk (WB.out _ (rd_mem h0 c))
      have HKEY := Aside0.mk (keyOf_int_mk (P := Tryz.prog) Tryz.underlying3 HW.out)
      clear c
      replace h0 := eq_true h0
      have p1 : (i < (b.length : Int)) = True := eq_true (by have := HI.out; omega)
      cases ea
      obtain ⟨n, D, hn, hD, hm, hat⟩ := LP.out.cnt
      have HN := Aside0.mk hn
      have HD := Aside0.mk hD
      have HM := Aside0.mk hm
      have HAT := Aside0.mk hat
      have HALL := Aside0.mk LP.out.all
      have HLE : Aside0 (cntI (rd b i) (b.take i.toNat) ≤ 1048576 ∧ (b.take i.toNat).length ≤ 1048576) := ⟨by have h1 := cnt_le (rd b i) (b.take i.toNat); have h2 := LB.out; rw [List.length_take] at h1 ⊢; omega⟩
      clear hn hD hm hat
      go_wp2_with (first
        | (at_lookup; refine wpList_lookup_own_int _ rfl _ _ 105 rfl 3 2 .i64 law3 Tryz.underlying105 Tryz.underlying2 (zeroI _) (w.heap.size + 1) n D rfl (by exact HD.out) _ _ rfl (by exact HKEY.out) ?_; intro cc hcc _; obtain rfl : cc = ((cntI (rd b i) (b.take i.toNat) : Nat) : Int) := (by have h1 := HAT.out _ HW.out; have h2 := h1.symm.trans hcc; injection h2 with h2; injection h2 with _ h2; exact h2.symm); clear hcc)
        | (at_mapUpdate; refine wpList_mapUpdate_own _ rfl _ _ _ 105 rfl 3 2 law3 Tryz.underlying105 _ (w.heap.size + 1) n D rfl (by exact HD.out) (by have h1 := HN.out; have h2 := HLE.out.2; unfold maxLen; omega) _ _ _ rfl rfl (by exact HKEY.out) _ [] (by exact hcnt _ (by have := HLE.out.1; omega)) ?_; intro w1 hown1 hgrow1; have HO1 := Aside0.mk hown1; have HG1 := Aside0.mk hgrow1; clear hown1 hgrow1)
        | (at_mapUpdate; refine wpList_mapUpdate_own _ rfl _ _ _ 106 rfl 3 4 law3 Tryz.underlying106 _ (w.heap.size + 1 + 1) (b.take i.toNat).length (KS (b.take i.toNat)) rfl (by exact HALL.out.kept HG1.out (by simp)) (by have h2 := HLE.out.2; unfold maxLen; omega) _ _ _ rfl rfl (by exact HKEY.out) (.lit (.bool true)) [] (by exact plainElem_bool Tryz.underlying4 true) ?_; intro w2 hown2 hgrow2; have HO2 := Aside0.mk hown2; have HG2 := Aside0.mk hgrow2; clear hown2 hgrow2))
      go_roundg (b.length - i.toNat - 1)
      case measure => have := HK.out; have := HI.out; omega
      case rel =>
        have hw2 : (i + 1).toNat = i.toNat + 1 := by have := HI.out; omega
        refine ⟨i + 1, congrArg (Value.int .i64) (wrap64_id (by have := HI.out; omega) (by have := HI.out; have := LB.out; omega)), ⟨by have := HI.out; have := HK.out; omega⟩, ⟨?_⟩⟩
        rw [hw2, take_rd HI.out.1 HI.out.2]
        exact L1.step LP.out HW.out HN.out HM.out HAT.out HO1.out HG1.out HO2.out HG2.out
    · have cb : decide (i < (b.length : Int)) = false := decide_eq_false c
      have hi : i.toNat = b.length := by have := HK.out; omega
      have hlp := LP.out
      rw [hi, List.take_length] at hlp
      have L := Aside0.mk hlp
      clear hlp hi LP HK c
      go_wp2
      have L2S := Aside0.mk (L2.start L.out a.length b.length)
      obtain ⟨g, hg⟩ : ∃ g, wr.heap.size = g := ⟨_, rfl⟩
      rw [hg] at L2S ⊢
      clear L hg
      go_loopg [34] a.length (fun kq v34 w' => ∃ (i : Int), v34 = .int .i64 i ∧ Aside0 (0 ≤ i ∧ kq + i.toNat = a.length) ∧ Aside0 (L2 w w' g a.length b.length (sumR b (a.take i.toNat)) (b ++ a.take i.toNat) b))
      case atStart =>
        refine ⟨0, rfl, ⟨by omega, rfl⟩, ⟨?_⟩⟩
        have h := L2S.out
        show L2 w _ g _ _ (sumR b (a.take 0)) (b ++ a.take 0) b
        rw [List.take_zero, List.append_nil]
        exact h
      case round =>
        clear L2S cb
        obtain ⟨i, rfl, HK, LP⟩ := hrel
        by_cases c : i < (a.length : Int)
        · have cb : decide (i < (a.length : Int)) = true := decide_eq_true c
          have h0 := HK.out.1
          obtain ⟨ad, ea, hx0⟩ := Kd.at_int (Kd.C_below HR0.out LP.out.l1.bel) i h0 c
          have HI := Aside0.mk (And.intro h0 c)
          have HW := Aside0.mk (WA.out _ (rd_mem h0 c))
          have HKEY := Aside0.mk (keyOf_int_mk (P := Tryz.prog) Tryz.underlying3 HW.out)
          clear c
          replace h0 := eq_true h0
          have p1 : (i < (a.length : Int)) = True := eq_true (by have := HI.out; omega)
          cases ea
          obtain ⟨n, D, hn, hD, hm, hat⟩ := LP.out.l1.cnt
          have HN := Aside0.mk hn
          have HD := Aside0.mk hD
          have HAT := Aside0.mk hat
          have HALL := Aside0.mk LP.out.l1.all
          have HAB := Aside0.mk LP.out.above
          have HLE : Aside0 ((b ++ a.take i.toNat).length ≤ 2097152) := ⟨by have h1 := LB.out; have h2 := LA.out; rw [List.length_append, List.length_take]; omega⟩
          have HSUM : Aside0 (sumR b (a.take i.toNat) + cntI (rd a i) b ≤ 1099512676352) := ⟨by
            have h1 := sum_le b (a.take i.toNat)
            have h2 := cnt_le (rd a i) b
            have h3 := LB.out
            have h4 := LA.out
            have h5 : (a.take i.toNat).length * b.length ≤ 1048576 * 1048576 := Nat.mul_le_mul (by rw [List.length_take]; omega) h3
            omega⟩
          obtain ⟨q0, q1, q2, q3, qz⟩ := cells4 LP.out.box2
          have qz3 := qz 3
          clear hn hD hm hat qz
          go_wp2_with (first
            | (at_lookup; refine wpList_lookup_own_int _ rfl _ _ 105 rfl 3 2 .i64 law3 Tryz.underlying105 Tryz.underlying2 (zeroI _) (w.heap.size + 1) n D rfl (by exact HD.out) _ _ rfl (by exact HKEY.out) ?_; intro cc hcc _; obtain rfl : cc = ((cntI (rd a i) b : Nat) : Int) := (by have h1 := HAT.out _ HW.out; have h2 := h1.symm.trans hcc; injection h2 with h2; injection h2 with _ h2; exact h2.symm); clear hcc)
            | (at_mapUpdate; refine wpList_mapUpdate_own _ rfl _ _ _ 106 rfl 3 4 law3 Tryz.underlying106 _ (w.heap.size + 1 + 1) (b ++ a.take i.toNat).length (KS (b ++ a.take i.toNat)) rfl (by exact HALL.out.kept (grown_set _ _ _ _) (by have := HAB.out; simp; omega)) (by have h2 := HLE.out; unfold maxLen; omega) _ _ _ rfl rfl (by exact HKEY.out) (.lit (.bool true)) [] (by exact plainElem_bool Tryz.underlying4 true) ?_; intro w2 hown2 hgrow2; have HO2 := Aside0.mk hown2; have HG2 := Aside0.mk hgrow2; clear hown2 hgrow2))
          go_roundg (a.length - i.toNat - 1)
          case measure => have := HK.out; have := HI.out; omega
          case rel =>
            have hw2 : (i + 1).toNat = i.toNat + 1 := by have := HI.out; omega
            refine ⟨i + 1, congrArg (Value.int .i64) (wrap64_id (by have := HI.out; omega) (by have := HI.out; have := LA.out; omega)), ⟨by have := HI.out; have := HK.out; omega⟩, ⟨?_⟩⟩
            rw [hw2, take_rd HI.out.1 HI.out.2, sum_snoc, ← List.append_assoc]
            refine L2.step LP.out HO2.out ?_
            have h := HG2.out
            rw [wrap64_id (by omega) (by have := HSUM.out; omega)] at h
            exact h
        · have cb : decide (i < (a.length : Int)) = false := decide_eq_false c
          have hi : i.toNat = a.length := by have := HK.out; omega
          have hlp := LP.out
          rw [hi, List.take_length] at hlp
          have L := Aside0.mk hlp
          obtain ⟨q0, q1, q2, q3, qz⟩ := cells4 hlp.box2
          have qz2 := qz 2
          obtain ⟨r0, r1, r2, r3, rz⟩ := cells4 hlp.l1.box
          have HALL := Aside0.mk hlp.l1.all
          have hgs : ¬ g = w.heap.size := by have := hlp.above; omega
          have hsg : ¬ w.heap.size = g := by have := hlp.above; omega
          have rz0 := rz 0
          have rz1 := rz 1
          have rz2 := rz 2
          have rz3 := rz 3
          clear hlp hi LP HK c qz
          go_wp2_with (at_len; refine wpList_len_own _ rfl _ 106 rfl 3 4 Tryz.underlying106 _ (w.heap.size + 1 + 1) _ (KS (b ++ a)) rfl (by exact HALL.out) ?_; rw [uniq_size])
          refine bodyPost_ret (results_cell_row rfl _ _ w.heap.size 78 #[.int .i64 (a.length : Int), .int .i64 (b.length : Int), .int .i64 (uniq (b ++ a) : Int), .int .i64 (sumR b a : Int)] (0, 0) _ rfl (blk_put (blk_put (blk_put (blk_put (blk_far L.out.l1.box (by exact hsg) _) 0 _ rfl) 1 _ rfl) 2 _ rfl) 3 _ rfl) Tryz.underlying78 rfl (by kernel_rfl)) rfl ?_
          have hz : w.heap.size ≤ wr.heap.size := by have := L.out.l1.size; omega
          refine ⟨rfl, ?_⟩
          have st : ∀ {W : World} (k i : Nat) (v : Value), Below w.heap.size w W → w.heap.size ≤ k → Below w.heap.size w (W.setCell ⟨k, i, none⟩ v) := fun k i v h hk => h.grown (grown_set _ k i v) h.size (fun j e => by cases e; exact hk)
          exact st _ _ _ (st _ _ _ (st _ _ _ (st _ _ _ (st _ _ _ L.out.l1.bel (by have := L.out.above; omega)) (Nat.le_refl _)) (Nat.le_refl _)) (Nat.le_refl _)) (Nat.le_refl _)
end Go.Proofs.YtgelkklendpeoaaGreat.CostX
