import Derived.Test.YtdmmcjefpbbceaaDoorAeB
import Derived.Test.YtdmmcjefpbbceaaDoorShelf
import Derived.Test.YtdmmcjefpbbceaaDoorRows
import Derived.LaidMore
import Derived.Lib.LaidTab
import Derived.Lib.Split
import Derived.Lib.Join
namespace Go.Proofs.YtdmmcjefpbbceaaDoor.LineX
open Go Go.RowKit Go.Sort Go.Lib Go.Proofs.YtdmmcjefpbbceaaDoor.AE
set_option linter.unusedVariables false
set_option linter.unusedSimpArgs false
set_option maxRecDepth 100000
/-! What lies in memory all the while: the table of the powers of ten; a number that tells how long a search goes. -/
def tabName : String := "internal/strconv.uint64pow10"
def XL : ExtRep := ⟨fun _ _ _ _ _ => False, fun w ok => (∃ g, Tryd.prog.globalNamed tabName = some g ∧ ok g ∧ Lib.TabIs Tryd.prog w tabName .u64 Lib.pow10Tab) ∧ ok 0 ∧ ∃ m, w.cell? ⟨0, 0, none⟩ = some (.int .i64 m)⟩
theorem tab_mono {w w' : World} {g : Nat} (hg : Tryd.prog.globalNamed tabName = some g) (hb : w'.heap[g]? = w.heap[g]?) (ht : Lib.TabIs Tryd.prog w tabName .u64 Lib.pow10Tab) : Lib.TabIs Tryd.prog w' tabName .u64 Lib.pow10Tab := by
  unfold TabIs World.var? at *
  simp only [hg, Option.bind_some] at ht ⊢
  rw [hb]
  exact ht
theorem cell_mono {w w' : World} {b o : Nat} {v : Value} (hb : w'.heap[b]? = w.heap[b]?) (h : w.cell? ⟨b, o, none⟩ = some v) : w'.cell? ⟨b, o, none⟩ = some v := by
  unfold World.cell? at *
  rw [hb]
  exact h
theorem XL_ok : XL.OK := ⟨fun _ h => h.elim, fun h => h.elim, fun h => h.elim, fun hb ⟨⟨g, hg, hk, ht⟩, h0, m, hm⟩ => ⟨⟨g, hg, (hb g hk).1, tab_mono hg (hb g hk).2 ht⟩, (hb 0 h0).1, m, cell_mono (hb 0 h0).2 hm⟩⟩
theorem repL_strs {w : World} {ok : Nat → Prop} : ∀ l : List ByteArray, RepL (Rep XL w ok .str) l (l.map Value.string)
  | [] => rfl
  | s :: l => ⟨[Value.string s], _, rfl, rfl, repL_strs l⟩
theorem strs_of_repL {w : World} {ok : Nat → Prop} : ∀ (l : List ByteArray) (cs : List Value), RepL (Rep XL w ok .str) l cs → cs = l.map Value.string
  | [], _, h => h
  | x :: l, _, ⟨v1, v2, e, h1, h2⟩ => by
    subst e
    rw [strs_of_repL l v2 h2, show v1 = [.string x] from h1]
    rfl
theorem below_grow {w : World} (os : Array Obj) : Below w.heap.size w (grow w os) :=
  ⟨rfl, rfl, rfl, by rw [size_grow]; omega, fun b hb => by
    show (w.heap ++ os)[b]? = w.heap[b]?
    rw [Array.getElem?_append_left hb]⟩
theorem heap_drewN (w : World) : ∀ k, (w.drewN k).heap.size = w.heap.size
  | 0 => rfl
  | k + 1 => heap_drewN w k
theorem below_drewN (B : Nat) (w : World) : ∀ k, Below B w (w.drewN k)
  | 0 => Below.refl ..
  | k + 1 => Below.drew (below_drewN B w k)
/-! strings.Split, by one blank -/
def spl : List UInt8 → List UInt8 → List (List UInt8)
  | [], cur => [cur]
  | c :: l, cur => if c == 32 then cur :: spl l [] else spl l (cur ++ [c])
def splitS (s : ByteArray) : List ByteArray := (spl s.data.toList []).map fun l => ⟨l.toArray⟩
theorem index_cons (c : UInt8) (l : List UInt8) : Lib.index (c :: l) [32] = if c == 32 then 0 else if Lib.index l [32] == -1 then -1 else Lib.index l [32] + 1 := by
  conv => lhs; unfold Lib.index
  have : ([32] : List UInt8).isPrefixOf (c :: l) = (c == 32) := by
    simp [List.isPrefixOf]
    exact Bool.eq_iff_iff.2 ⟨fun h => by simp at h ⊢; exact h.symm, fun h => by simp at h ⊢; exact h.symm⟩
  rw [this]
theorem spl_cur : ∀ (l cur : List UInt8), spl l cur = match Lib.index l [32] with
    | .ofNat i => (cur ++ l.take i) :: spl (l.drop (i + 1)) []
    | .negSucc _ => [cur ++ l]
  | [], cur => by show [cur] = [cur ++ []]; simp
  | c :: l, cur => by
    rw [show spl (c :: l) cur = if c == 32 then cur :: spl l [] else spl l (cur ++ [c]) from rfl, index_cons]
    by_cases h : (c == 32) = true
    · rw [if_pos h, if_pos h]
      show _ = (cur ++ (c :: l).take 0) :: spl l []
      simp
    · rw [if_neg h, if_neg h, spl_cur l (cur ++ [c])]
      have hge := Lib.index_ge l [32]
      cases hi : Lib.index l [32] with
      | ofNat i =>
        have : ¬ ((Int.ofNat i) == -1) = true := by simp
        rw [if_neg this]
        have e : Int.ofNat i + 1 = Int.ofNat (i + 1) := rfl
        rw [e]
        show (cur ++ [c] ++ l.take i) :: spl (l.drop (i + 1)) [] = (cur ++ c :: l.take i) :: spl (l.drop (i + 1)) []
        simp
      | negSucc i =>
        have : i = 0 := by rw [hi] at hge; omega
        subst this
        have : ((Int.negSucc 0) == -1) = true := rfl
        rw [if_pos this]
        show [cur ++ [c] ++ l] = [cur ++ c :: l]
        simp
theorem spl_split : ∀ (k : Nat) (l : List UInt8), Lib.count l [32] = k → Lib.splitK [32] 0 k l = spl l []
  | 0, l, h => by
    rw [spl_cur]
    cases hi : Lib.index l [32] with
    | ofNat i =>
      have := Lib.count_hit (s := l) (sub := [32]) (i := i) (by simp) hi
      omega
    | negSucc i => rfl
  | k + 1, l, h => by
    rw [spl_cur]
    have hge := Lib.index_ge l [32]
    cases hi : Lib.index l [32] with
    | ofNat i =>
      have hc := Lib.count_hit (s := l) (sub := [32]) (i := i) (by simp) hi
      unfold Lib.splitK
      rw [hi, if_neg (by simp), spl_split k _ (by simpa using (by omega : Lib.count (l.drop (i + [32].length)) [32] = k))]
      simp
    | negSucc i =>
      have : i = 0 := by rw [hi] at hge; omega
      subst this
      have := Lib.count_miss (s := l) (sub := [32]) hi
      omega
theorem split_is (s : ByteArray) : Lib.splitB ⟨#[32]⟩ 0 (Lib.countB s ⟨#[32]⟩) s = splitS s := by
  have h := Lib.splitB_data ⟨#[32]⟩ 0 (Lib.countB s ⟨#[32]⟩) s
  rw [show (⟨#[32]⟩ : ByteArray).data.toList = [32] from rfl, spl_split _ _ rfl] at h
  unfold splitS
  rw [← h, List.map_map]
  conv => lhs; rw [← List.map_id (Lib.splitB _ _ _ _)]
  congr 1
def splitW (x : ByteArray × ByteArray) : Option (List ByteArray) := if strEq x.2 ⟨#[32]⟩ && decide (x.1.size < 4294967281) then some (splitS x.1) else none
theorem strEq_eq {a b : ByteArray} (h : strEq a b = true) : a = b := by
  obtain ⟨a⟩ := a
  obtain ⟨b⟩ := b
  unfold strEq at h
  have h2 : a.toList = b.toList := by simpa using h
  rw [Array.toList_inj.1 h2]
theorem spl_len : ∀ (l cur : List UInt8), (spl l cur).length ≤ l.length + 1
  | [], cur => by simp [spl]
  | c :: l, cur => by
    unfold spl
    split
    · have := spl_len l []; simp; omega
    · have := spl_len l (cur ++ [c]); simp; omega
theorem Split_spec {x : ByteArray × ByteArray} {y : List ByteArray} (h : splitW x = some y) : AE.Spec Tryd.prog XL ⟨⟨[.dat .str, .dat .str], []⟩, ⟨[.dat (.slice .str)], []⟩⟩ 15 x y := by
  obtain ⟨s, sep⟩ := x
  simp only [splitW] at h
  split at h
  · rename_i hc
    cases h
    simp only [Bool.and_eq_true, decide_eq_true_eq] at hc
    obtain rfl := strEq_eq hc.1
    refine Spec_of_calls XL_ok Tryd.func15 (by decide) rfl fun S w vals hS hI hv => ?_
    obtain ⟨v1, v2, rfl, h1, h2⟩ := VRs.two (a := .str s) (b := .str ⟨#[32]⟩) hv
    obtain rfl : v1 = .string s := h1
    obtain rfl : v2 = .string ⟨#[32]⟩ := h2
    obtain ⟨_, _, m, hm⟩ := hI
    refine (Tryd.strings_Split s ⟨#[32]⟩ m w hc.2 hm (by decide)).mono ?_
    rintro e w' ⟨rfl, rfl⟩
    have hlen : Lib.countB s ⟨#[32]⟩ + 1 = (splitS s).length := by rw [← split_is, Lib.splitB_all _ (by decide) 0 _ s rfl]
    have hmax : (splitS s).length ≤ maxLen := by
      unfold splitS
      rw [List.length_map]
      have h1 := spl_len s.data.toList []
      have h2 : s.data.toList.length = s.size := by simp
      have h3 := hc.2
      unfold maxLen
      omega
    rw [split_is, hlen]
    refine ⟨[.slice (some ⟨w.heap.size, 0, none⟩) (splitS s).length (splitS s).length], rfl, Below.alloc (Below.refl ..) (Nat.le_refl _) _, .cons (show Rep XL _ _ (.slice .str) (splitS s) [_] from ⟨_, _, rfl, Nat.le_refl _, hmax, .inr ⟨w.heap.size, 0, (splitS s).map Value.string, rfl, ⟨hS _ (Nat.le_refl _), ?_, fun o h => by cases h⟩, ?_, repL_strs _⟩⟩) .nil⟩
    · show w.heap.size < (w.heap.push _).size
      rw [Array.size_push]; exact Nat.lt_succ_self _
    · intro j v hj
      show (World.alloc w _).cell? _ = _
      unfold World.cell? World.alloc
      simp [hj]
  · cases h
/-! strings.Join, by one blank -/
def joinL : List (List UInt8) → List UInt8
  | [] => []
  | [x] => x
  | x :: y :: r => x ++ 32 :: joinL (y :: r)
theorem joinL_eq : ∀ l : List (List UInt8), Lib.join l [32] = joinL l
  | [] => rfl
  | [x] => Lib.join_one x [32]
  | x :: y :: r => by
    have ih := joinL_eq (y :: r)
    unfold Lib.join at *
    rw [joinL, ← ih]
    simp [List.intercalate, List.intersperse]
def joinS (l : List ByteArray) : ByteArray := ⟨(joinL (l.map fun s => s.data.toList)).toArray⟩
def joinW (x : List ByteArray × ByteArray) : Option ByteArray := if strEq x.2 ⟨#[32]⟩ && (decide (x.1.length ≤ 1099511627776) && decide ((joinL (x.1.map fun s => s.data.toList)).length ≤ 1099511627776)) then some (joinS x.1) else none
theorem Join_spec {x : List ByteArray × ByteArray} {y : ByteArray} (h : joinW x = some y) : AE.Spec Tryd.prog XL ⟨⟨[.dat (.slice .str), .dat .str], []⟩, ⟨[.dat .str], []⟩⟩ 21 x y := by
  obtain ⟨l, sep⟩ := x
  simp only [joinW] at h
  split at h
  · rename_i hc
    cases h
    simp only [Bool.and_eq_true, decide_eq_true_eq] at hc
    obtain rfl := strEq_eq hc.1
    refine Spec_of_calls XL_ok Tryd.func21 (by decide) rfl fun S w vals hS hI hv => ?_
    obtain ⟨v1, v2, rfl, h1, h2⟩ := VRs.two (a := .sl .str l) (b := .str ⟨#[32]⟩) hv
    obtain rfl : v2 = .string ⟨#[32]⟩ := h2
    obtain ⟨A, c, e0, e1, e2, e3⟩ := (h1 : Rep XL w _ (.slice .str) l [v1])
    cases e0
    rcases e3 with rfl | ⟨b, off, cs, rfl, hb, hcs, hr⟩
    · refine (Tryd.strings_Join_none A c ⟨#[32]⟩ w).mono ?_
      rintro e w' ⟨rfl, rfl⟩
      exact ⟨[.string ⟨#[]⟩], rfl, Below.refl .., .cons rfl .nil⟩
    · have := strs_of_repL l cs hr
      subst this
      refine (Tryd.strings_Join b off c l ⟨#[32]⟩ w (fun j x hx => hcs j _ (by simp [hx])) hb.2.1 (by omega) e1 (by rw [show (⟨#[32]⟩ : ByteArray).data.toList = [32] from rfl, joinL_eq]; omega)).mono ?_
      rintro e w' ⟨rfl, hbel⟩
      rw [show (⟨#[32]⟩ : ByteArray).data.toList = [32] from rfl, joinL_eq]
      exact ⟨[.string (joinS l)], rfl, hbel, .cons rfl .nil⟩
  · cases h
/-! strings.IndexByte -/
def idxW (x : ByteArray × Int) : Option Int := some (Lib.indexByte x.1.data.toList x.2.toNat.toUInt8)
theorem IndexByte_spec {x : ByteArray × Int} {y : Int} (h : idxW x = some y) : AE.Spec Tryd.prog XL ⟨⟨[.dat .str, .dat (.int .u8)], []⟩, ⟨[.dat (.int .i64)], []⟩⟩ 53 x y := by
  obtain ⟨s, c⟩ := x
  cases h
  refine Spec_of_calls XL_ok Tryd.func53 (by decide) rfl fun S w vals hS _ hv => ?_
  obtain ⟨v1, v2, rfl, h1, h2⟩ := VRs.two (a := .str s) (b := .int .u8 c) hv
  obtain rfl : v1 = .string s := h1
  obtain rfl : v2 = .int .u8 c := h2
  refine (Tryd.strings_IndexByte s c w).mono ?_
  rintro e w' ⟨rfl, rfl⟩
  exact ⟨[.int .i64 _], rfl, Below.refl .., .cons rfl .nil⟩
/-! strconv.Itoa, FormatInt -/
def digU : Nat → Nat → List UInt8
  | 0, _ => []
  | f + 1, u => if u < 10 then [UInt8.ofNat (48 + u)] else digU f (u / 10) ++ [UInt8.ofNat (48 + u % 10)]
theorem digU_eq : ∀ (f u : Nat), u < 10 ^ (f + 1) → digU (f + 1) u = Lib.decDigits u := by
  intro f
  induction f with
  | zero =>
    intro u hu
    rw [Lib.decDigits]
    simp at hu
    simp [digU, hu]
  | succ f ih =>
    intro u hu
    rw [Lib.decDigits]
    by_cases h : u < 10
    · simp [digU, h]
    · have hd : u / 10 < 10 ^ (f + 1) := by
        rw [Nat.pow_succ] at hu
        exact Nat.div_lt_of_lt_mul (by omega)
      rw [digU, if_neg h, ih _ hd]
      simp [h]
def itoaL (n : Int) : List UInt8 := if n < 0 then 45 :: digU 20 n.natAbs else digU 20 n.toNat
theorem itoaL_eq {n : Int} (h0 : -9223372036854775808 ≤ n) (h1 : n ≤ 9223372036854775807) : Lib.itoa n = itoaL n := by
  unfold Lib.itoa itoaL
  split
  · rw [digU_eq 19 n.natAbs (by simp; omega)]
  · rw [digU_eq 19 n.toNat (by simp; omega)]
def itoaS (n : Int) : ByteArray := ⟨(itoaL n).toArray⟩
def itoaW (n : Int) : Option ByteArray := if decide (-9223372036854775808 ≤ n) && decide (n ≤ 9223372036854775807) then some (itoaS n) else none
theorem Itoa_spec {x : Int} {y : ByteArray} (h : itoaW x = some y) : AE.Spec Tryd.prog XL ⟨⟨[.dat (.int .i64)], []⟩, ⟨[.dat .str], []⟩⟩ 35 x y := by
  simp only [itoaW] at h
  split at h
  · rename_i hc
    cases h
    simp only [Bool.and_eq_true, decide_eq_true_eq] at hc
    refine Spec_of_calls XL_ok Tryd.func35 (by decide) rfl fun S w vals hS hI hv => ?_
    obtain ⟨v1, rfl, h1⟩ := VRs.one (a := .int .i64 x) hv
    obtain rfl : v1 = .int .i64 x := h1
    obtain ⟨⟨g, hg, hk, ht⟩, _⟩ := hI
    refine (Tryd.strconv_Itoa x hc.1 hc.2 w ht).mono ?_
    rintro e w' ⟨rfl, k, os, rfl⟩
    rw [itoaL_eq hc.1 hc.2]
    exact ⟨[.string (itoaS x)], rfl, (below_drewN _ w k).trans (by have := below_grow (w := w.drewN k) os; rw [heap_drewN] at this; exact this), .cons rfl .nil⟩
  · cases h
def fmtW (x : Int × Int) : Option ByteArray := if decide (-9223372036854775808 ≤ x.1) && (decide (x.1 ≤ 9223372036854775807) && decide (x.2 = 10)) then some (itoaS x.1) else none
theorem FormatInt_spec {x : Int × Int} {y : ByteArray} (h : fmtW x = some y) : AE.Spec Tryd.prog XL ⟨⟨[.dat (.int .i64), .dat (.int .i64)], []⟩, ⟨[.dat .str], []⟩⟩ 36 x y := by
  obtain ⟨n, b⟩ := x
  simp only [fmtW] at h
  split at h
  · rename_i hc
    cases h
    simp only [Bool.and_eq_true, decide_eq_true_eq] at hc
    obtain ⟨c0, c1, rfl⟩ := hc
    refine Spec_of_calls XL_ok Tryd.func36 (by decide) rfl fun S w vals hS hI hv => ?_
    obtain ⟨v1, v2, rfl, h1, h2⟩ := VRs.two (a := .int .i64 n) (b := .int .i64 10) hv
    obtain rfl : v1 = .int .i64 n := h1
    obtain rfl : v2 = .int .i64 10 := h2
    obtain ⟨⟨g, hg, hk, ht⟩, _⟩ := hI
    refine (Tryd.strconv_FormatInt_10 n c0 c1 w ht).mono ?_
    rintro e w' ⟨rfl, k, os, rfl⟩
    rw [itoaL_eq c0 c1]
    exact ⟨[.string (itoaS n)], rfl, (below_drewN _ w k).trans (by have := below_grow (w := w.drewN k) os; rw [heap_drewN] at this; exact this), .cons rfl .nil⟩
  · cases h
end Go.Proofs.YtdmmcjefpbbceaaDoor.LineX
