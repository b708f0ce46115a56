import Derived.Test.YtgelkklendpeoaaGreatResPortNear
import Derived.Test.YtgelkklendpeoaaGreatResKit
import Derived.Test.YtgelkklendpeoaaGreatNameP
namespace Go.Proofs.YtgelkklendpeoaaGreat.EPortNear
open Go Go.Proofs.YtgelkklendpeoaaGreat.AE Go.Proofs.YtgelkklendpeoaaGreat Go.Proofs.YtgelkklendpeoaaGreat.NameX
set_option linter.unusedVariables false
set_option linter.unusedSimpArgs false
/-! What the functions of chapter 2 come to. -/
abbrev Tok := List Int
theorem getD_n {α : Type} (l : List α) {i : Nat} (h : i < l.length) (d : α) : l.getD ((i : Nat) : Int).toNat d = l[i] := by
  simp [List.getD, List.getElem?_eq_getElem h]
theorem succ_n {n i : Nat} (h : i < n) (hn : n ≤ 1099511627776) : IntKind.wrap .i64 ((i : Int) + 1) = ((i + 1 : Nat) : Int) := by rw [w64 (by omega) (by omega)]; omega
def Byt (t : Tok) : Prop := ∀ y ∈ t, 0 ≤ y ∧ y < 256
def Byts (l : List Tok) : Prop := ∀ t ∈ l, Byt t
theorem byts_all {l : List Tok} (h : Byts l) : l.all isBs = true := List.all_eq_true.2 fun t ht => isBs_iff.2 (h t ht)
theorem byts_wf {l : List Tok} (w : WF (.slice (.slice (.int .u8))) l) : Byts l := fun t ht y hy => by
  have := wf_u8 ((w.2 t ht).2 y hy)
  omega
theorem byt_wf {t : Tok} (w : WF (.slice (.int .u8)) t) : Byt t := fun y hy => by
  have := wf_u8 (w.2 y hy)
  omega
theorem strEq_is {a b : Tok} (ha : Byt a) (hb : Byt b) : strEq (bytesStr a) (bytesStr b) = decide (a = b) := bytesOf_eq ha hb
/-! few -/
def fewL (b : Nat) (l : List Tok) : Bool := l.all fun t => decide (t.length ≤ b)
def bOut : (Tok × Tok × Int) ⊕ Bool → Bool
  | .inl y => decide (y.1.length < y.2.1.length)
  | .inr b => b
theorem below_loop (n : Nat) (a b : Tok) (hl : a.length ≤ 1099511627776) : ∀ (m i : Nat), a.length - i < m → i ≤ a.length → i ≤ b.length →
    ∃ r, J99_0 n m (a, b, (i : Int)) = some r ∧ bOut r = decide (cmpL (a.drop i) (b.drop i) < 0)
  | 0, i, h, _, _ => by omega
  | m + 1, i, hm, hi, hj => by
    rw [j99_0]
    unfold F99_0
    simp only
    by_cases h : i < a.length
    · have h2 : (0 ≤ (i : Int) ∧ (i : Int) < (a.length : Int)) := ⟨by omega, by omega⟩
      rw [decide_eq_true (show (i : Int) < (a.length : Int) by omega)]
      simp only [beq_self_eq_true, cond_true]
      by_cases k : i < b.length
      · have k2 : (0 ≤ (i : Int) ∧ (i : Int) < (b.length : Int)) := ⟨by omega, by omega⟩
        have hd : a.drop i = a[i] :: a.drop (i + 1) := List.drop_eq_getElem_cons h
        have kd : b.drop i = b[i] :: b.drop (i + 1) := List.drop_eq_getElem_cons k
        rw [decide_eq_true (show (i : Int) < (b.length : Int) by omega), cond_true]
        simp only [if_pos h2, if_pos k2, getD_n a h, getD_n b k, succ_n h hl]
        rw [hd, kd, cmpL]
        by_cases e : a[i] = b[i]
        · rw [decide_eq_true e, if_neg (by omega), if_neg (by omega)]
          exact below_loop n a b hl m (i + 1) (by omega) h k
        · rw [decide_eq_false e]
          refine ⟨_, rfl, ?_⟩
          simp only [bOut]
          by_cases e2 : a[i] < b[i]
          · rw [if_pos e2, decide_eq_true e2]; rfl
          · rw [if_neg e2, if_pos (by omega), decide_eq_false e2]; rfl
      · obtain rfl : i = b.length := by omega
        rw [decide_eq_false (show ¬ ((b.length : Nat) : Int) < (b.length : Int) by omega), cond_false]
        refine ⟨_, rfl, ?_⟩
        simp only [bOut]
        rw [List.drop_length, List.drop_eq_getElem_cons h, cmpL, decide_eq_false (by omega)]
        rfl
    · obtain rfl : i = a.length := by omega
      rw [decide_eq_false (show ¬ (a.length : Int) < (a.length : Int) by omega)]
      refine ⟨_, rfl, ?_⟩
      simp only [bOut]
      rw [List.drop_length]
      by_cases k : a.length < b.length
      · rw [List.drop_eq_getElem_cons k, cmpL, decide_eq_true k]; rfl
      · rw [List.drop_of_length_le (by omega), cmpL, decide_eq_false k]; rfl
theorem below_is (n : Nat) (a b : Tok) (hl : a.length ≤ 1099511627776) (hn : a.length < n) : R99 (n + 1) a b = some (decide (cmpL a b < 0)) := by
  rw [u99]
  unfold r99
  obtain ⟨r, e, h⟩ := below_loop n a b hl n 0 (by omega) (by omega) (by omega)
  rw [List.drop_zero, List.drop_zero] at h
  have e' : J99_0 n n (a, b, 0) = some r := e
  rw [e', Option.bind_some]
  cases r with
  | inl y =>
    simp only [bOut] at h
    simp only [onSum, ← h]
    congr 1
    rw [Bool.eq_iff_iff]
    simp only [decide_eq_true_eq]
    omega
  | inr b => exact congrArg some h
theorem same_is (n : Nat) (a b : Tok) (ha : Byt a) (hb : Byt b) : R100 (n + 1) a b = some (decide (a = b)) := by
  rw [u100]
  unfold r100
  simp only [strEq_is ha hb]
/-! Sort, the reference's -/
theorem rs_in (n : Nat) (l d : List Tok) (i : Nat) (hi : i < l.length) (hd : d.length ≤ 1099511627776) (hb : ∀ t ∈ d, t.length ≤ 40) (hn : 41 < n) : ∀ (m k : Nat), d.length - k < m → k ≤ d.length →
    J59_0 (n + 1) m (l, (i : Int), (k : Int), d) = some (.inl (l, (i : Int), ((k + blw l[i] (d.drop k) : Nat) : Int), d))
  | 0, k, h, _ => by omega
  | m + 1, k, hm, hk => by
    rw [j59_0]
    unfold F59_0
    simp only
    have i2 : (0 ≤ (i : Int) ∧ (i : Int) < (l.length : Int)) := ⟨by omega, by omega⟩
    by_cases h : k < d.length
    · have h2 : (0 ≤ (k : Int) ∧ (k : Int) < (d.length : Int)) := ⟨by omega, by omega⟩
      have hdr : d.drop k = d[k] :: d.drop (k + 1) := List.drop_eq_getElem_cons h
      rw [decide_eq_true (show (k : Int) < (d.length : Int) by omega)]
      simp only [beq_self_eq_true, cond_true, if_pos h2, if_pos i2, getD_n d h, getD_n l hi, succ_n h hd]
      have hb1 := hb d[k] (List.getElem_mem h)
      rw [below_is n _ _ (by omega) (by omega), Option.bind_some, hdr, blw]
      by_cases e : cmpL d[k] l[i] < 0
      · rw [decide_eq_true e, if_pos e, cond_true, rs_in n l d i hi hd hb hn m (k + 1) (by omega) h]
        rw [show k + 1 + blw l[i] (d.drop (k + 1)) = k + (blw l[i] (d.drop (k + 1)) + 1) by omega]
      · rw [decide_eq_false e, if_neg e]; rfl
    · obtain rfl : k = d.length := by omega
      rw [decide_eq_false (show ¬ (d.length : Int) < (d.length : Int) by omega), List.drop_length]
      rfl
theorem rs_loop (n : Nat) (l : List Tok) (hl : l.length ≤ 80) (hb : ∀ t ∈ l, t.length ≤ 40) (hy : Byts l) (hn : 100 < n) : ∀ (m i : Nat) (d : List Tok), l.length - i < m → i ≤ l.length → d.length ≤ i → (∀ t ∈ d, t ∈ l) →
    J59_1 (n + 1) m (l, (i : Int), d) = some (.inl (l, (l.length : Int), rsort (l.drop i) d))
  | 0, i, d, h, _, _, _ => by omega
  | m + 1, i, d, hm, hi, hdl, hdm => by
    rw [j59_1]
    unfold F59_1
    simp only
    by_cases h : i < l.length
    · have i2 : (0 ≤ (i : Int) ∧ (i : Int) < (l.length : Int)) := ⟨by omega, by omega⟩
      have hdr : l.drop i = l[i] :: l.drop (i + 1) := List.drop_eq_getElem_cons h
      have e := rs_in n l d i h (by omega) (fun t ht => hb t (hdm t ht)) (by omega) (n + 1) 0 (by omega) (by omega)
      rw [List.drop_zero, Nat.zero_add] at e
      have e' : J59_0 (n + 1) (n + 1) (l, (i : Int), 0, d) = _ := e
      rw [decide_eq_true (show (i : Int) < (l.length : Int) by omega), cond_true, e', Option.bind_some]
      have hk := blw_le l[i] d
      have hins := insS_eq l[i] d
      have hinl := insS_len l[i] d
      have ih := rs_loop n l hl hb hy hn m (i + 1) (insS l[i] d) (by omega) h (by omega) (fun t ht => by
        rcases (insS_mem l[i] t d).1 ht with rfl | ht
        · exact List.getElem_mem h
        · exact hdm t ht)
      have hg : rsort (l.drop i) d = rsort (l.drop (i + 1)) (insS l[i] d) := by rw [hdr]; rfl
      rw [hg, ← ih]
      generalize blw l[i] d = k at *
      have hsx : Byt l[i] := hy _ (List.getElem_mem h)
      simp only [onSum, if_pos i2, getD_n l h, succ_n h (show l.length ≤ 1099511627776 by omega)]
      have c0 : (0 ≤ (0 : Int) ∧ (0 : Int) ≤ (k : Int) ∧ (k : Int) ≤ (d.length : Int)) := ⟨by omega, by omega, by omega⟩
      have c1 : (0 ≤ (k : Int) ∧ (k : Int) ≤ (d.length : Int) ∧ (d.length : Int) ≤ (d.length : Int)) := ⟨by omega, by omega, by omega⟩
      have ec0 : cut d 0 (k : Int) = d.take k := rfl
      have ec1 : cut d (k : Int) (d.length : Int) = d.drop k := by
        show (d.take d.length).drop k = d.drop k
        rw [List.take_length]
      simp only [ec0, ec1, if_pos c0, if_pos c1]
      have s1 : (([] : List Tok).length + (d.take k).length) * 24 ≤ 140737488355328 ∧ ([] : List Tok).length + (d.take k).length ≤ 140737488355328 := by rw [List.length_nil, List.length_take]; omega
      have s2 : (([] ++ d.take k : List Tok).length + [l[i]].length) * 24 ≤ 140737488355328 ∧ ([] ++ d.take k : List Tok).length + [l[i]].length ≤ 140737488355328 := by rw [List.nil_append, List.length_take, List.length_singleton]; omega
      have s3 : (([] ++ d.take k ++ [l[i]] : List Tok).length + (d.drop k).length) * 24 ≤ 140737488355328 ∧ ([] ++ d.take k ++ [l[i]] : List Tok).length + (d.drop k).length ≤ 140737488355328 := by
        rw [List.nil_append, List.length_append, List.length_take, List.length_singleton, List.length_drop]; omega
      simp only [if_pos s1, if_pos s2, if_pos s3]
      by_cases hkd : k < d.length
      · have k2 : (0 ≤ (k : Int) ∧ (k : Int) < (d.length : Int)) := ⟨by omega, by omega⟩
        rw [decide_eq_true (show (k : Int) < (d.length : Int) by omega)]
        simp only [beq_self_eq_true, cond_true, if_pos k2, getD_n d hkd]
        rw [same_is n _ _ (hy _ (hdm _ (List.getElem_mem hkd))) hsx, Option.bind_some]
        rw [List.getElem?_eq_getElem hkd] at hins
        by_cases q : d[k] = l[i]
        · rw [decide_eq_true q, cond_true, hins, if_pos (by rw [q])]
        · rw [decide_eq_false q, cond_false, hins, if_neg (by simp only [Option.some.injEq]; exact q), List.nil_append]
      · obtain rfl : k = d.length := by omega
        rw [decide_eq_false (show ¬ ((d.length : Nat) : Int) < (d.length : Int) by omega)]
        rw [List.getElem?_eq_none (by omega), if_neg (by simp)] at hins
        rw [hins, List.nil_append]
        rfl
    · obtain rfl : i = l.length := by omega
      rw [decide_eq_false (show ¬ (l.length : Int) < (l.length : Int) by omega), List.drop_length]
      rfl
theorem refSort_is (n : Nat) (l : List Tok) (hl : l.length ≤ 80) (hb : ∀ t ∈ l, t.length ≤ 40) (hy : Byts l) (hn : 100 < n) : R59 (n + 2) l = some (dsort l) := by
  rw [u59]
  unfold r59
  have e : J59_1 (n + 1) (n + 1) (l, 0, []) = _ := rs_loop n l hl hb hy hn (n + 1) 0 [] (by omega) (by omega) (Nat.le_refl _) (fun t ht => by cases ht)
  rw [e, Option.bind_some, List.drop_zero, rsort_eq]
  rfl
/-! names.Sort -/
theorem so_loop (n : Nat) (s : List Tok) (hs : s.length ≤ 1000000) (hb : ∀ t ∈ s, t.length ≤ 1000000) : ∀ (m i : Nat) (d : List Tok), s.length - i < m → i ≤ s.length → d.length = s.length → d.take i = s.take i →
    J53_0 (n + 1) m ((s.length : Int), (i : Int), d, s) = some (.inl ((s.length : Int), (s.length : Int), s, s))
  | 0, i, d, h, _, _, _ => by omega
  | m + 1, i, d, hm, hi, hd, ht => by
    rw [j53_0]
    unfold F53_0
    simp only
    by_cases h : i < s.length
    · have i2 : (0 ≤ (i : Int) ∧ (i : Int) < (s.length : Int)) := ⟨by omega, by omega⟩
      have i3 : (0 ≤ (i : Int) ∧ (i : Int) < (d.length : Int)) := ⟨by omega, by omega⟩
      have e : R52 (n + 1) s[i] = some s[i] := by
        show cloneB s[i] = _
        rw [cloneB, if_pos (by have := hb s[i] (List.getElem_mem h); omega)]
      rw [decide_eq_true (show (i : Int) < (s.length : Int) by omega), cond_true, if_pos i2, getD_n s h]
      simp only [e, Option.bind_some, if_pos i3, succ_n h (show s.length ≤ 1099511627776 by omega)]
      refine so_loop n s hs hb m (i + 1) _ (by omega) h (by rw [List.length_set]; exact hd) ?_
      rw [Int.toNat_natCast]
      apply List.ext_getElem?
      intro j
      have hj : (d.take i)[j]? = (s.take i)[j]? := by rw [ht]
      rw [List.getElem?_take, List.getElem?_take]
      by_cases hji : j < i + 1
      · rw [if_pos hji, if_pos hji]
        by_cases e2 : j = i
        · subst e2
          rw [List.getElem?_set_self (by omega), List.getElem?_eq_getElem h]
        · rw [List.getElem?_set_ne (by omega)]
          rw [List.getElem?_take, List.getElem?_take, if_pos (by omega), if_pos (by omega)] at hj
          exact hj
      · rw [if_neg hji, if_neg hji]
    · obtain rfl : i = s.length := by omega
      rw [decide_eq_false (show ¬ (s.length : Int) < (s.length : Int) by omega)]
      rw [List.take_of_length_le (by omega), List.take_of_length_le (by omega)] at ht
      rw [ht]
      rfl
theorem sort_is (n : Nat) (l : List Tok) (hl : l.length ≤ 100) (hb : ∀ t ∈ l, t.length ≤ 40) (hy : Byts l) (hn : 110 < n) : R53 (n + 2) l = some (dsort l) := by
  rw [u53]
  unfold r53
  have hp := isort_perm l
  have e1 : R92 (n + 1) l = some l := by
    show cloneR l = _
    rw [cloneR, fewT, if_pos (decide_eq_true (by omega))]
  have e2 : R93 (n + 1) l = some (isort l) := by
    show sortR l = _
    rw [sortR, fewT, byts_all hy, decide_eq_true (by omega)]
    rfl
  have e3 : R95 (n + 1) (isort l) = some (dsort l) := by
    show compactR (isort l) = _
    rw [compactR, fewT, byts_all (fun t ht => hy t (hp.mem_iff.1 ht)), hp.length_eq, decide_eq_true (by omega)]
    rfl
  have hdl := dsort_len l
  have e4 := so_loop n (dsort l) (by omega) (fun t ht => by have := hb t ((dsort_mem l t).1 ht); omega) (n + 1) 0 (List.replicate (dsort l).length []) (by omega) (by omega) (by simp) (by simp)
  rw [e1, Option.bind_some, e2, Option.bind_some, e3, Option.bind_some]
  dsimp only
  rw [if_pos ⟨by omega, by omega, by omega, by omega⟩, Int.toNat_natCast]
  have e4' : J53_0 (n + 1) (n + 1) (((dsort l).length : Int), 0, List.replicate (dsort l).length [], dsort l) = _ := e4
  rw [e4']
  rfl
/-! names.Find -/
theorem bcmp_is (n : Nat) (a b : Tok) (ha : Byt a) (hb : Byt b) : R94 (n + 2) a b = some (cmpL a b) := by
  rw [u94]
  unfold r94
  have e : R130 (n + 1) a b = some (cmpL a b) := by
    show cmpB (a, b) = _
    rw [cmpB, isBs_iff.2 ha, isBs_iff.2 hb]
    rfl
  rw [e]
  rfl
theorem bs_loop (n : Nat) (d : List Tok) (t : Tok) (hs : SS d) (hd : d.length ≤ 1000000) (hy : Byts d) (ht : Byt t) : ∀ (m i j : Nat), j - i < m → i ≤ j → j ≤ d.length → (∀ q x, d[q]? = some x → q < i → cmpL x t < 0) → (∀ q x, d[q]? = some x → j ≤ q → 0 ≤ cmpL x t) →
    ∃ r : Nat, r ≤ d.length ∧ (∀ q x, d[q]? = some x → q < r → cmpL x t < 0) ∧ (∀ q x, d[q]? = some x → r ≤ q → 0 ≤ cmpL x t) ∧
      J131_0 (n + 2) m (d, t, (d.length : Int), (i : Int), (j : Int)) = some (.inl (d, t, (d.length : Int), (r : Int), (r : Int)))
  | 0, i, j, h, _, _, _, _ => by omega
  | m + 1, i, j, hm, hij, hj, h1, h2 => by
    rw [j131_0]
    unfold F131_0
    simp only
    by_cases h : i < j
    · obtain ⟨c, hc⟩ : ∃ c, c = (i + j) / 2 := ⟨_, rfl⟩
      have hci : i ≤ c ∧ c < j := by omega
      have w1 : IntKind.wrap .i64 ((i : Int) + (j : Int)) = ((i + j : Nat) : Int) := by rw [w64 (by omega) (by omega)]; omega
      have w2 : IntKind.wrap .u64 (((i + j : Nat) : Int)) = ((i + j : Nat) : Int) := wu64 (by omega) (by omega)
      have w3 : Int.fdiv (((i + j : Nat) : Int)) (2 ^ (min (1 : Int).toNat (IntKind.bits .u64))) = (c : Int) := by
        rw [show (2 : Int) ^ (min (1 : Int).toNat (IntKind.bits .u64)) = 2 from rfl, Int.fdiv_eq_ediv_of_nonneg _ (by omega)]
        omega
      have w4 : IntKind.wrap .i64 (c : Int) = (c : Int) := w64 (by omega) (by omega)
      have c2 : (0 ≤ (c : Int) ∧ (c : Int) < (d.length : Int)) := ⟨by omega, by omega⟩
      have hcd : c < d.length := by omega
      have hg : d[c]? = some d[c] := List.getElem?_eq_getElem hcd
      rw [decide_eq_true (show (i : Int) < (j : Int) by omega), cond_true]
      simp only [w1, w2, w3, w4, if_neg (show ¬ (1 : Int) < 0 by omega), if_pos c2, getD_n d hcd, succ_n hcd (show d.length ≤ 1099511627776 by omega)]
      rw [bcmp_is n _ _ (hy _ (List.getElem_mem hcd)) ht, Option.bind_some]
      by_cases e : cmpL d[c] t < 0
      · rw [decide_eq_true e, cond_true]
        refine bs_loop n d t hs hd hy ht m (c + 1) j (by omega) (by omega) hj (fun q x hq hqc => ?_) h2
        by_cases k : q = c
        · subst k; rw [hg] at hq; cases hq; exact e
        · exact cmpL_trans (ss_lt hs hq hg (by omega)) e
      · rw [decide_eq_false e, cond_false]
        refine bs_loop n d t hs hd hy ht m i c (by omega) (by omega) (by omega) h1 (fun q x hq hqc => ?_)
        by_cases k : q = c
        · subst k; rw [hg] at hq; cases hq; omega
        · have k1 := ss_lt hs hg hq (by omega)
          by_cases k2 : 0 ≤ cmpL x t
          · exact k2
          · exact absurd (cmpL_trans k1 (by omega)) e
    · obtain rfl : i = j := by omega
      rw [decide_eq_false (show ¬ (i : Int) < (i : Int) by omega)]
      exact ⟨i, hj, h1, h2, rfl⟩
def posR (d : List Tok) (t : Tok) : Int × Bool := match pos t d with | some k => ((k : Int), true) | none => (0, false)
theorem find_is (n : Nat) (d : List Tok) (t : Tok) (hs : SS d) (hd : d.length ≤ 1000) (hn : 1000 < n) (hy : Byts d) (ht : Byt t) : R98 (n + 4) d t = some (posR d t) := by
  rw [u98]
  unfold r98
  rw [u131]
  unfold r131
  obtain ⟨r, hr, h1, h2, e⟩ := bs_loop n d t hs (by omega) hy ht (n + 2) 0 d.length (by omega) (by omega) (Nat.le_refl _) (fun q x _ h => by omega) (fun q x hq h => by have := (List.getElem?_eq_some_iff.1 hq).1; omega)
  have e' : J131_0 (n + 2) (n + 2) (d, t, (d.length : Int), 0, (d.length : Int)) = _ := e
  dsimp only
  rw [e', Option.bind_some]
  simp only [onSum]
  by_cases h : r < d.length
  · have hg : d[r]? = some d[r] := List.getElem?_eq_getElem h
    have c2 : (0 ≤ (r : Int) ∧ (r : Int) < (d.length : Int)) := ⟨by omega, by omega⟩
    rw [decide_eq_true (show (r : Int) < (d.length : Int) by omega)]
    simp only [beq_self_eq_true, cond_true, if_pos c2, getD_n d h]
    rw [bcmp_is n _ _ (hy _ (List.getElem_mem h)) ht, Option.bind_some, Option.bind_some]
    by_cases k : cmpL d[r] t = 0
    · have e2 : d[r] = t := cmpL_zero k
      rw [e2] at hg
      rw [posR, pos_of hs hg, decide_eq_true k]
      rfl
    · rw [decide_eq_false k, posR]
      cases hp : pos t d with
      | none => rfl
      | some q =>
        exfalso
        have hq := pos_get hp
        rcases Nat.lt_trichotomy q r with z | z | z
        · have := h1 q t hq z; rw [cmpL_refl] at this; omega
        · subst z; rw [hg] at hq; cases hq; exact k (cmpL_refl _)
        · have z1 := ss_lt hs hg hq z
          have z2 := h2 r _ hg (Nat.le_refl _)
          omega
  · rw [decide_eq_false (show ¬ (r : Int) < (d.length : Int) by omega), posR]
    cases hp : pos t d with
    | none => rfl
    | some q =>
      exfalso
      have hq := pos_get hp
      have := (List.getElem?_eq_some_iff.1 hq).1
      have := h1 q t hq (by omega)
      rw [cmpL_refl] at this
      omega
theorem rfind_loop (n : Nat) (d : List Tok) (t : Tok) (hd : d.length ≤ 1000000) (hy : Byts d) (ht : Byt t) : ∀ (m i : Nat), d.length - i < m → i ≤ d.length →
    J101_0 (n + 1) m (d, t, (i : Int)) = some (match pos t (d.drop i) with | some k => .inr (((i + k : Nat) : Int), true) | none => .inl (d, t, (d.length : Int)))
  | 0, i, h, _ => by omega
  | m + 1, i, hm, hi => by
    rw [j101_0]
    unfold F101_0
    simp only
    by_cases h : i < d.length
    · have i2 : (0 ≤ (i : Int) ∧ (i : Int) < (d.length : Int)) := ⟨by omega, by omega⟩
      have hdr : d.drop i = d[i] :: d.drop (i + 1) := List.drop_eq_getElem_cons h
      rw [decide_eq_true (show (i : Int) < (d.length : Int) by omega), cond_true, if_pos i2, getD_n d h]
      rw [same_is n _ _ (hy _ (List.getElem_mem h)) ht, Option.bind_some, hdr, pos]
      by_cases e : d[i] = t
      · rw [decide_eq_true e, if_pos e]; rfl
      · rw [decide_eq_false e, if_neg e, cond_false, succ_n h (show d.length ≤ 1099511627776 by omega), rfind_loop n d t hd hy ht m (i + 1) (by omega) h]
        cases pos t (d.drop (i + 1)) with
        | none => rfl
        | some k => simp only [show i + 1 + k = i + (k + 1) by omega]
    · obtain rfl : i = d.length := by omega
      rw [decide_eq_false (show ¬ (d.length : Int) < (d.length : Int) by omega), List.drop_length]
      rfl
theorem rfind_is (n : Nat) (d : List Tok) (t : Tok) (hd : d.length ≤ 1000) (hn : 1000 < n) (hy : Byts d) (ht : Byt t) : R101 (n + 2) d t = some (posR d t) := by
  rw [u101]
  unfold r101
  have e : J101_0 (n + 1) (n + 1) (d, t, 0) = _ := rfind_loop n d t (by omega) hy ht (n + 1) 0 (by omega) (by omega)
  rw [e, Option.bind_some, List.drop_zero, posR]
  cases pos t d with
  | none => rfl
  | some k => simp only [Nat.zero_add]; rfl
/-! Ids -/
def idsR (d l : List Tok) : List Int × Bool := match idsF d l with | some r => (r, true) | none => ([], false)
theorem ids_loop (n : Nat) (d l : List Tok) (hs : SS d) (hd : d.length ≤ 1000) (hn : 1000 < n) (hyd : Byts d) (hyl : Byts l) (hl : l.length ≤ 1000) : ∀ (m i : Nat) (a : List Int), l.length - i < m → i ≤ l.length → a.length = l.length →
    J55_0 (n + 4) m (d, l, (l.length : Int), (i : Int), a) = some (match idsF d (l.drop i) with | some r => .inl (d, l, (l.length : Int), (l.length : Int), a.take i ++ r) | none => .inr ([], false))
  | 0, i, a, h, _, _ => by omega
  | m + 1, i, a, hm, hi, ha => by
    rw [j55_0]
    unfold F55_0
    simp only
    by_cases h : i < l.length
    · have i2 : (0 ≤ (i : Int) ∧ (i : Int) < (l.length : Int)) := ⟨by omega, by omega⟩
      have i3 : (0 ≤ (i : Int) ∧ (i : Int) < (a.length : Int)) := ⟨by omega, by omega⟩
      have hdr : l.drop i = l[i] :: l.drop (i + 1) := List.drop_eq_getElem_cons h
      rw [decide_eq_true (show (i : Int) < (l.length : Int) by omega), cond_true, if_pos i2, getD_n l h]
      rw [find_is n d l[i] hs hd hn hyd (hyl _ (List.getElem_mem h)), Option.bind_some, hdr, idsF, posR]
      cases hp : pos l[i] d with
      | none => rfl
      | some k =>
        simp only [Bool.not_true, cond_false, if_pos i3, succ_n h (show l.length ≤ 1099511627776 by omega)]
        rw [ids_loop n d l hs hd hn hyd hyl hl m (i + 1) _ (by omega) h (by rw [List.length_set]; exact ha), Int.toNat_natCast]
        cases hf : idsF d (l.drop (i + 1)) with
        | none => rfl
        | some r =>
          simp only
          congr 5
          rw [show a.take i ++ ((k : Int) :: r) = (a.take i ++ [(k : Int)]) ++ r by simp]
          congr 1
          rw [List.take_add_one, List.getElem?_set_self (by omega), List.take_set_of_le (Nat.le_refl _)]
          rfl
    · obtain rfl : i = l.length := by omega
      rw [decide_eq_false (show ¬ (l.length : Int) < (l.length : Int) by omega), List.drop_length, idsF]
      simp only [List.append_nil]
      rw [List.take_of_length_le (by omega)]
      rfl
theorem ids_is (n : Nat) (d l : List Tok) (hs : SS d) (hd : d.length ≤ 1000) (hn : 1000 < n) (hyd : Byts d) (hyl : Byts l) (hl : l.length ≤ 1000) : R55 (n + 5) d l = some (idsR d l) := by
  rw [u55]
  unfold r55
  dsimp only
  rw [if_pos ⟨by omega, by omega, by omega, by omega⟩, Int.toNat_natCast]
  have e : J55_0 (n + 4) (n + 4) (d, l, (l.length : Int), 0, List.replicate l.length 0) = _ := ids_loop n d l hs hd hn hyd hyl hl (n + 4) 0 _ (by omega) (by omega) (by simp)
  rw [e, Option.bind_some, List.drop_zero, idsR]
  cases idsF d l with
  | none => rfl
  | some r => rfl
theorem rids_loop (n : Nat) (d l : List Tok) (hd : d.length ≤ 1000) (hn : 1000 < n) (hyd : Byts d) (hyl : Byts l) (hl : l.length ≤ 1000) : ∀ (m i : Nat) (a : List Int), l.length - i < m → i ≤ l.length → a.length ≤ i →
    J60_0 (n + 2) m (d, l, (i : Int), a) = some (match idsF d (l.drop i) with | some r => .inl (d, l, (l.length : Int), a ++ r) | none => .inr ([], false))
  | 0, i, a, h, _, _ => by omega
  | m + 1, i, a, hm, hi, ha => by
    rw [j60_0]
    unfold F60_0
    simp only
    by_cases h : i < l.length
    · have i2 : (0 ≤ (i : Int) ∧ (i : Int) < (l.length : Int)) := ⟨by omega, by omega⟩
      have hdr : l.drop i = l[i] :: l.drop (i + 1) := List.drop_eq_getElem_cons h
      rw [decide_eq_true (show (i : Int) < (l.length : Int) by omega), cond_true, if_pos i2, getD_n l h]
      rw [rfind_is n d l[i] hd hn hyd (hyl _ (List.getElem_mem h)), Option.bind_some, hdr, idsF, posR]
      cases hp : pos l[i] d with
      | none => rfl
      | some k =>
        simp only [Bool.not_true, cond_false, succ_n h (show l.length ≤ 1099511627776 by omega), List.length_singleton]
        rw [if_pos ⟨by omega, by omega⟩]
        rw [rids_loop n d l hd hn hyd hyl hl m (i + 1) _ (by omega) h (by rw [List.length_append, List.length_singleton]; omega)]
        cases hf : idsF d (l.drop (i + 1)) with
        | none => rfl
        | some r =>
          simp only [List.append_assoc]
          rfl
    · obtain rfl : i = l.length := by omega
      rw [decide_eq_false (show ¬ (l.length : Int) < (l.length : Int) by omega), List.drop_length, idsF]
      simp only [List.append_nil]
      rfl
theorem rids_is (n : Nat) (d l : List Tok) (hd : d.length ≤ 1000) (hn : 1000 < n) (hyd : Byts d) (hyl : Byts l) (hl : l.length ≤ 1000) : R60 (n + 3) d l = some (idsR d l) := by
  rw [u60]
  unfold r60
  have e : J60_0 (n + 2) (n + 2) (d, l, 0, []) = _ := rids_loop n d l hd hn hyd hyl hl (n + 2) 0 _ (by omega) (by omega) (by simp)
  rw [e, Option.bind_some, List.drop_zero, idsR]
  cases idsF d l with
  | none => rfl
  | some r => rfl
/-! Two -/
theorem cat_is (n : Nat) (a b : List Tok) (ha : a.length ≤ 1000) (hb : b.length ≤ 1000) : R54 (n + 4) [a, b] = some (a ++ b) := by
  rw [u54]
  unfold r54
  have e0 : J54_0 (n + 3) (n + 3) ([a, b], 0, [a, b], 2, 0) = some (.inl ([a, b], ((a.length + b.length : Nat) : Int), [a, b], 2, 2)) := by
    have w1 : IntKind.wrap .i64 ((0 : Int) + (a.length : Int)) = (a.length : Int) := by rw [w64 (by omega) (by omega)]; omega
    have w2 : IntKind.wrap .i64 ((a.length : Int) + (b.length : Int)) = ((a.length + b.length : Nat) : Int) := by rw [w64 (by omega) (by omega)]; omega
    have w3 : IntKind.wrap .i64 ((0 : Int) + 1) = 1 := by rfl
    have w4 : IntKind.wrap .i64 ((1 : Int) + 1) = 2 := by rfl
    have g0 : [a, b].getD (0 : Int).toNat [] = a := rfl
    have g1 : [a, b].getD (1 : Int).toNat [] = b := rfl
    have f1 : (0 : Int) ≤ 0 ∧ (0 : Int) < (([a, b].length : Nat) : Int) := ⟨by omega, by simp⟩
    have f2 : (0 : Int) ≤ 1 ∧ (1 : Int) < (([a, b].length : Nat) : Int) := ⟨by omega, by simp⟩
    rw [j54_0]
    unfold F54_0
    simp only [decide_eq_true (show (0 : Int) < 2 by omega), cond_true, if_pos f1, g0, w1, w3, decide_eq_false (show ¬ (a.length : Int) < 0 by omega), cond_false]
    rw [j54_0]
    unfold F54_0
    simp only [decide_eq_true (show (1 : Int) < 2 by omega), cond_true, if_pos f2, g1, w2, w4, decide_eq_false (show ¬ ((a.length + b.length : Nat) : Int) < 0 by omega), cond_false]
    rw [j54_0]
    unfold F54_0
    simp only [decide_eq_false (show ¬ (2 : Int) < 2 by omega), cond_false]
  have e1 : R97 (n + 3) ((a.length + b.length : Nat) : Int) [] = some [] := by
    show growR (((a.length + b.length : Nat) : Int), []) = _
    simp only [growR]
    rw [if_pos (decide_eq_true ⟨by omega, by omega⟩)]
  have e2 : J54_1 (n + 3) (n + 3) ([a, b], 2, 0, []) = some (.inl ([a, b], 2, 2, a ++ b)) := by
    have w3 : IntKind.wrap .i64 ((0 : Int) + 1) = 1 := by rfl
    have w4 : IntKind.wrap .i64 ((1 : Int) + 1) = 2 := by rfl
    have g0 : [a, b].getD (0 : Int).toNat [] = a := rfl
    have g1 : [a, b].getD (1 : Int).toNat [] = b := rfl
    have f1 : (0 : Int) ≤ 0 ∧ (0 : Int) < (([a, b].length : Nat) : Int) := ⟨by omega, by simp⟩
    have f2 : (0 : Int) ≤ 1 ∧ (1 : Int) < (([a, b].length : Nat) : Int) := ⟨by omega, by simp⟩
    rw [j54_1]
    unfold F54_1
    simp only [decide_eq_true (show (0 : Int) < 2 by omega), cond_true, if_pos f1, g0, w3, List.nil_append, List.length_nil, if_pos (show (0 + a.length) * 24 ≤ 140737488355328 ∧ 0 + a.length ≤ 140737488355328 by omega)]
    rw [j54_1]
    unfold F54_1
    simp only [decide_eq_true (show (1 : Int) < 2 by omega), cond_true, if_pos f2, g1, w4, if_pos (show (a.length + b.length) * 24 ≤ 140737488355328 ∧ a.length + b.length ≤ 140737488355328 by omega)]
    rw [j54_1]
    unfold F54_1
    simp only [decide_eq_false (show ¬ (2 : Int) < 2 by omega), cond_false]
  have e0' : J54_0 (n + 3) (n + 3) ([a, b], 0, [a, b], (([a, b].length : Nat) : Int), 0) = _ := e0
  dsimp only
  rw [e0', Option.bind_some]
  simp only [onSum]
  rw [e1, Option.bind_some]
  have e2' : J54_1 (n + 3) (n + 3) ([a, b], (([a, b].length : Nat) : Int), 0, []) = _ := e2
  rw [e2']
  rfl
/-- What both say of two lists. -/
def twoS (a b : List Tok) : List Int × List Int × Int := ((idsR (dsort (a ++ b)) a).1, (idsR (dsort (a ++ b)) b).1, ((dsort (a ++ b)).length : Int))
structure Few (l : List Tok) : Prop where
  n : l.length ≤ 40
  t : ∀ t ∈ l, t.length ≤ 40
  b : Byts l
theorem few_of {l : List Tok} (h : (decide (l.length ≤ 40) && fewL 40 l) = true) (hb : Byts l) : Few l := by
  simp only [Bool.and_eq_true, decide_eq_true_eq, fewL, List.all_eq_true] at h
  exact ⟨h.1, h.2, hb⟩
theorem byts_sort {l : List Tok} (h : Byts l) : Byts (dsort l) := fun t ht => h t ((dsort_mem l t).1 ht)
theorem byts_app {a b : List Tok} (ha : Byts a) (hb : Byts b) : Byts (a ++ b) := fun t ht => (List.mem_append.1 ht).elim (ha t) (hb t)
theorem two_is (n : Nat) (hn : 1100 < n) (a b : List Tok) (ha : Few a) (hb : Few b) : R21 (n + 10) a b = some (twoS a b) := by
  rw [u21]
  unfold r21
  have hl : (a ++ b).length ≤ 80 := by rw [List.length_append]; have := ha.n; have := hb.n; omega
  have hd := dsort_len (a ++ b)
  have hyab := byts_app ha.b hb.b
  dsimp only
  rw [cat_is (n + 5) a b (by have := ha.n; omega) (by have := hb.n; omega), Option.bind_some,
    sort_is (n + 7) (a ++ b) (by omega) (fun t ht => (List.mem_append.1 ht).elim (ha.t t) (hb.t t)) hyab (by omega), Option.bind_some,
    ids_is (n + 4) _ a (dsort_ss _) (by omega) (by omega) (byts_sort hyab) ha.b (by have := ha.n; omega), Option.bind_some,
    ids_is (n + 4) _ b (dsort_ss _) (by omega) (by omega) (byts_sort hyab) hb.b (by have := hb.n; omega), Option.bind_some]
  rfl
theorem rtwo_is (n : Nat) (hn : 1100 < n) (a b : List Tok) (ha : Few a) (hb : Few b) : R29 (n + 10) a b = some (twoS a b) := by
  rw [u29]
  unfold r29
  have hl : (a ++ b).length ≤ 80 := by rw [List.length_append]; have := ha.n; have := hb.n; omega
  have hd := dsort_len (a ++ b)
  have hyab := byts_app ha.b hb.b
  have l1 := ha.n
  have l2 := hb.n
  simp only [List.nil_append, List.length_nil]
  rw [if_pos ⟨by omega, by omega⟩, if_pos ⟨by omega, by omega⟩]
  rw [refSort_is (n + 7) (a ++ b) (by omega) (fun t ht => (List.mem_append.1 ht).elim (ha.t t) (hb.t t)) hyab (by omega), Option.bind_some,
    rids_is (n + 6) _ a (by omega) (by omega) (byts_sort hyab) ha.b (by omega), Option.bind_some,
    rids_is (n + 6) _ b (by omega) (by omega) (byts_sort hyab) hb.b (by omega), Option.bind_some]
  rfl
/-! The same ones -/
end Go.Proofs.YtgelkklendpeoaaGreat.EPortNear
