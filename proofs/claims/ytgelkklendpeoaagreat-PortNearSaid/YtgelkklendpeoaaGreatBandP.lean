/- The band's next row, as it is printed. -/
import Derived.Test.YtgelkklendpeoaaGreatWP
import Derived.Test.YtgelkklendpeoaaGreatBandN
namespace Go.Proofs.YtgelkklendpeoaaGreat.BandN
open Go Go.RowKit Go.Proofs.YtgelkklendpeoaaGreatW.PrintWords Go.Proofs.YtgelkklendpeoaaGreatW.PrintMore Go.Proofs.YtgelkklendpeoaaGreat.Lcs
set_option linter.unusedVariables false
set_option linter.unusedSimpArgs false
theorem w64_ {n : Int} (h1 : -9223372036854775808 ≤ n) (h2 : n < 9223372036854775808) : wrap64 n = n := by
  unfold wrap64
  omega
theorem at_is (f : Int) (d : List Int) (j : Int) (h1 : -1099511627776 ≤ f) (h2 : f ≤ 1099511627776) (h3 : -1099511627776 ≤ j) (h4 : j ≤ 1099511627776) (h5 : d.length ≤ 1099511627776) : PV.band_line_at.f f d j = some (atL f d j) := by
  unfold PV.band_line_at.f atL
  rw [w64_ (by omega) (by omega), w64_ (by omega) (by omega)]
  by_cases c : j < f
  · rw [if_pos c, if_pos c]
  · rw [if_neg c, if_neg c]
    by_cases c2 : j ≥ f + (d.length : Int)
    · rw [if_pos c2, if_pos c2]
    · rw [if_neg c2, if_neg c2, if_pos (by omega), if_pos (by omega)]
      rfl
theorem mn_min (x y : Int) : mn x y = min x y := by
  unfold mn
  split <;> omega
theorem rd_get (l : List Int) (i : Nat) : rd l (i : Int) = l.getD i 0 := rfl
theorem row_more {a b : List Int} {B : Band} {i j : Nat} {f : Int} {d : List Int} (h : Row a b B i (j : Int) f d) (hf : f ≤ (j : Int)) {v : Int} (hv : Cell a b B i j v) : Row a b B i ((j + 1 : Nat) : Int) f (d ++ [v]) := by
  have hl := h.len
  refine ⟨h.first, by rw [List.length_append, List.length_singleton]; omega, fun q h1 h2 => ?_⟩
  by_cases c : q = j
  · subst c
    have e : ((q : Int) - f).toNat = d.length := by omega
    rw [e, List.getD_eq_getElem?_getD, List.getElem?_append_right (Nat.le_refl _)]
    simpa using hv
  · have e : ((q : Int) - f).toNat < d.length := by omega
    have := h.cell q h1 (by omega)
    rw [List.getD_eq_getElem?_getD, List.getElem?_append_left e, ← List.getD_eq_getElem?_getD]
    exact this
set_option maxHeartbeats 1600000 in
theorem l0_is (L0 : Nat → List Int → List Int → Int → Int → Int → Int → List Int → Int → List Int → Option (Int × List Int)) (J1 J2 : Nat → List Int → List Int → Int → Int → Int → Bool → Int → List Int → Int → List Int → Option (Int × List Int))
    (e0 : ∀ (k : Nat) (x0 x1 : List Int) (x2 x14 x16 x3 : Int) (x4 : List Int) (x5 : Int) (x6 : List Int), L0 (k + 1) x0 x1 x2 x14 x16 x3 x4 x5 x6 = if x16 ≤ x14 then (if x2 = 0 then (J1 k x0 x1 x2 x14 x16 (x16 == 0) x3 x4 x5 x6) else (J1 k x0 x1 x2 x14 x16 false x3 x4 x5 x6)) else (some (x5, x6)))
    (e1 : ∀ (k : Nat) (x0 x1 : List Int) (x2 x14 x16 : Int) (x46 : Bool) (x3 : Int) (x4 : List Int) (x5 : Int) (x6 : List Int), J1 (k + 1) x0 x1 x2 x14 x16 x46 x3 x4 x5 x6 = if x46 = true then (if x6.length < 17592186044416 then (L0 k x0 x1 x2 x14 (wrap64 (x16 + 1)) x3 x4 x5 (x6 ++ [0])) else (none)) else (if x2 > 0 then (if x16 > 0 then (if 0 ≤ (wrap64 (x2 - 1)) then (if (wrap64 (x2 - 1)) < (x0.length : Int) then (if 0 ≤ (wrap64 (x16 - 1)) then (if (wrap64 (x16 - 1)) < (x1.length : Int) then (J2 k x0 x1 x2 x14 x16 ((rd x0 (wrap64 (x2 - 1))) == (rd x1 (wrap64 (x16 - 1)))) x3 x4 x5 x6) else (none)) else (none)) else (none)) else (none)) else (J2 k x0 x1 x2 x14 x16 false x3 x4 x5 x6)) else (J2 k x0 x1 x2 x14 x16 false x3 x4 x5 x6)))
    (e2 : ∀ (k : Nat) (x0 x1 : List Int) (x2 x14 x16 : Int) (x53 : Bool) (x3 : Int) (x4 : List Int) (x5 : Int) (x6 : List Int), J2 (k + 1) x0 x1 x2 x14 x16 x53 x3 x4 x5 x6 = if x53 = true then ((PV.band_line_at.f x3 x4 (wrap64 (x16 - 1))).bind fun t137 => (if x6.length < 17592186044416 then (L0 k x0 x1 x2 x14 (wrap64 (x16 + 1)) x3 x4 x5 (x6 ++ [t137])) else (none))) else ((PV.band_line_at.f x3 x4 x16).bind fun t141 => ((PV.band_line_at.f x5 x6 (wrap64 (x16 - 1))).bind fun t142 => (if x6.length < 17592186044416 then (L0 k x0 x1 x2 x14 (wrap64 (x16 + 1)) x3 x4 x5 (x6 ++ [mn (mn 1152921504606846976 (wrap64 (t141 + 1))) (wrap64 (t142 + 1))])) else (none)))))
    (a b : List Int) (B : Band) (hn : B.n = a.length) (hm : B.m = b.length) (ha : a.length ≤ 1000) (hb : b.length ≤ 1000) (i : Nat) (hi : i ≤ a.length) (f' : Int) (d' : List Int) (hf1 : -1099511627776 ≤ f') (hf2 : f' ≤ 1099511627776) (hd' : d'.length ≤ 1099511627776)
    (h0 : i = 0 → d' = []) (h1 : ∀ i', i = i' + 1 → Row a b B i' (lst B i' + 1) f' d') : ∀ (r j : Nat) (f : Int) (d : List Int), lst B i + 1 - (j : Int) = (r : Int) → fst B i ≤ (j : Int) → Row a b B i (j : Int) f d →
    ∃ d1, Row a b B i (lst B i + 1) f d1 ∧ ∀ k, 3 * r < k → L0 k a b (i : Int) (lst B i) (j : Int) f' d' f d = some (f, d1)
  | 0, j, f, d, hr, hj, hR => by
    have e : lst B i + 1 = (j : Int) := by omega
    refine ⟨d, by rw [e]; exact hR, fun k hk => ?_⟩
    obtain ⟨k, rfl⟩ : ∃ k', k = k' + 1 := ⟨k - 1, by omega⟩
    rw [e0, if_neg (by omega)]
  | r + 1, j, f, d, hr, hj, hR => by
    have c2 : (j : Int) ≤ lst B i := by omega
    have hjm : j ≤ b.length := by unfold lst at c2; omega
    have hf := hR.first
    have hl := hR.len
    have hF0 : 0 ≤ f := by rw [hf]; unfold fst; omega
    have hv := val_cell a b B hn hm ha hb i j hi hjm f' d' f d h0 h1 hR hj c2
    have hR2 := row_more hR (by omega) hv
    obtain ⟨d1, q1, q2⟩ := l0_is L0 J1 J2 e0 e1 e2 a b B hn hm ha hb i hi f' d' hf1 hf2 hd' h0 h1 r (j + 1) f _ (by omega) (by omega) hR2
    refine ⟨d1, q1, fun k hk => ?_⟩
    obtain ⟨k, rfl⟩ : ∃ k', k = k' + 3 := ⟨k - 3, by omega⟩
    have jb : (j : Int) ≤ 1000 := by omega
    have ib : (i : Int) ≤ 1000 := by omega
    have j1a : -9223372036854775808 ≤ (j : Int) - 1 := by omega
    have j1b : (j : Int) - 1 < 9223372036854775808 := by omega
    have i1a : -9223372036854775808 ≤ (i : Int) - 1 := by omega
    have i1b : (i : Int) - 1 < 9223372036854775808 := by omega
    have jc : (j : Int) + 1 = ((j + 1 : Nat) : Int) := by omega
    have j2a : -9223372036854775808 ≤ (j : Int) + 1 := by omega
    have j2b : (j : Int) + 1 < 9223372036854775808 := by omega
    have w1 := Aside0.mk ((w64_ j2a j2b).trans jc)
    have w2 := Aside0.mk (w64_ j1a j1b)
    have w3 := Aside0.mk (w64_ i1a i1b)
    have hlen : d.length < 17592186044416 := by omega
    have A1 := at_is f' d' (j : Int) hf1 hf2 (by omega) (by omega) hd'
    have A2 := at_is f' d' ((j : Int) - 1) hf1 hf2 (by omega) (by omega) hd'
    have A3 := at_is f d ((j : Int) - 1) (by omega) (by omega) (by omega) (by omega) (by omega)
    have hFAR : FAR = 1152921504606846976 := rfl
    have bA : 0 ≤ i → atL f' d' (j : Int) ≤ FAR ∧ -1 ≤ atL f' d' (j : Int) := fun _ => by
      cases i with
      | zero => rw [h0 rfl, at_nil]; omega
      | succ i' =>
        have := at_low ha hb (by omega) (h1 i' rfl) (by unfold lst; omega) j hjm
        have h3 := dI_far a b i' j
        exact ⟨this.2, by omega⟩
    have bB : atL f d ((j : Int) - 1) ≤ FAR ∧ -1 ≤ atL f d ((j : Int) - 1) := by
      cases j with
      | zero =>
        have : atL f d (((0 : Nat) : Int) - 1) = FAR := by unfold atL; rw [if_pos (by omega)]
        rw [this]; omega
      | succ j' =>
        have := at_low ha hb hi hR (by omega) j' (by omega)
        have h3 := dI_far a b i j'
        rw [show ((j' + 1 : Nat) : Int) - 1 = (j' : Int) by omega]
        exact ⟨this.2, by omega⟩
    have bA := bA (Nat.zero_le _)
    have a4 : -9223372036854775808 ≤ atL f' d' (j : Int) + 1 := by omega
    have a5 : atL f' d' (j : Int) + 1 < 9223372036854775808 := by omega
    have b4 : -9223372036854775808 ≤ atL f d ((j : Int) - 1) + 1 := by omega
    have b5 : atL f d ((j : Int) - 1) + 1 < 9223372036854775808 := by omega
    have w4 := Aside0.mk (w64_ a4 a5)
    have w5 := Aside0.mk (w64_ b4 b5)
    -- the third branch, and the second
    have J2 : ∀ x : Bool, J2 (k + 1) a b (i : Int) (lst B i) (j : Int) x f' d' f d = L0 k a b (i : Int) (lst B i) ((j + 1 : Nat) : Int) f' d' f (d ++ [if x = true then atL f' d' ((j : Int) - 1) else min (min FAR (atL f' d' (j : Int) + 1)) (atL f d ((j : Int) - 1) + 1)]) := fun x => by
      rw [e2]
      cases x with
      | true => rw [if_pos rfl, if_pos rfl, w2.out, A2, Option.bind_some, if_pos hlen, w1.out]
      | false => rw [if_neg (by decide), if_neg (by decide), A1, Option.bind_some, w2.out, A3, Option.bind_some, if_pos hlen, w1.out, w4.out, w5.out, mn_min, mn_min]
    rw [e0, if_pos c2]
    by_cases z : i = 0 ∧ j = 0
    · obtain ⟨rfl, rfl⟩ := z
      rw [if_pos (by rfl), e1]
      rw [if_pos (by rfl), if_pos hlen, w1.out]
      have e : val a b 0 0 f' d' f d = 0 := by unfold val; rw [if_pos ⟨rfl, rfl⟩]
      rw [e] at q2
      exact q2 (k + 1) (by omega)
    · have hj1 : ∀ x : Bool, x = false → J1 (k + 2) a b (i : Int) (lst B i) (j : Int) x f' d' f d = some (f, d1) := fun x hx => by
        subst hx
        rw [e1, if_neg (by decide)]
        by_cases i0 : 0 < i
        · rw [if_pos (by omega)]
          by_cases j0 : 0 < j
          · rw [if_pos (by omega), w3.out, w2.out, if_pos (by omega), if_pos (by omega), if_pos (by omega), if_pos (by omega), J2]
            have g1 : (i : Int) - 1 = ((i - 1 : Nat) : Int) := by omega
            have g2 : (j : Int) - 1 = ((j - 1 : Nat) : Int) := by omega
            have ev : val a b i j f' d' f d = if (rd a ((i : Int) - 1) == rd b ((j : Int) - 1)) = true then atL f' d' ((j : Int) - 1) else min (min FAR (atL f' d' (j : Int) + 1)) (atL f d ((j : Int) - 1) + 1) := by
              unfold val
              rw [if_neg z, g1, rd_get]
              rw [show rd b ((j : Int) - 1) = b.getD (j - 1) 0 by rw [g2]; rfl]
              by_cases c : a.getD (i - 1) 0 = b.getD (j - 1) 0
              · rw [if_pos ⟨i0, j0, c⟩, if_pos (by rw [c]; exact beq_self_eq_true _)]
              · rw [if_neg (fun h => c h.2.2), if_neg (by simpa using c)]
            rw [← ev]
            exact q2 k (by omega)
          · rw [if_neg (by omega), J2]
            have ev : val a b i j f' d' f d = min (min FAR (atL f' d' (j : Int) + 1)) (atL f d ((j : Int) - 1) + 1) := by
              unfold val
              rw [if_neg z, if_neg (fun h => j0 h.2.1)]
            rw [if_neg (by decide), ← ev]
            exact q2 k (by omega)
        · rw [if_neg (by omega), J2]
          have ev : val a b i j f' d' f d = min (min FAR (atL f' d' (j : Int) + 1)) (atL f d ((j : Int) - 1) + 1) := by
            unfold val
            rw [if_neg z, if_neg (fun h => i0 h.1)]
          rw [if_neg (by decide), ← ev]
          exact q2 k (by omega)
      by_cases i0 : i = 0
      · subst i0
        rw [if_pos (by rfl)]
        refine hj1 _ ?_
        have : ¬ (j : Int) = 0 := by omega
        simpa using this
      · rw [if_neg (by omega)]
        exact hj1 _ rfl
theorem fst_le (B : Band) {i : Nat} (hn : i ≤ B.n) : fst B i ≤ lst B i + 1 ∧ 0 ≤ fst B i ∧ fst B i ≤ 1099511627776 + (i : Int) := by
  have h1 := B.lo0
  have h2 := B.hi0
  have h3 := B.low
  have h4 := B.small
  unfold fst lst
  omega
/-- The next row. -/
theorem next_is (a b : List Int) (B : Band) (hn : B.n = a.length) (hm : B.m = b.length) (ha : a.length ≤ 1000) (hb : b.length ≤ 1000) (i : Nat) (hi : i ≤ a.length) (f' : Int) (d' : List Int) (hf1 : -1099511627776 ≤ f') (hf2 : f' ≤ 1099511627776) (hd' : d'.length ≤ 1099511627776)
    (h0 : i = 0 → d' = []) (h1 : ∀ i', i = i' + 1 → Row a b B i' (lst B i' + 1) f' d') :
    ∃ d1, Row a b B i (lst B i + 1) (fst B i) d1 ∧ PV.band_next.f 4000 a b (i : Int) B.lo B.hi f' d' = some (fst B i, d1) := by
  have hs := B.small
  have hle := fst_le B (i := i) (by omega)
  have hlo := B.lo0
  have hhi := B.hi0
  have hw := B.low
  have hkk := B.hi0
  obtain ⟨F, hF⟩ : ∃ F : Nat, fst B i = (F : Int) := ⟨(fst B i).toNat, by omega⟩
  have hstart : Row a b B i (F : Int) (fst B i) [] := ⟨rfl, by rw [hF]; simp, fun j h1 h2 => by omega⟩
  have hup : lst B i ≤ (b.length : Int) := by unfold lst; omega
  obtain ⟨r, hr⟩ : ∃ r : Nat, lst B i + 1 - (F : Int) = (r : Int) := ⟨(lst B i + 1 - (F : Int)).toNat, by omega⟩
  obtain ⟨d1, q1, q2⟩ := l0_is PV.band_next.l0 PV.band_next.j1 PV.band_next.j2 (fun _ _ _ _ _ _ _ _ _ _ => rfl) (fun _ _ _ _ _ _ _ _ _ _ _ => rfl) (fun _ _ _ _ _ _ _ _ _ _ _ => rfl) a b B hn hm ha hb i hi f' d' hf1 hf2 hd' h0 h1 r F (fst B i) [] hr (by omega) hstart
  refine ⟨d1, q1, ?_⟩
  have e1 : mn (b.length : Int) (wrap64 ((i : Int) - B.lo)) = lst B i := by
    rw [mn_min, w64_ (by omega) (by omega)]
    unfold lst
    rw [hm]
  have e2 : mx 0 (wrap64 ((i : Int) - B.hi)) = fst B i := by
    rw [w64_ (by omega) (by omega)]
    unfold mx fst
    split <;> omega
  unfold PV.band_next.f
  rw [e1, e2]
  have := q2 4000 (by omega)
  rw [hF] at this ⊢
  exact this
end Go.Proofs.YtgelkklendpeoaaGreat.BandN
