import Derived.Test.YtgelkklendpeoaaGreatNameR
import Derived.Shelf.RegionOpenPlain
import Derived.Shelf.SlicesE.Compact
import Derived.Lib.SlKept
import Derived.Sort.WalkB12
import Derived.Lib.SliceRun
namespace Go.Proofs.YtgelkklendpeoaaGreat.NameX
open Go Go.RowKit Go.Sort Go.Lib Go.Proofs.YtgelkklendpeoaaGreat.AE
set_option maxRecDepth 100000
set_option linter.unusedVariables false
set_option linter.unusedSimpArgs false
/-! slices.CompactFunc -/
structure Asd0 (p : Prop) : Prop where
  out : p
def kpB {w : World} {ok : Nat → Prop} (d : Array (El w ok)) (j : Nat) : Bool := decide (j = 0 ∨ (d[j]!).d ≠ (d[j - 1]!).d)
theorem kpB_lt_one {w : World} {ok : Nat → Prop} (d : Array (El w ok)) : ∀ j, j < 1 → kpB d j = true := fun j hj => by
  obtain rfl : j = 0 := by omega
  simp [kpB]
theorem kpB_pos {w : World} {ok : Nat → Prop} {d : Array (El w ok)} {j : Nat} (h : (d[j]!).d ≠ (d[j - 1]!).d) : kpB d j = true := by simp [kpB, h]
theorem kpB_neg {w : World} {ok : Nat → Prop} {d : Array (El w ok)} {j : Nat} (hj : 0 < j) (h : (d[j]!).d = (d[j - 1]!).d) : kpB d j = false := by
  simp only [kpB, decide_eq_false_iff_not]
  rintro (h1 | h1)
  · omega
  · exact h1 h
set_option maxHeartbeats 4000000 in
set_option maxRecDepth 1000000 in
theorem Compact_walk {w : World} {ok : Nat → Prop} (blk off cap : Nat) (d : Array (El w ok)) (hk : ∀ b, ok b → b ≠ blk) (hH : Go.Sort.Holds El.v w blk off d) (hsz : d.size ≤ 1000000) (hcap : d.size ≤ cap) :
    Calls Tryz.prog 95 #[.slice (some ⟨blk, off, none⟩) d.size cap, .func (.func 96) #[] #[]] w fun e w' =>
      e = .returned (.slice (some ⟨blk, off, none⟩) (keptUpTo (kpB d) d d.size).length cap) ∧ ∃ q, w' = putRow El.v (Go.Sort.ahead w q) blk off (keptUpTo (kpB d) d d.size ++ List.replicate (d.size - (keptUpTo (kpB d) d d.size).length) (default : El w ok)).toArray := by
  have mixed : Tryz.prog.follows Departure.mixedOrders = true := by kernel_rfl
  have eg : ∀ args w, (callFunc 96 args).run Tryz.prog w = .ok (.enter 96 args) w := enters_of Tryz.func96 (by kernel_rfl) rfl
  have hO : OneCell (El.v (w := w) (ok := ok)) := El.one
  have hcl0 := hO.cells
  simp only [Value.cells] at hcl0
  have hst := hO.store Tryz.prog
  have hcallAt : ∀ (W : World), (∀ b, ok b → W.heap[b]? = w.heap[b]?) → ∀ (x y : El w ok) (n : Nat), Calls Tryz.prog 96 #[x.v, y.v] (W.drewN n) fun e w' => e = .returned (.bool (decide (x.d = y.d))) ∧ ∃ q, w' = (W.drewN n).drewN q := fun W hW x y n =>
    (Eq_calls (W := W.drewN n) (fun b hb => hW b hb) x y).mono fun e w' ⟨he, hw⟩ => ⟨he, 0, by rw [hw]; rfl⟩
  have hW0 : ∀ (q : Nat) (dk : Array (El w ok)) (b : Nat), ok b → (putRow El.v (Go.Sort.ahead w q) blk off dk).heap[b]? = w.heap[b]? := fun q dk b hb => by
    show (w.heap.modify blk (onCells (putCells El.v off dk)))[b]? = _
    rw [Array.getElem?_modify, if_neg (Ne.symm (hk b hb))]
  have same : ∀ q, (∀ j, j < d.size → kpB d j = true) → (keptUpTo (kpB d) d d.size).length = d.size ∧ w.drewN q = putRow El.v (Go.Sort.ahead w q) blk off (keptUpTo (kpB d) d d.size ++ List.replicate (d.size - (keptUpTo (kpB d) d d.size).length) (default : El w ok)).toArray := by
    intro q hall
    have e : keptUpTo (kpB d) d d.size = d.toList := by rw [keptUpTo_all (kpB d) d _ hall, range_map_get]
    rw [e]
    refine ⟨by simp, ?_⟩
    simp only [Array.length_toList, Nat.sub_self, List.replicate_zero, List.append_nil, Array.toArray_toList]
    exact (putRow_self El.v (Go.Sort.ahead w q) blk off d (holds_ahead El.v w q blk off d hH)).symm
  have HS := Asd0.mk same
  have HC := Asd0.mk hcallAt
  have HW := Asd0.mk hW0
  clear same hcallAt hW0
  have H1 := Asd0.mk (kpB_lt_one d)
  by_cases h2 : d.size < 2
  · have h2z : (d.size : Int) < 2 := by omega
    have HH := Asd0.mk hH
    clear hH
    go_enter Tryz.func95, Tryz.ntmps95
    go_wp2
    go_ret
    obtain ⟨e1, e2⟩ := HS.out 0 (fun j hj => H1.out j (by omega))
    exact ⟨by rw [e1]; rfl, 0, e2⟩
  · go_enter Tryz.func95, Tryz.ntmps95
    have h2z : ¬ (d.size : Int) < 2 := by omega
    go_wp2
    go_loopg [5] d.size (fun g s5 wr => ∃ k q : Nat, 1 ≤ k ∧ k ≤ d.size ∧ d.size - k ≤ g ∧ s5 = .int .i64 k ∧ wr = w.drewN q ∧ Asd0 (∀ j, j < k → kpB d j = true))
    case atStart => exact ⟨1, 0, Nat.le_refl _, by omega, by omega, rfl, rfl, H1⟩
    case round =>
      obtain ⟨k, q, hk1, hk, hg, rfl, rfl, A⟩ := hrel
      by_cases hlt : k < d.size
      · obtain ⟨c1, f1⟩ := hH k hlt
        obtain ⟨c0, f0⟩ := hH (k - 1) (by omega)
        have HH := Asd0.mk hH
        clear hH
        generalize hx : d[k]! = x at c1
        generalize hy : d[k - 1]! = y at c0
        have B := Asd0.mk (And.intro hx hy)
        clear hx hy
        have hc := HC.out (w.drewN q) (fun b hb => rfl) x y
        obtain ⟨kp, rfl⟩ : ∃ kp, k = kp + 1 := ⟨k - 1, by omega⟩
        simp only [Nat.add_sub_cancel] at c0 f0
        have hwp : IntKind.i64.wrap (kp : Int) = (kp : Int) := by rw [IntKind.wrap_i64]; omega
        have jz : (kp : Int) + 1 < (d.size : Int) := by omega
        have jz1 : (kp : Int) < (d.size : Int) := by omega
        have p0 : (0 : Int) ≤ (kp : Int) + 1 := by omega
        have e0 : ((kp : Int) + 1).toNat = kp + 1 := by omega
        have c1' : (w.drewN q).cell? ⟨blk, off + (kp + 1), none⟩ = some x.v := c1
        have c0' : (w.drewN q).cell? ⟨blk, off + kp, none⟩ = some y.v := c0
        clear c1 c0 f1 f0
        by_cases hdup : x.d = y.d
        · have hdd : decide (x.d = y.d) = true := decide_eq_true hdup
          rw [hdd] at hc
          have DD := Asd0.mk hdup
          clear hdd hdup
          generalize hwq : w.drewN q = wq at c1' c0' hc ⊢
          have WQ := Asd0.mk hwq
          clear hwq
          go_wp2_with fail
          go_quiet_o (first | (go_at_fn 96; refine Calls.quiet_of (hc _)))
          go_wp2_with fail
          clear c1' c0' hc
          go_loopg [5, 7] d.size (fun g s5 s7 wr => ∃ (kk k2 q2 : Nat) (dk : Array (El w ok)), s5 = .int .i64 kk ∧ s7 = .int .i64 k2 ∧ 1 ≤ k2 ∧ kp + 1 + k2 ≤ d.size ∧ d.size - (kp + 1 + k2) ≤ g ∧ wr = putRow El.v (Go.Sort.ahead w q2) blk off dk ∧ Asd0 (KeptInv (kpB d) d (kp + 1 + k2) kk dk))
          case atStart => exact ⟨kp + 1, 1, q + nq, d, by go_num, rfl, Nat.le_refl _, by omega, by omega, by rw [← WQ.out, World.drewN_drewN]; exact (putRow_self El.v (Go.Sort.ahead w (q + nq)) blk off d (holds_ahead El.v w (q + nq) blk off d HH.out)).symm, ⟨KeptInv.start A.out (kpB_neg (by omega) (by rw [B.out.1, show kp + 1 - 1 = kp from rfl]; rw [show d[kp]! = y from B.out.2]; exact DD.out))⟩⟩
          case round =>
            clear WQ
            obtain ⟨kk, k2, q2, dk, rfl, rfl, h1, hle, hg2, hwr, I2⟩ := hrel
            have hkk := I2.out.lt
            have hds := I2.out.size
            have hHk : Go.Sort.Holds El.v wr blk off dk := by rw [hwr]; exact holds_putRow El.v _ blk off d dk (holds_ahead El.v w q2 blk off d HH.out) hds
            have W2 := Asd0.mk hwr
            by_cases hlt2 : kp + 1 + k2 < d.size
            · obtain ⟨k2p, rfl⟩ : ∃ k2p, k2 = k2p + 1 := ⟨k2 - 1, by omega⟩
              obtain ⟨cm, _⟩ := hHk (kp + 1 + (k2p + 1)) (by omega)
              obtain ⟨cp, _⟩ := hHk (kp + 1 + k2p) (by omega)
              obtain ⟨ck, fk⟩ := hHk kk (by omega)
              rw [I2.out.high (kp + 1 + (k2p + 1)) (by omega), show off + (kp + 1 + (k2p + 1)) = off + (kp + 1) + (k2p + 1) by omega] at cm
              rw [I2.out.high (kp + 1 + k2p) (by omega), show off + (kp + 1 + k2p) = off + (kp + 1) + k2p by omega] at cp
              clear hHk
              generalize hu : d[kp + 1 + (k2p + 1)]! = u at cm
              generalize hv : d[kp + 1 + k2p]! = v at cp
              generalize dk[kk]! = old at ck
              have C := Asd0.mk (And.intro hu hv)
              clear hu hv
              have hc := HC.out wr (fun b hb => by rw [W2.out]; exact HW.out q2 dk b hb) u v
              clear hwr
              have hwp2 : IntKind.i64.wrap (k2p : Int) = (k2p : Int) := by rw [IntKind.wrap_i64]; omega
              have kz : (k2p : Int) + 1 < ((d.size - (kp + 1) : Nat) : Int) := by omega
              have kz1 : (k2p : Int) < ((d.size - (kp + 1) : Nat) : Int) := by omega
              have pz : (0 : Int) ≤ (k2p : Int) + 1 := by omega
              have ez : ((k2p : Int) + 1).toNat = k2p + 1 := by omega
              have kkz : (kk : Int) < (d.size : Int) := by omega
              by_cases huv : u.d = v.d
              · have hdd : decide (u.d = v.d) = true := decide_eq_true huv
                rw [hdd] at hc
                have DU := Asd0.mk huv
                clear hdd huv
                go_wp2_with fail
                go_quiet_o (first | (go_at_fn 96; refine Calls.quiet_of (hc _)))
                go_wp2_with fail
                go_roundg (d.size - (kp + 1 + (k2p + 1 + 1)))
                case measure => omega
                case rel => exact ⟨kk, k2p + 1 + 1, q2 + nq, dk, rfl, by go_num, by omega, by omega, Nat.le_refl _, by rw [W2.out]; exact putRow_drewN _ _ _ _ _ _ _, ⟨I2.out.skip (kpB_neg (by omega) (by rw [C.out.1, show kp + 1 + (k2p + 1) - 1 = kp + 1 + k2p from rfl, C.out.2]; exact DU.out))⟩⟩
              · have hdd : decide (u.d = v.d) = false := decide_eq_false huv
                rw [hdd] at hc
                have DU := Asd0.mk huv
                clear hdd huv
                go_wp2_with fail
                go_quiet_o (first | (go_at_fn 96; refine Calls.quiet_of (hc _)))
                go_wp2_with fail
                go_roundg (d.size - (kp + 1 + (k2p + 1 + 1)))
                case measure => omega
                case rel =>
                  refine ⟨kk + 1, k2p + 1 + 1, q2 + nq, dk.setIfInBounds kk u, by go_num, by go_num, by omega, by omega, Nat.le_refl _, ?_, ⟨?_⟩⟩
                  · rw [W2.out, show (putRow El.v (Go.Sort.ahead w q2) blk off dk).drewN nq = putRow El.v (Go.Sort.ahead w (q2 + nq)) blk off dk from putRow_drewN _ _ _ _ _ _ _, putRow_set El.v _ blk off dk kk u (by omega)]
                  · have := I2.out.keep hlt2 (kpB_pos (by rw [C.out.1, show kp + 1 + (k2p + 1) - 1 = kp + 1 + k2p from rfl, C.out.2]; exact DU.out))
                    rwa [C.out.1] at this
            · have hend : kp + 1 + k2 = d.size := by omega
              have hcl : ∀ ty, (Builtin.clear_ #[41] ty #[.slice (some ⟨blk, off + kk, none⟩) (d.size - kk) (cap - kk)]).run Tryz.prog wr = .ok (.tuple #[]) (wr.setCells blk (off + kk) (List.replicate (d.size - kk) (Value.slice none 0 0))) :=
                fun ty => Lib.run_clear_slice wr _ _ ty _ Tryz.underlying41 Tryz.zeroValue22 rfl rfl blk (off + kk) _ _ (by omega) (fun t ht => by rw [show off + kk + t = off + (kk + t) by omega, (hHk (kk + t) (by omega)).1]; rfl) (fun t ht => by rw [show off + kk + t = off + (kk + t) by omega]; exact (hHk (kk + t) (by omega)).2)
              have kz : ¬ (k2 : Int) < ((d.size - (kp + 1) : Nat) : Int) := by omega
              clear hHk hwr
              go_wp2
              go_ret
              have hI := I2.out
              rw [hend] at hI
              refine ⟨by rw [hI.len]; rfl, q2, ?_⟩
              rw [hI.len, ← hI.done (default : El w ok), ← putRow_setCells El.v _ blk off _ dk kk (by simp; omega), ← W2.out, List.map_replicate]
              rfl
        · have hdd : decide (x.d = y.d) = false := decide_eq_false hdup
          rw [hdd] at hc
          have DD := Asd0.mk hdup
          clear hdd hdup
          generalize hwq : w.drewN q = wq at c1' c0' hc ⊢
          have WQ := Asd0.mk hwq
          clear hwq
          go_wp2_with fail
          go_quiet_o (first | (go_at_fn 96; refine Calls.quiet_of (hc _)))
          go_wp2_with fail
          go_roundg (d.size - (kp + 1 + 1))
          case measure => omega
          case rel =>
            refine ⟨kp + 1 + 1, q + nq, by omega, by omega, Nat.le_refl _, by go_num, by rw [← WQ.out, World.drewN_drewN], ⟨fun j hj => ?_⟩⟩
            by_cases e : j = kp + 1
            · subst e
              exact kpB_pos (by rw [B.out.1, show kp + 1 - 1 = kp from rfl, show d[kp]! = y from B.out.2]; exact DD.out)
            · exact A.out j (by omega)
      · obtain rfl : k = d.size := by omega
        clear hH
        go_wp2
        go_ret
        obtain ⟨e1, e2⟩ := HS.out q A.out
        exact ⟨by rw [e1]; rfl, q, e2⟩
set_option maxRecDepth 1000000 in
theorem Compact_none (w : World) : Calls Tryz.prog 95 #[.slice none 0 0, .func (.func 96) #[] #[]] w fun e w' => e = .returned (.slice none 0 0) ∧ w' = w := by
  go_enter Tryz.func95, Tryz.ntmps95
  go_wp2
  go_ret
  exact ⟨rfl, rfl⟩
def ddP : Option (List Int) → List (List Int) → List (List Int)
  | _, [] => []
  | p, x :: l => if p = some x then ddP (some x) l else x :: ddP (some x) l
def lastP : Option (List Int) → List (List Int) → Option (List Int)
  | p, [] => p
  | _, x :: l => lastP (some x) l
theorem ddP_snoc (x : List Int) : ∀ (l : List (List Int)) (p : Option (List Int)), ddP p (l ++ [x]) = ddP p l ++ (if lastP p l = some x then [] else [x])
  | [], p => by
    show ddP p [x] = [] ++ _
    rw [ddP, lastP]
    split <;> rfl
  | y :: l, p => by
    show ddP p (y :: (l ++ [x])) = ddP p (y :: l) ++ _
    rw [ddP, ddP, lastP, ddP_snoc x l]
    split
    · rfl
    · rfl
theorem lastP_snoc (x : List Int) : ∀ (l : List (List Int)) (p : Option (List Int)), lastP p (l ++ [x]) = some x
  | [], p => rfl
  | y :: l, p => lastP_snoc x l _
theorem kept_data {w : World} {ok : Nat → Prop} (d : Array (El w ok)) : ∀ m, m ≤ d.size → (keptUpTo (kpB d) d m).map El.d = ddP none ((d.toList.map El.d).take m)
  | 0, _ => by simp [keptUpTo, ddP]
  | m + 1, hm => by
    have e1 : (d.toList.map El.d).take (m + 1) = (d.toList.map El.d).take m ++ [(d[m]!).d] := by
      rw [List.take_add_one, List.getElem?_map, Array.getElem?_toList, Array.getElem?_eq_getElem (show m < d.size by omega), getElem!_pos d m (by omega)]
      rfl
    have e2 : lastP none ((d.toList.map El.d).take m) = some (d[m]!).d ↔ kpB d m = false := by
      cases m with
      | zero => simp [lastP, kpB]
      | succ m =>
        rw [List.take_add_one, List.getElem?_map, Array.getElem?_toList, Array.getElem?_eq_getElem (show m < d.size by omega)]
        rw [show ((some d[m]).map El.d).toList = [(d[m]).d] from rfl, lastP_snoc, kpB]
        simp only [Option.some.injEq, decide_eq_false_iff_not, Nat.add_sub_cancel, getElem!_pos d m (show m < d.size by omega)]
        constructor
        · rintro h (h1 | h1)
          · omega
          · exact h1 h.symm
        · intro h
          by_cases h2 : (d[m]).d = (d[m + 1]!).d
          · exact h2
          · exact absurd (.inr fun h3 => h2 h3.symm) h
    rw [keptUpTo_succ, List.map_append, kept_data d m (by omega), e1, ddP_snoc]
    by_cases hl : lastP none ((d.toList.map El.d).take m) = some (d[m]!).d
    · rw [if_pos hl, e2.1 hl]; rfl
    · have hk : kpB d m = true := by
        cases h : kpB d m with
        | true => rfl
        | false => exact absurd (e2.2 h) hl
      rw [if_neg hl, hk]; rfl
def compactR (l : List (List Int)) : Option (List (List Int)) := if fewT l && l.all isBs then some (ddP none l) else none
theorem ddP_len : ∀ (l : List (List Int)) (p : Option (List Int)), (ddP p l).length ≤ l.length
  | [], p => Nat.le_refl _
  | x :: l, p => by
    rw [ddP]
    have := ddP_len l (some x)
    split <;> simp only [List.length_cons] <;> omega
theorem CompactR_spec {x y : List (List Int)} (h : compactR x = some y) : AE.Spec Tryz.prog NoX ⟨⟨[.ref 0, .fnc 96 []], [.row TK]⟩, ⟨[.ref 1], [.dead, .row TK]⟩⟩ 95 x y := by
  simp only [compactR] at h
  split at h
  · rename_i hc
    cases h
    simp only [fewT, Bool.and_eq_true, decide_eq_true_eq] at hc
    obtain ⟨c1, c2⟩ := hc
    intro S w own vals hS hI ⟨h1, h2⟩
    have hr : HR NoX S w [.row TK x] own := h1
    have hlen : own.length = 1 := hr.len
    obtain ⟨o, rfl⟩ : ∃ o, own = [o] := by
      match own, hlen with
      | [o], _ => exact ⟨o, rfl⟩
    obtain ⟨v0, v1, rfl, g0, g1⟩ := VRs.two (a := .ref 0) (b := .fn 96 []) h2
    obtain ⟨vs, rfl, e0, _⟩ := g1
    obtain rfl : vs = [] := List.eq_nil_of_length_eq_zero e0
    obtain ⟨o', ho', hv⟩ := g0
    cases ho'
    obtain ⟨q1, q2, q3⟩ := row_cases hr
    have hv := hv q1
    subst hv
    rcases q3 with ⟨e1, rfl, e2⟩ | ⟨g, c, cur, e, hn, hrep⟩
    · rw [e1]
      refine Does.of_calls Tryz.func95 (by decide) rfl ((Compact_none w).mono fun e w' ⟨he, hw⟩ => ?_)
      subst hw
      refine ⟨_, he, [{ o with live := false, bs := [] }, o], [o.v], out_row ⟨rfl, rfl⟩ (by rw [e2]; intro b hb; cases hb) ?_, ⟨rfl, rfl, rfl, Nat.le_refl _, fun b ⟨k1, k2, k3⟩ => ⟨⟨k1, k2, fun x hx => ?_⟩, rfl⟩, fun i x b hi hb => ?_, fun b _ _ => rfl⟩, own_le rfl, by rw [e1]; rfl⟩
      · exact ⟨q1, q2, Nat.one_pos, .inl ⟨e1, rfl, e2⟩⟩
      · rcases List.mem_cons.1 hx with rfl | hx
        · simp
        · exact k3 x hx
      · match i, hi with
        | 0, h1 => cases h1; cases hb
        | 1, h1 => cases h1; exact .inr ⟨0, o, rfl, hb⟩
        | n + 2, h1 => cases h1
    · obtain ⟨d, d1, d2⟩ := els_of x _ hrep (bytes_all c2)
      have hsz : d.length = x.length := by rw [← d1, List.length_map]
      have hH := holds_els hn d1 d2
      have hlt : g < w.heap.size := (Array.getElem?_eq_some_iff.1 hn.hg).1
      have hnk : ∀ b, okS S w [o] b → b ≠ g := fun b hb h => hb.2.2 o (List.mem_singleton.2 rfl) (by rw [hn.hb, h]; exact List.mem_singleton.2 rfl)
      have hdat : (keptUpTo (kpB d.toArray) d.toArray d.toArray.size).map El.d = ddP none x := by
        rw [kept_data _ _ (Nat.le_refl _)]
        rw [show d.toArray.toList = d from rfl, d1, List.take_of_length_le (by simp; omega)]
      have hlk : (keptUpTo (kpB d.toArray) d.toArray d.toArray.size).length = (ddP none x).length := by rw [← hdat, List.length_map]
      have hle : (ddP none x).length ≤ x.length := ddP_len x none
      have key := Compact_walk g 0 c d.toArray hnk hH (by simp; omega) (by simp; have := hn.hl; omega)
      rw [hn.hv, ← hsz]
      rw [hlk] at key
      refine Does.of_calls Tryz.func95 (by decide) rfl (key.mono fun e1 w' ⟨he, n, hw⟩ => ?_)
      obtain ⟨D, hD⟩ : ∃ D : Array (El w (okS S w [o])), D = (keptUpTo (kpB d.toArray) d.toArray d.toArray.size ++ List.replicate (d.toArray.size - (ddP none x).length) default).toArray := ⟨_, rfl⟩
      rw [← hD] at hw
      have hDs : D.size = x.length := by
        rw [hD]
        rw [List.size_toArray, List.length_append, List.length_replicate, hlk, show d.toArray.size = x.length from hsz]
        exact Nat.add_sub_cancel' hle
      have hDt : (D.toList.take (ddP none x).length).map El.d = ddP none x := by
        rw [hD, ← hlk]
        simp only [List.take_left', hdat]
      have hw' : w' = Go.Sort.grow (putRow El.v (Go.Sort.ahead w n) g 0 D) #[] := by rw [grow_empty]; exact hw
      obtain ⟨p1, p2, p3⟩ := put_heap (n := n) hn.hg D #[]
      have hfr : Frm S w [o] w' ([{ o with live := false, bs := [] }] ++ [⟨.slice (some ⟨g, 0, none⟩) (ddP none x).length c, [g], true, 1⟩]) := by
        rw [hw']
        exact put_frm hS hn.hb (fun x hx => by rw [List.mem_singleton.1 hx]) (.inl rfl) rfl rfl rfl p3 p2
      have hok := hfr.ok
      refine ⟨_, he, [{ o with live := false, bs := [] }, ⟨.slice (some ⟨g, 0, none⟩) (ddP none x).length c, [g], true, 1⟩], [_], out_row ⟨rfl, rfl⟩ (fun b hb => ?_) ?_, hfr, own_le rfl, rfl⟩
      · rw [List.mem_singleton.1 hb]
        exact ⟨by rw [hw']; exact Nat.lt_of_lt_of_le hlt p3, (hr.lt 0 o g rfl (by rw [hn.hb]; exact List.mem_singleton.2 rfl)).2⟩
      · refine ⟨rfl, rfl, Nat.one_pos, .inr ⟨g, c, putCells El.v 0 D cur, e, rfl, rfl, ?_, ?_, hn.hc, ?_, ?_, ?_⟩⟩
        · rw [hw']; exact p1
        · exact Nat.le_trans hle hn.hl
        · rw [putCells_size, hn.hs]; exact (Nat.mul_one _).symm
        · show RepL (α := List Int) (Rep NoX w' (okS S w' _) TK) (ddP none x) ((putCells El.v 0 D cur).toList.take ((ddP none x).length * 1))
          rw [Nat.mul_one, putCells_take D cur _ (by rw [hDs]; exact hle) (by rw [hDs, hn.hs]; exact hn.hl)]
          have := els_rep hok (D.toList.take (ddP none x).length)
          rw [hDt] at this
          exact this
        · rw [putCells_size]; exact hn.hf
  · cases h
end Go.Proofs.YtgelkklendpeoaaGreat.NameX
