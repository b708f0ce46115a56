import Derived.Test.YtgelkklendpeoaaGreatNameX
import Derived.Shelf.SlicesE.Clone
import Derived.Shelf.Spec.SlicesGrow
import Derived.Shelf.SlSortCmp.NoneTotal
import Derived.Shelf.Lays8
namespace Go.Proofs.YtgelkklendpeoaaGreat.NameX
open Go Go.RowKit Go.Sort Go.Lib Go.Proofs.YtgelkklendpeoaaGreat.AE
set_option maxRecDepth 100000
set_option linter.unusedVariables false
set_option linter.unusedSimpArgs false
abbrev TK : Ty := .slice (.int .u8)
/-- A row of tokens that is one's own. -/
structure NR (w : World) (o : Own) (l : List (List Int)) (g c : Nat) (cur : Array Value) (e : TypeId × Nat × Nat) : Prop where
  hv : o.v = .slice (some ⟨g, 0, none⟩) l.length c
  hb : o.bs = [g]
  hg : w.heap[g]? = some (.cells cur e.1 e.2)
  hl : l.length ≤ c
  hc : c ≤ maxLen
  hs : cur.size = c
  hf : e.2.1 = e.2.2 ∨ cur.size ≤ e.2.1
theorem row_cases {S : Nat → Prop} {w : World} {l : List (List Int)} {o : Own} (h : HR NoX S w [.row TK l] [o]) :
    o.live = true ∧ o.sz = 1 ∧ ((o.v = .slice none 0 0 ∧ l = [] ∧ o.bs = []) ∨ ∃ g c cur e, NR w o l g c cur e ∧ RepL (α := List Int) (Rep NoX w (okS S w [o]) TK) l (cur.toList.take l.length)) := by
  obtain ⟨h1, h2, h3, h4⟩ := h.obj 0 _ o rfl rfl
  refine ⟨h1, h2, ?_⟩
  rcases h4 with h4 | ⟨g, c, cur, e, k1, k2, k3, k4, k5, k6, k7, k8⟩
  · exact .inl h4
  · have e1 : l.length * Ty.size TK = l.length := Nat.mul_one _
    have e2 : c * Ty.size TK = c := Nat.mul_one _
    have k6' : cur.size = c := k6.trans e2
    have k7' : RepL (α := List Int) (Rep NoX w (okS S w [o]) TK) l (cur.toList.take l.length) := e1 ▸ k7
    exact .inr ⟨g, c, cur, e, ⟨k1, k2, k3, k4, k5, k6', k8⟩, k7'⟩
theorem els_of {w : World} {ok : Nat → Prop} : ∀ (l : List (List Int)) (cs : List Value), RepL (α := List Int) (Rep NoX w ok TK) l cs → (∀ x ∈ l, ∀ y ∈ x, 0 ≤ y ∧ y < 256) → ∃ d : List (El w ok), d.map El.d = l ∧ d.map El.v = cs
  | [], cs, h, _ => ⟨[], rfl, (show cs = [] from h).symm⟩
  | x :: l, cs, ⟨v1, v2, e, h1, h2⟩, hb => by
    obtain ⟨d, k1, k2⟩ := els_of l v2 h2 fun z hz => hb z (List.mem_cons_of_mem _ hz)
    have h1' := h1
    obtain ⟨A, c, ev, _⟩ := h1'
    subst ev
    refine ⟨⟨_, x, h1, hb x (List.mem_cons_self ..)⟩ :: d, ?_, ?_⟩
    · rw [List.map_cons, k1]
    · rw [List.map_cons, k2, e]; rfl
theorem els_rep {w W : World} {ok ok' : Nat → Prop} (hW : ∀ b, ok b → ok' b ∧ W.heap[b]? = w.heap[b]?) : ∀ d : List (El w ok), RepL (α := List Int) (Rep NoX W ok' TK) (d.map El.d) (d.map El.v)
  | [] => rfl
  | x :: d => ⟨[x.v], d.map El.v, rfl, Rep.mono NoX_ok hW _ _ _ x.r, els_rep hW d⟩
theorem holds_els {S : Nat → Prop} {w : World} {o : Own} {l : List (List Int)} {g c : Nat} {cur : Array Value} {e : TypeId × Nat × Nat} (h : NR w o l g c cur e) {d : List (El w (okS S w [o]))}
    (h1 : d.map El.d = l) (h2 : d.map El.v = cur.toList.take l.length) : Go.Sort.Holds El.v w g 0 d.toArray := by
  have hn : d.length = l.length := by rw [← h1, List.length_map]
  intro j hj
  have hj' : j < d.length := by simpa using hj
  have hjc : j < cur.size := by rw [h.hs]; have := h.hl; omega
  constructor
  · have e1 : (d.map El.v)[j]? = cur.toList[j]? := by rw [h2, List.getElem?_take, if_pos (by omega)]
    have e2 : (d.toArray)[j]! = d[j] := by rw [getElem!_pos _ j hj]; simp
    rw [e2]
    have e3 : cur[j]? = some (d[j]).v := by
      rw [← Array.getElem?_toList, ← e1, List.getElem?_map, List.getElem?_eq_getElem hj']
      rfl
    simp [World.cell?, h.hg, e3]
  · have hno := fr_no (n := cur.size) h.hf j hjc
    simp only [World.frozen?, h.hg, Nat.zero_add]
    simpa using hno
theorem putCells_size {w : World} {ok : Nat → Prop} (enc : El w ok → Value) (d : Array (El w ok)) (c : Array Value) : (putCells enc 0 d c).size = c.size := by simp [putCells]
theorem putCells_take {w : World} {ok : Nat → Prop} (d : Array (El w ok)) (c : Array Value) (n : Nat) (hn : n ≤ d.size) (hc : d.size ≤ c.size) : (putCells El.v 0 d c).toList.take n = (d.toList.take n).map El.v := by
  apply List.ext_getElem?
  intro j
  rw [List.getElem?_take, List.getElem?_map, List.getElem?_take]
  by_cases hj : j < n
  · rw [if_pos hj, if_pos hj]
    simp only [putCells, Array.getElem?_toList, Array.getElem?_mapIdx]
    rw [Array.getElem?_eq_getElem (show j < c.size by omega), Option.map_some, if_pos ⟨Nat.zero_le _, by omega⟩, Nat.sub_zero, getElem!_pos d j (by omega), Array.getElem?_eq_getElem (show j < d.size by omega)]
    rfl
  · rw [if_neg hj, if_neg hj]; rfl
/-- What the row's block holds, and the others, behind a walk through the row. -/
theorem put_heap {w w0 : World} {ok : Nat → Prop} {g n : Nat} {cur : Array Value} {e : TypeId × Nat × Nat} (hg : w.heap[g]? = some (.cells cur e.1 e.2)) (d : Array (El w0 ok)) (os : Array Obj) :
    (Go.Sort.grow (putRow El.v (Go.Sort.ahead w n) g 0 d) os).heap[g]? = some (.cells (putCells El.v 0 d cur) e.1 e.2) ∧
    (∀ b, b < w.heap.size → b ≠ g → (Go.Sort.grow (putRow El.v (Go.Sort.ahead w n) g 0 d) os).heap[b]? = w.heap[b]?) ∧ w.heap.size ≤ (Go.Sort.grow (putRow El.v (Go.Sort.ahead w n) g 0 d) os).heap.size := by
  have hlt : g < w.heap.size := (Array.getElem?_eq_some_iff.1 hg).1
  refine ⟨?_, fun b hb hne => ?_, ?_⟩
  · show (w.heap.modify g (onCells (putCells El.v 0 d)) ++ os)[g]? = _
    rw [Array.getElem?_append_left (by simpa using hlt), Array.getElem?_modify, if_pos rfl, hg]
    rfl
  · show (w.heap.modify g (onCells (putCells El.v 0 d)) ++ os)[b]? = _
    rw [Array.getElem?_append_left (by simpa using hb), Array.getElem?_modify, if_neg (Ne.symm hne)]
  · show w.heap.size ≤ (w.heap.modify g (onCells (putCells El.v 0 d)) ++ os).size
    simp
theorem put_frm {S : Nat → Prop} {w w' : World} {o on : Own} {g : Nat} {dead : List Own} (hS : ∀ b, w.heap.size ≤ b → S b) (hb : o.bs = [g]) (hd : ∀ x ∈ dead, x.bs = []) (hbn : on.bs = [g] ∨ on.bs = [w.heap.size]) (hos : w'.os = w.os) (ht : w'.tape = w.tape) (ho : w'.output = w.output) (hsz : w.heap.size ≤ w'.heap.size)
    (hk : ∀ b, b < w.heap.size → b ≠ g → w'.heap[b]? = w.heap[b]?) : Frm S w [o] w' (dead ++ [on]) := by
  have hin : ∀ x ∈ dead ++ [on], ∀ b ∈ x.bs, b = g ∨ b = w.heap.size := by
    intro x hx b hb'
    rcases List.mem_append.1 hx with h | h
    · rw [hd x h] at hb'; cases hb'
    · rw [List.mem_singleton.1 h] at hb'
      rcases hbn with h1 | h1 <;> rw [h1] at hb' <;> simp at hb'
      · exact .inl hb'
      · exact .inr hb'
  refine ⟨hos, ht, ho, hsz, fun b ⟨k1, k2, k3⟩ => ?_, fun i x b hi hb' => ?_, fun b hlt hn => ?_⟩
  · have hne : b ≠ g := fun h => k3 o (List.mem_singleton.2 rfl) (by rw [hb, h]; exact List.mem_singleton.2 rfl)
    refine ⟨⟨k1, by omega, fun x hx hbx => ?_⟩, hk b k2 hne⟩
    rcases hin x hx b hbx with h | h
    · exact hne h
    · omega
  · rcases hin x (List.mem_of_getElem? hi) b hb' with h | h
    · exact .inr ⟨0, o, rfl, by rw [hb, h]; exact List.mem_singleton.2 rfl⟩
    · exact .inl (by omega)
  · exact hk b hlt fun h => hn 0 o rfl (by rw [hb, h]; exact List.mem_singleton.2 rfl)
/-! slices.Clone -/
def fewT (l : List (List Int)) : Bool := decide (l.length ≤ 1000000)
def cloneR (l : List (List Int)) : Option (List (List Int)) := if fewT l then some l else none
theorem new_row {S : Nat → Prop} {w w' : World} {x : List (List Int)} {v' : Value} {news : List Value} {t : TypeId} (hS : ∀ b, w.heap.size ≤ b → S b) (ho : w'.ownsRow w.heap.size t 1 v' x.length news) (hb : Below w.heap.size w w')
    (hrs : RepL (α := List Int) (Rep NoX w (okS S w []) TK) x news) : ∃ own' vs', AE.Holds NoX S w' own' ⟨[.ref 0], [.row TK]⟩ x vs' ∧ Frm S w [] w' own' ∧
        (∀ (j : Nat) (o : Own), ([] : List Own)[j]? = some o → ∃ o' : Own, own'[j]? = some o' ∧ o'.v = o.v ∧ o'.sz = o.sz ∧ (o'.live = true → o.live = true)) ∧ v' = tupV vs' := by
  have key : ∀ on : Own, on.v = v' → (∀ b ∈ on.bs, w.heap.size ≤ b ∧ b < w'.heap.size) → ((∀ b, okS S w [] b → okS S w' [on] b ∧ w'.heap[b]? = w.heap[b]?) → OR NoX w' (okS S w' [on]) (.row TK x) on) → ∃ own' vs', AE.Holds NoX S w' own' ⟨[.ref 0], [.row TK]⟩ x vs' ∧ Frm S w [] w' own' ∧
        (∀ (j : Nat) (o : Own), ([] : List Own)[j]? = some o → ∃ o' : Own, own'[j]? = some o' ∧ o'.v = o.v ∧ o'.sz = o.sz ∧ (o'.live = true → o.live = true)) ∧ v' = tupV vs' := by
    intro on hv hbs hor
    have hok : ∀ b, okS S w [] b → okS S w' [on] b ∧ w'.heap[b]? = w.heap[b]? := fun b ⟨k1, k2, k3⟩ => ⟨⟨k1, by have := hb.size; omega, fun o' ho' hb' => by
      rw [List.mem_singleton.1 ho'] at hb'
      have := (hbs b hb').1
      omega⟩, hb.block b k2⟩
    refine ⟨[on], [v'], ⟨⟨rfl, fun i ob o' hob' ho' => ?_, fun i j oi oj b hi hj hbi _ => ?_, fun i o' b ho' hb' => ?_⟩, .cons ⟨on, rfl, fun _ => hv.symm⟩ .nil⟩, ⟨hb.os, hb.tape, hb.output, hb.size, hok, fun i o' b ho' hb' => ?_, fun b hb' _ => hb.block b hb'⟩, fun j o h => by simp at h, rfl⟩
    · cases i with
      | zero => cases hob'; cases ho'; exact hor hok
      | succ i => cases hob'
    · have h5 := (List.getElem?_eq_some_iff.1 hi).1
      have h6 := (List.getElem?_eq_some_iff.1 hj).1
      simp at h5 h6
      omega
    · cases i with
      | zero => cases ho'; exact ⟨(hbs b hb').2, hS b (hbs b hb').1⟩
      | succ i => cases ho'
    · cases i with
      | zero => cases ho'; exact .inl (hbs b hb').1
      | succ i => cases ho'
  rcases ho.2 with ⟨rfl, hn⟩ | ⟨g, cap, cur, rfl, hg, hh, hn, hm, hs, ht⟩
  · have hx : x = [] := List.eq_nil_of_length_eq_zero hn
    subst hx
    exact key ⟨.slice none 0 0, [], true, 1⟩ rfl (fun b hb => by cases hb) fun _ => ⟨rfl, rfl, Nat.one_pos, .inl ⟨rfl, rfl, rfl⟩⟩
  · refine key ⟨.slice (some ⟨g, 0, none⟩) x.length cap, [g], true, 1⟩ rfl (fun b hb => by rw [List.mem_singleton.1 hb]; exact ⟨hg, (Array.getElem?_eq_some_iff.1 hh).1⟩) fun hok => ⟨rfl, rfl, Nat.one_pos, .inr ⟨g, cap, cur, (t, 0, 0), rfl, rfl, hh, hn, hm, hs, ?_, .inl rfl⟩⟩
    show RepL (α := List Int) _ x (cur.toList.take (x.length * 1))
    rw [ht]
    exact RepL.imp (fun z vs hz => Rep.mono NoX_ok hok TK z vs hz) hrs
set_option maxRecDepth 100000 in
theorem Clone_zero (a : Addr) (c : Nat) (w : World) : Calls Tryz.prog 92 #[.slice (some a) 0 c] w fun e w' => e = .returned (.slice (some ⟨w.heap.size, 0, none⟩) 0 0) ∧ w' = w.alloc (.cells #[] 22) := by
  have q : ∀ (w : World) (a : Option Addr) (n c n' c' : Nat), (binOp .eql 41 (.slice a n c) (.slice none n' c')).run Tryz.prog w = .ok (.bool a.isNone) w := fun w a n c n' c' => Lib.run_eql_slice_nil w _ _ a n c n' c' Tryz.underlying41
  go_enter Tryz.func92, Tryz.ntmps92
  go_wp2
  go_ret
  exact ⟨rfl, rfl⟩
theorem CloneR_spec {x y : List (List Int)} (h : cloneR x = some y) : AE.Spec Tryz.prog NoX ⟨⟨[.dat (.slice TK)], []⟩, ⟨[.ref 0], [.row TK]⟩⟩ 92 x y := by
  simp only [cloneR] at h
  split at h
  · rename_i hx
    cases h
    simp only [fewT, decide_eq_true_eq] at hx
    intro S w own vals hS _ ⟨h1, h2⟩
    have h1' : HR NoX S w [] own := h1
    have h0 : own = [] := List.eq_nil_of_length_eq_zero h1'.len
    subst h0
    obtain ⟨v, rfl, h3⟩ := VRs.one (a := .sl TK x) h2
    have h3' : Rep NoX w (okS S w []) (.slice TK) x [v] := h3
    obtain ⟨A, c, e0, e1, e2, e3⟩ := h3'
    cases e0
    rcases e3 with rfl | ⟨b, off, cs, rfl, hbk, hcs, hrs⟩
    · cases A with
      | none =>
        refine Does.of_calls Tryz.func92 (by decide) rfl ((AnyE.slices_Clone_nil Tryz.laysCl 0 c w).mono fun e w' ⟨he, hw⟩ => ?_)
        subst hw
        exact ⟨_, he, new_row hS (World.ownsRow_nil _ _ 22 _) (Below.refl _ _) rfl⟩
      | some a =>
        refine Does.of_calls Tryz.func92 (by decide) rfl ((Clone_zero a c w).mono fun e w' ⟨he, hw⟩ => ?_)
        subst hw
        exact ⟨_, he, new_row hS (World.ownsRow_made w #[] 0 (Nat.le_refl _) (Nat.zero_le _) (by simp)) ((Below.refl _ w).alloc (Nat.le_refl _) _) rfl⟩
    · have hcl : cs.length = x.length := by
        have e := RepL.len (α := List Int) (s := 1) (fun z vs hz => Rep.len w _ TK z vs hz) hrs
        rw [Nat.mul_one] at e
        exact e
      have key := AnyE.slices_Clone Tryz.laysCl Tryz.t22 (.slice none 0 0) 1 24 (by kernel_rfl) (by kernel_rfl) (by kernel_rfl) (by kernel_rfl) rfl Nat.one_pos Tryz.sizeOf22 b off x.length c cs w (by rw [hcl, Nat.mul_one]) (by unfold maxLen; omega) (by omega) (fun j u hu => hcs j u hu) (RepL.one (fun z vs hz => Rep.one NoX_ok TK z vs hz) hrs)
      refine Does.of_calls Tryz.func92 (by decide) rfl (key.mono fun e w' ⟨v', he, ho, hne, hb⟩ => ?_)
      exact ⟨v', he, new_row hS ho hb hrs⟩
  · cases h
/-! slices.Grow, of a row of nothing. -/
theorem out_row {S : Nat → Prop} {w' : World} {od on : Own} {y : List (List Int)} (hod : od.live = false ∧ od.bs = []) (hl : ∀ b ∈ on.bs, b < w'.heap.size ∧ S b) (hor : OR NoX w' (okS S w' [od, on]) (.row TK y) on) :
    AE.Holds NoX S w' [od, on] ⟨[.ref 1], [.dead, .row TK]⟩ y [on.v] := by
  refine ⟨⟨rfl, fun i ob o' hob' ho' => ?_, fun i j oi oj b hi hj hbi hbj => ?_, fun i o' b ho' hb' => ?_⟩, .cons ⟨on, rfl, fun _ => rfl⟩ .nil⟩
  · match i, hob', ho' with
    | 0, h1, h2 => cases h1; cases h2; exact hod
    | 1, h1, h2 => cases h1; cases h2; exact hor
    | n + 2, h1, h2 => cases h1
  · match i, j, hi, hj with
    | 0, _, h1, _ => cases h1; rw [hod.2] at hbi; cases hbi
    | 1, 0, _, h2 => cases h2; rw [hod.2] at hbj; cases hbj
    | 1, 1, _, _ => rfl
    | n + 2, _, h1, _ => cases h1
    | 1, n + 2, _, h2 => cases h2
  · match i, ho' with
    | 0, h1 => cases h1; rw [hod.2] at hb'; cases hb'
    | 1, h1 => cases h1; exact hl b hb'
    | n + 2, h1 => cases h1
theorem own_le {o od on : Own} (h : od = { o with live := false, bs := [] }) : ∀ (j : Nat) (p : Own), [o][j]? = some p → ∃ o' : Own, [od, on][j]? = some o' ∧ o'.v = p.v ∧ o'.sz = p.sz ∧ (o'.live = true → p.live = true) := by
  intro j p hp
  cases j with
  | zero => cases hp; exact ⟨od, rfl, by rw [h], by rw [h], by rw [h]; intro h; cases h⟩
  | succ j => cases hp
def growR (x : Int × List (List Int)) : Option (List (List Int)) :=
  match x.2 with
  | [] => if decide (0 ≤ x.1 ∧ x.1 ≤ 1000000) then some [] else none
  | _ :: _ => none
theorem GrowR_spec {x : Int × List (List Int)} {y : List (List Int)} (h : growR x = some y) : AE.Spec Tryz.prog NoX ⟨⟨[.ref 0, .dat (.int .i64)], [.row TK]⟩, ⟨[.ref 1], [.dead, .row TK]⟩⟩ 97 x y := by
  obtain ⟨ni, l⟩ := x
  cases l with
  | cons a l => cases h
  | nil =>
    simp only [growR] at h
    split at h
    · rename_i hc
      cases h
      simp only [decide_eq_true_eq] at hc
      obtain ⟨c1, c2⟩ := hc
      obtain ⟨n, rfl⟩ : ∃ n : Nat, ni = n := ⟨ni.toNat, by omega⟩
      intro S w own vals hS hI ⟨h1, h2⟩
      have hr : HR NoX S w [.row TK []] own := h1
      have hlen : own.length = 1 := hr.len
      obtain ⟨o, rfl⟩ : ∃ o, own = [o] := by
        match own, hlen with
        | [o], _ => exact ⟨o, rfl⟩
      obtain ⟨v0, v1, rfl, g0, g1⟩ := VRs.two (a := .ref 0) (b := .int .i64 n) h2
      obtain rfl : v1 = .int .i64 n := g1
      obtain ⟨o', ho', hv⟩ := g0
      cases ho'
      obtain ⟨q1, q2, q3⟩ := row_cases hr
      have hv := hv q1
      subst hv
      -- what lies there
      obtain ⟨base, c, cs, ev, hcm, hcl, hnil, hcs, hbs⟩ : ∃ (base : Option Addr) (c : Nat) (cs : List Value), o.v = .slice base 0 c ∧ c ≤ maxLen ∧ cs.length = c * 1 ∧ (base = none → c = 0) ∧ (∀ a, base = some a → ∀ j v, cs[j]? = some v → w.cell? (a.add j) = some v) ∧
          (o.bs = [] ∧ base = none ∨ ∃ g, base = some ⟨g, 0, none⟩ ∧ o.bs = [g]) := by
        rcases q3 with ⟨e1, _, e2⟩ | ⟨g, c, cur, e, hn, _⟩
        · exact ⟨none, 0, [], e1, Nat.zero_le _, rfl, fun _ => rfl, fun a h => by (cases h), .inl ⟨e2, rfl⟩⟩
        · refine ⟨_, c, cur.toList, hn.hv, hn.hc, by rw [Array.length_toList, hn.hs, Nat.mul_one], fun h => by (cases h), fun a ha j v hj => ?_, .inr ⟨g, rfl, hn.hb⟩⟩
          cases ha
          rw [add_lit0]
          have e3 : cur[j]? = some v := by rw [← Array.getElem?_toList]; exact hj
          simp [World.cell?, hn.hg, e3]
      have hbS : ∀ b ∈ o.bs, b < w.heap.size ∧ S b := fun b hb => hr.lt 0 o b rfl hb
      have hor0 := hr.obj 0 _ o rfl rfl
      rw [ev]
      by_cases hroom : n ≤ c
      · have key := Any8.slices_Grow_room Tryz.laysGr base 0 c n w (Nat.zero_le _) (by unfold maxLen at hcm; omega) (by omega) (by omega)
        refine Does.of_calls Tryz.func97 (by decide) rfl (key.mono fun e w' ⟨he, hw⟩ => ?_)
        subst hw
        refine ⟨_, he, [{ o with live := false, bs := [] }, o], [o.v], out_row ⟨rfl, rfl⟩ hbS ?_, ⟨rfl, rfl, rfl, Nat.le_refl _, fun b ⟨k1, k2, k3⟩ => ⟨⟨k1, k2, fun x hx => ?_⟩, rfl⟩, fun i x b hi hb => ?_, fun b _ _ => rfl⟩, own_le rfl, by rw [ev]; rfl⟩
        · obtain ⟨p1, p2, p3, p4⟩ := hor0
          refine ⟨p1, p2, p3, p4.imp id fun ⟨g, c, cur, e, r1, r2, r3, r4, r5, r6, r7, r8⟩ => ⟨g, c, cur, e, r1, r2, r3, r4, r5, r6, r7, r8⟩⟩
        · rcases List.mem_cons.1 hx with rfl | hx
          · simp
          · exact k3 x hx
        · match i, hi with
          | 0, h1 => cases h1; cases hb
          | 1, h1 => cases h1; exact .inr ⟨0, o, rfl, hb⟩
          | n + 2, h1 => cases h1
      · have key := Any8.slices_Grow_grow Tryz.laysGr Tryz.t22 (.slice none 0 0) (by kernel_rfl) (by kernel_rfl) (by decide) base 0 c n cs w (Nat.zero_le _) (by omega) (by show (0 + n) * 24 ≤ _; omega) (by omega) hcl hnil hcs
        refine Does.of_calls Tryz.func97 (by decide) rfl (key.mono fun e w' ⟨he, hw⟩ => ?_)
        have hge := grownCap_ge w (0 + n) c 22
        have hle := grownCap_le_maxLen w (0 + n) c 22 (by unfold maxLen; omega)
        subst hw
        have hbel : Below w.heap.size w (w.drew.alloc (.cells (cs.toArray ++ Builtin.zeroCells (Value.slice none 0 0).cells (0 + n - c) ++ Builtin.zeroCells (Value.slice none 0 0).cells (grownCap w (0 + n) c 22 - (0 + n))) 22)) :=
          Below.alloc (⟨rfl, rfl, rfl, Nat.le_refl _, fun b _ => rfl⟩ : Below w.heap.size w w.drew) (Nat.le_refl _) _
        have hh : (w.drew.alloc (.cells (cs.toArray ++ Builtin.zeroCells (Value.slice none 0 0).cells (0 + n - c) ++ Builtin.zeroCells (Value.slice none 0 0).cells (grownCap w (0 + n) c 22 - (0 + n))) 22)).heap[w.heap.size]? = some (.cells (cs.toArray ++ Builtin.zeroCells (Value.slice none 0 0).cells (0 + n - c) ++ Builtin.zeroCells (Value.slice none 0 0).cells (grownCap w (0 + n) c 22 - (0 + n))) 22) := by
          show (w.heap.push _)[w.heap.size]? = _
          simp
        refine ⟨_, he, [{ o with live := false, bs := [] }, ⟨.slice (some ⟨w.heap.size, 0, none⟩) 0 (grownCap w (0 + n) c 22), [w.heap.size], true, 1⟩], [_], out_row ⟨rfl, rfl⟩ (fun b hb => ?_) ?_, ⟨hbel.os, hbel.tape, hbel.output, hbel.size, fun b ⟨k1, k2, k3⟩ => ⟨⟨k1, Nat.lt_of_lt_of_le k2 hbel.size, fun x hx => ?_⟩, hbel.block b k2⟩, fun i x b hi hb => ?_, fun b hb' _ => hbel.block b hb'⟩, own_le rfl, rfl⟩
        · rw [List.mem_singleton.1 hb]
          exact ⟨(Array.getElem?_eq_some_iff.1 hh).1, hS _ (Nat.le_refl _)⟩
        · refine ⟨rfl, rfl, Nat.one_pos, .inr ⟨w.heap.size, grownCap w (0 + n) c 22, _, (22, 0, 0), rfl, rfl, hh, Nat.zero_le _, hle, ?_, ?_, .inl rfl⟩⟩
          · rw [show grownCap w (0 + n) c 22 * Ty.size TK = grownCap w (0 + n) c 22 from Nat.mul_one _]
            simp only [Array.size_append, List.size_toArray, size_zeroCells, hcl]
            show c * 1 + (0 + n - c) * 1 + (grownCap w (0 + n) c 22 - (0 + n)) * 1 = _
            omega
          · show RepL (α := List Int) _ [] (List.take (0 * 1) _)
            simp [RepL]
        · rcases List.mem_cons.1 hx with rfl | hx
          · simp
          · rw [List.mem_singleton.1 hx]
            simp
            omega
        · match i, hi with
          | 0, h1 => cases h1; cases hb
          | 1, h1 => cases h1; rw [List.mem_singleton.1 hb]; exact .inl (Nat.le_refl _)
          | n + 2, h1 => cases h1
    · cases h
/-! How tokens are ordered. -/
theorem cmpL_refl : ∀ a : List Int, cmpL a a = 0
  | [] => rfl
  | a :: xs => by rw [cmpL, if_neg (by omega), if_neg (by omega)]; exact cmpL_refl xs
theorem cmpL_neg : ∀ a b : List Int, cmpL b a = - cmpL a b
  | [], [] => rfl
  | [], _ :: _ => rfl
  | _ :: _, [] => rfl
  | a :: xs, b :: ys => by
    rw [cmpL, cmpL, cmpL_neg xs ys]
    by_cases h1 : a < b
    · rw [if_neg (by omega), if_pos h1, if_pos h1]; rfl
    · by_cases h2 : b < a
      · rw [if_pos h2, if_neg h1, if_pos h2]
      · rw [if_neg h2, if_neg h1, if_neg h1, if_neg h2]
theorem cmpL_zero : ∀ {a b : List Int}, cmpL a b = 0 → a = b
  | [], [], _ => rfl
  | [], _ :: _, h => by simp [cmpL] at h
  | _ :: _, [], h => by simp [cmpL] at h
  | a :: xs, b :: ys, h => by
    rw [cmpL] at h
    by_cases h1 : a < b
    · rw [if_pos h1] at h; omega
    · by_cases h2 : b < a
      · rw [if_neg h1, if_pos h2] at h; omega
      · rw [if_neg h1, if_neg h2] at h
        rw [cmpL_zero h, show a = b by omega]
theorem cmpL_trans : ∀ {a b c : List Int}, cmpL a b < 0 → cmpL b c < 0 → cmpL a c < 0
  | [], _, [], h, k => by
    rename_i b
    cases b with
    | nil => exact h
    | cons b ys => simp [cmpL] at k
  | [], _, _ :: _, _, _ => by simp [cmpL]
  | _ :: _, [], _, h, _ => by simp [cmpL] at h
  | _ :: _, _ :: _, [], _, k => by simp [cmpL] at k
  | a :: xs, b :: ys, c :: zs, h, k => by
    rw [cmpL] at h k ⊢
    by_cases h1 : a < b
    · by_cases h2 : b < c
      · rw [if_pos (by omega)]; omega
      · by_cases h3 : c < b
        · rw [if_neg h2, if_pos h3] at k; omega
        · rw [if_pos (by omega)]; omega
    · by_cases h2 : b < a
      · rw [if_neg h1, if_pos h2] at h; omega
      · rw [if_neg h1, if_neg h2] at h
        by_cases h3 : b < c
        · rw [if_pos (by omega)]; omega
        · by_cases h4 : c < b
          · rw [if_neg h3, if_pos h4] at k; omega
          · rw [if_neg h3, if_neg h4] at k
            rw [if_neg (by omega), if_neg (by omega)]
            exact cmpL_trans h k
theorem cmpL_le {a b c : List Int} (h : cmpL a b ≤ 0) (k : cmpL b c ≤ 0) : cmpL a c ≤ 0 := by
  by_cases h1 : cmpL a b = 0
  · rw [cmpL_zero h1]; exact k
  · by_cases h2 : cmpL b c = 0
    · rw [← cmpL_zero h2]; exact h
    · have := cmpL_trans (a := a) (b := b) (c := c) (by omega) (by omega)
      omega
theorem swo_cmp {w : World} {ok : Nat → Prop} : SWO (ltOf fun x y : El w ok => cmpL x.d y.d) where
  irrefl x := by simp [ltOf, cmpL_refl]
  trans x y z h k := by
    simp only [ltOf, decide_eq_true_eq] at *
    exact cmpL_trans h k
  ntrans x y z h k := by
    simp only [ltOf, decide_eq_false_iff_not, Int.not_lt] at *
    rw [cmpL_neg] at h k ⊢
    have := cmpL_le (a := z.d) (b := y.d) (c := x.d) (by omega) (by omega)
    omega
def insT (x : List Int) : List (List Int) → List (List Int)
  | [] => [x]
  | y :: l => if cmpL x y ≤ 0 then x :: y :: l else y :: insT x l
def isort : List (List Int) → List (List Int)
  | [] => []
  | x :: l => insT x (isort l)
def Srt (l : List (List Int)) : Prop := l.Pairwise fun a b => cmpL a b ≤ 0
theorem insT_perm (x : List Int) : ∀ l, (insT x l).Perm (x :: l)
  | [] => .refl _
  | y :: l => by
    rw [insT]
    split
    · exact .refl _
    · exact ((insT_perm x l).cons y).trans (.swap ..)
theorem isort_perm : ∀ l, (isort l).Perm l
  | [] => .refl _
  | x :: l => (insT_perm x _).trans ((isort_perm l).cons x)
theorem insT_srt (x : List Int) : ∀ l, Srt l → Srt (insT x l)
  | [], _ => List.pairwise_singleton _ _
  | y :: l, h => by
    have h' := List.pairwise_cons.1 h
    rw [insT]
    split
    · rename_i hxy
      refine List.pairwise_cons.2 ⟨fun z hz => ?_, h⟩
      rcases List.mem_cons.1 hz with rfl | hz
      · exact hxy
      · exact cmpL_le hxy (h'.1 z hz)
    · rename_i hxy
      refine List.pairwise_cons.2 ⟨fun z hz => ?_, insT_srt x l h'.2⟩
      rcases List.mem_cons.1 ((insT_perm x l).mem_iff.1 hz) with rfl | hz
      · rw [cmpL_neg]; omega
      · exact h'.1 z hz
theorem isort_srt : ∀ l, Srt (isort l)
  | [] => List.Pairwise.nil
  | x :: l => insT_srt x _ (isort_srt l)
theorem srt_uniq : ∀ {a b : List (List Int)}, Srt a → Srt b → a.Perm b → a = b
  | [], b, _, _, h => (List.Perm.nil_eq h)
  | x :: a, [], _, _, h => absurd h.length_eq (by simp)
  | x :: a, y :: b, ha, hb, h => by
    have ha' := List.pairwise_cons.1 ha
    have hb' := List.pairwise_cons.1 hb
    have e : x = y := by
      rcases List.mem_cons.1 (h.mem_iff.1 (List.mem_cons_self ..)) with e | h1
      · exact e
      · rcases List.mem_cons.1 (h.mem_iff.2 (List.mem_cons_self ..)) with e | h2
        · exact e.symm
        · have k1 := ha'.1 y h2
          have k2 := hb'.1 x h1
          rw [cmpL_neg] at k2
          exact cmpL_zero (by omega)
    subst e
    rw [srt_uniq ha'.2 hb'.2 ((List.perm_cons x).1 h)]
def sortR (l : List (List Int)) : Option (List (List Int)) := if fewT l && l.all isBs then some (isort l) else none
theorem bytes_all {l : List (List Int)} (h : l.all isBs = true) : ∀ x ∈ l, ∀ y ∈ x, 0 ≤ y ∧ y < 256 := fun x hx => isBs_iff.1 (List.all_eq_true.1 h x hx)
theorem SortR_spec {x y : List (List Int)} (h : sortR x = some y) : AE.Spec Tryz.prog NoX ⟨⟨[.ref 0, .fnc 94 []], [.row TK]⟩, ⟨[], [.row TK]⟩⟩ 93 x y := by
  simp only [sortR] at h
  split at h
  · rename_i hc
    cases h
    simp only [fewT, Bool.and_eq_true, decide_eq_true_eq] at hc
    obtain ⟨c1, c2⟩ := hc
    intro S w own vals hS hI ⟨h1, h2⟩
    have hr : HR NoX S w [.row TK x] own := h1
    have hlen : own.length = 1 := hr.len
    obtain ⟨o, rfl⟩ : ∃ o, own = [o] := by
      match own, hlen with
      | [o], _ => exact ⟨o, rfl⟩
    obtain ⟨v0, v1, rfl, g0, g1⟩ := VRs.two (a := .ref 0) (b := .fn 94 []) h2
    obtain ⟨vs, rfl, e0, _⟩ := g1
    obtain rfl : vs = [] := List.eq_nil_of_length_eq_zero e0
    obtain ⟨o', ho', hv⟩ := g0
    cases ho'
    obtain ⟨q1, q2, q3⟩ := row_cases hr
    have hv := hv q1
    subst hv
    rcases q3 with ⟨e1, rfl, e2⟩ | ⟨g, c, cur, e, hn, hrep⟩
    · rw [e1]
      refine Does.of_calls Tryz.func93 (by decide) rfl ((AnyF.slices_SortFunc_none (P := Tryz.prog) (ρ := Tryz.laysSo_ren) { Tryz.laysSo with } none 0 _ w).mono fun e w' ⟨he, hw⟩ => ?_)
      subst hw
      exact ⟨_, he, [o], [], ⟨hr, .nil⟩, Frm.refl .., fun j o' ho' => ⟨o', ho', rfl, rfl, id⟩, rfl⟩
    · obtain ⟨d, d1, d2⟩ := els_of x _ hrep (bytes_all c2)
      have hsz : d.length = x.length := by rw [← d1, List.length_map]
      have hH := holds_els hn d1 d2
      have hlt : g < w.heap.size := (Array.getElem?_eq_some_iff.1 hn.hg).1
      have hnk : ∀ b, okS S w [o] b → b ≠ g := fun b hb h => hb.2.2 o (List.mem_singleton.2 rfl) (by rw [hn.hb, h]; exact List.mem_singleton.2 rfl)
      have hcmp : CmpLays1 Tryz.prog 94 #[] El.v (fun x y : El w (okS S w [o]) => cmpL x.d y.d) g 0 d.toArray.size w := fun m os dk _ x y => by
        obtain ⟨_, p2, _⟩ := put_heap (n := m) hn.hg dk os
        refine (Cmp_calls (W := sortWorld El.v w g 0 m dk os) (fun b hb => p2 b hb.2.1 (hnk b hb)) x y).mono fun e w' ⟨he, hw⟩ => ⟨he, 0, #[], ?_⟩
        rw [hw, grow_empty]
        rfl
      have key := Any.slices_SortFunc Tryz.laysSo El.v El.one (fun x y : El w (okS S w [o]) => cmpL x.d y.d) swo_cmp 94 #[] g 0 c d.toArray w (enters_of Tryz.func94 (by kernel_rfl) rfl) hcmp hH hlt (by simp; omega)
      rw [hn.hv, ← hsz]
      have key' : Calls Tryz.prog 93 #[.slice (some ⟨g, 0, none⟩) d.length c, .func (.func 94) #[] #[]] w _ := key
      refine Does.of_calls Tryz.func93 (by decide) rfl (key'.mono fun e1 w' ⟨he, d', n, os, hp, hs, hw⟩ => ?_)
      have hd' : d'.size = d.length := by have := hp.1; simpa using this
      have hperm : d'.toList.Perm d := by
        have := hp.2.2
        rw [show d.toArray.size = d'.size by rw [hd']; simp] at this
        rw [Array.extract_size] at this
        rw [show d'.size = d.toArray.size by rw [hd']; simp, Array.extract_size] at this
        exact this
      have hdata : d'.toList.map El.d = isort x := by
        refine srt_uniq ?_ (isort_srt x) (((hperm.map El.d).trans (by rw [d1])).trans (isort_perm x).symm)
        refine List.pairwise_map.2 (List.pairwise_iff_getElem.2 fun i j hi hj hij => ?_)
        have h5 := hs i j (Nat.zero_le _) hij (by have : j < d'.size := by simpa using hj
                                                  simp; omega)
        rw [getElem!_pos d' i (by simpa using hi), getElem!_pos d' j (by simpa using hj)] at h5
        simp only [ltOf, decide_eq_false_iff_not, Int.not_lt] at h5
        rw [cmpL_neg] at h5
        simp only [Array.getElem_toList]
        omega
      obtain ⟨p1, p2, p3⟩ := put_heap (n := n) hn.hg d' os
      have hfr : Frm S w [o] w' ([] ++ [o]) := by
        rw [hw]
        exact put_frm hS hn.hb (fun x hx => by cases hx) (.inl hn.hb) rfl rfl rfl p3 p2
      have hok := hfr.ok
      refine ⟨_, he, [o], [], ⟨⟨rfl, fun i ob o' hob ho' => ?_, fun i j oi oj b hi hj _ _ => ?_, fun i o' b ho' hb' => ?_⟩, .nil⟩, hfr, fun j o' ho' => ⟨o', ho', rfl, rfl, id⟩, rfl⟩
      · cases i with
        | zero =>
          cases hob; cases ho'
          have hlen' : (isort x).length = x.length := (isort_perm x).length_eq
          refine ⟨q1, q2, Nat.one_pos, .inr ⟨g, c, putCells El.v 0 d' cur, e, ?_, hn.hb, ?_, ?_, hn.hc, ?_, ?_, ?_⟩⟩
          · rw [hn.hv, ← hlen']; rfl
          · rw [hw]; exact p1
          · exact hlen'.symm ▸ hn.hl
          · rw [putCells_size, hn.hs]; exact (Nat.mul_one _).symm
          · show RepL (α := List Int) (Rep NoX w' (okS S w' [o]) TK) (isort x) ((putCells El.v 0 d' cur).toList.take ((isort x).length * 1))
            have hle : d'.size ≤ cur.size := by rw [hd', hsz, hn.hs]; exact hn.hl
            rw [Nat.mul_one, hlen', ← hsz, ← hd', putCells_take d' cur d'.size (Nat.le_refl _) hle, List.take_of_length_le (by simp), ← hdata]
            exact els_rep hok d'.toList
          · rw [putCells_size]; exact hn.hf
        | succ i => cases hob
      · have h5 := (List.getElem?_eq_some_iff.1 hi).1
        have h6 := (List.getElem?_eq_some_iff.1 hj).1
        simp at h5 h6
        omega
      · cases i with
        | zero =>
          cases ho'
          rw [hn.hb] at hb'
          rw [List.mem_singleton.1 hb']
          exact ⟨by rw [hw]; exact Nat.lt_of_lt_of_le hlt p3, (hr.lt 0 o g rfl (by rw [hn.hb]; exact List.mem_singleton.2 rfl)).2⟩
        | succ i => cases ho'
  · cases h
end Go.Proofs.YtgelkklendpeoaaGreat.NameX
