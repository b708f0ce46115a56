/- An evaluator of programs, and that its answers are those of the calls. By hand. -/
import Derived.Test.YtgelkklendpeoaaGreatAeM
import Derived.Orders
import Derived.Conc.MuLone
import Derived.ChangeSlices
import Derived.ChangeShapes
import Derived.Below
namespace Go.Proofs.YtgelkklendpeoaaGreat.AE
set_option linter.unusedVariables false
set_option linter.unusedSimpArgs false
open Go
set_option linter.unusedVariables false
set_option linter.unusedSimpArgs false

section
variable {X : ExtRep} {S : Nat → Prop} {P : Program} {E : Env} {w : World} {own : List Own}
theorem ownSub_bs (own : List Own) : ∀ (ts : List OT) (σ : List Nat) (j : Nat) (o' : Own) (b : Nat), (ownSub own ts σ)[j]? = some o' → b ∈ o'.bs → ∃ (i : Nat) (o : Own), σ[j]? = some i ∧ own[i]? = some o ∧ b ∈ o.bs ∧ o' = o
  | [], σ, j, o', b, h, hb => by cases σ <;> simp [ownSub] at h
  | t :: ts, [], j, o', b, h, hb => by cases t <;> simp [ownSub] at h
  | t :: ts, i0 :: σ, 0, o', b, h, hb => by
    cases ho : own[i0]? with
    | none => cases t <;> simp [ownSub, ho] at h <;> subst h <;> simp at hb
    | some o =>
      cases t <;> simp [ownSub, ho] at h <;> subst h
      · simp at hb
      · exact ⟨i0, o, rfl, ho, hb, rfl⟩
      · exact ⟨i0, o, rfl, ho, hb, rfl⟩
      · exact ⟨i0, o, rfl, ho, hb, rfl⟩
      · exact ⟨i0, o, rfl, ho, hb, rfl⟩
  | t :: ts, i0 :: σ, j + 1, o', b, h, hb => by
    have h' : (ownSub own ts σ)[j]? = some o' := by cases t <;> simpa [ownSub] using h
    obtain ⟨i, o, h1, h2⟩ := ownSub_bs own ts σ j o' b h' hb
    exact ⟨i, o, by simpa using h1, h2⟩
theorem ownSub_dead (own : List Own) : ∀ (ts : List OT) (σ : List Nat) (j : Nat) (o' : Own), (ownSub own ts σ)[j]? = some o' → ts[j]? = some .dead → o'.live = false ∧ o'.bs = []
  | [], σ, j, o', h, _ => by cases σ <;> simp [ownSub] at h
  | t :: ts, [], j, o', h, _ => by cases t <;> simp [ownSub] at h
  | t :: ts, i0 :: σ, 0, o', h, ht => by
    simp at ht; subst ht
    cases ho : own[i0]? with
    | none => simp [ownSub, ho] at h; subst h; exact ⟨rfl, rfl⟩
    | some o => simp [ownSub, ho] at h; subst h; exact ⟨rfl, rfl⟩
  | t :: ts, i0 :: σ, j + 1, o', h, ht => ownSub_dead own ts σ j o' (by cases t <;> simpa [ownSub] using h) (by simpa using ht)
def Distinct (σ : List Nat) : Prop := ∀ j j' i : Nat, σ[j]? = some i → σ[j']? = some i → j = j'
theorem sub_ok {ts : List OT} {σ : List Nat} {b : Nat} (h : okS S w own b) : okS S w (ownSub own ts σ) b := by
  refine ⟨h.1, h.2.1, fun o ho hb => ?_⟩
  obtain ⟨j, hj⟩ := List.mem_iff_getElem?.1 ho
  obtain ⟨i, oi, _, h2, h3, _⟩ := ownSub_bs own ts σ j o b hj hb
  exact h.2.2 oi (List.mem_of_getElem? h2) h3
theorem sub_HR (hX : X.OK) {os : List Ob} (h : HR X S w os own) {ts : List OT} {σ : List Nat} {p : Prods (objTys ts)} (hp : readObjs os ts σ = some p) (hd : Distinct σ) {S' : Nat → Prop} (hS' : ∀ (j i : Nat) (o : Own) (b : Nat), σ[j]? = some i → own[i]? = some o → b ∈ o.bs → S' b)
    (hok : ∀ b, okS S w own b → okS S' w (ownSub own ts σ) b) : HR X S' w (putObjs ts p) (ownSub own ts σ) := by
  obtain ⟨a1, a2, a3⟩ := readObjs_spec ts σ p hp
  have hl := ownSub_len own ts σ a1
  refine ⟨by rw [hl, a2], ?_, ?_, ?_⟩
  · intro j ob o' hob ho'
    have hj : j < σ.length := by rw [← a1, ← hl]; exact (List.getElem?_eq_some_iff.1 ho').1
    have hσ : σ[j]? = some σ[j] := List.getElem?_eq_getElem hj
    rcases a3 j ob _ hob hσ with ⟨h1, rfl⟩ | ⟨h1, h2⟩
    · exact ownSub_dead own ts σ j o' ho' h1
    · obtain ⟨o, ho, hor⟩ := h.at h2
      obtain ⟨o2, b1, _, _, _, _, b2, _⟩ := ownSub_get own ts σ j _ o a1 hσ ho
      rw [ho'] at b1; cases b1
      rw [b2 h1]
      exact OR.mono hX (fun b hb => ⟨hok b hb, rfl⟩) _ _ (fun _ _ => rfl) hor
  · intro j j' oj oj' b hj hj' hb hb'
    obtain ⟨i, o, c1, c2, c3, _⟩ := ownSub_bs own ts σ j oj b hj hb
    obtain ⟨i', o', d1, d2, d3, _⟩ := ownSub_bs own ts σ j' oj' b hj' hb'
    have := h.dis i i' o o' b c2 d2 c3 d3
    subst this
    exact hd j j' i c1 d1
  · intro j o' b hj hb
    obtain ⟨i, o, c1, c2, c3, _⟩ := ownSub_bs own ts σ j o' b hj hb
    exact ⟨(h.lt i o b c2 c3).1, hS' j i o b c1 c2 c3⟩
theorem sub_Frm {ts : List OT} {σ : List Nat} : Frm S w own w (ownSub own ts σ) :=
  ⟨rfl, rfl, rfl, Nat.le_refl _, fun b hb => ⟨sub_ok hb, rfl⟩, fun j o b hj hb => by
    obtain ⟨i, oi, _, h2, h3, _⟩ := ownSub_bs own ts σ j o b hj hb
    exact .inr ⟨i, oi, h2, h3⟩, fun _ _ _ => rfl⟩
theorem joined_of {os : List Ob} {T : Ty} {x : T.den} {av : AV} {v : Value} {ok : Nat → Prop} (h : readDat os T av = some x) (hv : VR X w ok own av v) (hr : Rep X w ok T x v.cells.toList ∨ True) (hone : T.isAgg = false → v.cells.toList = [v]) : joined T v.cells.toList = v := by
  unfold joined
  cases hT : T.isAgg with
  | false => rw [hone hT]; rfl
  | true =>
    cases T <;> simp only [Ty.isAgg, Bool.false_eq_true] at hT <;> cases av <;> simp only [readDat, reduceCtorEq] at h <;> (obtain ⟨_, cs, rfl, _⟩ := hv; simp [Value.cells])
/-- Data that is handed on. -/
theorem dat_VR (hX : X.OK) {os : List Ob} (h : HR X S w os own) {ok' : Nat → Prop} {own' : List Own} (hok : ∀ b, okS S w own b → ok' b) {T : Ty} {x : T.den} {av : AV} {v : Value} (hx : readDat os T av = some x) (hv : VR X w (okS S w own) own av v)
    (hlent : ∀ (i : Nat) (e : Ty) (l : List e.den) (o : Own) (g : Nat), av = .ref i → Ob.get os i = .row e l → own[i]? = some o → g ∈ o.bs → ok' g) : VR X w ok' own' (inject T x) v := by
  have hrep : Rep X w ok' T x v.cells.toList := by
    by_cases hc : ∃ (i : Nat) (e : Ty) (l : List e.den), av = .ref i ∧ Ob.get os i = .row e l
    · obtain ⟨i, e, l, rfl, hg⟩ := hc
      cases T <;> simp only [readDat, reduceCtorEq] at hx
      rename_i e2
      rw [hg] at hx
      obtain ⟨e1, e3⟩ := castTo_some hx
      cases e1; cases e3
      obtain ⟨o, ho, hor⟩ := h.at (Ob.get_of hg (by simp))
      obtain ⟨o2, ho2, hv2⟩ := hv
      rw [ho] at ho2; cases ho2
      obtain ⟨p1, p2, p3, p4⟩ := hor
      rw [hv2 p1]
      rcases p4 with ⟨q1, rfl, _⟩ | ⟨g, c, cur, e, q1, q2, q3, q4, q5, q6, q7⟩
      · rw [q1]; exact ⟨none, 0, rfl, Nat.le_refl _, by simp, .inl rfl⟩
      · rw [q1]
        exact ⟨_, c, rfl, q4, q5, .inr ⟨g, 0, _, rfl, hlent i _ _ o g rfl hg ho (by rw [q2]; simp), CellsAt.of_row q3 _, q7.1.imp (Rep.mono hX (fun b hb => ⟨hok b hb, rfl⟩) _)⟩⟩
    · exact Rep.mono hX (fun b hb => ⟨hok b hb, rfl⟩) _ _ _ (readDat_rep hX h hx hv (fun i e l h1 h2 => hc ⟨i, e, l, h1, h2⟩))
  have hone : T.isAgg = false → v.cells.toList = [v] := by
    intro hT
    have hl := Rep.len w ok' _ _ _ hrep
    have h1 := Rep.one hX _ _ _ hrep
    have hs : T.size = 1 := by cases T <;> simp_all [Ty.isAgg, Ty.size]
    rw [hs] at hl
    cases v <;> first | rfl | skip
    rename_i cs
    -- an aggregate is of an aggregate's type only
    exfalso
    cases T
    case slice e =>
      obtain ⟨A, c, ev, _⟩ := readDat_row h hx hv
      cases ev
    all_goals simp only [Ty.isAgg, reduceCtorEq] at hT
    all_goals cases av <;> simp only [readDat, reduceCtorEq] at hx
    all_goals first
      | (simp only [VR, reduceCtorEq] at hv; done)
      | (have := hX.one hv; simp [Value.oneCell'] at this; done)
  have := inject_VR (own := own') hrep
  rwa [joined_of hx hv (.inr trivial) hone] at this
theorem slots_VR (hX : X.OK) {os : List Ob} (h : HR X S w os own) {ok' : Nat → Prop} {own' : List Own} (hok : ∀ b, okS S w own b → ok' b) {σ : List Nat} {f : Nat → Nat}
    (href : ∀ (j i : Nat) (o : Own), σ[j]? = some i → own[i]? = some o → ∃ o' : Own, own'[f j]? = some o' ∧ o'.v = o.v ∧ o'.sz = o.sz ∧ (o'.live = true → o.live = true)) :
    ∀ (ss : List SP) (avs : List AV) (vs : List Value) {rest : List Ty} (p : Prods rest) (x : Prods (slotTys ss rest)), readSlots os ss avs p = some x → SlotsAt σ ss avs → VRs X w (okS S w own) own avs vs →
      (∀ (k : Nat) (T : Ty) (i : Nat) (e : Ty) (l : List e.den) (o : Own) (g : Nat), ss[k]? = some (.dat T) → avs[k]? = some (.ref i) → Ob.get os i = .row e l → own[i]? = some o → g ∈ o.bs → ok' g) →
      VRs X w ok' own' (putSlots f ss x).1 vs ∧ (putSlots f ss x).2 = p
  | [], [], vs, rest, p, x, hx, hs, hv, hl => by
    cases hv
    have e : p = x := Option.some.inj hx
    subst e
    exact ⟨.nil, rfl⟩
  | [], _ :: _, vs, rest, p, x, hx, hs, hv, hl => by simp [SlotsAt] at hs
  | .dat T :: ss, [], vs, rest, p, x, hx, hs, hv, hl => by simp [SlotsAt] at hs
  | .ref _ :: ss, [], vs, rest, p, x, hx, hs, hv, hl => by simp [SlotsAt] at hs
  | .ptr _ _ :: ss, [], vs, rest, p, x, hx, hs, hv, hl => by simp [SlotsAt] at hs
  | .skip :: ss, [], vs, rest, p, x, hx, hs, hv, hl => by simp [SlotsAt] at hs
  | .fnc _ _ :: ss, [], vs, rest, p, x, hx, hs, hv, hl => by simp [SlotsAt] at hs
  | .dat T :: ss, av :: avs, _, rest, p, x, hx, hs, .cons hv hvs, hl => by
    simp only [readSlots] at hx
    split at hx
    · rename_i y hy
      split at hx
      · rename_i q hq
        cases hx
        obtain ⟨r1, r2⟩ := slots_VR hX h hok href ss avs _ p q hq hs hvs (fun k T i e l o g h1 h2 => hl (k + 1) T i e l o g (by simpa using h1) (by simpa using h2))
        have e1 : phead (t := T) (ts := slotTys ss rest) (pcons y q) = y := phead_pcons y q
        have e2 : ptail (t := T) (ts := slotTys ss rest) (pcons y q) = q := ptail_pcons y q
        simp only [putSlots, e1, e2]
        exact ⟨.cons (dat_VR hX h hok hy hv (fun i e l o g h1 h2 h3 h4 => hl 0 T i e l o g rfl (by rw [h1]; rfl) h2 h3 h4)) r1, r2⟩
      · cases hx
    · cases hx
  | .skip :: ss, av :: avs, _, rest, p, x, hx, hs, .cons hv hvs, hl => by
    simp only [readSlots] at hx
    obtain ⟨r1, r2⟩ := slots_VR hX h hok href ss avs _ p x hx hs hvs (fun k T i e l o g h1 h2 => hl (k + 1) T i e l o g (by simpa using h1) (by simpa using h2))
    simp only [putSlots]
    exact ⟨.cons trivial r1, r2⟩
  | .fnc fn js :: ss, av :: avs, _, rest, p, x, hx, hs, .cons hv hvs, hl => by
    simp only [readSlots] at hx
    obtain ⟨⟨cs, rfl, hcl, hcs⟩, hs⟩ := hs
    obtain ⟨r1, r2⟩ := slots_VR hX h hok href ss avs _ p x hx hs hvs (fun k T i e l o g h1 h2 => hl (k + 1) T i e l o g (by simpa using h1) (by simpa using h2))
    simp only [putSlots]
    obtain ⟨us, e1, e2, e3⟩ := hv
    refine ⟨.cons ⟨us, e1, by rw [e2, hcl]; simp, fun m i u hj hu => ?_⟩ r1, r2⟩
    rw [List.getElem?_map] at hj
    cases hjm : js[m]? with
    | none => rw [hjm] at hj; cases hj
    | some j =>
      rw [hjm] at hj
      have hj' : f j = i := Option.some.inj hj
      have hm : m < cs.length := by rw [hcl]; exact (List.getElem?_eq_some_iff.1 hjm).1
      have hc : cs[m]? = some cs[m] := List.getElem?_eq_getElem hm
      obtain ⟨o, g, a1, a2, a3⟩ := e3 m _ u hc hu
      obtain ⟨o', k1, k2, _, _⟩ := href j _ o (hcs m j _ hjm hc) a1
      exact ⟨o', g, by rw [← hj']; exact k1, k2.trans a2, a3⟩
  | .ref j :: ss, av :: avs, _, rest, p, x, hx, hs, .cons hv hvs, hl => by
    simp only [readSlots] at hx
    obtain ⟨⟨i, rfl, hi⟩, hs⟩ := hs
    obtain ⟨r1, r2⟩ := slots_VR hX h hok href ss avs _ p x hx hs hvs (fun k T i e l o g h1 h2 => hl (k + 1) T i e l o g (by simpa using h1) (by simpa using h2))
    simp only [putSlots]
    refine ⟨.cons ?_ r1, r2⟩
    obtain ⟨o, ho, hlv⟩ := hv
    obtain ⟨o', k1, k2, k3, k4⟩ := href j i o hi ho
    exact ⟨o', k1, fun l => (hlv (k4 l)).trans k2.symm⟩
  | .ptr j off :: ss, av :: avs, _, rest, p, x, hx, hs, .cons hv hvs, hl => by
    simp only [readSlots] at hx
    obtain ⟨⟨i, rfl, hi⟩, hs⟩ := hs
    obtain ⟨r1, r2⟩ := slots_VR hX h hok href ss avs _ p x hx hs hvs (fun k T i e l o g h1 h2 => hl (k + 1) T i e l o g (by simpa using h1) (by simpa using h2))
    simp only [putSlots]
    refine ⟨.cons ?_ r1, r2⟩
    obtain ⟨o, g, ho, hg, hvv⟩ := hv
    obtain ⟨o', k1, k2, k3, k4⟩ := href j i o hi ho
    exact ⟨o', g, k1, k2.trans hg, hvv⟩
/-- Rows of nothing for nil. -/
theorem nilRows_step (hX : X.OK) (hS : ∀ b, w.heap.size ≤ b → S b) (ts : List OT) : ∀ (ss : List SP) (avs : List AV) {os : List Ob} {own : List Own}, HR X S w os own → ∀ {vs : List Value}, VRs X w (okS S w own) own avs vs →
    ∃ own1, HR X S w (nilRows ts ss avs os).2 own1 ∧ Frm S w own w own1 ∧ OwnLe own own1 ∧ VRs X w (okS S w own1) own1 (nilRows ts ss avs os).1 vs := by
  intro ss
  induction ss with
  | nil => intro avs os own h vs hv; exact ⟨own, by simpa [nilRows] using h, Frm.refl .., OwnLe.refl _, by simpa [nilRows] using hv⟩
  | cons s ss ih =>
    intro avs os own h vs hv
    cases hv with
    | nil => exact ⟨own, by cases s <;> simpa [nilRows] using h, Frm.refl .., OwnLe.refl _, by cases s <;> simpa [nilRows] using VRs.nil⟩
    | @cons av v avs vs hv hvs =>
      have other : nilRows ts (s :: ss) (av :: avs) os = (av :: (nilRows ts ss avs os).1, (nilRows ts ss avs os).2) → ∃ own1, HR X S w (nilRows ts (s :: ss) (av :: avs) os).2 own1 ∧ Frm S w own w own1 ∧ OwnLe own own1 ∧ VRs X w (okS S w own1) own1 (nilRows ts (s :: ss) (av :: avs) os).1 (v :: vs) := by
        intro e
        obtain ⟨own1, q1, q2, q3, q4⟩ := ih avs h hvs
        rw [e]
        exact ⟨own1, q1, q2, q3, .cons (VR.mono hX q2.ok q3 _ _ hv) q4⟩
      by_cases hc : ∃ j, s = .ref j ∧ av = .nil
      · obtain ⟨j, rfl, rfl⟩ := hc
        simp only [VR] at hv
        cases hT : ts.getD j .dead with
        | dead => exact other (by simp only [nilRows, hT])
        | var T => exact other (by simp only [nilRows, hT])
        | vrow T => exact other (by simp only [nilRows, hT])
        | vst T => exact other (by simp only [nilRows, hT])
        | row T =>
          cases hz : Nat.blt 0 T.size with
          | false => exact other (by simp only [nilRows, hT, hz])
          | true =>
            obtain ⟨q1, q2, q3⟩ := new_ob hX h hS (w' := w) rfl rfl rfl (Nat.le_refl _) (fun _ _ => rfl) (.row T []) ⟨.slice none 0 0, [], true, T.size⟩ (by simp) (fun ok' _ => ⟨rfl, rfl, by simpa using hz, .inl ⟨rfl, rfl, rfl⟩⟩)
            obtain ⟨own1, r1, r2, r3, r4⟩ := ih avs q1 (VRs.mono hX q2.ok q3 hvs)
            have e : nilRows ts (.ref j :: ss) (.nil :: avs) os = (.ref os.length :: (nilRows ts ss avs (os ++ [.row T []])).1, (nilRows ts ss avs (os ++ [.row T []])).2) := by simp only [nilRows, hT, hz]
            rw [e]
            refine ⟨own1, r1, q2.trans r2, q3.trans r3, .cons (VR.mono hX r2.ok r3 _ _ ?_) r4⟩
            exact ⟨⟨.slice none 0 0, [], true, T.size⟩, by rw [← h.len]; simp, fun _ => hv⟩
      · refine other ?_
        cases s <;> cases av <;> first | rfl | exact absurd ⟨_, rfl, rfl⟩ hc
/-- A row gets a new name; the old one is dead. -/
theorem move_row (hX : X.OK) {os : List Ob} {own : List Own} (h : HR X S w os own) {i : Nat} {oi : Own} {T : Ty} {l : List T.den} (hoi : own[i]? = some oi) (hob : os[i]? = some (.row T l)) :
    HR X S w (os.set i .dead ++ [.row T l]) (own.set i ⟨oi.v, [], false, oi.sz⟩ ++ [oi]) ∧ Frm S w own w (own.set i ⟨oi.v, [], false, oi.sz⟩ ++ [oi]) ∧ OwnLe own (own.set i ⟨oi.v, [], false, oi.sz⟩ ++ [oi]) := by
  have hlo : i < own.length := (List.getElem?_eq_some_iff.1 hoi).1
  have hat : (own.set i ⟨oi.v, [], false, oi.sz⟩ ++ [oi])[i]? = some ⟨oi.v, [], false, oi.sz⟩ := by
    rw [List.getElem?_append_left (by simpa using hlo), List.getElem?_set_self hlo]
  have ge : ∀ j o', (own.set i ⟨oi.v, [], false, oi.sz⟩ ++ [oi])[j]? = some o' → (j = i ∨ own.length ≤ j) → (j = i ∧ o' = ⟨oi.v, [], false, oi.sz⟩) ∨ (j = own.length ∧ o' = oi) := by
    intro j o' h1 h2
    rcases h2 with rfl | h2
    · rw [hat] at h1; cases h1; exact .inl ⟨rfl, rfl⟩
    · have h3 := (List.getElem?_eq_some_iff.1 h1).1
      simp at h3
      have : j = own.length := by omega
      subst this
      rw [List.getElem?_append_right (by simp)] at h1
      simp at h1
      exact .inr ⟨rfl, h1.symm⟩
  have key := h.changeF hX (w' := w) (objs' := os.set i .dead ++ [.row T l]) (own' := own.set i ⟨oi.v, [], false, oi.sz⟩ ++ [oi]) rfl rfl rfl (by simp [h.len]) (by simp) (Nat.le_refl _) (· = i)
    (fun j hj hne => ⟨by rw [List.getElem?_append_left (by simpa using hj), List.getElem?_set_ne (Ne.symm hne)], by rw [List.getElem?_append_left (by rw [List.length_set, ← h.len]; exact hj), List.getElem?_set_ne (Ne.symm hne)]⟩)
    (fun _ _ _ => rfl)
    (fun j o' b hj hc hb => by
      rcases ge j o' hj hc with ⟨_, rfl⟩ | ⟨_, rfl⟩
      · simp at hb
      · exact ⟨(h.lt i _ b hoi hb).1, (h.lt i _ b hoi hb).2, .inr ⟨i, _, rfl, hoi, hb⟩⟩)
    (fun j j' oj oj' b hj hj' hoj hoj' hb hb' => by
      rcases ge j oj hoj hj with ⟨_, rfl⟩ | ⟨e1, _⟩
      · simp at hb
      · rcases ge j' oj' hoj' hj' with ⟨_, rfl⟩ | ⟨e2, _⟩
        · simp at hb'
        · rw [e1, e2])
    (fun hok j ob' o' hc hob' ho' => by
      rcases ge j o' ho' hc with ⟨rfl, rfl⟩ | ⟨e1, e2⟩
      · rw [List.getElem?_append_left (by rw [List.length_set, ← h.len]; exact hlo), List.getElem?_set_self (by rw [← h.len]; exact hlo)] at hob'
        cases hob'
        exact ⟨rfl, rfl⟩
      · subst e1 e2
        rw [h.len, List.getElem?_append_right (by simp)] at hob'
        simp at hob'
        subst hob'
        exact OR.mono hX hok _ _ (fun _ _ => rfl) (h.obj i _ _ hob hoi))
  refine ⟨key.1, key.2, fun j o ho => ?_⟩
  by_cases hji : j = i
  · subst hji
    rw [hoi] at ho; cases ho
    exact ⟨_, hat, rfl, rfl, fun h => (by cases h)⟩
  · exact ⟨o, by rw [List.getElem?_append_left (by rw [List.length_set]; exact (List.getElem?_eq_some_iff.1 ho).1), List.getElem?_set_ne (Ne.symm hji)]; exact ho, rfl, rfl, id⟩
theorem unpin_step (hX : X.OK) (m : Nat) (ts : List OT) : ∀ (ss : List SP) (avs : List AV) {os : List Ob} {own : List Own}, HR X S w os own → ∀ {vs : List Value}, VRs X w (okS S w own) own avs vs →
    ∃ own1, HR X S w (unpin m ts ss avs os).2 own1 ∧ Frm S w own w own1 ∧ OwnLe own own1 ∧ VRs X w (okS S w own1) own1 (unpin m ts ss avs os).1 vs := by
  intro ss
  induction ss with
  | nil => intro avs os own h vs hv; exact ⟨own, by simpa [unpin] using h, Frm.refl .., OwnLe.refl _, by simpa [unpin] using hv⟩
  | cons s ss ih =>
    intro avs os own h vs hv
    cases hv with
    | nil => exact ⟨own, by cases s <;> simpa [unpin] using h, Frm.refl .., OwnLe.refl _, by cases s <;> simpa [unpin] using VRs.nil⟩
    | @cons av v avs vs hv hvs =>
      have other : unpin m ts (s :: ss) (av :: avs) os = (av :: (unpin m ts ss avs os).1, (unpin m ts ss avs os).2) → ∃ own1, HR X S w (unpin m ts (s :: ss) (av :: avs) os).2 own1 ∧ Frm S w own w own1 ∧ OwnLe own own1 ∧ VRs X w (okS S w own1) own1 (unpin m ts (s :: ss) (av :: avs) os).1 (v :: vs) := by
        intro e
        obtain ⟨own1, q1, q2, q3, q4⟩ := ih avs h hvs
        rw [e]
        exact ⟨own1, q1, q2, q3, .cons (VR.mono hX q2.ok q3 _ _ hv) q4⟩
      by_cases hc : ∃ j i, s = .ref j ∧ av = .ref i
      · obtain ⟨j, i, rfl, rfl⟩ := hc
        cases hm : (Nat.blt i m && (!Nat.beq j i && isDead (ts.getD i .dead))) with
        | false => exact other (by simp only [unpin, hm])
        | true =>
          cases hg : Ob.get os i with
          | dead => exact other (by simp only [unpin, hm, hg])
          | frz T l => exact other (by simp only [unpin, hm, hg])
          | var T l => exact other (by simp only [unpin, hm, hg])
          | vrow T l => exact other (by simp only [unpin, hm, hg])
          | vout => exact other (by simp only [unpin, hm, hg])
          | vst T l h => exact other (by simp only [unpin, hm, hg])
          | row T l =>
            obtain ⟨oi, hoi, hlv⟩ := hv
            have hgi := Ob.get_of hg (by simp)
            obtain ⟨q1, q2, q3⟩ := move_row hX h hoi hgi
            obtain ⟨own1, r1, r2, r3, r4⟩ := ih avs q1 (VRs.mono hX q2.ok q3 hvs)
            have e : unpin m ts (.ref j :: ss) (.ref i :: avs) os = (.ref os.length :: (unpin m ts ss avs (os.set i .dead ++ [.row T l])).1, (unpin m ts ss avs (os.set i .dead ++ [.row T l])).2) := by simp only [unpin, hm, hg]
            rw [e]
            refine ⟨own1, r1, q2.trans r2, q3.trans r3, .cons (VR.mono hX r2.ok r3 _ _ ?_) r4⟩
            exact ⟨oi, by rw [← h.len, List.getElem?_append_right (by simp)]; simp, hlv⟩
      · refine other ?_
        cases s <;> cases av <;> first | rfl | exact absurd ⟨_, _, rfl, rfl⟩ hc
theorem freezeSlots_step (hX : X.OK) : ∀ (ss : List SP) (avs : List AV) {os : List Ob} {own : List Own}, HR X S w os own →
    ∃ own1, HR X S w (freezeSlots ss avs os) own1 ∧ Frm S w own w own1 ∧ OwnLe own own1 := by
  intro ss
  induction ss with
  | nil => intro avs os own h; exact ⟨own, by simpa [freezeSlots] using h, Frm.refl .., OwnLe.refl _⟩
  | cons s ss ih =>
    intro avs os own h
    cases avs with
    | nil => exact ⟨own, by cases s <;> simpa [freezeSlots] using h, Frm.refl .., OwnLe.refl _⟩
    | cons av avs =>
      cases s with
      | dat T =>
        obtain ⟨o1, a1, a2, a3, _⟩ := freezeV_step hX h av
        obtain ⟨o2, b1, b2, b3⟩ := ih avs a1
        exact ⟨o2, by simpa [freezeSlots] using b1, a2.trans b2, a3.trans b3⟩
      | ref j => simpa [freezeSlots] using ih avs h
      | ptr j off => simpa [freezeSlots] using ih avs h
      | skip => simpa [freezeSlots] using ih avs h
      | fnc f js => simpa [freezeSlots] using ih avs h
theorem freeze_noRow (os : List Ob) (av : AV) (i : Nat) (h : ∀ e l, Ob.get os i ≠ .row e l) : ∀ e l, Ob.get (freezeV os av) i ≠ .row e l := by
  cases av <;> try exact h
  rename_i j
  intro e l
  simp only [freezeV]
  by_cases hij : j = i
  · subst hij
    by_cases hin : j < os.length
    · have : Ob.get (os.set j (freezeOb (Ob.get os j))) j = freezeOb (Ob.get os j) := by
        generalize freezeOb (Ob.get os j) = ob
        unfold Ob.get
        rw [List.getD_eq_getElem?_getD, List.getElem?_set_self hin]; rfl
      rw [this]
      cases Ob.get os j <;> simp [freezeOb]
    · rw [List.set_eq_of_length_le (Nat.le_of_not_lt hin)]; exact h e l
  · have : Ob.get (os.set j (freezeOb (Ob.get os j))) i = Ob.get os i := by
      generalize freezeOb (Ob.get os j) = ob
      unfold Ob.get
      rw [List.getD_eq_getElem?_getD, List.getD_eq_getElem?_getD, List.getElem?_set_ne hij]
    rw [this]; exact h e l
theorem freezeSlots_keep : ∀ (ss : List SP) (avs : List AV) (os : List Ob) (i : Nat), (∀ e l, Ob.get os i ≠ .row e l) → ∀ e l, Ob.get (freezeSlots ss avs os) i ≠ .row e l
  | [], avs, os, i, h => by simpa [freezeSlots] using h
  | s :: ss, [], os, i, h => by cases s <;> simpa [freezeSlots] using h
  | .dat T :: ss, av :: avs, os, i, h => by
    simp only [freezeSlots]
    exact freezeSlots_keep ss avs _ i (freeze_noRow os av i h)
  | .ref j :: ss, av :: avs, os, i, h => by simp only [freezeSlots]; exact freezeSlots_keep ss avs _ i h
  | .ptr j off :: ss, av :: avs, os, i, h => by simp only [freezeSlots]; exact freezeSlots_keep ss avs _ i h
  | .skip :: ss, av :: avs, os, i, h => by simp only [freezeSlots]; exact freezeSlots_keep ss avs _ i h
  | .fnc _ _ :: ss, av :: avs, os, i, h => by simp only [freezeSlots]; exact freezeSlots_keep ss avs _ i h
theorem freezeSlots_noRow : ∀ (ss : List SP) (avs : List AV) (os : List Ob) (k : Nat) (T : Ty) (i : Nat), ss[k]? = some (.dat T) → avs[k]? = some (.ref i) → ∀ e l, Ob.get (freezeSlots ss avs os) i ≠ .row e l
  | [], avs, os, k, T, i, h1, h2 => by simp at h1
  | s :: ss, [], os, k, T, i, h1, h2 => by simp at h2
  | s :: ss, av :: avs, os, 0, T, i, h1, h2 => by
    simp at h1 h2
    subst h1 h2
    simp only [freezeSlots]
    refine freezeSlots_keep ss avs _ i ?_
    intro e l
    simp only [freezeV]
    by_cases hin : i < os.length
    · have : Ob.get (os.set i (freezeOb (Ob.get os i))) i = freezeOb (Ob.get os i) := by
        generalize freezeOb (Ob.get os i) = ob
        unfold Ob.get
        rw [List.getD_eq_getElem?_getD, List.getElem?_set_self hin]; rfl
      rw [this]
      cases Ob.get os i <;> simp [freezeOb]
    · rw [List.set_eq_of_length_le (Nat.le_of_not_lt hin)]
      unfold Ob.get
      rw [List.getD_eq_getElem?_getD, List.getElem?_eq_none (Nat.le_of_not_lt hin)]
      simp
  | .dat T' :: ss, av :: avs, os, k + 1, T, i, h1, h2 => by
    simp only [freezeSlots]
    exact freezeSlots_noRow ss avs _ k T i (by simpa using h1) (by simpa using h2)
  | .ref j :: ss, av :: avs, os, k + 1, T, i, h1, h2 => by simp only [freezeSlots]; exact freezeSlots_noRow ss avs _ k T i (by simpa using h1) (by simpa using h2)
  | .ptr j off :: ss, av :: avs, os, k + 1, T, i, h1, h2 => by simp only [freezeSlots]; exact freezeSlots_noRow ss avs _ k T i (by simpa using h1) (by simpa using h2)
  | .skip :: ss, av :: avs, os, k + 1, T, i, h1, h2 => by simp only [freezeSlots]; exact freezeSlots_noRow ss avs _ k T i (by simpa using h1) (by simpa using h2)
  | .fnc _ _ :: ss, av :: avs, os, k + 1, T, i, h1, h2 => by simp only [freezeSlots]; exact freezeSlots_noRow ss avs _ k T i (by simpa using h1) (by simpa using h2)
end
end Go.Proofs.YtgelkklendpeoaaGreat.AE

namespace Go.Proofs.YtgelkklendpeoaaGreat.AE
set_option linter.unusedVariables false
set_option linter.unusedSimpArgs false
open Go
set_option linter.unusedVariables false
set_option linter.unusedSimpArgs false

section
variable {X : ExtRep} {S : Nat → Prop} {P : Program} {E : Env} {w : World} {own : List Own}
theorem rep_distinct {n m : Nat} : InjO ((List.range n).map some ++ List.replicate m none) := by
  intro j j' i h h'
  have key : ∀ j, ((List.range n).map some ++ List.replicate m none : List (Option Nat))[j]? = some (some i) → j = i := by
    intro j h
    rw [List.getElem?_append] at h
    split at h
    · rename_i hl
      simp at hl
      simpa [hl] using h
    · rw [List.getElem?_replicate] at h
      split at h <;> simp at h
  exact (key j h).trans (key j' h').symm
/-- WHAT IS READ: the state behind the freezing, and the part of it that the shape takes. -/
structure ReadOK (X : ExtRep) (S : Nat → Prop) (w : World) (own : List Own) (s : Shape) (pins : Nat) (lend : Bool) (args : List AV) (vals : List Value) (g : Got s) : Prop where
  ex : ∃ (own2 : List Own) (avs : List AV) (p : Prods (objTys s.objs)), HR X S w g.objs own2 ∧ Frm S w own w own2 ∧ OwnLe own own2 ∧ VRs X w (okS S w own2) own2 avs vals ∧
    readObjs g.objs s.objs g.σ = some p ∧ readSlots g.objs s.slots avs p = some g.x ∧ SlotsAt g.σ s.slots avs ∧ Distinct g.σ ∧ (∀ j, j < pins → g.σ[j]? = some j) ∧
    (lend = false → ∀ (k : Nat) (T : Ty) (i : Nat), s.slots[k]? = some (.dat T) → avs[k]? = some (.ref i) → ∀ e l, Ob.get g.objs i ≠ .row e l) ∧
    (lend = true → ∀ (k : Nat) (T : Ty) (i : Nat), s.slots[k]? = some (.dat T) → avs[k]? = some (.ref i) → i ∉ g.σ) ∧
    (∀ (k : Nat) (T : Ty), s.slots[k]? = some (.dat T) → avs[k]? = args[k]?)
theorem nilRows_dat (ts : List OT) : ∀ (ss : List SP) (avs : List AV) (os : List Ob) (k : Nat) (T : Ty), ss[k]? = some (.dat T) → (nilRows ts ss avs os).1[k]? = avs[k]?
  | [], avs, os, k, T, h => by simp at h
  | s :: ss, [], os, k, T, h => by cases s <;> simp [nilRows]
  | s :: ss, av :: avs, os, k, T, h => by
    cases k with
    | zero => simp at h; subst h; cases av <;> simp [nilRows]
    | succ k =>
      have h' : ss[k]? = some (.dat T) := by simpa using h
      have ih := fun os => nilRows_dat ts ss avs os k T h'
      by_cases hc : ∃ j, s = .ref j ∧ av = .nil
      · obtain ⟨j, rfl, rfl⟩ := hc
        cases hT : ts.getD j .dead with
        | dead => simp only [nilRows, hT, List.getElem?_cons_succ]; exact ih os
        | var T => simp only [nilRows, hT, List.getElem?_cons_succ]; exact ih os
        | vrow T => simp only [nilRows, hT, List.getElem?_cons_succ]; exact ih os
        | vst T => simp only [nilRows, hT, List.getElem?_cons_succ]; exact ih os
        | row T =>
          cases hz : Nat.blt 0 T.size with
          | false => simp only [nilRows, hT, hz, List.getElem?_cons_succ]; exact ih os
          | true => simp only [nilRows, hT, hz, List.getElem?_cons_succ]; exact ih _
      · have : nilRows ts (s :: ss) (av :: avs) os = (av :: (nilRows ts ss avs os).1, (nilRows ts ss avs os).2) := by
          cases s <;> cases av <;> first | rfl | exact absurd ⟨_, rfl, rfl⟩ hc
        rw [this, List.getElem?_cons_succ, List.getElem?_cons_succ]; exact ih os
theorem unpin_dat (m : Nat) (ts : List OT) : ∀ (ss : List SP) (avs : List AV) (os : List Ob) (k : Nat) (T : Ty), ss[k]? = some (.dat T) → (unpin m ts ss avs os).1[k]? = avs[k]?
  | [], avs, os, k, T, h => by simp at h
  | s :: ss, [], os, k, T, h => by cases s <;> simp [unpin]
  | s :: ss, av :: avs, os, k, T, h => by
    cases k with
    | zero => simp at h; subst h; cases av <;> simp [unpin]
    | succ k =>
      have h' : ss[k]? = some (.dat T) := by simpa using h
      have ih := fun os => unpin_dat m ts ss avs os k T h'
      by_cases hc : ∃ j i, s = .ref j ∧ av = .ref i
      · obtain ⟨j, i, rfl, rfl⟩ := hc
        cases hm : (Nat.blt i m && (!Nat.beq j i && isDead (ts.getD i .dead))) with
        | false => simp only [unpin, hm, List.getElem?_cons_succ]; exact ih os
        | true => cases hg : Ob.get os i <;> simp only [unpin, hm, hg, List.getElem?_cons_succ] <;> exact ih _
      · have : unpin m ts (s :: ss) (av :: avs) os = (av :: (unpin m ts ss avs os).1, (unpin m ts ss avs os).2) := by
          cases s <;> cases av <;> first | rfl | exact absurd ⟨_, _, rfl, rfl⟩ hc
        rw [this, List.getElem?_cons_succ, List.getElem?_cons_succ]; exact ih os
theorem lentOk_spec : ∀ (ss : List SP) (avs : List AV) (σ : List Nat), lentOk ss avs σ = true → ∀ (k : Nat) (T : Ty) (i : Nat), ss[k]? = some (.dat T) → avs[k]? = some (.ref i) → i ∉ σ
  | [], avs, σ, h, k, T, i, h1, h2 => by simp at h1
  | s :: ss, [], σ, h, k, T, i, h1, h2 => by simp at h2
  | s :: ss, av :: avs, σ, h, k, T, i, h1, h2 => by
    cases k with
    | zero =>
      simp at h1 h2
      subst h1 h2
      simp only [lentOk] at h
      split at h
      · cases h
      · rename_i hn
        intro hm
        rw [List.any_eq_true.2 ⟨i, hm, by simp⟩] at hn
        cases hn
    | succ k =>
      refine lentOk_spec ss avs σ ?_ k T i (by simpa using h1) (by simpa using h2)
      cases s <;> cases av <;> simp only [lentOk] at h <;> first | exact h | skip
      split at h
      · cases h
      · exact h
theorem read_ok (hX : X.OK) (hS : ∀ b, w.heap.size ≤ b → S b) {os : List Ob} (h : HR X S w os own) {s : Shape} {pins : Nat} {lend : Bool} {avs : List AV} {vals : List Value} {g : Got s} (hv : VRs X w (okS S w own) own avs vals)
    (hg : s.read (List.range pins) lend avs os = some g) : ReadOK X S w own s pins lend avs vals g := by
  unfold Shape.read at hg
  split at hg
  rename_i vs1 os1 hnil
  obtain ⟨own0, z1, z2, z3, z4⟩ := unpin_step hX (List.range pins).length s.objs s.slots avs h hv
  obtain ⟨own1, q1, q2', q3', q4⟩ := nilRows_step hX hS s.objs s.slots _ z1 z4
  have q2 := z2.trans q2'
  have q3 := z3.trans q3'
  have hdat : ∀ (k : Nat) (T : Ty), s.slots[k]? = some (.dat T) → vs1[k]? = avs[k]? := fun k T hk => by
    have := nilRows_dat s.objs s.slots (unpin (List.range pins).length s.objs s.slots avs os).1 (unpin (List.range pins).length s.objs s.slots avs os).2 k T hk
    rw [hnil] at this; exact this.trans (unpin_dat _ _ _ _ _ _ _ hk)
  rw [hnil] at q1 q4
  simp only at q1 q4
  split at hg
  · cases hg
  · rename_i σ hσ
    obtain ⟨m1, m2, m3, m4⟩ := matchSlots_spec _ _ hσ
    split at hg
    · cases hg
    · rename_i σ' hσ'
      obtain ⟨c1, c2⟩ := allSome_spec hσ'
      have hinj : InjO σ := m3 (by
        have : (List.range pins).length = pins := List.length_range
        rw [this]
        exact rep_distinct)
      have hdist : Distinct σ' := fun j j' i hj hj' => hinj j j' i ((c2 j i).2 hj) ((c2 j' i).2 hj')
      have hpins : ∀ j, j < pins → σ'[j]? = some j := by
        intro j hj
        refine (c2 j j).1 (m1 j j ?_)
        rw [List.getElem?_append_left (by simpa using hj)]
        simp [hj]
      cases lend with
      | true =>
        simp only at hg
        cases hlk : lentOk s.slots vs1 σ' with
        | false => simp [hlk] at hg
        | true =>
          simp only [hlk] at hg
          split at hg
          · cases hg
          · rename_i p hp'
            split at hg
            · cases hg
            · rename_i x hx
              cases hg
              exact ⟨own1, vs1, p, q1, q2, q3, q4, hp', hx, m4 σ' hσ', hdist, hpins, fun hf => (by cases hf), fun _ => lentOk_spec _ _ _ hlk, hdat⟩
      | false =>
        simp only at hg
        obtain ⟨own2, r1, r2, r3⟩ := freezeSlots_step hX s.slots vs1 q1
        split at hg
        · cases hg
        · rename_i p hp'
          split at hg
          · cases hg
          · rename_i x hx
            cases hg
            exact ⟨own2, vs1, p, r1, q2.trans r2, q3.trans r3, VRs.mono hX r2.ok r3 q4, hp', hx, m4 σ' hσ', hdist, hpins, fun _ k T i h1 h2 => freezeSlots_noRow _ _ _ k T i h1 h2, fun hf => (by cases hf), hdat⟩
/-- A shape's values and things. -/
def Holds (X : ExtRep) (S : Nat → Prop) (w : World) (own : List Own) (s : Shape) (x : s.den) (vals : List Value) : Prop :=
  HR X S w (putObjs s.objs (putSlots id s.slots x).2) own ∧ VRs X w (okS S w own) own (putSlots id s.slots x).1 vals
/-- FROZEN: the shape stands by itself, with the same leave. -/
theorem ReadOK.frozen (hX : X.OK) {s : Shape} {pins : Nat} {vals : List Value} {g : Got s} {args : List AV} (h : ReadOK X S w own s pins false args vals g) :
    ∃ own', Holds X S w own' s g.x vals ∧ Frm S w own w own' ∧ (∀ (j : Nat) (o : Own), j < pins → own[j]? = some o → ∃ o' : Own, own'[j]? = some o' ∧ o'.v = o.v ∧ o'.sz = o.sz ∧ (o'.live = true → o.live = true)) := by
  obtain ⟨own2, avs, p, h1, h2, h3, h4, h5, h6, h7, h8, h9, h10, _⟩ := h.ex
  obtain ⟨a1, a2, _⟩ := readObjs_spec _ _ _ h5
  obtain ⟨r1, r2⟩ := slots_VR (f := id) (own' := ownSub own2 s.objs g.σ) (ok' := okS S w (ownSub own2 s.objs g.σ)) hX h1 (fun b hb => sub_ok hb) (σ := g.σ) (fun j i o hj ho => by
      obtain ⟨o', b1, b2, b3, b4, _⟩ := ownSub_get own2 s.objs g.σ j i o a1 hj ho
      exact ⟨o', b1, b2, b3, b4⟩) _ _ _ p g.x h6 h7 h4 (fun k T i e l o g' k1 k2 k3 _ _ => absurd k3 (h10 rfl k T i k1 k2 e l))
  refine ⟨ownSub own2 s.objs g.σ, ⟨?_, r1⟩, h2.trans sub_Frm, fun j o hj ho => ?_⟩
  · rw [r2]
    exact sub_HR hX h1 h5 h8 (fun j i o b _ ho hb => (h1.lt i o b ho hb).2) (fun b hb => sub_ok hb)
  · obtain ⟨o1, b1, b2, b3, b4⟩ := h3 j o ho
    obtain ⟨o', c1, c2, c3, c4, _⟩ := ownSub_get own2 s.objs g.σ j j o1 a1 (h9 j hj) b1
    exact ⟨o', c1, c2.trans b2, c3.trans b3, fun l => b4 (c4 l)⟩
/-- What a call comes to, function by function. -/
def Does (P : Program) (f : FuncId) (args : Array Value) (w : World) (R : Value → World → Prop) : Prop :=
  ∀ (o : Oper) (a : Act) (next : Act → World → Prop) (Q : Exit → Act → World → Prop), (∀ v w', R v w' → next (a.put o.dst v) w') → o.upon P a next Q ((callFunc f args).run P w)
def tupV : List Value → Value
  | [] => .tuple #[] | [u] => u | us => .tuple us.toArray
/-- THE CONTRACT of a function: at these data, these. -/
def Spec (P : Program) (X : ExtRep) (s : Sig) (f : FuncId) (x : s.ins.den) (y : s.outs.den) : Prop :=
  ∀ (S : Nat → Prop) (w : World) (own : List Own) (vals : List Value), (∀ b, w.heap.size ≤ b → S b) → X.inv w (okS S w own) → Holds X S w own s.ins x vals →
    Does P f vals.toArray w fun v w' => ∃ own' vs', Holds X S w' own' s.outs y vs' ∧ Frm S w own w' own' ∧
      (∀ (j : Nat) (o : Own), own[j]? = some o → ∃ o' : Own, own'[j]? = some o' ∧ o'.v = o.v ∧ o'.sz = o.sz ∧ (o'.live = true → o.live = true)) ∧
      v = tupV vs'
end
end Go.Proofs.YtgelkklendpeoaaGreat.AE

namespace Go.Proofs.YtgelkklendpeoaaGreat.AE
set_option linter.unusedVariables false
set_option linter.unusedSimpArgs false
open Go
set_option linter.unusedVariables false
set_option linter.unusedSimpArgs false

theorem setL_spec {α : Type} : ∀ (σ : List Nat) (l bs : List α), Distinct σ → (∀ i ∈ σ, i < l.length) → σ.length ≤ bs.length →
    (setL l σ bs).length = l.length + (bs.length - σ.length) ∧ (∀ i, i < l.length → i ∉ σ → (setL l σ bs)[i]? = l[i]?) ∧ (∀ (j i : Nat), σ[j]? = some i → (setL l σ bs)[i]? = bs[j]?) ∧
      (∀ j, σ.length ≤ j → (setL l σ bs)[l.length + (j - σ.length)]? = bs[j]?)
  | [], l, bs, _, _, _ => by
    refine ⟨by simp [setL], fun i hi _ => by simp [setL, List.getElem?_append_left hi], by simp, fun j _ => ?_⟩
    simp only [setL]
    rw [List.getElem?_append_right (by simp)]
    simp
  | i0 :: σ, l, [], _, _, h => by simp at h
  | i0 :: σ, l, b :: bs, hd, hlt, hlen => by
    have hd' : Distinct σ := fun j j' i h h' => by have := hd (j + 1) (j' + 1) i (by simpa using h) (by simpa using h'); omega
    obtain ⟨a1, a2, a3, a4⟩ := setL_spec σ (l.set i0 b) bs hd' (fun i hi => by simpa using hlt i (List.mem_cons_of_mem _ hi)) (by simpa using hlen)
    have hni : i0 ∉ σ := by
      intro hm
      obtain ⟨j, hj⟩ := List.mem_iff_getElem?.1 hm
      have := hd 0 (j + 1) i0 rfl (by simpa using hj)
      omega
    simp only [setL]
    refine ⟨by rw [a1]; simp, fun i hi hn => ?_, fun j i hj => ?_, fun j hj => ?_⟩
    · rw [a2 i (by simpa using hi) (fun h => hn (List.mem_cons_of_mem _ h)), List.getElem?_set_ne (fun e => hn (by rw [e]; exact List.mem_cons_self))]
    · cases j with
      | zero =>
        simp at hj; subst hj
        rw [a2 i0 (by simpa using hlt i0 (by simp)) hni, List.getElem?_set_self (hlt i0 (by simp))]
        rfl
      | succ j => simpa using a3 j i (by simpa using hj)
    · cases j with
      | zero => simp at hj
      | succ j =>
        have := a4 j (by simpa using hj)
        simp only [List.length_set] at this
        simp only [List.length_cons, List.getElem?_cons_succ]
        rw [← this]
        congr 1
        omega
section
variable {X : ExtRep} {S : Nat → Prop} {P : Program} {E : Env} {w : World} {own : List Own}
theorem setL_at {α : Type} {σ : List Nat} {l bs : List α} (hd : Distinct σ) (hlt : ∀ i ∈ σ, i < l.length) (hlen : σ.length ≤ bs.length) (j : Nat) : (setL l σ bs)[renum σ l.length j]? = bs[j]? := by
  obtain ⟨a1, a2, a3, a4⟩ := setL_spec σ l bs hd hlt hlen
  unfold renum
  split
  · rename_i i hi; exact a3 j i hi
  · rename_i hn
    exact a4 j (by simpa using hn)
theorem setL_inv {α : Type} {σ : List Nat} {l bs : List α} (hd : Distinct σ) (hlt : ∀ i ∈ σ, i < l.length) (hlen : σ.length ≤ bs.length) {i : Nat} {x : α} (h : (setL l σ bs)[i]? = some x) (hi : i ∈ σ ∨ l.length ≤ i) :
    ∃ j, i = renum σ l.length j ∧ bs[j]? = some x := by
  obtain ⟨a1, a2, a3, a4⟩ := setL_spec σ l bs hd hlt hlen
  rcases hi with hi | hi
  · obtain ⟨j, hj⟩ := List.mem_iff_getElem?.1 hi
    exact ⟨j, by simp [renum, hj], by rw [← a3 j i hj]; exact h⟩
  · have h1 := (List.getElem?_eq_some_iff.1 h).1
    refine ⟨σ.length + (i - l.length), ?_, ?_⟩
    · unfold renum
      rw [List.getElem?_eq_none (by omega)]
      simp; omega
    · rw [← a4 _ (by omega), show l.length + (σ.length + (i - l.length) - σ.length) = i by omega]
      exact h
/-- Behind a call: what was handed over is laid back, what is new is put behind. -/
theorem rebuild (hX : X.OK) {os : List Ob} (h : HR X S w os own) {ts : List OT} {σ : List Nat} (hd : Distinct σ) (hlt : ∀ i ∈ σ, i < os.length) (a1 : ts.length = σ.length) {S' : Nat → Prop} (hSS : ∀ b, S' b → S b) {w' : World} {obs : List Ob} {own' : List Own}
    (hr : HR X S' w' obs own') (hf : Frm S' w (ownSub own ts σ) w' own') (hpin : ∀ (j : Nat) (o : Own), (ownSub own ts σ)[j]? = some o → ∃ o' : Own, own'[j]? = some o' ∧ o'.v = o.v ∧ o'.sz = o.sz ∧ (o'.live = true → o.live = true))
    (hor : ∀ (j : Nat) (ob : Ob) (o : Own), obs[j]? = some ob → own'[j]? = some o → ∀ ok' : Nat → Prop, (∀ b, okS S' w' own' b → (∀ (i : Nat) (o2 : Own), own[i]? = some o2 → i ∉ σ → b ∉ o2.bs) → ok' b) → OR X w' ok' ob o) :
    HR X S w' (setL os σ obs) (setL own σ own') ∧ Frm S w own w' (setL own σ own') ∧ OwnLe own (setL own σ own') ∧
      (∀ b, okS S' w' own' b → (∀ (i : Nat) (o2 : Own), own[i]? = some o2 → i ∉ σ → b ∉ o2.bs) → okS S w' (setL own σ own') b) := by
  have hls := ownSub_len own ts σ a1
  have hlto : ∀ i ∈ σ, i < own.length := fun i hi => by rw [h.len]; exact hlt i hi
  have hlen : σ.length ≤ own'.length := by
    rcases Nat.lt_or_ge own'.length σ.length with hc | hc
    · exfalso
      have : own'.length < (ownSub own ts σ).length := by omega
      obtain ⟨o', ho', _⟩ := hpin own'.length _ (List.getElem?_eq_getElem this)
      have := (List.getElem?_eq_some_iff.1 ho').1
      omega
    · exact hc
  have hleno : σ.length ≤ obs.length := by rw [← hr.len]; exact hlen
  obtain ⟨b1, b2, b3, b4⟩ := setL_spec σ own own' hd hlto hlen
  obtain ⟨c1, c2, c3, c4⟩ := setL_spec σ os obs hd hlt hleno
  have okk : ∀ b, okS S' w' own' b → (∀ (i : Nat) (o2 : Own), own[i]? = some o2 → i ∉ σ → b ∉ o2.bs) → okS S w' (setL own σ own') b := by
    intro b hb hn
    refine ⟨hSS b hb.1, hb.2.1, fun o ho hbo => ?_⟩
    obtain ⟨i, hi⟩ := List.mem_iff_getElem?.1 ho
    by_cases hc : i ∈ σ ∨ own.length ≤ i
    · obtain ⟨j, _, hj⟩ := setL_inv hd hlto hlen hi hc
      exact hb.2.2 o (List.mem_of_getElem? hj) hbo
    · have hns : i ∉ σ := fun x => hc (.inl x)
      have hil : i < own.length := by
        rcases Nat.lt_or_ge i own.length with x | x
        · exact x
        · exact absurd (.inr x) hc
      rw [b2 i hil hns] at hi
      exact hn i o hi hns hbo
  have key := h.changeF hX (w' := w') (objs' := setL os σ obs) (own' := setL own σ own') hf.os hf.tape hf.output (by rw [b1, c1, hr.len, h.len]) (by omega) hf.sz (· ∈ σ)
    (fun i hi hn => ⟨b2 i hi hn, c2 i (by rw [← h.len]; exact hi) hn⟩)
    (fun b hb hn => hf.blk b hb fun j o ho hbo => by
      obtain ⟨i, oi, d1, d2, d3, _⟩ := ownSub_bs own ts σ j o b ho hbo
      exact hn i oi (List.mem_of_getElem? d1) d2 d3)
    (fun i o b hi hc hb => by
      obtain ⟨j, _, hj⟩ := setL_inv hd hlto hlen hi hc
      refine ⟨(hr.lt j o b hj hb).1, hSS b (hr.lt j o b hj hb).2, ?_⟩
      rcases hf.bs j o b hj hb with d | ⟨j2, oj, d1, d2⟩
      · exact .inl d
      · obtain ⟨i2, o2, e1, e2, e3, _⟩ := ownSub_bs own ts σ j2 oj b d1 d2
        exact .inr ⟨i2, o2, List.mem_of_getElem? e1, e2, e3⟩)
    (fun i i' oi oi' b hi hi' hoi hoi' hb hb' => by
      obtain ⟨j, e1, hj⟩ := setL_inv hd hlto hlen hoi hi
      obtain ⟨j', e2, hj'⟩ := setL_inv hd hlto hlen hoi' hi'
      rw [e1, e2, hr.dis j j' oi oi' b hj hj' hb hb'])
    (fun hok i ob o hc hob ho => by
      obtain ⟨j, e1, hj⟩ := setL_inv hd hlto hlen ho hc
      have hob' : obs[j]? = some ob := by
        rw [← setL_at hd hlt hleno j, ← h.len, ← e1]; exact hob
      exact hor j ob o hob' hj _ okk)
  refine ⟨key.1, key.2, ?_, okk⟩
  intro i o ho
  by_cases hc : i ∈ σ
  · obtain ⟨j, hj⟩ := List.mem_iff_getElem?.1 hc
    obtain ⟨o1, d1, d2, d3, d4, _⟩ := ownSub_get own ts σ j i o a1 hj ho
    obtain ⟨o', e1, e2, e3, e4⟩ := hpin j o1 d1
    exact ⟨o', by rw [b3 j i hj]; exact e1, e2.trans d2, e3.trans d3, fun l => d4 (e4 l)⟩
  · exact ⟨o, by rw [b2 i (List.getElem?_eq_some_iff.1 ho).1 hc]; exact ho, rfl, rfl, id⟩
end
end Go.Proofs.YtgelkklendpeoaaGreat.AE

namespace Go.Proofs.YtgelkklendpeoaaGreat.AE
set_option linter.unusedVariables false
set_option linter.unusedSimpArgs false
open Go
set_option linter.unusedVariables false
set_option linter.unusedSimpArgs false

section
variable {X : ExtRep} {S : Nat → Prop} {P : Program} {E : Env} {w : World} {own : List Own} {R : Type} {k : AV → St → Option R} {r : R} {st : St}
theorem flat_rep {w w' : World} {ok ok' : Nat → Prop} : ∀ (T : Ty) (x : T.den) (cs : List Value), T.flat = true → Rep X w ok T x cs → Rep X w' ok' T x cs
  | .int _, _, _, _, h | .bool, _, _, _, h | .str, _, _, _, h | .unit, _, _, _, h => h
  | .one a, x, cs, hf, h => flat_rep a x cs hf h
  | .pair a b, x, cs, hf, ⟨v1, v2, e, h1, h2⟩ => by
    simp only [Ty.flat] at hf
    split at hf
    · rename_i ha; exact ⟨v1, v2, e, flat_rep a _ _ ha h1, flat_rep b _ _ hf h2⟩
    · cases hf
  | .slice e, _, _, hf, _ => by simp [Ty.flat] at hf
  | .ext i, _, _, hf, _ => by simp [Ty.flat] at hf
theorem flat_OR {ok ok' : Nat → Prop} : ∀ (ob : Ob) (o : Own), (match ob with | .row T _ => T.flat | .var T _ => T.flat | .vrow T _ => T.flat | .vout => true | .vst _ _ _ => false | .frz _ _ => false | .dead => true) = true → OR X w ok ob o → OR X w ok' ob o
  | .dead, _, _, h => h
  | .frz T l, o, hf, h => by cases hf
  | .row T l, o, hf, ⟨h1, h2, h3, h4⟩ => ⟨h1, h2, h3, h4.imp id fun ⟨g, c, cur, e, a1, a2, a3, a4, a5, a6, a7⟩ => ⟨g, c, cur, e, a1, a2, a3, a4, a5, a6, a7.1.imp (fun x cs h => flat_rep T x cs hf h), a7.2⟩⟩
  | .var T x, o, hf, ⟨h1, g, cs, e, a1, a2, a3, a4⟩ => ⟨h1, g, cs, e, a1, a2, a3, flat_rep T x cs hf a4⟩
  | .vrow T l, o, hf, ⟨h0, g0, e0, r, b1, b2, b3, b4, h1, h2, h3, h4⟩ => ⟨h0, g0, e0, r, b1, b2, b3, b4, h1, h2, h3, h4.imp id fun ⟨g, c, cur, e, a1, a2, a3, a4, a5, a6, a7⟩ => ⟨g, c, cur, e, a1, a2, a3, a4, a5, a6, a7.1.imp (fun x cs h => flat_rep T x cs hf h), a7.2⟩⟩
  | .vout, o, hf, h => h
  | .vst _ _ _, o, hf, h => by cases hf
theorem putObjs_flat : ∀ (ts : List OT) (p : Prods (objTys ts)), (ts.all fun o => match o with | .row T | .var T | .vrow T => T.flat | .vst _ => false | .dead => true) = true → ∀ ob ∈ putObjs ts p, (match ob with | .row T _ => T.flat | .var T _ => T.flat | .vrow T _ => T.flat | .vout => true | .vst _ _ _ => false | .frz _ _ => false | .dead => true) = true
  | [], p, h, ob, hm => by simp [putObjs] at hm
  | .dead :: ts, p, h, ob, hm => by
    simp only [putObjs, List.mem_cons] at hm
    rcases hm with rfl | hm
    · rfl
    · exact putObjs_flat ts p (by simpa using h) ob hm
  | .row T :: ts, p, h, ob, hm => by
    simp only [putObjs, List.mem_cons] at hm
    simp only [List.all_cons, Bool.and_eq_true] at h
    rcases hm with rfl | hm
    · exact h.1
    · exact putObjs_flat ts _ h.2 ob hm
  | .var T :: ts, p, h, ob, hm => by
    simp only [putObjs, List.mem_cons] at hm
    simp only [List.all_cons, Bool.and_eq_true] at h
    rcases hm with rfl | hm
    · exact h.1
    · exact putObjs_flat ts _ h.2 ob hm
  | .vst T :: ts, p, h, ob, hm => by simp at h
  | .vrow T :: ts, p, h, ob, hm => by
    simp only [putObjs, List.mem_cons] at hm
    simp only [List.all_cons, Bool.and_eq_true] at h
    rcases hm with rfl | hm
    · exact h.1
    · exact putObjs_flat ts _ h.2 ob hm
theorem inject_move (hX : X.OK) {ok ok' : Nat → Prop} {own own' : List Own} (T : Ty) (x : T.den) (v : Value) (h : VR X w ok own (inject T x) v) (hc : (∀ b, ok b → ok' b) ∨ T.flat = true) : VR X w ok' own' (inject T x) v := by
  rcases hc with hc | hc
  · cases T <;> try exact h
    · exact Rep.mono hX (fun b hb => ⟨hc b hb, rfl⟩) _ _ _ h
    · obtain ⟨ha, cs, e, hr⟩ := h; exact ⟨ha, cs, e, Rep.mono hX (fun b hb => ⟨hc b hb, rfl⟩) _ _ _ hr⟩
    all_goals first
      | (obtain ⟨ha, cs, e, hr⟩ := h; exact ⟨ha, cs, e, Rep.mono hX (fun b hb => ⟨hc b hb, rfl⟩) _ _ _ hr⟩)
      | exact hX.mono (fun b hb => ⟨hc b hb, rfl⟩) h
  · cases T <;> try exact h
    all_goals first
      | (simp [Ty.flat] at hc; done)
      | (obtain ⟨ha, cs, e, hr⟩ := h; exact ⟨ha, cs, e, flat_rep _ _ _ hc hr⟩)
theorem putSlots_move (hX : X.OK) {ok ok' : Nat → Prop} {own own' : List Own} {f : Nat → Nat} (hf : ∀ (j : Nat) (o : Own), own[j]? = some o → own'[f j]? = some o) :
    ∀ (ss : List SP) {rest : List Ty} (x : Prods (slotTys ss rest)) (vs : List Value), VRs X w ok own (putSlots id ss x).1 vs → (∀ T, SP.dat T ∈ ss → (∀ b, ok b → ok' b) ∨ T.flat = true) →
      VRs X w ok' own' (putSlots f ss x).1 vs ∧ (putSlots f ss x).2 = (putSlots id ss x).2
  | [], rest, x, vs, h, hd => by simp only [putSlots] at h ⊢; cases h; exact ⟨.nil, rfl⟩
  | .dat T :: ss, rest, x, vs, h, hd => by
    simp only [putSlots] at h ⊢
    cases h with
    | cons h hs =>
      obtain ⟨r1, r2⟩ := putSlots_move hX hf ss (ptail x) _ hs (fun T hT => hd T (List.mem_cons_of_mem _ hT))
      exact ⟨.cons (inject_move hX T _ _ h (hd T (by simp))) r1, r2⟩
  | .ref j :: ss, rest, x, vs, h, hd => by
    simp only [putSlots] at h ⊢
    cases h with
    | cons h hs =>
      obtain ⟨r1, r2⟩ := putSlots_move hX hf ss x _ hs (fun T hT => hd T (List.mem_cons_of_mem _ hT))
      obtain ⟨o, ho, hl⟩ := h
      exact ⟨.cons ⟨o, hf j o ho, hl⟩ r1, r2⟩
  | .ptr j off :: ss, rest, x, vs, h, hd => by
    simp only [putSlots] at h ⊢
    cases h with
    | cons h hs =>
      obtain ⟨r1, r2⟩ := putSlots_move hX hf ss x _ hs (fun T hT => hd T (List.mem_cons_of_mem _ hT))
      obtain ⟨o, g, ho, hl⟩ := h
      exact ⟨.cons ⟨o, g, hf j o ho, hl⟩ r1, r2⟩
  | .skip :: ss, rest, x, vs, h, hd => by
    simp only [putSlots] at h ⊢
    cases h with
    | cons h hs =>
      obtain ⟨r1, r2⟩ := putSlots_move hX hf ss x _ hs (fun T hT => hd T (List.mem_cons_of_mem _ hT))
      exact ⟨.cons trivial r1, r2⟩
  | .fnc g js :: ss, rest, x, vs, h, hd => by
    simp only [putSlots] at h ⊢
    cases h with
    | cons h hs =>
      obtain ⟨r1, r2⟩ := putSlots_move hX hf ss x _ hs (fun T hT => hd T (List.mem_cons_of_mem _ hT))
      obtain ⟨us, e1, e2, e3⟩ := h
      refine ⟨.cons ⟨us, e1, by rw [e2]; simp, fun j i u hj hu => ?_⟩ r1, r2⟩
      rw [List.getElem?_map] at hj
      cases hjm : js[j]? with
      | none => rw [hjm] at hj; cases hj
      | some j0 =>
        rw [hjm] at hj
        have hj' : f j0 = i := Option.some.inj hj
        obtain ⟨o, g0, a1, a2, a3⟩ := e3 j j0 u (by simpa using hjm) hu
        exact ⟨o, g0, by rw [← hj']; exact hf j0 o a1, a2, a3⟩
theorem mkTup_VR {ok : Nat → Prop} {own : List Own} {avs : List AV} {vs : List Value} (h : VRs X w ok own avs vs) : VR X w ok own (mkTup avs) (.tuple vs.toArray) := by
  induction h with
  | nil => rfl
  | cons h _ ih => exact ⟨_, _, rfl, h, ih⟩
theorem resAV_VR {ok : Nat → Prop} {own : List Own} {avs : List AV} {vs : List Value} (h : VRs X w ok own avs vs) : VR X w ok own (resAV avs) (tupV vs) := by
  cases h with
  | nil => rfl
  | cons h hs =>
    cases hs with
    | nil => exact h
    | cons h2 hs => exact mkTup_VR (.cons h (.cons h2 hs))
/-- The part of the state that a call gets, and its own leave. -/
def passS (S : Nat → Prop) (lend : Bool) (own : List Own) (σ : List Nat) (b : Nat) : Prop := S b ∧ (lend = false → ∀ (i : Nat) (o : Own), own[i]? = some o → i ∉ σ → b ∉ o.bs)
theorem pass_holds (hX : X.OK) {s : Shape} {lend : Bool} {vals : List Value} {g : Got s} {own2 : List Own} {avs : List AV} {p : Prods (objTys s.objs)} (h1 : HR X S w g.objs own2) (h4 : VRs X w (okS S w own2) own2 avs vals)
    (h5 : readObjs g.objs s.objs g.σ = some p) (h6 : readSlots g.objs s.slots avs p = some g.x) (h7 : SlotsAt g.σ s.slots avs) (h8 : Distinct g.σ)
    (h10 : lend = false → ∀ (k : Nat) (T : Ty) (i : Nat), s.slots[k]? = some (.dat T) → avs[k]? = some (.ref i) → ∀ e l, Ob.get g.objs i ≠ .row e l)
    (h11 : lend = true → ∀ (k : Nat) (T : Ty) (i : Nat), s.slots[k]? = some (.dat T) → avs[k]? = some (.ref i) → i ∉ g.σ) :
    Holds X (passS S lend own2 g.σ) w (ownSub own2 s.objs g.σ) s g.x vals := by
  obtain ⟨a1, a2, _⟩ := readObjs_spec _ _ _ h5
  have hok : ∀ b, okS S w own2 b → okS (passS S lend own2 g.σ) w (ownSub own2 s.objs g.σ) b := fun b hb =>
    ⟨⟨hb.1, fun _ i o ho _ hbo => hb.2.2 o (List.mem_of_getElem? ho) hbo⟩, hb.2.1, (sub_ok hb).2.2⟩
  obtain ⟨r1, r2⟩ := slots_VR (f := id) (own' := ownSub own2 s.objs g.σ) (ok' := okS (passS S lend own2 g.σ) w (ownSub own2 s.objs g.σ)) hX h1 hok (σ := g.σ) (fun j i o hj ho => by
      obtain ⟨o', b1, b2, b3, b4, _⟩ := ownSub_get own2 s.objs g.σ j i o a1 hj ho
      exact ⟨o', b1, b2, b3, b4⟩) _ _ _ p g.x h6 h7 h4 (fun k T i e l o g' k1 k2 k3 k4 k5 => by
      cases hl : lend with
      | false => exact absurd k3 (h10 hl k T i k1 k2 e l)
      | true =>
        refine ⟨⟨(h1.lt i o g' k4 k5).2, fun hf => by cases hf⟩, (h1.lt i o g' k4 k5).1, fun o' ho' hb' => ?_⟩
        obtain ⟨j, hj⟩ := List.mem_iff_getElem?.1 ho'
        obtain ⟨i2, oi, c1, c2, c3, _⟩ := ownSub_bs own2 s.objs g.σ j o' g' hj hb'
        have := h1.dis i i2 o oi g' k4 c2 k5 c3
        subst this
        exact h11 hl k T i k1 k2 (List.mem_of_getElem? c1))
  refine ⟨?_, r1⟩
  rw [r2]
  refine sub_HR hX h1 h5 h8 (fun j i o b hj ho hb => ⟨(h1.lt i o b ho hb).2, fun _ i2 o2 ho2 hn hb2 => ?_⟩) hok
  have := h1.dis i i2 o o2 b ho ho2 hb hb2
  subst this
  exact hn (List.mem_of_getElem? hj)
theorem pass_ok {lend : Bool} {own2 : List Own} {s : Shape} {σ : List Nat} {b : Nat} (hb : okS S w own2 b) : okS (passS S lend own2 σ) w (ownSub own2 s.objs σ) b :=
  ⟨⟨hb.1, fun _ i o ho _ hbo => hb.2.2 o (List.mem_of_getElem? ho) hbo⟩, hb.2.1, (sub_ok hb).2.2⟩
theorem callE_sound (hX : X.OK) (hS : ∀ b, w.heap.size ≤ b → S b) (hI : X.inv w (okS S w own)) {call : CallFn E} {f : Nat} (hc : ∀ x y, call f x = some y → Spec P X (E.fn f).sig f x y) (hr : HR X S w st.objs own) {args : List AV} {vals : List Value} (hv : VRs X w (okS S w own) own args vals)
    (h : callE E call f args st k = some r) : Does P f vals.toArray w fun v w' => ∃ objs' own' av, k av { st with objs := objs' } = some r ∧ HR X S w' objs' own' ∧ Frm S w own w' own' ∧ OwnLe own own' ∧ VR X w' (okS S w' own') own' av v := by
  unfold callE at h
  split at h
  · cases h
  · rename_i g hg
    split at h
    · cases h
    · rename_i hall
      have hg' : (E.fn f).sig.ins.read (List.range 0) (E.fn f).sig.lends args st.objs = some g := hg
      obtain ⟨own2, avs, p, h1, h2, h3, h4, h5, h6, h7, h8, h9, h10, h11, _⟩ := (read_ok hX hS hr hv hg').ex
      obtain ⟨a1, a2, _⟩ := readObjs_spec _ _ _ h5
      have hlt : ∀ i ∈ g.σ, i < g.objs.length := fun i hi => by simpa using List.all_eq_true.1 hall i hi
      have hold := pass_holds hX h1 h4 h5 h6 h7 h8 h10 h11
      cases hy : call f g.x with
      | none => rw [hy] at h; cases h
      | some y =>
        rw [hy] at h
        simp only [Option.bind_some] at h
        have hfresh : ∀ b, w.heap.size ≤ b → passS S (E.fn f).sig.lends own2 g.σ b := fun b hb => ⟨hS b hb, fun _ i o ho _ hbo => by have := (h1.lt i o b ho hbo).1; omega⟩
        intro o a next Q hnext
        refine hc g.x y hy _ w _ vals hfresh (hX.invm (fun b hb => ⟨pass_ok (h2.ok b hb).1, rfl⟩) hI) hold o a next Q fun v w' => ?_
        rintro ⟨own', vs', ⟨hh1, hh2⟩, hf, hpin, hvv⟩
        refine hnext v w' ?_
        -- what may be kept
        have hflat : (E.fn f).sig.lends = true → (∀ T, SP.dat T ∈ (E.fn f).sig.outs.slots → T.flat = true) ∧ ∀ ob ∈ putObjs (E.fn f).sig.outs.objs (putSlots id (E.fn f).sig.outs.slots y).2, (match ob with | .row T _ => T.flat | .var T _ => T.flat | .vrow T _ => T.flat | .vout => true | .vst _ _ _ => false | .frz _ _ => false | .dead => true) = true := by
          intro hl
          unfold Sig.lends at hl
          split at hl
          · rename_i hs
            exact ⟨fun T hT => by simpa using List.all_eq_true.1 hs _ hT, putObjs_flat _ _ hl⟩
          · cases hl
        obtain ⟨q1, q2, q3, q4⟩ := rebuild hX h1 h8 hlt a1 (S' := passS S (E.fn f).sig.lends own2 g.σ) (fun b hb => hb.1) hh1 hf hpin (fun j ob o' hob ho' ok' hok' => by
          cases hl : (E.fn f).sig.lends with
          | false =>
            refine OR.mono hX (fun b hb => ⟨hok' b hb (fun i o2 ho2 hn => ?_), rfl⟩) _ _ (fun _ _ => rfl) (hh1.obj j ob o' hob ho')
            exact hb.1.2 hl i o2 ho2 hn
          | true => exact flat_OR _ _ ((hflat hl).2 ob (List.mem_of_getElem? hob)) (hh1.obj j ob o' hob ho'))
        have hlto : ∀ i ∈ g.σ, i < own2.length := fun i hi => by rw [h1.len]; exact hlt i hi
        have hlen : g.σ.length ≤ own'.length := by
          rcases Nat.lt_or_ge own'.length g.σ.length with hc' | hc'
          · exfalso
            have hl := ownSub_len own2 _ _ a1
            have : own'.length < (ownSub own2 (E.fn f).sig.ins.objs g.σ).length := by omega
            obtain ⟨o', ho', _⟩ := hpin own'.length _ (List.getElem?_eq_getElem this)
            have := (List.getElem?_eq_some_iff.1 ho').1
            omega
          · exact hc'
        obtain ⟨s1, s2⟩ := putSlots_move (ok' := okS S w' (setL own2 g.σ own')) (own' := setL own2 g.σ own') (f := renum g.σ g.objs.length) hX (fun j o' ho' => by rw [← h1.len, setL_at h8 hlto hlen]; exact ho') _ y vs' hh2 (fun T hT => by
          rcases Bool.eq_false_or_eq_true (E.fn f).sig.lends with hl | hl
          · exact .inr ((hflat hl).1 T hT)
          · exact .inl fun b hb => q4 b hb (fun i o2 ho2 hn => hb.1.2 hl i o2 ho2 hn))
        refine ⟨_, _, _, h, ?_, h2.trans q2, h3.trans q3, ?_⟩
        · rw [s2]; exact q1
        · rw [hvv]; exact resAV_VR s1
end
end Go.Proofs.YtgelkklendpeoaaGreat.AE

namespace Go.Proofs.YtgelkklendpeoaaGreat.AE
set_option linter.unusedVariables false
set_option linter.unusedSimpArgs false
open Go
set_option linter.unusedVariables false
set_option linter.unusedSimpArgs false

section
variable {X : ExtRep} {S : Nat → Prop} {P : Program} {E : Env} {w : World} {own : List Own} {R : Type} {r : R} {st : St} {a : Act} {o : Oper}
theorem ops_VRs {own : List Own} (ht : TR X w (okS S w own) own st.tmps a.tmps) : ∀ (xs : List Operand), VRs X w (okS S w own) own (xs.map (opd st)) (xs.map a.eval)
  | [] => .nil
  | x :: xs => .cons (opd_VR ht x) (ops_VRs ht xs)
theorem VRs.append {ok : Nat → Prop} {own : List Own} {avs avs' : List AV} {vs vs' : List Value} (h : VRs X w ok own avs vs) (h' : VRs X w ok own avs' vs') : VRs X w ok own (avs ++ avs') (vs ++ vs') := by
  induction h with
  | nil => exact h'
  | cons h _ ih => exact .cons h ih
theorem caps_VRs {ok : Nat → Prop} {own : List Own} : ∀ (cs : List Nat) (vs : List Value), vs.length = cs.length → (∀ (j i : Nat) (u : Value), cs[j]? = some i → vs[j]? = some u → ∃ (o : Own) (g : Nat), own[i]? = some o ∧ o.v = .pointer (some ⟨g, 0, none⟩) ∧ u = .pointer (some ⟨g, 0, none⟩)) →
    VRs X w ok own (cs.map (.ptr · 0)) vs
  | [], [], _, _ => .nil
  | [], _ :: _, h, _ => by simp at h
  | _ :: _, [], h, _ => by simp at h
  | c :: cs, v :: vs, h, hh => by
    obtain ⟨o, g, h1, h2, h3⟩ := hh 0 c v rfl rfl
    exact .cons ⟨o, g, h1, h2, h3⟩ (caps_VRs cs vs (by simpa using h) (fun j i u h1 h2 => hh (j + 1) i u (by simpa using h1) (by simpa using h2)))
/-- Every function that is called keeps its contract. -/
def CallOK (P : Program) (X : ExtRep) (E : Env) (call : CallFn E) : Prop := ∀ f x y, call f x = some y → Spec P X (E.fn f).sig f x y
/-- AN OPERATION in the walk. -/
theorem op_wp (hX : X.OK) (hE : tysOK P E.tys = true) {call : CallFn E} (hc : CallOK P X E call) {w0 : World} {own0 : List Own} (hS : ∀ b, w0.heap.size ≤ b → S b) (hI : X.inv w0 (okS S w0 own0)) (hs : SR X S w0 own0 st a w) {k : St → Option R} (h : op E call o st k = some r) {next : Act → World → Prop} {Q : Exit → Act → World → Prop}
    (hk : ∀ st' a' w', k st' = some r → SR X S w0 own0 st' a' w' → st'.tmps.length = st.tmps.length → next a' w') : o.wp P a w next Q := by
  obtain ⟨hd, own, hr, f0, l0, ht⟩ := hs
  have hS' : ∀ b, w.heap.size ≤ b → S b := fun b hb => hS b (by have := f0.sz; omega)
  have hput : ∀ (objs' : List Ob) (av : AV), (({ st with objs := objs' } : St).put o.dst av).tmps.length = st.tmps.length := by
    intro objs' av
    cases o.dst <;> simp [St.put]
  by_cases hcall : ∃ fv args tys, o.op = .call { callee := .value fv, args, argTypes := tys }
  · obtain ⟨fv, args, tys, ho⟩ := hcall
    simp only [op, ho] at h
    unfold fnCall at h
    split at h
    · rename_i f cs e1
      have hfv := opd_VR ht fv
      rw [e1] at hfv
      obtain ⟨vs, ev, hl, hcs⟩ := hfv
      have hargs := (ops_VRs ht args.toList).append (caps_VRs (ok := okS S w own) cs vs hl hcs)
      have hdo := callE_sound (w := w) hX hS' (hX.invm f0.ok hI) (f := f) (hc f) hr hargs h
      have hrun : (execOp a.eval o).run P w = (callFunc f ((args.toList.map a.eval) ++ vs).toArray).run P w := by
        simp only [execOp, ho, resolve, Sem.run_bind]
        rw [ev]
        simp only [Deferred.ofValue, Sem.run_pure, Result.andThen_ok, invoke]
        congr 2
        cases args
        simp
      unfold Oper.wp
      rw [hrun]
      refine hdo o a next Q fun v w' => ?_
      rintro ⟨objs', own', av, hk', hr', f', l', hv'⟩
      refine hk _ _ _ hk' ?_ (hput objs' av)
      exact SR.step hX hd f0 l0 ht hr' f' l' o.dst hv'
    · cases h
  · obtain ⟨objs', av, hk', ⟨res, v, w', own', hrun, hres, hr', f', l', hv'⟩⟩ := op_sound hX hE hr ht hS' (fun fv args tys ho => hcall ⟨fv, args, tys, ho⟩) h
    have hsr := SR.step hX hd f0 l0 ht hr' f' l' o.dst hv'
    unfold Oper.wp
    rw [hrun]
    rcases hres with rfl | ⟨rfl, rfl⟩
    · exact hk _ _ _ hk' hsr (hput objs' av)
    · exact hk _ _ _ hk' hsr (hput objs' av)
theorem guard_VR {own : List Own} (ht : TR X w (okS S w own) own st.tmps a.tmps) (all : List Oper) (j : Nat) {av : AV} (h : guardAV all st j = av) :
    (∀ b, av = .bool b → yielded all.toArray a.tmps j = some b) ∧ (av = .skp → yielded all.toArray a.tmps j = none) := by
  unfold guardAV at h
  unfold yielded
  rw [List.getElem?_toArray]
  cases hj : all[j]? with
  | none => rw [hj] at h; subst h; simp
  | some oj =>
    rw [hj] at h
    simp only at h
    cases hd : oj.dst with
    | none => rw [hd] at h; subst h; simp [hd]
    | some d =>
      rw [hd] at h
      simp only at h
      have hv := opd_VR ht (.tmp d)
      simp only [opd, Act.eval, h] at hv
      simp only [Option.bind_some, hd]
      constructor
      · intro b e
        subst e
        simp only [VR] at hv
        have : a.tmps[d]? = some (.bool b) := by
          by_cases hl : d < a.tmps.size
          · simp [hl] at hv ⊢; exact hv
          · simp [hl] at hv; cases hv
        rw [this]
      · intro e
        subst e
        simp only [VR] at hv
        by_cases hl : d < a.tmps.size
        · simp [hl] at hv ⊢
          rw [hv]; rfl
        · simp [hl]
theorem wanted_none {o : Oper} {y : Nat → Option Bool} (h : o.guard = none) : Region.wanted o y = true := by simp [Region.wanted, h]
theorem skp_SR {w0 : World} {own0 : List Own} (hs : SR X S w0 own0 st a w) (d : Option Nat) : SR X S w0 own0 (st.put d .skp) (a.put d undef) w := by
  obtain ⟨hd, own, hr, f0, l0, ht⟩ := hs
  exact SR.put hd f0 l0 ht hr d rfl
theorem ops_wp (hX : X.OK) (hE : tysOK P E.tys = true) {call : CallFn E} (hc : CallOK P X E call) {w0 : World} {own0 : List Own} (hS : ∀ b, w0.heap.size ≤ b → S b) (hI : X.inv w0 (okS S w0 own0)) (all : List Oper) {Q : Exit → Act → World → Prop} :
    ∀ (l : List Oper) {st : St} {a : Act} {w : World} {k : St → Option R}, SR X S w0 own0 st a w → opsE E call false all l st k = some r →
      (∀ st' a' w', k st' = some r → SR X S w0 own0 st' a' w' → st'.tmps.length = st.tmps.length → Q .normal a' w') → wpList P all.toArray Q l a w
  | [], st, a, w, k, hs, h, hk => hk st a w h hs rfl
  | o :: l, st, a, w, k, hs, h, hk => by
    have run : ∀ (h : op E call o st (fun st' => opsE E call false all l st' k) = some r), o.wp P a w (wpList P all.toArray Q l) Q := fun h =>
      op_wp hX hE hc hS hI hs h (fun st' a' w' h' hs' hl => ops_wp hX hE hc hS hI all l hs' h' (fun st2 a2 w2 h2 hs2 hl2 => hk st2 a2 w2 h2 hs2 (hl2.trans hl)))
    have skip : ∀ (h : opsE E call false all l (st.put o.dst .skp) k = some r), wpList P all.toArray Q l (a.put o.dst undef) w := fun h =>
      ops_wp hX hE hc hS hI all l (skp_SR hs o.dst) h (fun st2 a2 w2 h2 hs2 hl2 => hk st2 a2 w2 h2 hs2 (hl2.trans (by cases o.dst <;> simp [St.put])))
    have hs' := hs
    obtain ⟨_, own, _, _, _, ht⟩ := hs'
    unfold wpList
    simp only [opsE] at h
    split at h
    · rename_i hg
      rw [if_pos (wanted_none hg)]
      exact .inl (run h)
    · rename_i j want hg
      split at h
      · rename_i b hb
        have hy := (guard_VR (st := st) ht all j hb).1 b rfl
        cases hbw : (b == want) with
        | true =>
          rw [hbw] at h
          rw [if_pos (by simp [Region.wanted, hg, hy]; simpa using hbw)]
          exact .inl (run h)
        | false =>
          rw [hbw] at h
          rw [if_neg (by simp [Region.wanted, hg, hy]; simpa using hbw)]
          exact skip h
      · rename_i hb
        have hy := (guard_VR (st := st) ht all j hb).2 rfl
        rw [if_neg (by simp [Region.wanted, hg, hy])]
        exact skip h
      · cases h
end
end Go.Proofs.YtgelkklendpeoaaGreat.AE

namespace Go.Proofs.YtgelkklendpeoaaGreat.AE
set_option linter.unusedVariables false
set_option linter.unusedSimpArgs false
open Go
set_option linter.unusedVariables false
set_option linter.unusedSimpArgs false

section
variable {X : ExtRep} {S : Nat → Prop} {P : Program} {E : Env} {R : Type} {o : Oper} {st st' : St}
/-- The same operands, the same things. -/
structure Agree (o : Oper) (st st' : St) : Prop where
  ops : ∀ x, x ∈ o.op.operands.toList → opd st' x = opd st x
  objs : st'.objs = st.objs
theorem abin_pick {op : BinOp} {a b : AV} {k : AV → Option R} {r : R} (h : abin op a b k = some r) : ∃ av, (∀ k' : AV → Option R, abin op a b k' = k' av) ∧ k av = some r := by
  unfold abin at h ⊢
  split at h
  · split at h
    · cases h
    · rename_i hn; exact ⟨_, fun k' => by simp only [hn, if_false], h⟩
  · split at h
    · cases h
    · rename_i hn; exact ⟨_, fun k' => by simp only [hn, if_false], h⟩
  · rename_i op kd x kd' y h1 h2
    split at h
    · cases h
    · rename_i hk
      split at h <;> first
        | exact ⟨_, fun k' => by simp only [hk], h⟩
        | (split at h; (· cases h); rename_i hn; exact ⟨_, fun k' => by simp only [hk, hn, if_false], h⟩)
        | cases h
  · split at h <;> first
      | exact ⟨_, fun k' => rfl, h⟩
      | (split at h; (· rename_i hn; exact ⟨_, fun k' => by simp only [hn, if_true], h⟩); cases h)
      | cases h
  · cases h
theorem aeq_pick {T : Ty} {os : List Ob} {a b : AV} {k : Bool → Option R} {r : R} (h : aeq T os a b k = some r) : ∃ c, (∀ k' : Bool → Option R, aeq T os a b k' = k' c) ∧ k c = some r := by
  unfold aeq at h ⊢
  split at h
  · exact ⟨_, fun k' => rfl, h⟩
  · exact ⟨_, fun k' => rfl, h⟩
  · exact ⟨_, fun k' => rfl, h⟩
  · split at h
    · rename_i hn; exact ⟨_, fun k' => by simp only [hn, if_true], h⟩
    · cases h
  · split at h
    · rename_i hg
      split at h
      · rename_i hn; exact ⟨_, fun k' => by simp only [hg, hn, if_true], h⟩
      · cases h
    · rename_i hg
      split at h
      · rename_i hn; exact ⟨_, fun k' => by simp only [hg, hn, if_true], h⟩
      · cases h
    · cases h
  · cases h
theorem aggeq_pick {T : Ty} {a b : AV} {k : Bool → Option R} {r : R} (h : aggeq T a b k = some r) : ∃ c, (∀ k' : Bool → Option R, aggeq T a b k' = k' c) ∧ k c = some r := by
  unfold aggeq at h ⊢
  split at h
  · split at h
    · rename_i h1 h2
      split at h
      · rename_i c hc; exact ⟨c, fun k' => by simp only [h1, h2, hc], h⟩
      · cases h
    · cases h
  · cases h
theorem anyeq_pick {ti : TI} {os : List Ob} {a b : AV} {k : Bool → Option R} {r : R} (h : anyeq ti os a b k = some r) : ∃ c, (∀ k' : Bool → Option R, anyeq ti os a b k' = k' c) ∧ k c = some r := by
  unfold anyeq at h ⊢
  split at h
  · exact aggeq_pick h
  · exact aeq_pick h
theorem opS_pick {k : AV → Option R} {r : R} (h : opS E o st k = some r) : ∃ av, (∀ k' : AV → Option R, opS E o st k' = k' av) ∧ k av = some r := by
  cases ho : o.op
  case binOp op t x y yt =>
    simp only [opS, ho] at h ⊢
    cases op
    case eql =>
      simp only at h ⊢
      split at h
      · rename_i e; obtain ⟨av, h1, h2⟩ := abin_pick h; exact ⟨av, fun k' => h1 k', h2⟩
      · rename_i e; obtain ⟨av, h1, h2⟩ := abin_pick h; exact ⟨av, fun k' => h1 k', h2⟩
      · rename_i n1 n2
        split at h
        · rename_i ti e
          obtain ⟨c, h1, h2⟩ := anyeq_pick h
          exact ⟨_, fun k' => h1 (fun r => k' (.bool r)), h2⟩
        · cases h
    case neq =>
      simp only at h ⊢
      split at h
      · rename_i e; obtain ⟨av, h1, h2⟩ := abin_pick h; exact ⟨av, fun k' => h1 k', h2⟩
      · rename_i e; obtain ⟨av, h1, h2⟩ := abin_pick h; exact ⟨av, fun k' => h1 k', h2⟩
      · rename_i n1 n2
        split at h
        · rename_i ti e
          obtain ⟨c, h1, h2⟩ := anyeq_pick h
          exact ⟨_, fun k' => h1 (fun r => k' (.bool (!r))), h2⟩
        · cases h
    all_goals exact abin_pick h
  case unOp op t x =>
    simp only [opS, ho] at h ⊢
    split at h
    · rename_i e; exact ⟨_, fun k' => by simp only [e], h⟩
    · rename_i e; exact ⟨_, fun k' => by simp only [e], h⟩
    · rename_i e; exact ⟨_, fun k' => by simp only [e], h⟩
    · cases h
  case pick c x y =>
    simp only [opS, ho] at h ⊢
    split at h
    · rename_i b e
      cases b with
      | true => exact ⟨_, fun k' => rfl, h⟩
      | false => exact ⟨_, fun k' => rfl, h⟩
    · cases h
  case call c =>
    obtain ⟨callee, args, argTypes⟩ := c
    cases callee <;> simp only [opS, ho] at h ⊢
    all_goals (repeat' split at h) <;> first | (cases h; done) | (refine ⟨_, fun k' => ?_, h⟩; first | rfl | (simp only [*, if_true, if_false, and_self]; done) | (simp [*]; done))
  case slice t x lo hi mx =>
    cases mx <;> simp only [opS, ho] at h ⊢
    all_goals (repeat' split at h) <;> first | (cases h; done) | (refine ⟨_, fun k' => ?_, h⟩; first | rfl | (simp only [*, if_true, if_false, and_self]; done) | (simp [*]; done))
  all_goals
    simp only [opS, ho] at h ⊢
  all_goals (repeat' split at h) <;> first | (cases h; done) | (refine ⟨_, fun k' => ?_, h⟩; first | rfl | (simp only [*, if_true, if_false, and_self]; done) | (simp [*]; done))
theorem opdT_agree (h : Agree o st st') (t : TypeId) {x : Operand} (hx : x ∈ o.op.operands.toList) : opdT E t st' x = opdT E t st x := by
  have := h.ops x hx
  unfold opdT
  split
  · rfl
  · exact this
theorem bound_agree (h : Agree o st st') (d : Int) {x : Option Operand} (hx : ∀ y, x = some y → y ∈ o.op.operands.toList) : bound st' d x = bound st d x := by
  cases x with
  | none => rfl
  | some y => simp only [bound, h.ops y (hx y rfl)]
theorem map_agree (h : Agree o st st') {l : List Operand} (hl : ∀ x ∈ l, x ∈ o.op.operands.toList) : l.map (opd st') = l.map (opd st) :=
  List.map_congr_left fun x hx => h.ops x (hl x hx)
theorem opS_agree (h : Agree o st st') (k : AV → Option R) : opS E o st' k = opS E o st k := by
  have hobj := h.objs
  cases ho : o.op
  case move x => simp only [opS, ho]; rw [opdT_agree h _ (by simp [ho, Op.operands])]
  case assign x => simp only [opS, ho]; rw [opdT_agree h _ (by simp [ho, Op.operands])]
  case load t x => simp only [opS, ho, hobj]; rw [h.ops x (by simp [ho, Op.operands])]
  case pick c x y => simp only [opS, ho]; rw [h.ops c (by simp [ho, Op.operands]), h.ops x (by simp [ho, Op.operands]), h.ops y (by simp [ho, Op.operands])]
  case nilCheck x => simp only [opS, ho, hobj]; rw [h.ops x (by simp [ho, Op.operands])]
  case binOp op t x y yt => simp only [opS, ho, hobj]; rw [h.ops x (by simp [ho, Op.operands]), h.ops y (by simp [ho, Op.operands])]
  case unOp op t x => simp only [opS, ho, hobj]; rw [h.ops x (by simp [ho, Op.operands])]
  case convert s d x => simp only [opS, ho, hobj]; rw [h.ops x (by simp [ho, Op.operands])]
  case fieldAddr t x f => simp only [opS, ho, hobj]; rw [h.ops x (by simp [ho, Op.operands])]
  case field t x f => simp only [opS, ho, hobj]; rw [h.ops x (by simp [ho, Op.operands])]
  case indexAddr t x i => simp only [opS, ho, hobj]; rw [h.ops x (by simp [ho, Op.operands]), h.ops i (by simp [ho, Op.operands])]
  case index t x i => simp only [opS, ho, hobj]; rw [h.ops x (by simp [ho, Op.operands]), h.ops i (by simp [ho, Op.operands])]
  case slice t x lo hi mx =>
    have e1 := h.ops x (by simp [ho, Op.operands])
    have e2 : ∀ d, bound st' d lo = bound st d lo := fun d => bound_agree h d (fun y hy => by subst hy; simp [ho, Op.operands])
    have e3 : ∀ d, bound st' d hi = bound st d hi := fun d => bound_agree h d (fun y hy => by subst hy; simp [ho, Op.operands])
    cases mx <;> simp only [opS, ho, hobj, e1, e2, e3]
  case build t parts =>
    have e : (parts.toList.map fun p => (p.1, opd st' p.2)) = parts.toList.map fun p => (p.1, opd st p.2) := List.map_congr_left fun p hp => by
      rw [h.ops p.2 (by simp [ho, Op.operands]; exact ⟨p.1, by simpa using hp⟩)]
    simp only [opS, ho, hobj, e]
  case extract x i => simp only [opS, ho, hobj]; rw [h.ops x (by simp [ho, Op.operands])]
  case makeFunc fn f c => simp only [opS, ho, hobj]; rw [map_agree h (fun x hx => by simp [ho, Op.operands]; exact .inr (by simpa using hx))]
  case call c =>
    obtain ⟨callee, args, argTypes⟩ := c
    cases callee with
    | builtin b => simp only [opS, ho, hobj]; rw [map_agree h (fun x hx => by simp [ho, Op.operands, Call.operands]; simpa using hx)]
    | value f => simp only [opS, ho]
    | invoke x m => simp only [opS, ho]
  all_goals simp only [opS, ho]
/-- The same operands, the same things where the operands lead. -/
structure AgreeL (o : Oper) (st st' : St) : Prop where
  ops : ∀ x, x ∈ o.op.operands.toList → opd st' x = opd st x
  objs : ∀ x, x ∈ o.op.operands.toList → ∀ i ∈ idsA (opd st x), Ob.get st'.objs i = Ob.get st.objs i
theorem loadA_L {os os' : List Ob} {a : AV} (h : ∀ i ∈ idsA a, Ob.get os' i = Ob.get os i) (T : Ty) : loadA os' a T = loadA os a T := by
  cases a with
  | ptr i off => simp only [loadA]; rw [h i (by simp [idsA])]
  | ea i ix off => simp only [loadA]; rw [h i (by simp [idsA])]
  | _ => rfl
theorem readDat_L {os os' : List Ob} {a : AV} (h : ∀ i ∈ idsA a, Ob.get os' i = Ob.get os i) (T : Ty) : readDat os' T a = readDat os T a := by
  cases a with
  | ref i => cases T <;> simp only [readDat]; rw [h i (by simp [idsA])]
  | _ => cases T <;> rfl
theorem readS_L {os os' : List Ob} {a : AV} (h : ∀ i ∈ idsA a, Ob.get os' i = Ob.get os i) (T : Ty) : readS os' T a = readS os T a := by
  cases a with
  | ref i => simp only [readS]; rw [h i (by simp [idsA])]
  | _ => exact readDat_L h T
theorem lenA_L {os os' : List Ob} {a : AV} (h : ∀ i ∈ idsA a, Ob.get os' i = Ob.get os i) (T : Ty) : lenA T os' a = lenA T os a := by
  cases a with
  | ref i => simp only [lenA]; rw [h i (by simp [idsA])]
  | _ => rfl
theorem aeq_L {os os' : List Ob} {a : AV} (h : ∀ i ∈ idsA a, Ob.get os' i = Ob.get os i) (T : Ty) (b : AV) (k : Bool → Option R) : aeq T os' a b k = aeq T os a b k := by
  cases a with
  | ref i =>
    have h1 := h i (by simp [idsA])
    cases T <;> cases b <;> first | rfl | (simp only [aeq]; rw [h1])
  | _ => unfold aeq; split <;> first | rfl | (rename_i h1; cases h1)
theorem anyeq_L {os os' : List Ob} {a : AV} (h : ∀ i ∈ idsA a, Ob.get os' i = Ob.get os i) (ti : TI) (b : AV) (k : Bool → Option R) : anyeq ti os' a b k = anyeq ti os a b k := by
  unfold anyeq
  split
  · rfl
  · exact aeq_L h _ b k
theorem setFields_L {os os' : List Ob} {T : Ty} : ∀ (ps : List (Nat × AV)) (x : T.den), (∀ p ∈ ps, ∀ i ∈ idsA p.2, Ob.get os' i = Ob.get os i) → setFields os' T ps x = setFields os T ps x
  | [], _, _ => rfl
  | (f, v) :: ps, x, h => by
    have ih : ∀ x, setFields os' T ps x = setFields os T ps x := fun x => setFields_L ps x fun p hp => h p (by simp [hp])
    have h1 : ∀ F, readS os' F v = readS os F v := fun F => readS_L (h (f, v) (by simp)) F
    simp only [setFields, h1, ih]
theorem noRows_L {os os' : List Ob} : ∀ (vs : List AV), (∀ v ∈ vs, ∀ i ∈ idsA v, Ob.get os' i = Ob.get os i) → noRows os' vs = noRows os vs
  | [], _ => rfl
  | v :: vs, h => by
    have ih := noRows_L vs fun u hu => h u (by simp [hu])
    unfold noRows at ih ⊢
    simp only [List.all_cons, ih]
    congr 1
    cases v with
    | ref i => simp only; rw [h (.ref i) (by simp) i (by simp [idsA])]
    | _ => rfl
theorem listSets_L {os os' : List Ob} {T : Ty} : ∀ (ps : List (Nat × AV)) (l : List T.den), (∀ p ∈ ps, ∀ i ∈ idsA p.2, Ob.get os' i = Ob.get os i) → listSets os' T ps l = listSets os T ps l
  | [], _, _ => rfl
  | (f, v) :: ps, l, h => by
    have ih : ∀ l, listSets os' T ps l = listSets os T ps l := fun l => listSets_L ps l fun p hp => h p (by simp [hp])
    simp only [listSets, readDat_L (h (f, v) (by simp)) T, ih]
theorem bsS_L {t : TypeId} {len : Nat} {ps : List (Nat × AV)} {st st' : St} (h : ∀ p ∈ ps, ∀ i ∈ idsA p.2, Ob.get st'.objs i = Ob.get st.objs i) (k : AV → Option R) : bsS E t len ps st' k = bsS E t len ps st k := by
  have h1 : noRows st'.objs (ps.map (·.2)) = noRows st.objs (ps.map (·.2)) := noRows_L _ fun v hv => by
    obtain ⟨p, hp, rfl⟩ := List.mem_map.1 hv
    exact h p hp
  have h2 : ∀ (T : Ty) (l : List T.den), listSets st'.objs T ps l = listSets st.objs T ps l := fun T l => listSets_L ps l h
  unfold bsS
  simp only [h1, h2]
theorem opS_agreeL (h : AgreeL o st st') (k : AV → Option R) : opS E o st' k = opS E o st k := by
  have hT : ∀ (t : TypeId) {x : Operand}, x ∈ o.op.operands.toList → opdT E t st' x = opdT E t st x := fun t {x} hx => by
    have := h.ops x hx
    unfold opdT
    split
    · rfl
    · exact this
  have hbd : ∀ (d : Int) {x : Option Operand}, (∀ y, x = some y → y ∈ o.op.operands.toList) → bound st' d x = bound st d x := fun d {x} hx => by
    cases x with
    | none => rfl
    | some y => simp only [bound, h.ops y (hx y rfl)]
  cases ho : o.op
  case move x => simp only [opS, ho]; rw [hT _ (by simp [ho, Op.operands])]
  case assign x => simp only [opS, ho]; rw [hT _ (by simp [ho, Op.operands])]
  case load t x => simp only [opS, ho]; rw [h.ops x (by simp [ho, Op.operands])]; simp only [loadA_L (h.objs x (by simp [ho, Op.operands]))]
  case pick c x y => simp only [opS, ho]; rw [h.ops c (by simp [ho, Op.operands]), h.ops x (by simp [ho, Op.operands]), h.ops y (by simp [ho, Op.operands])]
  case nilCheck x =>
    have h1 := h.objs x (by simp [ho, Op.operands])
    simp only [opS, ho]; rw [h.ops x (by simp [ho, Op.operands])]
    revert h1
    cases opd st x <;> intro h1 <;> first | rfl | (simp only; rw [h1 _ (by simp [idsA])])
  case binOp op t x y yt =>
    have h1 : ∀ (T : TI) (b : AV) (k : Bool → Option R), anyeq T st'.objs (opd st x) b k = anyeq T st.objs (opd st x) b k := fun T b k => anyeq_L (h.objs x (by simp [ho, Op.operands])) T b k
    simp only [opS, ho]; rw [h.ops x (by simp [ho, Op.operands]), h.ops y (by simp [ho, Op.operands])]
    revert h1
    generalize opd st x = a
    generalize opd st y = b
    intro h1
    cases op <;> first | rfl | (cases a <;> simp only [h1])
  case unOp op t x => simp only [opS, ho]; rw [h.ops x (by simp [ho, Op.operands])]
  case convert s d x =>
    have h1 : ∀ T, readDat st'.objs T (opd st x) = readDat st.objs T (opd st x) := fun T => readDat_L (h.objs x (by simp [ho, Op.operands])) T
    simp only [opS, ho]; rw [h.ops x (by simp [ho, Op.operands])]
    revert h1
    generalize opd st x = a
    intro h1
    have h2 := h1 (.slice (.int .u8))
    cases E.ti s with
    | none => rfl
    | some ts => cases E.ti d with
      | none => rfl
      | some td =>
        simp only
        split
        · rfl
        · rfl
        · rw [h2]
        · rfl
  case fieldAddr t x f =>
    have h1 := h.objs x (by simp [ho, Op.operands])
    simp only [opS, ho]; rw [h.ops x (by simp [ho, Op.operands])]
    revert h1
    cases opd st x <;> intro h1 <;> first | rfl | (simp only; rw [h1 _ (by simp [idsA])])
  case field t x f => simp only [opS, ho]; rw [h.ops x (by simp [ho, Op.operands])]
  case indexAddr t x i =>
    have h1 := h.objs x (by simp [ho, Op.operands])
    simp only [opS, ho]; rw [h.ops x (by simp [ho, Op.operands]), h.ops i (by simp [ho, Op.operands])]
    revert h1
    cases opd st x <;> intro h1 <;> first | rfl | (simp only; rw [h1 _ (by simp [idsA])])
  case index t x i => simp only [opS, ho]; rw [h.ops x (by simp [ho, Op.operands]), h.ops i (by simp [ho, Op.operands])]
  case slice t x lo hi mx =>
    have h1 := h.objs x (by simp [ho, Op.operands])
    have e1 := h.ops x (by simp [ho, Op.operands])
    have e2 : ∀ d, bound st' d lo = bound st d lo := fun d => hbd d (fun y hy => by subst hy; simp [ho, Op.operands])
    have e3 : ∀ d, bound st' d hi = bound st d hi := fun d => hbd d (fun y hy => by subst hy; simp [ho, Op.operands])
    cases mx with
    | some m => simp only [opS, ho]
    | none =>
      simp only [opS, ho, e1, e2, e3]
      revert h1
      cases opd st x <;> intro h1 <;> first | rfl | (simp only; rw [h1 _ (by simp [idsA])])
  case build t parts =>
    have e : (parts.toList.map fun p => (p.1, opd st' p.2)) = parts.toList.map fun p => (p.1, opd st p.2) := List.map_congr_left fun p hp => by
      rw [h.ops p.2 (by simp [ho, Op.operands]; exact ⟨p.1, by simpa using hp⟩)]
    have h1 : ∀ (T : Ty) (x : T.den), setFields st'.objs T (parts.toList.map fun p => (p.1, opd st p.2)) x = setFields st.objs T (parts.toList.map fun p => (p.1, opd st p.2)) x := fun T x => setFields_L _ x fun p hp => by
      obtain ⟨q, hq, rfl⟩ := List.mem_map.1 hp
      exact h.objs q.2 (by simp [ho, Op.operands]; exact ⟨q.1, by simpa using hq⟩)
    simp only [opS, ho, e, h1]
  case extract x i => simp only [opS, ho]; rw [h.ops x (by simp [ho, Op.operands])]
  case makeFunc fn f c =>
    have e : c.toList.map (opd st') = c.toList.map (opd st) := List.map_congr_left fun x hx => h.ops x (by simp [ho, Op.operands]; exact .inr (by simpa using hx))
    simp only [opS, ho]; rw [e]
  case call c =>
    obtain ⟨callee, args, argTypes⟩ := c
    cases callee with
    | builtin b =>
      have e : args.toList.map (opd st') = args.toList.map (opd st) := List.map_congr_left fun x hx => h.ops x (by simp [ho, Op.operands, Call.operands]; simpa using hx)
      have h1 : ∀ v ∈ args.toList.map (opd st), ∀ T, lenA T st'.objs v = lenA T st.objs v := fun v hv T => by
        obtain ⟨x, hx, rfl⟩ := List.mem_map.1 hv
        exact lenA_L (h.objs x (by simp [ho, Op.operands, Call.operands]; simpa using hx)) T
      simp only [opS, ho, e]
      revert h1
      generalize args.toList.map (opd st) = l
      intro h1
      cases b <;> first | rfl | (cases l with
        | nil => rfl
        | cons v l => cases l with
          | nil => simp only [h1 v (by simp)]
          | cons u l => split <;> first | rfl | (rename_i h3; cases h3))
    | value f => simp only [opS, ho]
    | invoke x m => simp only [opS, ho]
  all_goals simp only [opS, ho]
/-- All things but some stay. -/
def Keeps (K : Nat → Prop) (os os' : List Ob) : Prop := os.length ≤ os'.length ∧ ∀ i, i < os.length → ¬ K i → Ob.get os' i = Ob.get os i
theorem Keeps.refl (K : Nat → Prop) (os : List Ob) : Keeps K os os := ⟨Nat.le_refl _, fun _ _ _ => rfl⟩
theorem Keeps.trans {K : Nat → Prop} {a b c : List Ob} (h : Keeps K a b) (k : Keeps K b c) : Keeps K a c :=
  ⟨Nat.le_trans h.1 k.1, fun i hi hn => (k.2 i (Nat.lt_of_lt_of_le hi h.1) hn).trans (h.2 i hi hn)⟩
theorem Keeps.app (K : Nat → Prop) (os l : List Ob) : Keeps K os (os ++ l) := by
  refine ⟨by simp, fun i hi _ => ?_⟩
  unfold Ob.get
  rw [List.getD_eq_getElem?_getD, List.getD_eq_getElem?_getD, List.getElem?_append_left hi]
theorem Keeps.set {K : Nat → Prop} {os : List Ob} {j : Nat} {x : Ob} (hj : K j) : Keeps K os (os.set j x) := by
  refine ⟨by simp, fun i hi hn => ?_⟩
  unfold Ob.get
  rw [List.getD_eq_getElem?_getD, List.getD_eq_getElem?_getD, List.getElem?_set_ne (fun e => hn (by rw [← e]; exact hj))]
theorem Keeps.freezeV {K : Nat → Prop} {os : List Ob} {v : AV} (hv : ∀ i ∈ idsA v, K i) : Keeps K os (freezeV os v) := by
  cases v with
  | ref i => exact Keeps.set (hv i (by simp [idsA]))
  | _ => exact Keeps.refl _ _
theorem Keeps.freezeAll {K : Nat → Prop} : ∀ {vs : List AV} {os : List Ob}, (∀ v ∈ vs, ∀ i ∈ idsA v, K i) → Keeps K os (freezeAll os vs)
  | [], os, _ => Keeps.refl _ _
  | v :: vs, os, h => (Keeps.freezeV (h v (by simp))).trans (Keeps.freezeAll fun u hu => h u (by simp [hu]))
theorem Keeps.freezeSlots {K : Nat → Prop} : ∀ {ss : List SP} {vs : List AV} {os : List Ob}, (∀ v ∈ vs, ∀ i ∈ idsA v, K i) → Keeps K os (freezeSlots ss vs os)
  | [], _, os, _ => Keeps.refl _ _
  | .dat T :: ss, v :: vs, os, h => (Keeps.freezeV (h v (by simp))).trans (Keeps.freezeSlots fun u hu => h u (by simp [hu]))
  | .ref _ :: ss, v :: vs, os, h | .ptr _ _ :: ss, v :: vs, os, h | .skip :: ss, v :: vs, os, h | .fnc _ _ :: ss, v :: vs, os, h => by
    show Keeps K os (AE.freezeSlots ss vs os)
    exact Keeps.freezeSlots fun u hu => h u (by simp [hu])
  | .dat _ :: ss, [], os, _ | .ref _ :: ss, [], os, _ | .ptr _ _ :: ss, [], os, _ | .skip :: ss, [], os, _ | .fnc _ _ :: ss, [], os, _ => Keeps.refl _ _
/-- One way through an operation: what it puts where, in every state that agrees. -/
def Pick (o : Oper) (st : St) (f : St → (St → Option R) → Option R) (k : St → Option R) (r : R) (keep : Prop) : Prop :=
  ∃ av objs', k (({ st with objs := objs' } : St).put o.dst av) = some r ∧ (keep → objs' = st.objs) ∧ ∀ st', Agree o st st' → ∀ k' : St → Option R, f st' k' = k' (({ st' with objs := objs' } : St).put o.dst av)
theorem callE_pick {call : CallFn E} {f : Nat} {args : List AV} {k : AV → St → Option R} {r : R} (h : callE E call f args st k = some r) :
    ∃ av objs', k av { st with objs := objs' } = some r ∧ ∀ st' : St, st'.objs = st.objs → ∀ k' : AV → St → Option R, callE E call f args st' k' = k' av { st' with objs := objs' } := by
  unfold callE at h
  split at h
  · cases h
  · rename_i g hg
    split at h
    · cases h
    · rename_i hall
      cases hy : call f g.x with
      | none => rw [hy] at h; cases h
      | some y =>
        rw [hy] at h
        simp only [Option.bind_some] at h
        refine ⟨_, _, h, fun st' e k' => ?_⟩
        unfold callE
        rw [e, hg]
        simp only [hall, hy, Option.bind_some]
theorem callS_pick {call : CallFn E} {f : Nat} {args : List AV} {k : AV → Option R} {r : R} (h : callS E call f args st k = some r) :
    ∃ av, k av = some r ∧ ∀ st' : St, st'.objs = st.objs → ∀ k' : AV → Option R, callS E call f args st' k' = k' av := by
  unfold callS at h
  split at h
  · cases h
  · rename_i hi
    split at h
    · cases h
    · rename_i hl
      split at h
      · cases h
      · rename_i g hg
        cases hy : call f g.x with
        | none => rw [hy] at h; cases h
        | some y =>
          rw [hy] at h
          simp only [Option.bind_some] at h
          refine ⟨_, h, fun st' e k' => ?_⟩
          unfold callS
          rw [e]
          simp only [hi, hl, hg, hy, Option.bind_some]
theorem vload_pick {t : Nat} {a : AV} {k : St → Option R} {r : R} (h : vload E o t a st k = some r) :
    ∃ av objs', k (({ st with objs := objs' } : St).put o.dst av) = some r ∧ Keeps (fun i => i ∈ idsA a) st.objs objs' ∧ ∀ st' : St, st'.objs = st.objs → ∀ k' : St → Option R, vload E o t a st' k' = k' (({ st' with objs := objs' } : St).put o.dst av) := by
  have key : ∃ av objs', k (({ st with objs := objs' } : St).put o.dst av) = some r ∧ Keeps (fun i => i ∈ idsA a) st.objs objs' ∧ ∀ (tm : List AV) (k' : St → Option R), vload E o t a ⟨tm, st.objs⟩ k' = k' (({ tmps := tm, objs := objs' } : St).put o.dst av) := by
    unfold vload at h ⊢
    simp only
    split at h
    · rename_i ti i hti
      split at h
      · rename_i e e' l hT hg
        split at h
        · rename_i l' hc
          exact ⟨_, _, h, (Keeps.set (by simp [idsA])).trans (Keeps.app _ _ _), fun tm k' => by simp only [hti, hT, hg, hc]⟩
        · cases h
      · cases h
    · cases h
  obtain ⟨av, objs', h1, h2, h3⟩ := key
  refine ⟨av, objs', h1, h2, fun st' e k' => ?_⟩
  have := h3 st'.tmps k'
  rw [← e] at this
  exact this
theorem vstore_pick {t : Nat} {a x : AV} {k : St → Option R} {r : R} (h : vstore E o t a x st k = some r) :
    ∃ av objs', k (({ st with objs := objs' } : St).put o.dst av) = some r ∧ Keeps (fun i => i ∈ idsA a ∨ i ∈ idsA x) st.objs objs' ∧ ∀ st' : St, st'.objs = st.objs → ∀ k' : St → Option R, vstore E o t a x st' k' = k' (({ st' with objs := objs' } : St).put o.dst av) := by
  have key : ∃ av objs', k (({ st with objs := objs' } : St).put o.dst av) = some r ∧ Keeps (fun i => i ∈ idsA a ∨ i ∈ idsA x) st.objs objs' ∧ ∀ (tm : List AV) (k' : St → Option R), vstore E o t a x ⟨tm, st.objs⟩ k' = k' (({ tmps := tm, objs := objs' } : St).put o.dst av) := by
    unfold vstore at h ⊢
    simp only
    split at h
    · rename_i ti i hti
      split at h
      · rename_i e hT hv
        split at h
        · rename_i j
          split at h
          · rename_i e' l hg
            split at h
            · rename_i l' hc
              exact ⟨_, _, h, (Keeps.set (by simp [idsA])).trans (Keeps.set (by simp [idsA])), fun tm k' => by simp only [hti, hT, hv, hg, hc]⟩
            · cases h
          · cases h
        · split at h
          · rename_i hz
            exact ⟨_, _, h, Keeps.set (by simp [idsA]), fun tm k' => by simp only [hti, hT, hv, hz]⟩
          · cases h
        · cases h
      · cases h
    · cases h
  obtain ⟨av, objs', h1, h2, h3⟩ := key
  refine ⟨av, objs', h1, h2, fun st' e k' => ?_⟩
  have := h3 st'.tmps k'
  rw [← e] at this
  exact this
theorem sload_pick {t : Nat} {a : AV} {k : St → Option R} {r : R} (h : sload E o t a st k = some r) :
    ∃ av objs', k (({ st with objs := objs' } : St).put o.dst av) = some r ∧ Keeps (fun i => i ∈ idsA a) st.objs objs' ∧ ∀ st' : St, st'.objs = st.objs → ∀ k' : St → Option R, sload E o t a st' k' = k' (({ st' with objs := objs' } : St).put o.dst av) := by
  have key : ∃ av objs', k (({ st with objs := objs' } : St).put o.dst av) = some r ∧ Keeps (fun i => i ∈ idsA a) st.objs objs' ∧ ∀ (tm : List AV) (k' : St → Option R), sload E o t a ⟨tm, st.objs⟩ k' = k' (({ tmps := tm, objs := objs' } : St).put o.dst av) := by
    unfold sload at h ⊢
    simp only
    split at h
    · rename_i ti i off hti
      split at h
      · rename_i T x hg
        split at h
        · rename_i e hT
          split at h
          · rename_i l hp
            exact ⟨_, _, h, (Keeps.set (by simp [idsA])).trans (Keeps.app _ _ _), fun tm k' => by simp only [hti, hg, hT, hp]⟩
          · cases h
        · rename_i hne
          split at h
          · rename_i y hb hc
            refine ⟨_, _, h, Keeps.set (by simp [idsA]), fun tm k' => ?_⟩
            simp only [hti, hg, hb, hc]
          · cases h
      · cases h
    · cases h
  obtain ⟨av, objs', h1, h2, h3⟩ := key
  refine ⟨av, objs', h1, h2, fun st' e k' => ?_⟩
  have := h3 st'.tmps k'
  rw [← e] at this
  exact this
theorem sstore_pick {t : Nat} {a x : AV} {k : St → Option R} {r : R} (h : sstore E o t a x st k = some r) :
    ∃ av objs', k (({ st with objs := objs' } : St).put o.dst av) = some r ∧ Keeps (fun i => i ∈ idsA a ∨ i ∈ idsA x) st.objs objs' ∧ ∀ st' : St, st'.objs = st.objs → ∀ k' : St → Option R, sstore E o t a x st' k' = k' (({ st' with objs := objs' } : St).put o.dst av) := by
  have key : ∃ av objs', k (({ st with objs := objs' } : St).put o.dst av) = some r ∧ Keeps (fun i => i ∈ idsA a ∨ i ∈ idsA x) st.objs objs' ∧ ∀ (tm : List AV) (k' : St → Option R), sstore E o t a x ⟨tm, st.objs⟩ k' = k' (({ tmps := tm, objs := objs' } : St).put o.dst av) := by
    unfold sstore at h ⊢
    simp only
    split at h
    · rename_i ti i off hti
      split at h
      · rename_i T0 x0 hg
        split at h
        · rename_i y0 T y hb hc
          split at h
          · rename_i z hcz
            exact ⟨_, _, h, Keeps.set (by simp [idsA]), fun tm k' => by simp only [hti, hg, hb, hc, hcz]⟩
          · cases h
        · cases h
      · rename_i T z hh hg
        split at h
        · rename_i e j hT
          split at h
          · rename_i e' l hgj
            split at h
            · rename_i l' hc hb
              split at h
              · rename_i z' hp
                exact ⟨_, _, h, (Keeps.set (by simp [idsA])).trans (Keeps.set (by simp [idsA])), fun tm k' => by simp only [hti, hg, hT, hgj, hc, hb, hp]⟩
              · cases h
            · cases h
          · cases h
        · cases h
      · cases h
    · cases h
  obtain ⟨av, objs', h1, h2, h3⟩ := key
  refine ⟨av, objs', h1, h2, fun st' e k' => ?_⟩
  have := h3 st'.tmps k'
  rw [← e] at this
  exact this
theorem opD_pick {all : List Oper} {call : CallFn E} {k : St → Option R} {r : R} (h : opD E call all o st k = some r) : Pick o st (fun st' k' => opD E call all o st' k') k r (isW E all o = false) := by
  unfold opD at h
  split at h
  · rename_i hw
    have fin : Pick o st (fun st' k' => op E call o st' k') k r True ∨ Pick o st (fun st' k' => op E call o st' k') k r False → Pick o st (fun st' k' => opD E call all o st' k') k r (isW E all o = false) := by
      rintro (⟨av, objs', h1, h2, h3⟩ | ⟨av, objs', h1, h2, h3⟩) <;> exact ⟨av, objs', h1, (fun hf => by rw [hw] at hf; cases hf), fun st' hst k' => by unfold opD; rw [hw]; exact h3 st' hst k'⟩
    refine fin (.inr ?_)
    cases ho : o.op
    case alloc t =>
      simp only [op, ho] at h
      split at h
      · rename_i ti hti
        split at h
        · cases h
        · rename_i hx
          split at h
          · rename_i hvr
            split at h
            · rename_i e hT
              split at h
              · rename_i hz
                exact ⟨_, _, h, False.elim, fun st' hst k' => by simp only [op, ho, hti, hst.objs, hvr, hT, Ty.isExt, hz]⟩
              · cases h
            · cases h
          · rename_i hvr
            exact ⟨_, _, h, False.elim, fun st' hst k' => by simp only [op, ho, hti, hx, hst.objs, hvr]⟩
      · cases h
    case load t x =>
      simp only [op, ho] at h
      split at h
      · rename_i hvs
        obtain ⟨av, objs', h1, _, h2⟩ := sload_pick h
        exact ⟨av, objs', h1, False.elim, fun st' hst k' => by simp only [op, ho, hvs, hst.ops x (by simp [ho, Op.operands])]; exact h2 st' hst.objs k'⟩
      rename_i hvs
      split at h
      · rename_i hvr
        obtain ⟨av, objs', h1, _, h2⟩ := vload_pick h
        exact ⟨av, objs', h1, False.elim, fun st' hst k' => by simp only [op, ho, hvs, hvr, hst.ops x (by simp [ho, Op.operands])]; exact h2 st' hst.objs k'⟩
      · rename_i hvr
        obtain ⟨av, h1, h2⟩ := opS_pick h
        refine ⟨av, st.objs, h2, False.elim, fun st' hst k' => ?_⟩
        have e1 := opS_agree (E := E) hst (fun v => k' (st'.put o.dst v))
        simp only [op, ho, hst.ops x (by simp [ho, Op.operands]), hvs, hvr]
        rw [e1, h1, ← hst.objs]
    case box t x =>
      simp only [op, ho] at h
      split at h
      · rename_i ti hti
        split at h
        · rename_i y hy
          exact ⟨_, _, h, False.elim, fun st' hst k' => by simp only [op, ho, hti, hst.objs, hst.ops x (by simp [ho, Op.operands]), hy]⟩
        · cases h
      · cases h
    case build t parts =>
      simp only [op, ho] at h
      obtain ⟨av, h1, h2⟩ := opS_pick h
      refine ⟨av, freezeAll st.objs (parts.toList.map fun p => opd st p.2), h2, False.elim, fun st' hst k' => ?_⟩
      have eq : (parts.toList.map fun p => opd st' p.2) = parts.toList.map fun p => opd st p.2 := List.map_congr_left fun p hp => by
        rw [hst.ops p.2 (by simp [ho, Op.operands]; exact ⟨p.1, by simpa using hp⟩)]
      have hag : Agree o ({ st with objs := freezeAll st.objs (parts.toList.map fun p => opd st p.2) } : St) ({ st' with objs := freezeAll st'.objs (parts.toList.map fun p => opd st' p.2) } : St) := ⟨fun y hy => by
        have := hst.ops y hy
        cases y <;> exact this, by simp only [eq, hst.objs]⟩
      simp only [op, ho]
      rw [opS_agree (E := E) hag, h1]
      simp only [eq, hst.objs]
    case buildSlice t len parts =>
      have ep : ∀ st', Agree o st st' → (parts.toList.map fun p => (p.1, opd st' p.2)) = parts.toList.map fun p => (p.1, opd st p.2) := fun st' hst => List.map_congr_left fun p hp => by
        rw [hst.ops p.2 (by simp [ho, Op.operands]; exact ⟨p.1, by simpa using hp⟩)]
      have eq : ∀ st', Agree o st st' → (parts.toList.map fun p => opd st' p.2) = parts.toList.map fun p => opd st p.2 := fun st' hst => List.map_congr_left fun p hp => by
        rw [hst.ops p.2 (by simp [ho, Op.operands]; exact ⟨p.1, by simpa using hp⟩)]
      simp only [op, ho] at h
      split at h
      · rename_i e b hti
        split at h
        · rename_i l hl
          split at h
          · rename_i hb
            exact ⟨_, _, h, False.elim, fun st' hst k' => by simp only [op, ho, hti, hst.objs, ep st' hst, eq st' hst, hl, hb]⟩
          · cases h
        · cases h
      · cases h
    case store t ad x =>
      simp only [op, ho] at h
      split at h
      · rename_i hvs
        obtain ⟨av, objs', h1, _, h2⟩ := sstore_pick h
        exact ⟨av, objs', h1, False.elim, fun st' hst k' => by simp only [op, ho, hvs, hst.ops ad (by simp [ho, Op.operands]), hst.ops x (by simp [ho, Op.operands])]; exact h2 st' hst.objs k'⟩
      rename_i hvs
      split at h
      · rename_i hvr
        obtain ⟨av, objs', h1, _, h2⟩ := vstore_pick h
        exact ⟨av, objs', h1, False.elim, fun st' hst k' => by simp only [op, ho, hvs, hvr, hst.ops ad (by simp [ho, Op.operands]), hst.ops x (by simp [ho, Op.operands])]; exact h2 st' hst.objs k'⟩
      rename_i hvr
      split at h
      · rename_i ti hti
        split at h
        · rename_i y hy
          split at h
          · rename_i i off e1
            split at h
            · rename_i T z hg
              split at h
              · rename_i z' hp
                exact ⟨_, _, h, False.elim, fun st' hst k' => by simp only [op, ho, hvs, hvr, hti, hst.objs, hst.ops ad (by simp [ho, Op.operands]), hst.ops x (by simp [ho, Op.operands]), hy, e1, hg, hp]⟩
              · cases h
            · cases h
          · rename_i i ix off e1
            split at h
            · rename_i T l hg
              split at h
              · rename_i z' hp
                exact ⟨_, _, h, False.elim, fun st' hst k' => by simp only [op, ho, hvs, hvr, hti, hst.objs, hst.ops ad (by simp [ho, Op.operands]), hst.ops x (by simp [ho, Op.operands]), hy, e1, hg, hp]⟩
              · cases h
            · cases h
          · cases h
        · cases h
      · cases h
    case makeSlice t l c =>
      simp only [op, ho] at h
      split at h
      · rename_i e b k1 n k2 m hti hl hc
        split at h
        · rename_i hb
          exact ⟨_, _, h, False.elim, fun st' hst k' => by simp only [op, ho, hti, hst.objs, hst.ops l (by simp [ho, Op.operands]), hst.ops c (by simp [ho, Op.operands]), hl, hc]; rw [if_pos hb]⟩
        · cases h
      · cases h
    case slice t x lo hi mx =>
      simp only [op, ho] at h
      obtain ⟨av, h1, h2⟩ := opS_pick h
      refine ⟨av, freezeV st.objs (opd st x), h2, False.elim, fun st' hst k' => ?_⟩
      have ex := hst.ops x (by simp [ho, Op.operands])
      have hag : Agree o ({ st with objs := freezeV st.objs (opd st x) } : St) ({ st' with objs := freezeV st'.objs (opd st' x) } : St) := ⟨fun y hy => by
        have := hst.ops y hy
        cases y <;> exact this, by simp only [ex, hst.objs]⟩
      simp only [op, ho]
      rw [opS_agree (E := E) hag, h1]
      simp only [ex, hst.objs]
    case convert src dst x =>
      simp only [op, ho] at h
      split at h
      · rename_i b s h1 hti hx
        split at h
        · rename_i hs
          exact ⟨_, _, h, False.elim, fun st' hst k' => by simp only [op, ho, hti, h1, hst.objs, hst.ops x (by simp [ho, Op.operands]), hx]; rw [if_pos hs]⟩
        · cases h
      · rename_i b i h1 hti hx
        split at h
        · rename_i T l hsd hg
          split at h
          · rename_i hl
            exact ⟨_, _, h, False.elim, fun st' hst k' => by simp only [op, ho, hti, h1, hst.objs, hst.ops x (by simp [ho, Op.operands]), hx, hsd, hg]; rw [if_pos hl]⟩
          · cases h
        · cases h
      · rename_i hno
        obtain ⟨av, h1, h2⟩ := opS_pick h
        refine ⟨av, st.objs, h2, False.elim, fun st' hst k' => ?_⟩
        have e1 := opS_agree (E := E) hst (fun v => k' (st'.put o.dst v))
        simp only [op, ho, hst.ops x (by simp [ho, Op.operands])]
        rw [e1, h1, ← hst.objs]
    case call c =>
      obtain ⟨callee, args, argTypes⟩ := c
      cases callee with
      | builtin b =>
        have hb : b = .append := by
          unfold isW at hw
          rw [ho] at hw
          cases b <;> simp_all
        subst hb
        have em : ∀ st', Agree o st st' → args.toList.map (opd st') = args.toList.map (opd st) := fun st' hst => map_agree hst (fun x hx => by simp [ho, Op.operands, Call.operands]; simpa using hx)
        simp only [op, ho] at h
        split at h
        · rename_i sx xx t xt hargs htys
          split at h
          · rename_i e b hti
            split at h
            · rename_i l1 base hl1
              split at h
              · rename_i l2 hl2
                split at h
                · rename_i hbd
                  exact ⟨_, _, h, False.elim, fun st' hst k' => by simp only [op, ho, em st' hst, hargs, htys, hti, hst.objs, hl1, hl2]; rw [if_pos hbd]⟩
                · cases h
              · cases h
            · cases h
          · cases h
        · cases h
      | value fv =>
        have em : ∀ st', Agree o st st' → args.toList.map (opd st') = args.toList.map (opd st) := fun st' hst => map_agree hst (fun x hx => by simp [ho, Op.operands, Call.operands]; exact .inr (by simpa using hx))
        simp only [op, ho] at h
        unfold fnCall at h
        split at h
        · rename_i f cs e1
          obtain ⟨av, objs', h1, h2⟩ := callE_pick h
          refine ⟨av, objs', h1, False.elim, fun st' hst k' => ?_⟩
          simp only [op, ho, em st' hst, hst.ops fv (by simp [ho, Op.operands, Call.operands])]
          unfold fnCall
          rw [e1]
          exact h2 st' hst.objs _
        · cases h
      | invoke x m => unfold isW at hw; rw [ho] at hw; simp at hw
    all_goals (unfold isW at hw; rw [ho] at hw; simp at hw)
  · rename_i hw
    have plain : ∀ (h : opS E o st (fun v => k (st.put o.dst v)) = some r), (∀ (st' : St) (k' : St → Option R), opD E call all o st' k' = opS E o st' fun v => k' (st'.put o.dst v)) → Pick o st (fun st' k' => opD E call all o st' k') k r (isW E all o = false) := by
      intro h he
      obtain ⟨av, h1, h2⟩ := opS_pick h
      refine ⟨av, st.objs, h2, fun _ => rfl, fun st' hst k' => ?_⟩
      show opD E call all o st' k' = _
      rw [he, opS_agree (E := E) hst, h1, ← hst.objs]
    split at h
    · rename_i f args tys ho
      have em : ∀ st', Agree o st st' → args.toList.map (opd st') = args.toList.map (opd st) := fun st' hst => map_agree hst (fun x hx => by simp [ho, Op.operands, Call.operands]; exact .inr (by simpa using hx))
      obtain ⟨av, h1, h2⟩ := callS_pick h
      refine ⟨av, st.objs, h1, fun _ => rfl, fun st' hst k' => ?_⟩
      show opD E call all o st' k' = _
      unfold opD
      rw [hw]
      simp only [ho]
      rw [em st' hst, h2 st' hst.objs, ← hst.objs]
    · rename_i t len parts ho
      have em : ∀ st', Agree o st st' → (parts.toList.map fun p => (p.1, opd st' p.2)) = parts.toList.map fun p => (p.1, opd st p.2) := fun st' hst => List.map_congr_left fun p hp => by
        rw [hst.ops p.2 (by simp [ho, Op.operands]; exact ⟨p.1, by simpa using hp⟩)]
      unfold bsS at h
      split at h
      · rename_i e b hti
        split at h
        · rename_i hn
          split at h
          · rename_i l hl
            split at h
            · rename_i hb
              refine ⟨_, st.objs, h, fun _ => rfl, fun st' hst k' => ?_⟩
              show opD E call all o st' k' = _
              unfold opD
              rw [hw]
              simp only [ho]
              rw [em st' hst]
              unfold bsS
              simp only [hti, hst.objs, hn, hl, hb]
              rw [← hst.objs]
            · cases h
          · cases h
        · cases h
      · cases h
    · rename_i src dst x ho
      split at h
      · rename_i b s h1 hti hx
        split at h
        · rename_i hs
          refine ⟨_, st.objs, h, fun _ => rfl, fun st' hst k' => ?_⟩
          show opD E call all o st' k' = _
          unfold opD
          rw [hw]
          simp only [ho, h1, hti, hst.ops x (by simp [ho, Op.operands]), hx]
          rw [if_pos hs, ← hst.objs]
        · cases h
      · rename_i hno
        obtain ⟨av, h1, h2⟩ := opS_pick h
        refine ⟨av, st.objs, h2, fun _ => rfl, fun st' hst k' => ?_⟩
        show opD E call all o st' k' = _
        unfold opD
        rw [hw]
        simp only [ho, hst.ops x (by simp [ho, Op.operands])]
        have e1 := opS_agree (E := E) hst (fun v => k' (st'.put o.dst v))
        rw [e1, h1, ← hst.objs]
    · rename_i hno
      refine plain h (fun st' k' => ?_)
      unfold opD
      rw [hw]
      simp only
theorem unpin_nil (ts : List OT) : ∀ (ss : List SP) (vs : List AV) (os : List Ob), unpin 0 ts ss vs os = (vs, os)
  | [], vs, os => by simp [unpin]
  | s :: ss, [], os => by cases s <;> simp [unpin]
  | s :: ss, v :: vs, os => by
    have ih := unpin_nil ts ss vs os
    have hb : ∀ i, Nat.blt i 0 = false := fun i => by rw [Nat.blt, Nat.ble]
    cases s <;> cases v <;> simp [unpin, ih, hb]
theorem nilRows_keeps (ts : List OT) : ∀ (ss : List SP) (vs : List AV) (os : List Ob), ∃ l, (nilRows ts ss vs os).2 = os ++ l ∧ ∀ v ∈ (nilRows ts ss vs os).1, ∀ i ∈ idsA v, (∃ u ∈ vs, i ∈ idsA u) ∨ os.length ≤ i
  | [], vs, os => ⟨[], by simp [nilRows], fun v hv i hi => .inl ⟨v, by simpa [nilRows] using hv, hi⟩⟩
  | s :: ss, [], os => ⟨[], by cases s <;> simp [nilRows], fun v hv i hi => by cases s <;> simp [nilRows] at hv⟩
  | s :: ss, u :: vs, os => by
    have tail : ∀ (w : AV) (os1 : List Ob), os.length ≤ os1.length → (∃ l0, os1 = os ++ l0) → (∀ i ∈ idsA w, (∃ u' ∈ u :: vs, i ∈ idsA u') ∨ os.length ≤ i) →
        ∃ l, (nilRows ts ss vs os1).2 = os ++ l ∧ ∀ v ∈ w :: (nilRows ts ss vs os1).1, ∀ i ∈ idsA v, (∃ u' ∈ u :: vs, i ∈ idsA u') ∨ os.length ≤ i := by
      intro w os1 hle ⟨l0, h0⟩ hw
      obtain ⟨l, h1, h2⟩ := nilRows_keeps ts ss vs os1
      refine ⟨l0 ++ l, by rw [h1, h0, List.append_assoc], fun v hv i hi => ?_⟩
      rcases List.mem_cons.1 hv with rfl | hv
      · exact hw i hi
      · rcases h2 v hv i hi with ⟨u', k1, k2⟩ | k
        · exact .inl ⟨u', List.mem_cons_of_mem _ k1, k2⟩
        · exact .inr (by omega)
    have plain : ∃ l, (nilRows ts ss vs os).2 = os ++ l ∧ ∀ v ∈ u :: (nilRows ts ss vs os).1, ∀ i ∈ idsA v, (∃ u' ∈ u :: vs, i ∈ idsA u') ∨ os.length ≤ i :=
      tail u os (Nat.le_refl _) ⟨[], by simp⟩ fun i hi => .inl ⟨u, by simp, hi⟩
    cases s with
    | ref j =>
      cases u with
      | nil =>
        simp only [nilRows]
        split
        · split
          · refine tail (.ref os.length) _ (by simp) ⟨_, rfl⟩ fun i hi => ?_
            right
            simp [idsA] at hi
            omega
          · exact plain
        · exact plain
      | _ => exact plain
    | _ => exact plain
theorem assign_ids {σ σ' : List (Option Nat)} {j i : Nat} (h : assign σ j i = some σ') (a b : Nat) (hb : σ'[a]? = some (some b)) : σ[a]? = some (some b) ∨ b = i := by
  unfold assign at h
  split at h
  · split at h
    · cases h; exact .inl hb
    · cases h
  · split at h
    · cases h
    · split at h
      · cases h
        rw [List.getElem?_set] at hb
        split at hb
        · split at hb
          · simp at hb; exact .inr hb.symm
          · cases hb
        · exact .inl hb
      · cases h
theorem assignL_ids : ∀ (js cs : List Nat) (σ σ' : List (Option Nat)), assignL σ js cs = some σ' → ∀ (a b : Nat), σ'[a]? = some (some b) → σ[a]? = some (some b) ∨ b ∈ cs
  | [], [], σ, σ', h, a, b, hb => by cases h; exact .inl hb
  | [], _ :: _, σ, σ', h, _, _, _ => by simp [assignL] at h
  | _ :: _, [], σ, σ', h, _, _, _ => by simp [assignL] at h
  | j :: js, c :: cs, σ, σ', h, a, b, hb => by
    simp only [assignL] at h
    split at h
    · rename_i σ1 h1
      rcases assignL_ids js cs _ _ h a b hb with h2 | h2
      · rcases assign_ids h1 a b h2 with h3 | h3
        · exact .inl h3
        · exact .inr (by simp [h3])
      · exact .inr (by simp [h2])
    · cases h
theorem matchSlots_ids : ∀ (ss : List SP) (vs : List AV) (σ σ' : List (Option Nat)), matchSlots ss vs σ = some σ' → ∀ (a b : Nat), σ'[a]? = some (some b) → σ[a]? = some (some b) ∨ ∃ v ∈ vs, b ∈ idsA v
  | [], [], σ, σ', h, a, b, hb => by simp [matchSlots] at h; subst h; exact .inl hb
  | .ref j :: ss, v :: vs, σ, σ', h, a, b, hb => by
    cases v <;> simp only [matchSlots] at h <;> try (cases h; done)
    rename_i i
    split at h
    · rename_i σ1 h1
      rcases matchSlots_ids ss vs _ _ h a b hb with h2 | ⟨u, h2, h3⟩
      · rcases assign_ids h1 a b h2 with h3 | h3
        · exact .inl h3
        · exact .inr ⟨.ref i, by simp, by simp [idsA, h3]⟩
      · exact .inr ⟨u, List.mem_cons_of_mem _ h2, h3⟩
    · cases h
  | .ptr j off :: ss, v :: vs, σ, σ', h, a, b, hb => by
    cases v <;> simp only [matchSlots] at h <;> try (cases h; done)
    rename_i i off'
    split at h
    · split at h
      · rename_i σ1 h1
        rcases matchSlots_ids ss vs _ _ h a b hb with h2 | ⟨u, h2, h3⟩
        · rcases assign_ids h1 a b h2 with h3 | h3
          · exact .inl h3
          · exact .inr ⟨.ptr i off', by simp, by simp [idsA, h3]⟩
        · exact .inr ⟨u, List.mem_cons_of_mem _ h2, h3⟩
      · cases h
    · cases h
  | .dat T :: ss, v :: vs, σ, σ', h, a, b, hb => by
    simp only [matchSlots] at h
    rcases matchSlots_ids ss vs _ _ h a b hb with h2 | ⟨u, h2, h3⟩
    · exact .inl h2
    · exact .inr ⟨u, List.mem_cons_of_mem _ h2, h3⟩
  | .skip :: ss, v :: vs, σ, σ', h, a, b, hb => by
    simp only [matchSlots] at h
    rcases matchSlots_ids ss vs _ _ h a b hb with h2 | ⟨u, h2, h3⟩
    · exact .inl h2
    · exact .inr ⟨u, List.mem_cons_of_mem _ h2, h3⟩
  | .fnc f js :: ss, v :: vs, σ, σ', h, a, b, hb => by
    obtain ⟨cs, σ1, rfl, h1, hm⟩ := matchSlots_fnc h
    rcases matchSlots_ids ss vs _ _ hm a b hb with h2 | ⟨u, h2, h3⟩
    · rcases assignL_ids js cs _ _ h1 a b h2 with h3 | h3
      · exact .inl h3
      · exact .inr ⟨.fn f cs, by simp, by simpa [idsA] using h3⟩
    · exact .inr ⟨u, List.mem_cons_of_mem _ h2, h3⟩
  | [], _ :: _, σ, σ', h, _, _, _ => by simp [matchSlots] at h
  | .ref _ :: _, [], σ, σ', h, _, _, _ | .ptr _ _ :: _, [], σ, σ', h, _, _, _ | .dat _ :: _, [], σ, σ', h, _, _, _ | .skip :: _, [], σ, σ', h, _, _, _ | .fnc _ _ :: _, [], σ, σ', h, _, _, _ => by simp [matchSlots] at h
theorem allSome_mem : ∀ (σ : List (Option Nat)) (l : List Nat), allSome σ = some l → ∀ b ∈ l, some b ∈ σ
  | [], l, h, b, hb => by simp [allSome] at h; subst h; cases hb
  | some i :: σ, l, h, b, hb => by
    simp only [allSome] at h
    split at h
    · rename_i l' h'
      cases h
      rcases List.mem_cons.1 hb with rfl | hb
      · exact List.mem_cons_self
      · exact List.mem_cons_of_mem _ (allSome_mem σ l' h' b hb)
    · cases h
  | none :: σ, l, h, b, hb => by simp [allSome] at h
theorem setL_keeps {K : Nat → Prop} : ∀ (σ : List Nat) (os bs : List Ob), (∀ i ∈ σ, K i) → Keeps K os (setL os σ bs)
  | [], os, bs, _ => by unfold setL; exact Keeps.app _ _ _
  | i :: σ, os, [], h => by unfold setL; exact Keeps.refl _ _
  | i :: σ, os, b :: bs, h => by
    unfold setL
    exact (Keeps.set (h i (by simp))).trans (setL_keeps σ _ bs fun j hj => h j (by simp [hj]))
theorem callE_keeps {call : CallFn E} {f : Nat} {args : List AV} {k : AV → St → Option R} {r : R} (h : callE E call f args st k = some r) :
    ∃ av objs', k av { st with objs := objs' } = some r ∧ Keeps (fun i => ∃ v ∈ args, i ∈ idsA v) st.objs objs' := by
  unfold callE at h
  split at h
  · cases h
  · rename_i g hg
    split at h
    · cases h
    · cases hy : call f g.x with
      | none => rw [hy] at h; cases h
      | some y =>
        rw [hy] at h
        simp only [Option.bind_some] at h
        refine ⟨_, _, h, ?_⟩
        unfold Shape.read at hg
        rw [List.length_nil, unpin_nil] at hg
        obtain ⟨l, k1, k2⟩ := nilRows_keeps (E.fn f).sig.ins.objs (E.fn f).sig.ins.slots args st.objs
        generalize nilRows (E.fn f).sig.ins.objs (E.fn f).sig.ins.slots args st.objs = nr at hg k1 k2
        obtain ⟨vs1, os1⟩ := nr
        simp only at hg k1 k2
        split at hg
        · cases hg
        · rename_i σ hσ
          split at hg
          · cases hg
          · rename_i σ' hσ'
            split at hg
            · cases hg
            · rename_i os2 hos2
              split at hg
              · cases hg
              · split at hg
                · cases hg
                · cases hg
                  let K' : Nat → Prop := fun i => (∃ v ∈ args, i ∈ idsA v) ∨ st.objs.length ≤ i
                  have hvs : ∀ v ∈ vs1, ∀ i ∈ idsA v, K' i := k2
                  have q1 : Keeps K' st.objs os1 := by rw [k1]; exact Keeps.app _ _ _
                  have q2 : Keeps K' os1 os2 := by
                    split at hos2
                    · split at hos2
                      · cases hos2; exact Keeps.refl _ _
                      · cases hos2
                    · cases hos2
                      exact Keeps.freezeSlots hvs
                  have q3 : Keeps K' os2 (setL os2 σ' (putObjs (E.fn f).sig.outs.objs (putSlots (renum σ' os2.length) (E.fn f).sig.outs.slots y).2)) := setL_keeps _ _ _ fun i hi => by
                    have h1 := allSome_mem _ _ hσ' i hi
                    obtain ⟨a, ha⟩ := List.mem_iff_getElem?.1 h1
                    rcases matchSlots_ids _ _ _ _ hσ a i ha with h2 | ⟨v, h2, h3⟩
                    · simp [List.getElem?_replicate] at h2
                    · exact hvs v h2 i h3
                  have q := (q1.trans q2).trans q3
                  exact ⟨q.1, fun i hi hn => q.2 i hi fun hk => hk.elim hn (by omega)⟩
theorem mem_foot {x : Operand} {i : Nat} (hx : x ∈ o.op.operands.toList) (hi : i ∈ idsA (opd st x)) : i ∈ footO o st := List.mem_flatMap.2 ⟨x, hx, hi⟩
/-- AN OPERATION THAT WRITES writes where its operands lead, or something new. -/
theorem op_keeps {all : List Oper} {call : CallFn E} {k : St → Option R} {r : R} (hw : isW E all o = true) (h : op E call o st k = some r) :
    ∃ av objs', k (({ st with objs := objs' } : St).put o.dst av) = some r ∧ Keeps (fun i => i ∈ footO o st) st.objs objs' := by
  cases ho : o.op
  case alloc t =>
    simp only [op, ho] at h
    split at h
    · split at h
      · cases h
      · split at h
        · split at h
          · split at h
            · exact ⟨_, _, h, Keeps.app _ _ _⟩
            · cases h
          · cases h
        · exact ⟨_, _, h, Keeps.app _ _ _⟩
    · cases h
  case load t x =>
    simp only [op, ho] at h
    split at h
    · obtain ⟨av, objs', h1, h2, _⟩ := sload_pick h
      exact ⟨av, objs', h1, h2.1, fun i hi hn => h2.2 i hi fun hm => hn (mem_foot (x := x) (by simp [ho, Op.operands]) hm)⟩
    rename_i hvs
    split at h
    · obtain ⟨av, objs', h1, h2, _⟩ := vload_pick h
      exact ⟨av, objs', h1, h2.1, fun i hi hn => h2.2 i hi fun hm => hn (mem_foot (x := x) (by simp [ho, Op.operands]) hm)⟩
    · rename_i hvr
      obtain ⟨av, h1, h2⟩ := opS_pick h
      exact ⟨av, st.objs, h2, Keeps.refl _ _⟩
  case box t x =>
    simp only [op, ho] at h
    split at h
    · split at h
      · exact ⟨_, _, h, (Keeps.freezeV fun i hi => mem_foot (x := x) (by simp [ho, Op.operands]) hi).trans (Keeps.app _ _ _)⟩
      · cases h
    · cases h
  case build t parts =>
    simp only [op, ho] at h
    obtain ⟨av, h1, h2⟩ := opS_pick h
    refine ⟨av, _, h2, Keeps.freezeAll fun v hv i hi => ?_⟩
    obtain ⟨q, hq, rfl⟩ := List.mem_map.1 hv
    exact mem_foot (x := q.2) (by simp [ho, Op.operands]; exact ⟨q.1, by simpa using hq⟩) hi
  case buildSlice t len parts =>
    simp only [op, ho] at h
    split at h
    · split at h
      · split at h
        · refine ⟨_, _, h, (Keeps.freezeAll fun v hv i hi => ?_).trans (Keeps.app _ _ _)⟩
          obtain ⟨q, hq, rfl⟩ := List.mem_map.1 hv
          exact mem_foot (x := q.2) (by simp [ho, Op.operands]; exact ⟨q.1, by simpa using hq⟩) hi
        · cases h
      · cases h
    · cases h
  case store t ad x =>
    have hx : ∀ i ∈ idsA (opd st x), i ∈ footO o st := fun i hi => mem_foot (x := x) (by simp [ho, Op.operands]) hi
    have ha : ∀ i ∈ idsA (opd st ad), i ∈ footO o st := fun i hi => mem_foot (x := ad) (by simp [ho, Op.operands]) hi
    simp only [op, ho] at h
    split at h
    · obtain ⟨av, objs', h1, h2, _⟩ := sstore_pick h
      exact ⟨av, objs', h1, h2.1, fun i hi hn => h2.2 i hi fun hm => hn (hm.elim (ha i) (hx i))⟩
    split at h
    · obtain ⟨av, objs', h1, h2, _⟩ := vstore_pick h
      exact ⟨av, objs', h1, h2.1, fun i hi hn => h2.2 i hi fun hm => hn (hm.elim (ha i) (hx i))⟩
    split at h
    · split at h
      · split at h
        · rename_i i off e1
          rw [e1] at ha
          split at h
          · split at h
            · exact ⟨_, _, h, (Keeps.freezeV hx).trans (Keeps.set (ha i (by simp [idsA])))⟩
            · cases h
          · cases h
        · rename_i i ix off e1
          rw [e1] at ha
          split at h
          · split at h
            · exact ⟨_, _, h, (Keeps.freezeV hx).trans (Keeps.set (ha i (by simp [idsA])))⟩
            · cases h
          · cases h
        · cases h
      · cases h
    · cases h
  case makeSlice t l c =>
    simp only [op, ho] at h
    split at h
    · split at h
      · exact ⟨_, _, h, Keeps.app _ _ _⟩
      · cases h
    · cases h
  case slice t x lo hi mx =>
    simp only [op, ho] at h
    obtain ⟨av, h1, h2⟩ := opS_pick h
    exact ⟨av, _, h2, Keeps.freezeV fun i hi => mem_foot (x := x) (by simp [ho, Op.operands]) hi⟩
  case convert src dst x =>
    have hx : ∀ i ∈ idsA (opd st x), i ∈ footO o st := fun i hi => mem_foot (x := x) (by simp [ho, Op.operands]) hi
    simp only [op, ho] at h
    split at h
    · split at h
      · exact ⟨_, _, h, Keeps.app _ _ _⟩
      · cases h
    · rename_i e1
      rw [e1] at hx
      split at h
      · split at h
        · exact ⟨_, _, h, Keeps.set (hx _ (by simp [idsA]))⟩
        · cases h
      · cases h
    · obtain ⟨av, h1, h2⟩ := opS_pick h
      exact ⟨av, st.objs, h2, Keeps.refl _ _⟩
  case call c =>
    obtain ⟨callee, args, argTypes⟩ := c
    cases callee with
    | builtin b =>
      have hb : b = .append := by
        unfold isW at hw
        rw [ho] at hw
        cases b <;> simp_all
      subst hb
      simp only [op, ho] at h
      split at h
      · rename_i sx xx t xt hargs htys
        split at h
        · split at h
          · rename_i l1 base hl1
            split at h
            · split at h
              · refine ⟨_, _, h, Keeps.trans ?_ (Keeps.app _ _ _)⟩
                have hx : ∀ i ∈ idsA sx, i ∈ footO o st := fun i hi => by
                  have hm : sx ∈ args.toList.map (opd st) := by rw [hargs]; simp
                  obtain ⟨x, hx, rfl⟩ := List.mem_map.1 hm
                  exact mem_foot (x := x) (by simp [ho, Op.operands, Call.operands]; simpa using hx) hi
                split at hl1
                · cases hl1; exact Keeps.refl _ _
                · split at hl1
                  · split at hl1
                    · cases hl1; exact Keeps.set (hx _ (by simp [idsA]))
                    · cases hl1
                  · cases hl1
                · cases hl1
              · cases h
            · cases h
          · cases h
        · cases h
      · cases h
    | value fv =>
      simp only [op, ho] at h
      unfold fnCall at h
      split at h
      · rename_i f cs e1
        obtain ⟨av, objs', h1, h2⟩ := callE_keeps h
        refine ⟨av, objs', h1, h2.1, fun i hi hn => h2.2 i hi fun ⟨v, hv, hiv⟩ => hn ?_⟩
        rcases List.mem_append.1 hv with hv | hv
        · obtain ⟨x, hx, rfl⟩ := List.mem_map.1 hv
          exact mem_foot (x := x) (by simp [ho, Op.operands, Call.operands]; exact .inr (by simpa using hx)) hiv
        · obtain ⟨c, hc, rfl⟩ := List.mem_map.1 hv
          refine mem_foot (x := fv) (by simp [ho, Op.operands, Call.operands]) ?_
          rw [e1]
          simp [idsA] at hiv ⊢
          rw [hiv]; exact hc
      · cases h
    | invoke x m => unfold isW at hw; rw [ho] at hw; simp at hw
  all_goals (unfold isW at hw; rw [ho] at hw; simp at hw)
end
end Go.Proofs.YtgelkklendpeoaaGreat.AE

namespace Go.Proofs.YtgelkklendpeoaaGreat.AE
set_option linter.unusedVariables false
set_option linter.unusedSimpArgs false
open Go
set_option linter.unusedVariables false
set_option linter.unusedSimpArgs false

section
variable {X : ExtRep} {S : Nat → Prop} {P : Program} {E : Env} {R : Type} {o : Oper} {st : St} {a : Act} {w : World} {own : List Own}
theorem nilRows_nil : ∀ (ss : List SP) (vs : List AV) (os : List Ob), nilRows [] ss vs os = (vs, os)
  | [], vs, os => by simp [nilRows]
  | s :: ss, [], os => by cases s <;> simp [nilRows]
  | s :: ss, v :: vs, os => by
    have ih := nilRows_nil ss vs os
    cases s <;> cases v <;> simp [nilRows, ih]
theorem anyRef_spec : ∀ (ss : List SP) (avs : List AV), anyRef ss avs = false → ∀ (k : Nat) (T : Ty) (i : Nat), ss[k]? = some (.dat T) → avs[k]? = some (.ref i) → False
  | [], avs, h, k, T, i, h1, h2 => by simp at h1
  | s :: ss, [], h, k, T, i, h1, h2 => by simp at h2
  | s :: ss, av :: avs, h, k, T, i, h1, h2 => by
    cases k with
    | zero =>
      simp at h1 h2
      subst h1 h2
      simp [anyRef] at h
    | succ k =>
      refine anyRef_spec ss avs ?_ k T i (by simpa using h1) (by simpa using h2)
      cases s <;> cases av <;> first | (simp [anyRef] at h; done) | simpa [anyRef] using h
theorem rowData_VR (hX : X.OK) {ok ok' : Nat → Prop} {own own' : List Own} {bs : List Ob} (hb : ∀ (j : Nat) (T : Ty) (l : List T.den) (o : Own), Ob.get bs j = .row T l → own[j]? = some o → o.live = true ∧ Rep X w ok' (.slice T) l [o.v]) :
    ∀ (ss : List SP) {rest : List Ty} (x : Prods (slotTys ss rest)) (vs : List Value), VRs X w ok own (putSlots id ss x).1 vs → (∀ T, SP.dat T ∈ ss → (∀ b, ok b → ok' b) ∨ T.flat = true) →
      VRs X w ok' own' (rowData bs (putSlots id ss x).1) vs
  | [], rest, x, vs, h, hd => by simp only [putSlots] at h ⊢; cases h; exact .nil
  | .dat T :: ss, rest, x, vs, h, hd => by
    simp only [putSlots] at h ⊢
    cases h with
    | cons h hs =>
      have r1 := rowData_VR (own' := own') hX hb ss (ptail x) _ hs (fun T hT => hd T (List.mem_cons_of_mem _ hT))
      have h1 := inject_move (own' := own') hX T _ _ h (hd T (by simp))
      have : ∀ avs, rowData bs (inject T (phead x) :: avs) = inject T (phead x) :: rowData bs avs := fun avs => by cases T <;> rfl
      rw [this]
      exact .cons h1 r1
  | .ref j :: ss, rest, x, vs, h, hd => by
    simp only [putSlots] at h ⊢
    cases h with
    | cons h hs =>
      have r1 := rowData_VR (own' := own') (rest := rest) hX hb ss x _ hs (fun T hT => hd T (List.mem_cons_of_mem _ hT))
      obtain ⟨o, ho, hl⟩ := h
      simp only [rowData, id]
      refine .cons ?_ r1
      split
      · rename_i T l hg
        obtain ⟨k1, k2⟩ := hb j T l o hg ho
        rw [hl k1]
        exact k2
      · trivial
  | .ptr j off :: ss, rest, x, vs, h, hd => by
    simp only [putSlots] at h ⊢
    cases h with
    | cons h hs =>
      have r1 := rowData_VR (own' := own') (rest := rest) hX hb ss x _ hs (fun T hT => hd T (List.mem_cons_of_mem _ hT))
      exact .cons trivial r1
  | .skip :: ss, rest, x, vs, h, hd => by
    simp only [putSlots] at h ⊢
    cases h with
    | cons h hs =>
      have r1 := rowData_VR (own' := own') (rest := rest) hX hb ss x _ hs (fun T hT => hd T (List.mem_cons_of_mem _ hT))
      exact .cons trivial r1
  | .fnc g js :: ss, rest, x, vs, h, hd => by
    simp only [putSlots] at h ⊢
    cases h with
    | cons h hs =>
      have r1 := rowData_VR (own' := own') (rest := rest) hX hb ss x _ hs (fun T hT => hd T (List.mem_cons_of_mem _ hT))
      obtain ⟨us, e1, e2, _⟩ := h
      cases js with
      | nil => exact .cons ⟨us, e1, e2, fun j i u hj => by simp at hj⟩ r1
      | cons a js => exact .cons trivial r1
theorem read_lend_objs {s : Shape} (hs : s.objs = []) {vs : List AV} {os : List Ob} {g : Got s} (h : s.read [] true vs os = some g) : g.objs = os := by
  obtain ⟨slots, objs⟩ := s
  simp only at hs
  subst hs
  unfold Shape.read at h
  simp only [List.length_nil, unpin_nil, nilRows_nil] at h
  split at h
  · cases h
  · split at h
    · cases h
    · rename_i σ' _
      cases hlk : lentOk slots vs σ' with
      | false => rw [hlk] at h; cases h
      | true =>
        rw [hlk] at h
        simp only at h
        split at h
        · cases h
        · split at h
          · cases h
          · cases h; rfl
theorem callS_sound (hX : X.OK) (hS : ∀ b, w.heap.size ≤ b → S b) (hI : X.inv w (okS S w own)) {call : CallFn E} {f : Nat} (hc : ∀ x y, call f x = some y → Spec P X (E.fn f).sig f x y) (hr : HR X S w st.objs own) {args : List AV} {vals : List Value} (hv : VRs X w (okS S w own) own args vals)
    {k : AV → Option R} {r : R} (h : callS E call f args st k = some r) : Does P f vals.toArray w fun v w' => ∃ av, k av = some r ∧ ∃ own', HR X S w' st.objs own' ∧ Frm S w own w' own' ∧ OwnLe own own' ∧ VR X w' (okS S w' own') own' av v := by
  unfold callS at h
  split at h
  · cases h
  · rename_i hi
    split at h
    · cases h
    · rename_i hl
      split at h
      · cases h
      · rename_i g hg
        have hgo : g.objs = st.objs := read_lend_objs hi hg
        have hg' : (E.fn f).sig.ins.read (List.range 0) true args st.objs = some g := hg
        obtain ⟨own2, avs, p, h1, h2, h3, h4, h5, h6, h7, h8, h9, h10, h11, h12⟩ := (read_ok hX hS hr hv hg').ex
        obtain ⟨a1, a2, _⟩ := readObjs_spec _ _ _ h5
        have hσ : g.σ = [] := by rw [hi] at a1; exact List.eq_nil_of_length_eq_zero a1.symm
        have hold := pass_holds (lend := (E.fn f).sig.lends) hX h1 h4 h5 h6 h7 h8 (fun hf k T i k1 k2 => by
          exfalso
          rw [hf] at hl
          exact anyRef_spec _ _ hl k T i k1 (by rw [← h12 k T k1]; exact k2)) (fun hf => h11 rfl)
        cases hy : call f g.x with
        | none => rw [hy] at h; cases h
        | some y =>
          rw [hy] at h
          simp only [Option.bind_some] at h
          have hfresh : ∀ b, w.heap.size ≤ b → passS S (E.fn f).sig.lends own2 g.σ b := fun b hb => ⟨hS b hb, fun _ i o ho _ hbo => by have := (h1.lt i o b ho hbo).1; omega⟩
          intro o a next Q hnext
          refine hc g.x y hy _ w _ vals hfresh (hX.invm (fun b hb => ⟨pass_ok (h2.ok b hb).1, rfl⟩) hI) hold o a next Q fun v w' => ?_
          rintro ⟨own', vs', ⟨hh1, hh2⟩, hf, hpin, hvv⟩
          refine hnext v w' ?_
          have hflat : (E.fn f).sig.lends = true → (∀ T, SP.dat T ∈ (E.fn f).sig.outs.slots → T.flat = true) ∧ ∀ ob ∈ putObjs (E.fn f).sig.outs.objs (putSlots id (E.fn f).sig.outs.slots y).2, (match ob with | .row T _ => T.flat | .var T _ => T.flat | .vrow T _ => T.flat | .vout => true | .vst _ _ _ => false | .frz _ _ => false | .dead => true) = true := by
            intro hl
            unfold Sig.lends at hl
            split at hl
            · rename_i hs
              exact ⟨fun T hT => by simpa using List.all_eq_true.1 hs _ hT, putObjs_flat _ _ hl⟩
            · cases hl
          have hsub : ownSub own2 (E.fn f).sig.ins.objs g.σ = [] := by rw [hi, hσ]; rfl
          rw [hsub] at hf
          have hall : ∀ b, b < w.heap.size → w'.heap[b]? = w.heap[b]? := fun b hb => hf.blk b hb (by simp)
          have hnew : ∀ (j : Nat) (o : Own) (b : Nat), own'[j]? = some o → b ∈ o.bs → w.heap.size ≤ b := fun j o b ho hb => by
            rcases hf.bs j o b ho hb with h1 | ⟨_, _, h1, _⟩
            · exact h1
            · simp at h1
          obtain ⟨q1, q2⟩ := h1.changeF hX (w' := w') (objs' := g.objs) (own' := own2) hf.os hf.tape hf.output h1.len (Nat.le_refl _) hf.sz (fun _ => False) (fun _ _ _ => ⟨rfl, rfl⟩) (fun b hb _ => hall b hb)
            (fun i o b ho hc => by rcases hc with hc | hc; (· exact hc.elim); have := (List.getElem?_eq_some_iff.1 ho).1; omega)
            (fun i j oi oj b hi hj hoi => by rcases hi with hi | hi; (· exact hi.elim); have := (List.getElem?_eq_some_iff.1 hoi).1; omega)
            (fun _ i ob o hc _ ho => by rcases hc with hc | hc; (· exact hc.elim); have := (List.getElem?_eq_some_iff.1 ho).1; omega)
          rw [hgo] at q1
          have hokk : ∀ b, okS (passS S (E.fn f).sig.lends own2 g.σ) w' own' b → (E.fn f).sig.lends = false → okS S w' own2 b := fun b hb hlf =>
            ⟨hb.1.1, hb.2.1, fun o2 ho2 hbo => by
              obtain ⟨i, hi2⟩ := List.mem_iff_getElem?.1 ho2
              exact hb.1.2 hlf i o2 hi2 (by rw [hσ]; simp) hbo⟩
          refine ⟨_, h, own2, q1, h2.trans q2, h3, ?_⟩
          rw [hvv]
          refine resAV_VR (rowData_VR (own := own') (ok := okS (passS S (E.fn f).sig.lends own2 g.σ) w' own') hX (fun j T l o' hob ho' => ?_) _ y vs' hh2 (fun T hT => ?_))
          · have hor := hh1.obj j _ o' (Ob.get_of hob (by simp)) ho'
            obtain ⟨p1, p2, p3, p4⟩ := hor
            refine ⟨p1, ?_⟩
            rcases p4 with ⟨e1, rfl, _⟩ | ⟨gg, c, cur, e, e1, e2, e3, e4, e5, e6, e7⟩
            · rw [e1]; exact ⟨none, 0, rfl, Nat.le_refl _, by simp, .inl rfl⟩
            · rw [e1]
              have hbg : gg ∈ o'.bs := by rw [e2]; simp
              have hgn := hnew j o' gg ho' hbg
              refine ⟨_, c, rfl, e4, e5, .inr ⟨gg, 0, _, rfl, ⟨hS gg hgn, (hh1.lt j o' gg ho' hbg).1, fun o2 ho2 hbo => ?_⟩, CellsAt.of_row e3 _, e7.1.imp (fun x cs hx => ?_)⟩⟩
              · obtain ⟨i, hi2⟩ := List.mem_iff_getElem?.1 ho2
                have := (h1.lt i o2 gg hi2 hbo).1
                omega
              · rcases Bool.eq_false_or_eq_true (E.fn f).sig.lends with hlf | hlf
                · exact flat_rep _ _ _ ((hflat hlf).2 (.row T l) (List.mem_of_getElem? (Ob.get_of hob (by simp)))) hx
                · exact Rep.mono hX (fun b hb => ⟨hokk b hb hlf, rfl⟩) _ _ _ hx
          · rcases Bool.eq_false_or_eq_true (E.fn f).sig.lends with hlf | hlf
            · exact .inr ((hflat hlf).1 T hT)
            · exact .inl fun b hb => hokk b hb hlf
/-- An operation of a region that draws its order. -/
theorem freezeV_same {os : List Ob} {v : AV} (h : noRows os [v] = true) : freezeV os v = os := by
  cases v <;> simp only [freezeV]
  rename_i i
  have hg : freezeOb (Ob.get os i) = Ob.get os i := by
    cases hg : Ob.get os i <;> simp [freezeOb]
    simp [noRows, hg] at h
  rw [hg]
  by_cases hi : i < os.length
  · apply List.ext_getElem? ; intro j
    by_cases hj : i = j
    · subst hj; rw [List.getElem?_set_self hi]; simp [Ob.get, List.getD, hi]
    · rw [List.getElem?_set_ne hj]
  · rw [List.set_eq_of_length_le (by omega)]
theorem freezeAll_same {os : List Ob} : ∀ {vs : List AV}, noRows os vs = true → freezeAll os vs = os
  | [], _ => rfl
  | v :: vs, h => by
    simp only [noRows, List.all_cons, Bool.and_eq_true] at h
    have h1 : freezeV os v = os := freezeV_same (by simp only [noRows, List.all_cons, List.all_nil, Bool.and_true]; exact h.1)
    show freezeAll (freezeV os v) vs = os
    rw [h1]
    exact freezeAll_same h.2
theorem drop_ob (hX : X.OK) {objs : List Ob} {ob : Ob} {own' : List Own} (h : HR X S w (objs ++ [ob]) own') :
    ∃ own2 on, own' = own2 ++ [on] ∧ own2.length = objs.length ∧ HR X S w objs own2 ∧ Frm S w own' w own2 ∧ OR X w (okS S w own2) ob on ∧ ∀ b, b ∈ on.bs → okS S w own2 b := by
  have hl := h.len
  rw [List.length_append, List.length_singleton] at hl
  have hne : own' ≠ [] := fun e => by rw [e] at hl; simp at hl
  obtain ⟨own2, on, rfl⟩ : ∃ own2 on, own' = own2 ++ [on] := ⟨own'.dropLast, own'.getLast hne, (List.dropLast_concat_getLast hne).symm⟩
  have hl2 : own2.length = objs.length := by simp at hl; omega
  have okk : ∀ b, okS S w (own2 ++ [on]) b → okS S w own2 b := fun b hb => ⟨hb.1, hb.2.1, fun o ho => hb.2.2 o (List.mem_append_left _ ho)⟩
  have at2 : ∀ (i : Nat) (o : Own), own2[i]? = some o → (own2 ++ [on])[i]? = some o := fun i o ho => by
    rw [List.getElem?_append_left (List.getElem?_eq_some_iff.1 ho).1]; exact ho
  have lastO : (own2 ++ [on])[objs.length]? = some on := by rw [← hl2]; simp
  have lastB : (objs ++ [ob])[objs.length]? = some ob := by simp
  refine ⟨own2, on, rfl, hl2, ⟨hl2, fun i ob' o hob ho => ?_, fun i j oi oj b hi hj => h.dis i j oi oj b (at2 i oi hi) (at2 j oj hj), fun i o b ho => h.lt i o b (at2 i o ho)⟩, ⟨rfl, rfl, rfl, Nat.le_refl _, fun b hb => ⟨okk b hb, rfl⟩, fun i o b ho hb => .inr ⟨i, o, at2 i o ho, hb⟩, fun _ _ _ => rfl⟩, ?_, fun b hb => ?_⟩
  · exact OR.mono hX (fun b hb => ⟨okk b hb, rfl⟩) _ _ (fun _ _ => rfl) (h.obj i ob' o (by rw [List.getElem?_append_left (List.getElem?_eq_some_iff.1 hob).1]; exact hob) (at2 i o ho))
  · exact OR.mono hX (fun b hb => ⟨okk b hb, rfl⟩) _ _ (fun _ _ => rfl) (h.obj _ ob on lastB lastO)
  · refine ⟨(h.lt _ on b lastO hb).2, (h.lt _ on b lastO hb).1, fun o ho hbo => ?_⟩
    obtain ⟨i, hi⟩ := List.mem_iff_getElem?.1 ho
    have := h.dis i objs.length o on b (at2 i o hi) lastO hbo hb
    have h3 := (List.getElem?_eq_some_iff.1 hi).1
    omega
theorem row_data (hX : X.OK) {own2 : List Own} {on : Own} {T : Ty} {l : List T.den} (h : OR X w (okS S w own2) (.row T l) on) (hok : ∀ b, b ∈ on.bs → okS S w own2 b) : Rep X w (okS S w own2) (.slice T) l [on.v] := by
  obtain ⟨p1, p2, p3, p4⟩ := h
  rcases p4 with ⟨e1, rfl, _⟩ | ⟨gg, c, cur, e, e1, e2, e3, e4, e5, e6, e7⟩
  · rw [e1]; exact ⟨none, 0, rfl, Nat.le_refl _, by simp, .inl rfl⟩
  · rw [e1]
    exact ⟨_, c, rfl, e4, e5, .inr ⟨gg, 0, _, rfl, hok gg (by rw [e2]; simp), CellsAt.of_row e3 _, e7.1⟩⟩
theorem opD_wp {all : List Oper} (hX : X.OK) (hE : tysOK P E.tys = true) {call : CallFn E} (hc : CallOK P X E call) {w0 : World} {own0 : List Own} (hS : ∀ b, w0.heap.size ≤ b → S b) (hI : X.inv w0 (okS S w0 own0)) (hs : SR X S w0 own0 st a w) {k : St → Option R} {r : R} (h : opD E call all o st k = some r) {next : Act → World → Prop} {Q : Exit → Act → World → Prop}
    (hk : ∀ st' a' w', k st' = some r → SR X S w0 own0 st' a' w' → st'.tmps.length = st.tmps.length → next a' w') : o.wp P a w next Q := by
  unfold opD at h
  split at h
  · exact op_wp hX hE hc hS hI hs h hk
  · rename_i hw
    obtain ⟨hd, own, hr, f0, l0, ht⟩ := hs
    have hS' : ∀ b, w.heap.size ≤ b → S b := fun b hb => hS b (by have := f0.sz; omega)
    have hput : ∀ (av : AV), (st.put o.dst av).tmps.length = st.tmps.length := by
      intro av
      cases o.dst <;> simp [St.put]
    split at h
    · rename_i f args tys ho
      have hargs := ops_VRs ht args.toList
      have hdo := callS_sound (w := w) hX hS' (hX.invm f0.ok hI) (f := f) (hc f) hr hargs h
      have hrun : (execOp a.eval o).run P w = (callFunc f (args.toList.map a.eval).toArray).run P w := by
        simp only [execOp, ho, resolve, Sem.run_bind]
        simp only [Act.eval, Deferred.ofValue, Sem.run_pure, Result.andThen_ok, invoke]
        congr 2
        cases args
        simp [Act.eval]
      unfold Oper.wp
      rw [hrun]
      refine hdo o a next Q fun v w' => ?_
      rintro ⟨av, hk', own', hr', f', l', hv'⟩
      refine hk _ _ _ hk' ?_ (hput av)
      have := SR.step (objs' := st.objs) hX hd f0 l0 ht hr' f' l' o.dst hv'
      exact this
    · rename_i t len parts ho
      unfold bsS at h
      split at h
      · rename_i e b hti
        split at h
        · rename_i hn
          split at h
          · rename_i l hl
            split at h
            · rename_i hb
              have hfz : freezeAll st.objs (parts.toList.map fun p => opd st p.2) = st.objs := freezeAll_same (by simpa [List.map_map, Function.comp_def] using hn)
              obtain ⟨res, v, w', own1, hrun, hres, hr1, f1, l1, hv1⟩ := (wr_buildSliceW (o := o) (a := a) hX hE hr ht hS' hti hl (by simpa using hb) ho).ex
              rw [hfz] at hr1
              obtain ⟨own2, on, rfl, hl2, d1, d2, d3, d4⟩ := drop_ob hX hr1
              have hl3 : own2.length = own.length := by rw [hl2, hr.len]
              have l2 : OwnLe own own2 := fun i oi hi => by
                obtain ⟨o', e1, e2⟩ := l1 i oi hi
                rw [List.getElem?_append_left (by rw [hl3]; exact (List.getElem?_eq_some_iff.1 hi).1)] at e1
                exact ⟨o', e1, e2⟩
              obtain ⟨o3, ho3, hlv⟩ := hv1
              rw [← hl2, List.getElem?_append_right (Nat.le_refl _)] at ho3
              simp at ho3
              subst ho3
              have hv2 : VR X w' (okS S w' own2) own2 (.sl e l) v := by
                rw [hlv d3.1]
                exact row_data hX d3 d4
              have hsr := SR.step (objs' := st.objs) hX hd f0 l0 ht d1 (f1.trans d2) l2 o.dst hv2
              unfold Oper.wp
              rw [hrun]
              rcases hres with rfl | ⟨rfl, rfl⟩
              · exact hk _ _ _ h hsr (hput _)
              · exact hk _ _ _ h hsr (hput _)
            · cases h
          · cases h
        · cases h
      · cases h
    · rename_i src dst x ho
      split at h
      · rename_i b s h1 hti hx
        split at h
        · rename_i hs
          obtain ⟨res, v, w', own1, hrun, hres, hr1, f1, l1, hv1⟩ := (wr_convertStrW (o := o) (a := a) hX hE hr ht hS' h1 hti hx hs ho).ex
          obtain ⟨own2, on, rfl, hl2, d1, d2, d3, d4⟩ := drop_ob hX hr1
          have hl3 : own2.length = own.length := by rw [hl2, hr.len]
          have l2 : OwnLe own own2 := fun i oi hi => by
            obtain ⟨o', e1, e2⟩ := l1 i oi hi
            rw [List.getElem?_append_left (by rw [hl3]; exact (List.getElem?_eq_some_iff.1 hi).1)] at e1
            exact ⟨o', e1, e2⟩
          obtain ⟨o3, ho3, hlv⟩ := hv1
          rw [← hl2, List.getElem?_append_right (Nat.le_refl _)] at ho3
          simp at ho3
          subst ho3
          have hv2 : VR X w' (okS S w' own2) own2 (.sl (.int .u8) (strBytes s)) v := by
            rw [hlv d3.1]
            exact row_data hX d3 d4
          have hsr := SR.step (objs' := st.objs) hX hd f0 l0 ht d1 (f1.trans d2) l2 o.dst hv2
          unfold Oper.wp
          rw [hrun]
          rcases hres with rfl | ⟨rfl, rfl⟩
          · exact hk _ _ _ h hsr (hput _)
          · exact hk _ _ _ h hsr (hput _)
        · cases h
      · obtain ⟨av, hk', v, hrun, hv⟩ := opS_sound hX hE hr ht h
        unfold Oper.wp
        rw [hrun]
        exact hk _ _ _ hk' (SR.put hd f0 l0 ht hr o.dst hv) (hput av)
    · obtain ⟨av, hk', v, hrun, hv⟩ := opS_sound hX hE hr ht h
      unfold Oper.wp
      rw [hrun]
      exact hk _ _ _ hk' (SR.put hd f0 l0 ht hr o.dst hv) (hput av)
end
end Go.Proofs.YtgelkklendpeoaaGreat.AE

namespace Go.Proofs.YtgelkklendpeoaaGreat.AE
set_option linter.unusedVariables false
set_option linter.unusedSimpArgs false
open Go
set_option linter.unusedVariables false
set_option linter.unusedSimpArgs false

section
variable {X : ExtRep} {S : Nat → Prop} {P : Program} {E : Env} {R : Type}
theorem exists_max (p : Nat → Prop) : ∀ n : Nat, (∃ i, i < n ∧ p i) → ∃ i, i < n ∧ p i ∧ ∀ j, j < n → i < j → ¬ p j
  | 0, ⟨i, hi, _⟩ => by omega
  | n + 1, ⟨i, hi, hp⟩ => by
    by_cases hn : p n
    · exact ⟨n, by omega, hn, fun j h1 h2 => by omega⟩
    · have hin : i < n := by
        rcases Nat.lt_or_ge i n with h | h
        · exact h
        · have : i = n := by omega
          subst this; exact absurd hp hn
      obtain ⟨m, h1, h2, h3⟩ := exists_max p n ⟨i, hin, hp⟩
      refine ⟨m, by omega, h2, fun j hj hmj => ?_⟩
      rcases Nat.lt_or_ge j n with h | h
      · exact h3 j h hmj
      · have : j = n := by omega
        subst this; exact hn
/-- The temporaries, once the operations of 'L' have come up. -/
structure AtL (all : List Oper) (vals : Nat → AV) (base : List AV) (L : Nat → Prop) (tm : List AV) : Prop where
  len : tm.length = base.length
  set : ∀ (i : Nat) (o : Oper) (d : Nat), all[i]? = some o → L i → o.dst = some d → d < base.length → (∀ (j : Nat) (o' : Oper), i < j → all[j]? = some o' → L j → o'.dst ≠ some d) → tm[d]? = some (vals i)
  old : ∀ t : Nat, (∀ (i : Nat) (o : Oper), all[i]? = some o → L i → o.dst ≠ some t) → tm[t]? = base[t]?
theorem AtL.agree {all : List Oper} {vals : Nat → AV} {base : List AV} {L L' : Nat → Prop} {tm tm' : List AV} (h : AtL all vals base L tm) (h' : AtL all vals base L' tm') {t : Nat} (he : ∀ (i : Nat) (o : Oper), all[i]? = some o → o.dst = some t → (L i ↔ L' i)) : tm[t]? = tm'[t]? := by
  by_cases ht : t < base.length
  · by_cases hex : ∃ i, i < all.length ∧ (∃ o : Oper, all[i]? = some o ∧ o.dst = some t ∧ L i)
    · obtain ⟨i, hi, ⟨o, ho, hd, hl⟩, hmax⟩ := exists_max _ _ hex
      have h1 := h.set i o t ho hl hd ht (fun j o' hij ho' hlj hdj => hmax j (List.getElem?_eq_some_iff.1 ho').1 hij ⟨o', ho', hdj, hlj⟩)
      have h2 := h'.set i o t ho ((he i o ho hd).1 hl) hd ht (fun j o' hij ho' hlj hdj => hmax j (List.getElem?_eq_some_iff.1 ho').1 hij ⟨o', ho', hdj, (he j o' ho' hdj).2 hlj⟩)
      rw [h1, h2]
    · have h1 := h.old t (fun i o ho hl hd => hex ⟨i, (List.getElem?_eq_some_iff.1 ho).1, o, ho, hd, hl⟩)
      have h2 := h'.old t (fun i o ho hl hd => hex ⟨i, (List.getElem?_eq_some_iff.1 ho).1, o, ho, hd, (he i o ho hd).2 hl⟩)
      rw [h1, h2]
  · rw [List.getElem?_eq_none (by rw [h.len]; omega), List.getElem?_eq_none (by rw [h'.len]; omega)]
theorem AtL.put {all : List Oper} {vals : Nat → AV} {base : List AV} {L L' : Nat → Prop} {s : St} (h : AtL all vals base L s.tmps) {i : Nat} {o : Oper} (ho : all[i]? = some o) (hL : ∀ j, L' j ↔ (L j ∨ j = i)) (objs : List Ob)
    (hlast : ∀ (j : Nat) (o' : Oper) (d : Nat), i < j → all[j]? = some o' → L j → o.dst = some d → o'.dst ≠ some d) : AtL all vals base L' (({ s with objs := objs } : St).put o.dst (vals i)).tmps := by
  cases hd : o.dst with
  | none =>
    simp only [St.put]
    refine ⟨h.len, fun j o' d ho' hl hd' hlt hm => ?_, fun t hn => h.old t fun j o' ho' hl => hn j o' ho' ((hL j).2 (.inl hl))⟩
    rcases (hL j).1 hl with hl | rfl
    · exact h.set j o' d ho' hl hd' hlt (fun j' o2 hj ho2 hl2 => hm j' o2 hj ho2 ((hL j').2 (.inl hl2)))
    · rw [ho] at ho'; cases ho'; rw [hd] at hd'; cases hd'
  | some d0 =>
    simp only [St.put]
    refine ⟨by simpa using h.len, fun j o' d ho' hl hd' hlt hm => ?_, fun t hn => ?_⟩
    · rcases (hL j).1 hl with hlj | rfl
      · by_cases hdd : d0 = d
        · subst hdd
          -- i itself writes it: it is the last
          have hji : ¬ i < j := fun hij => hlast j o' d0 hij ho' hlj hd hd'
          have hij : ¬ j < i := fun hji2 => hm i o hji2 ho ((hL i).2 (.inr rfl)) hd
          have : j = i := by omega
          subst this
          exact List.getElem?_set_self (by rw [h.len]; exact hlt)
        · rw [List.getElem?_set_ne hdd]
          exact h.set j o' d ho' hlj hd' hlt (fun j' o2 hj ho2 hl2 => hm j' o2 hj ho2 ((hL j').2 (.inl hl2)))
      · rw [ho] at ho'; cases ho'; rw [hd] at hd'; cases hd'
        exact List.getElem?_set_self (by rw [h.len]; exact hlt)
    · have hne : d0 ≠ t := fun e => hn i o ho ((hL i).2 (.inr rfl)) (by rw [hd, e])
      rw [List.getElem?_set_ne hne]
      exact h.old t fun j o' ho' hl => hn j o' ho' ((hL j).2 (.inl hl))
def WantedA (all : List Oper) (s : St) (o : Oper) : Prop := match o.guard with | none => True | some (j, want) => guardAV all s j = .bool want
def NotWantedA (all : List Oper) (s : St) (o : Oper) : Prop := ∃ j want, o.guard = some (j, want) ∧ (guardAV all s j = .skp ∨ ∃ b, guardAV all s j = .bool b ∧ (b == want) = false)
def StepOK (E : Env) (call : CallFn E) (R : Type) (all : List Oper) (o : Oper) (s s' : St) (v : AV) : Prop :=
  (WantedA all s o ∧ ∃ objs', s' = ({ s with objs := objs' } : St).put o.dst v ∧ (isW E all o = false → objs' = s.objs) ∧ ∀ st', Agree o s st' → ∀ k' : St → Option R, opD E call all o st' k' = k' (({ st' with objs := objs' } : St).put o.dst v)) ∨
  (NotWantedA all s o ∧ v = .skp ∧ s' = s.put o.dst .skp)
def footA (all : List Oper) (i : Nat) (s : St) : List Nat := match all[i]? with | some o => footO o s | none => []
/-- What the check says of an operation, in the text's order. -/
structure ChkOK (E : Env) (all : List Oper) (bs : List (List Nat)) (feet : Nat → List Nat) (j : Nat) (o : Oper) (s s' : St) : Prop where
  bad : ∀ i ∈ badOf E all bs o j, ∀ x ∈ feet i, x ∉ footO o s
  lt : loose E all o = true → ∀ x ∈ footO o s, x < s.objs.length
  keeps : Keeps (fun i => i ∈ footO o s) s.objs s'.objs
theorem disjN_spec {a b : List Nat} (h : disjN a b = true) : ∀ x ∈ a, x ∉ b := by
  intro x hx hb
  have := List.all_eq_true.1 h x hx
  simp only [Bool.not_eq_true', List.any_eq_false] at this
  exact this x hb (by simp)
theorem put_objs_eq {s : St} {os os' : List Ob} {d : Option Nat} {v v' : AV} (h : ({ s with objs := os } : St).put d v = ({ s with objs := os' } : St).put d v') : os = os' := by
  have := congrArg St.objs h
  simpa only [St.put_objs] using this
theorem opD_keeps {all : List Oper} {call : CallFn E} {st : St} {o : Oper} {objs' : List Ob} {av : AV} (r : R) (hd : isW E all o = false → objs' = st.objs) (hk : ∀ k' : St → Option R, opD E call all o st k' = k' (({ st with objs := objs' } : St).put o.dst av)) :
    Keeps (fun i => i ∈ footO o st) st.objs objs' := by
  cases hw : isW E all o with
  | false => rw [hd hw]; exact Keeps.refl _ _
  | true =>
    have h1 := hk (fun z => @ite _ (z = ({ st with objs := objs' } : St).put o.dst av) (Classical.propDecidable _) (some r) none)
    rw [if_pos rfl] at h1
    unfold opD at h1
    rw [hw] at h1
    obtain ⟨av2, objs2, h2, h3⟩ := op_keeps hw h1
    have : ({ st with objs := objs2 } : St).put o.dst av2 = ({ st with objs := objs' } : St).put o.dst av := by
      by_cases hh : ({ st with objs := objs2 } : St).put o.dst av2 = ({ st with objs := objs' } : St).put o.dst av
      · exact hh
      · rw [if_neg hh] at h2; cases h2
    rw [← put_objs_eq this]
    exact h3
theorem run_trace {call : CallFn E} {r : R} (all : List Oper) (bs : List (List Nat)) : ∀ (l : List Oper) (m : Nat) (acc : List (List Nat)) (st : St) (k : St → Option R), acc.length = m → (∀ j, l[j]? = all[m + j]?) → opsX E call all bs l acc st k = some r →
    ∃ (vals : Nat → AV) (sts : Nat → St), sts m = st ∧ k (sts (m + l.length)) = some r ∧ ∀ (j : Nat) (o : Oper), m ≤ j → j < m + l.length → all[j]? = some o → StepOK E call R all o (sts j) (sts (j + 1)) (vals j) ∧
      ChkOK E all bs (fun i => if i < m then acc.getD i [] else footA all i (sts i)) j o (sts j) (sts (j + 1))
  | [], m, acc, st, k, _, _, h => ⟨fun _ => .undef, fun _ => st, rfl, h, fun j o h1 h2 => by simp at h2; omega⟩
  | o :: l, m, acc, st, k, hacc, hl, h => by
    have h0 : all[m]? = some o := by simpa using (hl 0).symm
    have hl' : ∀ j, l[j]? = all[m + 1 + j]? := fun j => by have := hl (j + 1); simp only [List.getElem?_cons_succ] at this; rw [this]; congr 1; omega
    simp only [opsX] at h
    split at h
    · cases h
    · rename_i hchk
      unfold chkO at hchk
      rw [Bool.and_eq_true, hacc] at hchk
      obtain ⟨hc1, hc2⟩ := hchk
      have glue : ∀ (s' : St) (v : AV), StepOK E call R all o st s' v → Keeps (fun i => i ∈ footO o st) st.objs s'.objs → opsX E call all bs l (acc ++ [footO o st]) s' k = some r → ∃ (vals : Nat → AV) (sts : Nat → St), sts m = st ∧ k (sts (m + (o :: l).length)) = some r ∧ ∀ (j : Nat) (o' : Oper), m ≤ j → j < m + (o :: l).length → all[j]? = some o' → StepOK E call R all o' (sts j) (sts (j + 1)) (vals j) ∧
          ChkOK E all bs (fun i => if i < m then acc.getD i [] else footA all i (sts i)) j o' (sts j) (sts (j + 1)) := by
        intro s' v hstep hkeep hrest
        obtain ⟨vals, sts, h1, h2, h3⟩ := run_trace all bs l (m + 1) (acc ++ [footO o st]) s' k (by simp [hacc]) hl' hrest
        have hfeet : (fun i => if i < m + 1 then (acc ++ [footO o st]).getD i [] else footA all i (sts i)) = fun i => if i < m then acc.getD i [] else footA all i (if i ≤ m then st else sts i) := by
          funext i
          rcases Nat.lt_trichotomy i m with hi | hi | hi
          · rw [if_pos (by omega), if_pos hi, List.getD_eq_getElem?_getD, List.getElem?_append_left (by omega), ← List.getD_eq_getElem?_getD]
          · subst hi
            rw [if_pos (by omega), if_neg (by omega), if_pos (Nat.le_refl _), List.getD_eq_getElem?_getD, List.getElem?_append_right (by omega), hacc]
            simp [footA, h0]
          · rw [if_neg (by omega), if_neg (by omega), if_neg (by omega)]
        refine ⟨fun j => if j = m then v else vals j, fun j => if j ≤ m then st else sts j, by simp, ?_, fun j o' h4 h5 h6 => ?_⟩
        · have e : m + (o :: l).length = m + 1 + l.length := by simp; omega
          show k (if m + (o :: l).length ≤ m then st else sts (m + (o :: l).length)) = some r
          rw [e, if_neg (by omega)]
          exact h2
        · by_cases hj : j = m
          · subst hj
            rw [h0] at h6; cases h6
            simp only [if_pos, Nat.le_refl, if_neg (show ¬ j + 1 ≤ j by omega)]
            rw [h1]
            refine ⟨hstep, ⟨fun i hi x hx => ?_, fun hlo x hx => ?_, hkeep⟩⟩
            · have hij : i < j := by
                unfold badOf at hi
                obtain ⟨p, hp, rfl⟩ := List.mem_map.1 hi
                have := (List.mem_filter.1 hp).1
                rw [List.mem_zipIdx_iff_getElem?] at this
                have := (List.getElem?_eq_some_iff.1 this).1
                simp at this; omega
              simp only [if_pos hij] at hx
              exact disjN_spec (List.all_eq_true.1 hc1 i hi) x hx
            · rw [hlo] at hc2
              simpa [Nat.blt_eq] using List.all_eq_true.1 hc2 x hx
          · have := h3 j o' (by omega) (by simp at h5; omega) h6
            simp only [if_neg hj, if_neg (show ¬ j ≤ m by omega), if_neg (show ¬ j + 1 ≤ m by omega)]
            rw [hfeet] at this
            exact this
      have run : WantedA all st o → opD E call all o st (fun st' => opsX E call all bs l (acc ++ [footO o st]) st' k) = some r → ∃ (vals : Nat → AV) (sts : Nat → St), sts m = st ∧ k (sts (m + (o :: l).length)) = some r ∧ ∀ (j : Nat) (o' : Oper), m ≤ j → j < m + (o :: l).length → all[j]? = some o' → StepOK E call R all o' (sts j) (sts (j + 1)) (vals j) ∧
          ChkOK E all bs (fun i => if i < m then acc.getD i [] else footA all i (sts i)) j o' (sts j) (sts (j + 1)) := by
        intro hw hrun
        obtain ⟨av, objs', p1, p2, p3⟩ := opD_pick hrun
        exact glue _ av (.inl ⟨hw, objs', rfl, p2, p3⟩) (by rw [St.put_objs]; exact opD_keeps r p2 (p3 st ⟨fun _ _ => rfl, rfl⟩)) p1
      split at h
      · rename_i hg
        exact run (by unfold WantedA; rw [hg]; trivial) h
      · rename_i j want hg
        split at h
        · rename_i b hb
          cases hbw : (b == want) with
          | true =>
            rw [hbw] at h
            have : b = want := by simpa using hbw
            subst this
            exact run (by unfold WantedA; rw [hg]; exact hb) h
          | false =>
            rw [hbw] at h
            exact glue _ .skp (.inr ⟨⟨j, want, hg, .inr ⟨b, hb, hbw⟩⟩, rfl, rfl⟩) (by rw [show (st.put o.dst .skp).objs = st.objs by cases o.dst <;> rfl]; exact Keeps.refl _ _) h
        · rename_i hb
          exact glue _ .skp (.inr ⟨⟨j, want, hg, .inl hb⟩, rfl, rfl⟩) (by rw [show (st.put o.dst .skp).objs = st.objs by cases o.dst <;> rfl]; exact Keeps.refl _ _) h
        · cases h
/-- What comes ahead is listed. -/
theorem befores_append : ∀ (os : List Oper) (acc : List (List Nat)), ∃ rest, befores os acc = acc ++ rest
  | [], acc => ⟨[], by simp [befores]⟩
  | o :: os, acc => by
    simp only [befores]
    obtain ⟨rest, h⟩ := befores_append os (acc ++ [o.after.toList.foldl (befStep acc) []])
    exact ⟨_, by rw [h, List.append_assoc]⟩
def ClosedL (all : List Oper) (L : Nat → Prop) : Prop := ∀ (j : Nat) (o : Oper), all[j]? = some o → L j → ∀ e ∈ o.after, Region.binds .any e = true → L e.on
theorem mem_uniN {i : Nat} : ∀ (l s : List Nat), i ∈ uniN l s → i ∈ l ∨ i ∈ s
  | [], s, h => .inr h
  | x :: l, s, h => by
    unfold uniN at h
    split at h
    · exact (mem_uniN l s h).imp (List.mem_cons_of_mem _) id
    · rcases mem_uniN l _ h with h | h
      · exact .inl (List.mem_cons_of_mem _ h)
      · rcases List.mem_cons.1 h with h | h
        · exact .inl (by simp [h])
        · exact .inr h
theorem fold_mem (acc : List (List Nat)) (i : Nat) : ∀ (es : List Edge) (s : List Nat), i ∈ es.foldl (befStep acc) s → i ∈ s ∨ ∃ e ∈ es, Region.binds .any e = true ∧ (i = e.on ∨ i ∈ acc.getD e.on [])
  | [], s, h => .inl h
  | e :: es, s, h => by
    simp only [List.foldl_cons] at h
    rcases fold_mem acc i es _ h with h1 | ⟨e', h1, h2⟩
    · unfold befStep at h1
      split at h1
      · rename_i hb
        rcases mem_uniN _ _ h1 with h1 | h1
        · rcases List.mem_cons.1 h1 with h1 | h1
          · exact .inr ⟨e, by simp, hb, .inl h1⟩
          · exact .inr ⟨e, by simp, hb, .inr h1⟩
        · exact .inl h1
      · exact .inl h1
    · exact .inr ⟨e', List.mem_cons_of_mem _ h1, h2⟩
theorem befores_spec {all : List Oper} {L : Nat → Prop} (hL : ClosedL all L) : ∀ (os : List Oper) (acc : List (List Nat)), (∀ j, os[j]? = all[acc.length + j]?) → acc.length + os.length = all.length →
    (∀ (j : Nat) (o : Oper), j < acc.length → all[j]? = some o → (∀ e ∈ o.after, Region.binds .any e = true → L e.on) → ∀ i ∈ acc.getD j [], L i) →
    ∀ (j : Nat) (o : Oper), all[j]? = some o → (∀ e ∈ o.after, Region.binds .any e = true → L e.on) → ∀ i ∈ (befores os acc).getD j [], L i
  | [], acc, h1, h2, h3, j, o, ho, he, i, hi => by
    simp only [befores] at hi
    exact h3 j o (by have := (List.getElem?_eq_some_iff.1 ho).1; simp at h2; omega) ho he i hi
  | o0 :: os, acc, h1, h2, h3, j, o, ho, he, i, hi => by
    simp only [befores] at hi
    refine befores_spec hL os _ (fun j => ?_) (by simp at h2 ⊢; omega) (fun j o hj ho he i hi => ?_) j o ho he i hi
    · have := h1 (j + 1)
      simp only [List.getElem?_cons_succ] at this
      rw [this, List.length_append, List.length_singleton]
      congr 1; omega
    · by_cases hja : j < acc.length
      · rw [List.getD_eq_getElem?_getD, List.getElem?_append_left hja, ← List.getD_eq_getElem?_getD] at hi
        exact h3 j o hja ho he i hi
      · have hj' : j = acc.length := by simp at hj; omega
        subst hj'
        have h0 : all[acc.length]? = some o0 := by simpa using (h1 0).symm
        rw [h0] at ho; cases ho
        rw [List.getD_eq_getElem?_getD, List.getElem?_append_right (Nat.le_refl _)] at hi
        simp at hi
        rw [← Array.foldl_toList] at hi
        rcases fold_mem acc i _ _ hi with h4 | ⟨e, h4, h5, h6⟩
        · simp at h4
        · have hle := he e (by simpa using h4) h5
          rcases h6 with rfl | h6
          · exact hle
          · by_cases hea : e.on < acc.length
            · obtain ⟨oe, hoe⟩ : ∃ oe, all[e.on]? = some oe := ⟨_, List.getElem?_eq_getElem (by omega)⟩
              exact h3 e.on oe hea hoe (fun e' he' hb' => hL e.on oe hoe hle e' he' hb') i h6
            · rw [List.getD_eq_getElem?_getD, List.getElem?_eq_none (by omega)] at h6
              simp at h6
end
end Go.Proofs.YtgelkklendpeoaaGreat.AE

namespace Go.Proofs.YtgelkklendpeoaaGreat.AE
set_option linter.unusedVariables false
set_option linter.unusedSimpArgs false
open Go
set_option linter.unusedVariables false
set_option linter.unusedSimpArgs false

section
variable {X : ExtRep} {S : Nat → Prop} {P : Program} {E : Env} {R : Type}
theorem drawOKFrom_spec {all : List Oper} {bs : List (List Nat)} : ∀ (os : List Oper) (m : Nat), drawOKFrom E all bs os m = true → ∀ (j : Nat) (o : Oper), os[j]? = some o → ∀ (i : Nat) (p : Oper), i < m + j → all[i]? = some p →
    ((isW E all o && !loose E all p) || (isW E all p && !loose E all o) || clash all p o) = true → i ∈ bs.getD (m + j) []
  | [], m, h, j, o, ho, i, p, hi, hp, hc => by simp at ho
  | o0 :: os, m, h, j, o, ho, i, p, hi, hp, hc => by
    simp only [drawOKFrom, Bool.and_eq_true] at h
    cases j with
    | zero =>
      simp at ho; subst ho
      have := List.all_eq_true.1 h.1 (p, i) (by
        rw [List.mem_zipIdx_iff_getElem?, List.getElem?_take, if_pos (by simpa using hi)]
        exact hp)
      simp only [hc] at this
      obtain ⟨x, hx, hxi⟩ := List.any_eq_true.1 this
      have : i = x := by simpa using hxi
      rw [this]; exact hx
    | succ j =>
      have := drawOKFrom_spec os (m + 1) h.2 j o (by simpa using ho) i p (by omega) hp hc
      rwa [show m + 1 + j = m + (j + 1) by omega] at this
theorem not_loose {all : List Oper} {o : Oper} (h : isW E all o = true) : loose E all o = false := by unfold loose; rw [h]
theorem loose_isW {all : List Oper} {o : Oper} (h : loose E all o = true) : isW E all o = false := by
  cases hw : isW E all o with
  | false => rfl
  | true => rw [not_loose hw] at h; cases h
theorem moves_isW {all : List Oper} {o : Oper} (h : moves o = true) : isW E all o = false := by
  unfold moves at h
  split at h
  · rename_i x hx; unfold isW; rw [hx]
  · rename_i x hx; unfold isW; rw [hx]
  · cases h
theorem unpin_zero (ts : List OT) : ∀ (ss : List SP) (vs : List AV) (os : List Ob), unpin 0 ts ss vs os = (vs, os)
  | [], _, _ => rfl
  | .dat _ :: ss, [], _ | .skip :: ss, [], _ | .ptr _ _ :: ss, [], _ | .ref _ :: ss, [], _ | .fnc _ _ :: ss, [], _ => rfl
  | .dat _ :: ss, v :: vs, os | .skip :: ss, v :: vs, os | .ptr _ _ :: ss, v :: vs, os | .fnc _ _ :: ss, v :: vs, os => by
    simp only [unpin, unpin_zero ts ss vs os]
  | .ref j :: ss, v :: vs, os => by
    cases v <;> simp only [unpin, unpin_zero ts ss vs os]
    rename_i i
    have : Nat.blt i 0 = false := by cases h : Nat.blt i 0 with | false => rfl | true => simp [Nat.blt_eq] at h
    simp only [this, Bool.false_and]
theorem nilRows_none : ∀ (ss : List SP) (vs : List AV) (os : List Ob), nilRows [] ss vs os = (vs, os)
  | [], _, _ => rfl
  | .dat _ :: ss, [], _ | .skip :: ss, [], _ | .ptr _ _ :: ss, [], _ | .ref _ :: ss, [], _ | .fnc _ _ :: ss, [], _ => rfl
  | .dat _ :: ss, v :: vs, os | .skip :: ss, v :: vs, os | .ptr _ _ :: ss, v :: vs, os | .fnc _ _ :: ss, v :: vs, os => by
    simp only [nilRows, nilRows_none ss vs os]
  | .ref j :: ss, v :: vs, os => by
    cases v <;> simp only [nilRows, nilRows_none ss vs os, List.getD_nil]
theorem readSlots_L {os os' : List Ob} : ∀ (ss : List SP) (vs : List AV) {rest : List Ty} (p : Prods rest), (∀ v ∈ vs, ∀ i ∈ idsA v, Ob.get os' i = Ob.get os i) → readSlots os' ss vs p = readSlots os ss vs p
  | [], _, _, _, _ => rfl
  | .dat _ :: ss, [], _, _, _ | .skip :: ss, [], _, _, _ | .ptr _ _ :: ss, [], _, _, _ | .ref _ :: ss, [], _, _, _ | .fnc _ _ :: ss, [], _, _, _ => rfl
  | .dat T :: ss, v :: vs, _, p, h => by
    simp only [readSlots, readDat_L (h v (by simp)) T, readSlots_L ss vs p fun x hx => h x (by simp [hx])]
  | .skip :: ss, v :: vs, _, p, h | .fnc _ _ :: ss, v :: vs, _, p, h | .ptr _ _ :: ss, v :: vs, _, p, h | .ref _ :: ss, v :: vs, _, p, h => readSlots_L ss vs p fun x hx => h x (by simp [hx])
theorem read_L (sh : Shape) (h0 : sh.objs = []) {vs : List AV} {os os' : List Ob} (h : ∀ v ∈ vs, ∀ i ∈ idsA v, Ob.get os' i = Ob.get os i) : (sh.read [] true vs os').map Got.x = (sh.read [] true vs os).map Got.x := by
  obtain ⟨slots, objs⟩ := sh
  subst h0
  unfold Shape.read
  simp only [List.length_nil, unpin_zero, nilRows_none, List.map_nil, List.nil_append, Nat.sub_self, List.replicate_zero]
  cases matchSlots slots vs [] with
  | none => rfl
  | some σ =>
    simp only
    cases allSome σ with
    | none => rfl
    | some σ' =>
      simp only
      cases lentOk slots vs σ' with
      | false => rfl
      | true =>
        simp only
        cases σ' with
        | nil =>
          have e : readSlots os' slots vs (rest := objTys []) () = readSlots os slots vs (rest := objTys []) () := readSlots_L slots vs (rest := objTys []) () h
          simp only [readObjs]
          rw [e]
          cases readSlots os slots vs (rest := objTys []) () <;> rfl
        | cons a b => rfl
theorem callS_L {call : CallFn E} {f : Nat} {args : List AV} {st st' : St} (h : ∀ v ∈ args, ∀ i ∈ idsA v, Ob.get st'.objs i = Ob.get st.objs i) (k : AV → Option R) : callS E call f args st' k = callS E call f args st k := by
  unfold callS
  split
  · rfl
  · rename_i h0
    split
    · rfl
    · have e := read_L (E.fn f).sig.ins h0 h
      revert e
      cases (E.fn f).sig.ins.read [] true args st'.objs with
      | none =>
        cases (E.fn f).sig.ins.read [] true args st.objs with
        | none => intro _; rfl
        | some g => intro e; cases e
      | some g' =>
        cases (E.fn f).sig.ins.read [] true args st.objs with
        | none => intro e; cases e
        | some g =>
          intro e
          have e' : g'.x = g.x := Option.some.inj e
          simp only [e']
/-- What is loose answers by its operands and the things that they name. -/
theorem loose_opD {all : List Oper} {call : CallFn E} {o : Oper} (h : loose E all o = true) (s : St) (os : List Ob) (k : St → Option R) (ho : moves o = true ∨ ∀ x ∈ footO o s, Ob.get os x = Ob.get s.objs x) :
    opD E call all o s k = opD E call all o { s with objs := os } (fun z => k { z with objs := s.objs }) := by
  have hopd : ∀ x, opd ({ s with objs := os } : St) x = opd s x := fun x => by cases x <;> rfl
  have e : ∀ kk : AV → Option R, opS E o ({ s with objs := os } : St) kk = opS E o s kk := by
    intro kk
    rcases ho with ho | ho
    · unfold moves at ho
      split at ho
      · rename_i x hx; simp only [opS, hx]; rfl
      · rename_i x hx; simp only [opS, hx]; rfl
      · cases ho
    · exact opS_agreeL ⟨fun x _ => hopd x, fun x hx i hi => ho i (mem_foot hx hi)⟩ kk
  have hput : ∀ (v : AV), ({ (({ s with objs := os } : St).put o.dst v) with objs := s.objs } : St) = s.put o.dst v := fun v => by cases o.dst <;> rfl
  have hw := loose_isW h
  unfold loose at h
  rw [hw] at h
  simp only at h
  unfold opD
  rw [hw]
  simp only
  split
  · rename_i f args sp hx
    have ho' : ∀ x ∈ footO o s, Ob.get os x = Ob.get s.objs x := by
      rcases ho with ho | ho
      · unfold moves at ho; rw [hx] at ho; cases ho
      · exact ho
    have hp : (args.toList.map (opd ({ s with objs := os } : St))) = args.toList.map (opd s) := List.map_congr_left fun p _ => hopd p
    rw [hp, callS_L (st := s) (st' := { s with objs := os }) (fun v hv i hi => by
      obtain ⟨q, hq, rfl⟩ := List.mem_map.1 hv
      exact ho' i (mem_foot (x := q) (by simp [hx, Op.operands, Call.operands]; first | exact .inr (by simpa using hq) | exact by simpa using hq) hi))]
    simp only [hput]
  · rename_i t len parts hx
    have hp : (parts.toList.map fun p => (p.1, opd ({ s with objs := os } : St) p.2)) = parts.toList.map fun p => (p.1, opd s p.2) := List.map_congr_left fun p _ => by rw [hopd]
    have ho' : ∀ x ∈ footO o s, Ob.get os x = Ob.get s.objs x := by
      rcases ho with ho | ho
      · unfold moves at ho; rw [hx] at ho; cases ho
      · exact ho
    rw [hp, bsS_L (E := E) (st := s) (st' := { s with objs := os }) (fun p hp i hi => by
      obtain ⟨q, hq, rfl⟩ := List.mem_map.1 hp
      exact ho' i (mem_foot (x := q.2) (by simp [hx, Op.operands]; exact ⟨q.1, by simpa using hq⟩) hi))]
    simp only [hput]
  · rw [e]
    simp only [hopd, hput]
  · rw [e]
    simp only [hput]
theorem footO_congr {o : Oper} {s s' : St} (h : ∀ x ∈ o.op.operands.toList, opd s x = opd s' x) : footO o s = footO o s' := by
  unfold footO
  revert h
  generalize o.op.operands.toList = l
  intro h
  induction l with
  | nil => rfl
  | cons a l ih => rw [List.flatMap_cons, List.flatMap_cons, h a (by simp), ih fun x hx => h x (by simp [hx])]
theorem idsA_lt {w : World} {ok : Nat → Prop} {own : List Own} {av : AV} {v : Value} (h : VR X w ok own av v) : ∀ i ∈ idsA av, i < own.length := by
  intro i hi
  cases av with
  | ref j => obtain ⟨o, h1, _⟩ := h; simp [idsA] at hi; subst hi; exact (List.getElem?_eq_some_iff.1 h1).1
  | ptr j off => obtain ⟨o, g, h1, _⟩ := h; simp [idsA] at hi; subst hi; exact (List.getElem?_eq_some_iff.1 h1).1
  | ea j ix off => obtain ⟨o, h1, _⟩ := h; simp [idsA] at hi; subst hi; exact (List.getElem?_eq_some_iff.1 h1).1
  | fn f cs =>
    obtain ⟨vs, _, hl, h1⟩ := h
    simp [idsA] at hi
    obtain ⟨j, hj⟩ := List.mem_iff_getElem?.1 hi
    have hjl : j < vs.length := by rw [hl]; exact (List.getElem?_eq_some_iff.1 hj).1
    obtain ⟨o, g, h2, _⟩ := h1 j i _ hj (List.getElem?_eq_getElem hjl)
    exact (List.getElem?_eq_some_iff.1 h2).1
  | _ => simp [idsA] at hi
theorem foot_lt {w0 w : World} {own0 : List Own} {st : St} {a : Act} {o : Oper} (hs : SR X S w0 own0 st a w) : ∀ i ∈ footO o st, i < st.objs.length := by
  obtain ⟨_, own, hr, _, _, ht⟩ := hs
  intro i hi
  obtain ⟨x, hx, hi⟩ := List.mem_flatMap.1 hi
  have := idsA_lt (opd_VR ht x) i hi
  rw [← hr.len]; exact this
theorem freezeAll_SR (hX : X.OK) {w : World} : ∀ (vs : List AV) {objs : List Ob} {own : List Own}, HR X S w objs own → ∃ own', HR X S w (freezeAll objs vs) own' ∧ Frm S w own w own' ∧ OwnLe own own'
  | [], objs, own, h => ⟨own, h, Frm.refl .., OwnLe.refl _⟩
  | v :: vs, objs, own, h => by
    obtain ⟨o1, a1, a2, a3, _⟩ := freezeV_step hX h v
    obtain ⟨o2, b1, b2, b3⟩ := freezeAll_SR hX vs a1
    exact ⟨o2, b1, a2.trans b2, a3.trans b3⟩
theorem preF_SR (hX : X.OK) {w0 w : World} {own0 : List Own} {st : St} {a : Act} {all : List Oper} (hs : SR X S w0 own0 st a w) : SR X S w0 own0 (preF E all st) a w := by
  obtain ⟨hd, own, hr, f0, l0, ht⟩ := hs
  obtain ⟨own', b1, b2, b3⟩ := freezeAll_SR hX ((sliced E all).map fun t => st.tmps.getD t .undef) hr
  exact ⟨hd, own', b1, f0.trans b2, l0.trans b3, ht.mono hX b2.ok b3⟩
theorem drawn_wp (hX : X.OK) (hE : tysOK P E.tys = true) (hm : P.follows .mixedOrders = true) {call : CallFn E} (hc : CallOK P X E call) {w0 : World} {own0 : List Own} (hS : ∀ b, w0.heap.size ≤ b → S b) (hI : X.inv w0 (okS S w0 own0)) {r : R} {id : Nat} {ops : Array Oper} (hok : drawOK E ops.toList = true)
    {st : St} {a : Act} {w : World} {k : St → Option R} (hs : SR X S w0 own0 st a w) (h : opsX E call ops.toList (befores ops.toList []) ops.toList [] st k = some r) {Q : Exit → Act → World → Prop}
    (hk : ∀ st' a' w', k st' = some r → SR X S w0 own0 st' a' w' → st'.tmps.length = st.tmps.length → Q .normal a' w') : (Code.region id ops true).wp P Q a w := by
  obtain ⟨vals, sts, t1, t2, t3⟩ := run_trace ops.toList (befores ops.toList []) ops.toList 0 [] st k rfl (fun j => by rw [Nat.zero_add]) h
  simp only [Nat.zero_add, Nat.zero_le, true_implies] at t2 t3
  simp only [Nat.not_lt_zero, if_false] at t3
  have t3' : ∀ (j : Nat) (o : Oper), ops.toList[j]? = some o → StepOK E call R ops.toList o (sts j) (sts (j + 1)) (vals j) := fun j o ho => (t3 j o (List.getElem?_eq_some_iff.1 ho).1 ho).1
  have t4 : ∀ (j : Nat) (o : Oper), ops.toList[j]? = some o → ChkOK E ops.toList (befores ops.toList []) (fun i => footA ops.toList i (sts i)) j o (sts j) (sts (j + 1)) := fun j o ho => (t3 j o (List.getElem?_eq_some_iff.1 ho).1 ho).2
  unfold drawOK at hok
  rw [Bool.and_eq_true] at hok
  obtain ⟨hk1, hk2⟩ := hok
  have edges : ∀ (j : Nat) (o : Oper), ops.toList[j]? = some o → ∀ e ∈ o.after, Region.binds .any e = true → e.on < j := by
    intro j o ho e he hb
    have := List.all_eq_true.1 hk1 (o, j) (by rw [List.mem_zipIdx_iff_getElem?]; exact ho)
    have := List.all_eq_true.1 this e (by simpa using he)
    rw [hb] at this
    simpa using this
  have order : ∀ (i j : Nat) (p o : Oper), i < j → ops.toList[i]? = some p → ops.toList[j]? = some o → ((isW E ops.toList o && !loose E ops.toList p) || (isW E ops.toList p && !loose E ops.toList o) || clash ops.toList p o) = true → i ∈ (befores ops.toList []).getD j [] := by
    intro i j p o hij hp ho hcl
    have := drawOKFrom_spec ops.toList 0 hk2 j o ho i p (by omega) hp hcl
    rwa [Nat.zero_add] at this
  have bef : ∀ {L : Nat → Prop}, ClosedL ops.toList L → ∀ (j : Nat) (o : Oper), ops.toList[j]? = some o → (∀ e ∈ o.after, Region.binds .any e = true → L e.on) → ∀ i ∈ (befores ops.toList []).getD j [], L i := fun hL j o ho he =>
    befores_spec hL ops.toList [] (fun j => by simp) (by simp) (fun j o hj => by simp at hj) j o ho he
  -- the state of the text's order
  have putlen : ∀ (s : St) (d : Option Nat) (v : AV), (s.put d v).tmps.length = s.tmps.length := by intro s d v; cases d <;> simp [St.put]
  have stepf : ∀ (j : Nat) (o : Oper), ops.toList[j]? = some o → ∃ objs', sts (j + 1) = ({ sts j with objs := objs' } : St).put o.dst (vals j) ∧ (isW E ops.toList o = false → objs' = (sts j).objs) := by
    intro j o ho
    rcases t3' j o ho with ⟨_, objs', e1, e2, _⟩ | ⟨_, e1, e2⟩
    · exact ⟨objs', e1, e2⟩
    · exact ⟨(sts j).objs, by rw [e1]; exact e2, fun _ => rfl⟩
  have text : ∀ j, j ≤ ops.toList.length → AtL ops.toList vals st.tmps (· < j) (sts j).tmps := by
    intro j
    induction j with
    | zero => intro _; rw [t1]; exact ⟨rfl, fun i o d _ hl => by omega, fun t _ => rfl⟩
    | succ j ih =>
      intro hj
      have ho : ops.toList[j]? = some ops.toList[j] := List.getElem?_eq_getElem (by omega)
      obtain ⟨objs', e1, _⟩ := stepf j _ ho
      rw [e1]
      exact AtL.put (ih (by omega)) ho (fun i => by omega) objs' (fun i o' d hij ho' hl => by omega)
  have objsAt : ∀ (i j : Nat), i ≤ j → j ≤ ops.toList.length → (∀ (m : Nat) (o : Oper), i ≤ m → m < j → ops.toList[m]? = some o → isW E ops.toList o = false) → (sts j).objs = (sts i).objs := by
    intro i j hij
    induction j with
    | zero => intro _ _; have : i = 0 := by omega
              subst this; rfl
    | succ j ih =>
      intro hj hno
      by_cases he : i = j + 1
      · subst he; rfl
      · have ho : ops.toList[j]? = some ops.toList[j] := List.getElem?_eq_getElem (by omega)
        obtain ⟨objs', e1, e2⟩ := stepf j _ ho
        rw [e1, St.put_objs]
        show objs' = _
        rw [e2 (hno j _ (by omega) (by omega) ho)]
        exact ih (by omega) (by omega) (fun m o h1 h2 h3 => hno m o h1 (by omega) h3)
  have objsEq : ∀ (L : Nat → Prop) (i j : Nat), i ≤ ops.toList.length → j ≤ ops.toList.length → (∀ (m : Nat) (o : Oper), ops.toList[m]? = some o → isW E ops.toList o = true → (L m ↔ m < i)) → (∀ (m : Nat) (o : Oper), ops.toList[m]? = some o → isW E ops.toList o = true → (L m ↔ m < j)) → (sts i).objs = (sts j).objs := by
    intro L i j hi hj h1 h2
    have key : ∀ (i j : Nat), i ≤ j → j ≤ ops.toList.length → (∀ (m : Nat) (o : Oper), ops.toList[m]? = some o → isW E ops.toList o = true → (L m ↔ m < i)) → (∀ (m : Nat) (o : Oper), ops.toList[m]? = some o → isW E ops.toList o = true → (L m ↔ m < j)) → (sts j).objs = (sts i).objs := by
      intro i j hij hj h1 h2
      refine objsAt i j hij hj (fun m o h3 h4 h5 => ?_)
      cases hw : isW E ops.toList o with
      | false => rfl
      | true =>
        have := (h1 m o h5 hw).1 ((h2 m o h5 hw).2 h4)
        omega
    rcases Nat.le_total i j with hij | hij
    · exact (key i j hij hj h1 h2).symm
    · exact key j i hij hi h2 h1
  -- any order
  have main : ∀ (fuel : Nat) (listed : Array Bool) (s : St) (a : Act) (w : World), listed.size = ops.size → listed.toList.countP (fun b => !b) = fuel → ClosedL ops.toList (fun i => listed.getD i false = true) → SR X S w0 own0 s a w →
      AtL ops.toList vals st.tmps (fun i => listed.getD i false = true) s.tmps → (∃ j, j ≤ ops.toList.length ∧ (∀ (m : Nat) (o : Oper), ops.toList[m]? = some o → isW E ops.toList o = true → (listed.getD m false = true ↔ m < j)) ∧ s.objs = (sts j).objs) →
      wpAny P .any ops Q fuel listed a w := by
    have done_ : ∀ (listed : Array Bool) (s : St) (a : Act) (w : World), listed.size = ops.size → Region.ready .any ops listed = [] → SR X S w0 own0 s a w → AtL ops.toList vals st.tmps (fun i => listed.getD i false = true) s.tmps →
        (∃ j, j ≤ ops.toList.length ∧ (∀ (m : Nat) (o : Oper), ops.toList[m]? = some o → isW E ops.toList o = true → (listed.getD m false = true ↔ m < j)) ∧ s.objs = (sts j).objs) → Q .normal a w := by
      intro listed s a w hsz hready hsr hat ⟨j, hj, hj1, hj2⟩
      have hall : ∀ i, i < ops.size → listed.getD i false = true := by
        intro i
        induction i using Nat.strongRecOn with
        | _ i ih =>
          intro hi
          cases hl : listed.getD i false with
          | true => rfl
          | false =>
            exfalso
            have ho : ops[i]? = some ops[i] := Array.getElem?_eq_getElem hi
            have : i ∈ Region.ready .any ops listed := mem_ready.2 ⟨by
              have : i < listed.size := by omega
              simp [this] at hl ⊢; exact hl, _, ho, fun e he hb => by
                have hlt := edges i _ (by simp) e he hb
                exact ih e.on hlt (by omega)⟩
            rw [hready] at this
            cases this
      have heq : s = sts ops.toList.length := by
        have ht := text ops.toList.length (Nat.le_refl _)
        have h1 : s.tmps = (sts ops.toList.length).tmps := by
          apply List.ext_getElem?
          intro t
          refine hat.agree ht (fun i o ho _ => ?_)
          have := (List.getElem?_eq_some_iff.1 ho).1
          exact ⟨fun _ => this, fun _ => hall i (by simpa using this)⟩
        have h2 : s.objs = (sts ops.toList.length).objs := by
          rw [hj2]
          refine objsEq (fun i => listed.getD i false = true) j _ hj (Nat.le_refl _) hj1 (fun m o ho _ => ?_)
          have := (List.getElem?_eq_some_iff.1 ho).1
          exact ⟨fun _ => this, fun _ => hall m (by simpa using this)⟩
        cases s
        cases hh : sts ops.toList.length
        rw [hh] at h1 h2
        simp only at h1 h2
        rw [h1, h2]
      refine hk s a w (by rw [heq]; exact t2) hsr (by rw [hat.len])
    intro fuel
    induction fuel with
    | zero =>
      intro listed s a w hsz hcnt hcl hsr hat hob
      have hready : Region.ready .any ops listed = [] := by
        rw [List.eq_nil_iff_forall_not_mem]
        intro i hi
        obtain ⟨h1, o, ho, _⟩ := mem_ready.1 hi
        have hil : i < listed.size := by rw [hsz]; exact (Array.getElem?_eq_some_iff.1 ho).1
        have := (List.countP_eq_zero.1 hcnt) listed[i] (by simp)
        simp [hil] at h1
        rw [h1] at this
        simp at this
      exact ⟨hready, done_ listed s a w hsz hready hsr hat hob⟩
    | succ fuel ih =>
      intro listed s a w hsz hcnt hcl hsr hat hob
      refine ⟨fun hready => done_ listed s a w hsz hready hsr hat hob, fun i hi => ?_⟩
      obtain ⟨hun, o, ho, hed⟩ := mem_ready.1 hi
      have hol : ops.toList[i]? = some o := by simpa using ho
      have hil : i < listed.size := by rw [hsz]; exact (Array.getElem?_eq_some_iff.1 ho).1
      have hunf : ¬ listed.getD i false = true := by simp [hil] at hun ⊢; exact hun
      have hin : i < ops.toList.length := (List.getElem?_eq_some_iff.1 hol).1
      -- who is listed, of those that matter to i
      have ahead : ∀ (m : Nat) (p : Oper), ops.toList[m]? = some p → ((isW E ops.toList o && !loose E ops.toList p) || (isW E ops.toList p && !loose E ops.toList o) || (if m < i then clash ops.toList p o else clash ops.toList o p)) = true → (listed.getD m false = true ↔ m < i) := by
        intro m p hp hcon
        constructor
        · intro hl
          rcases Nat.lt_trichotomy m i with h1 | h1 | h1
          · exact h1
          · subst h1; exact absurd hl hunf
          · exfalso
            rw [if_neg (by omega)] at hcon
            have : i ∈ (befores ops.toList []).getD m [] := order i m o p h1 hol hp (by
              rw [Bool.or_eq_true, Bool.or_eq_true] at hcon ⊢
              rcases hcon with (hcon | hcon) | hcon
              · exact .inl (.inr hcon)
              · exact .inl (.inl hcon)
              · exact .inr hcon)
            exact hunf (bef hcl m p hp (fun e he hb => hcl m p hp hl e he hb) i this)
        · intro hmi
          rw [if_pos hmi] at hcon
          exact bef hcl i o hol hed m (order m i p o hmi hp hol hcon)
      have hW : loose E ops.toList o = false → ∀ (m : Nat) (p : Oper), ops.toList[m]? = some p → isW E ops.toList p = true → (listed.getD m false = true ↔ m < i) := fun hmv m p hp hw => ahead m p hp (by simp [hw, hmv])
      have hobj : loose E ops.toList o = false → s.objs = (sts i).objs := by
        intro hmv
        obtain ⟨j, hj, hj1, hj2⟩ := hob
        rw [hj2]
        exact objsEq _ j i hj (by omega) hj1 (hW hmv)
      have hnames : ∀ t, t ∈ namesOf ops.toList o → s.tmps[t]? = (sts i).tmps[t]? := by
        intro t ht
        refine hat.agree (text i (by omega)) (fun m p hp hd => ?_)
        by_cases hmi : m = i
        · subst hmi; exact ⟨fun hl => absurd hl hunf, fun hl => by omega⟩
        · refine ahead m p hp ?_
          have hany : (namesOf ops.toList o).any (Nat.beq t) = true := List.any_eq_true.2 ⟨t, ht, by simp⟩
          rw [Bool.or_eq_true]
          right
          split
          · unfold clash
            rw [hd]
            cases o.dst <;> simp [hany]
          · unfold clash
            rw [hd]
            cases o.dst <;> simp [hany]
      have hopd : ∀ x, x ∈ o.op.operands.toList → opd s x = opd (sts i) x := by
        intro x hx
        cases x with
        | tmp t =>
          have : t ∈ namesOf ops.toList o := by
            unfold namesOf
            refine List.mem_append.2 (.inl (List.mem_filterMap.2 ⟨_, hx, rfl⟩))
          simp only [opd, List.getD_eq_getElem?_getD, hnames t this]
        | const v => rfl
        | func f => rfl
        | global g => rfl
      have hguard : ∀ j want, o.guard = some (j, want) → guardAV ops.toList s j = guardAV ops.toList (sts i) j := by
        intro j want hg
        unfold guardAV
        cases hoj : ops.toList[j]? with
        | none => rfl
        | some oj =>
          simp only
          cases hd : oj.dst with
          | none => rfl
          | some d =>
            have : d ∈ namesOf ops.toList o := by
              unfold namesOf
              rw [hg]
              simp only [hoj, hd]
              exact List.mem_append.2 (.inr (by simp))
            simp only [List.getD_eq_getElem?_getD, hnames d this]
      have hset : ∀ m, (listed.setIfInBounds i true).getD m false = true ↔ (listed.getD m false = true ∨ m = i) := by
        intro m
        by_cases hmi : i = m
        · subst hmi
          simp [hil]
        · rw [getD_set_ne false hmi]
          constructor
          · exact .inl
          · rintro (h | h)
            · exact h
            · exact absurd h.symm hmi
      have hcl' : ClosedL ops.toList (fun m => (listed.setIfInBounds i true).getD m false = true) := by
        intro m p hp hl e he hb
        rcases (hset m).1 hl with hl | rfl
        · exact (hset _).2 (.inl (hcl m p hp hl e he hb))
        · rw [hol] at hp; cases hp
          exact (hset _).2 (.inl (hed e he hb))
      have hcnt' : (listed.setIfInBounds i true).toList.countP (fun b => !b) = fuel := by
        rw [Array.toList_setIfInBounds, List.countP_set (by simpa using hil), hcnt]
        have : listed.toList[i]'(by simpa using hil) = false := by simp [hil] at hun ⊢; exact hun
        rw [this]
        simp
      have hlast : ∀ (j : Nat) (o' : Oper) (d : Nat), i < j → ops.toList[j]? = some o' → listed.getD j false = true → o.dst = some d → o'.dst ≠ some d := by
        intro j o' d hij ho' hl hd hd'
        have := (ahead j o' ho' (by
          rw [Bool.or_eq_true]
          right
          rw [if_neg (by omega)]
          unfold clash
          rw [hd, hd']
          simp)).1 hl
        omega
      -- the next state
      have next : ∀ (objs' : List Ob) (a' : Act) (w' : World), (loose E ops.toList o = false → objs' = (sts (i + 1)).objs) → (loose E ops.toList o = true → objs' = s.objs) → SR X S w0 own0 (({ s with objs := objs' } : St).put o.dst (vals i)) a' w' → wpAny P .any ops Q fuel (listed.setIfInBounds i true) a' w' := by
        intro objs' a' w' he1 he2 hsr'
        refine ih _ _ a' w' (by simp [hsz]) hcnt' hcl' hsr' (hat.put hol hset objs' hlast) ?_
        cases hmv : loose E ops.toList o with
        | false =>
          refine ⟨i + 1, by omega, fun m p hp hw => ?_, by rw [St.put_objs]; exact he1 hmv⟩
          rw [hset, hW hmv m p hp hw]
          omega
        | true =>
          obtain ⟨j, hj, hj1, hj2⟩ := hob
          refine ⟨j, hj, fun m p hp hw => ?_, by rw [St.put_objs]; exact (he2 hmv).trans hj2⟩
          rw [hset, ← hj1 m p hp hw]
          refine ⟨fun h => h.resolve_right fun hmi => ?_, .inl⟩
          subst hmi
          rw [hol] at hp; cases hp
          rw [loose_isW hmv] at hw; cases hw
      unfold wpOp
      rw [ho]
      simp only
      rcases t3' i o hol with ⟨hwant, objs', e1, e2, e3⟩ | ⟨⟨j, want, hg, hno⟩, e1, e2⟩
      · have hobjs' : objs' = (sts (i + 1)).objs := by rw [e1, St.put_objs]
        have hw : Region.wanted o (yielded ops a.tmps) = true := by
          unfold WantedA at hwant
          cases hg : o.guard with
          | none => exact wanted_none hg
          | some jw =>
            obtain ⟨j, want⟩ := jw
            rw [hg] at hwant
            simp only at hwant
            obtain ⟨_, own, _, _, _, ht⟩ := hsr
            have := (guard_VR (st := s) ht ops.toList j ((hguard j want hg).trans hwant)).1 want rfl
            simp only [Array.toArray_toList] at this
            simp [Region.wanted, hg, this]
        rw [if_pos hw]
        refine .inl ?_
        have hagree : Agree o (sts i) { s with objs := (sts i).objs } := ⟨fun x hx => by
          rw [← hopd x hx]
          cases x <;> rfl, rfl⟩
        -- where it is loose: the things that it names stand as in the text's order
        have hsame : loose E ops.toList o = true → moves o = true ∨ ∀ x ∈ footO o s, Ob.get (sts i).objs x = Ob.get s.objs x := by
          intro hlo
          cases hmv : moves o with
          | true => exact .inl rfl
          | false =>
            right
            have hfoot : footO o s = footO o (sts i) := footO_congr hopd
            intro x hx
            have hlt := foot_lt hsr x hx
            obtain ⟨j, hj, hj1, hj2⟩ := hob
            rw [hj2] at hlt ⊢
            have hlti := (t4 i o hol).lt hlo x (by rw [← hfoot]; exact hx)
            -- one step of what is not ordered against i leaves x
            have step : ∀ (m : Nat) (p : Oper), ops.toList[m]? = some p → (isW E ops.toList p = true → m ≠ i ∧ ¬ (listed.getD m false = true ↔ m < i)) → x < (sts m).objs.length → Ob.get (sts (m + 1)).objs x = Ob.get (sts m).objs x := by
              intro m p hp hno hxl
              cases hw : isW E ops.toList p with
              | false =>
                obtain ⟨objs', e1, e2⟩ := stepf m p hp
                rw [e1, St.put_objs, e2 hw]
              | true =>
                refine (t4 m p hp).keeps.2 x hxl fun hxm => ?_
                obtain ⟨hne, hno⟩ := hno hw
                rcases Nat.lt_or_gt_of_ne hne with hmi | hmi
                · -- m stands ahead and is not listed: nothing orders it
                  have hnb : m ∉ (befores ops.toList []).getD i [] := fun hb => hno ⟨fun _ => hmi, fun _ => bef hcl i o hol hed m hb⟩
                  have hmem : m ∈ badOf E ops.toList (befores ops.toList []) o i := by
                    unfold badOf
                    refine List.mem_map.2 ⟨(p, m), List.mem_filter.2 ⟨?_, ?_⟩, rfl⟩
                    · rw [List.mem_zipIdx_iff_getElem?, List.getElem?_take, if_pos hmi]; exact hp
                    · simp only [hw, hlo, hmv, Bool.not_false, Bool.and_self, Bool.or_true, Bool.true_and, Bool.not_eq_true', List.any_eq_false]
                      intro y hy hyb
                      have : m = y := by simpa using hyb
                      subst this; exact hnb hy
                  refine (t4 i o hol).bad m hmem x ?_ (by rw [← hfoot]; exact hx)
                  unfold footA; rw [hp]; exact hxm
                · have hnb : i ∉ (befores ops.toList []).getD m [] := fun hb => hno ⟨fun hl => absurd (bef hcl m p hp (fun e he hb => hcl m p hp hl e he hb) i hb) hunf, fun h => by omega⟩
                  have hmem : i ∈ badOf E ops.toList (befores ops.toList []) p m := by
                    unfold badOf
                    refine List.mem_map.2 ⟨(o, i), List.mem_filter.2 ⟨?_, ?_⟩, rfl⟩
                    · rw [List.mem_zipIdx_iff_getElem?, List.getElem?_take, if_pos hmi]; exact hol
                    · simp only [hw, hlo, hmv, Bool.not_false, Bool.and_self, Bool.true_or, Bool.true_and, Bool.not_eq_true', List.any_eq_false]
                      intro y hy hyb
                      have : i = y := by simpa using hyb
                      subst this; exact hnb hy
                  refine (t4 m p hp).bad i hmem x ?_ hxm
                  unfold footA; rw [hol]; exact (by rw [← hfoot]; exact hx : x ∈ footO o (sts i))
            have grow : ∀ (a b : Nat), a ≤ b → b ≤ ops.toList.length → (sts a).objs.length ≤ (sts b).objs.length := by
              intro a b hab
              induction b with
              | zero => intro _; have : a = 0 := by omega
                        subst this; exact Nat.le_refl _
              | succ b ih =>
                intro hb
                by_cases he : a = b + 1
                · subst he; exact Nat.le_refl _
                · have ho' : ops.toList[b]? = some ops.toList[b] := List.getElem?_eq_getElem (by omega)
                  exact Nat.le_trans (ih (by omega) (by omega)) (t4 b _ ho').keeps.1
            have chain : ∀ (a b : Nat), a ≤ b → b ≤ ops.toList.length → x < (sts a).objs.length → (∀ m p, a ≤ m → m < b → ops.toList[m]? = some p → isW E ops.toList p = true → m ≠ i ∧ ¬ (listed.getD m false = true ↔ m < i)) → Ob.get (sts b).objs x = Ob.get (sts a).objs x := by
              intro a b hab
              induction b with
              | zero => intro _ _ _; have : a = 0 := by omega
                        subst this; rfl
              | succ b ih =>
                intro hb hxl hno
                by_cases he : a = b + 1
                · subst he; rfl
                · have ho' : ops.toList[b]? = some ops.toList[b] := List.getElem?_eq_getElem (by omega)
                  rw [step b _ ho' (fun hw => hno b _ (by omega) (by omega) ho' hw) (Nat.lt_of_lt_of_le hxl (grow a b (by omega) (by omega)))]
                  exact ih (by omega) (by omega) hxl fun m p h1 h2 => hno m p h1 (by omega)
            rcases Nat.le_total j i with hji | hji
            · refine chain j i hji (by omega) hlt fun m p h1 h2 hp hw => ⟨by omega, fun hiff => ?_⟩
              have := (hj1 m p hp hw).1 (hiff.2 h2)
              omega
            · refine (chain i j hji hj hlti fun m p h1 h2 hp hw => ?_).symm
              have hne : m ≠ i := fun e => by
                subst e
                rw [hol] at hp; cases hp
                rw [loose_isW hlo] at hw; cases hw
              refine ⟨hne, fun hiff => ?_⟩
              have := hiff.1 ((hj1 m p hp hw).2 h2)
              omega
        have e4 : ∀ k' : St → Option R, opD E call ops.toList o s k' = k' (({ s with objs := if loose E ops.toList o = true then s.objs else objs' } : St).put o.dst (vals i)) := by
          intro k'
          cases hmv : loose E ops.toList o with
          | false =>
            have hs1 : ({ s with objs := (sts i).objs } : St) = s := by rw [← hobj hmv]
            have := e3 _ hagree k'
            rw [hs1] at this
            rw [this]
            have : ({ s with objs := (sts i).objs } : St).objs = s.objs := by rw [hs1]
            cases o.dst <;> simp [St.put]
          | true =>
            rw [loose_opD hmv s (sts i).objs k' (hsame hmv), e3 _ hagree]
            cases o.dst <;> simp [St.put]
        have hrun := e4 (fun st' => @ite _ (st' = ({ s with objs := if loose E ops.toList o = true then s.objs else objs' } : St).put o.dst (vals i)) (Classical.propDecidable _) (some r) none)
        rw [if_pos rfl] at hrun
        refine opD_wp hX hE hc hS hI hsr hrun (fun st' a' w' h' hsr' _ => ?_)
        have : st' = ({ s with objs := if loose E ops.toList o = true then s.objs else objs' } : St).put o.dst (vals i) := by
          by_cases hh : st' = ({ s with objs := if loose E ops.toList o = true then s.objs else objs' } : St).put o.dst (vals i)
          · exact hh
          · rw [if_neg hh] at h'; cases h'
        subst this
        exact next _ a' w' (fun hmv => by rw [hmv]; simpa using hobjs') (fun hmv => by rw [hmv]; simp) hsr'
      · have hw : ¬ Region.wanted o (yielded ops a.tmps) = true := by
          obtain ⟨_, own, _, _, _, ht⟩ := hsr
          rcases hno with hno | ⟨b, hno, hb⟩
          · have := (guard_VR (st := s) ht ops.toList j ((hguard j want hg).trans hno)).2 rfl
            simp only [Array.toArray_toList] at this
            simp [Region.wanted, hg, this]
          · have := (guard_VR (st := s) ht ops.toList j ((hguard j want hg).trans hno)).1 b rfl
            simp only [Array.toArray_toList] at this
            simp [Region.wanted, hg, this]
            simpa using hb
        rw [if_neg hw]
        refine next s.objs _ w (fun hmv => by rw [e2, St.put_objs]; exact hobj hmv) (fun _ => rfl) ?_
        rw [e1]
        exact skp_SR hsr o.dst
  refine wp_region_any hm ?_
  have hsr0 : SR X S w0 own0 st a { w with drawn := w.drawn + 1 } := by
    obtain ⟨hd, own, hr, f0, l0, ht⟩ := hs
    obtain ⟨q1, q2⟩ := hr.changeF hX (w' := { w with drawn := w.drawn + 1 }) (objs' := st.objs) (own' := own) rfl rfl rfl hr.len (Nat.le_refl _) (Nat.le_refl _) (fun _ => False) (fun _ _ _ => ⟨rfl, rfl⟩) (fun b hb _ => rfl)
      (fun i o b ho hc => by rcases hc with hc | hc; (· exact hc.elim); have := (List.getElem?_eq_some_iff.1 ho).1; omega)
      (fun i j oi oj b hi hj hoi => by rcases hi with hi | hi; (· exact hi.elim); have := (List.getElem?_eq_some_iff.1 hoi).1; omega)
      (fun _ i ob o hc _ ho => by rcases hc with hc | hc; (· exact hc.elim); have := (List.getElem?_eq_some_iff.1 ho).1; omega)
    exact ⟨hd, own, q1, f0.trans q2, l0, ht.mono hX q2.ok (OwnLe.refl _)⟩
  refine main ops.size _ st a _ (by simp) (by rw [Array.toList_replicate, List.countP_replicate]; simp) ?_ hsr0 ?_ ⟨0, Nat.zero_le _, fun m o ho hw => ?_, by rw [t1]⟩
  · intro j o ho hl
    simp [Array.getElem_replicate] at hl
    exfalso
    rcases Nat.lt_or_ge j ops.size with h1 | h1
    · simp [h1] at hl
    · simp [Array.getElem?_eq_none, h1] at hl
  · refine ⟨rfl, fun i o d ho hl => ?_, fun t _ => rfl⟩
    exfalso
    rcases Nat.lt_or_ge i ops.size with h1 | h1
    · simp [h1] at hl
    · simp [h1] at hl
  · constructor
    · intro hl
      exfalso
      rcases Nat.lt_or_ge m ops.size with h1 | h1
      · simp [h1] at hl
      · simp [h1] at hl
    · intro h1; omega
end
end Go.Proofs.YtgelkklendpeoaaGreat.AE

namespace Go.Proofs.YtgelkklendpeoaaGreat.AE
set_option linter.unusedVariables false
set_option linter.unusedSimpArgs false
open Go
set_option linter.unusedVariables false
set_option linter.unusedSimpArgs false

section
variable {X : ExtRep} {S : Nat → Prop} {P : Program} {E : Env}
theorem setAll_get : ∀ (ts : List Nat) (vs : List AV) (tm : List AV) (t : Nat) (av : AV), (setAll tm ts vs)[t]? = some av → (setAll tm ts vs).length = tm.length ∧ (tm[t]? = some av ∨ ∃ j : Nat, ts[j]? = some t ∧ vs[j]? = some av)
  | [], vs, tm, t, av, h => ⟨by cases vs <;> rfl, .inl (by cases vs <;> simpa [setAll] using h)⟩
  | t0 :: ts, [], tm, t, av, h => ⟨rfl, .inl (by simpa [setAll] using h)⟩
  | t0 :: ts, v :: vs, tm, t, av, h => by
    simp only [setAll] at h ⊢
    obtain ⟨h1, h2⟩ := setAll_get ts vs (tm.set t0 v) t av h
    refine ⟨by simpa using h1, ?_⟩
    rcases h2 with h2 | ⟨j, h3, h4⟩
    · by_cases e : t0 = t
      · subst e
        have hl := (List.getElem?_eq_some_iff.1 h2).1
        simp at hl
        rw [List.getElem?_set_self hl] at h2
        exact .inr ⟨0, rfl, by simpa using h2⟩
      · rw [List.getElem?_set_ne e] at h2
        exact .inl h2
    · exact .inr ⟨j + 1, by simpa using h3, by simpa using h4⟩
theorem setAll_len : ∀ (ts : List Nat) (vs : List AV) (tm : List AV), (setAll tm ts vs).length = tm.length
  | [], vs, tm => by cases vs <;> rfl
  | t0 :: ts, [], tm => rfl
  | t0 :: ts, v :: vs, tm => by simp only [setAll]; rw [setAll_len ts vs]; simp
theorem VRs.get {w : World} {ok : Nat → Prop} {own : List Own} {avs : List AV} {vs : List Value} (h : VRs X w ok own avs vs) : ∀ (j : Nat) (av : AV), avs[j]? = some av → ∃ v, vs[j]? = some v ∧ VR X w ok own av v := by
  induction h with
  | nil => intro j av h; simp at h
  | cons h _ ih =>
    intro j av hj
    cases j with
    | zero => simp at hj; subst hj; exact ⟨_, rfl, h⟩
    | succ j => simpa using ih j av (by simpa using hj)
/-- A loop's head: the state is read, and stands by itself. -/
theorem loop_read (hX : X.OK) {w0 w : World} {own0 : List Own} (hS : ∀ b, w0.heap.size ≤ b → S b) {st : St} {a : Act} (hs : SR X S w0 own0 st a w) {L : LH} {x : L.sh.den} (h : L.read own0.length st = some x) : SR X S w0 own0 (L.put st.tmps.length x) a w := by
  obtain ⟨hd, own, hr, f0, l0, ht⟩ := hs
  have hS' : ∀ b, w.heap.size ≤ b → S b := fun b hb => hS b (by have := f0.sz; omega)
  unfold LH.read at h
  split at h
  · rename_i g hg
    cases h
    have hvals := ops_VRs ht (L.keep.map .tmp)
    rw [List.map_map, List.map_map] at hvals
    have hro := read_ok hX hS' hr hvals hg
    obtain ⟨own', ⟨h1, h2⟩, h3, h4⟩ := hro.frozen hX
    refine ⟨hd, own', by simpa [LH.put] using h1, f0.trans h3, ?_, ?_⟩
    · intro j o ho
      obtain ⟨o1, a1, a2, a3, a4⟩ := l0 j o ho
      obtain ⟨o2, b1, b2, b3, b4⟩ := h4 j o1 (List.getElem?_eq_some_iff.1 ho).1 a1
      exact ⟨o2, b1, b2.trans a2, b3.trans a3, fun l => a4 (b4 l)⟩
    · refine ⟨by simp [LH.put, setAll_len, ht.1], fun t av v hav hv => ?_⟩
      obtain ⟨_, hc⟩ := setAll_get _ _ _ t av (by simpa [LH.put] using hav)
      rcases hc with hc | ⟨j, hj, hj2⟩
      · rw [List.getElem?_replicate] at hc
        split at hc
        · cases hc; trivial
        · cases hc
      · obtain ⟨u, hu, hvr⟩ := h2.get j av hj2
        rw [List.getElem?_map, hj] at hu
        simp [Act.eval] at hu
        rw [hv] at hu
        simp at hu
        subst hu
        exact hvr
  · cases h
theorem put_len {L : LH} {N : Nat} {x : L.sh.den} : (L.put N x).tmps.length = N := by simp [LH.put, setAll_len]
def exOf : Ex → Exit
  | .normal => .normal | .exit i => .exit i
theorem ev_sound (hX : X.OK) (hE : tysOK P E.tys = true) (hm : P.follows .mixedOrders = true) {O : Type} {C : Ctx E O} (hc : CallOK P X E C.call) {w0 : World} {own0 : List Own} (hS : ∀ b, w0.heap.size ≤ b → S b) (hI : X.inv w0 (okS S w0 own0)) (hlen : own0.length = C.m) :
    ∀ (c : Code) (R : Type) (ret : O → R) (p : List Nat) (st : St) (k : Ex → St → Option R) (r : R) (a : Act) (w : World) (Q : Exit → Act → World → Prop), ev C c R ret p st k = some r → SR X S w0 own0 st a w → st.tmps.length = C.N →
      (∀ e st' a' w', k e st' = some r → SR X S w0 own0 st' a' w' → st'.tmps.length = C.N → Q (exOf e) a' w') →
      (∀ o st' a' w', C.fin st' = some o → r = ret o → SR X S w0 own0 st' a' w' → Q .ret a' w') → c.wp P Q a w := by
  intro c
  induction c with
  | skip => intro R ret p st k r a w Q h hs hN hk hret; exact wp_skip (hk .normal st a w h hs hN)
  | label l => intro R ret p st k r a w Q h hs hN hk hret; exact wp_label (hk .normal st a w h hs hN)
  | exit id => intro R ret p st k r a w Q h hs hN hk hret; exact wp_exit (hk (.exit id) st a w h hs hN)
  | ret =>
    intro R ret p st k r a w Q h hs hN hk hret
    simp only [ev] at h
    split at h
    · rename_i o ho
      cases h
      exact wp_ret (hret o st a w ho rfl hs)
    · cases h
  | region id ops draw =>
    intro R ret p st k r a w Q h hs hN hk hret
    cases draw with
    | false =>
      simp only [ev, opsEl_eq] at h
      have := ops_wp hX hE hc hS hI ops.toList ops.toList (Q := Q) hs h (fun st' a' w' h' hs' hl => hk .normal st' a' w' h' hs' (hl.trans hN))
      exact wp_region_list (by simpa using this)
    | true =>
      simp only [ev, opsXl_eq] at h
      split at h
      · rename_i hok
        exact drawn_wp hX hE hm hc hS hI hok (preF_SR hX hs) h (fun st' a' w' h' hs' hl => hk .normal st' a' w' h' hs' (hl.trans hN))
      · cases h
  | seq x y ihx ihy =>
    intro R ret p st k r a w Q h hs hN hk hret
    simp only [ev] at h
    refine wp_seq (ihx R ret _ st _ r a w _ h hs hN (fun e st' a' w' h' hs' hN' => ?_) (fun o st' a' w' h1 h2 h3 => hret o st' a' w' h1 h2 h3))
    cases e with
    | normal => exact ihy R ret _ st' k r a' w' Q h' hs' hN' hk hret
    | exit i => exact hk (.exit i) st' a' w' h' hs' hN'
  | cond c x y ihx ihy =>
    intro R ret p st k r a w Q h hs hN hk hret
    simp only [ev] at h
    split at h
    · rename_i b hb
      have hs' := hs
      obtain ⟨_, own, _, _, _, ht⟩ := hs'
      have hv := opd_VR ht c
      rw [hb] at hv
      simp only [VR] at hv
      refine wp_cond hv ?_
      cases b with
      | true => exact ihx R ret _ st k r a w Q h hs hN hk hret
      | false => exact ihy R ret _ st k r a w Q h hs hN hk hret
    · cases h
  | block id b ih =>
    intro R ret p st k r a w Q h hs hN hk hret
    simp only [ev] at h
    refine wp_block (ih R ret _ st _ r a w _ h hs hN (fun e st' a' w' h' hs' hN' => ?_) (fun o st' a' w' h1 h2 h3 => by exact hret o st' a' w' h1 h2 h3))
    cases e with
    | normal => exact hk .normal st' a' w' h' hs' hN'
    | exit i =>
      show if i = id then Q .normal a' w' else Q (.exit i) a' w'
      simp only at h'
      cases he : Nat.beq i id with
      | true =>
        rw [he] at h'
        rw [if_pos (by simpa using he)]
        exact hk .normal st' a' w' h' hs' hN'
      | false =>
        rw [he] at h'
        rw [if_neg (fun e => by rw [e] at he; have h2 : Nat.beq id id = true := (by simp); rw [h2] at he; cases he)]
        exact hk (.exit i) st' a' w' h' hs' hN'
  | loop b ih =>
    intro R ret p st k r a w Q h hs hN hk hret
    simp only [ev] at h
    split at h
    · cases h
    · rename_i L hL
      split at h
      · cases h
      · rename_i x hx
        rw [← hlen] at hx
        have hs1 := loop_read hX hS hs hx
        rw [hN] at hs1
        cases hloop : loopE (fun y k' => ev C b (L.sh.den ⊕ O) .inr (0 :: p) (L.put C.N y) k') (L.read C.m) L.ex C.n x with
        | none => rw [hloop] at h; cases h
        | some s =>
          rw [hloop] at h
          simp only [Option.bind_some] at h
          have key : ∀ (m : Nat) (x : L.sh.den) (a : Act) (w : World), loopE (fun y k' => ev C b (L.sh.den ⊕ O) .inr (0 :: p) (L.put C.N y) k') (L.read C.m) L.ex m x = some s → SR X S w0 own0 (L.put C.N x) a w → Code.rounds P b Q m a w := by
            intro m
            induction m with
            | zero => intro x a w hl _; simp [loopE] at hl
            | succ m ihm =>
              intro x a w hl hsr
              rw [rounds_succ]
              simp only [loopE] at hl
              refine ih _ _ _ _ _ s a w _ hl hsr put_len (fun e st' a' w' h' hs' hN' => ?_) (fun o st' a' w' h1 h2 h3 => ?_)
              · cases e with
                | normal =>
                  simp only at h'
                  split at h'
                  · rename_i y hy
                    rw [← hlen] at hy
                    have := loop_read hX hS hs' hy
                    rw [hN'] at this
                    exact ihm y a' w' h' this
                  · cases h'
                | exit i =>
                  simp only at h'
                  split at h'
                  · rename_i he
                    have : i = L.ex := by simpa using he
                    split at h'
                    · rename_i y hy
                      cases h'
                      rw [← hlen] at hy
                      have hs2 := loop_read hX hS hs' hy
                      rw [hN'] at hs2
                      simp only [exOf, Exit.then]
                      rw [this]
                      exact hk (.exit L.ex) _ a' w' h hs2 put_len
                    · cases h'
                  · cases h'
              · subst h2
                simp only [onSum, Option.some.injEq] at h
                simp only [Exit.then]
                exact hret o st' a' w' h1 h.symm h3
          exact wp_loop_rounds C.n (key C.n x a w hloop hs1)
  | rangeFunc f ps x y _ _ => intro R ret p st k r a w Q h; simp [ev] at h
  | scope b _ => intro R ret p st k r a w Q h; simp [ev] at h
  | goto l => intro R ret p st k r a w Q h; simp [ev] at h
  | refuse s => intro R ret p st k r a w Q h; simp [ev] at h
end
end Go.Proofs.YtgelkklendpeoaaGreat.AE

namespace Go.Proofs.YtgelkklendpeoaaGreat.AE
set_option linter.unusedVariables false
set_option linter.unusedSimpArgs false
open Go
set_option linter.unusedVariables false
set_option linter.unusedSimpArgs false

section
variable {X : ExtRep} {S : Nat → Prop} {P : Program} {E : Env}
theorem Does.of_calls {f : FuncId} {fn : Func} {c : Code} {args : Array Value} {w : World} {R : Value → World → Prop} (hf : P.funcs[f]? = some fn) (hname : (fn.name == "runtime.NumGoroutine") = false) (hb : fn.body = some c)
    (h : Calls P f args w fun e w' => ∃ v, e = .returned v ∧ R v w') : Does P f args w R := by
  intro o a next Q hn
  have hrun : (callFunc f args).run P w = .ok (.enter f args) w := by
    have hn' : ¬ fn.name = "runtime.NumGoroutine" := by simpa using hname
    simp [callFunc, hf, hn', hb]
  rw [hrun]
  refine h.mono fun e w' ⟨v, he, hr⟩ => ?_
  subst he
  exact hn v w' hr
theorem resOf_sound (hX : X.OK) (hE : tysOK P E.tys = true) {w : World} {own : List Own} {st : St} {a : Act} (hr : HR X S w st.objs own) (ht : TR X w (okS S w own) own st.tmps a.tmps) :
    ∀ (rs : List ResultVar) (avs : List AV), resAll E st rs = some avs → ∀ F : ResultVar → Sem Value, (∀ t, F (.tmp t) = pure (a.tmps.getD t undef)) → (∀ x t, F (.cell x t) = do loadVar t (← asAddr (a.tmps.getD x undef))) →
      ∃ vs, (rs.mapM F).run P w = .ok vs w ∧ VRs X w (okS S w own) own avs vs
  | [], avs, h, F, _, _ => by cases h; exact ⟨[], rfl, .nil⟩
  | r :: rs, avs, h, F, hF1, hF2 => by
    simp only [resAll] at h
    split at h
    · rename_i v hv
      split at h
      · rename_i vs' hvs'
        cases h
        obtain ⟨vs, h1, h2⟩ := resOf_sound hX hE hr ht rs vs' hvs' F hF1 hF2
        have key : ∃ u, (F r).run P w = .ok u w ∧ VR X w (okS S w own) own v u := by
          cases r with
          | tmp t =>
            simp only [resOf, Option.some.injEq] at hv
            subst hv
            exact ⟨_, by rw [hF1]; rfl, opd_VR ht (.tmp t)⟩
          | cell x t =>
            simp only [resOf] at hv
            split at hv
            · rename_i ti hti
              split at hv
              · rename_i y hy
                cases hv
                obtain ⟨b, off, cs, e, hc, hrr⟩ := loadA_rep hr hy (opd_VR ht (.tmp x))
                refine ⟨joined ti.T cs, ?_, inject_VR hrr⟩
                have e' : a.tmps.getD x undef = .pointer (some ⟨b, off, none⟩) := e
                rw [hF2, e']
                simp only [asAddr, Sem.run_bind, Sem.run_pure, Result.andThen_ok]
                exact (TIok.of_tys hE hti).load hc hrr
              · cases hv
            · cases hv
        obtain ⟨u, k1, k2⟩ := key
        refine ⟨u :: vs, ?_, .cons k2 h2⟩
        rw [List.mapM_cons, Sem.run_bind]
        rw [k1]
        simp only [Result.andThen_ok, Sem.run_bind, h1, Sem.run_pure]
      · cases h
    · cases h
theorem results_fn (fn : Func) (tmps : Array Value) : ∃ F : ResultVar → Sem Value, (∀ t, F (.tmp t) = pure (tmps.getD t undef)) ∧ (∀ x t, F (.cell x t) = do loadVar t (← asAddr (tmps.getD x undef))) ∧
    results fn tmps = (do let vs ← fn.results.mapM F; pure (if h : vs.size = 1 then vs[0] else .tuple vs)) := by
  refine ⟨_, ?_, ?_, by unfold results; rfl⟩
  · intro t; rfl
  · intro x t; rfl
theorem results_sound (hX : X.OK) (hE : tysOK P E.tys = true) {w : World} {own : List Own} {st : St} {a : Act} (hr : HR X S w st.objs own) (ht : TR X w (okS S w own) own st.tmps a.tmps) {fn : Func} {avs : List AV} (h : resAll E st fn.results.toList = some avs) :
    ∃ vs, (results fn a.tmps).run P w = .ok (tupV vs) w ∧ VRs X w (okS S w own) own avs vs := by
  obtain ⟨F, hF1, hF2, hF⟩ := results_fn fn a.tmps
  obtain ⟨vs, h1, h2⟩ := resOf_sound hX hE hr ht _ _ h F hF1 hF2
  refine ⟨vs, ?_, h2⟩
  rw [hF, Array.mapM_eq_mapM_toList, Sem.run_bind, Sem.run_map, h1]
  simp only [Result.andThen_ok, Sem.run_pure]
  cases vs with
  | nil => rfl
  | cons u vs =>
    cases vs with
    | nil => rfl
    | cons v vs => rfl
theorem VRs.length {w : World} {ok : Nat → Prop} {own : List Own} {avs : List AV} {vs : List Value} (h : VRs X w ok own avs vs) : avs.length = vs.length := by
  induction h with
  | nil => rfl
  | cons _ _ ih => simp [ih]
theorem fin_sound (hX : X.OK) (hE : tysOK P E.tys = true) {w0 w : World} {own0 : List Own} (hS : ∀ b, w0.heap.size ≤ b → S b) {st : St} {a : Act} (hs : SR X S w0 own0 st a w) {s : Sig} {fn : Func} {y : s.outs.den} (h : finE E s fn own0.length st = some y) :
    a.defers = [] ∧ ∃ vs own', (results fn a.tmps).run P w = .ok (tupV vs) w ∧ Holds X S w own' s.outs y vs ∧ Frm S w0 own0 w own' ∧
      (∀ (j : Nat) (o : Own), own0[j]? = some o → ∃ o' : Own, own'[j]? = some o' ∧ o'.v = o.v ∧ o'.sz = o.sz ∧ (o'.live = true → o.live = true)) := by
  obtain ⟨hd, own, hr, f0, l0, ht⟩ := hs
  have hS' : ∀ b, w.heap.size ≤ b → S b := fun b hb => hS b (by have := f0.sz; omega)
  unfold finE at h
  split at h
  · rename_i avs havs
    obtain ⟨vs, h1, h2⟩ := results_sound hX hE hr ht havs
    split at h
    · rename_i g hg
      cases h
      obtain ⟨own', k1, k2, k3⟩ := (read_ok hX hS' hr h2 hg).frozen hX
      refine ⟨hd, vs, own', h1, k1, f0.trans k2, fun j o ho => ?_⟩
      obtain ⟨o1, a1, a2, a3, a4⟩ := l0 j o ho
      obtain ⟨o2, b1, b2, b3, b4⟩ := k3 j o1 (List.getElem?_eq_some_iff.1 ho).1 a1
      exact ⟨o2, b1, b2.trans a2, b3.trans a3, fun l => a4 (b4 l)⟩
    · cases h
  · cases h
/-- What must hold of a function's entry. -/
def EntryOK (P : Program) (X : ExtRep) (f : Nat) (s : Sig) : How s → Prop
  | .none => True
  | .code fn c _ => P.funcs[f]? = some fn ∧ fn.body = some c ∧ (fn.name == "runtime.NumGoroutine") = false ∧ s.ins.slots.length ≤ fn.ntmps
  | .orc g => ∀ n x y, g n x = some y → Spec P X s f x y
theorem putSlots_len (f : Nat → Nat) : ∀ (ss : List SP) {rest : List Ty} (x : Prods (slotTys ss rest)), (putSlots f ss x).1.length = ss.length
  | [], rest, x => rfl
  | .dat T :: ss, rest, x => congrArg (· + 1) (putSlots_len f ss (ptail x))
  | .ref j :: ss, rest, x => congrArg (· + 1) (putSlots_len f ss (rest := rest) x)
  | .ptr j off :: ss, rest, x => congrArg (· + 1) (putSlots_len f ss (rest := rest) x)
  | .skip :: ss, rest, x => congrArg (· + 1) (putSlots_len f ss (rest := rest) x)
  | .fnc _ _ :: ss, rest, x => congrArg (· + 1) (putSlots_len f ss (rest := rest) x)
theorem putObjs_len : ∀ (ts : List OT) (p : Prods (objTys ts)), (putObjs ts p).length = ts.length
  | [], p => rfl
  | .dead :: ts, p => congrArg (· + 1) (putObjs_len ts p)
  | .row T :: ts, p => congrArg (· + 1) (putObjs_len ts (ptail (t := .slice T) p))
  | .var T :: ts, p => congrArg (· + 1) (putObjs_len ts (ptail (t := T) p))
  | .vrow T :: ts, p => congrArg (· + 1) (putObjs_len ts (ptail (t := .slice T) p))
  | .vst T :: ts, p => congrArg (· + 1) (putObjs_len ts (ptail (t := T) p))
/-- THE CALL of a function whose code is at hand. -/
theorem code_calls (hX : X.OK) (hE : tysOK P E.tys = true) (hm : P.follows .mixedOrders = true) {call : CallFn E} (hc : CallOK P X E call) {n f : Nat} {s : Sig} {fn : Func} {c : Code} {hs : List (List Nat × LH)} (hok : EntryOK P X f s (.code fn c hs)) {x : s.ins.den} {y : s.outs.den} (hrun : runHow E call n s x (.code fn c hs) = some y)
    {S : Nat → Prop} {w : World} {own : List Own} {vals : List Value} (hS : ∀ b, w.heap.size ≤ b → S b) (hI : X.inv w (okS S w own)) (hh : Holds X S w own s.ins x vals) :
    Calls P f vals.toArray w fun e w' => ∃ v, e = .returned v ∧ (∃ own' vs', Holds X S w' own' s.outs y vs' ∧ Frm S w own w' own' ∧
      (∀ (j : Nat) (o : Own), own[j]? = some o → ∃ o' : Own, own'[j]? = some o' ∧ o'.v = o.v ∧ o'.sz = o.sz ∧ (o'.live = true → o.live = true)) ∧ v = tupV vs') := by
  obtain ⟨h1, h2, h3, h4⟩ := hok
  obtain ⟨hh1, hh2⟩ := hh
  refine calls_of_wp h1 h2 ?_
  simp only [runHow] at hrun
  have hvl := hh2.length
  have hpl := putSlots_len id s.ins.slots x
  have hol : own.length = s.ins.objs.length := by rw [hh1.len, putObjs_len]
  refine ev_sound (C := ctxOf E call n s fn hs) (w0 := w) (own0 := own) hX hE hm hc hS hI hol c _ id [] _ _ y _ w _ hrun ⟨rfl, own, hh1, Frm.refl .., OwnLe.refl _, ?_⟩ ?_ (fun e st' a' w' h' hs' hN' => ?_) (fun o st' a' w' h' ho hs' => ?_)
  · refine ⟨by simp [hvl], fun i av v hav hv => ?_⟩
    rw [List.getElem?_append] at hav
    split at hav
    · rename_i hi
      obtain ⟨u, hu, hvr⟩ := hh2.get i av hav
      rw [Array.getElem?_append_left (by simp; omega)] at hv
      simp at hv
      rw [hu] at hv
      cases hv
      exact hvr
    · rw [List.getElem?_replicate] at hav
      split at hav
      · cases hav; trivial
      · cases hav
  · show ((putSlots id s.ins.slots x).1 ++ List.replicate _ _).length = fn.ntmps
    rw [List.length_append, List.length_replicate, hpl]
    omega
  · cases e with
    | normal =>
      simp only at h'
      rw [← hol] at h'
      obtain ⟨k0, vs, own', k1, k2, k3, k4⟩ := fin_sound (P := P) hX hE hS hs' h'
      exact ⟨k0, _, k1, _, rfl, own', vs, k2, k3, k4, rfl⟩
    | exit i => cases h'
  · have ho' : y = o := ho
    subst ho'
    have h'' : finE E s fn s.ins.objs.length st' = some y := h'
    rw [← hol] at h''
    obtain ⟨k0, vs, own', k1, k2, k3, k4⟩ := fin_sound (P := P) hX hE hS hs' h''
    exact ⟨k0, _, k1, _, rfl, own', vs, k2, k3, k4, rfl⟩
theorem runHow_sound (hX : X.OK) (hE : tysOK P E.tys = true) (hm : P.follows .mixedOrders = true) {call : CallFn E} (hc : CallOK P X E call) {n f : Nat} {s : Sig} {h : How s} (hok : EntryOK P X f s h) {x : s.ins.den} {y : s.outs.den} (hrun : runHow E call n s x h = some y) : Spec P X s f x y := by
  cases h with
  | none => simp [runHow] at hrun
  | orc g => exact hok n x y hrun
  | code fn c hs =>
    obtain ⟨h1, h2, h3, h4⟩ := hok
    intro S w own vals hS hI hh
    exact Does.of_calls h1 h3 h2 (code_calls hX hE hm hc ⟨h1, h2, h3, h4⟩ hrun hS hI hh)
/-- THE THEOREM: what the evaluator says of a function, its call comes to. -/
theorem evalF_sound (hX : X.OK) (hE : tysOK P E.tys = true) (hm : P.follows .mixedOrders = true) (hok : ∀ f, EntryOK P X f (E.fn f).sig (E.fn f).how) : ∀ n, CallOK P X E (evalF E n)
  | 0 => fun f x y h => by simp [evalF] at h
  | n + 1 => fun f x y h => runHow_sound hX hE hm (evalF_sound hX hE hm hok n) (hok f) h
end
end Go.Proofs.YtgelkklendpeoaaGreat.AE

namespace Go.Proofs.YtgelkklendpeoaaGreat.AE
set_option linter.unusedVariables false
set_option linter.unusedSimpArgs false
open Go
set_option linter.unusedVariables false
set_option linter.unusedSimpArgs false
/-! What comes in reads as data of the evaluator's. -/
def AllL {α : Type} (p : α → Prop) (l : List α) : Prop := ∀ x ∈ l, p x
/-- Numbers and lengths are such as a machine has. -/
def WF : (T : Ty) → T.den → Prop
  | .int k, n => (Lit.int k n).wf = true
  | .str, s => s.size ≤ maxLen
  | .slice e, l => l.length ≤ maxLen ∧ AllL (WF e) l
  | .one a, x => WF a x
  | .pair a b, x => WF a x.1 ∧ WF b x.2
  | .bool, _ | .unit, _ | .ext _, _ => True
/-- A type of the program, all the way down; a struct's fields from a place on. -/
def deep (P : Program) : Ty → (TypeId → Bool) × (Nat → List Field → Bool)
  | .int k => (fun t => match P.underlying t with | some (.int k') => decide (k' = k) | _ => false, fun _ _ => false)
  | .bool => (fun t => match P.underlying t with | some .bool => true | _ => false, fun _ _ => false)
  | .str => (fun t => match P.underlying t with | some .string => true | _ => false, fun _ _ => false)
  | .unit => (fun t => match P.underlying t with | some (.struct fs) => Nat.beq (P.cellsOf t) 0 | _ => false, fun _ fs => match fs with | [] => true | _ => false)
  | .slice e => (fun t => match P.underlying t with | some (.slice te) => Nat.beq (P.cellsOf te) e.size && (Nat.blt 0 e.size && (deep P e).1 te) | _ => false, fun _ _ => false)
  | .one a =>
    (fun t => match P.underlying t with | some (.struct fs) => Nat.beq (P.cellsOf t) a.size && (match fs.toList with | [f] => Nat.beq f.offset 0 && (Nat.beq (P.cellsOf f.type) a.size && (deep P a).1 f.type) | _ => false) | _ => false,
     fun off fs => match fs with | [f] => Nat.beq f.offset off && (Nat.beq (P.cellsOf f.type) a.size && (deep P a).1 f.type) | _ => false)
  | .pair a b =>
    (fun t => match P.underlying t with | some (.struct fs) => Nat.beq (P.cellsOf t) (a.size + b.size) && (match fs.toList with | f :: r => Nat.beq f.offset 0 && (Nat.beq (P.cellsOf f.type) a.size && ((deep P a).1 f.type && (deep P b).2 (0 + a.size) r)) | _ => false) | _ => false,
     fun off fs => match fs with | f :: r => Nat.beq f.offset off && (Nat.beq (P.cellsOf f.type) a.size && ((deep P a).1 f.type && (deep P b).2 (off + a.size) r)) | _ => false)
  | .ext _ => (fun _ => false, fun _ _ => false)
theorem RepL_range {α : Type} {R : α → List Value → Prop} (f : Nat → α) (g : Nat → List Value) : ∀ (L : List Nat), (∀ i ∈ L, R (f i) (g i)) → RepL R (L.map f) (L.flatMap g)
  | [], _ => rfl
  | i :: L, h => ⟨g i, L.flatMap g, by simp, h i (by simp), RepL_range f g L fun j hj => h j (by simp [hj])⟩
theorem CellsAt_append {w : World} {b off : Nat} {v1 v2 : List Value} (h1 : CellsAt w b off v1) (h2 : CellsAt w b (off + v1.length) v2) : CellsAt w b off (v1 ++ v2) := by
  intro j v hj
  rw [List.getElem?_append] at hj
  split at hj
  · exact h1 j v hj
  · have := h2 _ v hj
    rw [show off + v1.length + (j - v1.length) = off + j by omega] at this
    exact this
theorem CellsAt_range {w : World} {b off s : Nat} {g : Nat → List Value} : ∀ (n k : Nat), (∀ i, k ≤ i → i < k + n → (g i).length = s ∧ CellsAt w b (off + i * s) (g i)) → CellsAt w b (off + k * s) ((List.range' k n).flatMap g)
  | 0, k, _ => by intro j v hj; simp at hj
  | n + 1, k, h => by
    rw [List.range'_succ, List.flatMap_cons]
    obtain ⟨h1, h2⟩ := h k (Nat.le_refl _) (by omega)
    refine CellsAt_append h2 ?_
    rw [h1]
    have := CellsAt_range (w := w) (b := b) (off := off) (s := s) (g := g) n (k + 1) fun i hi hj => h i (by omega) (by omega)
    rw [show off + k * s + s = off + (k + 1) * s by rw [Nat.add_mul]; omega]
    exact this
theorem cell_lt {w : World} {a : Addr} {v : Value} (h : w.cell? a = some v) : a.block < w.heap.size := by
  unfold World.cell? at h
  split at h
  · rename_i hb; exact (Array.getElem?_eq_some_iff.1 hb).1
  · cases h
section
variable {H : Type} {enc : TypeId × Value → H} {P : Program} {w : World} {base : Nat} {spare : Nat → Bool} {held : Bool} {X : ExtRep} {ok : Nat → Prop}
/-- AN ARGUMENT's CELLS are data's. -/
theorem trod_rep (hok : ∀ b, b < w.heap.size → ok b) : ∀ (T : Ty),
    (∀ (fuel : Nat) (t : TypeId) (cs : List Value) (x : DataW H × List MemPlace), (deep P T).1 t = true → DataW.trod enc P w base spare held fuel t cs = some x → ∃ d : T.den, Rep X w ok T d cs ∧ WF T d) ∧
    (∀ (off fuel : Nat) (fs : List Field) (cs : List Value), (deep P T).2 off fs = true → cs.length = off + T.size →
      (∀ f ∈ fs, ∃ y, DataW.trod enc P w base spare held fuel f.type ((cs.drop f.offset).take (P.cellsOf f.type)) = some y) → ∃ d : T.den, Rep X w ok T d (cs.drop off) ∧ WF T d)
  | .int k => by
    refine ⟨fun fuel t cs x hd h => ?_, fun _ _ _ _ h => by simp [deep] at h⟩
    simp only [deep] at hd
    split at hd
    · rename_i k' hu
      simp only [decide_eq_true_eq] at hd
      subst hd
      obtain ⟨n, rfl, rfl, hw⟩ := DataW.trod_int hu h
      exact ⟨n, rfl, hw⟩
    · cases hd
  | .bool => by
    refine ⟨fun fuel t cs x hd h => ?_, fun _ _ _ _ h => by simp [deep] at h⟩
    simp only [deep] at hd
    split at hd
    · rename_i hu
      obtain ⟨n, rfl, rfl⟩ := DataW.trod_bool hu h
      exact ⟨n, rfl, trivial⟩
    · cases hd
  | .str => by
    refine ⟨fun fuel t cs x hd h => ?_, fun _ _ _ _ h => by simp [deep] at h⟩
    simp only [deep] at hd
    split at hd
    · rename_i hu
      obtain ⟨n, rfl, rfl, hw⟩ := DataW.trod_string hu h
      exact ⟨n, rfl, hw⟩
    · cases hd
  | .unit => by
    refine ⟨fun fuel t cs x hd h => ?_, fun off fuel fs cs h hl hf => ?_⟩
    · simp only [deep] at hd
      split at hd
      · rename_i fs hu
        obtain ⟨xs, m, rfl, rfl, hl, _⟩ := DataW.trod_struct hu h
        rw [Nat.beq_eq] at hd
        rw [hd] at hl
        exact ⟨(), List.eq_nil_of_length_eq_zero hl, trivial⟩
      · cases hd
    · refine ⟨(), ?_, trivial⟩
      exact List.drop_eq_nil_of_le (by rw [hl]; exact Nat.le_refl _)
  | .ext i => ⟨fun _ _ _ _ hd _ => by simp [deep] at hd, fun _ _ _ _ h => by simp [deep] at h⟩
  | .one a => by
    have iha := trod_rep (hok := hok) a
    have second : ∀ (off fuel : Nat) (fs : List Field) (cs : List Value), (deep P (.one a)).2 off fs = true → cs.length = off + a.size →
      (∀ f ∈ fs, ∃ y, DataW.trod enc P w base spare held fuel f.type ((cs.drop f.offset).take (P.cellsOf f.type)) = some y) → ∃ d : a.den, Rep X w ok a d (cs.drop off) ∧ WF a d := by
      intro off fuel fs cs h hl hf
      simp only [deep] at h
      split at h
      · rename_i f
        simp only [Bool.and_eq_true, Nat.beq_eq] at h
        obtain ⟨y, hy⟩ := hf f (by simp)
        rw [h.1, h.2.1, List.take_of_length_le (by rw [List.length_drop]; omega)] at hy
        exact iha.1 _ _ _ _ h.2.2 hy
      · cases h
    refine ⟨fun fuel t cs x hd h => ?_, second⟩
    simp only [deep] at hd
    split at hd
    · rename_i fs hu
      obtain ⟨xs, m, rfl, rfl, hl, hn, hf⟩ := DataW.trod_struct hu h
      simp only [Bool.and_eq_true, Nat.beq_eq] at hd
      have := second 0 m fs.toList cs (by simp only [deep]; exact hd.2) (by rw [hl, hd.1, Nat.zero_add]) (fun f hf' => by
        obtain ⟨i, hi⟩ := List.mem_iff_getElem?.1 hf'
        have hi' : fs[i]? = some f := by simpa using hi
        have := hf i f hi'
        have hlt : i < xs.length := by rw [hn]; exact (Array.getElem?_eq_some_iff.1 hi').1
        rw [List.getElem?_eq_getElem hlt] at this
        exact ⟨_, this⟩)
      rw [List.drop_zero] at this
      exact this
    · cases hd
  | .pair a b => by
    have iha := trod_rep (hok := hok) a
    have ihb := trod_rep (hok := hok) b
    have second : ∀ (off fuel : Nat) (fs : List Field) (cs : List Value), (deep P (.pair a b)).2 off fs = true → cs.length = off + (a.size + b.size) →
      (∀ f ∈ fs, ∃ y, DataW.trod enc P w base spare held fuel f.type ((cs.drop f.offset).take (P.cellsOf f.type)) = some y) → ∃ d : (Ty.pair a b).den, Rep X w ok (.pair a b) d (cs.drop off) ∧ WF (.pair a b) d := by
      intro off fuel fs cs h hl hf
      simp only [deep] at h
      split at h
      · rename_i f r
        simp only [Bool.and_eq_true, Nat.beq_eq] at h
        obtain ⟨y, hy⟩ := hf f (by simp)
        rw [h.1, h.2.1] at hy
        obtain ⟨d1, r1, w1⟩ := iha.1 _ _ _ _ h.2.2.1 hy
        obtain ⟨d2, r2, w2⟩ := ihb.2 (off + a.size) fuel r cs h.2.2.2 (by omega) (fun f hf' => hf f (by simp [hf']))
        refine ⟨(d1, d2), ⟨_, _, ?_, r1, r2⟩, w1, w2⟩
        rw [← List.drop_drop, List.take_append_drop]
      · cases h
    refine ⟨fun fuel t cs x hd h => ?_, second⟩
    simp only [deep] at hd
    split at hd
    · rename_i fs hu
      obtain ⟨xs, m, rfl, rfl, hl, hn, hf⟩ := DataW.trod_struct hu h
      simp only [Bool.and_eq_true, Nat.beq_eq] at hd
      have := second 0 m fs.toList cs (by simp only [deep]; exact hd.2) (by rw [hl, hd.1, Nat.zero_add]) (fun f hf' => by
        obtain ⟨i, hi⟩ := List.mem_iff_getElem?.1 hf'
        have hi' : fs[i]? = some f := by simpa using hi
        have := hf i f hi'
        have hlt : i < xs.length := by rw [hn]; exact (Array.getElem?_eq_some_iff.1 hi').1
        rw [List.getElem?_eq_getElem hlt] at this
        exact ⟨_, this⟩)
      rw [List.drop_zero] at this
      exact this
    · cases hd
  | .slice e => by
    have ihe := trod_rep (hok := hok) e
    refine ⟨fun fuel t cs x hd h => ?_, fun _ _ _ _ h => by simp [deep] at h⟩
    simp only [deep] at hd
    split at hd
    · rename_i te hu
      simp only [Bool.and_eq_true, Nat.beq_eq] at hd
      obtain ⟨hsz, hpos, hde⟩ := hd
      have hpos' : 0 < e.size := by simpa [Nat.blt_eq] using hpos
      rcases DataW.trod_slice hu h with ⟨rfl, _⟩ | ⟨a, len, cap, elems, rest, m, _, rfl, _, hb, hle, hcap, hlen, hel, _⟩
      · exact ⟨[], ⟨none, 0, rfl, Nat.le_refl _, Nat.zero_le _, .inl rfl⟩, Nat.zero_le _, fun x hx => by cases hx⟩
      · have each : ∀ i : Nat, ∃ (d : e.den) (cs : List Value), i < len → Rep X w ok e d cs ∧ WF e d ∧ w.cells? base (a.add (i * e.size)) e.size = some cs := by
          intro i
          by_cases hi : i < len
          · have := hel i hi
            rw [hsz, List.getElem?_eq_getElem (show i < elems.length by omega), Option.bind_eq_some_iff] at this
            obtain ⟨cs, h1, h2⟩ := this
            obtain ⟨d, h3, h4⟩ := ihe.1 _ _ _ _ hde h2
            exact ⟨d, cs, fun _ => ⟨h3, h4, h1⟩⟩
          · exact ⟨e.zero, [], fun h => absurd h hi⟩
        obtain ⟨f, hf⟩ := Classical.axiomOfChoice each
        obtain ⟨g, hg⟩ := Classical.axiomOfChoice hf
        have hll : ((List.range len).map f).length = len := by simp
        refine ⟨(List.range len).map f, ⟨some a, cap, by rw [hll], by omega, hcap, ?_⟩, by rw [hll]; omega, fun x hx => ?_⟩
        · rcases Nat.eq_zero_or_pos len with h0 | h0
          · left; rw [h0]; rfl
          · right
            obtain ⟨b, off, spot⟩ := a
            have h1 := (World.cells?_some (hg 0 h0).2.2).2.2 0 hpos'
            have h2 := (World.cells?_some (hg 0 h0).2.2).2.1
            rw [List.getElem?_eq_getElem (by omega)] at h1
            have hspot : spot = none := by simpa [Addr.add] using World.cell?_spot h1
            subst hspot
            have hlt := cell_lt h1
            simp only [Go.ChangeShapes.block_add] at hlt
            refine ⟨b, off, (List.range len).flatMap g, rfl, hok b hlt, ?_, RepL_range f g _ fun i hi => (hg i (by simpa using hi)).1⟩
            have := CellsAt_range (w := w) (b := b) (off := off) (s := e.size) (g := g) len 0 (fun i _ hi => by
              obtain ⟨_, k2, k3⟩ := World.cells?_some (hg i (by omega)).2.2
              refine ⟨k2, fun j v hj => ?_⟩
              have hj' := (List.getElem?_eq_some_iff.1 hj).1
              have := k3 j (by omega)
              rw [hj] at this
              rw [← this]
              congr 1
              unfold Addr.add
              split <;> split <;> simp_all <;> omega)
            rw [List.range_eq_range']
            simpa using this
        · obtain ⟨i, hi, rfl⟩ := List.mem_map.1 hx
          exact (hg i (by simpa using hi)).2.1
    · cases hd
/-- AN ARGUMENT. -/
theorem arg_VR {r : Reach} {b0 : Nat} (hok : ∀ b, b < w.heap.size → ok b) {own : List Own} (T : Ty) {t : TypeId} {v : Value} {d : DataW H} {ps : List MemPlace} (ht : (deep P T).1 t = true) (hv : Value.okWide P w r b0 t v) (h : DataW.Trod enc P w base spare held t v d ps) :
    ∃ x : T.den, VR X w ok own (inject T x) v ∧ WF T x := by
  obtain ⟨fuel, hf⟩ := h
  obtain ⟨x, h1, h2⟩ := (trod_rep (X := X) hok T).1 _ _ _ _ ht hf
  refine ⟨x, ?_, h2⟩
  have e : joined T v.cells.toList = v := by
    unfold joined
    have hlen := Rep.len w ok T x _ h1
    cases T with
    | unit | one _ | pair _ _ =>
      simp only [deep] at ht
      split at ht
      · rename_i fs hu
        simp only [Value.okWide, hu] at hv
        obtain ⟨cs, rfl, _⟩ := hv
        rfl
      · cases ht
    | ext _ => simp [deep] at ht
    | int _ | bool | str | slice _ =>
      simp only [Ty.isAgg]
      simp only [deep] at ht
      split at ht
      · rename_i hu
        simp only [Value.okWide, hu, Cell.okWide] at hv
        cases v <;> simp_all [Cell.ok, Value.cells]
      · cases ht
  rw [← e]
  exact inject_VR h1
end
end Go.Proofs.YtgelkklendpeoaaGreat.AE

namespace Go.Proofs.YtgelkklendpeoaaGreat.AE
set_option linter.unusedVariables false
set_option linter.unusedSimpArgs false
open Go Go.RowKit
set_option linter.unusedVariables false
section
variable {X : ExtRep} {P : Program} {E : Env}
theorem HR.empty {S : Nat → Prop} {w : World} : HR X S w [] [] := ⟨rfl, fun i ob o h => by simp at h, fun i j oi oj b h => by simp at h, fun i o b h => by simp at h⟩
/-- Where a law is called: nothing is one's own. -/
def atLaw (w : World) : Nat → Prop := okS (fun _ => True) w []
theorem atLaw_of {w : World} : ∀ b, b < w.heap.size → atLaw w b := fun b hb => ⟨trivial, hb, fun o ho => by cases ho⟩
/-- A LAW: data come in, a truth value comes out; what was there stays. -/
theorem law_calls (hX : X.OK) (hE : tysOK P E.tys = true) (hm : P.follows .mixedOrders = true) {call : CallFn E} (hc : CallOK P X E call) {n f : Nat} {slots : List SP} {fn : Func} {c : Code} {hs : List (List Nat × LH)}
    (hok : EntryOK P X f ⟨⟨slots, []⟩, ⟨[.dat .bool], []⟩⟩ (.code fn c hs)) (x : Shape.den ⟨slots, []⟩) (hrun : runHow E call n ⟨⟨slots, []⟩, ⟨[.dat .bool], []⟩⟩ x (.code fn c hs) = some true)
    (w : World) (hI : X.inv w (atLaw w)) (vals : List Value) (hv : VRs X w (atLaw w) [] (putSlots id slots x).1 vals) :
    Calls P f vals.toArray w fun e w' => e = .returned (.bool true) ∧ Below w.heap.size w w' := by
  have hh : Holds X (fun _ => True) w [] (⟨slots, []⟩ : Shape) x vals := ⟨HR.empty, hv⟩
  refine (code_calls hX hE hm hc hok hrun (fun _ _ => trivial) hI hh).mono fun e w' ⟨v, he, own', vs', hh', hf, _, hv'⟩ => ?_
  subst he hv'
  have h2 : VRs X w' (okS (fun _ => True) w' own') own' [.bool true] vs' := hh'.2
  cases h2 with
  | cons h1 h0 =>
    cases h0
    have h1' : _ = Value.bool true := h1
    subst h1'
    exact ⟨rfl, ⟨hf.os, hf.tape, hf.output, hf.sz, fun k hk => hf.blk k hk fun i o ho => by simp at ho⟩⟩
end
end Go.Proofs.YtgelkklendpeoaaGreat.AE

namespace Go.Proofs.YtgelkklendpeoaaGreat.AE
set_option linter.unusedVariables false
set_option linter.unusedSimpArgs false
open Go
set_option linter.unusedVariables false
/-! The evaluator for closed inputs: the same answers, each value worked out as soon as it is there (the kernel would keep it as it stands). -/
section
variable {R : Type}
def forceNat (m : Nat) (k : Nat → R) : R := match m with | 0 => k 0 | p + 1 => k (p + 1)
theorem forceNat_eq (m : Nat) (k : Nat → R) : forceNat m k = k m := by cases m <;> rfl
def forceInt (n : Int) (k : Int → R) : R := match n with | .ofNat m => forceNat m fun m => k (.ofNat m) | .negSucc m => forceNat m fun m => k (.negSucc m)
theorem forceInt_eq (n : Int) (k : Int → R) : forceInt n k = k n := by cases n <;> simp only [forceInt, forceNat_eq]
def forceBool (b : Bool) (k : Bool → R) : R := match b with | true => k true | false => k false
theorem forceBool_eq (b : Bool) (k : Bool → R) : forceBool b k = k b := by cases b <;> rfl
def forceList {α : Type} (f : α → (α → R) → R) : List α → (List α → R) → R
  | [], k => k []
  | a :: l, k => f a fun a => forceList f l fun l => k (a :: l)
theorem forceList_eq {α : Type} {f : α → (α → R) → R} (hf : ∀ a k, f a k = k a) : ∀ (l : List α) (k : List α → R), forceList f l k = k l
  | [], k => rfl
  | a :: l, k => by simp only [forceList, hf, forceList_eq hf l]
def forceU8 (u : UInt8) (k : UInt8 → R) : R := forceNat u.toNat fun n => k (UInt8.ofNat n)
theorem forceU8_eq (u : UInt8) (k : UInt8 → R) : forceU8 u k = k u := by simp only [forceU8, forceNat_eq, UInt8.ofNat_toNat]
def forceStr (s : ByteArray) (k : ByteArray → R) : R := match s with | ⟨⟨l⟩⟩ => forceList forceU8 l fun l => k ⟨⟨l⟩⟩
theorem forceStr_eq (s : ByteArray) (k : ByteArray → R) : forceStr s k = k s := by obtain ⟨⟨l⟩⟩ := s; simp only [forceStr, forceList_eq forceU8_eq]
def force : (T : Ty) → T.den → (T.den → R) → R
  | .int _, n, k => forceInt n k
  | .bool, b, k => forceBool b k
  | .str, s, k => forceStr s k
  | .unit, _, k => k ()
  | .slice e, l, k => forceList (force e) l k
  | .one a, x, k => force a x k
  | .pair a b, x, k => force a x.1 fun y => force b x.2 fun z => k (y, z)
  | .ext _, l, k => forceList forceInt l k
theorem force_eq : ∀ (T : Ty) (x : T.den) (k : T.den → R), force T x k = k x
  | .int _, n, k => forceInt_eq n k
  | .bool, b, k => forceBool_eq b k
  | .str, s, k => forceStr_eq s k
  | .unit, _, k => rfl
  | .slice e, l, k => forceList_eq (fun a k => force_eq e a k) l k
  | .one a, x, k => force_eq a x k
  | .pair a b, x, k => by simp only [force, force_eq a, force_eq b]; rfl
  | .ext _, l, k => forceList_eq forceInt_eq l k
def forceP : (ts : List Ty) → Prods ts → (Prods ts → R) → R
  | [], _, k => k ()
  | [t], x, k => force t x k
  | t :: t' :: ts, x, k => force t x.1 fun y => forceP (t' :: ts) x.2 fun z => k (y, z)
theorem forceP_eq : ∀ (ts : List Ty) (x : Prods ts) (k : Prods ts → R), forceP ts x k = k x
  | [], _, k => rfl
  | [t], x, k => force_eq t x k
  | t :: t' :: ts, x, k => by simp only [forceP, force_eq, forceP_eq (t' :: ts)]; rfl
def forceAV : AV → (AV → R) → R
  | .int kd n, k => forceInt n fun n => k (.int kd n)
  | .bool b, k => forceBool b fun b => k (.bool b)
  | .str s, k => forceStr s fun s => k (.str s)
  | .sl T l, k => forceList (force T) l fun l => k (.sl T l)
  | .agg T x, k => force T x fun x => k (.agg T x)
  | .zag T x, k => force T x fun x => k (.zag T x)
  | .at T x, k => force T x fun x => k (.at T x)
  | .ref i, k => forceNat i fun i => k (.ref i)
  | .ptr i off, k => forceNat i fun i => forceNat off fun off => k (.ptr i off)
  | .ea i ix off, k => forceNat i fun i => forceInt ix fun ix => forceNat off fun off => k (.ea i ix off)
  | .ext i x, k => forceList forceInt x fun x => k (.ext i x)
  | .tcons a b, k => forceAV a fun a => forceAV b fun b => k (.tcons a b)
  | .undef, k => k .undef | .skp, k => k .skp | .nil, k => k .nil | .nilp, k => k .nilp | .tup0, k => k .tup0
  | .fn f cs, k => k (.fn f cs)
theorem forceAV_eq : ∀ (v : AV) (k : AV → R), forceAV v k = k v
  | .int kd n, k => forceInt_eq n _
  | .bool b, k => forceBool_eq b _
  | .str s, k => forceStr_eq s _
  | .sl T l, k => forceList_eq (fun a k => force_eq T a k) l _
  | .agg T x, k => force_eq T x _
  | .zag T x, k => force_eq T x _
  | .at T x, k => force_eq T x _
  | .ref i, k => forceNat_eq i _
  | .ptr i off, k => by simp only [forceAV, forceNat_eq]
  | .ea i ix off, k => by simp only [forceAV, forceNat_eq, forceInt_eq]
  | .ext i x, k => forceList_eq forceInt_eq x _
  | .tcons a b, k => by simp only [forceAV, forceAV_eq a, forceAV_eq b]
  | .undef, k => rfl | .skp, k => rfl | .nil, k => rfl | .nilp, k => rfl | .tup0, k => rfl
  | .fn f cs, k => rfl
def forceOb : Ob → (Ob → R) → R
  | .dead, k => k .dead
  | .row T l, k => forceList (force T) l fun l => k (.row T l)
  | .frz T l, k => forceList (force T) l fun l => k (.frz T l)
  | .var T x, k => force T x fun x => k (.var T x)
  | .vrow T l, k => forceList (force T) l fun l => k (.vrow T l)
  | .vout, k => k .vout
  | .vst T x h, k => force T x fun x => k (.vst T x h)
theorem forceOb_eq : ∀ (o : Ob) (k : Ob → R), forceOb o k = k o
  | .dead, k => rfl
  | .row T l, k => forceList_eq (fun a k => force_eq T a k) l _
  | .frz T l, k => forceList_eq (fun a k => force_eq T a k) l _
  | .var T x, k => force_eq T x _
  | .vrow T l, k => forceList_eq (fun a k => force_eq T a k) l _
  | .vout, k => rfl
  | .vst T x h, k => force_eq T x _
/-- One place of a list; the list as far as there. -/
def forceAt : List AV → Nat → (List AV → R) → R
  | [], _, k => k []
  | a :: l, 0, k => forceAV a fun a => k (a :: l)
  | a :: l, d + 1, k => forceAt l d fun l => k (a :: l)
theorem forceAt_eq : ∀ (l : List AV) (d : Nat) (k : List AV → R), forceAt l d k = k l
  | [], _, k => rfl
  | a :: l, 0, k => by simp only [forceAt, forceAV_eq]
  | a :: l, d + 1, k => by simp only [forceAt, forceAt_eq l d]
def touches (o : Oper) : Bool :=
  match o.op with
  | .alloc _ | .box _ _ | .buildSlice _ _ _ | .store _ _ _ | .makeSlice _ _ _ | .convert _ _ _ | .build _ _ | .slice _ _ _ _ _ | .load _ _ => true
  | .call { callee := .builtin .append, .. } | .call { callee := .value _, .. } => true
  | _ => false
def forceSt (o : Oper) (st : St) (k : St → R) : R :=
  match st with
  | ⟨tm, os⟩ => match o.dst with
    | some d => forceAt tm d fun tm => (match touches o with | true => forceList forceOb os fun os => k ⟨tm, os⟩ | false => k ⟨tm, os⟩)
    | none => match touches o with | true => forceList forceOb os fun os => k ⟨tm, os⟩ | false => k ⟨tm, os⟩
theorem forceSt_eq (o : Oper) (st : St) (k : St → R) : forceSt o st k = k st := by
  obtain ⟨tm, os⟩ := st
  simp only [forceSt]
  cases o.dst <;> cases touches o <;> simp only [forceAt_eq, forceList_eq forceOb_eq]
def forceAll (st : St) (k : St → R) : R := match st with | ⟨tm, os⟩ => forceList forceAV tm fun tm => forceList forceOb os fun os => k ⟨tm, os⟩
theorem forceAll_eq (st : St) (k : St → R) : forceAll st k = k st := by
  obtain ⟨tm, os⟩ := st
  simp only [forceAll, forceList_eq forceAV_eq, forceList_eq forceOb_eq]
def opsK (E : Env) (call : CallFn E) (all : List Oper) : List Oper → St → (St → Option R) → Option R
  | [], st, k => k st
  | o :: rest, st, k => match o.guard with
    | none => op E call o st fun st' => forceSt o st' fun st' => opsK E call all rest st' k
    | some (j, want) => match guardAV all st j with
      | .bool b => bif b == want
          then op E call o (learn all st j want) fun st' => forceSt o st' fun st' => opsK E call all rest st' k
          else forceSt o ((learn all st j (!want)).put o.dst .skp) fun st' => opsK E call all rest st' k
      | .skp => forceSt o (st.put o.dst .skp) fun st' => opsK E call all rest st' k
      | _ => none
theorem opsK_eq (E : Env) (call : CallFn E) (all : List Oper) : ∀ (l : List Oper) (st : St) (k : St → Option R), opsK E call all l st k = opsEl E call all l st k
  | [], st, k => rfl
  | o :: rest, st, k => by
    have ih : ∀ st, opsK E call all rest st k = opsEl E call all rest st k := fun st => opsK_eq E call all rest st k
    simp only [opsK, opsEl, forceSt_eq, ih]
    rfl
def opsXK (E : Env) (call : CallFn E) (all : List Oper) (bs : List (List Nat)) : List Oper → List (List Nat) → St → (St → Option R) → Option R
  | [], _, st, k => k st
  | o :: rest, acc, st, k => match chkO E all bs o acc st with
    | false => none
    | true => match o.guard with
      | none => opD E call all o st fun st' => forceSt o st' fun st' => opsXK E call all bs rest (acc ++ [footO o st]) st' k
      | some (j, want) => match guardAV all st j with
        | .bool b => bif b == want
            then opD E call all o (learn all st j want) fun st' => forceSt o st' fun st' => opsXK E call all bs rest (acc ++ [footO o st]) st' k
            else forceSt o ((learn all st j (!want)).put o.dst .skp) fun st' => opsXK E call all bs rest (acc ++ [footO o st]) st' k
        | .skp => forceSt o (st.put o.dst .skp) fun st' => opsXK E call all bs rest (acc ++ [footO o st]) st' k
        | _ => none
theorem opsXK_eq (E : Env) (call : CallFn E) (all : List Oper) (bs : List (List Nat)) : ∀ (l : List Oper) (acc : List (List Nat)) (st : St) (k : St → Option R), opsXK E call all bs l acc st k = opsXl E call all bs l acc st k
  | [], acc, st, k => rfl
  | o :: rest, acc, st, k => by
    have ih : ∀ acc st, opsXK E call all bs rest acc st k = opsXl E call all bs rest acc st k := fun acc st => opsXK_eq E call all bs rest acc st k
    simp only [opsXK, opsXl, forceSt_eq, ih]
    rfl
end
def strictR {s : Shape} (r : Option s.den) : Option s.den := match r with | some y => forceP s.tys y some | none => none
theorem strictR_eq {s : Shape} (r : Option s.den) : strictR r = r := by cases r <;> simp only [strictR, forceP_eq]
def evK {E : Env} {O : Type} (C : Ctx E O) : Code → (R : Type) → (O → R) → List Nat → St → (Ex → St → Option R) → Option R
  | .skip, _, _, _, st, k => k .normal st
  | .label _, _, _, _, st, k => k .normal st
  | .region _ ops draw, _, _, _, st, k => (match draw with
    | false => opsK E C.call ops.toList ops.toList st fun st' => k .normal st'
    | true => (match drawOK E ops.toList with
      | true => opsXK E C.call ops.toList (befores ops.toList []) ops.toList [] (preF E ops.toList st) fun st' => k .normal st'
      | false => none))
  | .seq a b, R, r, p, st, k => evK C a R r (0 :: p) st fun e st' => match e with
    | .normal => evK C b R r (1 :: p) st' k
    | .exit i => k (.exit i) st'
  | .cond c t f, R, r, p, st, k => (match opd st c with
    | .bool b => bif b then evK C t R r (0 :: p) st k else evK C f R r (1 :: p) st k
    | _ => none)
  | .block id b, R, r, p, st, k => evK C b R r (0 :: p) st fun e st' => match e with
    | .normal => k .normal st'
    | .exit i => (match Nat.beq i id with | true => k .normal st' | false => k (.exit i) st')
  | .loop b, R, r, p, st, k => (match findHint C.hs p with
    | none => none
    | some L => (match strictR (L.read C.m st) with
      | none => none
      | some x => Option.bind (loopE (fun y k' => forceAll (L.put C.N y) fun s0 => evK C b (L.sh.den ⊕ O) .inr (0 :: p) s0 k') (fun st => strictR (L.read C.m st)) L.ex C.n x) fun s =>
          onSum s (fun y => forceAll (L.put C.N y) fun s0 => k (.exit L.ex) s0) (fun o => some (r o))))
  | .exit i, _, _, _, st, k => k (.exit i) st
  | .ret, _, r, _, st, _ => (match C.fin st with | some o => some (r o) | none => none)
  | _, _, _, _, _, _ => none
theorem evK_eq {E : Env} {O : Type} (C : Ctx E O) : ∀ (c : Code) (R : Type) (r : O → R) (p : List Nat) (st : St) (k : Ex → St → Option R), evK C c R r p st k = ev C c R r p st k
  | .region _ ops draw, R, r, p, st, k => by simp only [evK, ev, opsK_eq, opsXK_eq]; rfl
  | .seq a b, R, r, p, st, k => by simp only [evK, ev, evK_eq C a, evK_eq C b]; rfl
  | .cond c t f, R, r, p, st, k => by simp only [evK, ev, evK_eq C t, evK_eq C f]; rfl
  | .block id b, R, r, p, st, k => by simp only [evK, ev, evK_eq C b]; rfl
  | .loop b, R, r, p, st, k => by simp only [evK, ev, strictR_eq, forceAll_eq, evK_eq C b]; rfl
  | .skip, R, r, p, st, k | .label _, R, r, p, st, k | .exit _, R, r, p, st, k | .ret, R, r, p, st, k => rfl
  | .goto _, R, r, p, st, k => rfl
  | .scope _, R, r, p, st, k => rfl
  | .rangeFunc _ _ _ _, R, r, p, st, k => rfl
  | .refuse _, R, r, p, st, k => rfl
def runK (E : Env) (call : CallFn E) (n : Nat) (s : Sig) (x : s.ins.den) : How s → Option s.outs.den
  | .none => none
  | .orc g => g n x
  | .code fn c hs => match putSlots id s.ins.slots x with
    | (vs, p) => forceAll ⟨vs ++ List.replicate (fn.ntmps - vs.length) .undef, putObjs s.ins.objs p⟩ fun st0 => evK (ctxOf E call n s fn hs) c s.outs.den id [] st0 fun e st => match e with
      | .normal => finE E s fn s.ins.objs.length st
      | .exit _ => none
theorem runK_eq (E : Env) (call : CallFn E) (n : Nat) (s : Sig) (x : s.ins.den) (h : How s) : runK E call n s x h = runHow E call n s x h := by
  cases h with
  | none => rfl
  | orc g => rfl
  | code fn c hs => simp only [runK, runHow, forceAll_eq, evK_eq]; rfl
def evalK (E : Env) : Nat → CallFn E
  | 0, _, _ => none
  | n + 1, f, x => forceP _ x fun x => strictR (runK E (evalK E n) n (E.fn f).sig x (E.fn f).how)
theorem evalK_eq (E : Env) : ∀ (n : Nat), evalK E n = evalF E n
  | 0 => rfl
  | n + 1 => by
    funext f x
    simp only [evalK, forceP_eq, strictR_eq, runK_eq, evalK_eq E n]
    rfl
end Go.Proofs.YtgelkklendpeoaaGreat.AE

namespace Go.Proofs.YtgelkklendpeoaaGreat.AE
set_option linter.unusedVariables false
set_option linter.unusedSimpArgs false
open Go
/-! The residue: what the evaluator comes to at a function. -/
/-- The code at a place (steps from the root). -/
def codeAt : Code → List Nat → Code
  | c, [] => c
  | .seq a _, 0 :: p => codeAt a p
  | .seq _ b, _ :: p => codeAt b p
  | .cond _ t _, 0 :: p => codeAt t p
  | .cond _ _ f, _ :: p => codeAt f p
  | .block _ b, _ :: p => codeAt b p
  | .loop b, _ :: p => codeAt b p
  | c, _ => c
/-- A loop, where it stands. -/
def loopAt {E : Env} {O : Type} (C : Ctx E O) (b : Code) (p : List Nat) (L : LH) (m : Nat) : L.sh.den → Option (L.sh.den ⊕ O) :=
  loopE (fun y k' => ev C b (L.sh.den ⊕ O) .inr (0 :: p) (L.put C.N y) k') (L.read C.m) L.ex m
def iter {X O : Type} (F : (X → Option (X ⊕ O)) → X → Option (X ⊕ O)) : Nat → X → Option (X ⊕ O)
  | 0, _ => none
  | m + 1, y => F (iter F m) y
theorem iter_of {X O : Type} {g : Nat → X → Option (X ⊕ O)} {F : (X → Option (X ⊕ O)) → X → Option (X ⊕ O)} (h0 : g 0 = fun _ => none) (h : ∀ m y, g (m + 1) y = F (g m) y) : ∀ m, g m = iter F m
  | 0 => h0
  | m + 1 => by funext y; rw [h, iter_of h0 h m]; rfl
/-- Calls with what they take and tell worked out. -/
def strictC (E : Env) (call : CallFn E) : CallFn E := fun f x => forceP _ x fun x => strictR (call f x)
theorem strictC_eq (E : Env) (call : CallFn E) : strictC E call = call := by
  funext f x
  simp only [strictC, forceP_eq, strictR_eq]
end Go.Proofs.YtgelkklendpeoaaGreat.AE

namespace Go.Proofs.YtgelkklendpeoaaGreat.AE
set_option linter.unusedVariables false
set_option linter.unusedSimpArgs false
open Go
/-! What the masks of a list answer, and words with a carry. -/
def inI64 (x : Int) : Bool := decide (-9223372036854775808 ≤ x) && decide (x ≤ 9223372036854775807)
def mkB (b : List Int) (y : Int) : Nat → Nat
  | 0 => 0
  | j + 1 => if b.getD j 0 = y then mkB b y j ||| 2 ^ j else mkB b y j
def maskWords (n : Nat) : Nat := (min n 1048576 + 63) / 64
def layB (x m : Nat) : List Int := (List.range m).map fun k => ((x / 2 ^ (64 * k) % 2 ^ 64 : Nat) : Int)
def maskNew (b : List Int) : Option (List Int) := if decide (b.length < 17592186044416) && b.all inI64 then some b else none
def maskOf (x : List Int × Int) : Option (List Int) := if inI64 x.2 then some (layB (mkB x.1 x.2 x.1.length % 2 ^ min x.1.length 1048576) (maskWords x.1.length)) else none
def add64 (x : Int × Int × Int) : Option (Int × Int) := if x.2.2 ≤ 1 then some ((((x.1.toNat + x.2.1.toNat + x.2.2.toNat) % 18446744073709551616 : Nat) : Int), (((x.1.toNat + x.2.1.toNat + x.2.2.toNat) / 18446744073709551616 : Nat) : Int)) else none
def sub64 (x : Int × Int × Int) : Option (Int × Int) := if x.2.2 ≤ 1 then some ((((x.1.toNat + 18446744073709551616 - x.2.1.toNat - x.2.2.toNat) % 18446744073709551616 : Nat) : Int), if x.1.toNat < x.2.1.toNat + x.2.2.toNat then 1 else 0) else none
end Go.Proofs.YtgelkklendpeoaaGreat.AE

namespace Go.Proofs.YtgelkklendpeoaaGreat.AE
set_option linter.unusedVariables false
set_option linter.unusedSimpArgs false
open Go Go.RowKit
set_option linter.unusedVariables false
section
variable {X : ExtRep} {P : Program}
/-- All entries of a program, one after the other. -/
def EntriesOK (P : Program) (X : ExtRep) : Nat → List Entry → Prop
  | _, [] => True
  | k, e :: es => EntryOK P X k e.sig e.how ∧ EntriesOK P X (k + 1) es
theorem entries_get : ∀ (es : List Entry) (k j : Nat), EntriesOK P X k es → EntryOK P X (k + j) (es.getD j ⟨Sig.none, .none⟩).sig (es.getD j ⟨Sig.none, .none⟩).how
  | [], k, j, _ => trivial
  | e :: es, k, 0, h => h.1
  | e :: es, k, j + 1, h => by
    have := entries_get es (k + 1) j h.2
    rw [show k + 1 + j = k + (j + 1) by omega] at this
    exact this
theorem entries_fn {E : Env} (h : EntriesOK P X 0 E.fns) (f : Nat) : EntryOK P X f (E.fn f).sig (E.fn f).how := by
  have := entries_get E.fns 0 f h
  rw [Nat.zero_add] at this
  exact this
def NoX : ExtRep := ⟨fun _ _ _ _ _ => False, fun _ _ => True⟩
theorem NoX_ok : NoX.OK := ⟨fun _ h => h.elim, fun h => h.elim, fun h => h.elim, fun _ _ => trivial⟩
/-- A contract by hand: data in, data out, nothing else. -/
theorem Spec_of_calls (hX : X.OK) {f : FuncId} {fn : Func} {c : Code} (hf : P.funcs[f]? = some fn) (hname : (fn.name == "runtime.NumGoroutine") = false) (hb : fn.body = some c) {slots outs : List SP} {x : Shape.den ⟨slots, []⟩} {y : Shape.den ⟨outs, []⟩}
    (h : ∀ (S : Nat → Prop) (w : World) (vals : List Value), (∀ b, w.heap.size ≤ b → S b) → X.inv w (okS S w []) → VRs X w (okS S w []) [] (putSlots id slots x).1 vals →
      Calls P f vals.toArray w fun e w' => ∃ vs', e = .returned (tupV vs') ∧ Below w.heap.size w w' ∧ VRs X w' (okS S w' []) [] (putSlots id outs y).1 vs') :
    Spec P X ⟨⟨slots, []⟩, ⟨outs, []⟩⟩ f x y := by
  intro S w own vals hS hI ⟨h1, h2⟩
  have h1' : HR X S w [] own := h1
  have h0 : own = [] := List.eq_nil_of_length_eq_zero h1'.len
  subst h0
  refine Does.of_calls hf hname hb ((h S w vals hS hI h2).mono fun e w' ⟨vs', he, hbel, hv⟩ => ?_)
  have hfr : Frm S w [] w' [] := ⟨hbel.os, hbel.tape, hbel.output, hbel.size, fun b ⟨k1, k2, k3⟩ => ⟨⟨k1, by have := hbel.size; omega, fun o ho => by cases ho⟩, hbel.block b k2⟩, fun i o b h => by simp at h, fun b hb' _ => hbel.block b hb'⟩
  exact ⟨_, he, [], vs', ⟨HR.empty, hv⟩, hfr, fun j o h => by simp at h, rfl⟩
theorem VRs.one {w : World} {ok : Nat → Prop} {own : List Own} {a : AV} {vs : List Value} (h : VRs X w ok own [a] vs) : ∃ v, vs = [v] ∧ VR X w ok own a v := by
  cases h with | cons h1 h2 => cases h2; exact ⟨_, rfl, h1⟩
theorem VRs.two {w : World} {ok : Nat → Prop} {own : List Own} {a b : AV} {vs : List Value} (h : VRs X w ok own [a, b] vs) : ∃ v u, vs = [v, u] ∧ VR X w ok own a v ∧ VR X w ok own b u := by
  cases h with | cons h1 h2 => obtain ⟨u, rfl, h3⟩ := h2.one; exact ⟨_, _, rfl, h1, h3⟩
theorem VRs.three {w : World} {ok : Nat → Prop} {own : List Own} {a b c : AV} {vs : List Value} (h : VRs X w ok own [a, b, c] vs) : ∃ v u t, vs = [v, u, t] ∧ VR X w ok own a v ∧ VR X w ok own b u ∧ VR X w ok own c t := by
  cases h with | cons h1 h2 => obtain ⟨u, t, rfl, h3, h4⟩ := h2.two; exact ⟨_, _, _, rfl, h1, h3, h4⟩
/-- A function without a body: it runs, and the world stays. -/
theorem Spec_of_run {f : FuncId} {slots outs : List SP} {x : Shape.den ⟨slots, []⟩} {y : Shape.den ⟨outs, []⟩}
    (h : ∀ (ok : Nat → Prop) (w : World) (vals : List Value), VRs X w ok [] (putSlots id slots x).1 vals →
      ∃ vs', (callFunc f vals.toArray).run P w = .ok (.value (tupV vs')) w ∧ VRs X w ok [] (putSlots id outs y).1 vs') :
    Spec P X ⟨⟨slots, []⟩, ⟨outs, []⟩⟩ f x y := by
  intro S w own vals hS hI ⟨h1, h2⟩
  have h1' : HR X S w [] own := h1
  have h0 : own = [] := List.eq_nil_of_length_eq_zero h1'.len
  subst h0
  obtain ⟨vs', k1, k2⟩ := h _ w vals h2
  intro o a next Q hn
  rw [k1]
  exact hn _ w ⟨[], vs', ⟨h1', k2⟩, Frm.refl .., fun j o h => by simp at h, rfl⟩
end
end Go.Proofs.YtgelkklendpeoaaGreat.AE
