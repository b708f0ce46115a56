/- An evaluator of programs, and that its answers are those of the calls. By hand. -/
import Derived.Test.YtgelkklendpeoaaGreatAeA
import Derived.Laws.Tables
import Derived.Lib.AppendStr
namespace Go.Proofs.YtgelkklendpeoaaGreat.AE
set_option linter.unusedVariables false
set_option linter.unusedSimpArgs false
open Go
set_option linter.unusedVariables false
set_option linter.unusedSimpArgs false

section
variable {X : ExtRep} {S : Nat → Prop} {P : Program} {E : Env} {w : World} {own : List Own} {st : St} {a : Act} {R : Type} {k : AV → Option R} {r : R} {o : Oper}
theorem foldl_fill (off : Nat) : ∀ (ys pre mid post : List Value) (i : Nat), mid.length = ys.length → pre.length = off + i →
    (ys.zipIdx i).foldl (fun (cs : Array Value) (p : Value × Nat) => cs.setIfInBounds (off + p.2) p.1) (pre ++ mid ++ post).toArray = (pre ++ ys ++ post).toArray
  | [], pre, mid, post, i, hm, hp => by
    have : mid = [] := List.eq_nil_of_length_eq_zero hm
    subst this; rfl
  | y :: ys, pre, [], post, i, hm, hp => by simp at hm
  | y :: ys, pre, m :: mid, post, i, hm, hp => by
    rw [List.zipIdx_cons, List.foldl_cons]
    have : (pre ++ m :: mid ++ post).toArray.setIfInBounds (off + i) y = ((pre ++ [y]) ++ mid ++ post).toArray := by
      rw [← hp]
      simp
    rw [this, foldl_fill off ys (pre ++ [y]) mid post (i + 1) (by simpa using hm) (by simp [hp]; omega)]
    simp
/-- 'fill', one part. -/
theorem fill_one (place : Nat → Option (Nat × Nat)) (pre mid post ys : List Value) (f : Nat) (v : Value) (rest : List (Nat × Value)) (hp : place f = some (pre.length, ys.length)) (hv : v.cells.toList = ys) (hm : mid.length = ys.length) :
    Instr.fill place (pre ++ mid ++ post).toArray ((f, v) :: rest) = Instr.fill place (pre ++ ys ++ post).toArray rest := by
  have hs : v.cells.size = ys.length := by rw [← hv]; simp
  simp only [Instr.fill, hp]
  rw [if_neg (by simp [hs, hm])]
  congr 1
  have := foldl_fill pre.length ys pre mid post 0 hm (by simp)
  rw [← Array.foldl_toList, Array.toList_zipIdx, hv]
  exact this
theorem setFields_fill (hX : X.OK) (hr : HR X S w st.objs own) {T : Ty} {place : Nat → Option (Nat × Nat)} (hplace : ∀ f off F, fieldTy T f = some (off, F) → place f = some (off, F.size)) :
    ∀ (ps : List (Nat × AV)) (vs : List (Nat × Value)) (x x' : T.den) (cs : List Value), setFields st.objs T ps x = some x' → Rep X w (okS S w own) T x cs →
      ps.length = vs.length → (∀ (i : Nat) (p : Nat × AV) (q : Nat × Value), ps[i]? = some p → vs[i]? = some q → p.1 = q.1 ∧ VR X w (okS S w own) own p.2 q.2) →
      ∃ cs', Instr.fill place cs.toArray vs = some cs'.toArray ∧ Rep X w (okS S w own) T x' cs'
  | [], [], x, x', cs, h, hrep, _, _ => by
    simp only [setFields, Option.some.injEq] at h
    subst h
    exact ⟨cs, rfl, hrep⟩
  | (f, v) :: ps, (g, u) :: vs, x, x', cs, h, hrep, hl, hall => by
    simp only [setFields] at h
    split at h
    · rename_i off F hf
      split at h
      · rename_i y hy
        split at h
        · rename_i z hz
          have h0 := hall 0 (f, v) (g, u) rfl rfl
          have hu := readS_rep hX hr hy h0.2
          obtain ⟨pre, mid, post, e1, e2, e3, e4⟩ := poke_rep _ _ _ _ _ _ _ _ hz hrep hu
          obtain ⟨cs', q1, q2⟩ := setFields_fill hX hr hplace ps vs z x' _ h e4 (by simpa using hl) (fun i p q hp hq => hall (i + 1) p q (by simpa using hp) (by simpa using hq))
          refine ⟨cs', ?_, q2⟩
          have hfg : f = g := h0.1
          subst hfg
          rw [e1, fill_one place pre mid post _ f u vs (by rw [hplace f off F hf, e2, Rep.len w _ _ _ _ hu]) rfl e3]
          exact q1
        · cases h
      · cases h
    · cases h
  | [], _ :: _, _, _, _, _, _, hl, _ => by simp at hl
  | _ :: _, [], _, _, _, _, _, hl, _ => by simp at hl
theorem places_of : ∀ (T : Ty) (off : Nat) (fs : List Field), fieldsOK P T off fs = true →
    ∃ places : List (Nat × Nat), fs.mapM (fun f => (P.info? f.type).map fun i => (f.offset, i.size)) = some places ∧ ∀ f off' F, fieldTy T f = some (off', F) → places[f]? = some (off + off', F.size)
  | .unit, off, [], h => ⟨[], rfl, fun f off' F hf => by simp [fieldTy] at hf⟩
  | .unit, off, _ :: _, h => by simp [fieldsOK] at h
  | .one a, off, [], h => by simp [fieldsOK] at h
  | .one a, off, _ :: _ :: _, h => by simp [fieldsOK] at h
  | .one a, off, [fd], h => by
    simp only [fieldsOK, Bool.and_eq_true, Nat.beq_eq] at h
    obtain ⟨h1, h2⟩ := h
    split at h2
    · rename_i i d hi hd
      simp only [Bool.and_eq_true, Nat.beq_eq] at h2
      refine ⟨[(fd.offset, i.size)], by simp [hi], fun f off' F hf => ?_⟩
      cases f with
      | zero => simp only [fieldTy, Option.some.injEq, Prod.mk.injEq] at hf; obtain ⟨rfl, rfl⟩ := hf; simp [h1, h2.1.1]
      | succ f => simp [fieldTy] at hf
    · cases h2
  | .pair a b, off, [], h => by simp [fieldsOK] at h
  | .pair a b, off, fd :: fs, h => by
    simp only [fieldsOK, Bool.and_eq_true, Nat.beq_eq] at h
    obtain ⟨⟨h1, h2⟩, h3⟩ := h
    obtain ⟨places, q1, q2⟩ := places_of b (off + a.size) fs h3
    split at h2
    · rename_i i d hi hd
      simp only [Bool.and_eq_true, Nat.beq_eq] at h2
      refine ⟨(fd.offset, i.size) :: places, by simp [hi, q1], fun f off' F hf => ?_⟩
      cases f with
      | zero => simp only [fieldTy, Option.some.injEq, Prod.mk.injEq] at hf; obtain ⟨rfl, rfl⟩ := hf; simp [h1, h2.1.1]
      | succ f =>
        simp only [fieldTy] at hf
        split at hf
        · rename_i o2 t2 h2'
          cases hf
          rw [List.getElem?_cons_succ, q2 f o2 _ h2', Nat.add_assoc]
        · cases hf
    · cases h2
  | .int _, off, fs, h | .bool, off, fs, h | .str, off, fs, h | .slice _, off, fs, h | .ext _, off, fs, h => by simp [fieldsOK] at h
theorem isZero_nil : ∀ (T : Ty) (cs r : List Value), isZero T cs = some r → zok T = true → ∃ v1, cs = v1 ++ r ∧ v1.length = T.size ∧ NilS T v1
  | .unit, cs, r, h, _ => by simp [isZero] at h; subst h; exact ⟨[], rfl, rfl, trivial⟩
  | .one a, cs, r, h, hz => by
    simp only [isZero] at h
    exact isZero_nil a cs r h hz
  | .pair a b, cs, r, h, hz => by
    simp only [isZero] at h
    simp only [zok] at hz
    split at hz
    · rename_i hza
      split at h
      · rename_i r1 h1
        obtain ⟨v1, e1, p1, n1⟩ := isZero_nil a _ _ h1 hza
        obtain ⟨v2, e2, p2, n2⟩ := isZero_nil b _ _ h hz
        exact ⟨v1 ++ v2, by rw [e1, e2, List.append_assoc], by rw [List.length_append, p1, p2]; rfl, v1, v2, rfl, p1, n1, n2⟩
      · cases h
    · cases hz
  | .slice e, v :: cs, r, h, hz => by
    simp only [isZero] at h
    split at h
    · rename_i hc
      cases h
      refine ⟨[v], rfl, rfl, ?_, by simpa [zok] using hz⟩
      cases v <;> simp only [zeroCell, Bool.false_eq_true] at hc
      rename_i aa n c
      cases aa with
      | some aa => simp [zeroCell] at hc
      | none => simp [zeroCell] at hc; obtain ⟨rfl, rfl⟩ := hc; rfl
    · cases h
  | .int k, v :: cs, r, h, _ | .bool, v :: cs, r, h, _ | .str, v :: cs, r, h, _ | .ext _, v :: cs, r, h, _ => by
    simp only [isZero] at h
    split at h
    · cases h; exact ⟨[v], rfl, rfl, trivial⟩
    · cases h
  | .int _, [], r, h, _ | .bool, [], r, h, _ | .str, [], r, h, _ | .slice _, [], r, h, _ | .ext _, [], r, h, _ => by simp [isZero] at h
theorem flatNil : ∀ (T : Ty) (vs : List Value), T.flat = true → vs.length = T.size → NilS T vs
  | .int _, _, _, _ | .bool, _, _, _ | .str, _, _, _ | .unit, _, _, _ => trivial
  | .ext _, _, h, _ => by simp [Ty.flat] at h
  | .slice _, _, h, _ => by simp [Ty.flat] at h
  | .one a, vs, h, hl => flatNil a vs h hl
  | .pair a b, vs, h, hl => by
    simp only [Ty.flat] at h
    split at h
    · rename_i ha
      have hl' : vs.length = a.size + b.size := hl
      exact ⟨vs.take a.size, vs.drop a.size, (List.take_append_drop _ _).symm, by rw [List.length_take]; omega, flatNil a _ ha (by rw [List.length_take]; omega), flatNil b _ h (by rw [List.length_drop]; omega)⟩
    · cases h
theorem zagOk_cases {E : Env} {t : Nat} {T : Ty} {d : Option Nat} {parts : List (Nat × Operand)} (h : zagOk E t T d parts = true) : zok T = true ∧ (parts = [] ∨ ∃ p a b, parts = [(0, p)] ∧ T = .pair a b ∧ a.flat = true) := by
  unfold zagOk at h
  split at h
  · cases h
  · split at h
    · cases h
    · rename_i hb
      simp only [Bool.and_eq_true] at hb
      refine ⟨hb.2, ?_⟩
      split at h
      · exact .inl rfl
      · rename_i p a b; exact .inr ⟨p, a, b, rfl, rfl, h⟩
      · cases h
theorem zag_nil (hX : X.OK) (hr : HR X S w st.objs own) {T : Ty} {place : Nat → Option (Nat × Nat)} (hplace : ∀ f off F, fieldTy T f = some (off, F) → place f = some (off, F.size)) {ps : List (Nat × AV)} {vs : List (Nat × Value)} {x : T.den} {cs cs' : List Value} (hz : zok T = true)
    (hcase : ps = [] ∨ ∃ v a b, ps = [(0, v)] ∧ T = .pair a b ∧ a.flat = true) (hx : setFields st.objs T ps T.zero = some x) (h0 : isZero T cs = some []) (hl : ps.length = vs.length)
    (hall : ∀ (i : Nat) (p : Nat × AV) (q : Nat × Value), ps[i]? = some p → vs[i]? = some q → p.1 = q.1 ∧ VR X w (okS S w own) own p.2 q.2) (hf : Instr.fill place cs.toArray vs = some cs'.toArray) : NilS T cs' := by
  rcases hcase with rfl | ⟨v, a, b, rfl, rfl, hfl⟩
  · have : vs = [] := List.eq_nil_of_length_eq_zero (by simpa using hl.symm)
    subst this
    have e : cs.toArray = cs'.toArray := Option.some.inj hf
    have e : cs = cs' := by simpa using e
    subst e
    obtain ⟨v1, e1, _, n1⟩ := isZero_nil T _ _ h0 hz
    rw [e1, List.append_nil]; exact n1
  · match vs, hl with
    | [(g, u)], _ =>
      have h1 := hall 0 _ _ rfl rfl
      have hg : 0 = g := h1.1
      subst hg
      simp only [setFields, fieldTy] at hx
      split at hx
      · rename_i y hy
        have hu := readS_rep hX hr hy h1.2
        have hul := Rep.len w _ _ _ _ hu
        simp only [isZero] at h0
        simp only [zok] at hz
        split at hz
        · rename_i hza
          split at h0
          · rename_i r1 hr1
            obtain ⟨va, e1, l1, _⟩ := isZero_nil a _ _ hr1 hza
            obtain ⟨vb, e2, l2, n2⟩ := isZero_nil b _ _ h0 hz
            rw [List.append_nil] at e2
            subst e2
            have key := fill_one place [] va r1 u.cells.toList 0 u [] (by rw [hplace 0 0 a rfl, hul]; rfl) rfl (by rw [l1, hul])
            rw [List.nil_append, ← e1, hf] at key
            have e : (cs' : List Value).toArray = (u.cells.toList ++ r1).toArray := Option.some.inj key
            have e : cs' = u.cells.toList ++ r1 := by simpa using congrArg Array.toList e
            rw [e]
            exact ⟨_, _, rfl, hul, flatNil a _ hfl hul, n2⟩
          · cases h0
        · cases hz
      · cases hx
theorem sv_build (hX : X.OK) (hE : tysOK P E.tys = true) (hr : HR X S w st.objs own) (ht : TR X w (okS S w own) own st.tmps a.tmps) {t : TypeId} {parts : Array (Nat × Operand)} (ho : o.op = .build t parts)
    (h : opS E o st k = some r) : SVk X P S w own o a k r := by
  have he : execOp a.eval o = (do pure (.value (← Instr.build t (parts.map fun (i, x) => (i, a.eval x))))) := by simp only [execOp, ho]
  simp only [opS, ho] at h
  split at h
  · rename_i ti hti
    obtain ⟨d, i, a1, a2, a3, a4, a5⟩ := (TIok.of_tys hE hti).ex
    split at h
    · rename_i x hx
      split at h
      · rename_i hagg
        have hfs : ∃ fs, d = .struct fs ∧ fieldsOK P ti.T 0 fs.toList = true := by
          cases hT : ti.T <;> rw [hT] at hagg a3 <;> (try simp [Ty.isAgg] at hagg) <;> cases d <;> simp_all [descOK]
        obtain ⟨fs, rfl, hfs⟩ := hfs
        rcases a5 with ⟨j, hj⟩ | ⟨z, hz, hzz, _⟩
        · rw [hj] at hagg; cases hagg
        · obtain ⟨v1, e1, hz0⟩ := isZero_rep (X := X) w (okS S w own) _ _ _ hzz
          rw [List.append_nil] at e1
          obtain ⟨places, q1, q2⟩ := places_of _ _ _ hfs
          obtain ⟨cs', p1, p2⟩ := setFields_fill (place := fun f => places[f]?) hX hr (fun f off F hf => by simpa using q2 f off F hf) _ (parts.toList.map fun p => (p.1, a.eval p.2)) _ _ _ hx hz0 (by simp)
            (fun i p q hp hq => by
              rw [List.getElem?_map] at hp hq
              cases hi : parts.toList[i]? with
              | none => rw [hi] at hp; cases hp
              | some u =>
                rw [hi] at hp hq
                cases hp; cases hq
                exact ⟨rfl, opd_VR ht _⟩)
          rw [← e1] at p1
          have hb : P.built t (parts.map fun (i, x) => (i, a.eval x)).toList = some cs'.toArray := by
            unfold Program.built
            simp only [a2, a1, hz, q1]
            simpa using p1
          split at h
          · rename_i hzag
            obtain ⟨z1, z2⟩ := zagOk_cases hzag
            refine svk h he (v := .agg cs'.toArray) (run_build w t _ _ hb) ⟨hagg, cs', rfl, p2, ?_⟩
            refine zag_nil (place := fun f => places[f]?) hX hr (fun f off F hf => by simpa using q2 f off F hf) z1 (by
              rcases z2 with h0 | ⟨p, ta, tb, h1, h2, h3⟩
              · exact .inl (by rw [h0]; rfl)
              · exact .inr ⟨opd st p, ta, tb, by rw [h1]; rfl, h2, h3⟩) hx hzz (vs := parts.toList.map fun p => (p.1, a.eval p.2)) (by simp) ?_ p1
            intro i p q hp hq
            rw [List.getElem?_map] at hp hq
            cases hi : parts.toList[i]? with
            | none => rw [hi] at hp; cases hp
            | some u =>
              rw [hi] at hp hq
              cases hp; cases hq
              exact ⟨rfl, opd_VR ht _⟩
          · exact svk h he (v := .agg cs'.toArray) (run_build w t _ _ hb) ⟨hagg, cs', rfl, p2⟩
      · cases h
    · cases h
  · cases h
theorem ptrIds_sound : ∀ (avs : List AV) (vs : List Value) (l : List Nat), ptrIds avs = some l → avs.length = vs.length → (∀ (i : Nat) (av : AV) (v : Value), avs[i]? = some av → vs[i]? = some v → VR X w (okS S w own) own av v) →
    vs.length = l.length ∧ ∀ (j i : Nat) (u : Value), l[j]? = some i → vs[j]? = some u → ∃ (o : Own) (g : Nat), own[i]? = some o ∧ o.v = .pointer (some ⟨g, 0, none⟩) ∧ u = .pointer (some ⟨g, 0, none⟩)
  | [], [], l, h, _, _ => by cases h; exact ⟨rfl, by simp⟩
  | av :: avs, v :: vs, l, h, hl, hall => by
    unfold ptrIds at h
    split at h
    · rename_i e; cases e
    · rename_i i vs' e
      cases e
      split at h
      · rename_i l' hl'
        cases h
        obtain ⟨q1, q2⟩ := ptrIds_sound avs vs l' hl' (by simpa using hl) (fun i av v h1 h2 => hall (i + 1) av v (by simpa using h1) (by simpa using h2))
        refine ⟨by simp [q1], fun j i' u h1 h2 => ?_⟩
        cases j with
        | zero => cases h1; cases h2; exact hall 0 _ _ rfl rfl
        | succ j => exact q2 j i' u (by simpa using h1) (by simpa using h2)
      · cases h
    · cases h
  | [], _ :: _, _, _, hl, _ => by simp at hl
  | _ :: _, [], _, _, hl, _ => by simp at hl
theorem sv_makeFunc (ht : TR X w (okS S w own) own st.tmps a.tmps) {fn : Fn} {first caps : Array Operand} (ho : o.op = .makeFunc fn first caps)
    (h : opS E o st k = some r) : SVk X P S w own o a k r := by
  have he : execOp a.eval o = (do pure (.value (← Instr.makeFunc fn (first.map a.eval) (caps.map a.eval)))) := by simp only [execOp, ho]
  simp only [opS, ho] at h
  split at h
  · rename_i f l e3 hl
    obtain ⟨q1, q2⟩ := ptrIds_sound _ (caps.toList.map a.eval) l hl (by simp) (fun i av v h1 h2 => by
      rw [List.getElem?_map] at h1 h2
      cases hi : caps.toList[i]? with
      | none => rw [hi] at h1; cases h1
      | some u => rw [hi] at h1 h2; cases h1; cases h2; exact opd_VR ht _)
    have : first = #[] := by cases first; simp_all
    subst this
    exact svk h he (v := .func (.func _) #[] (caps.toList.map a.eval).toArray) (by cases caps; simp [Instr.makeFunc]) ⟨_, rfl, q1, q2⟩
  · cases h
theorem lenA_sound (hr : HR X S w st.objs own) {T : Ty} {av : AV} {v : Value} {n : Nat} {t : TypeId} {ti : TI} (hT : TIok P t ti) (h : lenA ti.T st.objs av = some n) (hv : VR X w (okS S w own) own av v) (ty : TypeId) :
    (Builtin.len_ #[t] ty #[v]).run P w = .ok (.int .i64 n) w := by
  obtain ⟨d, i, a1, a2, a3, _⟩ := hT.ex
  have slc : ∀ (e : Ty) (A : Option Addr) (m c : Nat), ti.T = .slice e → (Builtin.len_ #[t] ty #[.slice A m c]).run P w = .ok (.int .i64 m) w := by
    intro e A m c he
    rw [he] at a3
    have : ∃ te, d = .slice te := by cases d <;> simp_all [descOK]
    obtain ⟨te, rfl⟩ := this
    simp [Builtin.len_, run_underlying a1, goInt]
  cases av <;> simp only [lenA, reduceCtorEq] at h
  case str s =>
    split at h
    · rename_i e
      cases h
      rw [e] at a3
      have : d = .string := by cases d <;> simp_all [descOK]
      subst this
      simp only [VR] at hv
      rw [hv]
      simp [Builtin.len_, run_underlying a1, goInt]
    · cases h
  case nil =>
    split at h
    · rename_i e' e; cases h; simp only [VR] at hv; rw [hv]; exact slc _ _ _ _ e
    · cases h
  case sl e l =>
    split at h
    · rename_i e' e; cases h
      obtain ⟨A, c, ev, _⟩ := hv
      cases ev
      exact slc _ _ _ _ e
    · cases h
  case ref i =>
    split at h
    · rename_i e' e
      obtain ⟨oo, h1, h2⟩ := hv
      split at h
      · rename_i T' l hg
        cases h
        obtain ⟨o3, ho3, hor⟩ := hr.at (Ob.get_of hg (by simp))
        rw [h1] at ho3; cases ho3
        rw [h2 hor.1]
        obtain ⟨A, c, ev, _⟩ := RowAt.of_row hor
        rw [ev]; exact slc _ _ _ _ e
      · rename_i T' l hg
        cases h
        obtain ⟨o3, ho3, hor⟩ := hr.at (Ob.get_of hg (by simp))
        rw [h1] at ho3; cases ho3
        rw [h2 hor.2.1]
        obtain ⟨A, c, ev, _⟩ := RowAt.of_rep hor.2.2
        rw [ev]; exact slc _ _ _ _ e
      · cases h
    · cases h
theorem args1 {args : Array Operand} {x : AV} (h : args.toList.map (opd st) = [x]) : ∃ y, args = #[y] ∧ opd st y = x := by
  cases args with
  | mk l =>
    match l, h with
    | [y], h => simp at h; exact ⟨y, rfl, h⟩
theorem args2 {args : Array Operand} {x y : AV} (h : args.toList.map (opd st) = [x, y]) : ∃ u v, args = #[u, v] ∧ opd st u = x ∧ opd st v = y := by
  cases args with
  | mk l =>
    match l, h with
    | [u, v], h => simp at h; exact ⟨u, v, rfl, h.1, h.2⟩
theorem sv_builtin (hE : tysOK P E.tys = true) (hr : HR X S w st.objs own) (ht : TR X w (okS S w own) own st.tmps a.tmps) {b : Builtin} {args : Array Operand} {argTypes : Array TypeId} (ho : o.op = .call { callee := .builtin b, args, argTypes })
    (h : opS E o st k = some r) : SVk X P S w own o a k r := by
  simp only [opS, ho] at h
  split at h
  · rename_i v hv
    obtain ⟨y, rfl, hy⟩ := args1 hv
    split at h
    · rename_i t ht'
      have : argTypes = #[t] := by cases argTypes; simp_all
      subst this
      split at h
      · rename_i ti hti
        split at h
        · rename_i n hn
          have hvr := opd_VR ht y
          rw [hy] at hvr
          have := lenA_sound (T := ti.T) hr (TIok.of_tys hE hti) hn hvr o.type
          refine svkT (s := Builtin.len_ #[t] o.type #[a.eval y]) h ?_ this rfl
          simp [execOp, ho, resolve, invoke, builtin]
        · cases h
      · cases h
    · cases h
  · rename_i kd x kd' y hv
    obtain ⟨p, q, rfl, hp, hq⟩ := args2 hv
    have h1 := opd_VR ht p
    have h2 := opd_VR ht q
    rw [hp] at h1; rw [hq] at h2
    simp only [VR] at h1 h2
    refine svkT (s := Builtin.min_ argTypes o.type #[a.eval p, a.eval q]) h ?_ (by rw [h1, h2, run_min_int2]; rfl) rfl
    simp [execOp, ho, resolve, invoke, builtin]
  · rename_i kd x kd' y hv
    obtain ⟨p, q, rfl, hp, hq⟩ := args2 hv
    have h1 := opd_VR ht p
    have h2 := opd_VR ht q
    rw [hp] at h1; rw [hq] at h2
    simp only [VR] at h1 h2
    refine svkT (s := Builtin.max_ argTypes o.type #[a.eval p, a.eval q]) h ?_ (by rw [h1, h2, run_max_int2]; rfl) rfl
    simp [execOp, ho, resolve, invoke, builtin]
  · cases h
/-- WHAT ONLY READS: it yields the evaluator's value, in the world that it got. -/
theorem opS_sound (hX : X.OK) (hE : tysOK P E.tys = true) (hr : HR X S w st.objs own) (ht : TR X w (okS S w own) own st.tmps a.tmps) (h : opS E o st k = some r) : SVk X P S w own o a k r := by
  cases ho : o.op
  case move x => simp only [opS, ho] at h; exact ⟨_, h, a.eval x, by simp [execOp, ho], opdT_VR hE ht _ x⟩
  case assign x => simp only [opS, ho] at h; exact ⟨_, h, a.eval x, by simp [execOp, ho], opdT_VR hE ht _ x⟩
  case pick c x y =>
    have hc := opd_VR ht c
    have he : execOp a.eval o = (do pure (.value (← (do pure (if ← asBool (a.eval c) then a.eval x else a.eval y))))) := by simp [execOp, ho]
    simp only [opS, ho] at h
    split at h
    · rename_i b e
      rw [e] at hc; simp only [VR] at hc
      cases b with
      | true => exact svk h he (v := a.eval x) (by rw [hc]; simp [asBool]) (opd_VR ht x)
      | false => exact svk h he (v := a.eval y) (by rw [hc]; simp [asBool]) (opd_VR ht y)
    · cases h
  case load t x => exact sv_load hE hr ht ho h
  case nilCheck x => exact sv_nilCheck hr ht ho h
  case binOp op t x y yt => exact sv_binOp hX hE hr ht ho h
  case unOp op t x => exact sv_unOp ht ho h
  case convert s d x => exact sv_convert hE hr ht ho h
  case fieldAddr t x f => exact sv_fieldAddr hE hr ht ho h
  case field t x f => exact sv_field hE ht ho h
  case indexAddr t x i => exact sv_indexAddr hE hr ht ho h
  case index t x i => exact sv_index hE ht ho h
  case slice t x lo hi mx => exact sv_slice hX hE hr ht ho h
  case build t ps => exact sv_build hX hE hr ht ho h
  case extract x i => exact sv_extract ht ho h
  case makeFunc fn f c => exact sv_makeFunc ht ho h
  case call c =>
    obtain ⟨callee, args, argTypes⟩ := c
    cases callee with
    | builtin b => exact sv_builtin hE hr ht ho h
    | value f => simp [opS, ho] at h
    | invoke x m => simp [opS, ho] at h
  all_goals simp [opS, ho] at h
end
end Go.Proofs.YtgelkklendpeoaaGreat.AE

namespace Go.Proofs.YtgelkklendpeoaaGreat.AE
set_option linter.unusedVariables false
set_option linter.unusedSimpArgs false
open Go
set_option linter.unusedVariables false
set_option linter.unusedSimpArgs false

section
variable {X : ExtRep} {S : Nat → Prop} {P : Program} {E : Env} {w : World} {own : List Own} {st : St} {a : Act} {o : Oper}
/-- Only block 'g' has turned. -/
structure Turned (g : Nat) (w w' : World) : Prop where
  os : w'.os = w.os
  tape : w'.tape = w.tape
  output : w'.output = w.output
  size : w'.heap.size = w.heap.size
  blk : ∀ k, k ≠ g → w'.heap[k]? = w.heap[k]?
theorem Turned.refl (g : Nat) (w : World) : Turned g w w := ⟨rfl, rfl, rfl, rfl, fun _ _ => rfl⟩
theorem Turned.trans {g : Nat} {a b c : World} (h : Turned g a b) (k : Turned g b c) : Turned g a c :=
  ⟨k.os.trans h.os, k.tape.trans h.tape, k.output.trans h.output, k.size.trans h.size, fun i hi => (k.blk i hi).trans (h.blk i hi)⟩
theorem run_store_block (g off : Nat) (e : TypeId) (fr : Nat × Nat) : ∀ (ys : List Value) (i : Nat) (pre mid post : List Value) (w : World), w.heap[g]? = some (.cells (pre ++ mid ++ post).toArray e fr) →
    pre.length = off + i → mid.length = ys.length → (∀ j, j < (pre ++ mid ++ post).length → ¬ (fr.1 ≤ j ∧ j < fr.2)) → (∀ y ∈ ys, y.oneCell' = true) →
    ∃ w', (storeCells ⟨g, off, none⟩ ys i).run P w = .ok () w' ∧ w'.heap[g]? = some (.cells (pre ++ ys ++ post).toArray e fr) ∧ Turned g w w'
  | [], i, pre, mid, post, w, hg, hp, hm, hf, h1 => by
    have : mid = [] := List.eq_nil_of_length_eq_zero hm
    subst this
    exact ⟨w, rfl, hg, Turned.refl _ _⟩
  | y :: ys, i, pre, [], post, w, hg, hp, hm, hf, h1 => by simp at hm
  | y :: ys, i, pre, m :: mid, post, w, hg, hp, hm, hf, h1 => by
    have hcell : w.cell? ⟨g, off + i, none⟩ = some m := by
      rw [cell_of_row w g _ _ e fr hg, ← hp]; simp
    have hfz : w.frozen? ⟨g, off + i, none⟩ = false := by
      have := hf (off + i) (by simp; omega)
      simp only [World.frozen?, hg]
      rcases fr with ⟨lo, hi⟩
      simp only at this ⊢
      cases h2 : (decide (lo ≤ off + i) && decide (off + i < hi)) with
      | false => rfl
      | true => simp at h2; exact absurd h2 this
    have hset : (w.setCell ⟨g, off + i, none⟩ y).heap[g]? = some (.cells (((pre ++ [y]) ++ mid ++ post)).toArray e fr) := by
      simp only [World.setCell, Array.getElem?_modify, if_pos, hg, Option.map_some]
      simp [← hp]
    obtain ⟨w', r1, r2, r3⟩ := run_store_block g off e fr ys (i + 1) (pre ++ [y]) mid post _ hset (by simp [hp]; omega) (by simpa using hm) (fun j hj => hf j (by simp at hj ⊢; omega)) (fun z hz => h1 z (List.mem_cons_of_mem _ hz))
    refine ⟨w', ?_, by rw [r2]; simp, Turned.trans (b := w.setCell ⟨g, off + i, none⟩ y) ⟨rfl, rfl, rfl, by simp [World.setCell], fun k hk => Go.RowKit.Below.heap_setCell w ⟨g, off + i, none⟩ y k hk⟩ r3⟩
    rw [storeCells, Sem.run_bind, add_lit0, run_store P w _ y .plain (h1 y (by simp)), hcell]
    simp only [hfz]
    exact r1
/-- A new thing in a new block (some blocks of no one's may come too). -/
theorem new_ob (hX : X.OK) {objs : List Ob} (h : HR X S w objs own) (hS : ∀ b, w.heap.size ≤ b → S b) {w' : World} (hos : w'.os = w.os) (htp : w'.tape = w.tape) (hou : w'.output = w.output) (hsz : w.heap.size ≤ w'.heap.size)
    (hblk : ∀ b, b < w.heap.size → w'.heap[b]? = w.heap[b]?) (ob : Ob) (on : Own) (hbs : ∀ b ∈ on.bs, w.heap.size ≤ b ∧ b < w'.heap.size)
    (hor : ∀ ok' : Nat → Prop, (∀ b, okS S w own b → ok' b ∧ w'.heap[b]? = w.heap[b]?) → OR X w' ok' ob on) :
    HR X S w' (objs ++ [ob]) (own ++ [on]) ∧ Frm S w own w' (own ++ [on]) ∧ OwnLe own (own ++ [on]) := by
  have ge : ∀ i o', (own ++ [on])[i]? = some o' → own.length ≤ i → i = own.length ∧ o' = on := by
    intro i o' h1 h2
    have h3 := (List.getElem?_eq_some_iff.1 h1).1
    simp at h3
    have : i = own.length := by omega
    subst this
    simp at h1
    exact ⟨rfl, h1.symm⟩
  have key := h.changeF hX (w' := w') (objs' := objs ++ [ob]) (own' := own ++ [on]) hos htp hou (by simp [h.len]) (by simp) hsz (fun _ => False)
    (fun i hi _ => ⟨List.getElem?_append_left hi, List.getElem?_append_left (by rw [← h.len]; exact hi)⟩)
    (fun b hb _ => hblk b hb)
    (fun i o' b hi hc hb => by
      rcases hc with hc | hc
      · exact hc.elim
      · obtain ⟨_, rfl⟩ := ge i o' hi hc
        exact ⟨(hbs b hb).2, hS b (hbs b hb).1, .inl (hbs b hb).1⟩)
    (fun i j oi oj b hi hj hoi hoj _ _ => by
      rcases hi with hi | hi
      · exact hi.elim
      · rcases hj with hj | hj
        · exact hj.elim
        · rw [(ge i oi hoi hi).1, (ge j oj hoj hj).1])
    (fun hok i ob' o' hc hob ho' => by
      rcases hc with hc | hc
      · exact hc.elim
      · obtain ⟨rfl, rfl⟩ := ge i o' ho' hc
        rw [h.len] at hob
        simp at hob
        subst hob
        exact hor _ hok)
  exact ⟨key.1, key.2, fun i o' hi => ⟨o', by rw [List.getElem?_append_left (List.getElem?_eq_some_iff.1 hi).1]; exact hi, rfl, rfl, id⟩⟩
/-- What an operation has brought about. -/
structure WR (X : ExtRep) (P : Program) (S : Nat → Prop) (w : World) (own : List Own) (o : Oper) (a : Act) (objs' : List Ob) (av : AV) : Prop where
  ex : ∃ res v w' own', (execOp a.eval o).run P w = .ok res w' ∧ (res = .value v ∨ (res = .skip ∧ v = undef)) ∧ HR X S w' objs' own' ∧ Frm S w own w' own' ∧ OwnLe own own' ∧ VR X w' (okS S w' own') own' av v
abbrev WRk {R : Type} (X : ExtRep) (P : Program) (S : Nat → Prop) (w : World) (own : List Own) (o : Oper) (a : Act) (st : St) (k : St → Option R) (r : R) : Prop :=
  ∃ objs' av, k (({ st with objs := objs' } : St).put o.dst av) = some r ∧ WR X P S w own o a objs' av
variable {R : Type} {k : St → Option R} {r : R}
/-- One allocation of a thing. -/
theorem wr_newW (hX : X.OK) {objs : List Ob} {own1 : List Own} (h : HR X S w objs own1) (f1 : Frm S w own w own1) (l1 : OwnLe own own1) (hS : ∀ b, w.heap.size ≤ b → S b) {ob : Ob} {on : Own} {v : Value} {s : Sem Value} {w' : World} (he : execOp a.eval o = (do pure (.value (← s))))
    (hrun : s.run P w = .ok v w') (hos : w'.os = w.os) (htp : w'.tape = w.tape) (hou : w'.output = w.output) (hsz : w.heap.size ≤ w'.heap.size)
    (hblk : ∀ b, b < w.heap.size → w'.heap[b]? = w.heap[b]?) (hbs : ∀ b ∈ on.bs, w.heap.size ≤ b ∧ b < w'.heap.size)
    (hor : ∀ ok' : Nat → Prop, (∀ b, okS S w own1 b → ok' b ∧ w'.heap[b]? = w.heap[b]?) → OR X w' ok' ob on) {av : AV} (hv : ∀ ok' (ow : List Own), ow[objs.length]? = some on → VR X w' ok' ow av v) :
    WR X P S w own o a (objs ++ [ob]) av := by
  obtain ⟨q1, q2, q3⟩ := new_ob hX h hS hos htp hou hsz hblk ob on hbs hor
  refine ⟨_, v, w', _, by rw [he, Sem.run_bind, hrun]; rfl, .inl rfl, q1, f1.trans q2, l1.trans q3, hv _ _ ?_⟩
  rw [← h.len]
  simp
theorem wr_new (hX : X.OK) {objs : List Ob} {own1 : List Own} (h : HR X S w objs own1) (f1 : Frm S w own w own1) (l1 : OwnLe own own1) (hS : ∀ b, w.heap.size ≤ b → S b) {ob : Ob} {on : Own} {v : Value} {s : Sem Value} {w' : World} (he : execOp a.eval o = (do pure (.value (← s))))
    (hrun : s.run P w = .ok v w') (hos : w'.os = w.os) (htp : w'.tape = w.tape) (hou : w'.output = w.output) (hsz : w.heap.size ≤ w'.heap.size)
    (hblk : ∀ b, b < w.heap.size → w'.heap[b]? = w.heap[b]?) (hbs : ∀ b ∈ on.bs, w.heap.size ≤ b ∧ b < w'.heap.size)
    (hor : ∀ ok' : Nat → Prop, (∀ b, okS S w own1 b → ok' b ∧ w'.heap[b]? = w.heap[b]?) → OR X w' ok' ob on) {av : AV} (hv : ∀ ok' (ow : List Own), ow[objs.length]? = some on → VR X w' ok' ow av v)
    (hk : k (({ st with objs := objs ++ [ob] } : St).put o.dst av) = some r) : WRk X P S w own o a st k r :=
  ⟨_, _, hk, wr_newW hX h f1 l1 hS he hrun hos htp hou hsz hblk hbs hor hv⟩
theorem Sfresh {w0 : World} (hS : ∀ b, w0.heap.size ≤ b → S b) (h : w0.heap.size ≤ w.heap.size) : ∀ b, w.heap.size ≤ b → S b := fun b hb => hS b (by omega)
theorem zero_of (hE : tysOK P E.tys = true) {t : TypeId} {ti : TI} (ht : E.ti t = some ti) (w : World) (ok : Nat → Prop) : (∃ j, ti.T = .ext j) ∨ ∃ z, (zeroValue t).run P w = .ok z w ∧ Rep X w ok ti.T ti.T.zero z.cells.toList := by
  obtain ⟨d, i, a1, a2, a3, a4, a5⟩ := (TIok.of_tys hE ht).ex
  rcases a5 with a5 | ⟨z, hz, hzz, _⟩
  · exact .inl a5
  · obtain ⟨v1, e1, hz0⟩ := isZero_rep (X := X) w ok _ _ _ hzz
    rw [List.append_nil] at e1
    exact .inr ⟨z, by simp [zeroValue, typeInfo, a2, hz], by rw [e1]; exact hz0⟩
theorem wr_alloc (hX : X.OK) (hE : tysOK P E.tys = true) (hr : HR X S w st.objs own) (hS : ∀ b, w.heap.size ≤ b → S b) {t : TypeId} {ti : TI} (hti : E.ti t = some ti) (hne : ∀ j, ti.T ≠ .ext j) (ho : o.op = .alloc t)
    (hk : k (({ st with objs := st.objs ++ [.var ti.T ti.T.zero] } : St).put o.dst (.ptr st.objs.length 0)) = some r) : WRk X P S w own o a st k r := by
  have he : execOp a.eval o = (do pure (.value (← Instr.alloc t true (.tuple #[])))) := by simp only [execOp, ho]
  have hz : ∀ ok, ∃ z, (zeroValue t).run P w = .ok z w ∧ Rep X w ok ti.T ti.T.zero z.cells.toList := fun ok => (zero_of hE hti w ok).resolve_left (fun ⟨j, hj⟩ => hne j hj)
  obtain ⟨z, hz1, _⟩ := hz (fun _ => True)
  refine wr_new hX hr (Frm.refl ..) (OwnLe.refl _) hS (on := ⟨.pointer (some ⟨w.heap.size, 0, none⟩), [w.heap.size], true, 0⟩) (v := .pointer (some ⟨w.heap.size, 0, none⟩)) (w' := w.alloc (.cells z.cells t)) he ?_ rfl rfl rfl (by simp) (fun b hb => Go.RowKit.Below.heap_alloc w _ b hb) (by simp) ?_ ?_ hk
  · simp [Instr.alloc, hz1, newVar, newRow]
  · intro ok' hok
    obtain ⟨z', hz2, hz3⟩ := hz (okS S w own)
    rw [hz1] at hz2; cases hz2
    exact ⟨rfl, _, z.cells.toList, t, rfl, rfl, by rw [heap_alloc_new], Rep.mono hX hok _ _ _ hz3⟩
  · intro ok' ow how
    exact ⟨_, w.heap.size, how, rfl, rfl⟩
/-- Frozen, it is data that may be kept. -/
theorem freeze_rep (hX : X.OK) {objs : List Ob} (hr : HR X S w objs own) {T : Ty} {y : T.den} {av : AV} (hy : readDat objs T av = some y) :
    ∃ own1, HR X S w (freezeV objs av) own1 ∧ Frm S w own w own1 ∧ OwnLe own own1 ∧ own1.length = own.length ∧ ∀ v, VR X w (okS S w own) own av v → Rep X w (okS S w own1) T y v.cells.toList := by
  obtain ⟨own1, q1, q2, q3, q4⟩ := freezeV_step hX hr av
  refine ⟨own1, q1, q2, q3, q4, fun v hv => ?_⟩
  have hv1 : VR X w (okS S w own1) own1 av v := VR.mono hX q2.ok q3 av v hv
  have hy1 : readDat (freezeV objs av) T av = some y ∧ ∀ i e l, av = .ref i → Ob.get (freezeV objs av) i ≠ .row e l := by
    cases av <;> try exact ⟨hy, by simp⟩
    case ref i =>
      cases T <;> simp only [readDat, reduceCtorEq] at hy
      rename_i e
      have hin : i < objs.length := by
        rcases Nat.lt_or_ge i objs.length with h1 | h1
        · exact h1
        · rw [show Ob.get objs i = .dead by unfold Ob.get; rw [List.getD_eq_getElem?_getD, List.getElem?_eq_none h1]; rfl] at hy
          cases hy
      have hself : Ob.get (freezeV objs (.ref i)) i = freezeOb (Ob.get objs i) := by
        simp only [freezeV]
        generalize freezeOb (Ob.get objs i) = ob
        unfold Ob.get
        rw [List.getD_eq_getElem?_getD, List.getElem?_set_self hin]; rfl
      simp only [readDat]
      rw [hself]
      split at hy
      · rename_i e' l hg
        rw [hg]
        exact ⟨hy, fun i' e l ei => by cases ei; rw [hself, hg]; simp [freezeOb]⟩
      · rename_i e' l hg
        rw [hg]
        exact ⟨hy, fun i' e l ei => by cases ei; rw [hself, hg]; simp [freezeOb]⟩
      · cases hy
  exact readDat_rep hX q1 hy1.1 hv1 hy1.2
theorem wr_box (hX : X.OK) (hr : HR X S w st.objs own) (ht : TR X w (okS S w own) own st.tmps a.tmps) (hS : ∀ b, w.heap.size ≤ b → S b) {t : TypeId} {T : Ty} {x : Operand} {y : T.den} (hy : readDat st.objs T (opd st x) = some y) (ho : o.op = .box t x)
    (hk : k (({ st with objs := freezeV st.objs (opd st x) ++ [.var T y] } : St).put o.dst (.ptr st.objs.length 0)) = some r) : WRk X P S w own o a st k r := by
  have he : execOp a.eval o = (do pure (.value (← Instr.box t (a.eval x)))) := by simp only [execOp, ho]
  obtain ⟨own1, q1, q2, q3, q4, q5⟩ := freeze_rep hX hr hy
  have hrep := q5 _ (opd_VR ht x)
  have hlen : (freezeV st.objs (opd st x)).length = st.objs.length := by rw [← q1.len, q4, hr.len]
  refine wr_new hX q1 q2 q3 hS (on := ⟨.pointer (some ⟨w.heap.size, 0, none⟩), [w.heap.size], true, 0⟩) (v := .pointer (some ⟨w.heap.size, 0, none⟩)) (w' := w.alloc (.cells (a.eval x).cells t)) he ?_ rfl rfl rfl (by simp) (fun b hb => Go.RowKit.Below.heap_alloc w _ b hb) (by simp) ?_ ?_ (by rw [← hlen] at hk; exact hk)
  · simp [Instr.box, newVar, newRow]
  · intro ok' hok
    exact ⟨rfl, _, (a.eval x).cells.toList, t, rfl, rfl, by rw [heap_alloc_new], Rep.mono hX hok _ _ _ hrep⟩
  · intro ok' ow how
    exact ⟨_, w.heap.size, how, rfl, rfl⟩
theorem not_ext {T : Ty} (h : T.isExt = false) : ∀ j, T ≠ .ext j := by
  intro j e; subst e; cases h
theorem flat_get (zs : List Value) (s : Nat) (hs : zs.length = s) : ∀ (n i : Nat), i < n * s → (List.replicate n zs).flatten[i]? = zs[i % s]?
  | 0, i, h => by simp at h
  | n + 1, i, h => by
    rw [List.replicate_succ, List.flatten_cons]
    by_cases hi : i < s
    · rw [List.getElem?_append_left (by omega), Nat.mod_eq_of_lt hi]
    · rw [List.getElem?_append_right (by omega), hs, flat_get zs s hs n (i - s) (by rw [Nat.add_mul] at h; omega), ← Nat.mod_eq_sub_mod (by omega)]
theorem zeros_rep {ok : Nat → Prop} {e : Ty} {z : Value} (hz : Rep X w ok e e.zero z.cells.toList) (n m : Nat) (hnm : n ≤ m) (hpos : 0 < e.size) :
    RepL (Rep X w ok e) (List.replicate n e.zero) ((madeCells z.cells (m * e.size)).toList.take ((List.replicate n e.zero).length * e.size)) := by
  have hsz : z.cells.size = e.size := by have := Rep.len w ok _ _ _ hz; simpa using this
  have : (madeCells z.cells (m * e.size)).toList.take ((List.replicate n e.zero).length * e.size) = (List.replicate n z.cells.toList).flatten := by
    have hle : n * e.size ≤ m * e.size := Nat.mul_le_mul_right _ hnm
    apply List.ext_getElem?
    intro i
    rw [List.length_replicate, List.getElem?_take]
    by_cases hi : i < n * e.size
    · rw [if_pos hi, flat_get z.cells.toList e.size (by simpa using hsz) n i hi]
      have hm : i % e.size < z.cells.size := by rw [hsz]; exact Nat.mod_lt _ hpos
      simp only [madeCells, Array.toList_map, List.getElem?_map, Array.toList_range]
      rw [List.getElem?_range (by omega)]
      simp [hsz, hm]
      rw [getElem!_pos z.cells _ hm, Array.getElem?_eq_getElem hm]
    · rw [if_neg hi, List.getElem?_eq_none]
      simp [hsz]
      omega
  rw [this]
  exact RepL.replicate hz n
theorem wr_makeSlice (hX : X.OK) (hE : tysOK P E.tys = true) (hr : HR X S w st.objs own) (ht : TR X w (okS S w own) own st.tmps a.tmps) (hS : ∀ b, w.heap.size ≤ b → S b) {t : TypeId} {e : Ty} {b : Nat} {l c : Operand} {k1 k2 : IntKind} {n m : Int} (hti : E.ti t = some ⟨.slice e, b⟩)
    (hl : opd st l = .int k1 n) (hc : opd st c = .int k2 m) (hb : 0 ≤ n ∧ n ≤ m ∧ m * (b : Int) ≤ 140737488355328 ∧ m ≤ 140737488355328) (ho : o.op = .makeSlice t l c)
    (hk : k (({ st with objs := st.objs ++ [.row e (List.replicate n.toNat e.zero)] } : St).put o.dst (.ref st.objs.length)) = some r) : WRk X P S w own o a st k r := by
  have he : execOp a.eval o = (do pure (.value (← Instr.makeSlice t (a.eval l) (a.eval c)))) := by simp only [execOp, ho]
  obtain ⟨d, i, a1, a2, a3, _⟩ := (TIok.of_tys hE hti).ex
  cases d <;> simp only [descOK, Bool.false_eq_true] at a3
  rename_i te
  split at a3
  · rename_i ie hie
    simp only [Bool.and_eq_true, Nat.beq_eq] at a3
    obtain ⟨⟨⟨⟨⟨⟨b1, b2⟩, b3⟩, b4⟩, b5⟩, b6⟩, b7⟩ := a3
    split at b6
    · rename_i z hz
      split at b6
      · rename_i hzz
        have hpos : 0 < e.size := by simpa using b2
        have h1 := opd_VR ht l
        have h2 := opd_VR ht c
        rw [hl] at h1; rw [hc] at h2
        simp only [VR] at h1 h2
        have hrep : ∀ ok, Rep X w ok e e.zero z.cells.toList := fun ok => by
          obtain ⟨v1, e1, hz0⟩ := isZero_rep (X := X) w ok _ _ _ hzz
          rw [List.append_nil] at e1
          rw [e1]; exact hz0
        have hrun := run_make (P := P) w t te ie z a1 hie hz k1 k2 n m hb.1 hb.2.1 (by rw [b3]; have := hb.2.2.1; rw [Int.mul_comm]; omega) (by omega)
        rw [b1] at hrun
        refine wr_new hX hr (Frm.refl ..) (OwnLe.refl _) hS (on := ⟨.slice (some ⟨w.heap.size, 0, none⟩) n.toNat m.toNat, [w.heap.size], true, e.size⟩) he (by rw [h1, h2]; exact hrun) (w' := w.alloc (.cells (madeCells z.cells (m.toNat * e.size)) te)) rfl rfl rfl (by simp) (fun b hb => Go.RowKit.Below.heap_alloc w _ b hb) (by simp) ?_ ?_ hk
        · intro ok' hok
          refine ⟨rfl, rfl, hpos, .inr ⟨w.heap.size, m.toNat, _, (te, 0, 0), by simp, rfl, heap_alloc_new w _, by simp; omega, by simp [maxLen]; omega, by rw [size_madeCells], ?_, by simp⟩⟩
          exact (zeros_rep (hrep (okS S w own)) n.toNat m.toNat (by omega) hpos).imp (Rep.mono hX hok e)
        · intro ok' ow how
          exact ⟨_, how, fun _ => rfl⟩
      · cases b6
    · cases b6
  · cases a3
end
end Go.Proofs.YtgelkklendpeoaaGreat.AE

namespace Go.Proofs.YtgelkklendpeoaaGreat.AE
set_option linter.unusedVariables false
set_option linter.unusedSimpArgs false
open Go
set_option linter.unusedVariables false
set_option linter.unusedSimpArgs false

section
variable {X : ExtRep} {S : Nat → Prop} {P : Program} {E : Env} {w : World} {own : List Own} {st : St} {a : Act} {o : Oper} {R : Type} {k : St → Option R} {r : R}
theorem readDat_freeze (os : List Ob) (av' : AV) : ∀ (T : Ty) (av : AV), readDat (freezeV os av') T av = readDat os T av := by
  intro T av
  cases av' <;> try rfl
  case ref j =>
    cases T <;> cases av <;> try rfl
    case slice.ref e i =>
      simp only [readDat, freezeV]
      by_cases hij : j = i
      · subst hij
        by_cases hin : j < os.length
        · have : Ob.get (os.set j (freezeOb (Ob.get os j))) j = freezeOb (Ob.get os j) := by
            generalize freezeOb (Ob.get os j) = ob
            unfold Ob.get
            rw [List.getD_eq_getElem?_getD, List.getElem?_set_self hin]; rfl
          rw [this]
          cases Ob.get os j <;> rfl
        · rw [List.set_eq_of_length_le (Nat.le_of_not_lt hin)]
      · have : Ob.get (os.set j (freezeOb (Ob.get os j))) i = Ob.get os i := by
          generalize freezeOb (Ob.get os j) = ob
          unfold Ob.get
          rw [List.getD_eq_getElem?_getD, List.getD_eq_getElem?_getD, List.getElem?_set_ne hij]
        rw [this]
theorem freezeAll_rep (hX : X.OK) : ∀ (avs : List AV) {objs : List Ob} {own : List Own}, HR X S w objs own →
    ∃ own1, HR X S w (freezeAll objs avs) own1 ∧ Frm S w own w own1 ∧ OwnLe own own1 ∧ own1.length = own.length ∧
      ∀ av ∈ avs, ∀ (T : Ty) (y : T.den) (v : Value), readDat objs T av = some y → VR X w (okS S w own) own av v → Rep X w (okS S w own1) T y v.cells.toList
  | [], objs, own, h => ⟨own, h, Frm.refl .., OwnLe.refl _, rfl, by simp⟩
  | av :: avs, objs, own, h => by
    obtain ⟨o1, a1, a2, a3, a4⟩ := freezeV_step hX h av
    obtain ⟨o2, b1, b2, b3, b4, b5⟩ := freezeAll_rep hX avs a1
    refine ⟨o2, b1, a2.trans b2, a3.trans b3, b4.trans a4, ?_⟩
    intro av' hav T y v hy hv
    rcases List.mem_cons.1 hav with rfl | hm
    · -- frozen now, as it stays
      obtain ⟨o1', c1, c2, c3, c4, c5⟩ := freeze_rep hX h hy
      have hy1 : readDat (freezeV objs av') T av' = some y := by rw [readDat_freeze]; exact hy
      have hnr : ∀ i e l, av' = .ref i → Ob.get (freezeV objs av') i ≠ .row e l := by
        intro i e l ei
        subst ei
        by_cases hin : i < objs.length
        · have : Ob.get (freezeV objs (.ref i)) i = freezeOb (Ob.get objs i) := by
            simp only [freezeV]
            generalize freezeOb (Ob.get objs i) = ob
            unfold Ob.get
            rw [List.getD_eq_getElem?_getD, List.getElem?_set_self hin]; rfl
          rw [this]
          cases Ob.get objs i <;> simp [freezeOb]
        · simp only [freezeV]
          rw [List.set_eq_of_length_le (Nat.le_of_not_lt hin)]
          unfold Ob.get
          rw [List.getD_eq_getElem?_getD, List.getElem?_eq_none (Nat.le_of_not_lt hin)]
          simp
      have h1 := readDat_rep hX a1 hy1 (VR.mono hX a2.ok a3 av' v hv) hnr
      exact Rep.mono hX b2.ok T y _ h1
    · exact b5 av' hm T y v (by rw [readDat_freeze]; exact hy) (VR.mono hX a2.ok a3 av' v hv)
theorem listSets_fill {ok : Nat → Prop} {objs : List Ob} {e : Ty} : ∀ (ps : List (Nat × AV)) (vs : List (Nat × Value)) (l l' : List e.den) (cs : List Value), listSets objs e ps l = some l' → RepL (Rep X w ok e) l cs →
    ps.length = vs.length → (∀ (i : Nat) (p : Nat × AV) (q : Nat × Value), ps[i]? = some p → vs[i]? = some q → p.1 = q.1 ∧ ∀ y, readDat objs e p.2 = some y → Rep X w ok e y q.2.cells.toList) →
    ∃ cs', Instr.fill (fun i => some (i * e.size, e.size)) cs.toArray vs = some cs'.toArray ∧ RepL (Rep X w ok e) l' cs' ∧ l'.length = l.length
  | [], [], l, l', cs, h, hr, _, _ => by
    simp only [listSets, Option.some.injEq] at h
    subst h
    exact ⟨cs, rfl, hr, rfl⟩
  | (f, v) :: ps, (g, u) :: vs, l, l', cs, h, hr, hl, hall => by
    simp only [listSets] at h
    split at h
    · rename_i y hy
      split at h
      · rename_i hb
        have h0 := hall 0 (f, v) (g, u) rfl rfl
        have hu := h0.2 y hy
        have hlt : f < l.length := by simpa using hb
        have hlen := RepL.len (fun x vs => Rep.len w ok e x vs) hr
        have hle : f * e.size + e.size ≤ cs.length := by
          rw [hlen, show f * e.size + e.size = (f + 1) * e.size by rw [Nat.add_mul]; omega]
          exact Nat.mul_le_mul_right _ hlt
        have hset := RepL.set (fun x vs => Rep.len w ok e x vs) hu f hr hlt
        obtain ⟨cs', q1, q2, q3⟩ := listSets_fill ps vs _ l' _ h hset (by simpa using hl) (fun i p q hp hq => hall (i + 1) p q (by simpa using hp) (by simpa using hq))
        refine ⟨cs', ?_, q2, by simpa using q3⟩
        have hfg : f = g := h0.1
        subst hfg
        have hcs : cs = cs.take (f * e.size) ++ (cs.drop (f * e.size)).take e.size ++ cs.drop (f * e.size + e.size) := by
          rw [List.append_assoc, ← List.drop_drop, List.take_append_drop, List.take_append_drop]
        have hul := Rep.len w ok _ _ _ hu
        have hpre : (cs.take (f * e.size)).length = f * e.size := by rw [List.length_take]; omega
        have := fill_one (fun i => some (i * e.size, e.size)) (cs.take (f * e.size)) ((cs.drop (f * e.size)).take e.size) (cs.drop (f * e.size + e.size)) _ f u vs (by simp only [hpre, hul]) rfl (by rw [hul, List.length_take, List.length_drop]; omega)
        rw [← hcs] at this
        rw [this]
        exact q1
      · cases h
    · cases h
  | [], _ :: _, _, _, _, _, _, hl, _ => by simp at hl
  | _ :: _, [], _, _, _, _, _, hl, _ => by simp at hl
theorem slice_info (hE : tysOK P E.tys = true) {t : TypeId} {e : Ty} {b : Nat} (hti : E.ti t = some ⟨.slice e, b⟩) (w : World) (ok : Nat → Prop) :
    ∃ te ie z, P.underlying t = some (.slice te) ∧ P.info? te = some ie ∧ ie.size = e.size ∧ 0 < e.size ∧ ie.bytes = b ∧ 0 < b ∧ e.size ≤ b ∧ ie.zero = some z ∧ Rep X w ok e e.zero z.cells.toList ∧ (e = .int .u8 → P.underlying te = some (.int .u8)) := by
  obtain ⟨d, i, a1, a2, a3, _⟩ := (TIok.of_tys hE hti).ex
  cases d <;> simp only [descOK, Bool.false_eq_true] at a3
  rename_i te
  split at a3
  · rename_i ie hie
    simp only [Bool.and_eq_true, Nat.beq_eq] at a3
    obtain ⟨⟨⟨⟨⟨⟨b1, b2⟩, b3⟩, b4⟩, b5⟩, b6⟩, b7⟩ := a3
    split at b6
    · rename_i z hz
      split at b6
      · rename_i hzz
        obtain ⟨v1, e1, hz0⟩ := isZero_rep (X := X) w ok _ _ _ hzz
        rw [List.append_nil] at e1
        refine ⟨te, ie, z, a1, hie, b1, by simpa using b2, b3, by simpa using b4, by simpa using b5, hz, by rw [e1]; exact hz0, ?_⟩
        intro he
        rw [he] at b7
        split at b7
        · rename_i k hk
          cases hk
          split at b7
          · rename_i k' hk'; simp at b7; rw [hk', b7]
          · cases b7
        · rename_i hk; exact absurd rfl (hk .u8)
      · cases b6
    · cases b6
  · cases a3
theorem wr_buildSliceW (hX : X.OK) (hE : tysOK P E.tys = true) (hr : HR X S w st.objs own) (ht : TR X w (okS S w own) own st.tmps a.tmps) (hS : ∀ b, w.heap.size ≤ b → S b) {t : TypeId} {e : Ty} {b len : Nat} {parts : Array (Nat × Operand)} {l : List e.den} (hti : E.ti t = some ⟨.slice e, b⟩)
    (hl : listSets st.objs e (parts.toList.map fun p => (p.1, opd st p.2)) (List.replicate len e.zero) = some l) (hb : len * e.size ≤ 16777216) (ho : o.op = .buildSlice t len parts) :
    WR X P S w own o a (freezeAll st.objs (parts.toList.map fun p => opd st p.2) ++ [.row e l]) (.ref st.objs.length) := by
  have he : execOp a.eval o = (do pure (.value (← Instr.buildSlice t len (parts.map fun (i, x) => (i, a.eval x))))) := by simp only [execOp, ho]
  obtain ⟨own1, q1, q2, q3, q4, q5⟩ := freezeAll_rep hX (parts.toList.map fun p => opd st p.2) hr
  obtain ⟨te, ie, z, a1, a2, a3, a4, a5, a6, a7, a8, a9, _⟩ := slice_info (X := X) hE hti w (okS S w own1)
  have hz0 : RepL (Rep X w (okS S w own1) e) (List.replicate len e.zero) (madeCells z.cells (len * e.size)).toList := by
    have := zeros_rep a9 len len (Nat.le_refl _) a4
    rwa [List.take_of_length_le (by simp [size_madeCells])] at this
  obtain ⟨cs', p1, p2, p3⟩ := listSets_fill (X := X) _ (parts.toList.map fun p => (p.1, a.eval p.2)) _ _ _ hl hz0 (by simp) (fun i p q hp hq => by
    rw [List.getElem?_map] at hp hq
    cases hi : parts.toList[i]? with
    | none => rw [hi] at hp; cases hp
    | some u =>
      rw [hi] at hp hq
      cases hp; cases hq
      refine ⟨rfl, fun y hy => q5 _ (List.mem_map.2 ⟨u, List.mem_of_getElem? hi, rfl⟩) e y _ hy (opd_VR ht _)⟩)
  have hlen : (freezeAll st.objs (parts.toList.map fun p => opd st p.2)).length = st.objs.length := by rw [← q1.len, q4, hr.len]
  have hll : l.length = len := by rw [p3, List.length_replicate]
  have hcs : cs'.length = len * e.size := by rw [RepL.len (fun x vs => Rep.len w _ e x vs) p2, hll]
  rw [← hlen]
  refine wr_newW hX q1 q2 q3 hS (on := ⟨.slice (some ⟨w.heap.size, 0, none⟩) len len, [w.heap.size], true, e.size⟩) (v := .slice (some ⟨w.heap.size, 0, none⟩) len len) (w' := w.alloc (.cells cs'.toArray te)) he ?_ rfl rfl rfl (by simp) (fun b hb => Go.RowKit.Below.heap_alloc w _ b hb) (by simp) ?_ ?_
  · have hzc : (Array.range (len * e.size)).map (z.cells[· % z.cells.size]!) = madeCells z.cells (len * e.size) := rfl
    have p1' : Instr.fill (fun i => some (i * e.size, e.size)) (madeCells z.cells (len * e.size)) (parts.toList.map fun p => (p.1, a.eval p.2)) = some cs'.toArray := by simpa using p1
    have hnb : ¬ 16777216 < len * e.size := by omega
    by_cases hn : len * e.size = 0
    · simp [Instr.buildSlice, run_underlying a1, sizeOf, typeInfo, a2, a3, hn]
      rw [show Array.map (fun (_ : Nat) => (default : Value)) (Array.range 0) = madeCells z.cells (len * e.size) by rw [hn]; simp [madeCells], p1']
      simp [newRow]
    · simp [Instr.buildSlice, run_underlying a1, sizeOf, typeInfo, zeroValue, a2, a3, a8, hnb, hn]
      rw [hzc, p1']
      simp [newRow]
  · intro ok' hok
    refine ⟨rfl, rfl, a4, .inr ⟨w.heap.size, len, cs'.toArray, (te, 0, 0), by rw [hll], rfl, heap_alloc_new w _, by omega, ?_, by simp [hcs], ?_, by simp⟩⟩
    · have := Nat.le_mul_of_pos_right len a4
      simp [maxLen]; omega
    · rw [hll, List.take_of_length_le (by simp [hcs])]
      exact p2.imp (Rep.mono hX hok e)
  · intro ok' ow how
    exact ⟨_, how, fun _ => rfl⟩
theorem wr_buildSlice (hX : X.OK) (hE : tysOK P E.tys = true) (hr : HR X S w st.objs own) (ht : TR X w (okS S w own) own st.tmps a.tmps) (hS : ∀ b, w.heap.size ≤ b → S b) {t : TypeId} {e : Ty} {b len : Nat} {parts : Array (Nat × Operand)} {l : List e.den} (hti : E.ti t = some ⟨.slice e, b⟩)
    (hl : listSets st.objs e (parts.toList.map fun p => (p.1, opd st p.2)) (List.replicate len e.zero) = some l) (hb : len * e.size ≤ 16777216) (ho : o.op = .buildSlice t len parts)
    (hk : k (({ st with objs := freezeAll st.objs (parts.toList.map fun p => opd st p.2) ++ [.row e l] } : St).put o.dst (.ref st.objs.length)) = some r) : WRk X P S w own o a st k r :=
  ⟨_, _, hk, wr_buildSliceW hX hE hr ht hS hti hl hb ho⟩
end
end Go.Proofs.YtgelkklendpeoaaGreat.AE

namespace Go.Proofs.YtgelkklendpeoaaGreat.AE
set_option linter.unusedVariables false
set_option linter.unusedSimpArgs false
open Go
set_option linter.unusedVariables false
set_option linter.unusedSimpArgs false

section
variable {X : ExtRep} {S : Nat → Prop} {P : Program} {E : Env} {w : World} {own : List Own} {st : St} {a : Act} {o : Oper} {R : Type} {k : St → Option R} {r : R}
/-- What is appended: its cells, read in any world of this heap. -/
structure Src (P : Program) (w : World) (size : Nat) (xt : TypeId) (x : Value) (m : Nat) (news : List Value) : Prop where
  ty : ∃ d, P.underlying xt = some d ∧ ∀ k, d ≠ .int k
  len : ∀ W, (Builtin.lenOf x).run P W = .ok m W
  first : ∀ W, W.heap = w.heap → (Builtin.firstCells size m x).run P W = .ok news.toArray W
  num : news.length = m * size
  one : ∀ y ∈ news, y.oneCell' = true
theorem notInt {d : TypeDesc} (h : ∀ k, d ≠ .int k) : (d matches .int _) = false := by
  cases d <;> first | rfl | exact absurd rfl (h _)
theorem run_append_room' {t xt ty te : TypeId} {ie : TypeInfo} {x : Value} {m : Nat} {news : List Value} (a1 : P.underlying t = some (.slice te)) (a2 : P.info? te = some ie) (hs : Src P w ie.size xt x m news)
    (g n c : Nat) (cs : List Value) (e' : TypeId) (fr : Nat × Nat) (hg : w.heap[g]? = some (.cells cs.toArray e' fr)) (hfr : ∀ j, j < cs.length → ¬ (fr.1 ≤ j ∧ j < fr.2)) (hroom : n + m ≤ c) (hcs : cs.length = c * ie.size) :
    ∃ w', (Builtin.append_ #[t, xt] ty #[.slice (some ⟨g, 0, none⟩) n c, x]).run P w = .ok (.slice (some ⟨g, 0, none⟩) (n + m) c) w' ∧
      w'.heap[g]? = some (.cells (cs.take (n * ie.size) ++ news ++ cs.drop (n * ie.size + news.length)).toArray e' fr) ∧ Turned g w w' := by
  obtain ⟨d, hd, hdi⟩ := hs.ty
  have hle : n * ie.size + news.length ≤ cs.length := by rw [hs.num, hcs, ← Nat.add_mul]; exact Nat.mul_le_mul_right _ hroom
  have hsplit : cs = cs.take (n * ie.size) ++ (cs.drop (n * ie.size)).take news.length ++ cs.drop (n * ie.size + news.length) := by
    rw [List.append_assoc, ← List.drop_drop, List.take_append_drop, List.take_append_drop]
  obtain ⟨w', r1, r2, r3⟩ := run_store_block (P := P) g (n * ie.size) e' fr news 0 (cs.take (n * ie.size)) ((cs.drop (n * ie.size)).take news.length) (cs.drop (n * ie.size + news.length)) w (by rw [← hsplit]; exact hg)
    (by rw [List.length_take]; omega) (by rw [List.length_take, List.length_drop]; omega) (by rw [← hsplit]; exact hfr) hs.one
  refine ⟨w', ?_, r2, r3⟩
  have hadd : (⟨g, 0, none⟩ : Addr).add (n * ie.size) = ⟨g, n * ie.size, none⟩ := by rw [add_lit0]; simp
  simp [Builtin.append_, run_underlying a1, run_underlying hd, notInt hdi, sizeOf, typeInfo, a2, hs.len, hroom, hs.first w rfl, hadd, r1]
theorem run_append_new' {t xt ty te : TypeId} {ie : TypeInfo} {z x : Value} {m : Nat} {news : List Value} (a1 : P.underlying t = some (.slice te)) (a2 : P.info? te = some ie) (a3 : ie.zero = some z) (hs : Src P w ie.size xt x m news)
    (A : Option Addr) (n c : Nat) (olds : List Value) (hold : ∀ W, W.heap = w.heap → (Builtin.firstCells ie.size n (.slice A n c)).run P W = .ok olds.toArray W) (hg : c < n + m) (hb : 0 < ie.bytes) (h63 : n + m ≤ 140737488355328) (hfit : (n + m) * ie.bytes ≤ 140737488355328) :
    (Builtin.append_ #[t, xt] ty #[.slice A n c, x]).run P w =
      .ok (.slice (some ⟨w.heap.size, 0, none⟩) (n + m) (grownCap w (n + m) c te)) (w.drew.alloc (.cells (olds.toArray ++ news.toArray ++ Builtin.zeroCells z.cells (grownCap w (n + m) c te - (n + m))) te)) := by
  obtain ⟨d, hd, hdi⟩ := hs.ty
  have hn : ¬ (n + m ≤ c) := by omega
  have h48 := growslice_fits (old := c) (need := n + m) (bytes := ie.bytes) (by omega) hfit
  have h63' : ¬ (9223372036854775807 < ((n : Int) + (m : Int))) := by omega
  have h48' : ¬ (281474976710656 < Builtin.nextslicecap (n + m) c * ie.bytes) := by omega
  simp [Builtin.append_, run_underlying a1, run_underlying hd, notInt hdi, sizeOf, typeInfo, zeroValue, a2, a3, hs.len, hn, h63', h48', Question.forced, hs.first w.drew rfl, hold w.drew rfl, newRow, grownCap]
  congr 2
  apply Array.ext'
  simp [List.append_assoc]
theorem Src.ofRow {t xt te : TypeId} {e : Ty} {b : Nat} {l : List e.den} {v : Value} (hX : X.OK) (hxt : P.underlying xt = some (.slice te)) (h : RowAt X w (okS S w own) e l v) :
    ∃ news, Src P w e.size xt v l.length news ∧ RepL (Rep X w (okS S w own) e) l news := by
  obtain ⟨A, c, rfl, h1, h2, h3⟩ := h
  rcases h3 with rfl | ⟨g, off, cs, rfl, hb, hc, hr⟩
  · refine ⟨[], ⟨⟨_, hxt, by simp⟩, fun W => rfl, fun W hW => ?_, by simp, by simp⟩, rfl⟩
    cases A with
    | none => rfl
    | some ad => simp [Builtin.firstCells, loadCells, loadCellsFrom]
  · have hl := RepL.len (fun x vs => Rep.len w _ e x vs) hr
    refine ⟨cs, ⟨⟨_, hxt, by simp⟩, fun W => rfl, fun W hW => ?_, hl, RepL.one (fun x vs => Rep.one hX e x vs) hr⟩, hr⟩
    refine run_firstCells_some (P := P) W e.size l.length ⟨g, off, none⟩ _ c cs hl (fun j v hv => ?_)
    rw [add_lit0, World.cell?_of_block (w := w) (w' := W) (by rw [hW])]
    exact hc j v hv
theorem repL_map {ok : Nat → Prop} : ∀ l : List Int, RepL (Rep X w ok (.int .u8)) l (l.map (Value.int .u8))
  | [] => rfl
  | n :: l => ⟨[Value.int .u8 n], _, rfl, rfl, repL_map l⟩
theorem Src.ofStr {xt : TypeId} (hxt : P.underlying xt = some .string) (s : ByteArray) : ∃ news, Src P w 1 xt (.string s) s.size news ∧ RepL (Rep X w (okS S w own) (.int .u8)) (strBytes s) news := by
  refine ⟨Lib.strCells s, ⟨⟨_, hxt, by simp⟩, fun W => rfl, fun W hW => Lib.run_firstCells_string (P := P) W 1 s, by simp [Lib.strCells_length], Lib.strCells_oneCell s⟩, ?_⟩
  have : Lib.strCells s = (strBytes s).map (Value.int .u8) := by simp [Lib.strCells, strBytes]
  rw [this]
  exact repL_map _
end
end Go.Proofs.YtgelkklendpeoaaGreat.AE

namespace Go.Proofs.YtgelkklendpeoaaGreat.AE
set_option linter.unusedVariables false
set_option linter.unusedSimpArgs false
open Go
set_option linter.unusedVariables false
set_option linter.unusedSimpArgs false

section
variable {X : ExtRep} {S : Nat → Prop} {P : Program} {E : Env} {w : World} {own : List Own} {st : St} {a : Act} {o : Oper} {R : Type} {k : St → Option R} {r : R}
theorem move_ob (hX : X.OK) {objs : List Ob} (h : HR X S w objs own) (hS : ∀ b, w.heap.size ≤ b → S b) {i : Nat} {oi : Own} (hoi : own[i]? = some oi) {w' : World} (hos : w'.os = w.os) (htp : w'.tape = w.tape) (hou : w'.output = w.output) (hsz : w.heap.size ≤ w'.heap.size)
    (hblk : ∀ b, b < w.heap.size → b ∉ oi.bs → w'.heap[b]? = w.heap[b]?) (ob : Ob) (on : Own) (hbs : ∀ b ∈ on.bs, b < w'.heap.size ∧ (w.heap.size ≤ b ∨ b ∈ oi.bs))
    (hor : ∀ ok' : Nat → Prop, (∀ b, okS S w own b → ok' b ∧ w'.heap[b]? = w.heap[b]?) → OR X w' ok' ob on) :
    HR X S w' (objs.set i .dead ++ [ob]) (own.set i ⟨oi.v, [], false, oi.sz⟩ ++ [on]) ∧ Frm S w own w' (own.set i ⟨oi.v, [], false, oi.sz⟩ ++ [on]) ∧ OwnLe own (own.set i ⟨oi.v, [], false, oi.sz⟩ ++ [on]) := by
  have hlo : i < own.length := (List.getElem?_eq_some_iff.1 hoi).1
  have hlj : i < objs.length := by rw [← h.len]; exact hlo
  have at_ : ∀ j o', (own.set i ⟨oi.v, [], false, oi.sz⟩ ++ [on])[j]? = some o' → (j = i ∨ own.length ≤ j) → (j = i ∧ o' = ⟨oi.v, [], false, oi.sz⟩) ∨ (j = own.length ∧ o' = on) := by
    intro j o' h1 h2
    rcases h2 with rfl | h2
    · rw [List.getElem?_append_left (by simp [hlo]), List.getElem?_set_self hlo] at h1
      cases h1; exact .inl ⟨rfl, rfl⟩
    · have h3 := (List.getElem?_eq_some_iff.1 h1).1
      simp at h3
      have : j = own.length := by omega
      subst this
      rw [List.getElem?_append_right (by simp)] at h1
      simp at h1
      exact .inr ⟨rfl, h1.symm⟩
  have key := h.changeF hX (w' := w') (objs' := objs.set i .dead ++ [ob]) (own' := own.set i ⟨oi.v, [], false, oi.sz⟩ ++ [on]) hos htp hou (by simp [h.len]) (by simp) hsz (· = i)
    (fun j hj hne => ⟨by rw [List.getElem?_append_left (by simp [hj]), List.getElem?_set_ne (Ne.symm hne)], by rw [List.getElem?_append_left (by simp; rw [← h.len]; exact hj), List.getElem?_set_ne (Ne.symm hne)]⟩)
    (fun b hb hn => hblk b hb (hn i oi rfl hoi))
    (fun j o' b hj hc hb => by
      rcases at_ j o' hj hc with ⟨rfl, rfl⟩ | ⟨rfl, rfl⟩
      · simp at hb
      · have := hbs b hb
        refine ⟨this.1, ?_, this.2.imp id fun hm => ⟨i, oi, rfl, hoi, hm⟩⟩
        rcases this.2 with h1 | h1
        · exact hS b h1
        · exact (h.lt i oi b hoi h1).2)
    (fun j j' oj oj' b hj hj' hoj hoj' hb hb' => by
      rcases at_ j oj hoj hj with ⟨rfl, rfl⟩ | ⟨rfl, rfl⟩
      · simp at hb
      · rcases at_ j' oj' hoj' hj' with ⟨rfl, rfl⟩ | ⟨rfl, rfl⟩
        · simp at hb'
        · rfl)
    (fun hok j ob' o' hc hob ho' => by
      rcases at_ j o' ho' hc with ⟨rfl, rfl⟩ | ⟨rfl, rfl⟩
      · rw [List.getElem?_append_left (by simp [hlj]), List.getElem?_set_self hlj] at hob
        cases hob; exact ⟨rfl, rfl⟩
      · rw [List.getElem?_append_right (by simp [h.len]), h.len] at hob
        simp at hob
        subst hob
        exact hor _ hok)
  refine ⟨key.1, key.2, fun j o' hj => ?_⟩
  by_cases hij : i = j
  · subst hij
    rw [hoi] at hj; cases hj
    exact ⟨⟨oi.v, [], false, oi.sz⟩, by rw [List.getElem?_append_left (by simp [hlo]), List.getElem?_set_self hlo], rfl, rfl, fun h => by cases h⟩
  · exact ⟨o', by rw [List.getElem?_append_left (by simp; exact (List.getElem?_eq_some_iff.1 hj).1), List.getElem?_set_ne hij]; exact hj, rfl, rfl, id⟩
/-- A row that 'append' has made anew. -/
theorem or_new {e : Ty} {l1 l2 : List e.den} {olds news : List Value} {z : Value} {te : TypeId} {W : World} {ok ok' : Nat → Prop} (hX : X.OK) (hpos : 0 < e.size) (hzs : z.cells.size = e.size)
    (r1 : RepL (Rep X w ok e) l1 olds) (r2 : RepL (Rep X w ok e) l2 news) (n c : Nat) (hn : n = l1.length + l2.length) (h63 : n ≤ 140737488355328) (hW : W.heap = w.heap)
    (hok : ∀ b, ok b → ok' b ∧ (W.alloc (.cells (olds.toArray ++ news.toArray ++ Builtin.zeroCells z.cells (grownCap w n c te - n)) te)).heap[b]? = w.heap[b]?) :
    OR X (W.alloc (.cells (olds.toArray ++ news.toArray ++ Builtin.zeroCells z.cells (grownCap w n c te - n)) te)) ok' (.row e (l1 ++ l2)) ⟨.slice (some ⟨w.heap.size, 0, none⟩) n (grownCap w n c te), [w.heap.size], true, e.size⟩ := by
  have hge := grownCap_ge w n c te
  have hcm := grownCap_le_maxLen w n c te (by simp [maxLen]; omega)
  have hl1 := RepL.len (fun x vs => Rep.len w ok e x vs) r1
  have hl2 := RepL.len (fun x vs => Rep.len w ok e x vs) r2
  have hll : (l1 ++ l2).length = n := by rw [List.length_append, hn]
  have hlen : (olds ++ news).length = n * e.size := by rw [List.length_append, hl1, hl2, ← Nat.add_mul, hn]
  refine ⟨rfl, rfl, hpos, .inr ⟨w.heap.size, grownCap w n c te, olds.toArray ++ news.toArray ++ Builtin.zeroCells z.cells (grownCap w n c te - n), (te, 0, 0), by rw [hll], rfl, ?_, by rw [hll]; exact hge, hcm, ?_, ?_, by simp⟩⟩
  · rw [← hW]; exact heap_alloc_new W _
  · simp only [Array.size_append, List.size_toArray, size_zeroCells, hzs]
    rw [← List.length_append, hlen, ← Nat.add_mul]
    congr 1
    omega
  · rw [hll]
    have : (olds.toArray ++ news.toArray ++ Builtin.zeroCells z.cells (grownCap w n c te - n)).toList.take (n * e.size) = olds ++ news := by
      simp only [Array.toList_append, List.append_assoc]
      rw [← List.append_assoc, ← hlen]
      exact List.take_left
    rw [this]
    exact (RepL.append r1 r2).imp (Rep.mono hX hok e)
theorem wr_append (hX : X.OK) (hE : tysOK P E.tys = true) (hr : HR X S w st.objs own) (ht : TR X w (okS S w own) own st.tmps a.tmps) (hS : ∀ b, w.heap.size ≤ b → S b) {t xt : TypeId} {e : Ty} {b : Nat} {sv xv : Operand} (hti : E.ti t = some ⟨.slice e, b⟩)
    (ho : o.op = .call { callee := .builtin .append, args := #[sv, xv], argTypes := #[t, xt] }) {l1 l2 : List e.den} {base : List Ob}
    (hl1 : (opd st sv = .nil ∧ l1 = [] ∧ base = st.objs) ∨ ∃ i, opd st sv = .ref i ∧ Ob.get st.objs i = .row e l1 ∧ base = st.objs.set i .dead)
    {m : Nat} {news : List Value} (hsrc : Src P w e.size xt (a.eval xv) m news) (hnews : RepL (Rep X w (okS S w own) e) l2 news) (hm : l2.length = m)
    (hb : (l1.length + l2.length) * b ≤ 140737488355328 ∧ l1.length + l2.length ≤ 140737488355328)
    (hk : k (({ st with objs := base ++ [.row e (l1 ++ l2)] } : St).put o.dst (.ref st.objs.length)) = some r) : WRk X P S w own o a st k r := by
  have he : execOp a.eval o = (do pure (.value (← Builtin.append_ #[t, xt] o.type #[a.eval sv, a.eval xv]))) := by simp [execOp, ho, resolve, invoke, builtin]
  obtain ⟨te, ie, z, a1, a2, a3, a4, a5, a6, a7, a8, a9, _⟩ := slice_info (X := X) hE hti w (okS S w own)
  have hzs : z.cells.size = e.size := by have := Rep.len w _ _ _ _ a9; simpa using this
  subst hm
  have hsrc' : Src P w ie.size xt (a.eval xv) l2.length news := by rw [a3]; exact hsrc
  have hv := opd_VR ht sv
  obtain ⟨d, hd, hdi⟩ := hsrc.ty
  rcases hl1 with ⟨e1, rfl, rfl⟩ | ⟨i, e1, hg, rfl⟩
  · rw [e1] at hv
    simp only [VR] at hv
    by_cases h0 : l2.length = 0
    · have : l2 = [] := List.eq_nil_of_length_eq_zero h0
      subst this
      have hn0 : news = [] := hnews
      subst hn0
      refine wr_new hX hr (Frm.refl ..) (OwnLe.refl _) hS (on := ⟨.slice none 0 0, [], true, e.size⟩) (v := .slice none 0 0) (w' := w) he ?_ rfl rfl rfl (Nat.le_refl _) (fun b hb => rfl) (by simp) ?_ ?_ hk
      · rw [hv]
        have := hsrc.first w rfl
        simp at this
        simp [Builtin.append_, run_underlying a1, run_underlying hd, notInt hdi, sizeOf, typeInfo, a2, a3, hsrc.len, this]
      · intro ok' hok
        exact ⟨rfl, rfl, a4, .inl ⟨rfl, rfl, rfl⟩⟩
      · intro ok' ow how
        exact ⟨_, how, fun _ => rfl⟩
    · have hrun := run_append_new' (w := w) (ty := o.type) a1 a2 a8 hsrc' none 0 0 [] (fun W hW => rfl) (by omega) (by omega) (by simpa using hb.2) (by rw [a5]; simpa using hb.1)
      simp only [Nat.zero_add] at hrun
      rw [← hv] at hrun
      refine wr_new hX hr (Frm.refl ..) (OwnLe.refl _) hS (on := ⟨.slice (some ⟨w.heap.size, 0, none⟩) l2.length (grownCap w l2.length 0 te), [w.heap.size], true, e.size⟩) he hrun rfl rfl rfl (by simp) (fun b hb => Go.RowKit.Below.heap_alloc w.drew _ b hb) (by simp) ?_ ?_ hk
      · intro ok' hok
        exact or_new (ok := okS S w own) (l1 := []) (olds := []) hX a4 hzs rfl hnews l2.length 0 (by simp) (by simpa using hb.2) (W := w.drew) rfl hok
      · intro ok' ow how
        exact ⟨_, how, fun _ => rfl⟩
  · rw [e1] at hv
    obtain ⟨oi, hoi, hor⟩ := hr.at (Ob.get_of hg (by simp))
    obtain ⟨o2, ho2, hv⟩ := hv
    rw [hoi] at ho2; cases ho2
    obtain ⟨p1, p2, p3, p4⟩ := hor
    have hv := hv p1
    have fin : ∀ (v : Value) (w' : World) (on : Own), (Builtin.append_ #[t, xt] o.type #[a.eval sv, a.eval xv]).run P w = .ok v w' → on.v = v → w'.os = w.os → w'.tape = w.tape → w'.output = w.output → w.heap.size ≤ w'.heap.size →
        (∀ b, b < w.heap.size → b ∉ oi.bs → w'.heap[b]? = w.heap[b]?) → (∀ b ∈ on.bs, b < w'.heap.size ∧ (w.heap.size ≤ b ∨ b ∈ oi.bs)) →
        (∀ ok' : Nat → Prop, (∀ b, okS S w own b → ok' b ∧ w'.heap[b]? = w.heap[b]?) → OR X w' ok' (.row e (l1 ++ l2)) on) → WRk X P S w own o a st k r := by
      intro v w' on h1 h2 h3 h4 h5 h6 h7 h8 h9
      obtain ⟨q1, q2, q3⟩ := move_ob hX hr hS hoi h3 h4 h5 h6 h7 _ on h8 h9
      refine ⟨_, _, hk, _, v, w', _, by rw [he, Sem.run_bind, h1]; rfl, .inl rfl, q1, q2, q3, on, ?_, fun _ => h2.symm⟩
      rw [List.getElem?_append_right (by simp [hr.len])]
      simp [hr.len]
    rcases p4 with ⟨f1, rfl, f2⟩ | ⟨g, c, cur, ee, f1, f2, f3, f4, f5, f6, f7⟩
    · rw [f1] at hv
      by_cases h0 : l2.length = 0
      · have : l2 = [] := List.eq_nil_of_length_eq_zero h0
        subst this
        have hn0 : news = [] := hnews
        subst hn0
        refine fin (.slice none 0 0) w ⟨.slice none 0 0, [], true, e.size⟩ ?_ rfl rfl rfl rfl (Nat.le_refl _) (fun b _ _ => rfl) (by simp) (fun ok' hok => ⟨rfl, rfl, a4, .inl ⟨rfl, rfl, rfl⟩⟩)
        rw [hv]
        have := hsrc.first w rfl
        simp at this
        simp [Builtin.append_, run_underlying a1, run_underlying hd, notInt hdi, sizeOf, typeInfo, a2, a3, hsrc.len, this]
      · have hrun := run_append_new' (w := w) (ty := o.type) a1 a2 a8 hsrc' none 0 0 [] (fun W hW => rfl) (by omega) (by omega) (by simpa using hb.2) (by rw [a5]; simpa using hb.1)
        simp only [Nat.zero_add] at hrun
        rw [← hv] at hrun
        refine fin _ _ ⟨_, [w.heap.size], true, e.size⟩ hrun rfl rfl rfl rfl (by simp) (fun b hb _ => Go.RowKit.Below.heap_alloc w.drew _ b hb) (by simp) ?_
        intro ok' hok
        exact or_new (ok := okS S w own) (l1 := []) (olds := []) hX a4 hzs rfl hnews l2.length 0 (by simp) (by simpa using hb.2) (W := w.drew) rfl hok
    · have hgl : g < w.heap.size := (Array.getElem?_eq_some_iff.1 f3).1
      rw [f1] at hv
      by_cases hroom : l1.length + l2.length ≤ c
      · obtain ⟨w', r1, r2, r3⟩ := run_append_room' (w := w) (ty := o.type) a1 a2 hsrc' g l1.length c cur.toList ee.1 ee.2 (by simpa using f3) (by simpa using fr_no f7.2) hroom (by rw [a3]; simpa using f6)
        refine fin _ w' ⟨_, [g], true, e.size⟩ (by rw [hv]; exact r1) rfl r3.os r3.tape r3.output (by rw [r3.size]; exact Nat.le_refl _) (fun b _ hb => r3.blk b (by rw [f2] at hb; simpa using hb)) (by rw [r3.size, f2]; simp [hgl]) ?_
        intro ok' hok
        have hll : (l1 ++ l2).length = l1.length + l2.length := List.length_append
        have hl1' := RepL.len (fun x vs => Rep.len w _ e x vs) f7.1
        have hl2' := RepL.len (fun x vs => Rep.len w _ e x vs) hnews
        have hclen : cur.toList.length = c * e.size := by rw [Array.length_toList, f6]
        have hle : l1.length * e.size + news.length ≤ cur.toList.length := by rw [hl2', hclen, ← Nat.add_mul]; exact Nat.mul_le_mul_right _ hroom
        rw [a3] at r2
        refine ⟨rfl, rfl, a4, .inr ⟨g, c, _, ee, by rw [hll], rfl, r2, by rw [hll]; exact hroom, f5, ?_, ?_, ?_⟩⟩
        · simp only [List.size_toArray, List.length_append, List.length_take, List.length_drop]
          rw [Nat.min_eq_left (by omega), ← hclen]
          omega
        · rw [hll]
          have : (cur.toList.take (l1.length * e.size) ++ news ++ cur.toList.drop (l1.length * e.size + news.length)).toArray.toList.take ((l1.length + l2.length) * e.size) = cur.toList.take (l1.length * e.size) ++ news := by
            rw [List.take_append_of_le_length, List.take_of_length_le]
            · simp only [List.length_append, List.length_take]; rw [hl2', Nat.add_mul]; omega
            · simp only [List.length_append, List.length_take]; rw [hl2', Nat.add_mul]; omega
          rw [this]
          exact (RepL.append f7.1 hnews).imp (Rep.mono hX hok e)
        · refine f7.2.imp id fun hh => ?_
          simp only [List.size_toArray, List.length_append, List.length_take, List.length_drop]
          rw [Nat.min_eq_left (by omega)]
          have : cur.size = cur.toList.length := rfl
          omega
      · have hl1' := RepL.len (fun x vs => Rep.len w _ e x vs) f7.1
        have hrun := run_append_new' (w := w) (ty := o.type) a1 a2 a8 hsrc' (some ⟨g, 0, none⟩) l1.length c (cur.toList.take (l1.length * e.size))
          (fun W hW => run_firstCells_some (P := P) W ie.size l1.length ⟨g, 0, none⟩ _ c _ (by rw [a3]; exact hl1') (fun j v hv => by
            rw [add_lit0, World.cell?_of_block (w := w) (w' := W) (by rw [hW])]
            exact CellsAt.of_row f3 _ j v hv)) (by omega) (by omega) hb.2 (by rw [a5]; exact hb.1)
        rw [← hv] at hrun
        refine fin _ _ ⟨_, [w.heap.size], true, e.size⟩ hrun rfl rfl rfl rfl (by simp) (fun b hb _ => Go.RowKit.Below.heap_alloc w.drew _ b hb) (by simp) ?_
        intro ok' hok
        exact or_new (ok := okS S w own) hX a4 hzs f7.1 hnews _ c rfl hb.2 (W := w.drew) rfl hok
end
end Go.Proofs.YtgelkklendpeoaaGreat.AE

namespace Go.Proofs.YtgelkklendpeoaaGreat.AE
set_option linter.unusedVariables false
set_option linter.unusedSimpArgs false
open Go
set_option linter.unusedVariables false
set_option linter.unusedSimpArgs false

section
variable {X : ExtRep} {S : Nat → Prop} {P : Program} {E : Env} {w : World} {own : List Own} {st : St} {a : Act} {o : Oper} {R : Type} {k : St → Option R} {r : R}
def byteRow (s : ByteArray) (c : Nat) : Array Value := s.data.map (fun b : UInt8 => Value.int .u8 b.toNat) ++ Array.replicate (c - s.size) (Value.int .u8 0)
theorem byteRow_size (s : ByteArray) (c : Nat) (h : s.size ≤ c) : (byteRow s c).size = c := by
  rw [byteRow, Array.size_append, Array.size_map, Array.size_replicate]
  have : s.data.size = s.size := rfl
  omega
theorem run_strBytes (te : TypeId) (s : ByteArray) (hs : s.size ≤ maxLen) : ∃ w' c cur n, (Conv.stringToBytes te s).run P w = .ok (.slice (some ⟨w.heap.size, 0, none⟩) s.size c) w' ∧
    w'.os = w.os ∧ w'.tape = w.tape ∧ w'.output = w.output ∧ w'.heap.size = w.heap.size + 1 ∧ (∀ b, b < w.heap.size → w'.heap[b]? = w.heap[b]?) ∧
    w'.heap[w.heap.size]? = some (.cells cur te (n, n + 1)) ∧ cur.size = n ∧ n = c ∧ s.size ≤ c ∧ c ≤ maxLen ∧ cur.toList.take s.size = (strBytes s).map (Value.int .u8) := by
  have hge := grownCap_ge w s.size 0 te
  have hcm := grownCap_le_maxLen w s.size 0 te hs
  have hcur := byteRow_size s _ hge
  have hnewc : (w.drew.alloc (.cells (byteRow s (grownCap w s.size 0 te)) te)).heap[w.heap.size]? = some (.cells (byteRow s (grownCap w s.size 0 te)) te (0, 0)) := heap_alloc_new w.drew _
  refine ⟨(w.drew.alloc (.cells (byteRow s (grownCap w s.size 0 te)) te)).freeze ⟨w.heap.size, grownCap w s.size 0 te, none⟩ 1, grownCap w s.size 0 te, byteRow s (grownCap w s.size 0 te), grownCap w s.size 0 te, ?_, rfl, rfl, rfl, ?_, ?_, ?_, hcur, rfl, hge, hcm, ?_⟩
  · have hch : (choose (.appendCap s.size 0 te)).run P w = .ok (grownCap w s.size 0 te) w.drew := by
      simp [Question.forced, grownCap]
    simp only [Conv.stringToBytes, Sem.run_bind, hch, Result.andThen_ok]
    have hnew : (newRow te (byteRow s (grownCap w s.size 0 te))).run P w.drew = .ok ⟨w.heap.size, 0, none⟩ (w.drew.alloc (.cells (byteRow s (grownCap w s.size 0 te)) te)) := by simp [newRow]
    have hshape : (w.drew.alloc (.cells (byteRow s (grownCap w s.size 0 te)) te)).shape? w.heap.size = some (te, grownCap w s.size 0 te) := by
      simp only [World.shape?, hnewc, hcur]
    rw [byteRow] at hnew
    rw [hnew]
    rw [← byteRow]
    simp [markStringish, hshape]
  · simp [World.freeze]
  · intro b hb
    have hne : ¬ w.heap.size = b := by omega
    simp only [World.freeze, Nat.one_ne_zero, if_false, Array.getElem?_modify, hne]
    exact Go.RowKit.Below.heap_alloc w.drew _ b hb
  · simp only [World.freeze, Nat.one_ne_zero, if_false, Array.getElem?_modify, if_true, hnewc]
    simp
  · have h1 : (byteRow s (grownCap w s.size 0 te)).toList = (strBytes s).map (Value.int .u8) ++ List.replicate (grownCap w s.size 0 te - s.size) (Value.int .u8 0) := by
      simp [byteRow, strBytes]
    have h2 : ((strBytes s).map (Value.int .u8)).length = s.size := by simp [strBytes]
    rw [h1, ← h2]
    exact List.take_left
theorem run_store_block0 {t : TypeId} {ti : TI} (hT : TIok P t ti) {v : Value} (hs : v.cells.size = ti.T.size) (g off : Nat) (e : TypeId) (fr : Nat × Nat) (pre mid post : List Value) (hg : w.heap[g]? = some (.cells (pre ++ mid ++ post).toArray e fr))
    (hp : pre.length = off) (hm : mid.length = v.cells.toList.length) (hf : ∀ j, j < (pre ++ mid ++ post).length → ¬ (fr.1 ≤ j ∧ j < fr.2)) (h1 : ∀ y ∈ v.cells.toList, y.oneCell' = true) :
    ∃ w', (Instr.storeAt t (.pointer (some ⟨g, off, none⟩)) v).run P w = .ok () w' ∧ w'.heap[g]? = some (.cells (pre ++ v.cells.toList ++ post).toArray e fr) ∧ Turned g w w' := by
  obtain ⟨w', r1, r2, r3⟩ := run_store_block (P := P) g off e fr v.cells.toList 0 pre mid post w hg (by simpa using hp) hm hf h1
  refine ⟨w', ?_, r2, r3⟩
  simp [Instr.storeAt, Instr.sureAddr, storeVar, hT.size, hs, r1]
/-- A thing of one's own has another content; its memory alone has turned. -/
theorem touch_ob (hX : X.OK) {objs : List Ob} (h : HR X S w objs own) {i : Nat} {oi : Own} (hoi : own[i]? = some oi) {g : Nat} (hbs : oi.bs = [g]) {w' : World} (ht : Turned g w w') (ob : Ob)
    (hor : ∀ ok' : Nat → Prop, (∀ b, okS S w own b → ok' b ∧ w'.heap[b]? = w.heap[b]?) → OR X w' ok' ob oi) :
    HR X S w' (objs.set i ob) own ∧ Frm S w own w' own := by
  have hlo : i < own.length := (List.getElem?_eq_some_iff.1 hoi).1
  have hlj : i < objs.length := by rw [← h.len]; exact hlo
  have only : ∀ j o', own[j]? = some o' → (j = i ∨ own.length ≤ j) → j = i ∧ o' = oi := by
    intro j o' h1 h2
    have h3 := (List.getElem?_eq_some_iff.1 h1).1
    have : j = i := by omega
    subst this
    rw [hoi] at h1; cases h1
    exact ⟨rfl, rfl⟩
  exact h.changeF hX (w' := w') (objs' := objs.set i ob) (own' := own) ht.os ht.tape ht.output (by simp [h.len]) (Nat.le_refl _) (by rw [ht.size]; exact Nat.le_refl _) (· = i)
    (fun j hj hne => ⟨rfl, by rw [List.getElem?_set_ne (Ne.symm hne)]⟩)
    (fun b hb hn => ht.blk b (by have := hn i oi rfl hoi; rw [hbs] at this; simpa using this))
    (fun j o' b hj hc hb => by
      obtain ⟨rfl, rfl⟩ := only j o' hj hc
      exact ⟨by rw [ht.size]; exact (h.lt _ _ b hj hb).1, (h.lt _ _ b hj hb).2, .inr ⟨_, _, rfl, hj, hb⟩⟩)
    (fun j j' oj oj' b hj hj' hoj hoj' _ _ => by rw [(only j oj hoj hj).1, (only j' oj' hoj' hj').1])
    (fun hok j ob' o' hc hob ho' => by
      obtain ⟨rfl, rfl⟩ := only j o' ho' hc
      rw [List.getElem?_set_self hlj] at hob
      cases hob
      exact hor _ hok)
theorem wr_store (hX : X.OK) (hE : tysOK P E.tys = true) (hr : HR X S w st.objs own) (ht : TR X w (okS S w own) own st.tmps a.tmps) {t : TypeId} {ti : TI} {ad x : Operand} {y : ti.T.den} (hti : E.ti t = some ti)
    (hy : readDat st.objs ti.T (opd st x) = some y) (ho : o.op = .store t ad x) {i : Nat} {ob' : Ob}
    (hcase : (∃ off T z z', opd st ad = .ptr i off ∧ Ob.get st.objs i = .var T z ∧ poke T z off ti.T y = some z' ∧ ob' = .var T z') ∨
      (∃ ix off T l z', opd st ad = .ea i ix off ∧ Ob.get (freezeV st.objs (opd st x)) i = .row T l ∧ poke T (l.getD ix.toNat T.zero) off ti.T y = some z' ∧ ob' = .row T (l.set ix.toNat z')))
    (hk : k (({ st with objs := (freezeV st.objs (opd st x)).set i ob' } : St).put o.dst .skp) = some r) : WRk X P S w own o a st k r := by
  have he : execOp a.eval o = (do Instr.storeAt t (a.eval ad) (a.eval x); pure .skip) := by simp only [execOp, ho]
  have hT := TIok.of_tys hE hti
  obtain ⟨own1, q1, q2, q3, q4, q5⟩ := freeze_rep hX hr hy
  have hrep := q5 _ (opd_VR ht x)
  have hva := VR.mono hX q2.ok q3 _ _ (opd_VR ht ad)
  have hsz : (a.eval x).cells.size = ti.T.size := by have := Rep.len w _ _ _ _ hrep; simpa using this
  have h1 := Rep.one hX _ _ _ hrep
  have fin : ∀ (g off : Nat) (oi : Own) (w' : World), a.eval ad = .pointer (some ⟨g, off, none⟩) → own1[i]? = some oi → oi.bs = [g] → (Instr.storeAt t (.pointer (some ⟨g, off, none⟩)) (a.eval x)).run P w = .ok () w' → Turned g w w' →
      (∀ ok' : Nat → Prop, (∀ b, okS S w own1 b → ok' b ∧ w'.heap[b]? = w.heap[b]?) → OR X w' ok' ob' oi) → WRk X P S w own o a st k r := by
    intro g off oi w' e1 e2 e3 e4 e5 e6
    obtain ⟨s1, s2⟩ := touch_ob hX q1 e2 e3 e5 ob' e6
    exact ⟨_, _, hk, _, undef, w', own1, by rw [he, Sem.run_bind, e1, e4]; rfl, .inr ⟨rfl, rfl⟩, s1, q2.trans s2, q3, rfl⟩
  rcases hcase with ⟨off, T, z, z', e1, hg, hp, rfl⟩ | ⟨ix, off, T, l, z', e1, hg, hp, rfl⟩
  · rw [e1] at hva
    have hg1 : (freezeV st.objs (opd st x))[i]? = some (.var T z) := by
      have hgi := Ob.get_of hg (by simp)
      cases hx : opd st x <;> simp only [freezeV] <;> try exact hgi
      rename_i j
      by_cases hij : j = i
      · subst hij
        rw [List.getElem?_set_self (List.getElem?_eq_some_iff.1 hgi).1, hg]; rfl
      · rw [List.getElem?_set_ne hij]; exact hgi
    obtain ⟨oi, hoi, hor⟩ := q1.at hg1
    obtain ⟨p1, g, cs, e, p2, p3, p4, p5⟩ := hor
    obtain ⟨o2, g2, ho2, f1, f2⟩ := hva
    rw [hoi] at ho2; cases ho2
    rw [p2] at f1; cases f1
    obtain ⟨pre, mid, post, rfl, b2, b3, b4⟩ := poke_rep _ _ _ _ _ _ _ _ hp p5 hrep
    obtain ⟨w', r1, r2, r3⟩ := run_store_block0 hT hsz g off e (0, 0) pre mid post p4 b2 b3 (by simp) h1
    exact fin g off oi w' f2 hoi p3 r1 r3 (fun ok' hok => ⟨p1, g, _, e, p2, p3, r2, Rep.mono hX hok _ _ _ b4⟩)
  · rw [e1] at hva
    obtain ⟨oi, hoi, hor⟩ := q1.at (Ob.get_of hg (by simp))
    obtain ⟨p1, p2, p3, p4⟩ := hor
    obtain ⟨o2, ho2, hv⟩ := hva
    rw [hoi] at ho2; cases ho2
    obtain ⟨g, n, c, f1, f2, f3, f4⟩ := hv p1
    rcases p4 with ⟨s1, _, _⟩ | ⟨g', c', cur, e, s1, s2, s3, s4, s5, s6, s7⟩
    · rw [s1] at f1; cases f1
    · rw [s1] at f1; cases f1
      have hlt : ix.toNat < l.length := by omega
      have hlen := RepL.len (fun x vs => Rep.len w _ T x vs) s7.1
      have hget := RepL.get (fun x vs => Rep.len w _ T x vs) T.zero ix.toNat s7.1 hlt
      obtain ⟨pre, mid, post, b1, b2, b3, b4⟩ := poke_rep _ _ _ _ _ _ _ _ hp hget hrep
      have hset := RepL.set (fun x vs => Rep.len w _ T x vs) b4 ix.toNat s7.1 hlt
      have hmul : ix.toNat * T.size + T.size ≤ l.length * T.size := by
        rw [show ix.toNat * T.size + T.size = (ix.toNat + 1) * T.size by rw [Nat.add_mul]; omega]
        exact Nat.mul_le_mul_right _ hlt
      have hcl : l.length * T.size ≤ cur.toList.length := by
        have : cur.toList.length = c * T.size := s6
        rw [this]; exact Nat.mul_le_mul_right _ s4
      -- the block, cut at the element
      have hsplit : cur.toList = (cur.toList.take (ix.toNat * T.size) ++ pre) ++ mid ++ (post ++ cur.toList.drop (ix.toNat * T.size + T.size)) := by
        have h2 : (cur.toList.drop (ix.toNat * T.size)).take T.size = pre ++ mid ++ post := by
          rw [← b1, List.drop_take, List.take_take, Nat.min_eq_left (by omega)]
        have h3 : cur.toList = cur.toList.take (ix.toNat * T.size) ++ (cur.toList.drop (ix.toNat * T.size)).take T.size ++ cur.toList.drop (ix.toNat * T.size + T.size) := by
          rw [List.append_assoc, ← List.drop_drop, List.take_append_drop, List.take_append_drop]
        rw [h2] at h3
        simpa [List.append_assoc] using h3
      have hg3 : w.heap[g]? = some (.cells ((cur.toList.take (ix.toNat * T.size) ++ pre) ++ mid ++ (post ++ cur.toList.drop (ix.toNat * T.size + T.size))).toArray e.1 e.2) := by
        rw [← hsplit]; simpa using s3
      obtain ⟨w', r1, r2, r3⟩ := run_store_block0 hT hsz g (ix.toNat * T.size + off) e.1 e.2 _ mid _ hg3 (by rw [List.length_append, List.length_take, Nat.min_eq_left (by omega), b2]) b3 (by rw [← hsplit]; simpa using fr_no s7.2) h1
      refine fin g _ oi w' (by rw [f4, p2]) hoi s2 r1 r3 (fun ok' hok => ?_)
      have hml : mid.length = (a.eval x).cells.toList.length := b3
      refine ⟨p1, p2, p3, .inr ⟨g, c, _, e, by rw [s1, List.length_set], s2, r2, by rw [List.length_set]; exact s4, s5, ?_, ?_, ?_⟩⟩
      · have h5 := congrArg List.length hsplit
        simp only [List.length_append, Array.length_toList] at h5 hml
        simp only [List.size_toArray, List.length_append]
        have hcc : cur.size = c * T.size := s6
        rw [← hcc, h5]
        have : (a.eval x).cells.toList.length = (a.eval x).cells.size := rfl
        omega
      · rw [List.length_set]
        have h6 : ((cur.toList.take (ix.toNat * T.size) ++ pre) ++ (a.eval x).cells.toList ++ (post ++ cur.toList.drop (ix.toNat * T.size + T.size))).take (l.length * T.size) =
            (cur.toList.take (l.length * T.size)).take (ix.toNat * T.size) ++ (pre ++ (a.eval x).cells.toList ++ post) ++ (cur.toList.take (l.length * T.size)).drop (ix.toNat * T.size + T.size) := by
          have h5 := congrArg List.length hsplit
          simp only [List.length_append] at h5
          have h7 : (cur.toList.take (ix.toNat * T.size)).length = ix.toNat * T.size := by rw [List.length_take]; omega
          have h8 : (cur.toList.drop (ix.toNat * T.size + T.size)).length = cur.toList.length - (ix.toNat * T.size + T.size) := List.length_drop
          have h9 : pre.length + mid.length + post.length = T.size := by omega
          rw [show (cur.toList.take (ix.toNat * T.size) ++ pre) ++ (a.eval x).cells.toList ++ (post ++ cur.toList.drop (ix.toNat * T.size + T.size)) =
            (cur.toList.take (ix.toNat * T.size) ++ (pre ++ (a.eval x).cells.toList ++ post)) ++ cur.toList.drop (ix.toNat * T.size + T.size) by simp [List.append_assoc]]
          rw [List.take_append, List.take_of_length_le (by simp only [List.length_append]; omega), List.take_take, Nat.min_eq_left (by omega), List.drop_take]
          congr 2
          simp only [List.length_append]
          omega
        rw [show ((cur.toList.take (ix.toNat * T.size) ++ pre) ++ (a.eval x).cells.toList ++ (post ++ cur.toList.drop (ix.toNat * T.size + T.size))).toArray.toList = (cur.toList.take (ix.toNat * T.size) ++ pre) ++ (a.eval x).cells.toList ++ (post ++ cur.toList.drop (ix.toNat * T.size + T.size)) from rfl, h6]
        exact hset.imp (Rep.mono hX hok T)
      · refine s7.2.imp id fun hh => ?_
        have h5 := congrArg List.length hsplit
        simp only [List.length_append, Array.length_toList] at h5 hml
        simp only [List.size_toArray, List.length_append, Array.length_toList]
        omega
/-- The row of a variable goes out. -/
theorem wr_vload (hX : X.OK) (hE : tysOK P E.tys = true) (hr : HR X S w st.objs own) (ht : TR X w (okS S w own) own st.tmps a.tmps) {t : TypeId} {ti : TI} {e : Ty} {ad : Operand} {i : Nat} {l : List e.den} (hti : E.ti t = some ti) (hT : ti.T = .slice e)
    (hx : opd st ad = .ptr i 0) (hg : Ob.get st.objs i = .vrow e l) (ho : o.op = .load t ad)
    (hk : k (({ st with objs := st.objs.set i .vout ++ [.row e l] } : St).put o.dst (.ref st.objs.length)) = some r) : WRk X P S w own o a st k r := by
  have hgi := Ob.get_of hg (by simp)
  obtain ⟨oi, hoi, h0, g, e0, ro, b1, b2, b3, b4, hrow⟩ := hr.at hgi
  have hv := opd_VR ht ad
  rw [hx] at hv
  obtain ⟨o2, g2, ho2, f1, f2⟩ := hv
  rw [hoi] at ho2; cases ho2
  rw [b1] at f1; cases f1
  have he : execOp a.eval o = (do pure (.value (← Instr.loadAt t (a.eval ad)))) := by simp only [execOp, ho]
  have hrun : (Instr.loadAt t (a.eval ad)).run P w = .ok ro.v w := by
    rw [f2]
    simp only [Instr.loadAt, Instr.sureAddr, Sem.run_bind, Sem.run_pure, Result.andThen_ok]
    have hTi := TIok.of_tys hE hti
    obtain ⟨T, tb⟩ := ti
    subst hT
    obtain ⟨A, c, q1, q2, q3, q4⟩ := RowAt.of_row (show OR X w (okS S w own) (.row e l) ro from hrow)
    have hrep : Rep X w (fun _ => True) (.slice e) l [ro.v] := by
      refine ⟨A, c, by rw [q1], q2, q3, q4.imp id fun ⟨b, off, cs, r1, _, r2, r3⟩ => ⟨b, off, cs, r1, trivial, r2, r3.imp (Rep.mono hX (fun b _ => ⟨trivial, rfl⟩) e)⟩⟩
    have hc : CellsAt w g 0 [ro.v] := by
      intro j v hj
      cases j with
      | succ j => simp at hj
      | zero =>
        simp at hj
        subst hj
        rw [cell_of_row w g _ _ e0 _ b4]
        simp
    exact hTi.load hc hrep
  have hlo : i < own.length := (List.getElem?_eq_some_iff.1 hoi).1
  have hat : (own.set i ⟨oi.v, [g], true, oi.sz⟩ ++ [ro])[i]? = some ⟨oi.v, [g], true, oi.sz⟩ := by
    rw [List.getElem?_append_left (by simpa using hlo), List.getElem?_set_self hlo]
  have ge : ∀ j o', (own.set i ⟨oi.v, [g], true, oi.sz⟩ ++ [ro])[j]? = some o' → (j = i ∨ own.length ≤ j) → (j = i ∧ o' = ⟨oi.v, [g], true, oi.sz⟩) ∨ (j = own.length ∧ o' = ro) := by
    intro j o' h1 h2
    rcases h2 with rfl | h2
    · rw [hat] at h1; cases h1; exact .inl ⟨rfl, rfl⟩
    · have h3 := (List.getElem?_eq_some_iff.1 h1).1
      simp at h3
      have : j = own.length := by omega
      subst this
      rw [List.getElem?_append_right (by simp)] at h1
      simp at h1
      exact .inr ⟨rfl, h1.symm⟩
  have key := hr.changeF hX (w' := w) (objs' := st.objs.set i .vout ++ [.row e l]) (own' := own.set i ⟨oi.v, [g], true, oi.sz⟩ ++ [ro]) rfl rfl rfl (by simp [hr.len]) (by simp) (Nat.le_refl _) (· = i)
    (fun j hj hne => ⟨by rw [List.getElem?_append_left (by simpa using hj), List.getElem?_set_ne (Ne.symm hne)], by rw [List.getElem?_append_left (by rw [List.length_set, ← hr.len]; exact hj), List.getElem?_set_ne (Ne.symm hne)]⟩)
    (fun _ _ _ => rfl)
    (fun j o' b hj hc hb => by
      have hb' : b ∈ oi.bs := by
        rw [b2]
        rcases ge j o' hj hc with ⟨_, rfl⟩ | ⟨_, rfl⟩
        · simp at hb; simp [hb]
        · simp [hb]
      exact ⟨(hr.lt i _ b hoi hb').1, (hr.lt i _ b hoi hb').2, .inr ⟨i, _, rfl, hoi, hb'⟩⟩)
    (fun j j' oj oj' b hj hj' hoj hoj' hb hb' => by
      rcases ge j oj hoj hj with ⟨e1, rfl⟩ | ⟨e1, rfl⟩ <;> rcases ge j' oj' hoj' hj' with ⟨e2, rfl⟩ | ⟨e2, rfl⟩
      · rw [e1, e2]
      · simp at hb; subst hb; exact absurd hb' b3
      · simp at hb'; subst hb'; exact absurd hb b3
      · rw [e1, e2])
    (fun hok j ob' o' hc hob' ho' => by
      rcases ge j o' ho' hc with ⟨rfl, rfl⟩ | ⟨e1, e2⟩
      · rw [List.getElem?_append_left (by rw [List.length_set, ← hr.len]; exact hlo), List.getElem?_set_self (by rw [← hr.len]; exact hlo)] at hob'
        cases hob'
        exact ⟨rfl, g, e0, ro.v, b1, rfl, b4⟩
      · subst e1 e2
        rw [hr.len, List.getElem?_append_right (by simp)] at hob'
        simp at hob'
        subst hob'
        exact OR.mono hX hok _ _ (fun _ _ => rfl) hrow)
  refine ⟨_, _, hk, _, ro.v, w, _, by rw [he, Sem.run_bind, hrun]; rfl, .inl rfl, key.1, key.2, fun j o' ho' => ?_, ⟨ro, ?_, fun _ => rfl⟩⟩
  · by_cases hji : j = i
    · subst hji
      rw [hoi] at ho'; cases ho'
      exact ⟨_, hat, rfl, rfl, fun _ => h0⟩
    · exact ⟨o', by rw [List.getElem?_append_left (by rw [List.length_set]; exact (List.getElem?_eq_some_iff.1 ho').1), List.getElem?_set_ne (Ne.symm hji)]; exact ho', rfl, rfl, id⟩
  · rw [← hr.len, List.getElem?_append_right (by simp)]; simp
def kill (o : Own) : Own := ⟨o.v, [], false, o.sz⟩
theorem vstore_hr (hX : X.OK) {objs : List Ob} (h : HR X S w objs own) {i j : Nat} {oi r : Own} (hij : j ≠ i) (hoi : own[i]? = some oi) (hlive : oi.live = true) {g : Nat} {e0 : TypeId} (hv : oi.v = .pointer (some ⟨g, 0, none⟩)) (hgb : g ∈ oi.bs)
    {w' : World} (ht : Turned g w w') (hnew : w'.heap[g]? = some (.cells #[r.v] e0 (0, 0))) {e : Ty} {l : List e.den} (hrow : RowR X w (okS S w own) e l r) (hrb : ∀ b ∈ r.bs, ∃ oj, own[j]? = some oj ∧ b ∈ oj.bs) :
    HR X S w' ((objs.set j .dead).set i (.vrow e l)) ((own.modify j kill).set i ⟨oi.v, g :: r.bs, true, oi.sz⟩) ∧ Frm S w own w' ((own.modify j kill).set i ⟨oi.v, g :: r.bs, true, oi.sz⟩) ∧ OwnLe own ((own.modify j kill).set i ⟨oi.v, g :: r.bs, true, oi.sz⟩) := by
  have hlo : i < own.length := (List.getElem?_eq_some_iff.1 hoi).1
  have hat : ((own.modify j kill).set i ⟨oi.v, g :: r.bs, true, oi.sz⟩)[i]? = some ⟨oi.v, g :: r.bs, true, oi.sz⟩ := List.getElem?_set_self (by simpa using hlo)
  have hgr : g ∉ r.bs := fun hb => by
    obtain ⟨oj, h1, h2⟩ := hrb g hb
    exact hij (h.dis j i oj oi g h1 hoi h2 hgb)
  have hne' : ∀ m, m ≠ i → m ≠ j → ((own.modify j kill).set i ⟨oi.v, g :: r.bs, true, oi.sz⟩)[m]? = own[m]? := fun m h1 h2 => by
    rw [List.getElem?_set_ne (Ne.symm h1), List.getElem?_modify_ne kill own (Ne.symm h2)]
  have hj' : ((own.modify j kill).set i ⟨oi.v, g :: r.bs, true, oi.sz⟩)[j]? = own[j]?.map kill := by
    rw [List.getElem?_set_ne (Ne.symm hij), List.getElem?_modify_eq]; rfl
  have hlen' : ((own.modify j kill).set i ⟨oi.v, g :: r.bs, true, oi.sz⟩).length = own.length := by simp
  have ge : ∀ m o', ((own.modify j kill).set i ⟨oi.v, g :: r.bs, true, oi.sz⟩)[m]? = some o' → ((m = i ∨ m = j) ∨ own.length ≤ m) → (m = i ∧ o' = ⟨oi.v, g :: r.bs, true, oi.sz⟩) ∨ (m = j ∧ ∃ oj, own[j]? = some oj ∧ o' = kill oj) := by
    intro m o' h1 h2
    have h3 := (List.getElem?_eq_some_iff.1 h1).1
    rw [hlen'] at h3
    rcases h2 with (rfl | rfl) | h2
    · rw [hat] at h1; cases h1; exact .inl ⟨rfl, rfl⟩
    · rw [hj'] at h1
      cases hh : own[m]? with
      | none => rw [hh] at h1; cases h1
      | some oj => rw [hh] at h1; cases h1; exact .inr ⟨rfl, oj, rfl, rfl⟩
    · omega
  have key := h.changeF hX (w' := w') (objs' := (objs.set j .dead).set i (.vrow e l)) (own' := (own.modify j kill).set i ⟨oi.v, g :: r.bs, true, oi.sz⟩) ht.os ht.tape ht.output (by simp [h.len]) (by rw [hlen']; exact Nat.le_refl _) (by rw [ht.size]; exact Nat.le_refl _) (fun m => m = i ∨ m = j)
    (fun m hm hne => ⟨hne' m (fun h => hne (.inl h)) (fun h => hne (.inr h)), by rw [List.getElem?_set_ne (fun h => hne (.inl h.symm)), List.getElem?_set_ne (fun h => hne (.inr h.symm))]⟩)
    (fun b hb hn => ht.blk b (fun hbg => hn i oi (.inl rfl) hoi (by rw [hbg]; exact hgb)))
    (fun m o' b hm hc hb => by
      rcases ge m o' hm hc with ⟨_, rfl⟩ | ⟨_, oj, _, rfl⟩
      · rcases List.mem_cons.1 hb with rfl | hb
        · exact ⟨by rw [ht.size]; exact (h.lt i _ _ hoi hgb).1, (h.lt i _ _ hoi hgb).2, .inr ⟨i, oi, .inl rfl, hoi, hgb⟩⟩
        · obtain ⟨oj, h1, h2⟩ := hrb b hb
          exact ⟨by rw [ht.size]; exact (h.lt j _ _ h1 h2).1, (h.lt j _ _ h1 h2).2, .inr ⟨j, oj, .inr rfl, h1, h2⟩⟩
      · simp [kill] at hb)
    (fun m m' om om' b hm hm' hom hom' hb hb' => by
      rcases ge m om hom hm with ⟨e1, rfl⟩ | ⟨e1, oj, _, rfl⟩
      · rcases ge m' om' hom' hm' with ⟨e2, rfl⟩ | ⟨e2, oj, _, rfl⟩
        · rw [e1, e2]
        · simp [kill] at hb'
      · simp [kill] at hb)
    (fun hok m ob' o' hc hob' ho' => by
      rcases ge m o' ho' hc with ⟨rfl, rfl⟩ | ⟨rfl, oj, hoj, rfl⟩
      · rw [List.getElem?_set_self (by simp [← h.len]; exact hlo)] at hob'
        cases hob'
        have : OR X w' (okS S w' ((own.modify j kill).set m ⟨oi.v, g :: r.bs, true, oi.sz⟩)) (.row e l) r := OR.mono hX hok (.row e l) r (fun b hb => ht.blk b (fun hbg => hgr (by rw [← hbg]; exact hb))) hrow
        exact ⟨rfl, g, e0, r, hv, rfl, hgr, hnew, this⟩
      · have hjl : m < objs.length := by rw [← h.len]; exact (List.getElem?_eq_some_iff.1 hoj).1
        rw [List.getElem?_set_ne (Ne.symm hij), List.getElem?_set_self hjl] at hob'
        cases hob'
        exact ⟨rfl, rfl⟩)
  refine ⟨key.1, key.2, fun m o' ho' => ?_⟩
  by_cases h1 : m = i
  · subst h1
    rw [hoi] at ho'; cases ho'
    exact ⟨_, hat, rfl, rfl, fun _ => hlive⟩
  · by_cases h2 : m = j
    · subst h2
      exact ⟨kill o', by rw [hj', ho']; rfl, rfl, rfl, fun h => (by cases h)⟩
    · exact ⟨o', by rw [hne' m h1 h2]; exact ho', rfl, rfl, id⟩
theorem var_at {ok : Nat → Prop} {ob : Ob} {oi : Own} (hb : isVar ob = true) (h : OR X w ok ob oi) : oi.live = true ∧ ∃ (g : Nat) (e0 : TypeId) (v0 : Value), oi.v = .pointer (some ⟨g, 0, none⟩) ∧ g ∈ oi.bs ∧ w.heap[g]? = some (.cells #[v0] e0 (0, 0)) := by
  cases ob <;> simp only [isVar, Bool.false_eq_true] at hb
  · obtain ⟨h0, g, e0, r, b1, b2, b3, b4, _⟩ := h
    exact ⟨h0, g, e0, r.v, b1, by rw [b2]; simp, b4⟩
  · obtain ⟨h0, g, e0, v, b1, b2, b3⟩ := h
    exact ⟨h0, g, e0, v, b1, by rw [b2]; simp, b3⟩
theorem row_one {ok : Nat → Prop} {e : Ty} {l : List e.den} {r : Own} (h : RowR X w ok e l r) : r.v.cells = #[r.v] ∧ r.v.oneCell' = true := by
  obtain ⟨_, _, _, h | ⟨g, c, cur, e, h, _⟩⟩ := h
  · rw [h.1]; exact ⟨rfl, rfl⟩
  · rw [h]; exact ⟨rfl, rfl⟩
theorem wr_vstore (hX : X.OK) (hE : tysOK P E.tys = true) (hr : HR X S w st.objs own) (ht : TR X w (okS S w own) own st.tmps a.tmps) {t : TypeId} {ti : TI} {e : Ty} {ad x : Operand} {i j : Nat} {l : List e.den} {r0 : Own} (hti : E.ti t = some ti) (hT : ti.T = .slice e)
    (hx : opd st ad = .ptr i 0) (hvar : isVar (Ob.get st.objs i) = true) (hij : j ≠ i) (ho : o.op = .store t ad x) (hxv : a.eval x = r0.v) (hrow : RowR X w (okS S w own) e l r0) (hrb : ∀ b ∈ r0.bs, ∃ oj, own[j]? = some oj ∧ b ∈ oj.bs)
    (hk : k (({ st with objs := (st.objs.set j .dead).set i (.vrow e l) } : St).put o.dst .skp) = some r) : WRk X P S w own o a st k r := by
  have he : execOp a.eval o = (do Instr.storeAt t (a.eval ad) (a.eval x); pure .skip) := by simp only [execOp, ho]
  have hTi := TIok.of_tys hE hti
  have hgi : st.objs[i]? = some (Ob.get st.objs i) := Ob.get_of rfl (by intro h; rw [h] at hvar; cases hvar)
  obtain ⟨oi, hoi, hor⟩ := hr.at hgi
  obtain ⟨h0, g, e0, v0, b1, b2, b3⟩ := var_at hvar hor
  have hva := opd_VR ht ad
  rw [hx] at hva
  obtain ⟨o2, g2, ho2, f1, f2⟩ := hva
  rw [hoi] at ho2; cases ho2
  rw [b1] at f1; cases f1
  obtain ⟨q1, q2⟩ := row_one hrow
  have hs : r0.v.cells.size = ti.T.size := by rw [q1, hT]; rfl
  obtain ⟨w', r1, r2, r3⟩ := run_store_block0 hTi hs g 0 e0 (0, 0) [] [v0] [] b3 rfl (by rw [q1]; rfl) (by simp) (by rw [q1]; intro y hy; simp at hy; subst hy; exact q2)
  have hnew : w'.heap[g]? = some (.cells #[r0.v] e0 (0, 0)) := by rw [r2, q1]; rfl
  obtain ⟨s1, s2, s3⟩ := vstore_hr hX hr hij hoi h0 b1 b2 r3 hnew hrow hrb
  exact ⟨_, _, hk, _, undef, w', _, by rw [he, Sem.run_bind, f2, hxv, r1]; rfl, .inr ⟨rfl, rfl⟩, s1, s2, s3, rfl⟩
theorem vload_sound (hX : X.OK) (hE : tysOK P E.tys = true) (hr : HR X S w st.objs own) (ht : TR X w (okS S w own) own st.tmps a.tmps) {t : TypeId} {ad : Operand} (ho : o.op = .load t ad) (h : vload E o t (opd st ad) st k = some r) : WRk X P S w own o a st k r := by
  unfold vload at h
  split at h
  · rename_i ti i hti hx
    split at h
    · rename_i e e' l hT hg
      split at h
      · rename_i l' hc
        obtain ⟨e1, e2⟩ := castTo_some hc
        cases e1; cases e2
        exact wr_vload hX hE hr ht hti hT hx hg ho h
      · cases h
    · cases h
  · cases h
theorem vstore_sound (hX : X.OK) (hE : tysOK P E.tys = true) (hr : HR X S w st.objs own) (ht : TR X w (okS S w own) own st.tmps a.tmps) {t : TypeId} {ad x : Operand} (ho : o.op = .store t ad x) (h : vstore E o t (opd st ad) (opd st x) st k = some r) : WRk X P S w own o a st k r := by
  unfold vstore at h
  split at h
  · rename_i ti i hti hx
    split at h
    · rename_i e hT hvar
      split at h
      · rename_i j hxj
        split at h
        · rename_i e' l hg
          split at h
          · rename_i l' hc
            obtain ⟨e1, e2⟩ := castTo_some hc
            cases e1; cases e2
            have hv := opd_VR ht x
            rw [hxj] at hv
            obtain ⟨oj, hoj, hlv⟩ := hv
            obtain ⟨oj', hoj', hor⟩ := hr.at (Ob.get_of hg (by simp))
            rw [hoj] at hoj'; cases hoj'
            have hij : j ≠ i := by intro h; subst h; rw [hg] at hvar; cases hvar
            exact wr_vstore hX hE hr ht hti hT hx hvar hij ho (hlv hor.1) hor (fun b hb => ⟨oj, hoj, hb⟩) h
          · cases h
        · cases h
      · rename_i hxn
        split at h
        · rename_i hsz
          have hv := opd_VR ht x
          rw [hxn] at hv
          have hi : i < st.objs.length := by
            rcases Nat.lt_or_ge i st.objs.length with h1 | h1
            · exact h1
            · rw [show Ob.get st.objs i = .dead by unfold Ob.get; rw [List.getD_eq_getElem?_getD, List.getElem?_eq_none h1]; rfl] at hvar
              cases hvar
          refine wr_vstore hX hE hr ht (j := st.objs.length) (l := []) (r0 := ⟨.slice none 0 0, [], true, e.size⟩) hti hT hx hvar (by omega) ho hv ⟨rfl, rfl, by simpa using hsz, .inl ⟨rfl, rfl, rfl⟩⟩ (fun b hb => by simp at hb) ?_
          rw [List.set_eq_of_length_le (Nat.le_refl _)]
          exact h
        · cases h
      · cases h
    · cases h
  · cases h
theorem wr_valloc (hX : X.OK) (hE : tysOK P E.tys = true) (hr : HR X S w st.objs own) (hS : ∀ b, w.heap.size ≤ b → S b) {t : TypeId} {ti : TI} {e : Ty} (hti : E.ti t = some ti) (hT : ti.T = .slice e) (hsz : Nat.blt 0 e.size = true) (ho : o.op = .alloc t)
    (hk : k (({ st with objs := st.objs ++ [.vrow e []] } : St).put o.dst (.ptr st.objs.length 0)) = some r) : WRk X P S w own o a st k r := by
  have he : execOp a.eval o = (do pure (.value (← Instr.alloc t true (.tuple #[])))) := by simp only [execOp, ho]
  obtain ⟨d, i, a1, a2, a3, a4, a5⟩ := (TIok.of_tys hE hti).ex
  obtain ⟨z, hz, hzz, _⟩ := a5.resolve_left (fun ⟨j, hj⟩ => by rw [hT] at hj; cases hj)
  have hzv : z.cells = #[.slice none 0 0] := by
    rw [hT] at hzz
    cases hc : z.cells.toList with
    | nil => rw [hc] at hzz; simp [isZero] at hzz
    | cons v vs =>
      rw [hc] at hzz
      simp only [isZero] at hzz
      split at hzz
      · rename_i hzc
        have hvs : vs = [] := Option.some.inj hzz
        subst hvs
        have hv : v = .slice none 0 0 := by
          cases v <;> simp only [zeroCell, Bool.false_eq_true] at hzc
          rename_i aa n c
          cases aa with
          | some aa => simp [zeroCell] at hzc
          | none => simp [zeroCell] at hzc; obtain ⟨rfl, rfl⟩ := hzc; rfl
        subst hv
        rw [← Array.toArray_toList (xs := z.cells), hc]
      · cases hzz
  have hz1 : (zeroValue t).run P w = .ok z w := by simp [zeroValue, typeInfo, a2, hz]
  refine wr_new hX hr (Frm.refl ..) (OwnLe.refl _) hS (on := ⟨.pointer (some ⟨w.heap.size, 0, none⟩), [w.heap.size], true, 0⟩) (v := .pointer (some ⟨w.heap.size, 0, none⟩)) (w' := w.alloc (.cells z.cells t)) he ?_ rfl rfl rfl (by simp) (fun b hb => Go.RowKit.Below.heap_alloc w _ b hb) (by simp) ?_ ?_ hk
  · simp [Instr.alloc, hz1, newVar, newRow]
  · intro ok' hok
    exact ⟨rfl, w.heap.size, t, ⟨.slice none 0 0, [], true, e.size⟩, rfl, rfl, by simp, by rw [heap_alloc_new, hzv], rfl, rfl, by simpa using hsz, .inl ⟨rfl, rfl, rfl⟩⟩
  · intro ok' ow how
    exact ⟨_, w.heap.size, how, rfl, rfl⟩
/-! Variables whose fields hold rows of their own. -/
theorem RepO.len {ok : Nat → Prop} {h : Option Nat} : ∀ (base : Nat) (T : Ty) (x : T.den) (vs : List Value) (bs : List Nat), RepO X w ok h base T x vs bs → vs.length = T.size
  | base, .pair a b, x, vs, bs, ⟨v1, v2, b1, b2, e1, e2, h1, h2⟩ => by rw [e1, List.length_append, RepO.len base a _ _ _ h1, RepO.len _ b _ _ _ h2]; rfl
  | base, .one a, x, vs, bs, h => RepO.len base a x vs bs h
  | base, .slice e, l, vs, bs, ⟨v, ev, _⟩ => by rw [ev]; rfl
  | _, .int _, x, vs, bs, ⟨_, h⟩ | _, .bool, x, vs, bs, ⟨_, h⟩ | _, .str, x, vs, bs, ⟨_, h⟩ | _, .unit, x, vs, bs, ⟨_, h⟩ | _, .ext _, x, vs, bs, ⟨_, h⟩ => Rep.len w ok _ _ _ h
theorem RepO.other {ok : Nat → Prop} {h h' : Option Nat} : ∀ (base : Nat) (T : Ty) (x : T.den) (vs : List Value) (bs : List Nat), (∀ p, base ≤ p → p < base + T.size → h ≠ some p ∧ h' ≠ some p) → RepO X w ok h base T x vs bs → RepO X w ok h' base T x vs bs
  | base, .pair a b, x, vs, bs, hp, ⟨v1, v2, b1, b2, e1, e2, h1, h2⟩ => by
    have hs : (Ty.pair a b).size = a.size + b.size := rfl
    exact ⟨v1, v2, b1, b2, e1, e2, RepO.other base a _ _ _ (fun p q1 q2 => hp p q1 (by omega)) h1, RepO.other _ b _ _ _ (fun p q1 q2 => hp p (by omega) (by omega)) h2⟩
  | base, .one a, x, vs, bs, hp, h => RepO.other base a x vs bs hp h
  | base, .slice e, l, vs, bs, hp, ⟨v, ev, h⟩ => by
    have hh := hp base (Nat.le_refl _) (by show base < base + 1; omega)
    rcases h with ⟨h1, _⟩ | ⟨_, h2⟩
    · exact absurd h1 hh.1
    · exact ⟨v, ev, .inr ⟨hh.2, h2⟩⟩
  | _, .int _, x, vs, bs, _, h | _, .bool, x, vs, bs, _, h | _, .str, x, vs, bs, _, h | _, .unit, x, vs, bs, _, h | _, .ext _, x, vs, bs, _, h => h
/-- One of the rows is taken out. -/
theorem RepO.out {ok : Nat → Prop} {e : Ty} {l : List e.den} : ∀ (base : Nat) (T : Ty) (x : T.den) (off : Nat) (cs : List Value) (bs : List Nat), peek T x off (.slice e) = some l → RepO X w ok none base T x cs bs →
    ∃ pre v post b1 b2, ∃ r : Own, cs = pre ++ [v] ++ post ∧ pre.length = off ∧ r.v = v ∧ bs = b1 ++ r.bs ++ b2 ∧ RowR X w ok e l r ∧ RepO X w ok (some (base + off)) base T x cs (b1 ++ b2)
  | base, .pair a b, x, off, cs, bs, h, hr => by
    obtain ⟨v1, v2, c1, c2, rfl, rfl, r1, r2⟩ := hr
    have l1 := RepO.len base a _ _ _ r1
    have rec' : (match Nat.blt off a.size with | true => peek a x.1 off (.slice e) | false => peek b x.2 (off - a.size) (.slice e)) = some l →
        ∃ pre v post b1 b2, ∃ r : Own, v1 ++ v2 = pre ++ [v] ++ post ∧ pre.length = off ∧ r.v = v ∧ c1 ++ c2 = b1 ++ r.bs ++ b2 ∧ RowR X w ok e l r ∧ RepO X w ok (some (base + off)) base (.pair a b) x (v1 ++ v2) (b1 ++ b2) := by
      intro h
      split at h
      · rename_i hb
        have hlt : off < a.size := by simpa using hb
        obtain ⟨pre, v, post, b1, b2, r, q1, q2, q3, q4, q5, q6⟩ := RepO.out base a _ _ _ _ h r1
        refine ⟨pre, v, post ++ v2, b1, b2 ++ c2, r, by rw [q1]; simp, q2, q3, by rw [q4]; simp, q5, v1, v2, b1 ++ b2, c2, rfl, by simp, q6, ?_⟩
        exact RepO.other _ b _ _ _ (fun p p1 p2 => ⟨by simp, by simp; omega⟩) r2
      · rename_i hb
        have hge : a.size ≤ off := by
          rcases Nat.lt_or_ge off a.size with h1 | h1
          · rw [show Nat.blt off a.size = true by simpa using h1] at hb; cases hb
          · exact h1
        obtain ⟨pre, v, post, b1, b2, r, q1, q2, q3, q4, q5, q6⟩ := RepO.out (base + a.size) b _ _ _ _ h r2
        rw [show base + a.size + (off - a.size) = base + off by omega] at q6
        refine ⟨v1 ++ pre, v, post, c1 ++ b1, b2, r, by rw [q1]; simp, by simp [l1, q2]; omega, q3, by rw [q4]; simp, q5, v1, v2, c1, b1 ++ b2, rfl, by simp, ?_, q6⟩
        exact RepO.other _ a _ _ _ (fun p p1 p2 => ⟨by simp, by simp; omega⟩) r1
    unfold peek at h
    split at h
    · split at h
      · rename_i y hc
        obtain ⟨e1, _⟩ := castTo_some hc
        cases e1
      · exact rec' h
    · exact rec' h
  | base, .one a, x, off, cs, bs, h, hr => by
    unfold peek at h
    split at h
    · split at h
      · rename_i y hc
        obtain ⟨e1, _⟩ := castTo_some hc
        cases e1
      · exact RepO.out base a x off cs bs h hr
    · exact RepO.out base a x off cs bs h hr
  | base, .slice e', x, off, cs, bs, h, hr => by
    unfold peek at h
    split at h
    · rename_i h0
      simp at h0
      obtain ⟨e1, e2⟩ := castTo_some h
      cases e1; cases e2
      obtain ⟨v, rfl, hr⟩ := hr
      rcases hr with ⟨h1, _⟩ | ⟨_, r, h2, h3, h4⟩
      · cases h1
      · exact ⟨[], v, [], [], [], r, by simp, by simp [h0], h2, by simp [h3], h4, v, rfl, .inl ⟨by rw [h0]; rfl, rfl⟩⟩
    · cases h
  | _, .int _, x, off, cs, bs, h, hr | _, .bool, x, off, cs, bs, h, hr | _, .str, x, off, cs, bs, h, hr | _, .unit, x, off, cs, bs, h, hr | _, .ext _, x, off, cs, bs, h, hr => by
    unfold peek at h
    split at h
    · obtain ⟨e1, _⟩ := castTo_some h
      cases e1
    · cases h
/-- A row comes back. -/
theorem RepO.back {ok : Nat → Prop} {e : Ty} {l : (Ty.slice e).den} {r : Own} (hrow : RowR X w ok e l r) : ∀ (base : Nat) (T : Ty) (x x' : T.den) (off : Nat) (cs : List Value) (bs : List Nat), poke T x off (.slice e) l = some x' → RepO X w ok (some (base + off)) base T x cs bs →
    ∃ pre u post b1 b2, cs = pre ++ [u] ++ post ∧ pre.length = off ∧ bs = b1 ++ b2 ∧ RepO X w ok none base T x' (pre ++ [r.v] ++ post) (b1 ++ r.bs ++ b2)
  | base, .pair a b, x, x', off, cs, bs, h, hr => by
    obtain ⟨v1, v2, c1, c2, rfl, rfl, r1, r2⟩ := hr
    have l1 := RepO.len base a _ _ _ r1
    have rec' : (match Nat.blt off a.size with
        | true => match poke a x.1 off (.slice e) l with | some z => some (z, x.2) | none => none
        | false => match poke b x.2 (off - a.size) (.slice e) l with | some z => some (x.1, z) | none => none) = some x' →
        ∃ pre u post b1 b2, v1 ++ v2 = pre ++ [u] ++ post ∧ pre.length = off ∧ c1 ++ c2 = b1 ++ b2 ∧ RepO X w ok none base (.pair a b) x' (pre ++ [r.v] ++ post) (b1 ++ r.bs ++ b2) := by
      intro h
      split at h
      · rename_i hb
        have hlt : off < a.size := by simpa using hb
        split at h
        · rename_i z hz
          cases h
          obtain ⟨pre, u, post, b1, b2, q1, q2, q3, q4⟩ := RepO.back hrow base a _ _ _ _ _ hz r1
          refine ⟨pre, u, post ++ v2, b1, b2 ++ c2, by rw [q1]; simp, q2, by rw [q3]; simp, pre ++ [r.v] ++ post, v2, b1 ++ r.bs ++ b2, c2, by simp, by simp, q4, ?_⟩
          exact RepO.other _ b _ _ _ (fun p p1 p2 => ⟨by simp; omega, by simp⟩) r2
        · cases h
      · rename_i hb
        have hge : a.size ≤ off := by
          rcases Nat.lt_or_ge off a.size with h1 | h1
          · rw [show Nat.blt off a.size = true by simpa using h1] at hb; cases hb
          · exact h1
        split at h
        · rename_i z hz
          cases h
          rw [show base + off = base + a.size + (off - a.size) by omega] at r2
          obtain ⟨pre, u, post, b1, b2, q1, q2, q3, q4⟩ := RepO.back hrow (base + a.size) b _ _ _ _ _ hz r2
          refine ⟨v1 ++ pre, u, post, c1 ++ b1, b2, by rw [q1]; simp, by simp [l1, q2]; omega, by rw [q3]; simp, v1, pre ++ [r.v] ++ post, c1, b1 ++ r.bs ++ b2, by simp, by simp, ?_, q4⟩
          exact RepO.other _ a _ _ _ (fun p p1 p2 => ⟨by simp; omega, by simp⟩) r1
        · cases h
    unfold poke at h
    split at h
    · split at h
      · rename_i y hc
        obtain ⟨e1, _⟩ := castTo_some hc
        cases e1
      · exact rec' h
    · exact rec' h
  | base, .one a, x, x', off, cs, bs, h, hr => by
    unfold poke at h
    split at h
    · split at h
      · rename_i y hc
        obtain ⟨e1, _⟩ := castTo_some hc
        cases e1
      · exact RepO.back hrow base a x x' off cs bs h hr
    · exact RepO.back hrow base a x x' off cs bs h hr
  | base, .slice e', x, x', off, cs, bs, h, hr => by
    unfold poke at h
    split at h
    · rename_i h0
      simp at h0
      obtain ⟨e1, e2⟩ := castTo_some h
      cases e1; cases e2
      obtain ⟨v, rfl, hr⟩ := hr
      rcases hr with ⟨_, h2⟩ | ⟨h1, _⟩
      · exact ⟨[], v, [], [], [], by simp, by simp [h0], by simp [h2], r.v, by simp, .inr ⟨by simp, r, rfl, by simp, hrow⟩⟩
      · exact absurd (by rw [h0]; rfl) h1
    · cases h
  | _, .int _, x, x', off, cs, bs, h, hr | _, .bool, x, x', off, cs, bs, h, hr | _, .str, x, x', off, cs, bs, h, hr | _, .unit, x, x', off, cs, bs, h, hr | _, .ext _, x, x', off, cs, bs, h, hr => by
    unfold poke at h
    split at h
    · obtain ⟨e1, _⟩ := castTo_some h
      cases e1
    · cases h
/-- With its rows frozen it is data. -/
theorem RepO.rep (hX : X.OK) {ok ok' : Nat → Prop} (hok : ∀ b, ok b → ok' b) : ∀ (base : Nat) (T : Ty) (x : T.den) (cs : List Value) (bs : List Nat), (∀ b ∈ bs, ok' b) → RepO X w ok none base T x cs bs → Rep X w ok' T x cs
  | base, .pair a b, x, cs, bs, hb, ⟨v1, v2, b1, b2, e1, e2, h1, h2⟩ => ⟨v1, v2, e1, RepO.rep hX hok base a _ _ _ (fun c hc => hb c (by simp [e2, hc])) h1, RepO.rep hX hok _ b _ _ _ (fun c hc => hb c (by simp [e2, hc])) h2⟩
  | base, .one a, x, cs, bs, hb, h => RepO.rep hX hok base a x cs bs hb h
  | base, .slice e, l, cs, bs, hb, ⟨v, ev, h⟩ => by
    rcases h with ⟨h1, _⟩ | ⟨_, r, h2, h3, h4, h5, h6, h7⟩
    · cases h1
    · subst ev h2
      rcases h7 with ⟨e1, rfl, _⟩ | ⟨g, c, cur, e', e1, e2, e3, e4, e5, e6, e7⟩
      · exact ⟨none, 0, by simp [e1], Nat.le_refl _, by simp, .inl rfl⟩
      · exact ⟨_, c, by rw [e1], e4, e5, .inr ⟨g, 0, _, rfl, hb g (by rw [h3, e2]; simp), CellsAt.of_row e3 _, e7.1.imp (Rep.mono hX (fun b hb => ⟨hok b hb, rfl⟩) e)⟩⟩
  | _, .int _, x, cs, bs, _, ⟨_, h⟩ | _, .bool, x, cs, bs, _, ⟨_, h⟩ | _, .str, x, cs, bs, _, ⟨_, h⟩ | _, .unit, x, cs, bs, _, ⟨_, h⟩ | _, .ext _, x, cs, bs, _, ⟨_, h⟩ => Rep.mono hX (fun b hb => ⟨hok b hb, rfl⟩) _ _ _ h
/-- Whose slices are nil. -/
theorem RepO.of_nil {ok : Nat → Prop} : ∀ (base : Nat) (T : Ty) (x : T.den) (cs : List Value), Rep X w ok T x cs → NilS T cs → RepO X w ok none base T x cs []
  | base, .pair a b, x, cs, h, ⟨u1, u2, f1, f2, f3, f4⟩ => by
    obtain ⟨v1, v2, e1, h1, h2⟩ := h
    have hl := Rep.len w ok _ _ _ h1
    obtain ⟨g1, g2⟩ := List.append_inj (f1.symm.trans e1) (by rw [f2, hl])
    subst g1 g2
    exact ⟨u1, u2, [], [], e1, rfl, RepO.of_nil base a _ _ h1 f3, RepO.of_nil _ b _ _ h2 f4⟩
  | base, .one a, x, cs, h, hn => RepO.of_nil base a x cs h hn
  | base, .slice e, l, cs, ⟨A, c, ev, h1, h2, h3⟩, ⟨hn, hs⟩ => by
    rw [hn] at ev
    have e1 : A = none ∧ l.length = 0 ∧ c = 0 := by
      have := List.cons.inj ev |>.1
      simp at this
      exact ⟨this.1.symm, this.2.1.symm, this.2.2.symm⟩
    have hl : l = [] := List.eq_nil_of_length_eq_zero e1.2.1
    subst hl
    exact ⟨_, hn, .inr ⟨by simp, ⟨.slice none 0 0, [], true, e.size⟩, rfl, rfl, rfl, rfl, hs, .inl ⟨rfl, rfl, rfl⟩⟩⟩
  | _, .int _, x, cs, h, _ | _, .bool, x, cs, h, _ | _, .str, x, cs, h, _ | _, .unit, x, cs, h, _ | _, .ext _, x, cs, h, _ => ⟨rfl, h⟩
/-- A thing's memory is another part of what it was; some of it goes over to a new thing. -/
theorem part_hr (hX : X.OK) {objs : List Ob} (h : HR X S w objs own) {i : Nat} {oi : Own} (hoi : own[i]? = some oi) (hlive : oi.live = true) {nb : List Nat} (hnb : ∀ b ∈ nb, b ∈ oi.bs) (ob' : Ob)
    (hor : ∀ ok' : Nat → Prop, (∀ b, okS S w own b → ok' b) → (∀ b ∈ oi.bs, b ∉ nb → ok' b) → OR X w ok' ob' ⟨oi.v, nb, true, oi.sz⟩) :
    HR X S w (objs.set i ob') (own.set i ⟨oi.v, nb, true, oi.sz⟩) ∧ Frm S w own w (own.set i ⟨oi.v, nb, true, oi.sz⟩) ∧ OwnLe own (own.set i ⟨oi.v, nb, true, oi.sz⟩) := by
  have hlo : i < own.length := (List.getElem?_eq_some_iff.1 hoi).1
  have hlj : i < objs.length := by rw [← h.len]; exact hlo
  have only : ∀ j o', (own.set i ⟨oi.v, nb, true, oi.sz⟩)[j]? = some o' → (j = i ∨ own.length ≤ j) → j = i ∧ o' = ⟨oi.v, nb, true, oi.sz⟩ := by
    intro j o' h1 h2
    have h3 := (List.getElem?_eq_some_iff.1 h1).1
    simp at h3
    have : j = i := by omega
    subst this
    rw [List.getElem?_set_self hlo] at h1; cases h1
    exact ⟨rfl, rfl⟩
  have key := h.changeF hX (w' := w) (objs' := objs.set i ob') (own' := own.set i ⟨oi.v, nb, true, oi.sz⟩) rfl rfl rfl (by simp [h.len]) (by simp) (Nat.le_refl _) (· = i)
    (fun j hj hne => by rw [List.getElem?_set_ne (Ne.symm hne), List.getElem?_set_ne (Ne.symm hne)]; exact ⟨rfl, rfl⟩)
    (fun b _ _ => rfl)
    (fun j o' b hj hc hb => by
      obtain ⟨rfl, rfl⟩ := only j o' hj hc
      have hb' := hnb b hb
      exact ⟨(h.lt _ _ b hoi hb').1, (h.lt _ _ b hoi hb').2, .inr ⟨_, _, rfl, hoi, hb'⟩⟩)
    (fun j k oj ok b hj hk hoj hok _ _ => by rw [(only j oj hoj hj).1, (only k ok hok hk).1])
    (fun hok j ob o' hc hob ho' => by
      obtain ⟨rfl, rfl⟩ := only j o' ho' hc
      rw [List.getElem?_set_self hlj] at hob; cases hob
      refine hor _ (fun b hb => (hok b hb).1) fun b hb hn => ⟨(h.lt _ _ b hoi hb).2, (h.lt _ _ b hoi hb).1, fun o2 ho2 hb2 => ?_⟩
      obtain ⟨m, hm⟩ := List.mem_iff_getElem?.1 ho2
      by_cases hjm : j = m
      · subst hjm
        rw [List.getElem?_set_self hlo] at hm; cases hm
        exact hn hb2
      · rw [List.getElem?_set_ne hjm] at hm
        exact hjm (h.dis j m _ _ b hoi hm hb hb2))
  refine ⟨key.1, key.2, fun j o' hj => ?_⟩
  by_cases hij : i = j
  · subst hij; rw [hoi] at hj; cases hj
    exact ⟨_, List.getElem?_set_self hlo, rfl, rfl, fun _ => hlive⟩
  · exact ⟨o', by rw [List.getElem?_set_ne hij]; exact hj, rfl, rfl, id⟩
theorem mid_nodup {c1 c2 rb : List Nat} (h : (c1 ++ rb ++ c2).Nodup) : (c1 ++ c2).Nodup ∧ ∀ b ∈ rb, b ∉ c1 ++ c2 := by
  obtain ⟨h1, h2, h3⟩ := List.nodup_append.1 h
  obtain ⟨h4, h5, h6⟩ := List.nodup_append.1 h1
  refine ⟨List.nodup_append.2 ⟨h4, h2, fun a ha b hb => h3 a (by simp [ha]) b hb⟩, fun b hb hc => ?_⟩
  rcases List.mem_append.1 hc with hc | hc
  · exact h6 b hc b hb rfl
  · exact h3 b (by simp [hb]) b hc rfl
theorem cellsAt_all {g : Nat} {cs : List Value} {e : TypeId} (h : w.heap[g]? = some (.cells cs.toArray e (0, 0))) : CellsAt w g 0 cs := by
  intro j v hj
  rw [Nat.zero_add, cell_of_row w g j _ e _ h]
  simpa using hj
theorem wr_sload_row (hX : X.OK) (hE : tysOK P E.tys = true) (hr : HR X S w st.objs own) (ht : TR X w (okS S w own) own st.tmps a.tmps) {t : TypeId} {ti : TI} {e T : Ty} {x : T.den} {ad : Operand} {i off : Nat} {l : (Ty.slice e).den} (hti : E.ti t = some ti) (hT : ti.T = .slice e)
    (hx : opd st ad = .ptr i off) (hg : Ob.get st.objs i = .vst T x none) (hp : peek T x off (.slice e) = some l) (ho : o.op = .load t ad)
    (hk : k (({ st with objs := st.objs.set i (.vst T x (some off)) ++ [.row e l] } : St).put o.dst (.ref st.objs.length)) = some r) : WRk X P S w own o a st k r := by
  have hgi := Ob.get_of hg (by simp)
  obtain ⟨oi, hoi, h0, g, cs, e0, bs, b1, b2, b3, b4, b5, b6⟩ := hr.at hgi
  obtain ⟨pre, v, post, c1, c2, ro, q1, q2, q3, q4, hrow, q6⟩ := RepO.out 0 T x off cs bs hp b6
  rw [Nat.zero_add] at q6
  obtain ⟨n1, n2⟩ := mid_nodup (q4 ▸ b4)
  have hgn : g ∉ c1 ++ c2 := fun hb => b3 (by rw [q4]; simp at hb ⊢; rcases hb with hb | hb <;> simp [hb])
  have hgr : g ∉ ro.bs := fun hb => b3 (by rw [q4]; simp [hb])
  have hv := opd_VR ht ad
  rw [hx] at hv
  obtain ⟨o2, g2, ho2, f1, f2⟩ := hv
  rw [hoi] at ho2; cases ho2
  rw [b1] at f1; cases f1
  have he : execOp a.eval o = (do pure (.value (← Instr.loadAt t (a.eval ad)))) := by simp only [execOp, ho]
  have hrun : (Instr.loadAt t (a.eval ad)).run P w = .ok ro.v w := by
    rw [f2]
    simp only [Instr.loadAt, Instr.sureAddr, Sem.run_bind, Sem.run_pure, Result.andThen_ok]
    have hTi := TIok.of_tys hE hti
    obtain ⟨T, tb⟩ := ti
    subst hT
    obtain ⟨A, c, p1, p2, p3, p4⟩ := RowAt.of_row (show OR X w (okS S w own) (.row e l) ro from hrow)
    have hrep : Rep X w (fun _ => True) (.slice e) l [ro.v] := by
      refine ⟨A, c, by rw [p1], p2, p3, p4.imp id fun ⟨b, off, cs, r1, _, r2, r3⟩ => ⟨b, off, cs, r1, trivial, r2, r3.imp (Rep.mono hX (fun b _ => ⟨trivial, rfl⟩) e)⟩⟩
    have hc : CellsAt w g off [ro.v] := by
      intro j u hj
      cases j with
      | succ j => simp at hj
      | zero =>
        simp at hj
        subst hj
        rw [cell_of_row w g _ _ e0 _ b5, q1, q3, ← q2]
        simp
    exact hTi.load hc hrep
  have hlo : i < own.length := (List.getElem?_eq_some_iff.1 hoi).1
  have hat : (own.set i ⟨oi.v, g :: (c1 ++ c2), true, oi.sz⟩ ++ [ro])[i]? = some ⟨oi.v, g :: (c1 ++ c2), true, oi.sz⟩ := by
    rw [List.getElem?_append_left (by simpa using hlo), List.getElem?_set_self hlo]
  have ge : ∀ j o', (own.set i ⟨oi.v, g :: (c1 ++ c2), true, oi.sz⟩ ++ [ro])[j]? = some o' → (j = i ∨ own.length ≤ j) → (j = i ∧ o' = ⟨oi.v, g :: (c1 ++ c2), true, oi.sz⟩) ∨ (j = own.length ∧ o' = ro) := by
    intro j o' h1 h2
    rcases h2 with rfl | h2
    · rw [hat] at h1; cases h1; exact .inl ⟨rfl, rfl⟩
    · have h3 := (List.getElem?_eq_some_iff.1 h1).1
      simp at h3
      have : j = own.length := by omega
      subst this
      rw [List.getElem?_append_right (by simp)] at h1
      simp at h1
      exact .inr ⟨rfl, h1.symm⟩
  have key := hr.changeF hX (w' := w) (objs' := st.objs.set i (.vst T x (some off)) ++ [.row e l]) (own' := own.set i ⟨oi.v, g :: (c1 ++ c2), true, oi.sz⟩ ++ [ro]) rfl rfl rfl (by simp [hr.len]) (by simp) (Nat.le_refl _) (· = i)
    (fun j hj hne => ⟨by rw [List.getElem?_append_left (by simpa using hj), List.getElem?_set_ne (Ne.symm hne)], by rw [List.getElem?_append_left (by rw [List.length_set, ← hr.len]; exact hj), List.getElem?_set_ne (Ne.symm hne)]⟩)
    (fun _ _ _ => rfl)
    (fun j o' b hj hc hb => by
      have hb' : b ∈ oi.bs := by
        rw [b2, q4]
        rcases ge j o' hj hc with ⟨_, rfl⟩ | ⟨_, rfl⟩
        · simp at hb ⊢; rcases hb with hb | hb | hb <;> simp [hb]
        · simp [hb]
      exact ⟨(hr.lt i _ b hoi hb').1, (hr.lt i _ b hoi hb').2, .inr ⟨i, _, rfl, hoi, hb'⟩⟩)
    (fun j j' oj oj' b hj hj' hoj hoj' hb hb' => by
      rcases ge j oj hoj hj with ⟨e1, rfl⟩ | ⟨e1, rfl⟩ <;> rcases ge j' oj' hoj' hj' with ⟨e2, rfl⟩ | ⟨e2, rfl⟩
      · rw [e1, e2]
      · rcases List.mem_cons.1 hb with rfl | hb
        · exact absurd hb' hgr
        · exact absurd hb (n2 b hb')
      · rcases List.mem_cons.1 hb' with rfl | hb'
        · exact absurd hb hgr
        · exact absurd hb' (n2 b hb)
      · rw [e1, e2])
    (fun hok j ob' o' hc hob' ho' => by
      rcases ge j o' ho' hc with ⟨rfl, rfl⟩ | ⟨e1, e2⟩
      · rw [List.getElem?_append_left (by rw [List.length_set, ← hr.len]; exact hlo), List.getElem?_set_self (by rw [← hr.len]; exact hlo)] at hob'
        cases hob'
        exact ⟨rfl, g, cs, e0, c1 ++ c2, b1, rfl, hgn, n1, b5, RepO.mono hX hok 0 T x cs _ (fun _ _ => rfl) q6⟩
      · subst e1 e2
        rw [hr.len, List.getElem?_append_right (by simp)] at hob'
        simp at hob'
        subst hob'
        exact RowR.mono hX hok (fun _ _ => rfl) hrow)
  refine ⟨_, _, hk, _, ro.v, w, _, by rw [he, Sem.run_bind, hrun]; rfl, .inl rfl, key.1, key.2, fun j o' ho' => ?_, ⟨ro, ?_, fun _ => rfl⟩⟩
  · by_cases hji : j = i
    · subst hji
      rw [hoi] at ho'; cases ho'
      exact ⟨_, hat, rfl, rfl, fun _ => h0⟩
    · exact ⟨o', by rw [List.getElem?_append_left (by rw [List.length_set]; exact (List.getElem?_eq_some_iff.1 ho').1), List.getElem?_set_ne (Ne.symm hji)]; exact ho', rfl, rfl, id⟩
  · rw [← hr.len, List.getElem?_append_right (by simp)]; simp
theorem wr_sload_all (hX : X.OK) (hE : tysOK P E.tys = true) (hr : HR X S w st.objs own) (ht : TR X w (okS S w own) own st.tmps a.tmps) {t : TypeId} {ti : TI} {x : ti.T.den} {ad : Operand} {i : Nat} (hti : E.ti t = some ti)
    (hx : opd st ad = .ptr i 0) (hg : Ob.get st.objs i = .vst ti.T x none) (ho : o.op = .load t ad)
    (hk : k (({ st with objs := st.objs.set i (.var ti.T x) } : St).put o.dst (inject ti.T x)) = some r) : WRk X P S w own o a st k r := by
  have hgi := Ob.get_of hg (by simp)
  obtain ⟨oi, hoi, h0, g, cs, e0, bs, b1, b2, b3, b4, b5, b6⟩ := hr.at hgi
  have hv := opd_VR ht ad
  rw [hx] at hv
  obtain ⟨o2, g2, ho2, f1, f2⟩ := hv
  rw [hoi] at ho2; cases ho2
  rw [b1] at f1; cases f1
  have he : execOp a.eval o = (do pure (.value (← Instr.loadAt t (a.eval ad)))) := by simp only [execOp, ho]
  have hrun : (Instr.loadAt t (a.eval ad)).run P w = .ok (joined ti.T cs) w := by
    rw [f2]
    simp only [Instr.loadAt, Instr.sureAddr, Sem.run_bind, Sem.run_pure, Result.andThen_ok]
    exact (TIok.of_tys hE hti).load (ok := fun _ => True) (cellsAt_all b5) (RepO.rep hX (fun _ _ => trivial) 0 _ _ _ _ (fun _ _ => trivial) b6)
  obtain ⟨p1, p2, p3⟩ := part_hr hX hr hoi h0 (nb := [g]) (fun b hb => by rw [b2]; simp at hb; simp [hb]) (.var ti.T x) (fun ok' k1 k2 =>
    ⟨rfl, g, cs, e0, b1, rfl, b5, RepO.rep hX k1 0 _ _ _ _ (fun b hb => k2 b (by rw [b2]; simp [hb]) (fun hb2 => by simp at hb2; subst hb2; exact b3 hb)) b6⟩)
  have hlo : i < own.length := (List.getElem?_eq_some_iff.1 hoi).1
  have hlj : i < st.objs.length := (List.getElem?_eq_some_iff.1 hgi).1
  have hnew := p1.obj i _ _ (List.getElem?_set_self hlj) (List.getElem?_set_self hlo)
  obtain ⟨_, g', cs', e', r1, r2, r3, r4⟩ := hnew
  have : g' = g := by simpa using r2.symm
  subst this
  rw [b5] at r3
  have hcs : cs = cs' := (by simpa using r3 : cs = cs' ∧ e0 = e').1
  subst hcs
  exact ⟨_, _, hk, _, joined ti.T cs, w, _, by rw [he, Sem.run_bind, hrun]; rfl, .inl rfl, p1, p2, p3, inject_VR r4⟩
theorem sload_sound (hX : X.OK) (hE : tysOK P E.tys = true) (hr : HR X S w st.objs own) (ht : TR X w (okS S w own) own st.tmps a.tmps) {t : TypeId} {ad : Operand} (ho : o.op = .load t ad) (h : sload E o t (opd st ad) st k = some r) : WRk X P S w own o a st k r := by
  unfold sload at h
  split at h
  · rename_i ti i off hti hx
    split at h
    · rename_i T x hg
      split at h
      · rename_i e hT
        split at h
        · rename_i l hp
          exact wr_sload_row hX hE hr ht hti hT hx hg hp ho h
        · cases h
      · split at h
        · rename_i y hb hc
          obtain ⟨e1, e2⟩ := castTo_some hc
          subst e1; cases e2
          have h0 : off = 0 := by simpa using hb
          subst h0
          exact wr_sload_all hX hE hr ht hti hx hg ho h
        · cases h
    · cases h
  · cases h
theorem setkill_hr (hX : X.OK) {objs : List Ob} (h : HR X S w objs own) {i j : Nat} {oi : Own} (hij : j ≠ i) (hoi : own[i]? = some oi) (hlive : oi.live = true) {g : Nat} (hgb : g ∈ oi.bs)
    {w' : World} (ht : Turned g w w') {nb : List Nat} (hnb : ∀ b ∈ nb, b ∈ oi.bs ∨ ∃ oj, own[j]? = some oj ∧ b ∈ oj.bs) (ob : Ob) (hor : ∀ ok' : Nat → Prop, (∀ b, okS S w own b → ok' b ∧ w'.heap[b]? = w.heap[b]?) → OR X w' ok' ob ⟨oi.v, nb, true, oi.sz⟩) :
    HR X S w' ((objs.set j .dead).set i ob) ((own.modify j kill).set i ⟨oi.v, nb, true, oi.sz⟩) ∧ Frm S w own w' ((own.modify j kill).set i ⟨oi.v, nb, true, oi.sz⟩) ∧ OwnLe own ((own.modify j kill).set i ⟨oi.v, nb, true, oi.sz⟩) := by
  have hlo : i < own.length := (List.getElem?_eq_some_iff.1 hoi).1
  have hat : ((own.modify j kill).set i ⟨oi.v, nb, true, oi.sz⟩)[i]? = some ⟨oi.v, nb, true, oi.sz⟩ := List.getElem?_set_self (by simpa using hlo)
  have hne' : ∀ m, m ≠ i → m ≠ j → ((own.modify j kill).set i ⟨oi.v, nb, true, oi.sz⟩)[m]? = own[m]? := fun m h1 h2 => by
    rw [List.getElem?_set_ne (Ne.symm h1), List.getElem?_modify_ne kill own (Ne.symm h2)]
  have hj' : ((own.modify j kill).set i ⟨oi.v, nb, true, oi.sz⟩)[j]? = own[j]?.map kill := by
    rw [List.getElem?_set_ne (Ne.symm hij), List.getElem?_modify_eq]; rfl
  have hlen' : ((own.modify j kill).set i ⟨oi.v, nb, true, oi.sz⟩).length = own.length := by simp
  have ge : ∀ m o', ((own.modify j kill).set i ⟨oi.v, nb, true, oi.sz⟩)[m]? = some o' → ((m = i ∨ m = j) ∨ own.length ≤ m) → (m = i ∧ o' = ⟨oi.v, nb, true, oi.sz⟩) ∨ (m = j ∧ ∃ oj, own[j]? = some oj ∧ o' = kill oj) := by
    intro m o' h1 h2
    have h3 := (List.getElem?_eq_some_iff.1 h1).1
    rw [hlen'] at h3
    rcases h2 with (rfl | rfl) | h2
    · rw [hat] at h1; cases h1; exact .inl ⟨rfl, rfl⟩
    · rw [hj'] at h1
      cases hh : own[m]? with
      | none => rw [hh] at h1; cases h1
      | some oj => rw [hh] at h1; cases h1; exact .inr ⟨rfl, oj, rfl, rfl⟩
    · omega
  have key := h.changeF hX (w' := w') (objs' := (objs.set j .dead).set i ob) (own' := (own.modify j kill).set i ⟨oi.v, nb, true, oi.sz⟩) ht.os ht.tape ht.output (by simp [h.len]) (by rw [hlen']; exact Nat.le_refl _) (by rw [ht.size]; exact Nat.le_refl _) (fun m => m = i ∨ m = j)
    (fun m hm hne => ⟨hne' m (fun h => hne (.inl h)) (fun h => hne (.inr h)), by rw [List.getElem?_set_ne (fun h => hne (.inl h.symm)), List.getElem?_set_ne (fun h => hne (.inr h.symm))]⟩)
    (fun b hb hn => ht.blk b (fun hbg => hn i oi (.inl rfl) hoi (by rw [hbg]; exact hgb)))
    (fun m o' b hm hc hb => by
      rcases ge m o' hm hc with ⟨_, rfl⟩ | ⟨_, oj, _, rfl⟩
      · rcases hnb b hb with hb | ⟨oj, h1, h2⟩
        · exact ⟨by rw [ht.size]; exact (h.lt i _ _ hoi hb).1, (h.lt i _ _ hoi hb).2, .inr ⟨i, oi, .inl rfl, hoi, hb⟩⟩
        · exact ⟨by rw [ht.size]; exact (h.lt j _ _ h1 h2).1, (h.lt j _ _ h1 h2).2, .inr ⟨j, oj, .inr rfl, h1, h2⟩⟩
      · simp [kill] at hb)
    (fun m m' om om' b hm hm' hom hom' hb hb' => by
      rcases ge m om hom hm with ⟨e1, rfl⟩ | ⟨e1, oj, _, rfl⟩
      · rcases ge m' om' hom' hm' with ⟨e2, rfl⟩ | ⟨e2, oj, _, rfl⟩
        · rw [e1, e2]
        · simp [kill] at hb'
      · simp [kill] at hb)
    (fun hok m ob' o' hc hob' ho' => by
      rcases ge m o' ho' hc with ⟨rfl, rfl⟩ | ⟨rfl, oj, hoj, rfl⟩
      · rw [List.getElem?_set_self (by simp [← h.len]; exact hlo)] at hob'
        cases hob'
        exact hor _ hok
      · have hjl : m < objs.length := by rw [← h.len]; exact (List.getElem?_eq_some_iff.1 hoj).1
        rw [List.getElem?_set_ne (Ne.symm hij), List.getElem?_set_self hjl] at hob'
        cases hob'
        exact ⟨rfl, rfl⟩)
  refine ⟨key.1, key.2, fun m o' ho' => ?_⟩
  by_cases h1 : m = i
  · subst h1
    rw [hoi] at ho'; cases ho'
    exact ⟨_, hat, rfl, rfl, fun _ => hlive⟩
  · by_cases h2 : m = j
    · subst h2
      exact ⟨kill o', by rw [hj', ho']; rfl, rfl, rfl, fun h => (by cases h)⟩
    · exact ⟨o', by rw [hne' m h1 h2]; exact ho', rfl, rfl, id⟩
theorem wr_sstore (hX : X.OK) (hE : tysOK P E.tys = true) (hr : HR X S w st.objs own) (ht : TR X w (okS S w own) own st.tmps a.tmps) {t : TypeId} {ti : TI} {e T : Ty} {z z' : T.den} {ad x : Operand} {i j off : Nat} {l : (Ty.slice e).den} (hti : E.ti t = some ti) (hT : ti.T = .slice e)
    (hx : opd st ad = .ptr i off) (hg : Ob.get st.objs i = .vst T z (some off)) (hxj : opd st x = .ref j) (hgj : Ob.get st.objs j = .row e l) (hp : poke T z off (.slice e) l = some z') (ho : o.op = .store t ad x)
    (hk : k (({ st with objs := (st.objs.set j .dead).set i (.vst T z' none) } : St).put o.dst .skp) = some r) : WRk X P S w own o a st k r := by
  have he : execOp a.eval o = (do Instr.storeAt t (a.eval ad) (a.eval x); pure .skip) := by simp only [execOp, ho]
  have hTi := TIok.of_tys hE hti
  have hij : j ≠ i := by intro h; subst h; rw [hg] at hgj; cases hgj
  obtain ⟨oi, hoi, h0, g, cs, e0, bs, b1, b2, b3, b4, b5, b6⟩ := hr.at (Ob.get_of hg (by simp))
  have hv := opd_VR ht x
  rw [hxj] at hv
  obtain ⟨oj, hoj, hlv⟩ := hv
  obtain ⟨oj', hoj', hor⟩ := hr.at (Ob.get_of hgj (by simp))
  rw [hoj] at hoj'; cases hoj'
  have hrow : RowR X w (okS S w own) e l oj := hor
  have hxv := hlv hor.1
  rw [show (some off : Option Nat) = some (0 + off) by rw [Nat.zero_add]] at b6
  obtain ⟨pre, u, post, c1, c2, q1, q2, q3, q4⟩ := RepO.back hrow 0 T z z' off cs bs hp b6
  have hva := opd_VR ht ad
  rw [hx] at hva
  obtain ⟨o2, g2, ho2, f1, f2⟩ := hva
  rw [hoi] at ho2; cases ho2
  rw [b1] at f1; cases f1
  obtain ⟨s1, s2⟩ := row_one hrow
  have hs : oj.v.cells.size = ti.T.size := by rw [s1, hT]; rfl
  rw [q1] at b5
  obtain ⟨w', r1, r2, r3⟩ := run_store_block0 hTi hs g off e0 (0, 0) pre [u] post b5 q2 (by rw [s1]; rfl) (by simp) (by rw [s1]; intro y hy; simp at hy; subst hy; exact s2)
  have hnew : w'.heap[g]? = some (.cells (pre ++ [oj.v] ++ post).toArray e0 (0, 0)) := by rw [r2, s1]
  have dj : ∀ b ∈ oj.bs, b ∉ oi.bs := fun b hb hb2 => hij (hr.dis j i oj oi b hoj hoi hb hb2)
  have hgj' : g ∉ oj.bs := fun hb => dj g hb (by rw [b2]; simp)
  have hnd : (c1 ++ oj.bs ++ c2).Nodup := by
    rw [q3] at b4
    obtain ⟨n1, n2, n3⟩ := List.nodup_append.1 b4
    have n4 : oj.bs.Nodup := by
      obtain ⟨_, _, _, h | ⟨g', c, cur, e', _, h, _⟩⟩ := hrow
      · rw [h.2.2]; simp
      · rw [h]; simp
    refine List.nodup_append.2 ⟨List.nodup_append.2 ⟨n1, n4, fun b hb b' hb' hh => ?_⟩, n2, fun b hb b' hb' hh => ?_⟩
    · subst hh; exact dj b hb' (by rw [b2, q3]; simp [hb])
    · subst hh
      rcases List.mem_append.1 hb with hb | hb
      · exact n3 b hb b hb' rfl
      · exact dj b hb (by rw [b2, q3]; simp [hb'])
  have hgn : g ∉ c1 ++ oj.bs ++ c2 := fun hb => by
    simp at hb
    rcases hb with hb | hb | hb
    · exact b3 (by rw [q3]; simp [hb])
    · exact hgj' hb
    · exact b3 (by rw [q3]; simp [hb])
  obtain ⟨t1, t2, t3⟩ := setkill_hr hX hr hij hoi h0 (g := g) (by rw [b2]; simp) r3 (nb := g :: (c1 ++ oj.bs ++ c2)) (fun b hb => by
      rcases List.mem_cons.1 hb with rfl | hb
      · exact .inl (by rw [b2]; simp)
      · simp at hb
        rcases hb with hb | hb | hb
        · exact .inl (by rw [b2, q3]; simp [hb])
        · exact .inr ⟨oj, hoj, hb⟩
        · exact .inl (by rw [b2, q3]; simp [hb])) (.vst T z' none) (fun ok' hok =>
    ⟨rfl, g, _, e0, c1 ++ oj.bs ++ c2, b1, rfl, hgn, hnd, hnew, RepO.mono hX hok 0 T z' _ _ (fun b hb => r3.blk b (fun hbg => hgn (by rw [← hbg]; exact hb))) q4⟩)
  exact ⟨_, _, hk, _, undef, w', _, by rw [he, Sem.run_bind, f2, hxv, r1]; rfl, .inr ⟨rfl, rfl⟩, t1, t2, t3, rfl⟩
theorem wr_szag (hX : X.OK) (hE : tysOK P E.tys = true) (hr : HR X S w st.objs own) (ht : TR X w (okS S w own) own st.tmps a.tmps) {t : TypeId} {ti : TI} {x0 z : ti.T.den} {ad x : Operand} {i : Nat} (hti : E.ti t = some ti)
    (hx : opd st ad = .ptr i 0) (hg : Ob.get st.objs i = .var ti.T x0) (hxz : opd st x = .zag ti.T z) (ho : o.op = .store t ad x)
    (hk : k (({ st with objs := st.objs.set i (.vst ti.T z none) } : St).put o.dst .skp) = some r) : WRk X P S w own o a st k r := by
  have he : execOp a.eval o = (do Instr.storeAt t (a.eval ad) (a.eval x); pure .skip) := by simp only [execOp, ho]
  have hTi := TIok.of_tys hE hti
  obtain ⟨oi, hoi, h0, g, cs, e0, b1, b2, b3, b4⟩ := hr.at (Ob.get_of hg (by simp))
  have hv := opd_VR ht x
  rw [hxz] at hv
  obtain ⟨_, cs', ev, hrep, hnil⟩ := hv
  have hva := opd_VR ht ad
  rw [hx] at hva
  obtain ⟨o2, g2, ho2, f1, f2⟩ := hva
  rw [hoi] at ho2; cases ho2
  rw [b1] at f1; cases f1
  have hcl : (a.eval x).cells.toList = cs' := by rw [ev]; rfl
  have hl1 := Rep.len w _ _ _ _ hrep
  have hl0 := Rep.len w _ _ _ _ b4
  have hs : (a.eval x).cells.size = ti.T.size := by rw [← hl1, ← hcl]; simp
  obtain ⟨w', r1, r2, r3⟩ := run_store_block0 hTi hs g 0 e0 (0, 0) [] cs [] (by simpa using b3) rfl (by rw [hcl, hl1, hl0]) (by simp) (by rw [hcl]; exact Rep.one hX _ _ _ hrep)
  rw [hcl] at r2
  obtain ⟨t1, t2⟩ := touch_ob hX hr hoi b2 r3 (.vst ti.T z none) (fun ok' hok => ⟨h0, g, cs', e0, [], b1, b2, by simp, List.nodup_nil, by simpa using r2, RepO.of_nil 0 _ _ _ (Rep.mono hX hok _ _ _ hrep) hnil⟩)
  exact ⟨_, _, hk, _, undef, w', own, by rw [he, Sem.run_bind, f2, r1]; rfl, .inr ⟨rfl, rfl⟩, t1, t2, OwnLe.refl _, rfl⟩
theorem sstore_sound (hX : X.OK) (hE : tysOK P E.tys = true) (hr : HR X S w st.objs own) (ht : TR X w (okS S w own) own st.tmps a.tmps) {t : TypeId} {ad x : Operand} (ho : o.op = .store t ad x) (h : sstore E o t (opd st ad) (opd st x) st k = some r) : WRk X P S w own o a st k r := by
  unfold sstore at h
  split at h
  · rename_i ti i off hti hx
    split at h
    · rename_i T0 x0 hg
      split at h
      · rename_i y0 T y hb hc hxz
        split at h
        · rename_i z hcz
          obtain ⟨e1, e2⟩ := castTo_some hc
          subst e1
          obtain ⟨e3, e4⟩ := castTo_some hcz
          subst e3; cases e4
          have h0 : off = 0 := by simpa using hb
          subst h0
          exact wr_szag hX hE hr ht hti hx hg hxz ho h
        · cases h
      · cases h
    · rename_i T z hh hg
      split at h
      · rename_i e j hT hxj
        split at h
        · rename_i e' l hgj
          split at h
          · rename_i l' hc hb
            split at h
            · rename_i z' hp
              obtain ⟨e1, e2⟩ := castTo_some hc
              cases e1; cases e2
              have h0 : hh = off := by simpa using hb
              subst h0
              exact wr_sstore hX hE hr ht hti hT hx hg hxj hgj hp ho h
            · cases h
          · cases h
        · cases h
      · cases h
    · cases h
  · cases h
end
end Go.Proofs.YtgelkklendpeoaaGreat.AE

namespace Go.Proofs.YtgelkklendpeoaaGreat.AE
set_option linter.unusedVariables false
set_option linter.unusedSimpArgs false
open Go
set_option linter.unusedVariables false
set_option linter.unusedSimpArgs false

section
variable {X : ExtRep} {S : Nat → Prop} {P : Program} {E : Env} {w : World} {own : List Own} {st : St} {a : Act} {o : Oper} {R : Type} {k : St → Option R} {r : R}
theorem wr_of_svk {objs : List Ob} {own1 : List Own} (h : HR X S w objs own1) (f1 : Frm S w own w own1) (l1 : OwnLe own own1) (hs : SVk X P S w own1 o a (fun v => k (({ st with objs := objs } : St).put o.dst v)) r) : WRk X P S w own o a st k r := by
  obtain ⟨av, hk, v, hrun, hv⟩ := hs
  exact ⟨objs, av, hk, _, v, w, own1, hrun, .inl rfl, h, f1, l1, hv⟩
theorem wr_plain (hX : X.OK) (hE : tysOK P E.tys = true) (hr : HR X S w st.objs own) (ht : TR X w (okS S w own) own st.tmps a.tmps) (h : opS E o st (fun v => k (st.put o.dst v)) = some r) : WRk X P S w own o a st k r :=
  wr_of_svk hr (Frm.refl ..) (OwnLe.refl _) (opS_sound hX hE hr ht h)
theorem wr_convertStrW (hX : X.OK) (hE : tysOK P E.tys = true) (hr : HR X S w st.objs own) (ht : TR X w (okS S w own) own st.tmps a.tmps) (hS : ∀ b, w.heap.size ≤ b → S b) {src dst : TypeId} {x : Operand} {b : Nat} {s : ByteArray} (h1 : E.isStr src = true) (hti : E.ti dst = some ⟨.slice (.int .u8), b⟩)
    (hx : opd st x = .str s) (hs : s.size ≤ 140737488355328) (ho : o.op = .convert src dst x) : WR X P S w own o a (st.objs ++ [.row (.int .u8) (strBytes s)]) (.ref st.objs.length) := by
  have he : execOp a.eval o = (do pure (.value (← convert src dst (a.eval x)))) := by simp only [execOp, ho]
  obtain ⟨te, ie, z, a1, a2, a3, a4, a5, a6, a7, a8, a9, a10⟩ := slice_info (X := X) hE hti w (okS S w own)
  have hv := opd_VR ht x
  rw [hx] at hv
  simp only [VR] at hv
  obtain ⟨w', c, cur, n, r1, r2, r3, r4, r5, r6, r7, r8, r9, r10, r11, r12⟩ := run_strBytes (P := P) (w := w) te s (by simp [maxLen]; omega)
  have hlen : (strBytes s).length = s.size := by simp [strBytes]
  refine wr_newW hX hr (Frm.refl ..) (OwnLe.refl _) hS (on := ⟨.slice (some ⟨w.heap.size, 0, none⟩) s.size c, [w.heap.size], true, 1⟩) (w' := w') (v := .slice (some ⟨w.heap.size, 0, none⟩) s.size c) he ?_ r2 r3 r4 (by omega) r6 (by simp; omega) ?_ ?_
  · rw [hv]
    simp only [convert, Sem.run_bind, run_underlying (isStr_ok hE h1), run_underlying a1, Result.andThen_ok, run_underlying (a10 rfl)]
    exact r1
  · intro ok' hok
    refine ⟨rfl, rfl, by decide, .inr ⟨w.heap.size, c, cur, (te, n, n + 1), ?_, rfl, r7, ?_, r11, by rw [r8, r9]; simp [Ty.size], ?_, .inr (by simp; omega)⟩⟩
    · show Value.slice _ _ _ = Value.slice _ (strBytes s).length _
      rw [hlen]
    · show (strBytes s).length ≤ c
      omega
    · show RepL _ (strBytes s) (cur.toList.take ((strBytes s).length * 1))
      rw [hlen, Nat.mul_one, r12]
      exact repL_map _
  · intro ok' ow how
    exact ⟨_, how, fun _ => rfl⟩
theorem wr_convert (hX : X.OK) (hE : tysOK P E.tys = true) (hr : HR X S w st.objs own) (ht : TR X w (okS S w own) own st.tmps a.tmps) (hS : ∀ b, w.heap.size ≤ b → S b) {src dst : TypeId} {x : Operand} {b : Nat} {s : ByteArray} (h1 : E.isStr src = true) (hti : E.ti dst = some ⟨.slice (.int .u8), b⟩)
    (hx : opd st x = .str s) (hs : s.size ≤ 140737488355328) (ho : o.op = .convert src dst x)
    (hk : k (({ st with objs := st.objs ++ [.row (.int .u8) (strBytes s)] } : St).put o.dst (.ref st.objs.length)) = some r) : WRk X P S w own o a st k r :=
  ⟨_, _, hk, wr_convertStrW hX hE hr ht hS h1 hti hx hs ho⟩
theorem wr_mark (hX : X.OK) (hE : tysOK P E.tys = true) (hr : HR X S w st.objs own) (ht : TR X w (okS S w own) own st.tmps a.tmps) {src dst : TypeId} {x : Operand} {b i : Nat} {T : Ty} {l : List T.den} (hti : E.ti dst = some ⟨.slice (.int .u8), b⟩)
    (hx : opd st x = .ref i) (hsd : Nat.beq src dst = true) (hg : Ob.get st.objs i = .row T l) (hl : 0 < l.length) (ho : o.op = .convert src dst x)
    (hk : k (({ st with objs := st.objs.set i (.row T l) } : St).put o.dst (.ref i)) = some r) : WRk X P S w own o a st k r := by
  have he : execOp a.eval o = (do pure (.value (← convert src dst (a.eval x)))) := by simp only [execOp, ho]
  have hsd' := Nat.eq_of_beq_eq_true hsd
  subst hsd'
  obtain ⟨te, ie, z, a1, a2, a3, a4, a5, a6, a7, a8, a9, a10⟩ := slice_info (X := X) hE hti w (okS S w own)
  have hv := opd_VR ht x
  rw [hx] at hv
  obtain ⟨oi, hoi, hlv⟩ := hv
  have hgi := Ob.get_of hg (by simp)
  obtain ⟨oi', hoi', p1, p2, p3, p4⟩ := hr.at hgi
  rw [hoi] at hoi'; cases hoi'
  rcases p4 with ⟨_, h0, _⟩ | ⟨g, c, cur, e, s1, s2, s3, s4, s5, s6, s7, s8⟩
  · rw [h0] at hl; simp at hl
  · have hgl : g < w.heap.size := (Array.getElem?_eq_some_iff.1 s3).1
    have hT : Turned g w (w.freeze ⟨g, cur.size, none⟩ 1) := ⟨rfl, rfl, rfl, by simp [World.freeze], fun k hk => by
      have hne : ¬ g = k := fun h => hk h.symm
      simp only [World.freeze, Nat.one_ne_zero, if_false, Array.getElem?_modify, hne]⟩
    have hnew : (w.freeze ⟨g, cur.size, none⟩ 1).heap[g]? = some (.cells cur e.1 (if e.2.1 == e.2.2 then (cur.size, cur.size + 1) else (min e.2.1 cur.size, max e.2.2 (cur.size + 1)))) := by
      simp only [World.freeze, Nat.one_ne_zero, if_false, Array.getElem?_modify, if_true, s3]
      rfl
    obtain ⟨fr, hnew', h9⟩ : ∃ fr : Nat × Nat, (w.freeze ⟨g, cur.size, none⟩ 1).heap[g]? = some (.cells cur e.1 fr) ∧ (fr.1 = fr.2 ∨ cur.size ≤ fr.1) := by
      refine ⟨_, hnew, ?_⟩
      by_cases h0 : e.2.1 = e.2.2
      · have : (e.2.1 == e.2.2) = true := by simpa using h0
        right
        simp only [this, if_true]
        exact Nat.le_refl _
      · have : (e.2.1 == e.2.2) = false := by simpa using h0
        rcases s8 with h1 | h1
        · exact absurd h1 h0
        · right; simp only [this, Bool.false_eq_true, if_false]; omega
    obtain ⟨t1, t2⟩ := touch_ob hX hr hoi s2 hT (.row T l) (fun ok' hok => ⟨p1, p2, p3, .inr ⟨g, c, cur, (e.1, fr), s1, s2, hnew', s4, s5, s6, s7.imp (Rep.mono hX hok T), h9⟩⟩)
    refine ⟨_, _, hk, _, .slice (some ⟨g, 0, none⟩) l.length c, _, own, ?_, .inl rfl, t1, t2, OwnLe.refl _, ⟨oi, hoi, fun _ => s1.symm⟩⟩
    have hsh : w.shape? g = some (e.1, cur.size) := by simp only [World.shape?, s3]
    rw [he, hlv p1, s1]
    simp [convert, run_underlying a1, run_underlying (a10 rfl), markStringish, hsh]
theorem args2' {args : Array Operand} {x y : AV} (h : args.toList.map (opd st) = [x, y]) : ∃ u v, args = #[u, v] ∧ opd st u = x ∧ opd st v = y := args2 h
theorem op_sound (hX : X.OK) (hE : tysOK P E.tys = true) {call : CallFn E} (hr : HR X S w st.objs own) (ht : TR X w (okS S w own) own st.tmps a.tmps) (hS : ∀ b, w.heap.size ≤ b → S b)
    (hnc : ∀ fv args tys, o.op ≠ .call { callee := .value fv, args, argTypes := tys }) (h : op E call o st k = some r) : WRk X P S w own o a st k r := by
  have plain : (∀ e, op E call o st k = e → e = opS E o st (fun v => k (st.put o.dst v))) → WRk X P S w own o a st k r := fun he => wr_plain hX hE hr ht ((he _ rfl).symm.trans h)
  cases ho : o.op
  case alloc t =>
    simp only [op, ho] at h
    split at h
    · rename_i ti hti
      split at h
      · cases h
      · rename_i hne
        split at h
        · split at h
          · rename_i e hT
            split at h
            · rename_i hsz
              exact wr_valloc hX hE hr hS hti hT hsz ho h
            · cases h
          · cases h
        · exact wr_alloc hX hE hr hS hti (not_ext hne) ho h
    · cases h
  case load t x =>
    simp only [op, ho] at h
    split at h
    · exact sload_sound hX hE hr ht ho h
    split at h
    · exact vload_sound hX hE hr ht ho h
    · exact wr_plain hX hE hr ht h
  case box t x =>
    simp only [op, ho] at h
    split at h
    · split at h
      · rename_i y hy
        exact wr_box hX hr ht hS hy ho h
      · cases h
    · cases h
  case build t parts =>
    simp only [op, ho] at h
    obtain ⟨own1, q1, q2, q3, q4⟩ := freezeAll_step hX (parts.toList.map fun p => opd st p.2) hr
    exact wr_of_svk q1 q2 q3 (opS_sound hX hE (st := { st with objs := freezeAll st.objs (parts.toList.map fun p => opd st p.2) }) q1 (ht.mono hX q2.ok q3) h)
  case buildSlice t len parts =>
    simp only [op, ho] at h
    split at h
    · rename_i e b hti
      split at h
      · rename_i l hl
        split at h
        · rename_i hb
          exact wr_buildSlice hX hE hr ht hS hti hl (by simpa using hb) ho h
        · cases h
      · cases h
    · cases h
  case store t ad x =>
    simp only [op, ho] at h
    split at h
    · exact sstore_sound hX hE hr ht ho h
    split at h
    · exact vstore_sound hX hE hr ht ho h
    split at h
    · rename_i ti hti
      split at h
      · rename_i y hy
        split at h
        · rename_i i off e1
          split at h
          · rename_i T z hg
            split at h
            · rename_i z' hp
              exact wr_store hX hE hr ht hti hy ho (.inl ⟨off, T, z, z', e1, hg, hp, rfl⟩) h
            · cases h
          · cases h
        · rename_i i ix off e1
          split at h
          · rename_i T l hg
            split at h
            · rename_i z' hp
              exact wr_store hX hE hr ht hti hy ho (.inr ⟨ix, off, T, l, z', e1, hg, hp, rfl⟩) h
            · cases h
          · cases h
        · cases h
      · cases h
    · cases h
  case makeSlice t l c =>
    simp only [op, ho] at h
    split at h
    · rename_i e b k1 n k2 m hti hl hc
      split at h
      · rename_i hb
        exact wr_makeSlice hX hE hr ht hS hti hl hc hb ho h
      · cases h
    · cases h
  case slice t x lo hi mx =>
    simp only [op, ho] at h
    obtain ⟨own1, q1, q2, q3, q4⟩ := freezeV_step hX hr (opd st x)
    exact wr_of_svk q1 q2 q3 (opS_sound hX hE (st := { st with objs := freezeV st.objs (opd st x) }) q1 (ht.mono hX q2.ok q3) h)
  case convert src dst x =>
    simp only [op, ho] at h
    split at h
    · rename_i b s h1 hti hx
      split at h
      · rename_i hs
        exact wr_convert hX hE hr ht hS h1 hti hx hs ho h
      · cases h
    · rename_i b i h1 hti hx
      split at h
      · rename_i T l hsd hg
        split at h
        · rename_i hl
          exact wr_mark hX hE hr ht hti hx hsd hg hl ho h
        · cases h
      · cases h
    · exact wr_plain hX hE hr ht h
  case call c =>
    obtain ⟨callee, args, argTypes⟩ := c
    cases callee with
    | value f => exact absurd ho (hnc f args argTypes)
    | invoke x m => simp only [op, ho] at h; exact wr_plain hX hE hr ht h
    | builtin b =>
      by_cases hb : b = .append
      · subst hb
        simp only [op, ho] at h
        split at h
        · rename_i sx xx t xt hargs htys
          obtain ⟨u, v, rfl, hu, hv⟩ := args2 hargs
          have : argTypes = #[t, xt] := by cases argTypes; simp_all
          subst this
          split at h
          · rename_i e b hti
            split at h
            · rename_i l1 base hl1
              split at h
              · rename_i l2 hl2
                split at h
                · rename_i hbd
                  obtain ⟨te, ie, z, a1, a2, a3, a4, a5, a6, a7, a8, a9, _⟩ := slice_info (X := X) hE hti w (okS S w own)
                  have hbase : (opd st u = .nil ∧ l1 = [] ∧ base = st.objs) ∨ ∃ i, opd st u = .ref i ∧ Ob.get st.objs i = .row e l1 ∧ base = st.objs.set i .dead := by
                    rw [hu]
                    split at hl1
                    · cases hl1; exact .inl ⟨rfl, rfl, rfl⟩
                    · rename_i i
                      split at hl1
                      · rename_i e' l' hg
                        split at hl1
                        · rename_i l'' hc
                          cases hl1
                          obtain ⟨e1, e2⟩ := castTo_some hc
                          cases e1; cases e2
                          exact .inr ⟨i, rfl, hg, rfl⟩
                        · cases hl1
                      · cases hl1
                    · cases hl1
                  have hvv := opd_VR ht v
                  rw [hv] at hvv
                  have hsrc : ∃ news, Src P w e.size xt (a.eval v) l2.length news ∧ RepL (Rep X w (okS S w own) e) l2 news := by
                    split at hl2
                    · rename_i y
                      split at hl2
                      · rename_i hst
                        obtain ⟨e1, e2⟩ := castTo_some hl2
                        cases e1; cases e2
                        simp only [VR] at hvv
                        rw [hvv]
                        obtain ⟨news, q1, q2⟩ := Src.ofStr (X := X) (S := S) (own := own) (P := P) (w := w) (isStr_ok hE hst) y
                        refine ⟨news, ?_, q2⟩
                        have hlen : (strBytes y).length = y.size := by simp [strBytes]
                        show Src P w 1 xt _ (strBytes y).length news
                        rw [hlen]; exact q1
                      · cases hl2
                    · split at hl2
                      · rename_i hsl
                        obtain ⟨te', ie', p1, _⟩ := isSl_ok hE hsl
                        exact Src.ofRow (t := t) (te := te') (b := b) hX p1 (readDat_row hr hl2 hvv)
                      · cases hl2
                  obtain ⟨news, q1, q2⟩ := hsrc
                  exact wr_append hX hE hr ht hS hti ho hbase q1 q2 rfl hbd h
                · cases h
              · cases h
            · cases h
          · cases h
        · cases h
      · refine wr_plain hX hE hr ht ?_
        rw [← h]
        cases b <;> first | exact absurd rfl hb | simp only [op, ho]
  all_goals (simp only [op, ho] at h; exact wr_plain hX hE hr ht h)
end
end Go.Proofs.YtgelkklendpeoaaGreat.AE

namespace Go.Proofs.YtgelkklendpeoaaGreat.AE
set_option linter.unusedVariables false
set_option linter.unusedSimpArgs false
open Go
set_option linter.unusedVariables false
set_option linter.unusedSimpArgs false

section
variable {X : ExtRep} {S : Nat → Prop} {P : Program} {E : Env} {w : World} {own : List Own}
/-- Values, one by one. -/
inductive VRs (X : ExtRep) (w : World) (ok : Nat → Prop) (own : List Own) : List AV → List Value → Prop
  | nil : VRs X w ok own [] []
  | cons {av : AV} {v : Value} {avs : List AV} {vs : List Value} : VR X w ok own av v → VRs X w ok own avs vs → VRs X w ok own (av :: avs) (v :: vs)
theorem VRs.mono (hX : X.OK) {w' : World} {ok ok' : Nat → Prop} {own own' : List Own} (hb : ∀ b, ok b → ok' b ∧ w'.heap[b]? = w.heap[b]?) (ho : OwnLe own own') {avs : List AV} {vs : List Value} (h : VRs X w ok own avs vs) : VRs X w' ok' own' avs vs := by
  induction h with
  | nil => exact .nil
  | cons h _ ih => exact .cons (VR.mono hX hb ho _ _ h) ih
def SlotsAt (σ : List Nat) : List SP → List AV → Prop
  | [], [] => True
  | .ref j :: ss, v :: vs => (∃ i, v = .ref i ∧ σ[j]? = some i) ∧ SlotsAt σ ss vs
  | .ptr j off :: ss, v :: vs => (∃ i, v = .ptr i off ∧ σ[j]? = some i) ∧ SlotsAt σ ss vs
  | .dat _ :: ss, _ :: vs => SlotsAt σ ss vs
  | .skip :: ss, _ :: vs => SlotsAt σ ss vs
  | .fnc f js :: ss, v :: vs => (∃ cs, v = .fn f cs ∧ cs.length = js.length ∧ ∀ (k j i : Nat), js[k]? = some j → cs[k]? = some i → σ[j]? = some i) ∧ SlotsAt σ ss vs
  | _, _ => False
def InjO (σ : List (Option Nat)) : Prop := ∀ j j' i : Nat, σ[j]? = some (some i) → σ[j']? = some (some i) → j = j'
theorem assign_spec {σ σ' : List (Option Nat)} {j i : Nat} (h : assign σ j i = some σ') : (∀ (a b : Nat), σ[a]? = some (some b) → σ'[a]? = some (some b)) ∧ σ'.length = σ.length ∧ (InjO σ → InjO σ') ∧ σ'[j]? = some (some i) := by
  unfold assign at h
  split at h
  · rename_i i' hi
    split at h
    · rename_i he
      cases h
      simp at he; subst he
      refine ⟨fun _ _ h => h, rfl, id, ?_⟩
      rw [List.getD_eq_getElem?_getD] at hi
      cases hh : σ[j]? with
      | none => rw [hh] at hi; simp at hi
      | some o => rw [hh] at hi; simp at hi; rw [hi]
    · cases h
  · rename_i hn
    split at h
    · cases h
    · rename_i hany
      split at h
      case h_2 => cases h
      rename_i hjl
      cases h
      refine ⟨fun a b hab => ?_, by simp, fun hinj (a b c : Nat) ha hb => ?_, List.getElem?_set_self (by simpa using hjl)⟩
      · by_cases hja : j = a
        · subst hja
          rw [List.getD_eq_getElem?_getD, hab] at hn
          simp at hn
        · rw [List.getElem?_set_ne hja]; exact hab
      · have hno : ∀ a : Nat, σ[a]? ≠ some (some i) := by
          intro a ha
          have : σ.any (hasId i) = true := List.any_eq_true.2 ⟨some i, List.mem_of_getElem? ha, by simp [hasId]⟩
          rw [this] at hany; cases hany
        by_cases h1 : j = a
        · by_cases h2 : j = b
          · exact h1.symm.trans h2
          · rw [List.getElem?_set_ne h2] at hb
            have hlt := (List.getElem?_eq_some_iff.1 ha).1
            simp at hlt
            rw [← h1, List.getElem?_set_self (by omega)] at ha
            cases ha
            exact absurd hb (hno b)
        · by_cases h2 : j = b
          · rw [List.getElem?_set_ne h1] at ha
            have hlt := (List.getElem?_eq_some_iff.1 hb).1
            simp at hlt
            rw [← h2, List.getElem?_set_self (by omega)] at hb
            cases hb
            exact absurd ha (hno a)
          · rw [List.getElem?_set_ne h1] at ha
            rw [List.getElem?_set_ne h2] at hb
            exact hinj a b c ha hb
theorem allSome_spec : ∀ {σ : List (Option Nat)} {l : List Nat}, allSome σ = some l → l.length = σ.length ∧ ∀ (j i : Nat), σ[j]? = some (some i) ↔ l[j]? = some i
  | [], l, h => by cases h; simp
  | some a :: σ, l, h => by
    simp only [allSome] at h
    split at h
    · rename_i l' hl'
      cases h
      obtain ⟨h1, h2⟩ := allSome_spec hl'
      refine ⟨by simp [h1], fun j i => ?_⟩
      cases j with
      | zero => simp
      | succ j => simpa using h2 j i
    · cases h
  | none :: σ, l, h => by simp [allSome] at h
theorem assignL_spec : ∀ (js cs : List Nat) {σ σ' : List (Option Nat)}, assignL σ js cs = some σ' → (∀ (a b : Nat), σ[a]? = some (some b) → σ'[a]? = some (some b)) ∧ σ'.length = σ.length ∧ (InjO σ → InjO σ') ∧
      cs.length = js.length ∧ ∀ (k j i : Nat), js[k]? = some j → cs[k]? = some i → σ'[j]? = some (some i)
  | [], [], σ, σ', h => by cases h; exact ⟨fun _ _ h => h, rfl, id, rfl, fun k j i h => by simp at h⟩
  | [], _ :: _, σ, σ', h => by simp [assignL] at h
  | _ :: _, [], σ, σ', h => by simp [assignL] at h
  | j :: js, c :: cs, σ, σ', h => by
    simp only [assignL] at h
    split at h
    · rename_i σ1 h1
      obtain ⟨a1, a2, a3, a4⟩ := assign_spec h1
      obtain ⟨b1, b2, b3, b4, b5⟩ := assignL_spec js cs h
      refine ⟨fun a b hab => b1 a b (a1 a b hab), b2.trans a2, fun hi => b3 (a3 hi), by simp [b4], fun k j' i h1 h2 => ?_⟩
      cases k with
      | zero => simp at h1 h2; subst h1 h2; exact b1 _ _ a4
      | succ k => exact b5 k j' i (by simpa using h1) (by simpa using h2)
    · cases h
theorem matchSlots_fnc {f : Nat} {js : List Nat} {ss : List SP} {v : AV} {vs : List AV} {σ σ' : List (Option Nat)} (h : matchSlots (.fnc f js :: ss) (v :: vs) σ = some σ') : ∃ cs σ1, v = .fn f cs ∧ assignL σ js cs = some σ1 ∧ matchSlots ss vs σ1 = some σ' := by
  cases v with
  | fn f' cs =>
    simp only [matchSlots] at h
    split at h
    · rename_i he
      obtain rfl : f = f' := Nat.eq_of_beq_eq_true he
      split at h
      · rename_i σ1 h1
        exact ⟨cs, σ1, rfl, h1, h⟩
      · cases h
    · cases h
  | _ => simp [matchSlots] at h
theorem matchSlots_spec : ∀ (ss : List SP) (vs : List AV) {σ σ' : List (Option Nat)}, matchSlots ss vs σ = some σ' → (∀ (a b : Nat), σ[a]? = some (some b) → σ'[a]? = some (some b)) ∧ σ'.length = σ.length ∧ (InjO σ → InjO σ') ∧
      ∀ l, allSome σ' = some l → SlotsAt l ss vs
  | [], [], σ, σ', h => by cases h; exact ⟨fun _ _ h => h, rfl, id, fun _ _ => trivial⟩
  | [], _ :: _, σ, σ', h => by simp [matchSlots] at h
  | .dat T :: ss, [], σ, σ', h => by simp [matchSlots] at h
  | .skip :: ss, [], σ, σ', h => by simp [matchSlots] at h
  | .fnc _ _ :: ss, [], σ, σ', h => by simp [matchSlots] at h
  | .ref _ :: ss, [], σ, σ', h => by simp [matchSlots] at h
  | .ptr _ _ :: ss, [], σ, σ', h => by simp [matchSlots] at h
  | .dat T :: ss, v :: vs, σ, σ', h => by
    simp only [matchSlots] at h
    exact matchSlots_spec ss vs h
  | .skip :: ss, v :: vs, σ, σ', h => by
    simp only [matchSlots] at h
    exact matchSlots_spec ss vs h
  | .fnc f js :: ss, v :: vs, σ, σ', h => by
    obtain ⟨cs, σ1, rfl, h1, hm⟩ := matchSlots_fnc h
    obtain ⟨a1, a2, a3, a4, a5⟩ := assignL_spec _ _ h1
    obtain ⟨b1, b2, b3, b4⟩ := matchSlots_spec ss vs hm
    exact ⟨fun a b hab => b1 a b (a1 a b hab), b2.trans a2, fun hi => b3 (a3 hi), fun l hl => ⟨⟨cs, rfl, a4, fun k j i h1 h2 => ((allSome_spec hl).2 j i).1 (b1 j i (a5 k j i h1 h2))⟩, b4 l hl⟩⟩
  | .ref j :: ss, v :: vs, σ, σ', h => by
    cases v <;> simp only [matchSlots, reduceCtorEq] at h
    rename_i i
    split at h
    · rename_i σ1 h1
      obtain ⟨a1, a2, a3, a4⟩ := assign_spec h1
      obtain ⟨b1, b2, b3, b4⟩ := matchSlots_spec ss vs h
      exact ⟨fun a b hab => b1 a b (a1 a b hab), b2.trans a2, fun hi => b3 (a3 hi), fun l hl => ⟨⟨i, rfl, ((allSome_spec hl).2 j i).1 (b1 j i a4)⟩, b4 l hl⟩⟩
    · cases h
  | .ptr j off :: ss, v :: vs, σ, σ', h => by
    cases v <;> simp only [matchSlots, reduceCtorEq] at h
    rename_i i off'
    split at h
    · rename_i he
      simp at he; subst he
      split at h
      · rename_i σ1 h1
        obtain ⟨a1, a2, a3, a4⟩ := assign_spec h1
        obtain ⟨b1, b2, b3, b4⟩ := matchSlots_spec ss vs h
        exact ⟨fun a b hab => b1 a b (a1 a b hab), b2.trans a2, fun hi => b3 (a3 hi), fun l hl => ⟨⟨i, rfl, ((allSome_spec hl).2 j i).1 (b1 j i a4)⟩, b4 l hl⟩⟩
      · cases h
    · cases h
/-- What of one's own a shape takes. -/
def ownSub (own : List Own) : List OT → List Nat → List Own
  | .dead :: ts, i :: σ => (match own[i]? with | some o => ⟨o.v, [], false, o.sz⟩ | none => ⟨undef, [], false, 0⟩) :: ownSub own ts σ
  | _ :: ts, i :: σ => (match own[i]? with | some o => o | none => ⟨undef, [], false, 0⟩) :: ownSub own ts σ
  | _, _ => []
theorem putObjs_row {T : Ty} {ts : List OT} (x : (Ty.slice T).den) (q : Prods (objTys ts)) : putObjs (.row T :: ts) (pcons (t := .slice T) (ts := objTys ts) x q) = .row T x :: putObjs ts q :=
  congr (congrArg (fun (z : (Ty.slice T).den) => List.cons (Ob.row T z)) (phead_pcons (t := .slice T) (ts := objTys ts) x q)) (congrArg (putObjs ts) (ptail_pcons (t := .slice T) (ts := objTys ts) x q))
theorem putObjs_var {T : Ty} {ts : List OT} (x : T.den) (q : Prods (objTys ts)) : putObjs (.var T :: ts) (pcons (t := T) (ts := objTys ts) x q) = .var T x :: putObjs ts q :=
  congr (congrArg (fun (z : T.den) => List.cons (Ob.var T z)) (phead_pcons (t := T) (ts := objTys ts) x q)) (congrArg (putObjs ts) (ptail_pcons (t := T) (ts := objTys ts) x q))
theorem putObjs_vrow {T : Ty} {ts : List OT} (x : (Ty.slice T).den) (q : Prods (objTys ts)) : putObjs (.vrow T :: ts) (pcons (t := .slice T) (ts := objTys ts) x q) = .vrow T x :: putObjs ts q :=
  congr (congrArg (fun (z : (Ty.slice T).den) => List.cons (Ob.vrow T z)) (phead_pcons (t := .slice T) (ts := objTys ts) x q)) (congrArg (putObjs ts) (ptail_pcons (t := .slice T) (ts := objTys ts) x q))
theorem putObjs_vst {T : Ty} {ts : List OT} (x : T.den) (q : Prods (objTys ts)) : putObjs (.vst T :: ts) (pcons (t := T) (ts := objTys ts) x q) = .vst T x none :: putObjs ts q :=
  congr (congrArg (fun (z : T.den) => List.cons (Ob.vst T z none)) (phead_pcons (t := T) (ts := objTys ts) x q)) (congrArg (putObjs ts) (ptail_pcons (t := T) (ts := objTys ts) x q))
theorem readObjs_spec {os : List Ob} : ∀ (ts : List OT) (σ : List Nat) (p : Prods (objTys ts)), readObjs os ts σ = some p → ts.length = σ.length ∧ (putObjs ts p).length = ts.length ∧
    ∀ (j : Nat) (ob : Ob) (i : Nat), (putObjs ts p)[j]? = some ob → σ[j]? = some i → (ts[j]? = some .dead ∧ ob = .dead) ∨ ((∀ t, ts[j]? = some t → t ≠ .dead) ∧ os[i]? = some ob)
  | [], σ, p, h => by
    cases σ with
    | nil => exact ⟨rfl, rfl, by simp [putObjs]⟩
    | cons i σ => simp [readObjs] at h
  | .dead :: ts, [], p, h => by simp [readObjs] at h
  | .row _ :: ts, [], p, h => by simp [readObjs] at h
  | .var _ :: ts, [], p, h => by simp [readObjs] at h
  | .vrow _ :: ts, [], p, h => by simp [readObjs] at h
  | .vst _ :: ts, [], p, h => by simp [readObjs] at h
  | .dead :: ts, i :: σ, p, h => by
    simp only [readObjs] at h
    obtain ⟨a1, a2, a3⟩ := readObjs_spec ts σ p h
    refine ⟨by simp [a1], by simp [putObjs, a2], fun j ob i' h1 h2 => ?_⟩
    cases j with
    | zero => simp [putObjs] at h1; exact .inl ⟨rfl, h1.symm⟩
    | succ j => simpa using a3 j ob i' (by simpa [putObjs] using h1) (by simpa using h2)
  | .row T :: ts, i :: σ, p, h => by
    simp only [readObjs] at h
    split at h
    · rename_i T' l hg
      split at h
      · rename_i x hx
        split at h
        · rename_i q hq
          cases h
          obtain ⟨a1, a2, a3⟩ := readObjs_spec ts σ q hq
          obtain ⟨e1, e2⟩ := castTo_some hx
          cases e1; cases e2
          refine ⟨by simp [a1], (congrArg List.length (putObjs_row _ q)).trans (by simp [a2]), fun j ob i' h1 h2 => ?_⟩
          have h1 := (congrArg (fun z => z[j]?) (putObjs_row _ q)).symm.trans h1
          cases j with
          | zero =>
            simp at h1
            cases h2
            exact .inr ⟨by simp, by rw [← h1]; exact Ob.get_of hg (by simp)⟩
          | succ j => simpa using a3 j ob i' (by simpa using h1) (by simpa using h2)
        · cases h
      · cases h
    · cases h
  | .vrow T :: ts, i :: σ, p, h => by
    simp only [readObjs] at h
    split at h
    · rename_i T' l hg
      split at h
      · rename_i x hx
        split at h
        · rename_i q hq
          cases h
          obtain ⟨a1, a2, a3⟩ := readObjs_spec ts σ q hq
          obtain ⟨e1, e2⟩ := castTo_some hx
          cases e1; cases e2
          refine ⟨by simp [a1], (congrArg List.length (putObjs_vrow _ q)).trans (by simp [a2]), fun j ob i' h1 h2 => ?_⟩
          have h1 := (congrArg (fun z => z[j]?) (putObjs_vrow _ q)).symm.trans h1
          cases j with
          | zero =>
            simp at h1
            cases h2
            exact .inr ⟨by simp, by rw [← h1]; exact Ob.get_of hg (by simp)⟩
          | succ j => simpa using a3 j ob i' (by simpa using h1) (by simpa using h2)
        · cases h
      · cases h
    · cases h
  | .var T :: ts, i :: σ, p, h => by
    simp only [readObjs] at h
    split at h
    · rename_i T' l hg
      split at h
      · rename_i x hx
        split at h
        · rename_i q hq
          cases h
          obtain ⟨a1, a2, a3⟩ := readObjs_spec ts σ q hq
          obtain ⟨e1, e2⟩ := castTo_some hx
          cases e1; cases e2
          refine ⟨by simp [a1], (congrArg List.length (putObjs_var _ q)).trans (by simp [a2]), fun j ob i' h1 h2 => ?_⟩
          have h1 := (congrArg (fun z => z[j]?) (putObjs_var _ q)).symm.trans h1
          cases j with
          | zero =>
            simp at h1
            cases h2
            exact .inr ⟨by simp, by rw [← h1]; exact Ob.get_of hg (by simp)⟩
          | succ j => simpa using a3 j ob i' (by simpa using h1) (by simpa using h2)
        · cases h
      · cases h
    · cases h
  | .vst T :: ts, i :: σ, p, h => by
    simp only [readObjs] at h
    split at h
    · rename_i T' y hg
      split at h
      · rename_i x hx
        split at h
        · rename_i q hq
          cases h
          obtain ⟨a1, a2, a3⟩ := readObjs_spec ts σ q hq
          obtain ⟨e1, e2⟩ := castTo_some hx
          cases e1; cases e2
          refine ⟨by simp [a1], (congrArg List.length (putObjs_vst _ q)).trans (by simp [a2]), fun j ob i' h1 h2 => ?_⟩
          have h1 := (congrArg (fun z => z[j]?) (putObjs_vst _ q)).symm.trans h1
          cases j with
          | zero =>
            simp at h1
            cases h2
            exact .inr ⟨by simp, by rw [← h1]; exact Ob.get_of hg (by simp)⟩
          | succ j => simpa using a3 j ob i' (by simpa using h1) (by simpa using h2)
        · cases h
      · cases h
    · cases h
theorem ownSub_len (own : List Own) : ∀ (ts : List OT) (σ : List Nat), ts.length = σ.length → (ownSub own ts σ).length = ts.length
  | [], [], _ => rfl
  | [], _ :: _, h => by simp at h
  | t :: ts, [], h => by simp at h
  | t :: ts, i :: σ, h => by cases t <;> simp [ownSub, ownSub_len own ts σ (by simpa using h)]
theorem ownSub_get (own : List Own) : ∀ (ts : List OT) (σ : List Nat) (j i : Nat) (o : Own), ts.length = σ.length → σ[j]? = some i → own[i]? = some o →
    ∃ o', (ownSub own ts σ)[j]? = some o' ∧ o'.v = o.v ∧ o'.sz = o.sz ∧ (o'.live = true → o.live = true) ∧ (∀ b ∈ o'.bs, b ∈ o.bs) ∧ ((∀ t, ts[j]? = some t → t ≠ .dead) → o' = o) ∧ (ts[j]? = some .dead → o'.live = false ∧ o'.bs = [])
  | [], [], j, i, o, _, h, _ => by simp at h
  | [], _ :: _, _, _, _, h, _, _ => by simp at h
  | t :: ts, [], _, _, _, h, _, _ => by simp at h
  | t :: ts, i0 :: σ, 0, i, o, hl, h, ho => by
    simp at h; subst h
    cases t
    · exact ⟨⟨o.v, [], false, o.sz⟩, by simp [ownSub, ho], rfl, rfl, by simp, by simp, fun h => absurd rfl (h .dead rfl), fun _ => ⟨rfl, rfl⟩⟩
    · exact ⟨o, by simp [ownSub, ho], rfl, rfl, id, fun _ h => h, fun _ => rfl, fun h => by cases h⟩
    · exact ⟨o, by simp [ownSub, ho], rfl, rfl, id, fun _ h => h, fun _ => rfl, fun h => by cases h⟩
    · exact ⟨o, by simp [ownSub, ho], rfl, rfl, id, fun _ h => h, fun _ => rfl, fun h => by cases h⟩
    · exact ⟨o, by simp [ownSub, ho], rfl, rfl, id, fun _ h => h, fun _ => rfl, fun h => by cases h⟩
  | t :: ts, i0 :: σ, j + 1, i, o, hl, h, ho => by
    obtain ⟨o', h1, h2⟩ := ownSub_get own ts σ j i o (by simpa using hl) (by simpa using h) ho
    exact ⟨o', by cases t <;> simpa [ownSub] using h1, by simpa using h2⟩
end
end Go.Proofs.YtgelkklendpeoaaGreat.AE
