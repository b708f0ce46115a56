import Derived.Test.YtdhbnblpkodhjaaDoorBytesX
import Derived.WalkKit
import Derived.BigCall
import Derived.Lib.ItoaWalk
import Derived.Lib.Slices
import Derived.Lib.Hide
import Derived.OwnWalk
import Derived.BigGuard
import Derived.CellFam
namespace Go.Proofs.YtdhbnblpkodhjaaDoor.BytesX
open Go Go.RowKit Go.Sort Go.Lib Go.Proofs.YtdhbnblpkodhjaaDoor.AE
set_option linter.unusedVariables false
set_option linter.unusedSimpArgs false
/-! internal/strconv.AppendUint at base 10, onto a row of one's own: no other thing is touched. -/
def EA : Env := { fns := [], tys := List.replicate 22 none ++ [some ⟨.slice (.int .u8), 1⟩] }
theorem EA_ok : tysOK Tryd.prog EA.tys = true := by kernel_rfl
theorem append_onto {S : Nat → Prop} {w : World} {o : Own} {l l2 : List Int} {xv : Value} {xt : TypeId} {news : List Value}
    (hr : HR XB S w [.row (.int .u8) l] [o]) (hS : ∀ b, w.heap.size ≤ b → S b) (hsrc : Src Tryd.prog w 1 xt xv l2.length news) (hn : RepL (Rep XB w (okS S w [o]) (.int .u8)) l2 news) (hb : l.length + l2.length ≤ 140737488355328) (ty : TypeId) :
    ∃ v' w' own', (Builtin.append_ #[22, xt] ty #[o.v, xv]).run Tryd.prog w = .ok v' w' ∧ HR XB S w' [.dead, .row (.int .u8) (l ++ l2)] own' ∧ Frm S w [o] w' own' ∧ OwnLe [o] own' ∧ ∃ on, own'[1]? = some on ∧ on.v = v' := by
  let st : St := ⟨[.ref 0, .undef], [.row (.int .u8) l]⟩
  let op : Oper := { dst := some 1, op := .call { callee := .builtin .append, args := #[.tmp 0, .tmp 1], argTypes := #[22, xt] }, type := ty, pos := "", after := #[], guard := none }
  let a : Act := ⟨#[o.v, xv], []⟩
  have ht : TR XB w (okS S w [o]) [o] st.tmps a.tmps := by
    refine ⟨rfl, fun i av v h1 h2 => ?_⟩
    match i, h1, h2 with
    | 0, h1, h2 => cases h1; cases h2; exact ⟨o, rfl, fun _ => rfl⟩
    | 1, h1, h2 => cases h1; trivial
    | n + 2, h1, h2 => cases h1
  obtain ⟨objs', av, hk, ⟨res, v, w', own', e1, e2, e3, e4, e5, e6⟩⟩ := wr_append (st := st) (o := op) (a := a) (k := some) (e := .int .u8) (b := 1) (t := 22) (xt := xt) (sv := .tmp 0) (xv := .tmp 1) (l1 := l) (l2 := l2) (base := [.dead]) XB_ok EA_ok hr ht hS rfl rfl
    (.inr ⟨0, rfl, rfl, rfl⟩) hsrc hn rfl ⟨by rw [Nat.mul_one]; exact hb, hb⟩ rfl
  have hk' : objs' = [.dead, .row (.int .u8) (l ++ l2)] ∧ av = .ref 1 := by
    have h1 := congrArg St.objs (Option.some.inj hk)
    have h2 := congrArg St.tmps (Option.some.inj hk)
    refine ⟨h1, ?_⟩
    have h3 : [AV.ref 0, av] = [AV.ref 0, AV.ref 1] := h2
    simpa using h3
  obtain ⟨rfl, rfl⟩ := hk'
  obtain ⟨on, q1, q2⟩ := e6
  obtain ⟨on', q3, q4⟩ := e3.at (i := 1) rfl
  rw [q1] at q3; cases q3
  refine ⟨v, w', own', ?_, e3, e4, e5, on, q1, (q2 q4.1).symm⟩
  have hx : (do pure (Next.value (← Builtin.append_ #[22, xt] ty #[o.v, xv])) : Sem Next).run Tryd.prog w = .ok res w' := by
    rw [← e1]
    simp [execOp, resolve, invoke, builtin, op, a, Act.eval]
  rw [Sem.run_bind] at hx
  cases hq : (Builtin.append_ #[22, xt] ty #[o.v, xv]).run Tryd.prog w with
  | ok v2 w2 =>
    rw [hq] at hx
    simp only [Result.andThen_ok, Sem.run_pure, Result.ok.injEq] at hx
    obtain ⟨rfl, rfl⟩ := hx
    rcases e2 with e2 | e2
    · cases e2; rfl
    · cases e2.1
  | halt h2 w2 =>
    rw [hq] at hx
    cases hx
theorem wpList_append_row {S : Nat → Prop} {w : World} {ow : Own} {l l2 : List Int} {xv : Value} {xt : TypeId} {news : List Value} {ops : Array Oper} {rest : List Oper} {o : Oper} {a : Act} {Q : Exit → Act → World → Prop} (hgd : o.guard = none) (s x : Operand)
    (ho : o.op = .call { callee := .builtin .append, args := #[s, x], argTypes := #[22, xt] }) (hs : a.eval s = ow.v) (hx : a.eval x = xv)
    (hr : HR XB S w [.row (.int .u8) l] [ow]) (hS : ∀ b, w.heap.size ≤ b → S b) (hsrc : Src Tryd.prog w 1 xt xv l2.length news) (hn : RepL (Rep XB w (okS S w [ow]) (.int .u8)) l2 news) (hb : l.length + l2.length ≤ 140737488355328)
    (h : ∀ v' w' own', HR XB S w' [.dead, .row (.int .u8) (l ++ l2)] own' → Frm S w [ow] w' own' → OwnLe [ow] own' → (∃ on, own'[1]? = some on ∧ on.v = v') → wpList Tryd.prog ops Q rest (a.put o.dst v') w') : wpList Tryd.prog ops Q (o :: rest) a w :=
  wpList_plain hgd fun K hK => by
    obtain ⟨v', w', own', r1, r2, r3, r4, r5⟩ := append_onto hr hS hsrc hn hb o.type
    unfold Oper.wp execOp
    simp only [ho, resolve, invoke, builtin, Sem.run_bind, Sem.run_pure, Result.andThen_ok, List.map_toArray, List.map_cons, List.map_nil, hs, hx, r1]
    exact hK _ _ (h v' w' own' r2 r3 r4 r5)
/-- A fact laid aside, out of the walk's sight. -/
structure Asd (p : Prop) : Prop where
  out : p
/-- What stands under a row that grew. -/
def Grown (S : Nat → Prop) (w : World) (o : Own) (l : List Int) (e : Ending) (w' : World) : Prop := ∃ v' own', e = .returned v' ∧ HR XB S w' [.dead, .row (.int .u8) l] own' ∧ Frm S w [o] w' own' ∧ OwnLe [o] own' ∧ ∃ on, own'[1]? = some on ∧ on.v = v'
theorem digs_len (u : Nat) : ((Lib.decDigits u).map fun b => (b.toNat : Int)).length = (Lib.decDigits u).length := List.length_map ..
set_option maxHeartbeats 6400000 in
set_option maxRecDepth 100000 in
theorem App_small {S : Nat → Prop} {w : World} {o : Own} {l : List Int} (sv : Value) (hsv : sv = o.v) (hr : HR XB S w [.row (.int .u8) l] [o]) (hS : ∀ b, w.heap.size ≤ b → S b) (u : Nat) (hu : u < 100) (hl : l.length ≤ 70368744177664) :
    Calls Tryd.prog 46 #[sv, .int .u64 u, .int .i64 10] w (Grown S w o (l ++ (Lib.decDigits u).map fun b => (b.toNat : Int))) := by
  obtain ⟨news, hsrc, hn⟩ := Src.ofStr (X := XB) (P := Tryd.prog) (S := S) (own := [o]) (w := w) (xt := 9) Tryd.underlying9 ⟨(Lib.decDigits u).toArray⟩
  have e1 : strBytes ⟨(Lib.decDigits u).toArray⟩ = (Lib.decDigits u).map fun b => (b.toNat : Int) := by simp [strBytes]
  rw [e1] at hn
  have e2 : (⟨(Lib.decDigits u).toArray⟩ : ByteArray).size = ((Lib.decDigits u).map fun b => (b.toNat : Int)).length := by simp [ByteArray.size]
  rw [e2] at hsrc
  have hlen : (Lib.decDigits u).length ≤ 20 := by
    rw [Lib.decDigits_length]
    by_cases h10 : u < 10
    · rw [Lib.nDigits_small h10]; omega
    · rw [Lib.nDigits_big h10, Lib.nDigits_small (show u / 10 < 10 by omega)]; omega
  have hb : l.length + ((Lib.decDigits u).map fun b => (b.toNat : Int)).length ≤ 140737488355328 := by rw [digs_len]; omega
  have H0 := Asd.mk hsv
  have H1 := Asd.mk hr
  have H2 := Asd.mk hS
  have H3 := Asd.mk hsrc
  have H4 := Asd.mk hn
  have H5 := Asd.mk hb
  clear hsv hr hS hsrc hn hb e1 e2
  go_enter Tryd.func46, Tryd.ntmps46
  go_wp2_with (first
    | (go_at_call 47; refine (Tryd.internal_strconv_small u hu _).mono ?_; rintro e w' ⟨rfl, rfl⟩)
    | (at_builtin; refine wpList_append_row rfl _ _ rfl H0.out rfl H1.out H2.out H3.out H4.out H5.out ?_))
  intro v' w1 own' q1 q2 q3 on q4 q5
  go_wp2
  go_ret
  exact ⟨v', own', rfl, q1, q2, q3, on, q4, q5⟩
/-- A row of one's own in a world that kept all old blocks. -/
theorem HR_kept {S : Nat → Prop} {w w' : World} {l : List Int} {o : Own} (hr : HR XB S w [.row (.int .u8) l] [o]) (hb : Below w.heap.size w w') : HR XB S w' [.row (.int .u8) l] [o] ∧ Frm S w [o] w' [o] :=
  hr.changeF XB_ok hb.os hb.tape hb.output rfl (Nat.le_refl _) hb.size (fun _ => False) (fun i hi _ => ⟨rfl, rfl⟩) (fun b hb' _ => hb.block b hb')
    (fun i o' b ho h => by rcases h with h | h; exact h.elim; have := (List.getElem?_eq_some_iff.1 ho).1; omega)
    (fun i j oi oj b h _ ho _ => by rcases h with h | h; exact h.elim; have := (List.getElem?_eq_some_iff.1 ho).1; omega)
    (fun _ i ob o' h _ ho => by rcases h with h | h; exact h.elim; have := (List.getElem?_eq_some_iff.1 ho).1; omega)
set_option maxHeartbeats 12800000 in
set_option maxRecDepth 100000 in
theorem App_big {S : Nat → Prop} {w : World} {o : Own} {l : List Int} (sv : Value) (hsv : sv = o.v) (hr : HR XB S w [.row (.int .u8) l] [o]) (hS : ∀ b, w.heap.size ≤ b → S b) (u : Nat) (hu : 100 ≤ u) (hu64 : u < 18446744073709551616) (hl : l.length ≤ 70368744177664)
    (htab : Lib.TabIs Tryd.prog w tabName .u64 Lib.pow10Tab) :
    Calls Tryd.prog 46 #[sv, .int .u64 u, .int .i64 10] w (Grown S w o (l ++ (Lib.decDigits u).map fun b => (b.toNat : Int))) := by
  have hu1 : 1 ≤ u := by omega
  have hnd20 : Lib.nDigits u ≤ 20 := by have := Lib.numDigits_eq u hu1 hu64; split at this <;> omega
  have hal : Tryd.prog.arrayLen 74 = 24 := by simp [Program.arrayLen, Tryd.underlying74]
  have hsl : ∀ W, (Instr.sliceAt 74 (.pointer (some ⟨w.heap.size, 0, none⟩)) none (some (.int .i64 (Lib.nDigits u : Int))) none).run Tryd.prog W = .ok (.slice (some ⟨w.heap.size, 0, none⟩) (Lib.nDigits u) 24) W := fun W => by
    rw [run_sliceAt_array_h W 74 ⟨w.heap.size, 0, none⟩ (by simp [Program.arrayLen, Program.elem, Tryd.underlying74]) .i64 (Lib.nDigits u : Int) (by omega) (by rw [hal]; omega)]
    go_simp
  have hH0 := Lib.holds_zero0 w 74 (Lib.nDigits u) (by omega)
  have hfmt := Tryd.internal_strconv_formatBase10 w.heap.size 0 24 u (Array.replicate (Lib.nDigits u) 0) (w.alloc (.cells Lib.zeros24 74)) hH0 (by rw [Array.size_replicate]; exact Lib.lt_pow_nDigits u) hu64 (by rw [Array.size_replicate]; omega)
  rw [Array.size_replicate] at hfmt
  have HH0 := Asd.mk hH0
  have H0 := Asd.mk hsv
  have H1 := Asd.mk hr
  have H2 := Asd.mk hS
  have H3 := Asd.mk hfmt
  have H4 := Asd.mk (Lib.tabIs_alloc htab (.cells Lib.zeros24 74))
  have iu : (100 : Int) ≤ (u : Int) := by omega
  clear hH0 hal hsv hr hS hfmt htab
  go_enter Tryd.func46, Tryd.ntmps46
  go_wp2_with (go_at_call 48; refine (Tryd.internal_strconv_numDigits u hu1 hu64 _ H4.out).mono ?_; rintro e w' ⟨rfl, rfl⟩)
  refine H3.out.mono ?_
  rintro e w' ⟨rfl, k, v', dk, rfl, hF⟩
  have hlen : ((Lib.decDigits u).map fun b => (b.toNat : Int)).length = Lib.nDigits u := by rw [digs_len, Lib.decDigits_length]
  have hpos : 0 < Lib.nDigits u := by
    rcases Nat.eq_zero_or_pos (Lib.nDigits u) with h | h
    · have := Lib.lt_pow_nDigits u
      rw [h] at this
      simp at this
      omega
    · exact h
  have hcells : CellsAt ((putRow (fun (b : UInt8) => Value.int .u8 (b.toNat : Int)) (w.alloc (.cells Lib.zeros24 74)) w.heap.size 0 dk).drewN k) w.heap.size 0 (((Lib.decDigits u).map fun b => (b.toNat : Int)).map (Value.int .u8)) := by
    intro j u' hj
    have hjl : j < (Lib.decDigits u).length := by
      have h5 := (List.getElem?_eq_some_iff.1 hj).1
      simpa using h5
    have e5 : (((Lib.decDigits u).map fun b => (b.toNat : Int)).map (Value.int .u8))[j]? = some (Value.int .u8 ((Lib.decDigits u)[j].toNat : Int)) := by simp [hjl]
    rw [e5] at hj
    cases hj
    rw [Lib.row_is_numeral hF j hjl, World.cell?_drewN]
    exact cell?_putRow (fun (b : UInt8) => Value.int .u8 (b.toNat : Int)) _ w.heap.size 0 _ dk HH0.out (by rw [hF.size, Array.size_replicate]) j (by rw [hF.size]; rw [Lib.decDigits_length] at hjl; exact hjl)
  have hbel : Below w.heap.size w ((putRow (fun (b : UInt8) => Value.int .u8 (b.toNat : Int)) (w.alloc (.cells Lib.zeros24 74)) w.heap.size 0 dk).drewN k) := by
    obtain ⟨os, eo⟩ := Lib.fin_at w (.cells Lib.zeros24 74) dk k 0
    rw [eo]
    exact Lib.below_grow w.heap.size w (Nat.le_refl _) k os
  generalize (putRow (fun (b : UInt8) => Value.int .u8 (b.toNat : Int)) (w.alloc (.cells Lib.zeros24 74)) w.heap.size 0 dk).drewN k = W2 at hcells hbel ⊢
  obtain ⟨q1, q2⟩ := HR_kept H1.out hbel
  have hlt : w.heap.size < W2.heap.size := by
    have h5 := hcells 0 _ (List.getElem?_eq_getElem (show 0 < (((Lib.decDigits u).map fun b => (b.toNat : Int)).map (Value.int .u8)).length by rw [List.length_map, hlen]; exact hpos))
    exact World.block_lt_of_cell? W2 _ h5
  have e24 : Value.slice (some ⟨w.heap.size, 0, none⟩) (Lib.nDigits u) 24 = Value.slice (some ⟨w.heap.size, 0, none⟩) ((Lib.decDigits u).map fun b => (b.toNat : Int)).length 24 := by rw [hlen]
  have l24 : ((Lib.decDigits u).map fun b => (b.toNat : Int)).length ≤ 24 := by rw [hlen]; omega
  obtain ⟨news, hsrc, hn⟩ := Src.ofRow (X := XB) (P := Tryd.prog) (S := S) (own := [o]) (w := W2) (t := 22) (b := 1) (e := .int .u8) (te := 5) (xt := 22) (l := (Lib.decDigits u).map fun b => (b.toNat : Int)) (v := .slice (some ⟨w.heap.size, 0, none⟩) (Lib.nDigits u) 24) XB_ok Tryd.underlying22
    ⟨_, 24, e24, l24, by unfold maxLen; omega, .inr ⟨_, 0, _, rfl, hlt, hcells, repL_map _⟩⟩
  have H5 := Asd.mk q1
  have H6 := Asd.mk q2
  have H7 := Asd.mk hsrc
  have H8 := Asd.mk hn
  have H9 : Asd (l.length + ((Lib.decDigits u).map fun b => (b.toNat : Int)).length ≤ 140737488355328) := ⟨by rw [hlen]; omega⟩
  have H10 : Asd (∀ b, W2.heap.size ≤ b → S b) := ⟨fun b hb => H2.out b (by omega)⟩
  clear HH0 H3 H4 q1 q2 hsrc hn hcells hbel hlt hlen e24 l24 hpos
  go_wp2_with (at_builtin; refine wpList_append_row rfl _ _ rfl H0.out rfl H5.out H10.out H7.out H8.out H9.out ?_)
  intro v2 w3 own' r1 r2 r3 on r4 r5
  go_wp2
  go_ret
  exact ⟨v2, own', rfl, r1, H6.out.trans r2, r3, on, r4, r5⟩
def appU (x : Int × Int × List Int) : Option (List Int) := if decide (0 ≤ x.1 ∧ x.1 < 18446744073709551616) && decide (x.2.1 = 10) && decide (x.2.2.length ≤ 70368744177664) then some (x.2.2 ++ digB 20 x.1.toNat) else none
theorem AppendUint_spec {x : Int × Int × List Int} {y : List Int} (h : appU x = some y) : AE.Spec Tryd.prog XB ⟨⟨[.ref 0, .dat (.int .u64), .dat (.int .i64)], [.row (.int .u8)]⟩, ⟨[.ref 1], [.dead, .row (.int .u8)]⟩⟩ 46 x y := by
  obtain ⟨ui, bs, l⟩ := x
  simp only [appU] at h
  split at h
  · rename_i hc
    cases h
    simp only [Bool.and_eq_true, decide_eq_true_eq] at hc
    obtain ⟨⟨⟨c1, c2⟩, rfl⟩, c3⟩ := hc
    obtain ⟨u, rfl⟩ : ∃ u : Nat, ui = u := ⟨ui.toNat, by omega⟩
    intro S w own vals hS hI ⟨h1, h2⟩
    have hr : HR XB S w [.row (.int .u8) l] own := h1
    have hlen : own.length = 1 := hr.len
    obtain ⟨o, rfl⟩ : ∃ o, own = [o] := by
      match own, hlen with
      | [o], _ => exact ⟨o, rfl⟩
    obtain ⟨v0, v1, v2, rfl, g0, g1, g2⟩ := VRs.three (a := .ref 0) (b := .int .u64 u) (c := .int .i64 10) h2
    obtain rfl : v1 = .int .u64 u := g1
    obtain rfl : v2 = .int .i64 10 := g2
    obtain ⟨o', ho', hv⟩ := g0
    cases ho'
    obtain ⟨p1, _⟩ := hr.obj 0 _ o rfl rfl
    have hv := hv p1
    obtain ⟨g, hg, hok, ht⟩ := hI
    have key : Calls Tryd.prog 46 #[v0, .int .u64 u, .int .i64 10] w (Grown S w o (l ++ (Lib.decDigits u).map fun b => (b.toNat : Int))) := by
      by_cases hu : u < 100
      · exact App_small v0 hv hr hS u hu c3
      · exact App_big v0 hv hr hS u (by omega) (by omega) c3 ht
    refine Does.of_calls Tryd.func46 (by decide) rfl (key.mono fun e w' hg => ?_)
    obtain ⟨v', own', he, q1, q2, q3, on, q4, q5⟩ := hg
    have ed : digB 20 (Int.toNat (u : Int)) = (Lib.decDigits u).map fun b => (b.toNat : Int) := digB_eq 19 u (by simp; omega)
    rw [ed]
    exact ⟨_, he, own', [v'], ⟨q1, .cons ⟨on, q4, fun _ => q5.symm⟩ .nil⟩, q2, q3, rfl⟩
  · cases h
end Go.Proofs.YtdhbnblpkodhjaaDoor.BytesX
