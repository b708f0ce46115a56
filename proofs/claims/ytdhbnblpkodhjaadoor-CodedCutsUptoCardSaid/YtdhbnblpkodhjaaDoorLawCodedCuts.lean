/- CodedCuts holds for every input of bulk at most 1048576: the law returns true and leaves its arguments as they were. Condition: the bulk. -/
import Derived.Test.YtdhbnblpkodhjaaDoorRows
import Derived.Test.YtdhbnblpkodhjaaDoorPureCodedCuts
import Derived.Test.YtdhbnblpkodhjaaDoorTie
import Derived.Test.YtdhbnblpkodhjaaDoorCards
import Derived.Test.YtdhbnblpkodhjaaDoorDoorX
import Derived.LaidMore
import Derived.Stop.Joined
import Derived.SevenTiedAt
import Derived.Lib.LaidTab
import Derived.Deep.DeepHandedRow
import Derived.Deep.DeepWitnessRowRef
import Derived.WalkKit
import Derived.Test.YtdhbnblpkodhjaaDoorUptoX
import Derived.ProofKit
import Derived.OpenShut
import Derived.ShutString
import Derived.ChangeOld
import Derived.Below
import Derived.SizedLaws
namespace Go.Proofs.YtdhbnblpkodhjaaDoor.codedCuts
open Go.ChangeShapes Go.WideShapes Go.ChangeAt Go.RowKit Go.Proofs.YtdhbnblpkodhjaaDoor.AE Go.Proofs.YtdhbnblpkodhjaaDoor.ECodedCuts
open Go.ChangeMaps (open_string shut_string)
set_option linter.unusedVariables false
theorem own : ownKnob Tryd.prog.godebug = none := by kernel_rfl
theorem laidOut : laidOutB Tryd.prog = true := by kernel_rfl
/-- The door's own heap meets the condition. -/
theorem door_met (os : Os) (args : Array Value) : laidMetH Tryd.prog Rows.codedCutsUptoRow.laid ((World.doorLaid Tryd.prog 400 os).forCall (fun _ _ => 0) ⟨#[], args, []⟩).memory :=
  laidMetH_of_parts3 (fuel := 8) (laidMet_of_run' 8 (by kernel_rfl) (by kernel_rfl)) (by kernel_rfl) (by kernel_rfl)
theorem inv_of_laid {W : World} (h : laidMetH Tryd.prog Rows.codedCutsUptoRow.laid W) : BytesX.XB.inv W (atLaw W) := by
  rw [MakeChecks.laidMetH_plain _ _ _ (by kernel_rfl)] at h
  exact BytesX.inv_of_met h
theorem reads (os : Os) {H : Type} (enc : TypeId × Value → H) : ∃ x, DataW.whole enc Tryd.prog ((World.doorLaid Tryd.prog 400 os).forCall (fun _ _ => 0) ⟨#[], #[.bool false, .slice none 0 0, .int .u16 0, .int .u16 0], []⟩).memory Tryd.f8.params.toList (Rows.OpenSpec.upto Rows.codedCutsSpec).vars false #[.bool false, .slice none 0 0, .int .u16 0, .int .u16 0].toList 8 = some x ∧ (∀ k, (Rows.OpenSpec.upto Rows.codedCutsSpec).cond = some k → k H (x.1 ++ x.2.1) = true) :=
  ⟨([.lit (.bool false), .nil, .lit (.int .u16 0), .lit (.int .u16 0)], [], []), by kernel_rfl, fun k hk => by cases hk; kernel_rfl⟩
set_option maxRecDepth 100000 in
theorem lifted (os : Os) (started : os.Started) (H : Type) (enc : TypeId × Value → H) (F : Stop.Interp) :
    ReturnsInHanded {} Tryd.checked os 8 .any ((Rows.OpenSpec.upto Rows.codedCutsSpec).preRow enc Tryd.prog Tryd.f8 Rows.codedCutsUptoRow.domain false Rows.codedCutsUptoRow.laid) (((Rows.OpenSpec.upto Rows.codedCutsSpec).at F).post enc Tryd.prog Tryd.f8 false true false false) := by
  obtain ⟨x, hx, hxk⟩ := reads os enc
  refine returnsInHanded_of_row (C := Tryd.checked) (s := Rows.OpenSpec.upto Rows.codedCutsSpec) own started (by kernel_rfl) Tryd.func8
    (witness_row_atRef (enc := enc) (C := Tryd.checked) false (World.doorLaid Tryd.prog 400 os) #[.bool false, .slice none 0 0, .int .u16 0, .int .u16 0] rfl (by kernel_rfl) (by kernel_rfl) (by kernel_rfl)
      (OpenSpec.preRow_of_cond 8 hx (by kernel_rfl) hxk (by kernel_rfl) (door_met os _))) ?_
  intro W base args ds gs before hval0 hW _ hkk _ hL _ _
  have hval : ∀ (j : Nat) t v, Tryd.f8.params[j]? = some t → args[j]? = some v → Value.okWide Tryd.prog W .any base t v := hval0
  have hW' := hW
  obtain ⟨p, q, hA0, hV, rfl, hfz, hnd⟩ := hW
  have hA : DataW.TrodAll enc Tryd.prog W 0 (fun _ => true) true Tryd.f8.params.toList args.toList ds p := hA0
  rw [Tryd.params8] at hA hval
  obtain ⟨v0, vs0, d0, ds0, p0, q0, hargs, rfl, rfl, h0, r0⟩ := trodAll_cons hA
  obtain ⟨v1, vs1, d1, ds1, p1, q1, rfl, rfl, rfl, h1, r1⟩ := trodAll_cons r0
  obtain ⟨v2, vs2, d2, ds2, p2, q2, rfl, rfl, rfl, h2, r2⟩ := trodAll_cons r1
  obtain ⟨v3, vs3, d3, ds3, p3, q3, rfl, rfl, rfl, h3, r3⟩ := trodAll_cons r2
  obtain ⟨rfl, rfl, rfl⟩ := trodAll_nil r3
  obtain rfl : args = #[v0, v1, v2, v3] := by cases args; simp_all
  obtain ⟨rfl, rfl⟩ := trodVars_none hV
  have hkb : Rows.uptoBulkAll _ ≤ 1048576 := of_decide_eq_true (hkk _ rfl)
  simp only [List.append_nil, Rows.uptoBulkAll] at hkb
  have k0 := h0
  have lt0 : ∀ x ∈ p0, x.block < W.heap.size := by obtain ⟨m, hm⟩ := k0; exact DataW.trod_lt m _ _ _ hm
  obtain ⟨x0, e0, w0⟩ := arg_VU 1048576 (X := BytesX.XB) (own := []) (atLaw_of (w := W)) .bool (by kernel_rfl) (hval 0 4 v0 rfl rfl) h0 (by omega)
  have k1 := h1
  have lt1 : ∀ x ∈ p1, x.block < W.heap.size := by obtain ⟨m, hm⟩ := k1; exact DataW.trod_lt m _ _ _ hm
  obtain ⟨x1, e1, w1⟩ := arg_VU 1048576 (X := BytesX.XB) (own := []) (atLaw_of (w := W)) (.slice (.pair (.int .i64) (.pair (.slice (.slice (.int .u8))) (.one (.slice (.slice (.int .u8))))))) (by kernel_rfl) (hval 1 29 v1 rfl rfl) h1 (by omega)
  have k2 := h2
  have lt2 : ∀ x ∈ p2, x.block < W.heap.size := by obtain ⟨m, hm⟩ := k2; exact DataW.trod_lt m _ _ _ hm
  obtain ⟨x2, e2, w2⟩ := arg_VU 1048576 (X := BytesX.XB) (own := []) (atLaw_of (w := W)) (.int .u16) (by kernel_rfl) (hval 2 39 v2 rfl rfl) h2 (by omega)
  have k3 := h3
  have lt3 : ∀ x ∈ p3, x.block < W.heap.size := by obtain ⟨m, hm⟩ := k3; exact DataW.trod_lt m _ _ _ hm
  obtain ⟨x3, e3, w3⟩ := arg_VU 1048576 (X := BytesX.XB) (own := []) (atLaw_of (w := W)) (.int .u16) (by kernel_rfl) (hval 3 39 v3 rfl rfl) h3 (by omega)
  refine (law_calls (slots := [.dat .bool, .dat (.slice (.pair (.int .i64) (.pair (.slice (.slice (.int .u8))) (.one (.slice (.slice (.int .u8))))))), .dat (.int .u16), .dat (.int .u16)]) BytesX.XB_ok tys mixed (calls 40000) (ok8 BytesX.XB) (x0, x1, x2, x3) (law_run x0 w0 x1 w1 x2 w2 x3 w3) W (inv_of_laid hL) [v0, v1, v2, v3] (.cons e0 (.cons e1 (.cons e2 (.cons e3 (.nil)))))).mono fun e W' ⟨he, bel⟩ => ?_
  subst he
  exact ⟨_, rfl, _, _, _, [], _, [], hW', trodAll_mk1 (shut_bool Tryd.underlying4 _), (trodAll_cons_mk (Below.trod laidOut (by kernel_rfl) (of_decide_eq_true (by kernel_rfl)) k0 bel lt0) (trodAll_cons_mk (Below.trod laidOut (by kernel_rfl) (of_decide_eq_true (by kernel_rfl)) k1 bel lt1) (trodAll_cons_mk (Below.trod laidOut (by kernel_rfl) (of_decide_eq_true (by kernel_rfl)) k2 bel lt2) (trodAll_cons_mk (Below.trod laidOut (by kernel_rfl) (of_decide_eq_true (by kernel_rfl)) k3 bel lt3) trodAll_mk0)))), rfl, bel.frame _, fun h => by cases h⟩
theorem over : Rows.codedCutsUptoRow.holds Tryd.pinned (Rows.OpenSpec.upto Rows.codedCutsSpec) :=
  OpenClaim.holds_of_cond 8 Tryd.f8 rfl rfl rfl rfl rfl rfl rfl ⟨rfl, rfl, rfl, rfl, rfl⟩ rfl rfl rfl rfl rfl (by kernel_rfl) Tryd.func8 (by kernel_rfl)
    (of_decide_eq_true (by kernel_rfl)) (by unfold Func.isWrapper; first | (rw [if_pos (by decide +kernel)]; kernel_rfl) | (rw [if_neg (by decide +kernel)]; exact ⟨rfl, rfl⟩))
    (fun os started H enc _ F => by rw [OpenClaim.pre_eq_preRow]; exact lifted os started H enc F)
set_option maxRecDepth 100000 in
theorem proved : Rows.CodedCutsUptoCardSaid :=
  Claim7.holds_tied_plain_at .later [] [.data, .data, .data] true (true, "265e31a86c451368c5feeb3a4b3ad949548b5deaf29c21a769d38c36d82481e4") false
    over (fun _ h => by cases h) (by kernel_rfl) (fun _ h => by cases h) codedCutsUpto_row_tie rfl ⟨rfl, rfl⟩ (by kernel_rfl) rfl
    (fun f fn hf hfn => by
      obtain rfl : f = 8 := Option.some.inj ((show Tryd.prog.funcNamed "tatting/tattinglaw26.CodedCuts" = some 8 by kernel_rfl).symm.trans hf) |>.symm
      obtain rfl : fn = Tryd.f8 := (Option.some.inj (Tryd.func8.symm.trans hfn)).symm
      exact ⟨by kernel_rfl, fun j t ht => by
        rw [Tryd.params8] at ht
        have hm : t ∈ ([4, 29, 39, 39] : List Nat) := by simpa using Array.mem_of_getElem? ht
        have hall : (([4, 29, 39, 39] : List Nat).all fun u => !Tryd.prog.wantsStandIn u) = true := by kernel_rfl
        exact (show Tryd.prog.wantsStandIn t = false by simpa using List.all_eq_true.1 hall t hm)⟩)
    (by kernel_rfl)
#print axioms proved
end Go.Proofs.YtdhbnblpkodhjaaDoor.codedCuts
namespace Go.Proofs.YtdhbnblpkodhjaaDoor
/-- The row, under a short name, for the claim. -/
theorem codedCutsUpto_holds : Rows.CodedCutsUptoCardSaid := codedCuts.proved
end Go.Proofs.YtdhbnblpkodhjaaDoor
