/- CodedWrites holds for every input of bulk at most 1048576: the law returns true and leaves its arguments as they were. Condition: the bulk. -/
import Derived.Test.YtdhbnblpkodhjaaDoorRows
import Derived.Test.YtdhbnblpkodhjaaDoorPureCodedWrites
import Derived.Test.YtdhbnblpkodhjaaDoorTie
import Derived.Test.YtdhbnblpkodhjaaDoorCards
import Derived.Test.YtdhbnblpkodhjaaDoorDoorX
import Derived.LaidMore
import Derived.Stop.Joined
import Derived.SevenTiedAt
import Derived.Lib.LaidTab
import Derived.Deep.DeepHandedRow
import Derived.Deep.DeepWitnessRowRef
import Derived.WalkKit
import Derived.Test.YtdhbnblpkodhjaaDoorUptoX
import Derived.ProofKit
import Derived.OpenShut
import Derived.ShutString
import Derived.ChangeOld
import Derived.Below
import Derived.SizedLaws
namespace Go.Proofs.YtdhbnblpkodhjaaDoor.codedWrites
open Go.ChangeShapes Go.WideShapes Go.ChangeAt Go.RowKit Go.Proofs.YtdhbnblpkodhjaaDoor.AE Go.Proofs.YtdhbnblpkodhjaaDoor.ECodedWrites
open Go.ChangeMaps (open_string shut_string)
set_option linter.unusedVariables false
theorem own : ownKnob Tryd.prog.godebug = none := by kernel_rfl
theorem laidOut : laidOutB Tryd.prog = true := by kernel_rfl
/-- The door's own heap meets the condition. -/
theorem door_met (os : Os) (args : Array Value) : laidMetH Tryd.prog Rows.codedWritesUptoRow.laid ((World.doorLaid Tryd.prog 400 os).forCall (fun _ _ => 0) ⟨#[], args, []⟩).memory :=
  laidMetH_of_parts3 (fuel := 8) (laidMet_of_run' 8 (by kernel_rfl) (by kernel_rfl)) (by kernel_rfl) (by kernel_rfl)
theorem inv_of_laid {W : World} (h : laidMetH Tryd.prog Rows.codedWritesUptoRow.laid W) : BytesX.XB.inv W (atLaw W) := by
  rw [MakeChecks.laidMetH_plain _ _ _ (by kernel_rfl)] at h
  exact BytesX.inv_of_met h
theorem reads (os : Os) {H : Type} (enc : TypeId × Value → H) : ∃ x, DataW.whole enc Tryd.prog ((World.doorLaid Tryd.prog 400 os).forCall (fun _ _ => 0) ⟨#[], #[.int .i64 0, .slice none 0 0], []⟩).memory Tryd.f4.params.toList (Rows.OpenSpec.upto Rows.codedWritesSpec).vars false #[.int .i64 0, .slice none 0 0].toList 8 = some x ∧ (∀ k, (Rows.OpenSpec.upto Rows.codedWritesSpec).cond = some k → k H (x.1 ++ x.2.1) = true) :=
  ⟨([.lit (.int .i64 0), .nil], [], []), by kernel_rfl, fun k hk => by cases hk; kernel_rfl⟩
set_option maxRecDepth 100000 in
theorem lifted (os : Os) (started : os.Started) (H : Type) (enc : TypeId × Value → H) (F : Stop.Interp) :
    ReturnsInHanded {} Tryd.checked os 4 .any ((Rows.OpenSpec.upto Rows.codedWritesSpec).preRow enc Tryd.prog Tryd.f4 Rows.codedWritesUptoRow.domain false Rows.codedWritesUptoRow.laid) (((Rows.OpenSpec.upto Rows.codedWritesSpec).at F).post enc Tryd.prog Tryd.f4 false true false false) := by
  obtain ⟨x, hx, hxk⟩ := reads os enc
  refine returnsInHanded_of_row (C := Tryd.checked) (s := Rows.OpenSpec.upto Rows.codedWritesSpec) own started (by kernel_rfl) Tryd.func4
    (witness_row_atRef (enc := enc) (C := Tryd.checked) false (World.doorLaid Tryd.prog 400 os) #[.int .i64 0, .slice none 0 0] rfl (by kernel_rfl) (by kernel_rfl) (by kernel_rfl)
      (OpenSpec.preRow_of_cond 8 hx (by kernel_rfl) hxk (by kernel_rfl) (door_met os _))) ?_
  intro W base args ds gs before hval0 hW _ hkk _ hL _ _
  have hval : ∀ (j : Nat) t v, Tryd.f4.params[j]? = some t → args[j]? = some v → Value.okWide Tryd.prog W .any base t v := hval0
  have hW' := hW
  obtain ⟨p, q, hA0, hV, rfl, hfz, hnd⟩ := hW
  have hA : DataW.TrodAll enc Tryd.prog W 0 (fun _ => true) true Tryd.f4.params.toList args.toList ds p := hA0
  rw [Tryd.params4] at hA hval
  obtain ⟨v0, vs0, d0, ds0, p0, q0, hargs, rfl, rfl, h0, r0⟩ := trodAll_cons hA
  obtain ⟨v1, vs1, d1, ds1, p1, q1, rfl, rfl, rfl, h1, r1⟩ := trodAll_cons r0
  obtain ⟨rfl, rfl, rfl⟩ := trodAll_nil r1
  obtain rfl : args = #[v0, v1] := by cases args; simp_all
  obtain ⟨rfl, rfl⟩ := trodVars_none hV
  have hkb : Rows.uptoBulkAll _ ≤ 1048576 := of_decide_eq_true (hkk _ rfl)
  simp only [List.append_nil, Rows.uptoBulkAll] at hkb
  have k0 := h0
  have lt0 : ∀ x ∈ p0, x.block < W.heap.size := by obtain ⟨m, hm⟩ := k0; exact DataW.trod_lt m _ _ _ hm
  obtain ⟨x0, e0, w0⟩ := arg_VU 1048576 (X := BytesX.XB) (own := []) (atLaw_of (w := W)) (.int .i64) (by kernel_rfl) (hval 0 3 v0 rfl rfl) h0 (by omega)
  have k1 := h1
  have lt1 : ∀ x ∈ p1, x.block < W.heap.size := by obtain ⟨m, hm⟩ := k1; exact DataW.trod_lt m _ _ _ hm
  obtain ⟨x1, e1, w1⟩ := arg_VU 1048576 (X := BytesX.XB) (own := []) (atLaw_of (w := W)) (.slice (.pair (.int .i64) (.pair (.slice (.slice (.int .u8))) (.one (.slice (.slice (.int .u8))))))) (by kernel_rfl) (hval 1 29 v1 rfl rfl) h1 (by omega)
  refine (law_calls (slots := [.dat (.int .i64), .dat (.slice (.pair (.int .i64) (.pair (.slice (.slice (.int .u8))) (.one (.slice (.slice (.int .u8)))))))]) BytesX.XB_ok tys mixed (calls 40000) (ok4 BytesX.XB) (x0, x1) (law_run x0 w0 x1 w1) W (inv_of_laid hL) [v0, v1] (.cons e0 (.cons e1 (.nil)))).mono fun e W' ⟨he, bel⟩ => ?_
  subst he
  exact ⟨_, rfl, _, _, _, [], _, [], hW', trodAll_mk1 (shut_bool Tryd.underlying4 _), (trodAll_cons_mk (Below.trod laidOut (by kernel_rfl) (of_decide_eq_true (by kernel_rfl)) k0 bel lt0) (trodAll_cons_mk (Below.trod laidOut (by kernel_rfl) (of_decide_eq_true (by kernel_rfl)) k1 bel lt1) trodAll_mk0)), rfl, bel.frame _, fun h => by cases h⟩
theorem over : Rows.codedWritesUptoRow.holds Tryd.pinned (Rows.OpenSpec.upto Rows.codedWritesSpec) :=
  OpenClaim.holds_of_cond 4 Tryd.f4 rfl rfl rfl rfl rfl rfl rfl ⟨rfl, rfl, rfl, rfl, rfl⟩ rfl rfl rfl rfl rfl (by kernel_rfl) Tryd.func4 (by kernel_rfl)
    (of_decide_eq_true (by kernel_rfl)) (by unfold Func.isWrapper; first | (rw [if_pos (by decide +kernel)]; kernel_rfl) | (rw [if_neg (by decide +kernel)]; exact ⟨rfl, rfl⟩))
    (fun os started H enc _ F => by rw [OpenClaim.pre_eq_preRow]; exact lifted os started H enc F)
set_option maxRecDepth 100000 in
theorem proved : Rows.CodedWritesUptoCardSaid :=
  Claim7.holds_tied_plain_at .later [] [.data, .data, .data] true (true, "265e31a86c451368c5feeb3a4b3ad949548b5deaf29c21a769d38c36d82481e4") false
    over (fun _ h => by cases h) (by kernel_rfl) (fun _ h => by cases h) codedWritesUpto_row_tie rfl ⟨rfl, rfl⟩ (by kernel_rfl) rfl
    (fun f fn hf hfn => by
      obtain rfl : f = 4 := Option.some.inj ((show Tryd.prog.funcNamed "tatting/tattinglaw26.CodedWrites" = some 4 by kernel_rfl).symm.trans hf) |>.symm
      obtain rfl : fn = Tryd.f4 := (Option.some.inj (Tryd.func4.symm.trans hfn)).symm
      exact ⟨by kernel_rfl, fun j t ht => by
        rw [Tryd.params4] at ht
        have hm : t ∈ ([3, 29] : List Nat) := by simpa using Array.mem_of_getElem? ht
        have hall : (([3, 29] : List Nat).all fun u => !Tryd.prog.wantsStandIn u) = true := by kernel_rfl
        exact (show Tryd.prog.wantsStandIn t = false by simpa using List.all_eq_true.1 hall t hm)⟩)
    (by kernel_rfl)
#print axioms proved
end Go.Proofs.YtdhbnblpkodhjaaDoor.codedWrites
namespace Go.Proofs.YtdhbnblpkodhjaaDoor
/-- The row, under a short name, for the claim. -/
theorem codedWritesUpto_holds : Rows.CodedWritesUptoCardSaid := codedWrites.proved
end Go.Proofs.YtdhbnblpkodhjaaDoor
