import Derived.Test.YtippdbhefcmebaaProg
import Derived.Test.YtippdbhefcmebaaAeB
import Derived.Test.YtippdbhefcmebaaMaskX
import Derived.Test.YtippdbhefcmebaaMaskX2
namespace Go.Proofs.Ytippdbhefcmebaa.EMaskKnown
open Go Go.Proofs.Ytippdbhefcmebaa.AE
set_option maxRecDepth 100000
set_option linter.unusedVariables false
-- tatting/tattinglaw6.MaskKnown
noncomputable def c3 : Code := match Try.f3.body with | some c => c | none => .skip
def s3 : Sig := ⟨⟨[], []⟩, ⟨[.dat .bool], []⟩⟩
def hs3 : List (List Nat × LH) := []
noncomputable def h3 : How s3 := .code Try.f3 c3 hs3
-- tatting/tattinglaw6.awake
noncomputable def c8 : Code := match Try.f8.body with | some c => c | none => .skip
def s8 : Sig := ⟨⟨[], []⟩, ⟨[.dat .bool], []⟩⟩
def hs8 : List (List Nat × LH) := []
noncomputable def h8 : How s8 := .code Try.f8 c8 hs8
-- tatting/mask.New
def s7 : Sig := ⟨⟨[.dat (.slice (.int .i64))], []⟩, ⟨[.dat (.ext 0)], []⟩⟩
def h7 : How s7 := .orc (fun _ x => maskNew x)
-- (*tatting/mask.Masks).Of
def s9 : Sig := ⟨⟨[.dat (.ext 0), .dat (.int .i64)], []⟩, ⟨[.dat (.slice (.int .u64))], []⟩⟩
def h9 : How s9 := .orc (fun _ x => maskOf x)
-- (*tatting/mask.Masks).Len
def s10 : Sig := ⟨⟨[.dat (.ext 0)], []⟩, ⟨[.dat (.int .i64)], []⟩⟩
def h10 : How s10 := .orc (fun _ x => MaskX.maskLen x)
-- (*tatting/mask.Masks).Words
def s11 : Sig := ⟨⟨[.dat (.ext 0)], []⟩, ⟨[.dat (.int .i64)], []⟩⟩
def h11 : How s11 := .orc (fun _ x => MaskX.maskWordsOf x)
-- (*tatting/mask.Masks).Symbols
def s12 : Sig := ⟨⟨[.dat (.ext 0)], []⟩, ⟨[.dat (.slice (.int .i64))], []⟩⟩
def h12 : How s12 := .orc (fun _ x => MaskX.maskSyms x)
noncomputable def E : Env := {
  fns := [⟨Sig.none, .none⟩,
    ⟨Sig.none, .none⟩,
    ⟨Sig.none, .none⟩,
    ⟨s3, h3⟩,
    ⟨Sig.none, .none⟩,
    ⟨Sig.none, .none⟩,
    ⟨Sig.none, .none⟩,
    ⟨s7, h7⟩,
    ⟨s8, h8⟩,
    ⟨s9, h9⟩,
    ⟨s10, h10⟩,
    ⟨s11, h11⟩,
    ⟨s12, h12⟩],
  tys := [none,
    none,
    none,
    some ⟨(.int .i64), 0⟩,
    some ⟨.bool, 0⟩,
    none,
    none,
    none,
    none,
    none,
    none,
    none,
    none,
    none,
    none,
    none,
    none,
    none,
    none,
    none,
    none,
    none,
    some ⟨(.slice (.int .i64)), 8⟩,
    some ⟨(.ext 0), 0⟩,
    none,
    none,
    some ⟨(.slice (.int .u64)), 8⟩,
    none,
    some ⟨(.int .u64), 0⟩,
    none,
    none,
    none,
    none,
    none,
    none,
    none,
    none,
    none,
    none,
    none,
    none,
    none,
    none,
    none,
    none,
    none,
    none,
    none,
    none,
    none,
    none,
    none,
    none,
    none,
    none,
    none,
    none,
    none,
    none,
    none,
    none,
    none,
    none,
    none,
    none,
    none,
    none,
    none,
    none,
    none,
    none,
    none,
    none,
    none,
    none,
    none,
    none,
    none,
    none,
    none,
    none,
    none,
    none,
    none,
    none,
    none,
    none,
    none,
    none,
    none] }
theorem tys : tysOK Try.prog E.tys = true := by decide +kernel
theorem ok3 (X : ExtRep) : EntryOK Try.prog X 3 s3 h3 := ⟨Try.func3, rfl, by decide, by decide⟩
theorem ok8 (X : ExtRep) : EntryOK Try.prog X 8 s8 h8 := ⟨Try.func8, rfl, by decide, by decide⟩
-- tatting/tattinglaw6.MaskKnown
-- tatting/tattinglaw6.awake
def r8 (f7 : (List Int) → Option ((List Int))) (f9 : (List Int) → Int → Option ((List Int))) (f10 : (List Int) → Option (Int)) (f11 : (List Int) → Option (Int)) (f12 : (List Int) → Option ((List Int))) (_ : Unit) : Option (Bool) :=
let v1 : (List Int) := ([(7 : Int), (5 : Int), (7 : Int)] : List Int)
Option.bind (f7 v1) fun y2 =>
Option.bind (f9 y2 (7 : Int)) fun y3 =>
let v4 : Int := (y3.length : Int)
let v5 : Bool := decide (v4 = (1 : Int))
bif v5 == true then
bif v5 == true then
if 0 ≤ (0 : Int) ∧ (0 : Int) < (y3.length : Int) then
let v6 : Int := y3.getD (0 : Int).toNat (0 : Int)
bif v5 == true then
bif v5 == true then
let v7 : Bool := decide (v6 = (5 : Int))
bif v5 then
bif v7 == true then
bif v7 == true then
Option.bind (f10 y2) fun y8 =>
bif v7 == true then
let v9 : Bool := decide (y8 = (3 : Int))
bif v7 then
bif v9 == true then
bif v9 == true then
Option.bind (f11 y2) fun y10 =>
bif v9 == true then
let v11 : Bool := decide (y10 = (1 : Int))
bif v9 then
bif v11 == true then
bif v11 == true then
Option.bind (f12 y2) fun y12 =>
bif v11 == true then
let v13 : Int := (y12.length : Int)
bif v11 == true then
let v14 : Bool := decide (v13 = (2 : Int))
bif v11 then
some v14
else
some false
else
bif v11 then
none
else
some false
else
bif v11 == true then
none
else
bif v11 then
none
else
some false
else
bif v11 == true then
none
else
bif v11 == true then
none
else
bif v11 then
none
else
some false
else
bif v11 == true then
none
else
bif v11 == true then
none
else
bif v11 == true then
none
else
bif v11 then
none
else
some false
else
some false
else
bif v9 then
none
else
some false
else
bif v9 == true then
none
else
bif v9 then
none
else
some false
else
bif v9 == true then
none
else
bif v9 == true then
none
else
bif v9 then
none
else
some false
else
some false
else
bif v7 then
none
else
some false
else
bif v7 == true then
none
else
bif v7 then
none
else
some false
else
bif v7 == true then
none
else
bif v7 == true then
none
else
bif v7 then
none
else
some false
else
some false
else
bif v5 then
none
else
some false
else
bif v5 == true then
none
else
bif v5 then
none
else
some false
else none
else
bif v5 == true then
none
else
bif v5 == true then
none
else
bif v5 then
none
else
some false
else
bif v5 == true then
none
else
bif v5 == true then
none
else
bif v5 == true then
none
else
bif v5 then
none
else
some false
def g7 (call : CallFn E) : (List Int) → Option ((List Int)) := fun x0 => call 7 x0
def g8 (call : CallFn E) : Unit → Option (Bool) := fun _ => call 8 ()
def g9 (call : CallFn E) : (List Int) → Int → Option ((List Int)) := fun x0 x1 => call 9 (x0, x1)
def g10 (call : CallFn E) : (List Int) → Option (Int) := fun x0 => call 10 x0
def g11 (call : CallFn E) : (List Int) → Option (Int) := fun x0 => call 11 x0
def g12 (call : CallFn E) : (List Int) → Option ((List Int)) := fun x0 => call 12 x0
noncomputable def q8 (call : CallFn E) (n : Nat) (_ : Unit) : Option (Bool) := runHow E call n s8 () h8
theorem rr8 (call : CallFn E) (n : Nat) (u : Unit) : q8 call n u = r8 (g7 call) (g9 call) (g10 call) (g11 call) (g12 call)  u := by kernel_rfl
theorem gq8 (n : Nat) (u : Unit) : g8 (evalF E (n + 1)) u = q8 (evalF E n) n u := by kernel_rfl
def R7 : Nat → (List Int) → Option ((List Int))
  | 0, _ => none
  | _ + 1, a0 => maskNew a0
theorem e7 (n : Nat) : g7 (evalF E n) = R7 n := by cases n <;> rfl
def R9 : Nat → (List Int) → Int → Option ((List Int))
  | 0, _, _ => none
  | _ + 1, a0, a1 => maskOf (a0, a1)
theorem e9 (n : Nat) : g9 (evalF E n) = R9 n := by cases n <;> rfl
def R10 : Nat → (List Int) → Option (Int)
  | 0, _ => none
  | _ + 1, a0 => MaskX.maskLen a0
theorem e10 (n : Nat) : g10 (evalF E n) = R10 n := by cases n <;> rfl
def R11 : Nat → (List Int) → Option (Int)
  | 0, _ => none
  | _ + 1, a0 => MaskX.maskWordsOf a0
theorem e11 (n : Nat) : g11 (evalF E n) = R11 n := by cases n <;> rfl
def R12 : Nat → (List Int) → Option ((List Int))
  | 0, _ => none
  | _ + 1, a0 => MaskX.maskSyms a0
theorem e12 (n : Nat) : g12 (evalF E n) = R12 n := by cases n <;> rfl
def R8 : Nat → Unit → Option (Bool)
  | 0, _ => none
  | n + 1, u => r8 (R7 n) (R9 n) (R10 n) (R11 n) (R12 n)  u
theorem e8 : ∀ (n : Nat), g8 (evalF E n) = R8 n
  | 0 => by funext u; rfl
  | n + 1 => by
    funext u
    rw [gq8, rr8]
    simp only [e7 n, e9 n, e10 n, e11 n, e12 n]
    rfl
noncomputable def RC (n : Nat) : CallFn E := fun f =>
  if h : f = 7 then @Eq.rec Nat 7 (fun f _ => (E.fn f).sig.ins.den → Option (E.fn f).sig.outs.den) (fun x => R7 n x) f h.symm else
  if h : f = 9 then @Eq.rec Nat 9 (fun f _ => (E.fn f).sig.ins.den → Option (E.fn f).sig.outs.den) (fun x => R9 n x.1 x.2) f h.symm else
  if h : f = 10 then @Eq.rec Nat 10 (fun f _ => (E.fn f).sig.ins.den → Option (E.fn f).sig.outs.den) (fun x => R10 n x) f h.symm else
  if h : f = 11 then @Eq.rec Nat 11 (fun f _ => (E.fn f).sig.ins.den → Option (E.fn f).sig.outs.den) (fun x => R11 n x) f h.symm else
  if h : f = 12 then @Eq.rec Nat 12 (fun f _ => (E.fn f).sig.ins.den → Option (E.fn f).sig.outs.den) (fun x => R12 n x) f h.symm else
  if h : f = 8 then @Eq.rec Nat 8 (fun f _ => (E.fn f).sig.ins.den → Option (E.fn f).sig.outs.den) (fun x => R8 n x) f h.symm else
  evalF E n f
theorem RC_eq (n : Nat) : RC n = evalF E n := by
  funext f
  unfold RC
  by_cases h : f = 7
  · subst h; funext x; rw [dif_pos rfl]; exact ((congrFun (e7 n) x)).symm
  rw [dif_neg h]; clear h
  by_cases h : f = 9
  · subst h; funext x; rw [dif_pos rfl]; exact ((congrFun (congrFun (e9 n) x.1) x.2)).symm
  rw [dif_neg h]; clear h
  by_cases h : f = 10
  · subst h; funext x; rw [dif_pos rfl]; exact ((congrFun (e10 n) x)).symm
  rw [dif_neg h]; clear h
  by_cases h : f = 11
  · subst h; funext x; rw [dif_pos rfl]; exact ((congrFun (e11 n) x)).symm
  rw [dif_neg h]; clear h
  by_cases h : f = 12
  · subst h; funext x; rw [dif_pos rfl]; exact ((congrFun (e12 n) x)).symm
  rw [dif_neg h]; clear h
  by_cases h : f = 8
  · subst h; funext x; rw [dif_pos rfl]; exact ((congrFun (e8 n) x)).symm
  rw [dif_neg h]
theorem law_k : @Eq (Option Bool) (runK E (strictC E (RC 300)) 300 s3 () h3) (some true) := by kernel_rfl
theorem law_h (x : s3.ins.den) : runHow E (evalF E 300) 300 s3 x h3 = runK E (strictC E (RC 300)) 300 s3 x h3 := by rw [strictC_eq, RC_eq, runK_eq]
theorem law_run (x : s3.ins.den) : runHow E (evalF E 300) 300 s3 x h3 = some true := (law_h x).trans law_k
theorem okAll : EntriesOK Try.prog MaskX.XM 0 E.fns := ⟨trivial,
  trivial,
  trivial,
  ok3 MaskX.XM,
  trivial,
  trivial,
  trivial,
  fun _ _ _ h => MaskX.New_spec MaskX.sortC MaskX.sortN MaskX.compC MaskX.compN h,
  ok8 MaskX.XM,
  fun _ _ _ h => MaskX.Of_spec h,
  fun _ _ _ h => MaskX.Len_spec h,
  fun _ _ _ h => MaskX.Words_spec h,
  fun _ _ _ h => MaskX.Symbols_spec h, trivial⟩
theorem mixed : Try.prog.follows .mixedOrders = true := by kernel_rfl
theorem calls (n : Nat) : CallOK Try.prog MaskX.XM E (evalF E n) := evalF_sound MaskX.XM_ok tys mixed (entries_fn okAll) n
end Go.Proofs.Ytippdbhefcmebaa.EMaskKnown
