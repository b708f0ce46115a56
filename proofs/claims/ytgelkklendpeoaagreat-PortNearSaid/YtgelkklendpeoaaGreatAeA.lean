/- An evaluator of programs, and that its answers are those of the calls. By hand. -/
import Derived.Calls
import Derived.LoopN
import Derived.Below
import Derived.Laws.Entries
import Derived.Laws.OwnMore
import Derived.Laws.Strings
import Derived.Laws.Slices
import Derived.Laws.Small
import Derived.Laws.Pointers
import Derived.Laws.StructEq
import Derived.WalkSpells
import Derived.Laws.BytesString
namespace Go.Proofs.YtgelkklendpeoaaGreat.AE
set_option linter.unusedVariables false
set_option linter.unusedSimpArgs false
open Go

/-- Types of plain data. -/
inductive Ty where
  | int (k : IntKind) | bool | str | unit
  | slice (e : Ty) | one (a : Ty) | pair (a b : Ty) | ext (i : Nat)
def Ty.den : Ty → Type
  | .int _ => Int | .bool => Bool | .str => ByteArray | .unit => Unit
  | .slice e => List e.den | .one a => a.den | .pair a b => a.den × b.den | .ext _ => List Int
def Ty.beq : Ty → Ty → Bool
  | .int k, .int k' => decide (k = k') | .bool, .bool => true | .str, .str => true | .unit, .unit => true
  | .slice a, .slice b => a.beq b | .one a, .one b => a.beq b
  | .pair a b, .pair c d => match a.beq c with | true => b.beq d | false => false
  | .ext i, .ext j => Nat.beq i j
  | _, _ => false
theorem Ty.eq_of_beq : ∀ {a b : Ty}, a.beq b = true → a = b
  | .int k, .int k', h => by simp only [Ty.beq, decide_eq_true_eq] at h; rw [h]
  | .bool, .bool, _ | .str, .str, _ | .unit, .unit, _ => rfl
  | .slice a, .slice b, h => by rw [Ty.eq_of_beq (a := a) (b := b) h]
  | .one a, .one b, h => by rw [Ty.eq_of_beq (a := a) (b := b) h]
  | .pair a b, .pair c d, h => by
    simp only [Ty.beq] at h
    split at h
    · rename_i h1; rw [Ty.eq_of_beq h1, Ty.eq_of_beq h]
    · cases h
  | .ext i, .ext j, h => by simp only [Ty.beq, Nat.beq_eq] at h; rw [h]
def Ty.size : Ty → Nat
  | .unit => 0 | .one a => a.size | .pair a b => a.size + b.size | _ => 1
def Ty.isAgg : Ty → Bool
  | .unit | .one _ | .pair _ _ => true | _ => false
def Ty.zero : (T : Ty) → T.den
  | .int _ => (0 : Int) | .bool => false | .str => ByteArray.empty | .unit => ()
  | .slice _ => [] | .one a => a.zero | .pair a b => (a.zero, b.zero) | .ext _ => ([] : List Int)
def castCore {a b : Ty} (x : a.den) : (t : Bool) → a.beq b = t → Option b.den
  | true, h => some (Ty.eq_of_beq h ▸ x)
  | false, _ => none
def castTo (a b : Ty) (x : a.den) : Option b.den := castCore x (a.beq b) rfl
theorem castTo_some {a b : Ty} {x : a.den} {y : b.den} (h : castTo a b x = some y) : ∃ e : a = b, e ▸ x = y := by
  have key : ∀ (t : Bool) (p : a.beq b = t), castCore x t p = some y → ∃ e : a = b, e ▸ x = y := by
    intro t p h
    cases t with
    | true => exact ⟨Ty.eq_of_beq p, by simpa [castCore] using h⟩
    | false => simp [castCore] at h
  exact key _ rfl h

/-- Values as the evaluator has them. -/
inductive AV where
  | undef | skp | int (k : IntKind) (n : Int) | bool (b : Bool) | str (s : ByteArray) | nil | sl (T : Ty) (l : List T.den) | agg (T : Ty) (x : T.den)
  | ref (i : Nat) | ptr (i off : Nat) | at (T : Ty) (x : T.den) | ea (i : Nat) (ix : Int) (off : Nat) | nilp
  | tup0 | tcons (a b : AV) | fn (f : FuncId) (cs : List Nat) | ext (i : Nat) (x : List Int)
  | zag (T : Ty) (x : T.den)   -- an aggregate whose slices are nil
def inject : (T : Ty) → T.den → AV
  | .int k, n => .int k n | .bool, b => .bool b | .str, s => .str s | .slice e, l => .sl e l
  | .ext i, x => .ext i x | .unit, x => .agg .unit x | .one a, x => .agg (.one a) x | .pair a b, x => .agg (.pair a b) x
/-- Things of the evaluator's own heap. -/
inductive Ob where
  | dead | row (T : Ty) (l : List T.den) | frz (T : Ty) (l : List T.den) | var (T : Ty) (x : T.den)
  | vrow (T : Ty) (l : List T.den)   -- a variable that holds a row of its own
  | vout   -- its row is out
  | vst (T : Ty) (x : T.den) (h : Option Nat)   -- a variable whose fields hold rows of their own; the cell of the one that is out
structure St where
  tmps : List AV
  objs : List Ob
def St.put (st : St) (d : Option Nat) (v : AV) : St :=
  match d with | some d => { st with tmps := st.tmps.set d v } | none => st
def Ob.get (os : List Ob) (i : Nat) : Ob := os.getD i .dead

/-- What a type of the program is. -/
structure TI where
  T : Ty
  b : Nat := 0     -- a slice's: bytes of an element
inductive SP where
  | dat (T : Ty) | ref (j : Nat) | ptr (j off : Nat) | skip | fnc (f : Nat) (js : List Nat)
inductive OT where
  | dead | row (T : Ty) | var (T : Ty) | vrow (T : Ty) | vst (T : Ty)
def Prods : List Ty → Type
  | [] => Unit | [t] => t.den | t :: t' :: ts => t.den × Prods (t' :: ts)
def pcons : {t : Ty} → {ts : List Ty} → t.den → Prods ts → Prods (t :: ts)
  | _, [], x, _ => x | _, _ :: _, x, p => (x, p)
def phead : {t : Ty} → {ts : List Ty} → Prods (t :: ts) → t.den
  | _, [], x => x | _, _ :: _, p => p.1
def ptail : {t : Ty} → {ts : List Ty} → Prods (t :: ts) → Prods ts
  | _, [], _ => () | _, _ :: _, p => p.2
theorem phead_pcons {t : Ty} {ts : List Ty} (x : t.den) (p : Prods ts) : phead (pcons x p) = x := by cases ts <;> rfl
theorem ptail_pcons {t : Ty} {ts : List Ty} (x : t.den) (p : Prods ts) : ptail (pcons x p) = p := by cases ts <;> rfl
def slotTys : List SP → List Ty → List Ty
  | [], rest => rest
  | .dat T :: ss, rest => T :: slotTys ss rest
  | .ref _ :: ss, rest | .ptr _ _ :: ss, rest | .skip :: ss, rest | .fnc _ _ :: ss, rest => slotTys ss rest
def objTys : List OT → List Ty
  | [] => []
  | .dead :: os => objTys os
  | .row T :: os => .slice T :: objTys os
  | .var T :: os => T :: objTys os
  | .vrow T :: os => .slice T :: objTys os
  | .vst T :: os => T :: objTys os
structure Shape where
  slots : List SP
  objs : List OT
def Shape.tys (s : Shape) : List Ty := slotTys s.slots (objTys s.objs)
abbrev Shape.den (s : Shape) : Type := Prods s.tys

/-- Data of a value. -/
def readDat (os : List Ob) : (T : Ty) → AV → Option T.den
  | .int k, .int k' n => match decide (k = k') with | true => some n | false => none
  | .bool, .bool b => some b
  | .str, .str s => some s
  | .slice _, .nil => some []
  | .slice e, .sl e' l => castTo (.slice e') (.slice e) l
  | .slice e, .ref i => match Ob.get os i with
    | .row e' l | .frz e' l => castTo (.slice e') (.slice e) l
    | _ => none
  | .ext i, .ext j x => match Nat.beq i j with | true => some x | false => none
  | .one a, .agg T x => castTo T (.one a) x
  | .pair a b, .agg T x => castTo T (.pair a b) x
  | .unit, .agg T x => castTo T .unit x
  | .one a, .zag T x => castTo T (.one a) x
  | .pair a b, .zag T x => castTo T (.pair a b) x
  | _, _ => none
def freezeOb : Ob → Ob | .row T l => .frz T l | o => o
def freezeV (os : List Ob) : AV → List Ob
  | .ref i => os.set i (freezeOb (Ob.get os i))
  | _ => os
/-- What is read out of the list of slots, then of the things. -/
def readSlots (os : List Ob) : (ss : List SP) → List AV → {rest : List Ty} → Prods rest → Option (Prods (slotTys ss rest))
  | [], _, _, p => some p
  | .dat T :: ss, v :: vs, _, p => match readDat os T v with
    | some x => match readSlots os ss vs p with | some q => some (pcons x q) | none => none
    | none => none
  | .ref _ :: ss, _ :: vs, _, p => readSlots os ss vs p
  | .ptr _ _ :: ss, _ :: vs, _, p => readSlots os ss vs p
  | .skip :: ss, _ :: vs, _, p => readSlots os ss vs p
  | .fnc _ _ :: ss, _ :: vs, _, p => readSlots os ss vs p
  | .dat _ :: _, [], _, _ => none
  | .ref _ :: _, [], _, _ => none
  | .ptr _ _ :: _, [], _, _ => none
  | .skip :: _, [], _, _ => none
  | .fnc _ _ :: _, [], _, _ => none
def readObjs (os : List Ob) : (ts : List OT) → List Nat → Option (Prods (objTys ts))
  | [], [] => some ()
  | [], _ :: _ => none
  | .dead :: ts, _ :: σ => readObjs os ts σ
  | .row T :: ts, i :: σ => match Ob.get os i with
    | .row T' l => match castTo (.slice T') (.slice T) l with
      | some x => match readObjs os ts σ with | some q => some (pcons (t := .slice T) x q) | none => none
      | none => none
    | _ => none
  | .var T :: ts, i :: σ => match Ob.get os i with
    | .var T' y => match castTo T' T y with
      | some x => match readObjs os ts σ with | some q => some (pcons x q) | none => none
      | none => none
    | _ => none
  | .vrow T :: ts, i :: σ => match Ob.get os i with
    | .vrow T' l => match castTo (.slice T') (.slice T) l with
      | some x => match readObjs os ts σ with | some q => some (pcons (t := .slice T) x q) | none => none
      | none => none
    | _ => none
  | .vst T :: ts, i :: σ => match Ob.get os i with
    | .vst T' y none => match castTo T' T y with
      | some x => match readObjs os ts σ with | some q => some (pcons x q) | none => none
      | none => none
    | _ => none
  | .vst _ :: _, [] => none
  | .vrow _ :: _, [] => none
  | .dead :: _, [] => none
  | .row _ :: _, [] => none
  | .var _ :: _, [] => none
def hasId (i : Nat) : Option Nat → Bool
  | some i' => Nat.beq i i' | none => false
/-- Which of the things at hand stand for the shape's: one for each. -/
def assign (σ : List (Option Nat)) (j i : Nat) : Option (List (Option Nat)) :=
  match σ.getD j none with
  | some i' => match Nat.beq i i' with | true => some σ | false => none
  | none => match σ.any (hasId i) with
    | true => none
    | false => match Nat.blt j σ.length with | true => some (σ.set j (some i)) | false => none
def assignL (σ : List (Option Nat)) : List Nat → List Nat → Option (List (Option Nat))
  | [], [] => some σ
  | j :: js, i :: cs => match assign σ j i with | some σ' => assignL σ' js cs | none => none
  | _, _ => none
def matchSlots : List SP → List AV → List (Option Nat) → Option (List (Option Nat))
  | [], [], σ => some σ
  | .ref j :: ss, .ref i :: vs, σ => match assign σ j i with | some σ' => matchSlots ss vs σ' | none => none
  | .ptr j off :: ss, .ptr i off' :: vs, σ => match Nat.beq off off' with
    | true => match assign σ j i with | some σ' => matchSlots ss vs σ' | none => none
    | false => none
  | .dat _ :: ss, _ :: vs, σ | .skip :: ss, _ :: vs, σ => matchSlots ss vs σ
  | .fnc f js :: ss, .fn f' cs :: vs, σ => match Nat.beq f f' with
    | true => match assignL σ js cs with | some σ' => matchSlots ss vs σ' | none => none
    | false => none
  | _, _, _ => none
/-- Nil where a row of one's own is wanted: a new one, of nothing. -/
def nilRows (ts : List OT) : List SP → List AV → List Ob → List AV × List Ob
  | .ref j :: ss, .nil :: vs, os => match ts.getD j .dead with
    | .row T => (match Nat.blt 0 T.size with
      | true => match nilRows ts ss vs (os ++ [.row T []]) with | (vs', os') => (.ref os.length :: vs', os')
      | false => match nilRows ts ss vs os with | (vs', os') => (.nil :: vs', os'))
    | _ => match nilRows ts ss vs os with | (vs', os') => (.nil :: vs', os')
  | _ :: ss, v :: vs, os => match nilRows ts ss vs os with | (vs', os') => (v :: vs', os')
  | _, vs, os => (vs, os)
/-- A row that came in and is given away, where it stands for another thing: it gets a new name. -/
def isDead : OT → Bool
  | .dead => true | _ => false
def unpin (m : Nat) (ts : List OT) : List SP → List AV → List Ob → List AV × List Ob
  | .ref j :: ss, .ref i :: vs, os => match Nat.blt i m && (!Nat.beq j i && isDead (ts.getD i .dead)) with
    | true => match Ob.get os i with
      | .row T l => match unpin m ts ss vs (os.set i .dead ++ [.row T l]) with | (vs', os') => (.ref os.length :: vs', os')
      | _ => match unpin m ts ss vs os with | (vs', os') => (.ref i :: vs', os')
    | false => match unpin m ts ss vs os with | (vs', os') => (.ref i :: vs', os')
  | _ :: ss, v :: vs, os => match unpin m ts ss vs os with | (vs', os') => (v :: vs', os')
  | _, vs, os => (vs, os)
def allSome : List (Option Nat) → Option (List Nat)
  | [] => some []
  | some i :: σ => match allSome σ with | some l => some (i :: l) | none => none
  | none :: _ => none
/-- Frozen are those that are handed on as data. -/
def freezeSlots : List SP → List AV → List Ob → List Ob
  | .dat _ :: ss, v :: vs, os => freezeSlots ss vs (freezeV os v)
  | _ :: ss, _ :: vs, os => freezeSlots ss vs os
  | _, _, os => os
/-- What is lent as data is not handed over besides. -/
def lentOk : List SP → List AV → List Nat → Bool
  | .dat _ :: ss, .ref i :: vs, σ => (match σ.any (Nat.beq i) with | true => false | false => lentOk ss vs σ)
  | _ :: ss, _ :: vs, σ => lentOk ss vs σ
  | _, _, _ => true
structure Got (s : Shape) where
  x : s.den
  σ : List Nat
  objs : List Ob
/-- A shape is read: values, things; 'pins' things stand for themselves. -/
def Shape.read (s : Shape) (pins : List Nat) (lend : Bool) (vs : List AV) (os : List Ob) : Option (Got s) :=
  match nilRows s.objs s.slots (unpin pins.length s.objs s.slots vs os).1 (unpin pins.length s.objs s.slots vs os).2 with
  | (vs1, os1) =>
    match matchSlots s.slots vs1 (pins.map some ++ List.replicate (s.objs.length - pins.length) none) with
    | none => none
    | some σ => match allSome σ with
      | none => none
      | some σ' =>
        match (match lend with | true => (match lentOk s.slots vs1 σ' with | true => some os1 | false => none) | false => some (freezeSlots s.slots vs1 os1)) with
        | none => none
        | some os2 => match readObjs os2 s.objs σ' with
          | none => none
          | some p => match readSlots os2 s.slots vs1 p with
            | none => none
            | some x => some ⟨x, σ', os2⟩
def putObjs : (ts : List OT) → Prods (objTys ts) → List Ob
  | [], _ => []
  | .dead :: ts, p => .dead :: putObjs ts p
  | .row T :: ts, p => .row T (phead (t := .slice T) p) :: putObjs ts (ptail (t := .slice T) p)
  | .var T :: ts, p => .var T (phead p) :: putObjs ts (ptail p)
  | .vrow T :: ts, p => .vrow T (phead (t := .slice T) p) :: putObjs ts (ptail (t := .slice T) p)
  | .vst T :: ts, p => .vst T (phead p) none :: putObjs ts (ptail p)
/-- The values of slots; the things are numbered by 'f'. -/
def putSlots (f : Nat → Nat) : (ss : List SP) → {rest : List Ty} → Prods (slotTys ss rest) → List AV × Prods rest
  | [], _, p => ([], p)
  | .dat T :: ss, _, p => match putSlots f ss (ptail p) with | (vs, q) => (inject T (phead p) :: vs, q)
  | .ref j :: ss, _, p => match putSlots f ss p with | (vs, q) => (.ref (f j) :: vs, q)
  | .ptr j off :: ss, _, p => match putSlots f ss p with | (vs, q) => (.ptr (f j) off :: vs, q)
  | .skip :: ss, _, p => match putSlots f ss p with | (vs, q) => (.undef :: vs, q)
  | .fnc g js :: ss, _, p => match putSlots f ss p with | (vs, q) => (.fn g (js.map f) :: vs, q)
end Go.Proofs.YtgelkklendpeoaaGreat.AE

namespace Go.Proofs.YtgelkklendpeoaaGreat.AE
set_option linter.unusedVariables false
set_option linter.unusedSimpArgs false
open Go

structure Sig where
  ins : Shape
  outs : Shape
/-- A loop's shape: the temporaries that it keeps; 'ex': by which exit it is left. -/
structure LH where
  keep : List Nat
  sh : Shape
  ex : Nat
inductive How (s : Sig) where
  | none | code (fn : Func) (c : Code) (hints : List (List Nat × LH)) | orc (g : Nat → s.ins.den → Option s.outs.den)
structure Entry where
  sig : Sig
  how : How sig
structure Env where
  fns : List Entry
  tys : List (Option TI)
  vrs : List Nat := []   -- types whose variables hold rows of their own
  nvs : List (Nat × Nat) := []   -- loads and stores (type, where the address is) of types of 'vrs' that are none of such a variable
  vss : List (Nat × Nat) := []   -- loads and stores (type, where the address is) of variables whose fields do
def Sig.none : Sig := ⟨⟨[], []⟩, ⟨[], []⟩⟩
def Env.fn (E : Env) (f : Nat) : Entry := E.fns.getD f ⟨Sig.none, .none⟩
def Env.isSl (E : Env) (t : Nat) (e : Ty) : Bool := match E.tys.getD t none with | some ti => ti.T.beq (.slice e) | none => false
def Env.isStr (E : Env) (t : Nat) : Bool := match E.tys.getD t none with | some ti => ti.T.beq .str | none => false
def Env.vr (E : Env) (t : Nat) : Bool := E.vrs.any (Nat.beq t)
def Env.vra (E : Env) (t : Nat) (a : Operand) : Bool := match a with | .tmp n => E.vr t && !E.nvs.any (fun p => Nat.beq p.1 t && Nat.beq p.2 n) | _ => E.vr t
def Env.vs (E : Env) (t : Nat) (a : Operand) : Bool := match a with | .tmp n => E.vss.any (fun p => Nat.beq p.1 t && Nat.beq p.2 n) | _ => false
def Env.ti (E : Env) (t : Nat) : Option TI := E.tys.getD t none
/-- Nothing in it shares memory with anything. -/
def Ty.isExt : Ty → Bool
  | .ext _ => true | _ => false
def Ty.flat : Ty → Bool
  | .slice _ | .ext _ => false | .one a => a.flat
  | .pair a b => (match a.flat with | true => b.flat | false => false)
  | _ => true
def Sig.lends (s : Sig) : Bool :=
  match s.outs.slots.all (fun p => match p with | .dat T => T.flat | _ => true) with
  | true => s.outs.objs.all (fun o => match o with | .row T | .var T | .vrow T => T.flat | .vst _ => false | .dead => true)
  | false => false

/-- Every element of a slice in it takes room. -/
def zok : Ty → Bool
  | .pair a b => (match zok a with | true => zok b | false => false)
  | .one a => zok a
  | .slice e => Nat.blt 0 e.size
  | _ => true
/-- A build that leaves the slices nil: of nothing, or of the first field alone. -/
def zagOk (E : Env) (t : Nat) (T : Ty) (d : Option Nat) (parts : List (Nat × Operand)) : Bool :=
  match d with
  | none => false
  | some d => match E.vss.any (fun p => Nat.beq p.1 t && Nat.beq p.2 (d + 1000000)) && zok T with
    | false => false
    | true => match parts, T with
      | [], _ => true
      | [(0, _)], .pair a _ => a.flat
      | _, _ => false

def constAV : Value → AV
  | .int k n => .int k n | .bool b => .bool b | .string s => .str s | .pointer Option.none => .nilp | .slice Option.none 0 0 => .nil
  | _ => .undef
def parseC : (T : Ty) → Value → Option T.den
  | .int k, .int k' n => (match decide (k = k') with | true => some n | false => none)
  | .bool, .bool b => some b
  | .str, .string s => some s
  | .slice _, .slice Option.none n c => (match Nat.beq n 0 && Nat.beq c 0 with | true => some [] | false => none)
  | _, _ => none
def parse1 (T : Ty) : List Value → Option (T.den × List Value)
  | [] => none
  | v :: r => match parseC T v with | some x => some (x, r) | none => none
def parseV : (T : Ty) → List Value → Option (T.den × List Value)
  | .unit, r => some ((), r)
  | .one a, r => parseV a r
  | .pair a b, r => match parseV a r with
    | some (x, r) => match parseV b r with | some (y, r) => some ((x, y), r) | none => none
    | none => none
  | .int k, cs => parse1 (.int k) cs | .bool, cs => parse1 .bool cs | .str, cs => parse1 .str cs | .slice e, cs => parse1 (.slice e) cs | .ext i, cs => parse1 (.ext i) cs
def opd (st : St) : Operand → AV
  | .tmp t => st.tmps.getD t .undef
  | .const v => constAV v
  | .func f => .fn f []
  | .global _ => .undef
/-- An operand that is moved, at a type: a struct's constant too. -/
def opdT (E : Env) (t : TypeId) (st : St) : Operand → AV
  | .const (.agg cs) => match E.ti t with
    | some ti => match parseV ti.T cs.toList with | some (x, []) => (match ti.T.isAgg with | true => .agg ti.T x | false => .undef) | _ => .undef
    | none => .undef
  | x => opd st x

def bitop (op : BinOp) (k : IntKind) (x y : Int) : Int :=
  match op with
  | .and => k.wrap (BitVec.ofInt k.bits x &&& BitVec.ofInt k.bits y).toNat
  | .or => k.wrap (BitVec.ofInt k.bits x ||| BitVec.ofInt k.bits y).toNat
  | .xor => k.wrap (BitVec.ofInt k.bits x ^^^ BitVec.ofInt k.bits y).toNat
  | _ => k.wrap (BitVec.ofInt k.bits x &&& ~~~(BitVec.ofInt k.bits y)).toNat
def strLt (x y : ByteArray) : Bool := Op.bytesLess x.data.toList y.data.toList
def strEq (x y : ByteArray) : Bool := x.data.toList == y.data.toList
def byteAt (s : ByteArray) (i : Int) : Int := ((s.data.getD i.toNat 0).toNat : Int)
def bytesStr (l : List Int) : ByteArray := ⟨(l.map fun n => UInt8.ofNat n.toNat).toArray⟩
def strBytes (s : ByteArray) : List Int := s.data.toList.map fun b => (b.toNat : Int)
def cut {α : Type} (l : List α) (lo hi : Int) : List α := (l.take hi.toNat).drop lo.toNat

section
variable {R : Type}
def abin (op : BinOp) (a b : AV) (k : AV → Option R) : Option R :=
  match op, a, b with
  | .shl, .int kd x, .int _ y => if y < 0 then none else k (.int kd (kd.wrap (x * 2 ^ (min y.toNat kd.bits))))
  | .shr, .int kd x, .int _ y => if y < 0 then none else k (.int kd (x.fdiv (2 ^ (min y.toNat kd.bits))))
  | op, .int kd x, .int kd' y => match decide (kd = kd') with
    | false => none
    | true => match op with
      | .add => k (.int kd (kd.wrap (x + y)))
      | .sub => k (.int kd (kd.wrap (x - y)))
      | .mul => k (.int kd (kd.wrap (x * y)))
      | .quo => if y = 0 then none else k (.int kd (kd.wrap (x.tdiv y)))
      | .rem => if y = 0 then none else k (.int kd (x.tmod y))
      | .and => k (.int kd (bitop .and kd x y))
      | .or => k (.int kd (bitop .or kd x y))
      | .xor => k (.int kd (bitop .xor kd x y))
      | .andNot => k (.int kd (bitop .andNot kd x y))
      | .eql => k (.bool (decide (x = y)))
      | .neq => k (.bool (!decide (x = y)))
      | .lss => k (.bool (decide (x < y)))
      | .leq => k (.bool (decide (x ≤ y)))
      | .gtr => k (.bool (decide (x > y)))
      | .geq => k (.bool (decide (x ≥ y)))
      | _ => none
  | op, .str x, .str y => match op with
    | .add => if x.size + y.size ≤ 140737488355328 then k (.str (x ++ y)) else none
    | .eql => k (.bool (strEq x y))
    | .neq => k (.bool (!strEq x y))
    | .lss => k (.bool (strLt x y))
    | .leq => k (.bool (strLt x y || strEq x y))
    | .gtr => k (.bool (!(strLt x y || strEq x y)))
    | .geq => k (.bool (!strLt x y))
    | _ => none
  | _, _, _ => none
/-- Comparisons that need the operands' type: two bools; a slice, a pointer against nil. -/
def aeq (T : Ty) (os : List Ob) (a b : AV) (k : Bool → Option R) : Option R :=
  match T, a, b with
  | .bool, .bool x, .bool y => k (x == y)
  | .slice _, .nil, .nil => k true
  | .ext _, .ext _ _, .nilp => k false
  | .slice _, .sl _ l, .nil => if 0 < l.length then k false else none
  | .slice _, .ref i, .nil => match Ob.get os i with
    | .row _ l | .frz _ l => if 0 < l.length then k false else none
    | _ => none
  | _, _, _ => none
def eqInt (x y : Int) : Bool := decide (x = y)
def eqBool (x y : Bool) : Bool := x == y
/-- Structs of numbers, bools, strings: field by field. -/
def eqFlat : (T : Ty) → T.den → T.den → Option Bool
  | .int _, x, y => some (eqInt x y)
  | .bool, x, y => some (eqBool x y)
  | .str, x, y => some (strEq x y)
  | .one a, x, y => eqFlat a x y
  | .pair a b, x, y => match eqFlat a x.1 y.1, eqFlat b x.2 y.2 with
    | some p, some q => some (p && q)
    | _, _ => none
  | _, _, _ => none
def aggeq (T : Ty) (a b : AV) (k : Bool → Option R) : Option R :=
  match a, b with
  | .agg T1 x, .agg T2 y => match castTo T1 T x, castTo T2 T y with
    | some x', some y' => match eqFlat T x' y' with | some r => k r | none => none
    | _, _ => none
  | _, _ => none
/-- What is compared by its operands' type. -/
def anyeq (ti : TI) (os : List Ob) (a b : AV) (k : Bool → Option R) : Option R :=
  match Nat.beq ti.b 1 && ti.T.isAgg with
  | true => aggeq ti.T a b k
  | false => aeq ti.T os a b k
def fieldTy : Ty → Nat → Option (Nat × Ty)
  | .pair a _, 0 => some (0, a)
  | .pair a b, f + 1 => match fieldTy b f with | some (o, t) => some (a.size + o, t) | none => none
  | .one a, 0 => some (0, a)
  | _, _ => none
def fieldPick (c : (T : Ty) → T.den → AV) : (T : Ty) → T.den → Nat → Option AV
  | .pair a _, x, 0 => some (c a x.1)
  | .pair _ b, x, f + 1 => fieldPick c b x.2 f
  | .one a, x, 0 => some (c a x)
  | _, _, _ => none
/-- What stands at a cell of a thing, as of a type; and what the thing is with another there. -/
def peek : (T : Ty) → T.den → Nat → (want : Ty) → Option want.den
  | .pair a b, x, off, want => match Nat.beq off 0 with
    | true => match castTo (.pair a b) want x with
      | some y => some y
      | none => match Nat.blt off a.size with | true => peek a x.1 off want | false => peek b x.2 (off - a.size) want
    | false => match Nat.blt off a.size with | true => peek a x.1 off want | false => peek b x.2 (off - a.size) want
  | .one a, x, off, want => match Nat.beq off 0 with
    | true => match castTo (.one a) want x with
      | some y => some y
      | none => peek a x off want
    | false => peek a x off want
  | T, x, off, want => match Nat.beq off 0 with | true => castTo T want x | false => none
def poke : (T : Ty) → T.den → Nat → (want : Ty) → want.den → Option T.den
  | .pair a b, x, off, want, y => match Nat.beq off 0 with
    | true => match castTo want (.pair a b) y with
      | some z => some z
      | none => match Nat.blt off a.size with
        | true => match poke a x.1 off want y with | some z => some (z, x.2) | none => none
        | false => match poke b x.2 (off - a.size) want y with | some z => some (x.1, z) | none => none
    | false => match Nat.blt off a.size with
      | true => match poke a x.1 off want y with | some z => some (z, x.2) | none => none
      | false => match poke b x.2 (off - a.size) want y with | some z => some (x.1, z) | none => none
  | .one a, x, off, want, y => match Nat.beq off 0 with
    | true => match castTo want (.one a) y with
      | some z => some z
      | none => poke a x off want y
    | false => poke a x off want y
  | T, _, off, want, y => match Nat.beq off 0 with | true => castTo want T y | false => none
def loadA (os : List Ob) (a : AV) (want : Ty) : Option want.den :=
  match a with
  | .at T x => castTo T want x
  | .ptr i off => match Ob.get os i with | .var T x => peek T x off want | _ => none
  | .ea i ix off => match Ob.get os i with | .row T l => peek T (l.getD ix.toNat T.zero) off want | _ => none
  | _ => none
/-- Data, without a thing of one's own that would be shared. -/
def readS (os : List Ob) (T : Ty) (v : AV) : Option T.den :=
  match v with
  | .ref i => match Ob.get os i with | .frz e l => castTo (.slice e) T l | _ => none
  | v => readDat os T v
def setFields (os : List Ob) (T : Ty) : List (Nat × AV) → T.den → Option T.den
  | [], x => some x
  | (f, v) :: ps, x => match fieldTy T f with
    | some (off, F) => match readS os F v with
      | some y => match poke T x off F y with | some x' => setFields os T ps x' | none => none
      | none => none
    | none => none
def tupAt : AV → Nat → Option AV
  | .tcons a _, 0 => some a
  | .tcons _ b, n + 1 => tupAt b n
  | _, _ => none
def lenA (T : Ty) (os : List Ob) : AV → Option Nat
  | .str s => (match T with | .str => some s.size | _ => none)
  | .nil => (match T with | .slice _ => some 0 | _ => none)
  | .sl _ l => (match T with | .slice _ => some l.length | _ => none)
  | .ref i => (match T with | .slice _ => (match Ob.get os i with | .row _ l | .frz _ l => some l.length | _ => none) | _ => none)
  | _ => none
def ptrIds : List AV → Option (List Nat)
  | [] => some []
  | .ptr i 0 :: vs => match ptrIds vs with | some l => some (i :: l) | none => none
  | _ => none
def bound (st : St) (d : Int) : Option Operand → Option Int
  | none => some d
  | some x => match opd st x with | .int _ n => some n | _ => none

/-- Operations that only read. -/
def opS (E : Env) (o : Oper) (st : St) (k : AV → Option R) : Option R :=
  match o.op with
  | .move x | .assign x => k (opdT E o.type st x)
  | .load t a => match E.ti t with
    | some ti => match loadA st.objs (opd st a) ti.T with | some x => k (inject ti.T x) | none => none
    | none => none
  | .nilCheck x => match opd st x with
    | .ptr i off => k (.ptr i off)
    | .at T y => k (.at T y)
    | .ea i ix off => match Ob.get st.objs i with | .row _ _ => k (.ea i ix off) | _ => none
    | _ => none
  | .pick c x y => match opd st c with
    | .bool b => bif b then k (opd st x) else k (opd st y)
    | _ => none
  | .binOp op xt x y _ => match op with
    | .eql => match opd st x, opd st y with
      | .int kd a, b => abin .eql (.int kd a) b k
      | .str a, b => abin .eql (.str a) b k
      | a, b => match E.ti xt with | some ti => anyeq ti st.objs a b fun r => k (.bool r) | none => none
    | .neq => match opd st x, opd st y with
      | .int kd a, b => abin .neq (.int kd a) b k
      | .str a, b => abin .neq (.str a) b k
      | a, b => match E.ti xt with | some ti => anyeq ti st.objs a b fun r => k (.bool (!r)) | none => none
    | op => abin op (opd st x) (opd st y) k
  | .unOp op _ x => match op, opd st x with
    | .neg, .int kd n => k (.int kd (kd.wrap (0 - n)))
    | .xor, .int kd n => k (.int kd (bitop .xor kd (if kd.signed then -1 else kd.max) n))
    | .not, .bool b => k (.bool (!b))
    | _, _ => none
  | .convert src dst x => match E.ti src, E.ti dst with
    | some ts, some td => match ts.T, td.T, opd st x with
      | .int _, .int kd, .int _ n => k (.int kd (kd.wrap n))
      | .str, .str, .str s => k (.str s)
      | .slice (.int .u8), .str, v => match readDat st.objs (.slice (.int .u8)) v with | some l => k (.str (bytesStr l)) | none => none
      | _, _, _ => none
    | _, _ => none
  | .fieldAddr s x f => match E.ti s with
    | some ti => match opd st x with
      | .ptr i off => match fieldTy ti.T f with | some (o, _) => k (.ptr i (off + o)) | none => none
      | .ea i ix off => match Ob.get st.objs i with | .row _ _ => (match fieldTy ti.T f with | some (o, _) => k (.ea i ix (off + o)) | none => none) | _ => none
      | .at T y => match castTo T ti.T y with
        | some z => match fieldPick .at ti.T z f with | some v => k v | none => none
        | none => none
      | _ => none
    | none => none
  | .field s x f => match E.ti s with
    | some ti => match opd st x with
      | .agg T y => match castTo T ti.T y with
        | some z => match fieldPick inject ti.T z f with | some v => k v | none => none
        | none => none
      | _ => none
    | none => none
  | .indexAddr t x ix => match opd st ix with
    | .int _ n => match opd st x with
      | .sl e l => (match E.isSl t e with | true => if 0 ≤ n ∧ n < (l.length : Int) then k (.at e (l.getD n.toNat e.zero)) else none | false => none)
      | .ref i => match Ob.get st.objs i with
        | .row e l => (match E.isSl t e with | true => if 0 ≤ n ∧ n < (l.length : Int) then k (.ea i n 0) else none | false => none)
        | .frz e l => (match E.isSl t e with | true => if 0 ≤ n ∧ n < (l.length : Int) then k (.at e (l.getD n.toNat e.zero)) else none | false => none)
        | _ => none
      | _ => none
    | _ => none
  | .index t x ix => match opd st ix, opd st x with
    | .int _ n, .str s => (match E.isStr t with | true => if 0 ≤ n ∧ n < (s.size : Int) then k (.int .u8 (byteAt s n)) else none | false => none)
    | _, _ => none
  | .slice t x lo hi none => match opd st x with
    | .str s => match E.isStr t, bound st 0 lo, bound st s.size hi with
      | true, some a, some b => if 0 ≤ a ∧ a ≤ b ∧ b ≤ (s.size : Int) then k (.str (s.extract a.toNat b.toNat)) else none
      | _, _, _ => none
    | .sl e l => match E.isSl t e, bound st 0 lo, bound st l.length hi with
      | true, some a, some b => if 0 ≤ a ∧ a ≤ b ∧ b ≤ (l.length : Int) then k (.sl e (cut l a b)) else none
      | _, _, _ => none
    | .ref i => match Ob.get st.objs i with
      | .frz e l => match E.isSl t e, bound st 0 lo, bound st l.length hi with
        | true, some a, some b => if 0 ≤ a ∧ a ≤ b ∧ b ≤ (l.length : Int) then k (.sl e (cut l a b)) else none
        | _, _, _ => none
      | _ => none
    | _ => none
  | .build t parts => match E.ti t with
    | some ti => match setFields st.objs ti.T (parts.toList.map fun p => (p.1, opd st p.2)) ti.T.zero with
      | some x => match ti.T.isAgg with
        | true => (match zagOk E t ti.T o.dst parts.toList with | true => k (.zag ti.T x) | false => k (.agg ti.T x))
        | false => none
      | none => none
    | none => none
  | .extract x i => match tupAt (opd st x) i with | some v => k v | none => none
  | .makeFunc fn first caps => match fn, first.toList, ptrIds (caps.toList.map (opd st)) with | .func f, [], some l => k (.fn f l) | _, _, _ => none
  | .call { callee := .builtin b, args, argTypes } => match b, args.toList.map (opd st) with
    | .len, [v] => match argTypes.toList with
      | [t] => match E.ti t with
        | some ti => match lenA ti.T st.objs v with | some n => k (.int .i64 n) | none => none
        | none => none
      | _ => none
    | .min, [.int kd x, .int _ y] => k (.int kd (if y < x then y else x))
    | .max, [.int kd x, .int _ y] => k (.int kd (if y > x then y else x))
    | _, _ => none
  | _ => none
def listSets (os : List Ob) (T : Ty) : List (Nat × AV) → List T.den → Option (List T.den)
  | [], l => some l
  | (i, v) :: ps, l => match readDat os T v with
    | some x => match Nat.blt i l.length with | true => listSets os T ps (l.set i x) | false => none
    | none => none
def freezeAll (os : List Ob) : List AV → List Ob
  | [] => os
  | v :: vs => freezeAll (freezeV os v) vs
def mkTup : List AV → AV
  | [] => .tup0 | v :: vs => .tcons v (mkTup vs)
def resAV : List AV → AV
  | [] => .tup0 | [v] => v | v :: w :: vs => mkTup (v :: w :: vs)
def setL {α : Type} (l : List α) : List Nat → List α → List α
  | i :: σ, b :: bs => setL (l.set i b) σ bs
  | [], bs => l ++ bs
  | _ :: _, [] => l
def renum (σ : List Nat) (base : Nat) (j : Nat) : Nat :=
  match σ[j]? with | some i => i | none => base + (j - σ.length)
def callE (E : Env) (call : (f : Nat) → (E.fn f).sig.ins.den → Option (E.fn f).sig.outs.den) (f : Nat) (args : List AV) (st : St) (k : AV → St → Option R) : Option R :=
  match (E.fn f).sig.ins.read [] (E.fn f).sig.lends args st.objs with
  | none => none
  | some g => match g.σ.all (fun i => Nat.blt i g.objs.length) with
    | false => none
    | true => Option.bind (call f g.x) fun y =>
      match putSlots (renum g.σ g.objs.length) (E.fn f).sig.outs.slots y with
      | (vs, p) => k (resAV vs) { st with objs := setL g.objs g.σ (putObjs (E.fn f).sig.outs.objs p) }
def fnCall (E : Env) (call : (f : Nat) → (E.fn f).sig.ins.den → Option (E.fn f).sig.outs.den) (fv : AV) (args : List AV) (st : St) (k : AV → St → Option R) : Option R :=
  match fv with
  | .fn f cs => callE E call f (args ++ cs.map (.ptr · 0)) st k
  | _ => none
/-- The row of a variable goes out, and comes back. -/
def vload (E : Env) (o : Oper) (t : Nat) (a : AV) (st : St) (k : St → Option R) : Option R :=
  match E.ti t, a with
  | some ti, .ptr i 0 => match ti.T, Ob.get st.objs i with
    | .slice e, .vrow e' l => match castTo (.slice e') (.slice e) l with
      | some l' => k (({ st with objs := st.objs.set i .vout ++ [.row e l'] } : St).put o.dst (.ref st.objs.length))
      | none => none
    | _, _ => none
  | _, _ => none
def isVar : Ob → Bool
  | .vout => true | .vrow _ _ => true | _ => false
def vstore (E : Env) (o : Oper) (t : Nat) (a x : AV) (st : St) (k : St → Option R) : Option R :=
  match E.ti t, a with
  | some ti, .ptr i 0 => match ti.T, isVar (Ob.get st.objs i) with
    | .slice e, true => match x with
      | .ref j => match Ob.get st.objs j with
        | .row e' l => match castTo (.slice e') (.slice e) l with
          | some l' => k (({ st with objs := (st.objs.set j .dead).set i (.vrow e l') } : St).put o.dst .skp)
          | none => none
        | _ => none
      | .nil => match Nat.blt 0 e.size with
        | true => k (({ st with objs := st.objs.set i (.vrow e []) } : St).put o.dst .skp)
        | false => none
      | _ => none
    | _, _ => none
  | _, _ => none
/-- A field's row goes out; the whole is read, and its rows are data from then on. -/
def sload (E : Env) (o : Oper) (t : Nat) (a : AV) (st : St) (k : St → Option R) : Option R :=
  match E.ti t, a with
  | some ti, .ptr i off => match Ob.get st.objs i with
    | .vst T x none => match ti.T with
      | .slice e => match peek T x off (.slice e) with
        | some l => k (({ st with objs := st.objs.set i (.vst T x (some off)) ++ [.row e l] } : St).put o.dst (.ref st.objs.length))
        | none => none
      | T' => match Nat.beq off 0, castTo T T' x with
        | true, some y => k (({ st with objs := st.objs.set i (.var T' y) } : St).put o.dst (inject T' y))
        | _, _ => none
    | _ => none
  | _, _ => none
def notAt : AV → Bool
  | .at _ _ => false | .ea _ _ _ => false | _ => true
/-- What is built is stored; a row comes back. -/
def sstore (E : Env) (o : Oper) (t : Nat) (a x : AV) (st : St) (k : St → Option R) : Option R :=
  match E.ti t, a with
  | some ti, .ptr i off => match Ob.get st.objs i with
    | .var T0 x0 => match Nat.beq off 0, castTo T0 ti.T x0, x with
      | true, some _, .zag T y => match castTo T ti.T y with
        | some z => k (({ st with objs := st.objs.set i (.vst ti.T z none) } : St).put o.dst .skp)
        | none => none
      | _, _, _ => none
    | .vst T z (some h) => match ti.T, x with
      | .slice e, .ref j => match Ob.get st.objs j with
        | .row e' l => match castTo (.slice e') (.slice e) l, Nat.beq h off with
          | some l', true => match poke T z off (.slice e) l' with
            | some z' => k (({ st with objs := (st.objs.set j .dead).set i (.vst T z' none) } : St).put o.dst .skp)
            | none => none
          | _, _ => none
        | _ => none
      | _, _ => none
    | _ => none
  | _, _ => none
/-- An operation, where it stands in a line. -/
def op (E : Env) (call : (f : Nat) → (E.fn f).sig.ins.den → Option (E.fn f).sig.outs.den) (o : Oper) (st : St) (k : St → Option R) : Option R :=
  match o.op with
  | .alloc t => match E.ti t with
    | some ti => match ti.T.isExt with
      | true => none
      | false => match E.vr t with
        | true => (match ti.T with
          | .slice e => (match Nat.blt 0 e.size with
            | true => k (({ st with objs := st.objs ++ [.vrow e []] } : St).put o.dst (.ptr st.objs.length 0))
            | false => none)
          | _ => none)
        | false => k (({ st with objs := st.objs ++ [.var ti.T ti.T.zero] } : St).put o.dst (.ptr st.objs.length 0))
    | none => none
  | .load t a => match E.vs t a && notAt (opd st a) with
    | true => sload E o t (opd st a) st k
    | false => match E.vra t a with
    | true => vload E o t (opd st a) st k
    | false => opS E o st fun v => k (st.put o.dst v)
  | .box t x => match E.ti t with
    | some ti => match readDat st.objs ti.T (opd st x) with
      | some y => k (({ st with objs := freezeV st.objs (opd st x) ++ [.var ti.T y] } : St).put o.dst (.ptr st.objs.length 0))
      | none => none
    | none => none
  | .build _ parts => opS E o { st with objs := freezeAll st.objs (parts.toList.map fun p => opd st p.2) } fun v =>
      k (({ st with objs := freezeAll st.objs (parts.toList.map fun p => opd st p.2) } : St).put o.dst v)
  | .buildSlice t len parts => match E.ti t with
    | some ⟨.slice e, _⟩ => match listSets st.objs e (parts.toList.map fun p => (p.1, opd st p.2)) (List.replicate len e.zero) with
      | some l => match Nat.ble (len * e.size) 16777216 with
        | true => k (({ st with objs := freezeAll st.objs (parts.toList.map fun p => opd st p.2) ++ [.row e l] } : St).put o.dst (.ref st.objs.length))
        | false => none
      | none => none
    | _ => none
  | .store t a x => match E.vs t a with
    | true => sstore E o t (opd st a) (opd st x) st k
    | false => match E.vra t a with
    | true => vstore E o t (opd st a) (opd st x) st k
    | false => match E.ti t with
    | some ti => match readDat st.objs ti.T (opd st x) with
      | some y => match opd st a with
        | .ptr i off => match Ob.get st.objs i with
          | .var T z => match poke T z off ti.T y with
            | some z' => k (({ st with objs := (freezeV st.objs (opd st x)).set i (.var T z') } : St).put o.dst .skp)
            | none => none
          | _ => none
        | .ea i ix off => match Ob.get (freezeV st.objs (opd st x)) i with
          | .row T l => match poke T (l.getD ix.toNat T.zero) off ti.T y with
            | some z' => k (({ st with objs := (freezeV st.objs (opd st x)).set i (.row T (l.set ix.toNat z')) } : St).put o.dst .skp)
            | none => none
          | _ => none
        | _ => none
      | none => none
    | none => none
  | .makeSlice t l c => match E.ti t, opd st l, opd st c with
    | some ⟨.slice e, b⟩, .int _ n, .int _ m => if 0 ≤ n ∧ n ≤ m ∧ m * (b : Int) ≤ 140737488355328 ∧ m ≤ 140737488355328 then
        k (({ st with objs := st.objs ++ [.row e (List.replicate n.toNat e.zero)] } : St).put o.dst (.ref st.objs.length)) else none
    | _, _, _ => none
  | .slice _ x _ _ _ => opS E o { st with objs := freezeV st.objs (opd st x) } fun v => k (({ st with objs := freezeV st.objs (opd st x) } : St).put o.dst v)
  | .convert src dst x => match E.isStr src, E.ti dst, opd st x with
    | true, some ⟨.slice (.int .u8), _⟩, .str s => if s.size ≤ 140737488355328 then k (({ st with objs := st.objs ++ [.row (.int .u8) (strBytes s)] } : St).put o.dst (.ref st.objs.length)) else none
    | false, some ⟨.slice (.int .u8), _⟩, .ref i => match Nat.beq src dst, Ob.get st.objs i with
      | true, .row T l => if 0 < l.length then k (({ st with objs := st.objs.set i (.row T l) } : St).put o.dst (.ref i)) else none
      | _, _ => none
    | _, _, _ => opS E o st fun v => k (st.put o.dst v)
  | .call { callee := .builtin .append, args, argTypes } => match args.toList.map (opd st), argTypes.toList with
    | [s, x], [t, xt] => match E.ti t with
      | some ⟨.slice e, b⟩ => match (match s with | .nil => some ([], st.objs) | .ref i => (match Ob.get st.objs i with | .row e' l => (match castTo (.slice e') (.slice e) l with | some l' => some (l', st.objs.set i .dead) | none => none) | _ => none) | _ => none : Option (List e.den × List Ob)) with
        | some (l1, base) => match (match x with | .str y => (match E.isStr xt with | true => castTo (.slice (.int .u8)) (.slice e) (strBytes y) | false => none) | x => (match E.isSl xt e with | true => readDat st.objs (.slice e) x | false => none) : Option (List e.den)) with
          | some l2 => if (l1.length + l2.length) * b ≤ 140737488355328 ∧ l1.length + l2.length ≤ 140737488355328 then
              k (({ st with objs := base ++ [.row e (l1 ++ l2)] } : St).put o.dst (.ref st.objs.length)) else none
          | none => none
        | none => none
      | _ => none
    | _, _ => none
  | .call { callee := .value fv, args, .. } => fnCall E call (opd st fv) (args.toList.map (opd st)) st fun v st' => k (st'.put o.dst v)
  | _ => opS E o st fun v => k (st.put o.dst v)
end
end Go.Proofs.YtgelkklendpeoaaGreat.AE

namespace Go.Proofs.YtgelkklendpeoaaGreat.AE
set_option linter.unusedVariables false
set_option linter.unusedSimpArgs false
open Go

inductive Ex where
  | normal | exit (id : Nat)
abbrev CallFn (E : Env) : Type := (f : Nat) → (E.fn f).sig.ins.den → Option (E.fn f).sig.outs.den
section
variable {R : Type}
/-- A call whose results are data: it changes nothing of one's own. -/
def rowData (bs : List Ob) : List AV → List AV
  | [] => []
  | .ref j :: vs => (match Ob.get bs j with | .row T l => .sl T l | _ => .undef) :: rowData bs vs
  | .ptr _ _ :: vs => .undef :: rowData bs vs
  | .fn f cs :: vs => (match cs with | [] => .fn f [] | _ :: _ => .undef) :: rowData bs vs
  | v :: vs => v :: rowData bs vs
def anyRef : List SP → List AV → Bool
  | .dat _ :: _, .ref _ :: _ => true
  | _ :: ss, _ :: vs => anyRef ss vs
  | _, _ => false
def callS (E : Env) (call : CallFn E) (f : Nat) (args : List AV) (st : St) (k : AV → Option R) : Option R :=
  match (E.fn f).sig.ins.objs with
  | _ :: _ => none
  | [] => match (match (E.fn f).sig.lends with | true => false | false => anyRef (E.fn f).sig.ins.slots args) with
    | true => none
    | false => match (E.fn f).sig.ins.read [] true args st.objs with
      | none => none
      | some g => Option.bind (call f g.x) fun y =>
        match putSlots id (E.fn f).sig.outs.slots y with
        | (vs, p) => k (resAV (rowData (putObjs (E.fn f).sig.outs.objs p) vs))
def isTmp (d : Nat) : Operand → Bool
  | .tmp t => Nat.beq d t | _ => false
/-- It takes that temporary, if at all, as data. -/
def okUse (E : Env) (d : Nat) (p : Oper) : Bool :=
  match p.op with
  | .call { callee := .builtin .append, args, .. } => (match args.toList with | x :: _ => !isTmp d x | [] => true)
  | .call { callee := .builtin _, .. } => true
  | .call { callee := .value (.func f), .. } => (match (E.fn f).sig.ins.objs with | [] => true | _ => !(p.op.operands.toList.any (isTmp d)))
  | .buildSlice _ _ _ | .build _ _ | .convert _ _ _ => true
  | _ => !(p.op.operands.toList.any (isTmp d))
/-- A slice that is made and used as data alone. -/
def asData (E : Env) (all : List Oper) (o : Oper) : Bool :=
  match o.dst with | some d => all.all (okUse E d) | none => false
def noRows (os : List Ob) (vs : List AV) : Bool :=
  vs.all (fun v => match v with | .ref i => (match Ob.get os i with | .row _ _ => false | _ => true) | _ => true)
def bsS (E : Env) (t : Nat) (len : Nat) (parts : List (Nat × AV)) (st : St) (k : AV → Option R) : Option R :=
  match E.ti t with
  | some ⟨.slice e, _⟩ => match noRows st.objs (parts.map (·.2)) with
    | true => match listSets st.objs e parts (List.replicate len e.zero) with
      | some l => match Nat.ble (len * e.size) 16777216 with | true => k (.sl e l) | false => none
      | none => none
    | false => none
  | _ => none
/-- What a call of the region gives as a row of one's own. -/
def refOuts : List SP → Bool
  | .ref _ :: _ => true | _ => false
def refCall (E : Env) (all : List Oper) (x : Operand) : Bool :=
  match x with
  | .tmp t => all.any fun p => (match p.dst with | some d => Nat.beq d t | none => false) && (match p.op with | .call { callee := .value (.func f), .. } => refOuts (E.fn f).sig.outs.slots | _ => false)
  | _ => false
def isW (E : Env) (all : List Oper) (o : Oper) : Bool :=
  match o.op with
  | .build _ parts => parts.toList.any fun p => refCall E all p.2
  | .buildSlice _ _ _ => !asData E all o
  | .alloc _ | .box _ _ | .store _ _ _ | .makeSlice _ _ _ => true
  | .load t a => E.vra t a || E.vs t a
  | .convert src dst _ => (match E.ti dst with | some ⟨.slice _, _⟩ => !(E.isStr src && asData E all o) | _ => false)
  | .call { callee := .builtin .append, .. } => true
  | .call { callee := .value (.func f), .. } => (match (E.fn f).sig.ins.objs with | [] => false | _ => true)
  | .call { callee := .value _, .. } => true
  | _ => false
def opD (E : Env) (call : CallFn E) (all : List Oper) (o : Oper) (st : St) (k : St → Option R) : Option R :=
  match isW E all o with
  | true => op E call o st k
  | false => match o.op with
    | .call { callee := .value (.func f), args, .. } => callS E call f (args.toList.map (opd st)) st fun v => k (st.put o.dst v)
    | .buildSlice t len parts => bsS E t len (parts.toList.map fun p => (p.1, opd st p.2)) st fun v => k (st.put o.dst v)
    | .convert src dst x => match E.isStr src, E.ti dst, opd st x with
      | true, some ⟨.slice (.int .u8), _⟩, .str s => if s.size ≤ 140737488355328 then k (st.put o.dst (.sl (.int .u8) (strBytes s))) else none
      | _, _, _ => opS E o st fun v => k (st.put o.dst v)
    | _ => opS E o st fun v => k (st.put o.dst v)
def guardAV (all : List Oper) (st : St) (j : Nat) : AV :=
  match all[j]? with
  | some oj => (match oj.dst with | some d => st.tmps.getD d .undef | none => .undef)
  | none => .undef
def opsE (E : Env) (call : CallFn E) (d : Bool) (all : List Oper) : List Oper → St → (St → Option R) → Option R
  | [], st, k => k st
  | o :: rest, st, k => match o.guard with
    | none => (match d with | false => op E call o st fun st' => opsE E call d all rest st' k | true => opD E call all o st fun st' => opsE E call d all rest st' k)
    | some (j, want) => match guardAV all st j with
      | .bool b => bif b == want
          then (match d with | false => op E call o st fun st' => opsE E call d all rest st' k | true => opD E call all o st fun st' => opsE E call d all rest st' k)
          else opsE E call d all rest (st.put o.dst .skp) k
      | .skp => opsE E call d all rest (st.put o.dst .skp) k
      | _ => none
end
/-- Without a second time. -/
def uniN : List Nat → List Nat → List Nat
  | [], s => s
  | x :: l, s => match s.any (Nat.beq x) with | true => uniN l s | false => uniN l (x :: s)
def befStep (acc : List (List Nat)) (s : List Nat) (e : Edge) : List Nat := match Region.binds .any e with | true => uniN (e.on :: acc.getD e.on []) s | false => s
/-- What comes ahead of each operation, by the edges that bind. -/
def befores : List Oper → List (List Nat) → List (List Nat)
  | [], acc => acc
  | o :: os, acc => befores os (acc ++ [o.after.toList.foldl (befStep acc) []])
def namesOf (all : List Oper) (o : Oper) : List Nat :=
  (o.op.operands.toList.filterMap fun | .tmp t => some t | _ => none) ++
  (match o.guard with | some (j, _) => (match all[j]? with | some oj => oj.dst.toList | none => []) | none => [])
def clash (all : List Oper) (a b : Oper) : Bool :=
  match a.dst, b.dst with
  | some d, some d' => Nat.beq d d' || (namesOf all b).any (Nat.beq d) || (namesOf all a).any (Nat.beq d')
  | some d, none => (namesOf all b).any (Nat.beq d)
  | none, some d' => (namesOf all a).any (Nat.beq d')
  | none, none => false
/-- It only hands a value on. -/
def moves (o : Oper) : Bool := match o.op with | .move _ | .assign _ => true | _ => false
/-- It only looks at the things that its operands name. -/
def loose (E : Env) (all : List Oper) (o : Oper) : Bool := match isW E all o with
  | true => false
  | false => (match o.op with | .call { callee := .invoke _ _, .. } => false | _ => true)
def idsA : AV → List Nat
  | .ref i | .ptr i _ | .ea i _ _ => [i] | .fn _ cs => cs | _ => []
def footO (o : Oper) (st : St) : List Nat := o.op.operands.toList.flatMap fun x => idsA (opd st x)
def disjN (a b : List Nat) : Bool := a.all fun x => !b.any (Nat.beq x)
/-- Which that come ahead in the text may come later, or this one earlier, though one of both writes. -/
def badOf (E : Env) (all : List Oper) (bs : List (List Nat)) (o : Oper) (j : Nat) : List Nat :=
  ((all.take j).zipIdx.filter fun (p : Oper × Nat) => ((isW E all o && (loose E all p.1 && !moves p.1)) || (isW E all p.1 && (loose E all o && !moves o))) && !(bs.getD j []).any (Nat.beq p.2)).map (·.2)
def chkO (E : Env) (all : List Oper) (bs : List (List Nat)) (o : Oper) (acc : List (List Nat)) (st : St) : Bool :=
  (badOf E all bs o acc.length).all (fun i => disjN (acc.getD i []) (footO o st)) && (match loose E all o with | true => (footO o st).all (fun i => Nat.blt i st.objs.length) | false => true)
/-- A region in the order of the text; what each operation names is kept. -/
def opsX {R : Type} (E : Env) (call : CallFn E) (all : List Oper) (bs : List (List Nat)) : List Oper → List (List Nat) → St → (St → Option R) → Option R
  | [], _, st, k => k st
  | o :: rest, acc, st, k => match chkO E all bs o acc st with
    | false => none
    | true => match o.guard with
      | none => opD E call all o st fun st' => opsX E call all bs rest (acc ++ [footO o st]) st' k
      | some (j, want) => match guardAV all st j with
        | .bool b => bif b == want
            then opD E call all o st fun st' => opsX E call all bs rest (acc ++ [footO o st]) st' k
            else opsX E call all bs rest (acc ++ [footO o st]) (st.put o.dst .skp) k
        | .skp => opsX E call all bs rest (acc ++ [footO o st]) (st.put o.dst .skp) k
        | _ => none
/-- Where a temporary's value comes from, through moves. -/
def moveSrc (all : List Oper) : Nat → Nat → Nat
  | 0, t => t
  | n + 1, t => match all.findSome? (fun o => match o.op, o.dst with
      | .move (.tmp u), some d => (match Nat.beq d t with | true => some u | false => none)
      | _, _ => none) with
    | some u => moveSrc all n u
    | none => t
def sliced (E : Env) (all : List Oper) : List Nat :=
  all.filterMap fun o => match o.op with
    | .slice t (.tmp x) _ _ _ => (match E.isStr t with | true => none | false => some (moveSrc all 3 x))
    | _ => none
/-- Rows that a region takes slices of are data from its beginning on. -/
def preF (E : Env) (all : List Oper) (st : St) : St := { st with objs := freezeAll st.objs ((sliced E all).map fun t => st.tmps.getD t .undef) }
def drawOKFrom (E : Env) (all : List Oper) (bs : List (List Nat)) : List Oper → Nat → Bool
  | [], _ => true
  | o :: os, j => (all.take j).zipIdx.all (fun (p : Oper × Nat) => (match ((isW E all o && !loose E all p.1) || (isW E all p.1 && !loose E all o) || clash all p.1 o) with | true => (bs.getD j []).any (Nat.beq p.2) | false => true)) && drawOKFrom E all bs os (j + 1)
def drawOK (E : Env) (all : List Oper) : Bool :=
  all.zipIdx.all (fun (p : Oper × Nat) => p.1.after.toList.all fun e => !Region.binds .any e || Nat.blt e.on p.2) && drawOKFrom E all (befores all []) all 0

/-- A guard's value is known where it was looked at. -/
def learn (all : List Oper) (st : St) (j : Nat) (b : Bool) : St := match all[j]? with | some oj => st.put oj.dst (.bool b) | none => st
def opsEl {R : Type} (E : Env) (call : CallFn E) (all : List Oper) : List Oper → St → (St → Option R) → Option R
  | [], st, k => k st
  | o :: rest, st, k => match o.guard with
    | none => op E call o st fun st' => opsEl E call all rest st' k
    | some (j, want) => match guardAV all st j with
      | .bool b => bif b == want
          then op E call o (learn all st j want) fun st' => opsEl E call all rest st' k
          else opsEl E call all rest ((learn all st j (!want)).put o.dst .skp) k
      | .skp => opsEl E call all rest (st.put o.dst .skp) k
      | _ => none
def opsXl {R : Type} (E : Env) (call : CallFn E) (all : List Oper) (bs : List (List Nat)) : List Oper → List (List Nat) → St → (St → Option R) → Option R
  | [], _, st, k => k st
  | o :: rest, acc, st, k => match chkO E all bs o acc st with
    | false => none
    | true => match o.guard with
      | none => opD E call all o st fun st' => opsXl E call all bs rest (acc ++ [footO o st]) st' k
      | some (j, want) => match guardAV all st j with
        | .bool b => bif b == want
            then opD E call all o (learn all st j want) fun st' => opsXl E call all bs rest (acc ++ [footO o st]) st' k
            else opsXl E call all bs rest (acc ++ [footO o st]) ((learn all st j (!want)).put o.dst .skp) k
        | .skp => opsXl E call all bs rest (acc ++ [footO o st]) (st.put o.dst .skp) k
        | _ => none
theorem learn_eq {all : List Oper} {st : St} {j : Nat} {b : Bool} (h : guardAV all st j = .bool b) : learn all st j b = st := by
  unfold guardAV at h
  unfold learn
  cases hj : all[j]? with
  | none => rfl
  | some oj =>
    rw [hj] at h
    simp only at h ⊢
    cases hd : oj.dst with
    | none => rfl
    | some d =>
      rw [hd] at h
      simp only at h
      unfold St.put
      simp only
      have hlt : d < st.tmps.length := by
        rcases Nat.lt_or_ge d st.tmps.length with h1 | h1
        · exact h1
        · rw [List.getD_eq_getElem?_getD, List.getElem?_eq_none h1] at h; cases h
      have he : st.tmps[d] = .bool b := by
        rw [List.getD_eq_getElem?_getD, List.getElem?_eq_getElem hlt] at h; exact h
      rw [← he, List.set_getElem_self]
theorem opsEl_eq {R : Type} (E : Env) (call : CallFn E) (all : List Oper) : ∀ (l : List Oper) (st : St) (k : St → Option R), opsEl E call all l st k = opsE E call false all l st k
  | [], st, k => rfl
  | o :: rest, st, k => by
    have ih : ∀ st, opsEl E call all rest st k = opsE E call false all rest st k := fun st => opsEl_eq E call all rest st k
    simp only [opsEl, opsE]
    split
    · simp only [ih]
    · rename_i j want hg
      split
      · rename_i b hb
        simp only [ih]
        cases b <;> cases want <;> simp only [BEq.rfl, Bool.not_true, Bool.not_false, learn_eq hb] <;> rfl
      · simp only [ih]
      · rfl
theorem opsXl_eq {R : Type} (E : Env) (call : CallFn E) (all : List Oper) (bs : List (List Nat)) : ∀ (l : List Oper) (acc : List (List Nat)) (st : St) (k : St → Option R), opsXl E call all bs l acc st k = opsX E call all bs l acc st k
  | [], acc, st, k => rfl
  | o :: rest, acc, st, k => by
    have ih : ∀ acc st, opsXl E call all bs rest acc st k = opsX E call all bs rest acc st k := fun acc st => opsXl_eq E call all bs rest acc st k
    simp only [opsXl, opsX]
    split
    · rfl
    · split
      · simp only [ih]
      · rename_i j want hg
        split
        · rename_i b hb
          simp only [ih]
          cases b <;> cases want <;> simp only [BEq.rfl, Bool.not_true, Bool.not_false, learn_eq hb] <;> rfl
        · simp only [ih]
        · rfl
def setAll (tm : List AV) : List Nat → List AV → List AV
  | t :: ts, v :: vs => setAll (tm.set t v) ts vs
  | _, _ => tm
def LH.read (L : LH) (m : Nat) (st : St) : Option L.sh.den :=
  match L.sh.read (List.range m) false (L.keep.map fun t => st.tmps.getD t .undef) st.objs with
  | some g => some g.x
  | none => none
def LH.put (L : LH) (N : Nat) (x : L.sh.den) : St :=
  match putSlots id L.sh.slots x with
  | (vs, p) => { tmps := setAll (List.replicate N .undef) L.keep vs, objs := putObjs L.sh.objs p }
def loopE {X O : Type} (step : X → (Ex → St → Option (X ⊕ O)) → Option (X ⊕ O)) (read : St → Option X) (ex : Nat) : Nat → X → Option (X ⊕ O)
  | 0, _ => none
  | m + 1, x => step x fun e st => match e with
    | .normal => (match read st with | some y => loopE step read ex m y | none => none)
    | .exit i => (match Nat.beq i ex with
      | true => (match read st with | some y => some (.inl y) | none => none)
      | false => none)
def onSum {X O R : Type} (r : X ⊕ O) (f : X → Option R) (g : O → Option R) : Option R :=
  match r with | .inl x => f x | .inr o => g o
def findHint (hs : List (List Nat × LH)) (p : List Nat) : Option LH :=
  match hs with
  | [] => none
  | (q, L) :: hs => match decide (q = p) with | true => some L | false => findHint hs p
structure Ctx (E : Env) (O : Type) where
  call : CallFn E
  n : Nat
  hs : List (List Nat × LH)
  fin : St → Option O
  m : Nat     -- so many things came in
  N : Nat     -- so many temporaries
def ev {E : Env} {O : Type} (C : Ctx E O) : Code → (R : Type) → (O → R) → List Nat → St → (Ex → St → Option R) → Option R
  | .skip, _, _, _, st, k => k .normal st
  | .label _, _, _, _, st, k => k .normal st
  | .region _ ops draw, _, _, _, st, k => (match draw with
    | false => opsEl E C.call ops.toList ops.toList st fun st' => k .normal st'
    | true => (match drawOK E ops.toList with
      | true => opsXl E C.call ops.toList (befores ops.toList []) ops.toList [] (preF E ops.toList st) fun st' => k .normal st'
      | false => none))
  | .seq a b, R, r, p, st, k => ev C a R r (0 :: p) st fun e st' => match e with
    | .normal => ev C b R r (1 :: p) st' k
    | .exit i => k (.exit i) st'
  | .cond c t f, R, r, p, st, k => (match opd st c with
    | .bool b => bif b then ev C t R r (0 :: p) st k else ev C f R r (1 :: p) st k
    | _ => none)
  | .block id b, R, r, p, st, k => ev C b R r (0 :: p) st fun e st' => match e with
    | .normal => k .normal st'
    | .exit i => (match Nat.beq i id with | true => k .normal st' | false => k (.exit i) st')
  | .loop b, R, r, p, st, k => (match findHint C.hs p with
    | none => none
    | some L => (match L.read C.m st with
      | none => none
      | some x => Option.bind (loopE (fun y k' => ev C b (L.sh.den ⊕ O) .inr (0 :: p) (L.put C.N y) k') (L.read C.m) L.ex C.n x) fun s =>
          onSum s (fun y => k (.exit L.ex) (L.put C.N y)) (fun o => some (r o))))
  | .exit i, _, _, _, st, k => k (.exit i) st
  | .ret, _, r, _, st, _ => (match C.fin st with | some o => some (r o) | none => none)
  | _, _, _, _, _, _ => none
def resOf (E : Env) (st : St) : ResultVar → Option AV
  | .tmp t => some (st.tmps.getD t .undef)
  | .cell p ty => match E.ti ty with
    | some ti => (match loadA st.objs (st.tmps.getD p .undef) ti.T with | some x => some (inject ti.T x) | none => none)
    | none => none
def resAll (E : Env) (st : St) : List ResultVar → Option (List AV)
  | [] => some []
  | r :: rs => match resOf E st r with
    | some v => (match resAll E st rs with | some vs => some (v :: vs) | none => none)
    | none => none
def finE (E : Env) (s : Sig) (fn : Func) (m : Nat) (st : St) : Option s.outs.den :=
  match resAll E st fn.results.toList with
  | some vs => (match s.outs.read (List.range m) false vs st.objs with | some g => some g.x | none => none)
  | none => none
def ctxOf (E : Env) (call : CallFn E) (n : Nat) (s : Sig) (fn : Func) (hs : List (List Nat × LH)) : Ctx E s.outs.den :=
  { call, n, hs, fin := finE E s fn s.ins.objs.length, m := s.ins.objs.length, N := fn.ntmps }
def runHow (E : Env) (call : CallFn E) (n : Nat) (s : Sig) (x : s.ins.den) : How s → Option s.outs.den
  | .none => none
  | .orc g => g n x
  | .code fn c hs => match putSlots id s.ins.slots x with
    | (vs, p) => ev (ctxOf E call n s fn hs) c s.outs.den id [] ⟨vs ++ List.replicate (fn.ntmps - vs.length) .undef, putObjs s.ins.objs p⟩ fun e st => match e with
      | .normal => finE E s fn s.ins.objs.length st
      | .exit _ => none
def evalF (E : Env) : Nat → CallFn E
  | 0, _, _ => none
  | n + 1, f, x => runHow E (evalF E n) n (E.fn f).sig x (E.fn f).how
end Go.Proofs.YtgelkklendpeoaaGreat.AE

namespace Go.Proofs.YtgelkklendpeoaaGreat.AE
set_option linter.unusedVariables false
set_option linter.unusedSimpArgs false
open Go
set_option linter.unusedVariables false
set_option linter.unusedSimpArgs false

/-- What is seen from outside: data of other kinds, and what stands in the world all the while. -/
structure ExtRep where
  rep : Nat → World → (Nat → Prop) → List Int → Value → Prop
  inv : World → (Nat → Prop) → Prop
instance : CoeFun ExtRep fun _ => Nat → World → (Nat → Prop) → List Int → Value → Prop := ⟨ExtRep.rep⟩
structure ExtRep.OK (X : ExtRep) : Prop where
  mono : ∀ {i w ok w' ok' x v}, (∀ b, ok b → ok' b ∧ w'.heap[b]? = w.heap[b]?) → X i w ok x v → X i w' ok' x v
  one : ∀ {i w ok x v}, X i w ok x v → v.oneCell' = true
  nn : ∀ {i w ok x v}, X i w ok x v → ∃ a, v = .pointer (some a)
  invm : ∀ {w w' : World} {ok ok' : Nat → Prop}, (∀ b, ok b → ok' b ∧ w'.heap[b]? = w.heap[b]?) → X.inv w ok → X.inv w' ok'
def CellsAt (w : World) (b off : Nat) (vs : List Value) : Prop := ∀ j v, vs[j]? = some v → w.cell? ⟨b, off + j, none⟩ = some v
def RepL {α : Type} (R : α → List Value → Prop) : List α → List Value → Prop
  | [], vs => vs = []
  | x :: xs, vs => ∃ v1 v2, vs = v1 ++ v2 ∧ R x v1 ∧ RepL R xs v2
def Rep (X : ExtRep) (w : World) (ok : Nat → Prop) : (T : Ty) → T.den → List Value → Prop
  | .int k, n, vs => vs = [.int k n]
  | .bool, b, vs => vs = [.bool b]
  | .str, s, vs => vs = [.string s]
  | .unit, _, vs => vs = []
  | .one a, x, vs => Rep X w ok a x vs
  | .pair a b, x, vs => ∃ v1 v2, vs = v1 ++ v2 ∧ Rep X w ok a x.1 v1 ∧ Rep X w ok b x.2 v2
  | .ext i, x, vs => ∃ v, vs = [v] ∧ X i w ok x v
  | .slice e, l, vs => ∃ A c, vs = [.slice A l.length c] ∧ l.length ≤ c ∧ c ≤ maxLen ∧
      (l = [] ∨ ∃ b off cs, A = some ⟨b, off, none⟩ ∧ ok b ∧ CellsAt w b off cs ∧ RepL (Rep X w ok e) l cs)

theorem CellsAt.mono {w w' : World} {b off : Nat} {vs : List Value} (h : CellsAt w b off vs) (hb : w'.heap[b]? = w.heap[b]?) : CellsAt w' b off vs :=
  fun j v hv => (World.cell?_of_block (a := ⟨b, off + j, none⟩) hb).trans (h j v hv)
theorem RepL.imp {α : Type} {R R' : α → List Value → Prop} (h : ∀ x vs, R x vs → R' x vs) : ∀ {l : List α} {vs : List Value}, RepL R l vs → RepL R' l vs
  | [], _, e => e
  | _ :: _, _, ⟨v1, v2, e, h1, h2⟩ => ⟨v1, v2, e, h _ _ h1, RepL.imp h h2⟩
theorem Rep.mono {X : ExtRep} (hX : X.OK) {w w' : World} {ok ok' : Nat → Prop} (hb : ∀ b, ok b → ok' b ∧ w'.heap[b]? = w.heap[b]?) :
    ∀ (T : Ty) (x : T.den) (vs : List Value), Rep X w ok T x vs → Rep X w' ok' T x vs
  | .int _, _, _, h | .bool, _, _, h | .str, _, _, h | .unit, _, _, h => h
  | .one a, x, vs, h => Rep.mono hX hb a x vs h
  | .pair a b, x, vs, ⟨v1, v2, e, h1, h2⟩ => ⟨v1, v2, e, Rep.mono hX hb a _ _ h1, Rep.mono hX hb b _ _ h2⟩
  | .ext i, x, vs, ⟨v, e, h⟩ => ⟨v, e, hX.mono hb h⟩
  | .slice e, l, vs, ⟨A, c, ev, h1, h2, h3⟩ => ⟨A, c, ev, h1, h2, h3.imp id fun ⟨b, off, cs, eA, hok, hc, hr⟩ =>
      ⟨b, off, cs, eA, (hb b hok).1, hc.mono (hb b hok).2, hr.imp (Rep.mono hX hb e)⟩⟩
theorem RepL.len {α : Type} {R : α → List Value → Prop} {s : Nat} (h : ∀ x vs, R x vs → vs.length = s) : ∀ {l : List α} {vs : List Value}, RepL R l vs → vs.length = l.length * s
  | [], _, e => by subst e; simp
  | _ :: l, _, ⟨v1, v2, e, h1, h2⟩ => by
    subst e
    rw [List.length_append, h _ _ h1, RepL.len h h2, List.length_cons, Nat.add_mul]; omega
theorem Rep.len {X : ExtRep} (w : World) (ok : Nat → Prop) : ∀ (T : Ty) (x : T.den) (vs : List Value), Rep X w ok T x vs → vs.length = T.size
  | .int _, _, _, h | .bool, _, _, h | .str, _, _, h => by subst h; rfl
  | .unit, _, _, h => by subst h; rfl
  | .one a, x, vs, h => Rep.len w ok a x vs h
  | .pair a b, x, vs, ⟨v1, v2, e, h1, h2⟩ => by subst e; rw [List.length_append, Rep.len w ok a _ _ h1, Rep.len w ok b _ _ h2]; rfl
  | .ext i, x, vs, ⟨v, e, h⟩ => by subst e; rfl
  | .slice e, l, vs, ⟨A, c, ev, _⟩ => by subst ev; rfl
theorem Rep.one {X : ExtRep} (hX : X.OK) {w : World} {ok : Nat → Prop} : ∀ (T : Ty) (x : T.den) (vs : List Value), Rep X w ok T x vs → ∀ v ∈ vs, v.oneCell' = true
  | .int _, _, _, h | .bool, _, _, h | .str, _, _, h => by subst h; simp [Value.oneCell']
  | .unit, _, _, h => by subst h; simp
  | .one a, x, vs, h => Rep.one hX a x vs h
  | .pair a b, x, vs, ⟨v1, v2, e, h1, h2⟩ => by
    subst e; intro v hv
    rcases List.mem_append.1 hv with h | h
    · exact Rep.one hX a _ _ h1 v h
    · exact Rep.one hX b _ _ h2 v h
  | .ext i, x, vs, ⟨v, e, h⟩ => by subst e; intro u hu; simp at hu; subst hu; exact hX.one h
  | .slice e, l, vs, ⟨A, c, ev, _⟩ => by subst ev; simp [Value.oneCell']
theorem RepL.one {α : Type} {R : α → List Value → Prop} (h : ∀ x vs, R x vs → ∀ v ∈ vs, v.oneCell' = true) : ∀ {l : List α} {vs : List Value}, RepL R l vs → ∀ v ∈ vs, v.oneCell' = true
  | [], _, e => by subst e; simp
  | _ :: l, _, ⟨v1, v2, e, h1, h2⟩ => by
    subst e; intro v hv
    rcases List.mem_append.1 hv with h' | h'
    · exact h _ _ h1 v h'
    · exact RepL.one h h2 v h'
theorem RepL.append {α : Type} {R : α → List Value → Prop} : ∀ {l l' : List α} {vs vs' : List Value}, RepL R l vs → RepL R l' vs' → RepL R (l ++ l') (vs ++ vs')
  | [], _, _, _, e, h => by subst e; simpa using h
  | _ :: l, _, _, _, ⟨v1, v2, e, h1, h2⟩, h => by subst e; exact ⟨v1, v2 ++ _, by simp, h1, RepL.append h2 h⟩
theorem drop_succ_mul {v1 v2 : List Value} {s : Nat} (hl : v1.length = s) (i : Nat) : (v1 ++ v2).drop ((i + 1) * s) = v2.drop (i * s) := by
  rw [List.drop_append, Nat.add_mul, Nat.one_mul, List.drop_of_length_le (by omega), hl, Nat.add_sub_cancel, List.nil_append]
theorem RepL.get {α : Type} {R : α → List Value → Prop} {s : Nat} (h : ∀ x vs, R x vs → vs.length = s) : ∀ {l : List α} {vs : List Value} (d : α) (i : Nat), RepL R l vs → i < l.length → R (l.getD i d) ((vs.drop (i * s)).take s)
  | [], _, _, _, _, hi => by simp at hi
  | x :: l, _, d, 0, ⟨v1, v2, e, h1, h2⟩, _ => by
    subst e
    have := h _ _ h1
    simpa [← this] using h1
  | x :: l, _, d, i + 1, ⟨v1, v2, e, h1, h2⟩, hi => by
    subst e
    have hl := h _ _ h1
    have := RepL.get h d i h2 (by simpa using hi)
    rw [drop_succ_mul hl]
    simpa using this
theorem RepL.take {α : Type} {R : α → List Value → Prop} {s : Nat} (h : ∀ x vs, R x vs → vs.length = s) : ∀ {l : List α} {vs : List Value} (i : Nat), RepL R l vs → RepL R (l.take i) (vs.take (i * s))
  | [], _, i, e => by subst e; simp [RepL]
  | x :: l, _, 0, _ => by simp [RepL]
  | x :: l, _, i + 1, ⟨v1, v2, e, h1, h2⟩ => by
    subst e
    have hl := h _ _ h1
    refine ⟨v1, v2.take (i * s), ?_, h1, RepL.take h i h2⟩
    rw [List.take_append, Nat.add_mul, Nat.one_mul, List.take_of_length_le (by omega), hl, Nat.add_sub_cancel]
theorem RepL.drop {α : Type} {R : α → List Value → Prop} {s : Nat} (h : ∀ x vs, R x vs → vs.length = s) : ∀ {l : List α} {vs : List Value} (i : Nat), RepL R l vs → RepL R (l.drop i) (vs.drop (i * s))
  | [], _, i, e => by subst e; simp [RepL]
  | x :: l, _, 0, h' => by simpa using h'
  | x :: l, _, i + 1, ⟨v1, v2, e, h1, h2⟩ => by
    subst e
    have hl := h _ _ h1
    have := RepL.drop h i h2
    rw [drop_succ_mul hl]
    simpa using this
theorem RepL.set {α : Type} {R : α → List Value → Prop} {s : Nat} (h : ∀ x vs, R x vs → vs.length = s) {y : α} {v : List Value} (hy : R y v) :
    ∀ {l : List α} {vs : List Value} (i : Nat), RepL R l vs → i < l.length → RepL R (l.set i y) (vs.take (i * s) ++ v ++ vs.drop (i * s + s))
  | [], _, _, _, hi => by simp at hi
  | x :: l, _, 0, ⟨v1, v2, e, h1, h2⟩, _ => by
    subst e
    have hl := h _ _ h1
    exact ⟨v, v2, by simp [← hl], hy, h2⟩
  | x :: l, _, i + 1, ⟨v1, v2, e, h1, h2⟩, hi => by
    subst e
    have hl := h _ _ h1
    refine ⟨v1, v2.take (i * s) ++ v ++ v2.drop (i * s + s), ?_, h1, RepL.set h hy i h2 (by simpa using hi)⟩
    rw [List.take_append, List.drop_append, Nat.add_mul, Nat.one_mul, List.take_of_length_le (by omega), List.drop_of_length_le (by omega), hl, Nat.add_sub_cancel,
      show i * s + s + s - s = i * s + s by omega]
    simp
theorem RepL.replicate {α : Type} {R : α → List Value → Prop} {x : α} {v : List Value} (h : R x v) : ∀ n, RepL R (List.replicate n x) (List.replicate n v).flatten
  | 0 => by simp [RepL]
  | n + 1 => by
    rw [List.replicate_succ, List.replicate_succ, List.flatten_cons]
    exact ⟨_, _, rfl, h, RepL.replicate h n⟩

/-- A thing's own memory. -/
structure Own where
  v : Value
  bs : List Nat
  live : Bool
  sz : Nat
def okS (S : Nat → Prop) (w : World) (own : List Own) (b : Nat) : Prop := S b ∧ b < w.heap.size ∧ ∀ o ∈ own, b ∉ o.bs
/-- The slices among cells of a type are nil. -/
def NilS : Ty → List Value → Prop
  | .pair a b, vs => ∃ v1 v2, vs = v1 ++ v2 ∧ v1.length = a.size ∧ NilS a v1 ∧ NilS b v2
  | .one a, vs => NilS a vs
  | .slice e, vs => vs = [.slice none 0 0] ∧ 0 < e.size
  | _, _ => True
def VR (X : ExtRep) (w : World) (ok : Nat → Prop) (own : List Own) : AV → Value → Prop
  | .undef, _ => True
  | .skp, v => v = undef
  | .int k n, v => v = .int k n
  | .bool b, v => v = .bool b
  | .str s, v => v = .string s
  | .nil, v => v = .slice none 0 0
  | .sl T l, v => Rep X w ok (.slice T) l [v]
  | .agg T x, v => T.isAgg = true ∧ ∃ cs : List Value, v = .agg cs.toArray ∧ Rep X w ok T x cs
  | .ref i, v => ∃ o : Own, own[i]? = some o ∧ (o.live = true → v = o.v)
  | .ptr i off, v => ∃ (o : Own) (g : Nat), own[i]? = some o ∧ o.v = .pointer (some ⟨g, 0, none⟩) ∧ v = .pointer (some ⟨g, off, none⟩)
  | .at T x, v => ∃ b off cs, v = .pointer (some ⟨b, off, none⟩) ∧ ok b ∧ CellsAt w b off cs ∧ Rep X w ok T x cs
  | .ea i ix off, v => ∃ o : Own, own[i]? = some o ∧ (o.live = true → ∃ g n c, o.v = .slice (some ⟨g, 0, none⟩) n c ∧ 0 ≤ ix ∧ ix < (n : Int) ∧ v = .pointer (some ⟨g, ix.toNat * o.sz + off, none⟩))
  | .nilp, v => v = .pointer none
  | .tup0, v => v = .tuple #[]
  | .tcons a b, v => ∃ (x : Value) (xs : List Value), v = .tuple (x :: xs).toArray ∧ VR X w ok own a x ∧ VR X w ok own b (.tuple xs.toArray)
  | .fn f cs, v => ∃ vs : List Value, v = .func (.func f) #[] vs.toArray ∧ vs.length = cs.length ∧ ∀ (j i : Nat) (u : Value), cs[j]? = some i → vs[j]? = some u →
      ∃ (o : Own) (g : Nat), own[i]? = some o ∧ o.v = .pointer (some ⟨g, 0, none⟩) ∧ u = .pointer (some ⟨g, 0, none⟩)
  | .ext i x, v => X i w ok x v
  | .zag T x, v => T.isAgg = true ∧ ∃ cs : List Value, v = .agg cs.toArray ∧ Rep X w ok T x cs ∧ NilS T cs
def RowR (X : ExtRep) (w : World) (ok : Nat → Prop) (T : Ty) (l : List T.den) (o : Own) : Prop :=
  o.live = true ∧ o.sz = T.size ∧ 0 < T.size ∧ ((o.v = .slice none 0 0 ∧ l = [] ∧ o.bs = []) ∨
      ∃ (g c : Nat) (cur : Array Value) (e : TypeId × Nat × Nat), o.v = .slice (some ⟨g, 0, none⟩) l.length c ∧ o.bs = [g] ∧ w.heap[g]? = some (.cells cur e.1 e.2) ∧ l.length ≤ c ∧ c ≤ maxLen ∧ cur.size = c * T.size ∧
        RepL (Rep X w ok T) l (cur.toList.take (l.length * T.size)) ∧ (e.2.1 = e.2.2 ∨ cur.size ≤ e.2.1))
/-- Cells of a type whose slices are rows of one's own; one of them may be out. -/
def RepO (X : ExtRep) (w : World) (ok : Nat → Prop) (h : Option Nat) : Nat → (T : Ty) → T.den → List Value → List Nat → Prop
  | base, .pair a b, x, vs, bs => ∃ v1 v2 b1 b2, vs = v1 ++ v2 ∧ bs = b1 ++ b2 ∧ RepO X w ok h base a x.1 v1 b1 ∧ RepO X w ok h (base + a.size) b x.2 v2 b2
  | base, .one a, x, vs, bs => RepO X w ok h base a x vs bs
  | base, .slice e, l, vs, bs => ∃ v, vs = [v] ∧ ((h = some base ∧ bs = []) ∨ (h ≠ some base ∧ ∃ r : Own, r.v = v ∧ bs = r.bs ∧ RowR X w ok e l r))
  | _, .int k, x, vs, bs => bs = [] ∧ Rep X w ok (.int k) x vs
  | _, .bool, x, vs, bs => bs = [] ∧ Rep X w ok .bool x vs
  | _, .str, x, vs, bs => bs = [] ∧ Rep X w ok .str x vs
  | _, .unit, x, vs, bs => bs = [] ∧ Rep X w ok .unit x vs
  | _, .ext i, x, vs, bs => bs = [] ∧ Rep X w ok (.ext i) x vs
def OR (X : ExtRep) (w : World) (ok : Nat → Prop) : Ob → Own → Prop
  | .dead, o => o.live = false ∧ o.bs = []
  | .frz T l, o => o.bs = [] ∧ o.live = true ∧ Rep X w ok (.slice T) l [o.v]
  | .row T l, o => o.live = true ∧ o.sz = T.size ∧ 0 < T.size ∧ ((o.v = .slice none 0 0 ∧ l = [] ∧ o.bs = []) ∨
      ∃ (g c : Nat) (cur : Array Value) (e : TypeId × Nat × Nat), o.v = .slice (some ⟨g, 0, none⟩) l.length c ∧ o.bs = [g] ∧ w.heap[g]? = some (.cells cur e.1 e.2) ∧ l.length ≤ c ∧ c ≤ maxLen ∧ cur.size = c * T.size ∧
        RepL (Rep X w ok T) l (cur.toList.take (l.length * T.size)) ∧ (e.2.1 = e.2.2 ∨ cur.size ≤ e.2.1))
  | .var T x, o => o.live = true ∧ ∃ g cs e, o.v = .pointer (some ⟨g, 0, none⟩) ∧ o.bs = [g] ∧ w.heap[g]? = some (.cells (cs : List Value).toArray e (0, 0)) ∧ Rep X w ok T x cs
  | .vrow T l, o => o.live = true ∧ ∃ (g : Nat) (e : TypeId) (r : Own), o.v = .pointer (some ⟨g, 0, none⟩) ∧ o.bs = g :: r.bs ∧ g ∉ r.bs ∧ w.heap[g]? = some (.cells #[r.v] e (0, 0)) ∧ RowR X w ok T l r
  | .vout, o => o.live = true ∧ ∃ (g : Nat) (e : TypeId) (v : Value), o.v = .pointer (some ⟨g, 0, none⟩) ∧ o.bs = [g] ∧ w.heap[g]? = some (.cells #[v] e (0, 0))
  | .vst T x h, o => o.live = true ∧ ∃ (g : Nat) (cs : List Value) (e : TypeId) (bs : List Nat), o.v = .pointer (some ⟨g, 0, none⟩) ∧ o.bs = g :: bs ∧ g ∉ bs ∧ bs.Nodup ∧ w.heap[g]? = some (.cells cs.toArray e (0, 0)) ∧ RepO X w ok h 0 T x cs bs
theorem fr_no {lo hi n : Nat} (h : lo = hi ∨ n ≤ lo) : ∀ j, j < n → ¬ (lo ≤ j ∧ j < hi) := by intro j hj; omega
structure HR (X : ExtRep) (S : Nat → Prop) (w : World) (objs : List Ob) (own : List Own) : Prop where
  len : own.length = objs.length
  obj : ∀ (i : Nat) (ob : Ob) (o : Own), objs[i]? = some ob → own[i]? = some o → OR X w (okS S w own) ob o
  dis : ∀ (i j : Nat) (oi oj : Own) (b : Nat), own[i]? = some oi → own[j]? = some oj → b ∈ oi.bs → b ∈ oj.bs → i = j
  lt : ∀ (i : Nat) (o : Own) (b : Nat), own[i]? = some o → b ∈ o.bs → b < w.heap.size ∧ S b
/-- The same values; what lives now lived. -/
def OwnLe (own own' : List Own) : Prop := ∀ (i : Nat) (o : Own), own[i]? = some o → ∃ o' : Own, own'[i]? = some o' ∧ o'.v = o.v ∧ o'.sz = o.sz ∧ (o'.live = true → o.live = true)
theorem OwnLe.refl (own : List Own) : OwnLe own own := fun i o h => ⟨o, h, rfl, rfl, id⟩
theorem OwnLe.trans {a b c : List Own} (h : OwnLe a b) (k : OwnLe b c) : OwnLe a c := fun i o ho =>
  let ⟨o1, h1, e1, s1, l1⟩ := h i o ho
  let ⟨o2, h2, e2, s2, l2⟩ := k i o1 h1
  ⟨o2, h2, e2.trans e1, s2.trans s1, fun x => l1 (l2 x)⟩
theorem VR.mono {X : ExtRep} (hX : X.OK) {w w' : World} {ok ok' : Nat → Prop} {own own' : List Own} (hb : ∀ b, ok b → ok' b ∧ w'.heap[b]? = w.heap[b]?) (ho : OwnLe own own') :
    ∀ (av : AV) (v : Value), VR X w ok own av v → VR X w' ok' own' av v
  | .undef, _, _ => trivial
  | .skp, _, h | .int _ _, _, h | .bool _, _, h | .str _, _, h | .nil, _, h | .nilp, _, h | .tup0, _, h => h
  | .sl T l, v, h => Rep.mono hX hb (.slice T) l [v] h
  | .agg T x, v, ⟨ha, cs, e, h⟩ => ⟨ha, cs, e, Rep.mono hX hb T x cs h⟩
  | .ref i, v, ⟨o, h1, h2⟩ => let ⟨o', k1, k2, _, k4⟩ := ho i o h1; ⟨o', k1, fun l => (h2 (k4 l)).trans k2.symm⟩
  | .ptr i off, v, ⟨o, g, h1, h2, h3⟩ => let ⟨o', k1, k2, _, _⟩ := ho i o h1; ⟨o', g, k1, k2.trans h2, h3⟩
  | .at T x, v, ⟨b, off, cs, e, h1, h2, h3⟩ => ⟨b, off, cs, e, (hb b h1).1, h2.mono (hb b h1).2, Rep.mono hX hb T x cs h3⟩
  | .ea i ix off, v, ⟨o, h1, h2⟩ => let ⟨o', k1, k2, k3, k4⟩ := ho i o h1; ⟨o', k1, fun l => let ⟨g, n, c, e, r⟩ := h2 (k4 l); ⟨g, n, c, k2.trans e, by rw [k3]; exact r⟩⟩
  | .tcons a b, v, ⟨x, xs, e, h1, h2⟩ => ⟨x, xs, e, VR.mono hX hb ho a x h1, VR.mono hX hb ho b _ h2⟩
  | .fn f cs, v, ⟨vs, e, hl, h⟩ => ⟨vs, e, hl, fun j i u h1 h2 => let ⟨o, g, a1, a2, a3⟩ := h j i u h1 h2; let ⟨o', k1, k2, _, _⟩ := ho i o a1; ⟨o', g, k1, k2.trans a2, a3⟩⟩
  | .ext i x, v, h => hX.mono hb h
  | .zag T x, v, ⟨ha, cs, e, h, hn⟩ => ⟨ha, cs, e, Rep.mono hX hb T x cs h, hn⟩
theorem RowR.mono {X : ExtRep} (hX : X.OK) {w w' : World} {ok ok' : Nat → Prop} (hb : ∀ b, ok b → ok' b ∧ w'.heap[b]? = w.heap[b]?) {T : Ty} {l : List T.den} {o : Own} (hs : ∀ b ∈ o.bs, w'.heap[b]? = w.heap[b]?) (h : RowR X w ok T l o) : RowR X w' ok' T l o :=
  let ⟨h1, h2, h3, h4⟩ := h
  ⟨h1, h2, h3, h4.imp id fun ⟨g, c, cur, e, a1, a2, a3, a4, a5, a6, a7⟩ => ⟨g, c, cur, e, a1, a2, (hs g (by simp [a2])).trans a3, a4, a5, a6, a7.1.imp (Rep.mono hX hb T), a7.2⟩⟩
theorem RepO.mono {X : ExtRep} (hX : X.OK) {w w' : World} {ok ok' : Nat → Prop} {h : Option Nat} (hb : ∀ b, ok b → ok' b ∧ w'.heap[b]? = w.heap[b]?) :
    ∀ (base : Nat) (T : Ty) (x : T.den) (vs : List Value) (bs : List Nat), (∀ b ∈ bs, w'.heap[b]? = w.heap[b]?) → RepO X w ok h base T x vs bs → RepO X w' ok' h base T x vs bs
  | base, .pair a b, x, vs, bs, hs, ⟨v1, v2, b1, b2, e1, e2, h1, h2⟩ => ⟨v1, v2, b1, b2, e1, e2, RepO.mono hX hb base a _ _ _ (fun c hc => hs c (by simp [e2, hc])) h1, RepO.mono hX hb _ b _ _ _ (fun c hc => hs c (by simp [e2, hc])) h2⟩
  | base, .one a, x, vs, bs, hs, h => RepO.mono hX hb base a x vs bs hs h
  | base, .slice e, l, vs, bs, hs, ⟨v, ev, h⟩ => ⟨v, ev, h.imp id fun ⟨h1, r, h2, h3, h4⟩ => ⟨h1, r, h2, h3, RowR.mono hX hb (fun b hb' => hs b (by rw [h3]; exact hb')) h4⟩⟩
  | _, .int _, x, vs, bs, _, ⟨e, h⟩ | _, .bool, x, vs, bs, _, ⟨e, h⟩ | _, .str, x, vs, bs, _, ⟨e, h⟩ | _, .unit, x, vs, bs, _, ⟨e, h⟩ | _, .ext _, x, vs, bs, _, ⟨e, h⟩ => ⟨e, Rep.mono hX hb _ _ _ h⟩
theorem OR.mono {X : ExtRep} (hX : X.OK) {w w' : World} {ok ok' : Nat → Prop} (hb : ∀ b, ok b → ok' b ∧ w'.heap[b]? = w.heap[b]?) :
    ∀ (ob : Ob) (o : Own), (∀ b ∈ o.bs, w'.heap[b]? = w.heap[b]?) → OR X w ok ob o → OR X w' ok' ob o
  | .dead, _, _, h => h
  | .frz T l, o, _, ⟨h1, h2, h3⟩ => ⟨h1, h2, Rep.mono hX hb (.slice T) l _ h3⟩
  | .row T l, o, hs, ⟨h1, h2, h3, h4⟩ => ⟨h1, h2, h3, h4.imp id fun ⟨g, c, cur, e, a1, a2, a3, a4, a5, a6, a7⟩ =>
      ⟨g, c, cur, e, a1, a2, (hs g (by simp [a2])).trans a3, a4, a5, a6, a7.1.imp (Rep.mono hX hb T), a7.2⟩⟩
  | .var T x, o, hs, ⟨h1, g, cs, e, a1, a2, a3, a4⟩ => ⟨h1, g, cs, e, a1, a2, (hs g (by simp [a2])).trans a3, Rep.mono hX hb T x cs a4⟩
  | .vrow T l, o, hs, ⟨h0, g0, e0, r, b1, b2, b3, b4, h1, h2, h3, h4⟩ => ⟨h0, g0, e0, r, b1, b2, b3, (hs g0 (by simp [b2])).trans b4, h1, h2, h3, h4.imp id fun ⟨g, c, cur, e, a1, a2, a3, a4, a5, a6, a7⟩ =>
      ⟨g, c, cur, e, a1, a2, (hs g (by simp [b2, a2])).trans a3, a4, a5, a6, a7.1.imp (Rep.mono hX hb T), a7.2⟩⟩
  | .vout, o, hs, ⟨h0, g0, e0, v, b1, b2, b3⟩ => ⟨h0, g0, e0, v, b1, b2, (hs g0 (by simp [b2])).trans b3⟩
  | .vst T x h, o, hs, ⟨h0, g, cs, e, bs, b1, b2, b3, b4, b5, b6⟩ => ⟨h0, g, cs, e, bs, b1, b2, b3, b4, (hs g (by simp [b2])).trans b5, RepO.mono hX hb 0 T x cs bs (fun b hb' => hs b (by simp [b2, hb'])) b6⟩
/-- THE STEP: some things are touched ('J'), some are new; all others stay. -/
theorem HR.change {X : ExtRep} (hX : X.OK) {S : Nat → Prop} {w w' : World} {objs objs' : List Ob} {own own' : List Own} (h : HR X S w objs own)
    (hlen : own'.length = objs'.length) (hle : own.length ≤ own'.length) (hsz : w.heap.size ≤ w'.heap.size) (J : Nat → Prop)
    (same : ∀ i, i < own.length → ¬ J i → own'[i]? = own[i]? ∧ objs'[i]? = objs[i]?)
    (blk : ∀ b, b < w.heap.size → (∀ i o, J i → own[i]? = some o → b ∉ o.bs) → w'.heap[b]? = w.heap[b]?)
    (bs' : ∀ i o b, own'[i]? = some o → (J i ∨ own.length ≤ i) → b ∈ o.bs → b < w'.heap.size ∧ S b ∧ (w.heap.size ≤ b ∨ ∃ j oj, J j ∧ own[j]? = some oj ∧ b ∈ oj.bs))
    (dis' : ∀ i j oi oj b, (J i ∨ own.length ≤ i) → (J j ∨ own.length ≤ j) → own'[i]? = some oi → own'[j]? = some oj → b ∈ oi.bs → b ∈ oj.bs → i = j)
    (obj' : (∀ b, okS S w own b → okS S w' own' b ∧ w'.heap[b]? = w.heap[b]?) → ∀ i ob o, (J i ∨ own.length ≤ i) → objs'[i]? = some ob → own'[i]? = some o → OR X w' (okS S w' own') ob o) :
    HR X S w' objs' own' ∧ (∀ b, okS S w own b → okS S w' own' b ∧ w'.heap[b]? = w.heap[b]?) := by
  have cases' : ∀ i o, own'[i]? = some o → (J i ∨ own.length ≤ i) ∨ (own[i]? = some o ∧ ¬ J i ∧ i < own.length) := by
    intro i o ho
    by_cases hJ : J i
    · exact .inl (.inl hJ)
    · by_cases hi : own.length ≤ i
      · exact .inl (.inr hi)
      · exact .inr ⟨by rw [← (same i (by omega) hJ).1]; exact ho, hJ, by omega⟩
  have ok' : ∀ b, okS S w own b → okS S w' own' b ∧ w'.heap[b]? = w.heap[b]? := by
    intro b ⟨h1, h2, h3⟩
    refine ⟨⟨h1, by omega, ?_⟩, blk b h2 fun i o _ ho hb => h3 o (List.mem_of_getElem? ho) hb⟩
    intro o ho hb
    obtain ⟨i, hi⟩ := List.mem_iff_getElem?.1 ho
    rcases cases' i o hi with hc | ⟨hc, _⟩
    · rcases (bs' i o b hi hc hb).2.2 with h4 | ⟨j, oj, _, h5, h6⟩
      · omega
      · exact h3 oj (List.mem_of_getElem? h5) h6
    · exact h3 o (List.mem_of_getElem? hc) hb
  have stay : ∀ i o, own[i]? = some o → ¬ J i → ∀ b ∈ o.bs, w'.heap[b]? = w.heap[b]? := fun i o ho hJ b hb =>
    blk b (h.lt i o b ho hb).1 fun j oj hj hoj hb' => hJ (by rw [h.dis i j o oj b ho hoj hb hb']; exact hj)
  refine ⟨⟨hlen, ?_, ?_, ?_⟩, ok'⟩
  · intro i ob o hob ho
    rcases cases' i o ho with hc | ⟨hc, hJ, hi⟩
    · exact obj' ok' i ob o hc hob ho
    · exact OR.mono hX ok' ob o (stay i o hc hJ) (h.obj i ob o (by rw [← (same i hi hJ).2]; exact hob) hc)
  · intro i j oi oj b hi hj hbi hbj
    rcases cases' i oi hi with ci | ⟨ci, nJi, li⟩ <;> rcases cases' j oj hj with cj | ⟨cj, nJj, lj⟩
    · exact dis' i j oi oj b ci cj hi hj hbi hbj
    · rcases (bs' i oi b hi ci hbi).2.2 with h4 | ⟨m, om, h5, h6, h7⟩
      · have := (h.lt j oj b cj hbj).1; omega
      · exact absurd (h.dis m j om oj b h6 cj h7 hbj ▸ h5) nJj
    · rcases (bs' j oj b hj cj hbj).2.2 with h4 | ⟨m, om, h5, h6, h7⟩
      · have := (h.lt i oi b ci hbi).1; omega
      · exact absurd (h.dis m i om oi b h6 ci h7 hbi ▸ h5) nJi
    · exact h.dis i j oi oj b ci cj hbi hbj
  · intro i o b ho hb
    rcases cases' i o ho with hc | ⟨hc, _, _⟩
    · exact ⟨(bs' i o b ho hc hb).1, (bs' i o b ho hc hb).2.1⟩
    · exact ⟨by have := (h.lt i o b hc hb).1; omega, (h.lt i o b hc hb).2⟩
end Go.Proofs.YtgelkklendpeoaaGreat.AE

namespace Go.Proofs.YtgelkklendpeoaaGreat.AE
set_option linter.unusedVariables false
set_option linter.unusedSimpArgs false
open Go
set_option linter.unusedVariables false
set_option linter.unusedSimpArgs false

/-- Zeros at the head of a list of cells. -/
def zeroCell : Ty → Value → Bool
  | .int k, .int k' n => decide (k = k' ∧ n = 0)
  | .bool, .bool b => !b
  | .str, .string s => Nat.beq s.size 0
  | .slice _, .slice none n c => Nat.beq n 0 && Nat.beq c 0
  | _, _ => false
theorem zeroCell_rep {X : ExtRep} (w : World) (ok : Nat → Prop) {T : Ty} {v : Value} (h : zeroCell T v = true) : Rep X w ok T T.zero [v] := by
  cases T <;> cases v <;> simp only [zeroCell, Bool.false_eq_true] at h
  case int.int k k' n => simp at h; obtain ⟨rfl, rfl⟩ := h; rfl
  case bool.bool b => simp at h; subst h; rfl
  case str.string s =>
    have : s = ByteArray.empty := by
      cases s with
      | mk d => simp [ByteArray.size] at h; subst h; rfl
    subst this; rfl
  case slice.slice e a n c =>
    cases a with
    | some a => simp [zeroCell] at h
    | none =>
      simp [zeroCell] at h
      obtain ⟨rfl, rfl⟩ := h
      exact ⟨none, 0, rfl, Nat.le_refl _, by simp, .inl rfl⟩
def isZero : (T : Ty) → List Value → Option (List Value)
  | .unit, r => some r
  | .one a, r => isZero a r
  | .pair a b, r => match isZero a r with | some r => isZero b r | none => none
  | T, v :: r => match zeroCell T v with | true => some r | false => none
  | _, [] => none
theorem isZero_rep {X : ExtRep} (w : World) (ok : Nat → Prop) : ∀ (T : Ty) (cs r : List Value), isZero T cs = some r → ∃ v1, cs = v1 ++ r ∧ Rep X w ok T T.zero v1
  | .unit, cs, r, h => by simp [isZero] at h; subst h; exact ⟨[], rfl, rfl⟩
  | .one a, cs, r, h => by
    simp only [isZero] at h
    exact isZero_rep w ok a cs r h
  | .pair a b, cs, r, h => by
    simp only [isZero] at h
    split at h
    · rename_i r1 h1
      obtain ⟨v1, e1, p1⟩ := isZero_rep (X := X) w ok a _ _ h1
      obtain ⟨v2, e2, p2⟩ := isZero_rep (X := X) w ok b _ _ h
      exact ⟨v1 ++ v2, by rw [e1, e2, List.append_assoc], v1, v2, rfl, p1, p2⟩
    · cases h
  | .int k, v :: cs, r, h | .bool, v :: cs, r, h | .str, v :: cs, r, h | .slice _, v :: cs, r, h | .ext _, v :: cs, r, h => by
    simp only [isZero] at h
    split at h
    · rename_i hz; cases h; exact ⟨[v], rfl, zeroCell_rep w ok hz⟩
    · cases h
  | .int _, [], r, h | .bool, [], r, h | .str, [], r, h | .slice _, [], r, h | .ext _, [], r, h => by simp [isZero] at h
/-- What the evaluator takes a type for, held against the program's own table. -/
def isAggD (d : TypeDesc) : Bool := match d with | .struct _ | .array _ _ => true | _ => false
def fieldsOK (P : Program) : Ty → Nat → List Field → Bool
  | .unit, _, [] => true
  | .one a, off, [f] => Nat.beq f.offset off && (match P.info? f.type, P.underlying f.type with | some i, some d => Nat.beq i.size a.size && Nat.blt 0 a.size && (isAggD d == a.isAgg) | _, _ => false)
  | .pair a b, off, f :: fs => Nat.beq f.offset off && (match P.info? f.type, P.underlying f.type with | some i, some d => Nat.beq i.size a.size && Nat.blt 0 a.size && (isAggD d == a.isAgg) | _, _ => false) && fieldsOK P b (off + a.size) fs
  | _, _, _ => false
def descOK (P : Program) (b : Nat) : Ty → TypeDesc → Bool
  | .int k, .int k' => decide (k = k')
  | .bool, .bool => true
  | .str, .string => true
  | .slice e, .slice te => (match P.info? te with
    | some ie => Nat.beq ie.size e.size && Nat.blt 0 e.size && Nat.beq ie.bytes b && Nat.blt 0 b && Nat.ble e.size b && (match ie.zero with | some z => (match isZero e z.cells.toList with | some [] => true | _ => false) | none => false) && (match e with | .int k => (match P.underlying te with | some (.int k') => decide (k = k') | _ => false) | _ => true)
    | none => false)
  | .unit, .struct fs => fieldsOK P .unit 0 fs.toList
  | .one a, .struct fs => fieldsOK P (.one a) 0 fs.toList
  | .pair a b, .struct fs => fieldsOK P (.pair a b) 0 fs.toList
  | .ext _, .pointer _ => true
  | _, _ => false
/-- A struct that is compared: each field a number, a bool, a string. -/
def scalarOK (P : Program) (a : Ty) (t : TypeId) : Bool :=
  match a with
  | .int k => (match P.underlying t with | some (.int k') => decide (k = k') | _ => false)
  | .bool => (match P.underlying t with | some .bool => true | _ => false)
  | .str => (match P.underlying t with | some .string => true | _ => false)
  | _ => false
def cmpFields (P : Program) : Ty → Nat → List Field → Bool
  | .one a, off, [f] => (f.name != "_") && (Nat.beq f.offset off && scalarOK P a f.type)
  | .pair a b, off, f :: fs => (f.name != "_") && (Nat.beq f.offset off && (scalarOK P a f.type && cmpFields P b (off + 1) fs))
  | _, _, _ => false
def cmpOK (P : Program) (t : TypeId) (T : Ty) : Bool :=
  !P.stoodInHeld t && (!P.eqGuardType P.depth t && (match P.underlying t with | some (.struct fs) => cmpFields P T 0 fs.toList | _ => false))
def tiOK (P : Program) (t : TypeId) (ti : TI) : Bool :=
  match P.underlying t, P.info? t with
  | some d, some i => descOK P ti.b ti.T d && Nat.beq i.size ti.T.size && (match ti.T with | .ext _ => true | T => (match i.zero with | some z => (match isZero T z.cells.toList with | some [] => true | _ => false) && ((match z with | .agg _ => true | _ => false) == T.isAgg) | none => false))
  | _, _ => false
/-- A slice's second number is an element's bytes; a struct's 1: it may be compared. -/
def tiOK1 (P : Program) (t : TypeId) (ti : TI) : Bool := tiOK P t ti && (match Nat.beq ti.b 1 && ti.T.isAgg with | true => cmpOK P t ti.T | false => true)
def tysOK (P : Program) (tys : List (Option TI)) : Bool := tys.zipIdx.all fun (p : Option TI × Nat) => match p.1 with | some ti => tiOK1 P p.2 ti | none => true
end Go.Proofs.YtgelkklendpeoaaGreat.AE

namespace Go.Proofs.YtgelkklendpeoaaGreat.AE
set_option linter.unusedVariables false
set_option linter.unusedSimpArgs false
open Go
set_option linter.unusedVariables false
set_option linter.unusedSimpArgs false

/-- From a world to a later one, as whoever called sees it. -/
structure Frm (S : Nat → Prop) (w : World) (own : List Own) (w' : World) (own' : List Own) : Prop where
  os : w'.os = w.os
  tape : w'.tape = w.tape
  output : w'.output = w.output
  sz : w.heap.size ≤ w'.heap.size
  ok : ∀ b, okS S w own b → okS S w' own' b ∧ w'.heap[b]? = w.heap[b]?
  bs : ∀ (i : Nat) (o : Own) (b : Nat), own'[i]? = some o → b ∈ o.bs → w.heap.size ≤ b ∨ ∃ (j : Nat) (oj : Own), own[j]? = some oj ∧ b ∈ oj.bs
  blk : ∀ b, b < w.heap.size → (∀ (i : Nat) (o : Own), own[i]? = some o → b ∉ o.bs) → w'.heap[b]? = w.heap[b]?
theorem Frm.refl (S : Nat → Prop) (w : World) (own : List Own) : Frm S w own w own :=
  ⟨rfl, rfl, rfl, Nat.le_refl _, fun b h => ⟨h, rfl⟩, fun i o b h hb => .inr ⟨i, o, h, hb⟩, fun _ _ _ => rfl⟩
theorem Frm.trans {S : Nat → Prop} {w w' w'' : World} {own own' own'' : List Own} (h : Frm S w own w' own') (k : Frm S w' own' w'' own'') : Frm S w own w'' own'' where
  os := k.os.trans h.os
  tape := k.tape.trans h.tape
  output := k.output.trans h.output
  sz := Nat.le_trans h.sz k.sz
  ok b hb := ⟨(k.ok b (h.ok b hb).1).1, (k.ok b (h.ok b hb).1).2.trans (h.ok b hb).2⟩
  bs i o b ho hb := by
    rcases k.bs i o b ho hb with h1 | ⟨j, oj, h1, h2⟩
    · exact .inl (Nat.le_trans h.sz h1)
    · exact h.bs j oj b h1 h2
  blk b hb hn := by
    refine (k.blk b (by have := h.sz; omega) fun i o ho hbo => ?_).trans (h.blk b hb hn)
    rcases h.bs i o b ho hbo with h1 | ⟨j, oj, h1, h2⟩
    · omega
    · exact hn j oj h1 h2
def TR (X : ExtRep) (w : World) (ok : Nat → Prop) (own : List Own) (tmps : List AV) (vals : Array Value) : Prop :=
  vals.size = tmps.length ∧ ∀ (i : Nat) (av : AV) (v : Value), tmps[i]? = some av → vals[i]? = some v → VR X w ok own av v
structure SR (X : ExtRep) (S : Nat → Prop) (w0 : World) (own0 : List Own) (st : St) (a : Act) (w : World) : Prop where
  defers : a.defers = []
  ex : ∃ own, HR X S w st.objs own ∧ Frm S w0 own0 w own ∧ OwnLe own0 own ∧ TR X w (okS S w own) own st.tmps a.tmps
theorem TR.mono {X : ExtRep} (hX : X.OK) {w w' : World} {ok ok' : Nat → Prop} {own own' : List Own} (hb : ∀ b, ok b → ok' b ∧ w'.heap[b]? = w.heap[b]?) (ho : OwnLe own own')
    {tmps : List AV} {vals : Array Value} (h : TR X w ok own tmps vals) : TR X w' ok' own' tmps vals :=
  ⟨h.1, fun i av v h1 h2 => VR.mono hX hb ho av v (h.2 i av v h1 h2)⟩
theorem TR.set {X : ExtRep} {w : World} {ok : Nat → Prop} {own : List Own} {tmps : List AV} {vals : Array Value} (h : TR X w ok own tmps vals) (d : Nat) {av : AV} {v : Value} (hv : VR X w ok own av v) :
    TR X w ok own (tmps.set d av) (vals.setIfInBounds d v) := by
  refine ⟨by simp [h.1], fun i av' v' h1 h2 => ?_⟩
  by_cases hd : d = i
  · subst hd
    by_cases hl : d < tmps.length
    · have hl2 : d < vals.size := by rw [h.1]; exact hl
      rw [List.getElem?_set_self hl] at h1
      rw [Array.getElem?_setIfInBounds_self_of_lt hl2] at h2
      cases h1; cases h2; exact hv
    · rw [List.getElem?_eq_none (by simp; omega)] at h1; cases h1
  · rw [List.getElem?_set_ne hd] at h1
    rw [Array.getElem?_setIfInBounds_ne hd] at h2
    exact h.2 i av' v' h1 h2
theorem TR.put {X : ExtRep} {w : World} {ok : Nat → Prop} {own : List Own} {st : St} {a : Act} (h : TR X w ok own st.tmps a.tmps) (d : Option Nat) {av : AV} {v : Value} (hv : VR X w ok own av v) :
    TR X w ok own (st.put d av).tmps (a.put d v).tmps := by
  cases d with
  | none => exact h
  | some d => exact h.set d hv
@[simp] theorem St.put_objs (st : St) (d : Option Nat) (v : AV) : (st.put d v).objs = st.objs := by cases d <;> rfl
@[simp] theorem Act.put_defers (a : Act) (d : Option Nat) (v : Value) : (a.put d v).defers = a.defers := by cases d <;> rfl
theorem SR.step {X : ExtRep} (hX : X.OK) {S : Nat → Prop} {w0 : World} {own0 : List Own} {st : St} {a : Act} {w w' : World} {own own' : List Own} {objs' : List Ob} (hd : a.defers = [])
    (f0 : Frm S w0 own0 w own) (l0 : OwnLe own0 own) (ht : TR X w (okS S w own) own st.tmps a.tmps) (hr : HR X S w' objs' own') (f : Frm S w own w' own') (le : OwnLe own own') (d : Option Nat) {av : AV} {v : Value} (hv : VR X w' (okS S w' own') own' av v) :
    SR X S w0 own0 (({ st with objs := objs' } : St).put d av) (a.put d v) w' :=
  ⟨by simp [hd], own', by simpa using hr, f0.trans f, l0.trans le, TR.put (st := { st with objs := objs' }) (ht.mono hX f.ok le) d hv⟩
theorem SR.put {X : ExtRep} {S : Nat → Prop} {w0 : World} {own0 : List Own} {st : St} {a : Act} {w : World} {own : List Own} (hd : a.defers = [])
    (f0 : Frm S w0 own0 w own) (l0 : OwnLe own0 own) (ht : TR X w (okS S w own) own st.tmps a.tmps) (hr : HR X S w st.objs own) (d : Option Nat) {av : AV} {v : Value} (hv : VR X w (okS S w own) own av v) :
    SR X S w0 own0 (st.put d av) (a.put d v) w :=
  ⟨by simp [hd], own, by simpa using hr, f0, l0, ht.put d hv⟩
theorem constAV_VR {X : ExtRep} {w : World} {ok : Nat → Prop} {own : List Own} : ∀ v : Value, VR X w ok own (constAV v) v := by
  intro v
  unfold constAV
  split <;> first | rfl | trivial
theorem opd_VR {X : ExtRep} {w : World} {ok : Nat → Prop} {own : List Own} {st : St} {a : Act} (h : TR X w ok own st.tmps a.tmps) : ∀ x : Operand, VR X w ok own (opd st x) (a.eval x)
  | .tmp t => by
    show VR X w ok own (st.tmps.getD t .undef) (a.tmps.getD t undef)
    by_cases hl : t < st.tmps.length
    · have hl2 : t < a.tmps.size := by rw [h.1]; exact hl
      exact h.2 t _ _ (by simp [hl]) (by simp [hl2])
    · rw [List.getD_eq_getElem?_getD, List.getElem?_eq_none (Nat.le_of_not_lt hl)]; trivial
  | .const v => constAV_VR v
  | .func f => ⟨[], rfl, rfl, by simp⟩
  | .global _ => trivial
theorem Ob.get_of {os : List Ob} {i : Nat} {ob : Ob} (h : Ob.get os i = ob) (hd : ob ≠ .dead) : os[i]? = some ob := by
  unfold Ob.get at h
  rw [List.getD_eq_getElem?_getD] at h
  cases hh : os[i]? with
  | none => rw [hh] at h; exact absurd h.symm hd
  | some o => rw [hh] at h; simp at h; rw [h]
theorem HR.at {X : ExtRep} {S : Nat → Prop} {w : World} {objs : List Ob} {own : List Own} (h : HR X S w objs own) {i : Nat} {ob : Ob} (hi : objs[i]? = some ob) : ∃ o, own[i]? = some o ∧ OR X w (okS S w own) ob o := by
  have hl : i < own.length := by rw [h.len]; exact (List.getElem?_eq_some_iff.1 hi).1
  exact ⟨own[i], by simp [hl], h.obj i ob _ hi (by simp [hl])⟩
/-- A slice at hand, as a row that is read. -/
def RowAt (X : ExtRep) (w : World) (ok : Nat → Prop) (e : Ty) (l : List e.den) (v : Value) : Prop :=
  ∃ A c, v = .slice A l.length c ∧ l.length ≤ c ∧ c ≤ maxLen ∧ (l = [] ∨ ∃ b off cs, A = some ⟨b, off, none⟩ ∧ b < w.heap.size ∧ CellsAt w b off cs ∧ RepL (Rep X w ok e) l cs)
theorem RowAt.of_rep {X : ExtRep} {S : Nat → Prop} {w : World} {own : List Own} {e : Ty} {l : List e.den} {v : Value} (h : Rep X w (okS S w own) (.slice e) l [v]) : RowAt X w (okS S w own) e l v := by
  obtain ⟨A, c, ev, h1, h2, h3⟩ := h
  cases ev
  exact ⟨A, c, rfl, h1, h2, h3.imp id fun ⟨b, off, cs, eA, hb, hc, hr⟩ => ⟨b, off, cs, eA, hb.2.1, hc, hr⟩⟩
theorem CellsAt.of_row {w : World} {g : Nat} {cur : Array Value} {e : TypeId} {fr : Nat × Nat} (h : w.heap[g]? = some (.cells cur e fr)) (n : Nat) : CellsAt w g 0 (cur.toList.take n) := by
  intro j v hv
  rw [Nat.zero_add, cell_of_row w g j cur e fr h]
  rw [List.getElem?_take] at hv
  split at hv
  · simpa using hv
  · cases hv
theorem RowAt.of_row {X : ExtRep} {w : World} {ok : Nat → Prop} {T : Ty} {l : List T.den} {o : Own} (h : OR X w ok (.row T l) o) : RowAt X w ok T l o.v := by
  obtain ⟨h1, h2, h3, ⟨e, rfl, _⟩ | ⟨g, c, cur, e, e1, e2, e3, e4, e5, e6, e7⟩⟩ := h
  · exact ⟨none, 0, by rw [e]; rfl, Nat.le_refl _, by simp, .inl rfl⟩
  · exact ⟨_, c, e1, e4, e5, .inr ⟨g, 0, _, rfl, (Array.getElem?_eq_some_iff.1 e3).1, CellsAt.of_row e3 _, e7.1⟩⟩
theorem readDat_row {X : ExtRep} {S : Nat → Prop} {w : World} {objs : List Ob} {own : List Own} (h : HR X S w objs own) {e : Ty} {l : List e.den} {av : AV} {v : Value}
    (hl : readDat objs (.slice e) av = some l) (hv : VR X w (okS S w own) own av v) : RowAt X w (okS S w own) e l v := by
  cases av <;> simp only [readDat, reduceCtorEq] at hl
  case nil => cases hl; cases hv; exact ⟨none, 0, rfl, Nat.le_refl _, by simp, .inl rfl⟩
  case sl T' l' =>
    obtain ⟨e1, e2⟩ := castTo_some hl
    cases e1
    cases e2
    exact RowAt.of_rep hv
  case ref i =>
    split at hl
    · rename_i e' l' hg
      obtain ⟨e1, e2⟩ := castTo_some hl
      cases e1
      cases e2
      obtain ⟨o, ho, hor⟩ := h.at (Ob.get_of hg (by simp))
      obtain ⟨o', ho', hv'⟩ := hv
      rw [ho] at ho'; cases ho'
      rw [hv' hor.1]
      exact RowAt.of_row hor
    · rename_i e' l' hg
      obtain ⟨e1, e2⟩ := castTo_some hl
      cases e1
      cases e2
      obtain ⟨o, ho, hor⟩ := h.at (Ob.get_of hg (by simp))
      obtain ⟨o', ho', hv'⟩ := hv
      rw [ho] at ho'; cases ho'
      rw [hv' hor.2.1]
      exact RowAt.of_rep hor.2.2
    · cases hl
/-- Other than a row of one's own: data as it may be kept. -/
theorem readDat_rep {X : ExtRep} (hX : X.OK) {S : Nat → Prop} {w : World} {objs : List Ob} {own : List Own} (h : HR X S w objs own) {T : Ty} {x : T.den} {av : AV} {v : Value}
    (hl : readDat objs T av = some x) (hv : VR X w (okS S w own) own av v) (hn : ∀ i e l, av = .ref i → Ob.get objs i ≠ .row e l) : Rep X w (okS S w own) T x v.cells.toList := by
  cases T <;> cases av <;> simp only [readDat, reduceCtorEq] at hl
  case int.int k k' n =>
    split at hl
    · rename_i hd; cases hl; simp at hd; subst hd; cases hv; rfl
    · cases hl
  case bool.bool b => cases hl; cases hv; rfl
  case str.str b => cases hl; cases hv; rfl
  case unit.agg T' x' =>
    obtain ⟨e1, e2⟩ := castTo_some hl
    cases e1; cases e2
    obtain ⟨_, cs, rfl, hr⟩ := hv; exact hr
  case one.agg a T' x' =>
    obtain ⟨e1, e2⟩ := castTo_some hl
    cases e1; cases e2
    obtain ⟨_, cs, rfl, hr⟩ := hv; exact hr
  case pair.agg a b T' x' =>
    obtain ⟨e1, e2⟩ := castTo_some hl
    cases e1; cases e2
    obtain ⟨_, cs, rfl, hr⟩ := hv; exact hr
  case one.zag a T' x' =>
    obtain ⟨e1, e2⟩ := castTo_some hl
    cases e1; cases e2
    obtain ⟨_, cs, rfl, hr, _⟩ := hv; exact hr
  case pair.zag a b T' x' =>
    obtain ⟨e1, e2⟩ := castTo_some hl
    cases e1; cases e2
    obtain ⟨_, cs, rfl, hr, _⟩ := hv; exact hr
  case slice.nil e => cases hl; cases hv; exact ⟨none, 0, rfl, Nat.le_refl _, by simp, .inl rfl⟩
  case slice.sl e T' l' =>
    obtain ⟨e1, e2⟩ := castTo_some hl
    cases e1; cases e2
    have hv' := hv
    obtain ⟨A, c, ev, _⟩ := hv'
    cases ev
    exact hv
  case slice.ref e i =>
    split at hl
    · rename_i e' l' hg
      exact absurd hg (hn i _ _ rfl)
    · rename_i e' l' hg
      obtain ⟨e1, e2⟩ := castTo_some hl
      cases e1; cases e2
      obtain ⟨o, ho, hor⟩ := h.at (Ob.get_of hg (by simp))
      obtain ⟨o', ho', hv'⟩ := hv
      rw [ho] at ho'; cases ho'
      rw [hv' hor.2.1]
      have h3 := hor.2.2
      obtain ⟨A, c, ev, _⟩ := hor.2.2
      injection ev with ev
      rw [ev] at h3 ⊢
      exact h3
    · cases hl
  case ext.ext i j x' =>
    split at hl
    · rename_i hd; cases hl; simp at hd; subst hd
      have h1 : v.cells.toList = [v] := by
        have := hX.one hv
        cases v <;> simp_all [Value.cells, Value.oneCell']
      exact ⟨v, h1, hv⟩
    · cases hl
end Go.Proofs.YtgelkklendpeoaaGreat.AE

namespace Go.Proofs.YtgelkklendpeoaaGreat.AE
set_option linter.unusedVariables false
set_option linter.unusedSimpArgs false
open Go
set_option linter.unusedVariables false
set_option linter.unusedSimpArgs false

theorem HR.changeF {X : ExtRep} (hX : X.OK) {S : Nat → Prop} {w w' : World} {objs objs' : List Ob} {own own' : List Own} (h : HR X S w objs own)
    (hos : w'.os = w.os) (htp : w'.tape = w.tape) (hou : w'.output = w.output)
    (hlen : own'.length = objs'.length) (hle : own.length ≤ own'.length) (hsz : w.heap.size ≤ w'.heap.size) (J : Nat → Prop)
    (same : ∀ i, i < own.length → ¬ J i → own'[i]? = own[i]? ∧ objs'[i]? = objs[i]?)
    (blk : ∀ b, b < w.heap.size → (∀ i o, J i → own[i]? = some o → b ∉ o.bs) → w'.heap[b]? = w.heap[b]?)
    (bs' : ∀ i o b, own'[i]? = some o → (J i ∨ own.length ≤ i) → b ∈ o.bs → b < w'.heap.size ∧ S b ∧ (w.heap.size ≤ b ∨ ∃ j oj, J j ∧ own[j]? = some oj ∧ b ∈ oj.bs))
    (dis' : ∀ i j oi oj b, (J i ∨ own.length ≤ i) → (J j ∨ own.length ≤ j) → own'[i]? = some oi → own'[j]? = some oj → b ∈ oi.bs → b ∈ oj.bs → i = j)
    (obj' : (∀ b, okS S w own b → okS S w' own' b ∧ w'.heap[b]? = w.heap[b]?) → ∀ i ob o, (J i ∨ own.length ≤ i) → objs'[i]? = some ob → own'[i]? = some o → OR X w' (okS S w' own') ob o) :
    HR X S w' objs' own' ∧ Frm S w own w' own' := by
  obtain ⟨h1, h2⟩ := h.change hX hlen hle hsz J same blk bs' dis' obj'
  refine ⟨h1, hos, htp, hou, hsz, h2, ?_, fun b hb hn => blk b hb fun i o _ ho => hn i o ho⟩
  intro i o b ho hb
  by_cases hc : J i ∨ own.length ≤ i
  · rcases (bs' i o b ho hc hb).2.2 with h4 | ⟨j, oj, _, h5, h6⟩
    · exact .inl h4
    · exact .inr ⟨j, oj, h5, h6⟩
  · have hJ : ¬ J i := fun x => hc (.inl x)
    have hi : i < own.length := by
      rcases Nat.lt_or_ge i own.length with x | x
      · exact x
      · exact absurd (.inr x) hc
    exact .inr ⟨i, o, by rw [← (same i hi hJ).1]; exact ho, hb⟩

theorem freezeV_step {X : ExtRep} (hX : X.OK) {S : Nat → Prop} {w : World} {objs : List Ob} {own : List Own} (h : HR X S w objs own) (av : AV) :
    ∃ own', HR X S w (freezeV objs av) own' ∧ Frm S w own w own' ∧ OwnLe own own' ∧ own'.length = own.length := by
  have triv : ∃ own', HR X S w objs own' ∧ Frm S w own w own' ∧ OwnLe own own' ∧ own'.length = own.length := ⟨own, h, Frm.refl .., OwnLe.refl _, rfl⟩
  cases av <;> try exact triv
  case ref i =>
    simp only [freezeV]
    have hself : ∀ ob, Ob.get objs i = ob → objs.set i ob = objs := by
      intro ob hob
      by_cases hl : i < objs.length
      · unfold Ob.get at hob
        rw [List.getD_eq_getElem?_getD, List.getElem?_eq_getElem hl] at hob
        simp at hob
        rw [← hob]
        simp
      · exact List.set_eq_of_length_le (by omega)
    cases hg : Ob.get objs i with
    | dead => rw [show freezeOb (Ob.dead) = .dead from rfl, hself _ hg]; exact triv
    | frz T l => rw [show freezeOb (Ob.frz T l) = .frz T l from rfl, hself _ hg]; exact triv
    | var T x => rw [show freezeOb (Ob.var T x) = .var T x from rfl, hself _ hg]; exact triv
    | vrow T x => rw [show freezeOb (Ob.vrow T x) = .vrow T x from rfl, hself _ hg]; exact triv
    | vout => rw [show freezeOb Ob.vout = .vout from rfl, hself _ hg]; exact triv
    | vst T x h => rw [show freezeOb (Ob.vst T x h) = .vst T x h from rfl, hself _ hg]; exact triv
    | row T l =>
      simp only [freezeOb]
      have hi := Ob.get_of hg (by simp)
      obtain ⟨o, ho, hor⟩ := h.at hi
      have hlo : i < own.length := (List.getElem?_eq_some_iff.1 ho).1
      have hlj : i < objs.length := (List.getElem?_eq_some_iff.1 hi).1
      have hmem : ∀ o' ∈ own.set i { o with bs := [] }, ∀ b ∈ o'.bs, b ∉ o.bs := by
        intro o' ho' b hb hb'
        obtain ⟨j, hj⟩ := List.mem_iff_getElem?.1 ho'
        by_cases hij : i = j
        · subst hij
          rw [List.getElem?_set_self hlo] at hj; cases hj; simp at hb
        · rw [List.getElem?_set_ne hij] at hj
          exact hij (h.dis i j o o' b ho hj hb' hb)
      have key := h.changeF hX (w' := w) (objs' := objs.set i (.frz T l)) (own' := own.set i { o with bs := [] }) rfl rfl rfl (by simp [h.len]) (by simp) (Nat.le_refl _) (· = i)
        (fun j hj hne => by rw [List.getElem?_set_ne (Ne.symm hne), List.getElem?_set_ne (Ne.symm hne)]; exact ⟨rfl, rfl⟩)
        (fun b _ _ => rfl)
        (fun j o' b hj hc hb => by
          have : j = i := by
            rcases hc with hc | hc
            · exact hc
            · have := (List.getElem?_eq_some_iff.1 hj).1; simp at this; omega
          subst this
          rw [List.getElem?_set_self hlo] at hj; cases hj; simp at hb)
        (fun j k oj ok b hj hk hoj hok _ _ => by
          have h1 := (List.getElem?_eq_some_iff.1 hoj).1
          have h2 := (List.getElem?_eq_some_iff.1 hok).1
          simp at h1 h2
          omega)
        (fun hok j ob o' hc hob ho' => by
          have : j = i := by
            rcases hc with hc | hc
            · exact hc
            · have := (List.getElem?_eq_some_iff.1 ho').1; simp at this; omega
          subst this
          rw [List.getElem?_set_self hlo] at ho'; cases ho'
          rw [List.getElem?_set_self hlj] at hob; cases hob
          obtain ⟨h1, h2, h3, h4⟩ := hor
          refine ⟨rfl, h1, ?_⟩
          rcases h4 with ⟨e, rfl, _⟩ | ⟨g, c, cur, e, e1, e2, e3, e4, e5, e6, e7⟩
          · exact ⟨none, 0, by simp [e], Nat.le_refl _, by simp, .inl rfl⟩
          · have hbg : g ∈ o.bs := by rw [e2]; simp
            refine ⟨_, c, by rw [e1], e4, e5, .inr ⟨g, 0, _, rfl, ⟨(h.lt j o g ho hbg).2, (h.lt j o g ho hbg).1, fun o' ho' hb => hmem o' ho' g hb hbg⟩, CellsAt.of_row e3 _, e7.1.imp (Rep.mono hX hok T)⟩⟩)
      refine ⟨_, key.1, key.2, ?_, by simp⟩
      intro j o' hj
      by_cases hij : i = j
      · subst hij; rw [ho] at hj; cases hj
        exact ⟨_, List.getElem?_set_self hlo, rfl, rfl, id⟩
      · exact ⟨o', by rw [List.getElem?_set_ne hij]; exact hj, rfl, rfl, id⟩
theorem freezeAll_step {X : ExtRep} (hX : X.OK) {S : Nat → Prop} {w : World} : ∀ (avs : List AV) {objs : List Ob} {own : List Own}, HR X S w objs own →
    ∃ own', HR X S w (freezeAll objs avs) own' ∧ Frm S w own w own' ∧ OwnLe own own' ∧ own'.length = own.length
  | [], objs, own, h => ⟨own, h, Frm.refl .., OwnLe.refl _, rfl⟩
  | av :: avs, objs, own, h => by
    obtain ⟨o1, a1, a2, a3, a4⟩ := freezeV_step hX h av
    obtain ⟨o2, b1, b2, b3, b4⟩ := freezeAll_step hX avs a1
    exact ⟨o2, b1, a2.trans b2, a3.trans b3, b4.trans a4⟩

/-- What a row of the types' table says. -/
structure TIok (P : Program) (t : TypeId) (ti : TI) : Prop where
  ex : ∃ d i, P.underlying t = some d ∧ P.info? t = some i ∧ descOK P ti.b ti.T d = true ∧ i.size = ti.T.size ∧
    ((∃ j, ti.T = .ext j) ∨ ∃ z, i.zero = some z ∧ isZero ti.T z.cells.toList = some [] ∧ (match z with | .agg _ => true | _ => false) = ti.T.isAgg)
theorem TIok.of {P : Program} {t : TypeId} {ti : TI} (h : tiOK P t ti = true) : TIok P t ti := by
  unfold tiOK at h
  split at h
  · rename_i d i hd hi
    simp only [Bool.and_eq_true, Nat.beq_eq] at h
    obtain ⟨⟨h1, h2⟩, h3⟩ := h
    refine ⟨d, i, hd, hi, h1, h2, ?_⟩
    split at h3
    · rename_i j hj; exact .inl ⟨j, hj⟩
    · split at h3
      · rename_i z hz
        simp only [Bool.and_eq_true, beq_iff_eq] at h3
        refine .inr ⟨z, hz, ?_, h3.2⟩
        have h4 := h3.1
        split at h4
        · assumption
        · cases h4
      · cases h3
  · cases h
theorem TIok.of_tys {P : Program} {tys : List (Option TI)} (h : tysOK P tys = true) {t : Nat} {ti : TI} (ht : tys.getD t none = some ti) : TIok P t ti := by
  apply TIok.of
  unfold tysOK at h
  rw [List.all_eq_true] at h
  rw [List.getD_eq_getElem?_getD] at ht
  cases hh : tys[t]? with
  | none => rw [hh] at ht; simp at ht
  | some x =>
    rw [hh] at ht; simp at ht
    subst ht
    have := h (some ti, t) (by rw [List.mem_zipIdx_iff_getElem?]; exact hh)
    simp only [tiOK1, Bool.and_eq_true] at this
    exact this.1
theorem cmp_of_tys {P : Program} {tys : List (Option TI)} (h : tysOK P tys = true) {t : Nat} {ti : TI} (ht : tys.getD t none = some ti) (hb : (Nat.beq ti.b 1 && ti.T.isAgg) = true) : cmpOK P t ti.T = true := by
  unfold tysOK at h
  rw [List.all_eq_true] at h
  rw [List.getD_eq_getElem?_getD] at ht
  cases hh : tys[t]? with
  | none => rw [hh] at ht; simp at ht
  | some x =>
    rw [hh] at ht; simp at ht
    subst ht
    have := h (some ti, t) (by rw [List.mem_zipIdx_iff_getElem?]; exact hh)
    simp only [tiOK1, Bool.and_eq_true, hb] at this
    exact this.2
theorem TIok.isAgg {P : Program} {t : TypeId} {ti : TI} (h : TIok P t ti) (w : World) : (isAgg t).run P w = .ok ti.T.isAgg w := by
  obtain ⟨d, i, h1, h2, h3, _⟩ := h.ex
  unfold Go.isAgg
  rw [Sem.run_bind, run_underlying h1 w]
  cases hT : ti.T <;> cases d <;> simp_all [descOK, Ty.isAgg]
theorem TIok.size {P : Program} {t : TypeId} {ti : TI} (h : TIok P t ti) (w : World) : (sizeOf t).run P w = .ok ti.T.size w := by
  obtain ⟨d, i, h1, h2, h3, h4, _⟩ := h.ex
  simp [sizeOf, typeInfo, h2, h4]
/-- The value that stands for cells of a type. -/
def joined (T : Ty) (cs : List Value) : Value := match T.isAgg with | true => .agg cs.toArray | false => cs.headD undef
theorem joined_cells {X : ExtRep} (hX : X.OK) {w : World} {ok : Nat → Prop} {T : Ty} {x : T.den} {cs : List Value} (h : Rep X w ok T x cs) : (joined T cs).cells.toList = cs := by
  unfold joined
  cases hT : T.isAgg with
  | true => rfl
  | false =>
    have hl := Rep.len w ok T x cs h
    have h1 := Rep.one hX T x cs h
    have : T.size = 1 := by cases T <;> simp_all [Ty.isAgg, Ty.size]
    rw [this] at hl
    match cs, hl with
    | [v], _ =>
      have := h1 v (by simp)
      cases v <;> simp_all [Value.cells, Value.oneCell']
theorem inject_VR {X : ExtRep} {w : World} {ok : Nat → Prop} {own : List Own} : ∀ {T : Ty} {x : T.den} {cs : List Value}, Rep X w ok T x cs → VR X w ok own (inject T x) (joined T cs)
  | .int k, x, cs, h => by cases h; rfl
  | .bool, x, cs, h => by cases h; rfl
  | .str, x, cs, h => by cases h; rfl
  | .unit, x, cs, h => ⟨rfl, cs, rfl, h⟩
  | .one a, x, cs, h => ⟨rfl, cs, rfl, h⟩
  | .pair a b, x, cs, h => ⟨rfl, cs, rfl, h⟩
  | .ext i, x, cs, h => by obtain ⟨v, rfl, h⟩ := h; exact h
  | .slice e, x, cs, h => by
    have h' := h
    obtain ⟨A, c, ev, _⟩ := h'
    subst ev
    exact h
theorem TIok.load {P : Program} {t : TypeId} {ti : TI} (h : TIok P t ti) {X : ExtRep} {w : World} {ok : Nat → Prop} {x : ti.T.den} {b off : Nat} {cs : List Value} (hc : CellsAt w b off cs) (hr : Rep X w ok ti.T x cs) :
    (loadVar t ⟨b, off, none⟩).run P w = .ok (joined ti.T cs) w := by
  have hl := Rep.len w ok _ _ _ hr
  have hadd : ∀ j, (⟨b, off, none⟩ : Addr).add j = ⟨b, off + j, none⟩ := by intro j; unfold Addr.add; split <;> simp_all
  unfold loadVar joined
  rw [Sem.run_bind, h.isAgg]
  simp only [Result.andThen_ok]
  cases hT : ti.T.isAgg with
  | true =>
    have := run_loadCells_list (P := P) w ⟨b, off, none⟩ cs (fun j v hv => by rw [hadd]; exact hc j v hv)
    rw [hl] at this
    simp [h.size, this]
  | false =>
    have hs : ti.T.size = 1 := by cases hh : ti.T <;> simp_all [Ty.isAgg, Ty.size]
    rw [hs] at hl
    match cs, hl with
    | [v], _ =>
      have := hc 0 v rfl
      simp at this
      simp [this]
theorem peek_rep {X : ExtRep} {w : World} {ok : Nat → Prop} : ∀ (T : Ty) (x : T.den) (off : Nat) (want : Ty) (y : want.den) (cs : List Value), peek T x off want = some y → Rep X w ok T x cs →
    ∃ pre mid post, cs = pre ++ mid ++ post ∧ pre.length = off ∧ Rep X w ok want y mid
  | .pair a b, x, off, want, y, cs, h, hr => by
    have hr' := hr
    obtain ⟨v1, v2, rfl, r1, r2⟩ := hr'
    have l1 := Rep.len w ok a _ _ r1
    have rec' : (match Nat.blt off a.size with | true => peek a x.1 off want | false => peek b x.2 (off - a.size) want) = some y →
        ∃ pre mid post, v1 ++ v2 = pre ++ mid ++ post ∧ pre.length = off ∧ Rep X w ok want y mid := by
      intro h
      split at h
      · obtain ⟨p, m, q, rfl, e2, e3⟩ := peek_rep a _ _ _ _ _ h r1
        exact ⟨p, m, q ++ v2, by simp, e2, e3⟩
      · rename_i hb
        have hge : a.size ≤ off := by
          rcases Nat.lt_or_ge off a.size with h1 | h1
          · rw [show Nat.blt off a.size = true by simpa using h1] at hb; cases hb
          · exact h1
        obtain ⟨p, m, q, rfl, e2, e3⟩ := peek_rep b _ _ _ _ _ h r2
        exact ⟨v1 ++ p, m, q, by simp, by simp [l1, e2]; omega, e3⟩
    unfold peek at h
    split at h
    · rename_i h0
      simp at h0
      split at h
      · rename_i y' hc
        cases h
        obtain ⟨e1, e2⟩ := castTo_some hc
        subst e1; cases e2
        exact ⟨[], _, [], by simp, by simp [h0], hr⟩
      · exact rec' h
    · exact rec' h
  | .one a, x, off, want, y, cs, h, hr => by
    unfold peek at h
    split at h
    · rename_i h0
      simp at h0
      split at h
      · rename_i y' hc
        cases h
        obtain ⟨e1, e2⟩ := castTo_some hc
        subst e1; cases e2
        exact ⟨[], _, [], by simp, by simp [h0], hr⟩
      · exact peek_rep a x off want y cs h hr
    · exact peek_rep a x off want y cs h hr
  | .int _, x, off, want, y, cs, h, hr | .bool, x, off, want, y, cs, h, hr | .str, x, off, want, y, cs, h, hr | .unit, x, off, want, y, cs, h, hr | .slice _, x, off, want, y, cs, h, hr | .ext _, x, off, want, y, cs, h, hr => by
    unfold peek at h
    split at h
    · rename_i h0
      simp at h0
      obtain ⟨e1, e2⟩ := castTo_some h
      subst e1; cases e2
      exact ⟨[], _, [], by simp, by simp [h0], hr⟩
    · cases h
end Go.Proofs.YtgelkklendpeoaaGreat.AE

namespace Go.Proofs.YtgelkklendpeoaaGreat.AE
set_option linter.unusedVariables false
set_option linter.unusedSimpArgs false
open Go
set_option linter.unusedVariables false
set_option linter.unusedSimpArgs false

theorem parseC_rep {X : ExtRep} (w : World) (ok : Nat → Prop) {T : Ty} {v : Value} {x : T.den} (h : parseC T v = some x) : Rep X w ok T x [v] := by
  cases T <;> cases v <;> simp only [parseC, reduceCtorEq] at h
  case int.int k k' n =>
    split at h
    · rename_i hd; simp at hd; cases h; subst hd; rfl
    · cases h
  case bool.bool b => cases h; rfl
  case str.string s => cases h; rfl
  case slice.slice e a n c =>
    cases a with
    | some a => simp [parseC] at h
    | none =>
      simp only [parseC] at h
      split at h
      · rename_i hd; simp at hd; obtain ⟨rfl, rfl⟩ := hd; cases h; exact ⟨none, 0, rfl, Nat.le_refl _, by simp, .inl rfl⟩
      · cases h
theorem parse1_rep {X : ExtRep} (w : World) (ok : Nat → Prop) {T : Ty} {cs r : List Value} {x : T.den} (h : parse1 T cs = some (x, r)) : ∃ v1, cs = v1 ++ r ∧ Rep X w ok T x v1 := by
  cases cs with
  | nil => simp [parse1] at h
  | cons v cs =>
    simp only [parse1] at h
    split at h
    · rename_i hz; cases h; exact ⟨[v], rfl, parseC_rep w ok hz⟩
    · cases h
theorem parseV_rep {X : ExtRep} (w : World) (ok : Nat → Prop) : ∀ (T : Ty) (cs r : List Value) (x : T.den), parseV T cs = some (x, r) → ∃ v1, cs = v1 ++ r ∧ Rep X w ok T x v1
  | .unit, cs, r, x, h => by
    unfold parseV at h
    cases h; exact ⟨[], rfl, rfl⟩
  | .one a, cs, r, x, h => by
    simp only [parseV] at h
    exact parseV_rep w ok a cs r x h
  | .pair a b, cs, r, x, h => by
    simp only [parseV] at h
    split at h
    · rename_i x1 r1 h1
      split at h
      · rename_i x2 r2 h2
        cases h
        obtain ⟨v1, e1, p1⟩ := parseV_rep (X := X) w ok a _ _ _ h1
        obtain ⟨v2, e2, p2⟩ := parseV_rep (X := X) w ok b _ _ _ h2
        exact ⟨v1 ++ v2, by rw [e1, e2, List.append_assoc], v1, v2, rfl, p1, p2⟩
      · cases h
    · cases h
  | .int k, cs, r, x, h | .bool, cs, r, x, h | .str, cs, r, x, h | .slice _, cs, r, x, h | .ext _, cs, r, x, h => parse1_rep w ok (by rw [← h, parseV])
end Go.Proofs.YtgelkklendpeoaaGreat.AE

namespace Go.Proofs.YtgelkklendpeoaaGreat.AE
set_option linter.unusedVariables false
set_option linter.unusedSimpArgs false
open Go
set_option linter.unusedVariables false
set_option linter.unusedSimpArgs false

section
variable {X : ExtRep} {S : Nat → Prop} {P : Program} {E : Env} {w : World} {own : List Own} {st : St} {a : Act}
theorem opdT_VR (hE : tysOK P E.tys = true) (ht : TR X w (okS S w own) own st.tmps a.tmps) (t : TypeId) (x : Operand) : VR X w (okS S w own) own (opdT E t st x) (a.eval x) := by
  unfold opdT
  split
  · rename_i cs
    split
    · rename_i ti hti
      split
      · rename_i x hx
        split
        · rename_i hagg
          obtain ⟨v1, e, hr⟩ := parseV_rep (X := X) w (okS S w own) _ _ _ _ hx
          rw [List.append_nil] at e
          exact ⟨hagg, v1, by simp [Act.eval, ← e], hr⟩
        · trivial
      · trivial
    · trivial
  · exact opd_VR ht x
theorem mid_get {pre mid post : List Value} {j : Nat} {u : Value} (hu : mid[j]? = some u) : (pre ++ mid ++ post)[pre.length + j]? = some u := by
  rw [List.append_assoc, List.getElem?_append_right (by omega), Nat.add_sub_cancel_left, List.getElem?_append_left (List.getElem?_eq_some_iff.1 hu).1]
  exact hu
theorem loadA_rep (hr : HR X S w st.objs own) {av : AV} {v : Value} {T : Ty} {x : T.den} (h : loadA st.objs av T = some x) (hv : VR X w (okS S w own) own av v) :
    ∃ b off cs, v = .pointer (some ⟨b, off, none⟩) ∧ CellsAt w b off cs ∧ Rep X w (okS S w own) T x cs := by
  unfold loadA at h
  split at h
  · rename_i T' x'
    obtain ⟨e1, e2⟩ := castTo_some h
    subst e1; cases e2
    obtain ⟨b, off, cs, e, _, hc, hrr⟩ := hv
    exact ⟨b, off, cs, e, hc, hrr⟩
  · rename_i i off
    split at h
    · rename_i T' x' hg
      obtain ⟨o, ho, hor⟩ := hr.at (Ob.get_of hg (by simp))
      obtain ⟨_, g, cs, e, e1, e2, e3, e4⟩ := hor
      obtain ⟨o', g', ho', e5, e6⟩ := hv
      rw [ho] at ho'; cases ho'
      rw [e1] at e5; cases e5
      obtain ⟨pre, mid, post, rfl, hp, hm⟩ := peek_rep _ _ _ _ _ _ h e4
      refine ⟨g, off, mid, e6, ?_, hm⟩
      intro j u hu
      rw [cell_of_row w g _ _ e _ e3]
      subst hp
      rw [List.getElem?_toArray]
      exact mid_get hu
    · cases h
  · rename_i i ix off
    split at h
    · rename_i T' l hg
      obtain ⟨o, ho, hor⟩ := hr.at (Ob.get_of hg (by simp))
      obtain ⟨o', ho', hv'⟩ := hv
      rw [ho] at ho'; cases ho'
      obtain ⟨h1, h2, h3, h4⟩ := hor
      obtain ⟨g, n, c, e1, hi0, hin, ev⟩ := hv' h1
      rcases h4 with ⟨e, _, _⟩ | ⟨g', c', cur, e, f1, f2, f3, f4, f5, f6, f7⟩
      · rw [e] at e1; cases e1
      · rw [f1] at e1; cases e1
        have hlt : ix.toNat < l.length := by omega
        have hget := RepL.get (fun x vs => Rep.len w (okS S w own) T' x vs) T'.zero ix.toNat f7.1 hlt
        obtain ⟨pre, mid, post, hcs, hp, hm⟩ := peek_rep _ _ _ _ _ _ h hget
        refine ⟨g, _, mid, ev, ?_, hm⟩
        intro j u hu
        rw [cell_of_row w g _ _ _ _ f3, h2]
        have hj : j < mid.length := (List.getElem?_eq_some_iff.1 hu).1
        have hall : ((pre ++ mid ++ post)[off + j]? : Option Value) = some u := by
          subst hp
          exact mid_get hu
        rw [← hcs, List.getElem?_take] at hall
        split at hall
        · rw [List.getElem?_drop, List.getElem?_take] at hall
          split at hall
          · rw [Nat.add_assoc]; simpa using hall
          · cases hall
        · cases hall
    · cases h
  · cases h

def SV (X : ExtRep) (P : Program) (S : Nat → Prop) (w : World) (own : List Own) (o : Oper) (a : Act) (av : AV) : Prop :=
  ∃ v, (execOp a.eval o).run P w = .ok (.value v) w ∧ VR X w (okS S w own) own av v
theorem SV.of {o : Oper} {av : AV} {v : Value} {s : Sem Value} (he : execOp a.eval o = (do pure (.value (← s)))) (hs : s.run P w = .ok v w) (hv : VR X w (okS S w own) own av v) : SV X P S w own o a av :=
  ⟨v, by rw [he, Sem.run_bind, hs]; rfl, hv⟩
variable {R : Type} {k : AV → Option R} {r : R} {o : Oper}
theorem sv_load (hE : tysOK P E.tys = true) (hr : HR X S w st.objs own) (ht : TR X w (okS S w own) own st.tmps a.tmps) {t : TypeId} {x : Operand} (ho : o.op = .load t x)
    (h : opS E o st k = some r) : ∃ av, k av = some r ∧ SV X P S w own o a av := by
  simp only [opS, ho] at h
  split at h
  · rename_i ti hti
    split at h
    · rename_i y hy
      obtain ⟨b, off, cs, e, hc, hrr⟩ := loadA_rep hr hy (opd_VR ht x)
      have hT := TIok.of_tys hE hti
      refine ⟨_, h, SV.of (s := Instr.loadAt t (a.eval x)) (by simp only [execOp, ho]) ?_ (inject_VR hrr)⟩
      rw [e]
      simp only [Instr.loadAt, Instr.sureAddr, Sem.run_bind, Sem.run_pure, Result.andThen_ok]
      exact hT.load hc hrr
    · cases h
  · cases h
theorem run_eqGuard_int (op : BinOp) (t : TypeId) (x y : Operand) (u v : Value) (hu : u.oneCell' = true) (hn : u ≠ .nilIface) : (eqGuard op t x y u v).run P w = .ok () w := by
  unfold eqGuard
  cases op <;> cases u <;> simp_all [Value.oneCell'] <;> rfl
def toV : AV → Value
  | .int k n => .int k n | .bool b => .bool b | .str s => .string s | _ => undef
theorem bin_fin {op : BinOp} {t : TypeId} {u v : Value} {av : AV} (h : k av = some r) (h1 : (binOp op t u v).run P w = .ok (toV av) w) (h2 : VR X w (okS S w own) own av (toV av)) (h3 : u.oneCell' = true) (h4 : u ≠ .nilIface) :
    ∃ av z, k av = some r ∧ (binOp op t u v).run P w = .ok z w ∧ VR X w (okS S w own) own av z ∧ u.oneCell' = true ∧ u ≠ .nilIface := ⟨_, _, h, h1, h2, h3, h4⟩
theorem abin_sound {op : BinOp} {x y : AV} {u v : Value} (hx : VR X w (okS S w own) own x u) (hy : VR X w (okS S w own) own y v) (h : abin op x y k = some r) (t : TypeId) :
    ∃ av z, k av = some r ∧ (binOp op t u v).run P w = .ok z w ∧ VR X w (okS S w own) own av z ∧ u.oneCell' = true ∧ u ≠ .nilIface := by
  unfold abin at h
  split at h
  · cases hx; cases hy
    split at h
    · cases h
    · rename_i hlt
      exact bin_fin h (by simp [toV, binOp, Op.shift, hlt]) rfl rfl (by simp)
  · cases hx; cases hy
    split at h
    · cases h
    · rename_i hlt
      exact bin_fin h (by simp [toV, binOp, Op.shift, hlt]) rfl rfl (by simp)
  · rename_i op kd x kd' y _ _
    cases hx; cases hy
    split at h
    · cases h
    · rename_i hk
      simp at hk; subst hk
      split at h
      case h_4 => split at h; (· cases h); rename_i hz; exact bin_fin h (by simp [toV, binOp, Op.intDiv, hz]) rfl rfl (by simp)
      case h_5 => split at h; (· cases h); rename_i hz; exact bin_fin h (by simp [toV, binOp, Op.intDiv, hz]) rfl rfl (by simp)
      case h_10 => exact bin_fin h (by simp [toV, binOp, Op.intCmp]; exact Bool.eq_iff_iff.2 (by simp)) rfl rfl (by simp)
      case h_11 => exact bin_fin h (by simp [toV, binOp, Op.intCmp]; exact Bool.eq_iff_iff.2 (by simp)) rfl rfl (by simp)
      all_goals first
        | (cases h; done)
        | exact bin_fin h (by simp [toV, binOp, Op.intArith, Op.intBits, Op.intCmp, bitop]) rfl rfl (by simp)
  · cases hx; cases hy
    split at h
    case h_1 =>
      split at h
      · rename_i hs
        refine bin_fin h ?_ rfl rfl (by simp)
        simp only [toV, binOp, Op.stringOp, IntKind.max, IntKind.signed, IntKind.bits]
        rw [if_neg (by simp; omega)]
        rfl
      · cases h
    all_goals first
      | (cases h; done)
      | exact bin_fin h (by simp [toV, binOp, Op.stringOp, ByteArray.toList_eq, strEq, strLt]) rfl rfl (by simp)
  · cases h
theorem aeq_sound (hX : X.OK) {T : Ty} {x y : AV} {u v : Value} {kb : Bool → Option R} {t : TypeId} {ti : TI} (hT : TIok P t ti) (eT : ti.T = T) (hr : HR X S w st.objs own)
    (hx : VR X w (okS S w own) own x u) (hy : VR X w (okS S w own) own y v) (h : aeq T st.objs x y kb = some r) :
    ∃ b, kb b = some r ∧ (binOp .eql t u v).run P w = .ok (.bool b) w ∧ (binOp .neq t u v).run P w = .ok (.bool (!b)) w ∧ (∀ (op : BinOp) (a b : Operand), (eqGuard op t a b u v).run P w = .ok () w) := by
  have grd : ∀ {u v : Value}, u.oneCell' = true → u ≠ .nilIface → ∀ (op : BinOp) (a b : Operand), (eqGuard op t a b u v).run P w = .ok () w := fun h1 h2 op a b => run_eqGuard_int op t a b _ _ h1 h2
  obtain ⟨d, i, h1, h2, h3, _⟩ := hT.ex
  rw [eT] at h3
  have slc : ∀ e, T = .slice e → ∃ te, d = .slice te := by
    intro e he; subst he
    cases d <;> simp_all [descOK]
  have key : ∀ (l : List Nat) (A : Option Addr) (n c : Nat), 0 < n → (n = 0 ∨ A.isSome) → A.isNone = false := by
    intro l A n c hn hA
    rcases hA with hA | hA
    · omega
    · cases A <;> simp_all
  have row : ∀ (e : Ty) (l : List e.den), RowAt X w (okS S w own) e l u → 0 < l.length → ∃ ad n c, u = .slice (some ad) n c := by
    intro e l ⟨A, c, ev, _, _, h4⟩ hl
    rcases h4 with rfl | ⟨b, off, cs, rfl, _⟩
    · simp at hl
    · exact ⟨_, _, _, ev⟩
  have fin : ∀ (e : Ty), T = .slice e → (∃ ad n c, u = .slice (some ad) n c) → v = .slice none 0 0 → kb false = some r →
      ∃ b, kb b = some r ∧ (binOp .eql t u v).run P w = .ok (.bool b) w ∧ (binOp .neq t u v).run P w = .ok (.bool (!b)) w ∧ (∀ (op : BinOp) (a b : Operand), (eqGuard op t a b u v).run P w = .ok () w) := by
    intro e he ⟨ad, n, c, eu⟩ ev hk
    obtain ⟨te, rfl⟩ := slc e he
    subst eu ev
    exact ⟨false, hk, Lib.run_eql_slice_nil w t te (some ad) n c 0 0 h1, run_neq_slice_nil_any w t te (some ad) n c 0 0 h1, grd rfl (by simp)⟩
  unfold aeq at h
  split at h
  · cases hx; cases hy
    have : d = .bool := by cases d <;> simp_all [descOK]
    subst this
    exact ⟨_, h, run_eql_bool w t _ _ h1, run_neq_bool w t _ _ h1, grd rfl (by simp)⟩
  · cases hx; cases hy
    obtain ⟨te, rfl⟩ := slc _ rfl
    exact ⟨true, h, Lib.run_eql_slice_nil w t te none 0 0 0 0 h1, run_neq_slice_nil_any w t te none 0 0 0 0 h1, grd rfl (by simp)⟩
  · obtain ⟨ad, rfl⟩ := hX.nn hx
    cases hy
    have he : ∃ e, d = .pointer e := by cases d <;> simp_all [descOK]
    obtain ⟨e, rfl⟩ := he
    have hp : P.underlying t = some (.pointer (P.pointee t)) := by rw [h1]; simp [Program.pointee, h1]
    exact ⟨false, h, run_eql_pointer_nil w t (some ad) hp, run_neq_pointer_nil w t (some ad) hp, grd rfl (by simp)⟩
  · split at h
    · rename_i hl
      exact fin _ rfl (row _ _ (RowAt.of_rep hx) hl) hy h
    · cases h
  · rename_i e i
    split at h
    · rename_i e' l hg
      split at h
      · rename_i hl
        obtain ⟨o, ho, hor⟩ := hr.at (Ob.get_of hg (by simp))
        obtain ⟨o', ho', hv'⟩ := hx
        rw [ho] at ho'; cases ho'
        have hu := hv' hor.1
        exact fin _ rfl (row _ _ (hu ▸ RowAt.of_row hor) hl) hy h
      · cases h
    · rename_i e' l hg
      split at h
      · rename_i hl
        obtain ⟨o, ho, hor⟩ := hr.at (Ob.get_of hg (by simp))
        obtain ⟨o', ho', hv'⟩ := hx
        rw [ho] at ho'; cases ho'
        have hu := hv' hor.2.1
        exact fin _ rfl (row _ _ (hu ▸ RowAt.of_rep hor.2.2) hl) hy h
      · cases h
    · cases h
  · cases h
theorem eqFields_last {d : Nat} {xs ys : Array Value} {f : Field} {a b : Value} {c : Bool} (hn : (f.name != "_") = true) (ha : (part f.type xs f.offset).run P w = .ok a w) (hb : (part f.type ys f.offset).run P w = .ok b w) (he : (Op.equalIn d f.type a b).run P w = .ok c w) :
    (Op.eqFields d xs ys [f]).run P w = .ok c w := by
  have hn' : f.name ≠ "_" := by simpa using hn
  simp only [Op.eqFields, if_pos hn', Sem.run_bind, ha, hb, he, Result.andThen_ok]
  cases c <;> simp
theorem eqFields_more {d : Nat} {xs ys : Array Value} {f : Field} {fs : List Field} {a b : Value} {c s : Bool} (hn : (f.name != "_") = true) (ha : (part f.type xs f.offset).run P w = .ok a w) (hb : (part f.type ys f.offset).run P w = .ok b w) (he : (Op.equalIn d f.type a b).run P w = .ok c w)
    (hr : (Op.eqFields d xs ys fs).run P w = .ok s w) : (Op.eqFields d xs ys (f :: fs)).run P w = .ok (c && s) w := by
  have hn' : f.name ≠ "_" := by simpa using hn
  rw [Op.eqFields]
  simp only [if_pos hn', Sem.run_bind, ha, hb, he, Result.andThen_ok]
  cases c
  · simp
  · simpa using hr
/-- One field. -/
theorem scalar_eq {ok : Nat → Prop} {d : Nat} {a : Ty} {t : TypeId} (hs : scalarOK P a t = true) {x y : a.den} {c : Bool} (hc : eqFlat a x y = some c) {v1 v2 : List Value} (r1 : Rep X w ok a x v1) (r2 : Rep X w ok a y v2) {cs1 cs2 : List Value} {off : Nat} {t1 t2 : List Value} (e1 : cs1.drop off = v1 ++ t1) (e2 : cs2.drop off = v2 ++ t2) :
    ∃ u1 u2, v1 = [u1] ∧ v2 = [u2] ∧ (part t cs1.toArray off).run P w = .ok u1 w ∧ (part t cs2.toArray off).run P w = .ok u2 w ∧ (Op.equalIn (d + 1) t u1 u2).run P w = .ok c w := by
  have prt : ∀ (ds : TypeDesc) (cs : List Value) (u : Value) (tl : List Value), P.underlying t = some ds → isAggD ds = false → cs.drop off = [u] ++ tl → (part t cs.toArray off).run P w = .ok u w := by
    intro ds cs u tl hu hds he
    have h0 : cs[off]? = some u := by
      have : (cs.drop off)[0]? = some u := by rw [he]; rfl
      simpa using this
    have hagg : (isAgg t).run P w = .ok false w := by
      unfold Go.isAgg
      rw [Sem.run_bind, run_underlying hu w]
      cases ds <;> simp_all [isAggD]
    unfold part
    rw [Sem.run_bind, hagg]
    simp [h0]
  cases a with
  | int k =>
    simp only [scalarOK] at hs
    split at hs
    · rename_i k' hu
      have r1' : v1 = [Value.int k x] := r1
      have r2' : v2 = [Value.int k y] := r2
      subst r1' r2'
      cases hc
      refine ⟨_, _, rfl, rfl, prt _ _ _ _ hu rfl e1, prt _ _ _ _ hu rfl e2, ?_⟩
      rw [run_equalIn_int w d t k k' x y hu]
      rfl
    · cases hs
  | bool =>
    simp only [scalarOK] at hs
    split at hs
    · rename_i hu
      have r1' : v1 = [Value.bool x] := r1
      have r2' : v2 = [Value.bool y] := r2
      subst r1' r2'
      cases hc
      exact ⟨_, _, rfl, rfl, prt _ _ _ _ hu rfl e1, prt _ _ _ _ hu rfl e2, run_equalIn_bool' w d t x y hu⟩
    · cases hs
  | str =>
    simp only [scalarOK] at hs
    split at hs
    · rename_i hu
      have r1' : v1 = [Value.string x] := r1
      have r2' : v2 = [Value.string y] := r2
      subst r1' r2'
      cases hc
      refine ⟨_, _, rfl, rfl, prt _ _ _ _ hu rfl e1, prt _ _ _ _ hu rfl e2, ?_⟩
      have key : ∀ p q : ByteArray, (p.toList == q.toList) = strEq p q := fun p q => by rw [ByteArray.toList_eq, ByteArray.toList_eq]; rfl
      exact (run_equalIn_string w d t x y hu).trans (congrArg (fun b => Result.ok b w) (key x y))
    · cases hs
  | _ => simp [scalarOK] at hs
theorem fields_eq {ok : Nat → Prop} {d : Nat} {cs1 cs2 : List Value} : ∀ (T : Ty) (off : Nat) (fs : List Field) (x y : T.den) (c : Bool), cmpFields P T off fs = true → eqFlat T x y = some c → Rep X w ok T x (cs1.drop off) → Rep X w ok T y (cs2.drop off) →
    (Op.eqFields (d + 1) cs1.toArray cs2.toArray fs).run P w = .ok c w
  | .one a, off, [f], x, y, c, hf, hc, r1, r2 => by
    simp only [cmpFields, Bool.and_eq_true, Nat.beq_eq] at hf
    obtain ⟨hn, rfl, hs⟩ := hf
    obtain ⟨u1, u2, _, _, p1, p2, p3⟩ := scalar_eq (a := a) (d := d) hs hc (v1 := cs1.drop f.offset) (v2 := cs2.drop f.offset) r1 r2 (t1 := []) (t2 := []) (List.append_nil _).symm (List.append_nil _).symm
    exact eqFields_last hn p1 p2 p3
  | .pair a b, off, f :: fs, x, y, c, hf, hc, r1, r2 => by
    simp only [cmpFields, Bool.and_eq_true, Nat.beq_eq] at hf
    obtain ⟨hn, rfl, hs, hr⟩ := hf
    simp only [eqFlat] at hc
    split at hc
    · rename_i p q hp hq
      cases hc
      obtain ⟨v1, v2, e1, q1, q2⟩ := r1
      obtain ⟨v3, v4, e2, q3, q4⟩ := r2
      obtain ⟨u1, u2, rfl, rfl, p1, p2, p3⟩ := scalar_eq (d := d) hs hp q1 q3 e1 e2
      refine eqFields_more hn p1 p2 p3 (fields_eq (ok := ok) b (f.offset + 1) fs x.2 y.2 q hr hq ?_ ?_)
      · rw [← List.drop_drop, e1]; exact q2
      · rw [← List.drop_drop, e2]; exact q4
    · cases hc
  | .one _, _, [], _, _, _, hf, _, _, _ | .one _, _, _ :: _ :: _, _, _, _, hf, _, _, _ | .pair _ _, _, [], _, _, _, hf, _, _, _ => by simp [cmpFields] at hf
  | .int _, _, _, _, _, _, hf, _, _, _ | .bool, _, _, _, _, _, hf, _, _, _ | .str, _, _, _, _, _, hf, _, _, _ | .unit, _, _, _, _, _, hf, _, _, _ | .slice _, _, _, _, _, _, hf, _, _, _ | .ext _, _, _, _, _, _, hf, _, _, _ => by simp [cmpFields] at hf
theorem aggeq_sound {T : Ty} {x y : AV} {u v : Value} {kb : Bool → Option R} {t : TypeId} (hT : cmpOK P t T = true)
    (hx : VR X w (okS S w own) own x u) (hy : VR X w (okS S w own) own y v) (h : aggeq T x y kb = some r) :
    ∃ b, kb b = some r ∧ (binOp .eql t u v).run P w = .ok (.bool b) w ∧ (binOp .neq t u v).run P w = .ok (.bool (!b)) w ∧ (∀ (op : BinOp) (a b : Operand), (eqGuard op t a b u v).run P w = .ok () w) := by
  unfold aggeq at h
  split at h
  · rename_i T1 x1 T2 y1
    split at h
    · rename_i x' y' c1 c2
      split at h
      · rename_i c hc
        obtain ⟨e1, e1'⟩ := castTo_some c1
        obtain ⟨e2, e2'⟩ := castTo_some c2
        subst e1 e2
        simp only at e1' e2'
        subst e1' e2'
        obtain ⟨_, cs1, rfl, r1⟩ := hx
        obtain ⟨_, cs2, rfl, r2⟩ := hy
        simp only [cmpOK, Bool.and_eq_true, Bool.not_eq_true'] at hT
        obtain ⟨k1, k2, k3⟩ := hT
        split at k3
        · rename_i fs hu
          have hf : P.fieldsOf t = fs := by simp [Program.fieldsOf, hu]
          have key : (Op.equalIn 10000 t (.agg cs1.toArray) (.agg cs2.toArray)).run P w = .ok c w := by
            rw [run_equalIn_agg (P := P) w 9999 t _ _ (by rw [hf]; exact hu) k1, hf]
            exact fields_eq (d := 9998) _ 0 fs.toList _ _ c k3 hc (by simpa using r1) (by simpa using r2)
          refine ⟨c, h, ?_, ?_, fun op a b => run_eqGuard_agg w op t a b _ _ k2⟩
          · rw [run_eql_struct, key]; rfl
          · rw [run_neq_struct, key]; rfl
        · cases k3
      · cases h
    · cases h
  · cases h
theorem anyeq_sound (hX : X.OK) {E : Env} (hE : tysOK P E.tys = true) {x y : AV} {u v : Value} {kb : Bool → Option R} {t : TypeId} {ti : TI} (hti : E.ti t = some ti) (hr : HR X S w st.objs own)
    (hx : VR X w (okS S w own) own x u) (hy : VR X w (okS S w own) own y v) (h : anyeq ti st.objs x y kb = some r) :
    ∃ b, kb b = some r ∧ (binOp .eql t u v).run P w = .ok (.bool b) w ∧ (binOp .neq t u v).run P w = .ok (.bool (!b)) w ∧ (∀ (op : BinOp) (a b : Operand), (eqGuard op t a b u v).run P w = .ok () w) := by
  unfold anyeq at h
  split at h
  · rename_i hb
    exact aggeq_sound (cmp_of_tys hE hti hb) hx hy h
  · exact aeq_sound hX (TIok.of_tys hE hti) rfl hr hx hy h
end
end Go.Proofs.YtgelkklendpeoaaGreat.AE

namespace Go.Proofs.YtgelkklendpeoaaGreat.AE
set_option linter.unusedVariables false
set_option linter.unusedSimpArgs false
open Go
set_option linter.unusedVariables false
set_option linter.unusedSimpArgs false

section
variable {X : ExtRep} {S : Nat → Prop} {P : Program} {E : Env} {w : World} {own : List Own} {st : St} {a : Act} {R : Type} {k : AV → Option R} {r : R} {o : Oper}
abbrev SVk (X : ExtRep) (P : Program) (S : Nat → Prop) (w : World) (own : List Own) (o : Oper) (a : Act) (k : AV → Option R) (r : R) : Prop := ∃ av, k av = some r ∧ SV X P S w own o a av
theorem svk {av : AV} {v : Value} {s : Sem Value} (h : k av = some r) (he : execOp a.eval o = (do pure (.value (← s)))) (hs : s.run P w = .ok v w) (hv : VR X w (okS S w own) own av v) : SVk X P S w own o a k r :=
  ⟨av, h, SV.of he hs hv⟩
theorem svkT {av : AV} {s : Sem Value} (h : k av = some r) (he : execOp a.eval o = (do pure (.value (← s)))) (hs : s.run P w = .ok (toV av) w) (hv : VR X w (okS S w own) own av (toV av)) : SVk X P S w own o a k r :=
  ⟨av, h, SV.of he hs hv⟩
theorem sv_binOp (hX : X.OK) (hE : tysOK P E.tys = true) (hr : HR X S w st.objs own) (ht : TR X w (okS S w own) own st.tmps a.tmps) {op : BinOp} {t : TypeId} {x y : Operand} {yt : TypeId} (ho : o.op = .binOp op t x y yt)
    (h : opS E o st k = some r) : SVk X P S w own o a k r := by
  have hx := opd_VR ht x
  have hy := opd_VR ht y
  have he : execOp a.eval o = (do pure (.value (← (do eqGuard op t x y (a.eval x) (a.eval y); binOp op t (a.eval x) (a.eval y))))) := by simp only [execOp, ho]
  have fin : (∃ av z, k av = some r ∧ (binOp op t (a.eval x) (a.eval y)).run P w = .ok z w ∧ VR X w (okS S w own) own av z ∧ (∀ (op : BinOp) (p q : Operand), (eqGuard op t p q (a.eval x) (a.eval y)).run P w = .ok () w)) → SVk X P S w own o a k r := by
    intro ⟨av, z, h1, h2, h3, h4⟩
    refine ⟨av, h1, SV.of he ?_ h3⟩
    rw [Sem.run_bind, h4 op x y]
    exact h2
  have finA : (∃ av z, k av = some r ∧ (binOp op t (a.eval x) (a.eval y)).run P w = .ok z w ∧ VR X w (okS S w own) own av z ∧ (a.eval x).oneCell' = true ∧ a.eval x ≠ .nilIface) → SVk X P S w own o a k r :=
    fun ⟨av, z, h1, h2, h3, h4, h5⟩ => fin ⟨av, z, h1, h2, h3, fun op p q => run_eqGuard_int op t p q _ _ h4 h5⟩
  simp only [opS, ho] at h
  split at h
  · split at h
    · rename_i h1; rw [h1] at hx; exact finA (abin_sound hx hy h t)
    · rename_i h1; rw [h1] at hx; exact finA (abin_sound hx hy h t)
    · split at h
      · rename_i ti hti
        obtain ⟨b, h1, h2, h3, h4⟩ := anyeq_sound hX hE hti hr hx hy h
        exact fin ⟨_, _, h1, h2, rfl, h4⟩
      · cases h
  · split at h
    · rename_i h1; rw [h1] at hx; exact finA (abin_sound hx hy h t)
    · rename_i h1; rw [h1] at hx; exact finA (abin_sound hx hy h t)
    · split at h
      · rename_i ti hti
        obtain ⟨b, h1, h2, h3, h4⟩ := anyeq_sound hX hE hti hr hx hy h
        exact fin ⟨_, _, h1, h3, rfl, h4⟩
      · cases h
  · exact finA (abin_sound hx hy h t)
theorem sv_unOp (ht : TR X w (okS S w own) own st.tmps a.tmps) {op : UnOp} {t : TypeId} {x : Operand} (ho : o.op = .unOp op t x)
    (h : opS E o st k = some r) : SVk X P S w own o a k r := by
  have hx := opd_VR ht x
  have he : execOp a.eval o = (do pure (.value (← Op.unary op (a.eval x)))) := by simp only [execOp, ho]
  simp only [opS, ho] at h
  split at h
  · rename_i h1; rw [h1] at hx; simp only [VR] at hx; exact svkT h he (by rw [hx]; simp [Op.unary, Op.intArith, toV]) rfl
  · rename_i h1; rw [h1] at hx; simp only [VR] at hx; exact svkT h he (by rw [hx]; simp [Op.unary, Op.intBits, toV, bitop]) rfl
  · rename_i h1; rw [h1] at hx; simp only [VR] at hx; exact svkT h he (by rw [hx]; simp [Op.unary, toV]) rfl
  · cases h
theorem foldl_push (l : List Int) : ∀ s : ByteArray, l.foldl (fun r n => r.push (UInt8.ofNat n.toNat)) s = ⟨s.data ++ (l.map fun n => UInt8.ofNat n.toNat).toArray⟩ := by
  induction l with
  | nil => intro s; simp
  | cons n l ih => intro s; rw [List.foldl_cons, ih]; simp [ByteArray.push]
theorem repL_bytes {ok : Nat → Prop} : ∀ {l : List Int} {cs : List Value}, RepL (Rep X w ok (.int .u8)) l cs → cs = l.map (Value.int .u8)
  | [], cs, h => h
  | n :: l, cs, ⟨v1, v2, e, h1, h2⟩ => by
    have h1' : v1 = [Value.int .u8 n] := h1
    rw [e, h1', repL_bytes h2]; rfl
theorem add_lit0 (b off j : Nat) : (⟨b, off, none⟩ : Addr).add j = ⟨b, off + j, none⟩ := by unfold Addr.add; split <;> simp_all
theorem run_bytesStr {l : List Int} {v : Value} (h : RowAt X w (okS S w own) (.int .u8) l v) : (Conv.bytesToString v).run P w = .ok (.string (bytesStr l)) w := by
  obtain ⟨A, c, rfl, _, _, h4⟩ := h
  cases A with
  | none =>
    have : l = [] := by
      rcases h4 with h4 | ⟨b, off, cs, e, _⟩
      · exact h4
      · cases e
    subst this
    rfl
  | some ad =>
    have key : (loadCells ad l.length).run P w = .ok (l.map (Value.int .u8)).toArray w := by
      rcases h4 with rfl | ⟨b, off, cs, e, _, hc, hr⟩
      · rfl
      · cases e
        have hcs := repL_bytes hr
        have := run_loadCells_list (P := P) w ⟨b, off, none⟩ cs (fun j v hv => by rw [add_lit0]; exact hc j v hv)
        rw [hcs, List.length_map] at this
        exact this
    refine (run_bytesToString w ad _ c l key).trans ?_
    rw [foldl_push]
    simp [bytesStr]
theorem sv_convert (hE : tysOK P E.tys = true) (hr : HR X S w st.objs own) (ht : TR X w (okS S w own) own st.tmps a.tmps) {s d : TypeId} {x : Operand} (ho : o.op = .convert s d x)
    (h : opS E o st k = some r) : SVk X P S w own o a k r := by
  have hx := opd_VR ht x
  have he : execOp a.eval o = (do pure (.value (← convert s d (a.eval x)))) := by simp only [execOp, ho]
  simp only [opS, ho] at h
  split at h
  · rename_i ts td hs hd
    obtain ⟨d1, i1, a1, a2, a3, _⟩ := (TIok.of_tys hE hs).ex
    obtain ⟨d2, i2, b1, b2, b3, _⟩ := (TIok.of_tys hE hd).ex
    split at h
    · rename_i k1 kd k2 n e1 e2 e3
      rw [e1] at a3; rw [e2] at b3; rw [e3] at hx
      simp only [VR] at hx
      have : d2 = .int kd := by cases d2 <;> simp_all [descOK]
      subst this
      exact svkT h he (by rw [hx]; simp [convert, run_underlying a1, run_underlying b1, Conv.intToInt, toV]) rfl
    · rename_i s' e1 e2 e3
      rw [e1] at a3; rw [e2] at b3; rw [e3] at hx
      simp only [VR] at hx
      have h2 : d2 = .string := by cases d2 <;> simp_all [descOK]
      subst h2
      exact svkT h he (by rw [hx]; simp [convert, run_underlying a1, run_underlying b1, toV]) rfl
    · rename_i e1 e2
      rw [e1] at a3; rw [e2] at b3
      have h2 : d2 = .string := by cases d2 <;> simp_all [descOK]
      subst h2
      cases d1 <;> simp only [descOK, Bool.false_eq_true] at a3
      rename_i te
      have hte : P.underlying te = some (.int .u8) := by
        split at a3
        · simp only [Bool.and_eq_true] at a3
          have := a3.2
          split at this
          · rename_i k' hk'; simp at this; rw [hk', this]
          · cases this
        · cases a3
      split at h
      · rename_i l hl
        have hrow := readDat_row hr hl hx
        have hb := run_bytesStr (P := P) hrow
        obtain ⟨A, c, ev, _⟩ := hrow
        refine svkT h he ?_ rfl
        rw [ev] at hb ⊢
        simp only [convert, Sem.run_bind, run_underlying a1, run_underlying b1, Result.andThen_ok, run_underlying hte]
        exact hb
      · cases h
    · cases h
  · cases h
theorem sv_nilCheck (hr : HR X S w st.objs own) (ht : TR X w (okS S w own) own st.tmps a.tmps) {x : Operand} (ho : o.op = .nilCheck x)
    (h : opS E o st k = some r) : SVk X P S w own o a k r := by
  have hx := opd_VR ht x
  simp only [opS, ho] at h
  have fin : ∀ av ad, k av = some r → a.eval x = .pointer (some ad) → VR X w (okS S w own) own av (a.eval x) → SVk X P S w own o a k r := by
    intro av ad h1 h2 h3
    refine ⟨av, h1, a.eval x, ?_, h3⟩
    simp only [execOp, ho, h2]
    rfl
  split at h
  · rename_i h1; rw [h1] at hx; have hx' := hx; obtain ⟨o', g, _, _, e⟩ := hx'; exact fin _ _ h e hx
  · rename_i h1; rw [h1] at hx; have hx' := hx; obtain ⟨b, off, cs, e, _⟩ := hx'; exact fin _ _ h e hx
  · rename_i i ix off h1
    split at h
    · rename_i e l hg
      obtain ⟨o', ho', hor⟩ := hr.at (Ob.get_of hg (by simp))
      rw [h1] at hx
      have hx' := hx
      obtain ⟨o2, ho2, hv⟩ := hx'
      rw [ho'] at ho2; cases ho2
      obtain ⟨g, n, c, _, _, _, e'⟩ := hv hor.1
      exact fin _ _ h e' hx
    · cases h
  · cases h
theorem tupAt_sound : ∀ (av : AV) (i : Nat) {v : Value} {av' : AV}, tupAt av i = some av' → VR X w (okS S w own) own av v → ∃ vs u, v = .tuple vs ∧ vs[i]? = some u ∧ VR X w (okS S w own) own av' u
  | .tcons b c, 0, v, av', h, ⟨x, xs, e, h1, h2⟩ => by cases h; exact ⟨_, x, e, by simp, h1⟩
  | .tcons b c, n + 1, v, av', h, ⟨x, xs, e, h1, h2⟩ => by
    obtain ⟨vs, u, e', hu, hv⟩ := tupAt_sound c n h h2
    cases e'
    exact ⟨_, u, e, by simpa using hu, hv⟩
theorem sv_extract (ht : TR X w (okS S w own) own st.tmps a.tmps) {x : Operand} {i : Nat} (ho : o.op = .extract x i)
    (h : opS E o st k = some r) : SVk X P S w own o a k r := by
  have hx := opd_VR ht x
  simp only [opS, ho] at h
  split at h
  · rename_i v hv
    obtain ⟨vs, u, e, hu, hvr⟩ := tupAt_sound _ _ hv hx
    refine svk h (s := Instr.extract (a.eval x) i) (by simp only [execOp, ho]) (v := u) ?_ hvr
    rw [e]
    simp [Instr.extract, hu]
  · cases h
theorem isSl_ok (hE : tysOK P E.tys = true) {t : TypeId} {e : Ty} (h : E.isSl t e = true) : ∃ te ie, P.underlying t = some (.slice te) ∧ P.info? te = some ie ∧ ie.size = e.size ∧ 0 < e.size := by
  unfold Env.isSl at h
  split at h
  · rename_i ti hti
    obtain ⟨d, i, h1, h2, h3, _⟩ := (TIok.of_tys hE hti).ex
    have := Ty.eq_of_beq h
    rw [this] at h3
    cases d <;> simp only [descOK, Bool.false_eq_true] at h3
    rename_i te
    split at h3
    · rename_i ie hie
      simp only [Bool.and_eq_true, Nat.beq_eq] at h3
      exact ⟨te, ie, h1, hie, h3.1.1.1.1.1.1, by simpa using h3.1.1.1.1.1.2⟩
    · cases h3
  · cases h
theorem isStr_ok (hE : tysOK P E.tys = true) {t : TypeId} (h : E.isStr t = true) : P.underlying t = some .string := by
  unfold Env.isStr at h
  split at h
  · rename_i ti hti
    obtain ⟨d, i, h1, h2, h3, _⟩ := (TIok.of_tys hE hti).ex
    have := Ty.eq_of_beq h
    rw [this] at h3
    cases d <;> simp only [descOK, Bool.false_eq_true] at h3
    exact h1
  · cases h
end
end Go.Proofs.YtgelkklendpeoaaGreat.AE

namespace Go.Proofs.YtgelkklendpeoaaGreat.AE
set_option linter.unusedVariables false
set_option linter.unusedSimpArgs false
open Go
set_option linter.unusedVariables false
set_option linter.unusedSimpArgs false

section
variable {X : ExtRep} {S : Nat → Prop} {P : Program} {E : Env} {w : World} {own : List Own} {st : St} {a : Act} {R : Type} {k : AV → Option R} {r : R} {o : Oper}
theorem run_indexAt {t te : TypeId} {ie : TypeInfo} {e : Ty} (h1 : P.underlying t = some (.slice te)) (h2 : P.info? te = some ie) (h3 : ie.size = e.size) (g off n c : Nat) (kd : IntKind) (i : Int) (h0 : 0 ≤ i) (hi : i < (n : Int)) :
    (Instr.indexAt t (.slice (some ⟨g, off, none⟩) n c) (.int kd i)).run P w = .ok (.pointer (some ⟨g, off + i.toNat * e.size, none⟩)) w := by
  have : (⟨g, off, none⟩ : Addr).add (i.toNat * e.size) = ⟨g, off + i.toNat * e.size, none⟩ := by unfold Addr.add; split <;> simp_all
  simp [Instr.indexAt, asIntOf, run_underlying h1, h0, hi, sizeOf, typeInfo, h2, h3, this]
theorem at_of_rep {e : Ty} {l : List e.den} {v : Value} (h : Rep X w (okS S w own) (.slice e) l [v]) (i : Int) (h0 : 0 ≤ i) (hi : i < (l.length : Int)) :
    ∃ g off c, v = .slice (some ⟨g, off, none⟩) l.length c ∧ VR X w (okS S w own) own (.at e (l.getD i.toNat e.zero)) (.pointer (some ⟨g, off + i.toNat * e.size, none⟩)) := by
  obtain ⟨A, c, ev, _, _, h4⟩ := h
  cases ev
  rcases h4 with rfl | ⟨b, off, cs, rfl, hb, hc, hrr⟩
  · simp at hi; omega
  · refine ⟨b, off, c, rfl, b, off + i.toNat * e.size, _, rfl, hb, ?_, RepL.get (fun x vs => Rep.len w (okS S w own) e x vs) e.zero i.toNat hrr (by omega)⟩
    intro j v hv
    rw [List.getElem?_take] at hv
    split at hv
    · rw [List.getElem?_drop] at hv
      rw [Nat.add_assoc]
      exact hc _ v hv
    · cases hv
theorem sv_indexAddr (hE : tysOK P E.tys = true) (hr : HR X S w st.objs own) (ht : TR X w (okS S w own) own st.tmps a.tmps) {t : TypeId} {x ix : Operand} (ho : o.op = .indexAddr t x ix)
    (h : opS E o st k = some r) : SVk X P S w own o a k r := by
  have hx := opd_VR ht x
  have hi := opd_VR ht ix
  have he : execOp a.eval o = (do pure (.value (← Instr.indexAt t (a.eval x) (a.eval ix)))) := by simp only [execOp, ho]
  simp only [opS, ho] at h
  split at h
  · rename_i kd n e1
    rw [e1] at hi; simp only [VR] at hi
    split at h
    · rename_i e l e2
      rw [e2] at hx
      split at h
      · rename_i hs
        obtain ⟨te, ie, p1, p2, p3, _⟩ := isSl_ok hE hs
        split at h
        · rename_i hb
          obtain ⟨g, off, c, ev, hv⟩ := at_of_rep hx n hb.1 hb.2
          exact svk h he (by rw [ev, hi]; exact run_indexAt p1 p2 p3 g off _ c kd n hb.1 hb.2) hv
        · cases h
      · cases h
    · rename_i i e2
      rw [e2] at hx
      split at h
      · rename_i e l hg
        split at h
        · rename_i hs
          obtain ⟨te, ie, p1, p2, p3, _⟩ := isSl_ok hE hs
          split at h
          · rename_i hb
            obtain ⟨o', ho', hor⟩ := hr.at (Ob.get_of hg (by simp))
            obtain ⟨o2, ho2, hv⟩ := hx
            rw [ho'] at ho2; cases ho2
            obtain ⟨q1, q2, q3, q4⟩ := hor
            have hv := hv q1
            rcases q4 with ⟨_, rfl, _⟩ | ⟨g, c, cur, ee, f1, f2, f3, f4, f5, f6, f7⟩
            · have := hb.2; simp at this; omega
            · refine svk h he (v := .pointer (some ⟨g, 0 + n.toNat * e.size, none⟩)) ?_ ?_
              · rw [hv, f1, hi]; exact run_indexAt p1 p2 p3 g 0 _ c kd n hb.1 hb.2
              · exact ⟨o', ho', fun _ => ⟨g, _, c, f1, hb.1, hb.2, by rw [q2]; simp⟩⟩
          · cases h
        · cases h
      · rename_i e l hg
        split at h
        · rename_i hs
          obtain ⟨te, ie, p1, p2, p3, _⟩ := isSl_ok hE hs
          split at h
          · rename_i hb
            obtain ⟨o', ho', hor⟩ := hr.at (Ob.get_of hg (by simp))
            obtain ⟨o2, ho2, hv⟩ := hx
            rw [ho'] at ho2; cases ho2
            have hv := hv hor.2.1
            obtain ⟨g, off, c, ev, hvv⟩ := at_of_rep hor.2.2 n hb.1 hb.2
            exact svk h he (by rw [hv, ev, hi]; exact run_indexAt p1 p2 p3 g off _ c kd n hb.1 hb.2) hvv
          · cases h
        · cases h
      · cases h
    · cases h
  · cases h
theorem sv_index (hE : tysOK P E.tys = true) (ht : TR X w (okS S w own) own st.tmps a.tmps) {t : TypeId} {x ix : Operand} (ho : o.op = .index t x ix)
    (h : opS E o st k = some r) : SVk X P S w own o a k r := by
  have hx := opd_VR ht x
  have hi := opd_VR ht ix
  have he : execOp a.eval o = (do pure (.value (← Instr.index t (a.eval x) (a.eval ix)))) := by simp only [execOp, ho]
  simp only [opS, ho] at h
  split at h
  · rename_i kd n s e1 e2
    rw [e1] at hi; rw [e2] at hx; simp only [VR] at hi hx
    split at h
    · rename_i hs
      split at h
      · rename_i hb
        refine svkT h he ?_ rfl
        rw [hi, hx, run_index_string w t s kd n (isStr_ok hE hs), dif_pos hb]
        have h2 : n.toNat < s.size := by omega
        have h2' : n.toNat < s.data.size := h2
        simp only [toV, byteAt]
        rw [show s.data.getD n.toNat 0 = s.data[n.toNat] by rw [Array.getD_eq_getD_getElem?, Array.getElem?_eq_getElem h2']; rfl]
        rfl
      · cases h
    · cases h
  · cases h
theorem fieldsOK_get : ∀ (T : Ty) (off : Nat) (fs : List Field) (f : Nat) (off' : Nat) (F : Ty), fieldsOK P T off fs = true → fieldTy T f = some (off', F) →
    ∃ fd i d, fs[f]? = some fd ∧ fd.offset = off + off' ∧ P.info? fd.type = some i ∧ P.underlying fd.type = some d ∧ i.size = F.size ∧ 0 < F.size ∧ isAggD d = F.isAgg
  | .pair a b, off, [], f, off', F, h, hf => by simp [fieldsOK] at h
  | .pair a b, off, fd :: fs, 0, off', F, h, hf => by
    simp only [fieldsOK, Bool.and_eq_true] at h
    simp only [fieldTy, Option.some.injEq, Prod.mk.injEq] at hf
    obtain ⟨rfl, rfl⟩ := hf
    obtain ⟨⟨h1, h2⟩, _⟩ := h
    split at h2
    · rename_i i d hi hd
      simp only [Bool.and_eq_true, Nat.beq_eq] at h2
      exact ⟨fd, i, d, rfl, by simpa using h1, hi, hd, h2.1.1, by simpa using h2.1.2, by simpa using h2.2⟩
    · cases h2
  | .pair a b, off, fd :: fs, f + 1, off', F, h, hf => by
    simp only [fieldsOK, Bool.and_eq_true] at h
    simp only [fieldTy] at hf
    split at hf
    · rename_i o2 t2 h2
      cases hf
      obtain ⟨fd', i, d, q1, q2, q3⟩ := fieldsOK_get b (off + a.size) fs f o2 _ h.2 h2
      exact ⟨fd', i, d, by simpa using q1, by rw [q2]; omega, q3⟩
    · cases hf
  | .one a, off, [fd], 0, off', F, h, hf => by
    simp only [fieldsOK, Bool.and_eq_true] at h
    simp only [fieldTy, Option.some.injEq, Prod.mk.injEq] at hf
    obtain ⟨rfl, rfl⟩ := hf
    obtain ⟨h1, h2⟩ := h
    split at h2
    · rename_i i d hi hd
      simp only [Bool.and_eq_true, Nat.beq_eq] at h2
      exact ⟨fd, i, d, rfl, by simpa using h1, hi, hd, h2.1.1, by simpa using h2.1.2, by simpa using h2.2⟩
    · cases h2
  | .one a, off, [], f, off', F, h, hf => by simp [fieldsOK] at h
  | .one a, off, _ :: _ :: _, f, off', F, h, hf => by simp [fieldsOK] at h
  | .one a, off, [fd], f + 1, off', F, h, hf => by simp [fieldTy] at hf
  | .unit, off, _, f, off', F, h, hf => by simp [fieldTy] at hf
  | .int _, off, _, f, off', F, h, hf | .bool, off, _, f, off', F, h, hf | .str, off, _, f, off', F, h, hf | .slice _, off, _, f, off', F, h, hf | .ext _, off, _, f, off', F, h, hf => by simp [fieldTy] at hf
theorem TIok.fields {t : TypeId} {ti : TI} (h : TIok P t ti) {f off' : Nat} {F : Ty} (hf : fieldTy ti.T f = some (off', F)) :
    ∃ fs fd i d, P.underlying t = some (.struct fs) ∧ fs[f]? = some fd ∧ fd.offset = off' ∧ P.info? fd.type = some i ∧ P.underlying fd.type = some d ∧ i.size = F.size ∧ 0 < F.size ∧ isAggD d = F.isAgg := by
  obtain ⟨d, i, h1, h2, h3, _⟩ := h.ex
  have : ∃ fs, d = .struct fs ∧ fieldsOK P ti.T 0 fs.toList = true := by
    cases hT : ti.T <;> rw [hT] at hf h3 <;> (try simp [fieldTy] at hf) <;> cases d <;> simp_all [descOK]
  obtain ⟨fs, rfl, hfs⟩ := this
  obtain ⟨fd, i', d', q1, q2, q3, q4, q5, q6, q7⟩ := fieldsOK_get _ _ _ _ _ _ hfs hf
  exact ⟨fs, fd, i', d', h1, by simpa using q1, by omega, q3, q4, q5, q6, q7⟩
end
end Go.Proofs.YtgelkklendpeoaaGreat.AE

namespace Go.Proofs.YtgelkklendpeoaaGreat.AE
set_option linter.unusedVariables false
set_option linter.unusedSimpArgs false
open Go
set_option linter.unusedVariables false
set_option linter.unusedSimpArgs false

section
variable {X : ExtRep} {S : Nat → Prop} {P : Program} {E : Env} {w : World} {own : List Own} {st : St} {a : Act} {R : Type} {k : AV → Option R} {r : R} {o : Oper}
theorem fieldPick_rep {ok : Nat → Prop} : ∀ (T : Ty) (x : T.den) (f : Nat) (cs : List Value) (v : AV) (c : (T : Ty) → T.den → AV), fieldPick c T x f = some v → Rep X w ok T x cs →
    ∃ off F y pre mid post, fieldTy T f = some (off, F) ∧ v = c F y ∧ cs = pre ++ mid ++ post ∧ pre.length = off ∧ Rep X w ok F y mid
  | .pair a b, x, 0, cs, v, c, h, ⟨v1, v2, e, r1, r2⟩ => by
    simp only [fieldPick, Option.some.injEq] at h
    exact ⟨0, a, x.1, [], v1, v2, rfl, h.symm, by simpa using e, rfl, r1⟩
  | .pair a b, x, f + 1, cs, v, c, h, ⟨v1, v2, e, r1, r2⟩ => by
    simp only [fieldPick] at h
    obtain ⟨off, F, y, pre, mid, post, q1, q2, q3, q4, q5⟩ := fieldPick_rep b x.2 f v2 v c h r2
    refine ⟨a.size + off, F, y, v1 ++ pre, mid, post, by simp [fieldTy, q1], q2, by rw [e, q3]; simp, ?_, q5⟩
    rw [List.length_append, Rep.len w ok a _ _ r1, q4]
  | .one a, x, 0, cs, v, c, h, hr => by
    simp only [fieldPick, Option.some.injEq] at h
    exact ⟨0, a, x, [], cs, [], rfl, h.symm, by simp, rfl, hr⟩
  | .one a, x, f + 1, cs, v, c, h, hr => by simp [fieldPick] at h
  | .unit, x, f, cs, v, c, h, hr | .int _, x, f, cs, v, c, h, hr | .bool, x, f, cs, v, c, h, hr | .str, x, f, cs, v, c, h, hr | .slice _, x, f, cs, v, c, h, hr | .ext _, x, f, cs, v, c, h, hr => by simp [fieldPick] at h
theorem castTo_rep {ok : Nat → Prop} {T T' : Ty} {x : T.den} {y : T'.den} {cs : List Value} (h : castTo T T' x = some y) (hr : Rep X w ok T x cs) : Rep X w ok T' y cs := by
  obtain ⟨e1, e2⟩ := castTo_some h
  subst e1
  cases e2
  exact hr
theorem sv_field (hE : tysOK P E.tys = true) (ht : TR X w (okS S w own) own st.tmps a.tmps) {t : TypeId} {x : Operand} {f : Nat} (ho : o.op = .field t x f)
    (h : opS E o st k = some r) : SVk X P S w own o a k r := by
  have hx := opd_VR ht x
  have he : execOp a.eval o = (do pure (.value (← Instr.field t (a.eval x) f))) := by simp only [execOp, ho]
  simp only [opS, ho] at h
  split at h
  · rename_i ti hti
    split at h
    · rename_i T y e1
      rw [e1] at hx
      split at h
      · rename_i z hz
        split at h
        · rename_i v hv
          obtain ⟨_, cs, ev, hrr⟩ := hx
          have hrz : Rep X w (okS S w own) ti.T z cs := castTo_rep hz hrr
          obtain ⟨off, F, y', pre, mid, post, q1, q2, q3, q4, q5⟩ := fieldPick_rep _ _ _ _ _ _ hv hrz
          obtain ⟨fs, fd, i, d, p1, p2, p3, p4, p5, p6, p7, p8⟩ := (TIok.of_tys hE hti).fields q1
          refine svk h he (v := joined F mid) ?_ (q2 ▸ inject_VR q5)
          have hl := Rep.len w _ _ _ _ q5
          have hagg : (isAgg fd.type).run P w = .ok F.isAgg w := by
            unfold Go.isAgg
            rw [Sem.run_bind, run_underlying p5 w, ← p8]
            cases d <;> rfl
          rw [ev]
          simp only [Instr.field, Sem.run_bind, run_underlying p1, Result.andThen_ok, p2, asAgg, Sem.run_pure]
          unfold part
          rw [Sem.run_bind, hagg]
          simp only [Result.andThen_ok]
          unfold joined
          cases hF : F.isAgg with
          | true =>
            simp only [if_true, Sem.run_bind, sizeOf, typeInfo, run_program, Result.andThen_ok, p4, Sem.run_pure, p6, p3]
            subst q3 q4
            congr 2
            rw [← hl]
            simp [List.extract_eq_take_drop]
          | false =>
            have hs : F.size = 1 := by cases F <;> simp_all [Ty.isAgg, Ty.size]
            rw [hs] at hl
            match mid, hl with
            | [u], _ =>
              subst q3 q4
              simp [p3]
        · cases h
      · cases h
    · cases h
  · cases h
theorem run_fieldAt {t : TypeId} {ti : TI} (hT : TIok P t ti) {f off' : Nat} {F : Ty} (hf : fieldTy ti.T f = some (off', F)) (g off : Nat) :
    (Instr.fieldAt t (.pointer (some ⟨g, off, none⟩)) f).run P w = .ok (.pointer (some ⟨g, off + off', none⟩)) w := by
  obtain ⟨fs, fd, i, d, p1, p2, p3, p4, p5, p6, p7, p8⟩ := hT.fields hf
  have hne : ¬ i.size = 0 := by omega
  simp [Instr.fieldAt, run_underlying p1, p2, Instr.sureAddr, fieldPlace, sizeOf, typeInfo, p4, hne, add_lit0, p3]
theorem sv_fieldAddr (hE : tysOK P E.tys = true) (hr : HR X S w st.objs own) (ht : TR X w (okS S w own) own st.tmps a.tmps) {t : TypeId} {x : Operand} {f : Nat} (ho : o.op = .fieldAddr t x f)
    (h : opS E o st k = some r) : SVk X P S w own o a k r := by
  have hx := opd_VR ht x
  have he : execOp a.eval o = (do pure (.value (← Instr.fieldAt t (a.eval x) f))) := by simp only [execOp, ho]
  simp only [opS, ho] at h
  split at h
  · rename_i ti hti
    have hT := TIok.of_tys hE hti
    split at h
    · rename_i i off e1
      rw [e1] at hx
      split at h
      · rename_i o' F hf
        obtain ⟨oo, g, h1, h2, ev⟩ := hx
        exact svk h he (by rw [ev]; exact run_fieldAt hT hf g off) ⟨oo, g, h1, h2, rfl⟩
      · cases h
    · rename_i i ix off e1
      rw [e1] at hx
      split at h
      · rename_i ob e l hg
        split at h
        · rename_i o' F hf
          obtain ⟨oo, h1, h2⟩ := hx
          obtain ⟨o3, ho3, hor⟩ := hr.at (Ob.get_of hg (by simp))
          rw [h1] at ho3; cases ho3
          obtain ⟨g, n, c, h3, h4, h5, ev⟩ := h2 hor.1
          exact svk h he (by rw [ev]; exact run_fieldAt hT hf g _) ⟨oo, h1, fun _ => ⟨g, n, c, h3, h4, h5, by rw [Nat.add_assoc]⟩⟩
        · cases h
      · cases h
    · rename_i T y e1
      rw [e1] at hx
      split at h
      · rename_i z hz
        split at h
        · rename_i v hv
          obtain ⟨b, off, cs, ev, hb, hc, hrr⟩ := hx
          have hrz : Rep X w (okS S w own) ti.T z cs := castTo_rep hz hrr
          obtain ⟨off', F, y', pre, mid, post, q1, q2, q3, q4, q5⟩ := fieldPick_rep _ _ _ _ _ _ hv hrz
          refine svk h he (by rw [ev]; exact run_fieldAt hT q1 b off) ?_
          rw [q2]
          refine ⟨b, off + off', mid, rfl, hb, ?_, q5⟩
          intro j u hu
          rw [Nat.add_assoc]
          refine hc _ u ?_
          subst q3 q4
          exact mid_get hu
        · cases h
      · cases h
    · cases h
  · cases h
end
end Go.Proofs.YtgelkklendpeoaaGreat.AE

namespace Go.Proofs.YtgelkklendpeoaaGreat.AE
set_option linter.unusedVariables false
set_option linter.unusedSimpArgs false
open Go
set_option linter.unusedVariables false
set_option linter.unusedSimpArgs false

section
variable {X : ExtRep} {S : Nat → Prop} {P : Program} {E : Env} {w : World} {own : List Own} {st : St} {a : Act} {R : Type} {k : AV → Option R} {r : R} {o : Oper}
theorem bound_spec (ht : TR X w (okS S w own) own st.tmps a.tmps) {d n : Int} {x : Option Operand} (h : bound st d x = some n) : (x.map a.eval = none ∧ n = d) ∨ ∃ kd, x.map a.eval = some (.int kd n) := by
  cases x with
  | none => simp [bound] at h; exact .inl ⟨rfl, h.symm⟩
  | some y =>
    simp only [bound] at h
    split at h
    · rename_i kd m e
      cases h
      have := opd_VR ht y
      rw [e] at this
      exact .inr ⟨kd, by simpa [VR] using this⟩
    · cases h
theorem run_bounds (isSl : Bool) (len cap : Nat) (lo hi : Option Value) (l h : Int) (hlo : (lo = none ∧ l = 0) ∨ ∃ kd, lo = some (.int kd l)) (hhi : (hi = none ∧ h = (len : Int)) ∨ ∃ kd, hi = some (.int kd h))
    (h0 : 0 ≤ l) (h1 : l ≤ h) (h2 : h ≤ (len : Int)) (hc : len ≤ cap) : (Instr.sliceBounds isSl len cap lo hi none).run P w = .ok (l.toNat, h.toNat, cap) w := by
  have eh : (h.toNat : Int) = h := Int.toNat_of_nonneg (by omega)
  rcases hlo with ⟨rfl, rfl⟩ | ⟨kl, rfl⟩ <;> rcases hhi with ⟨rfl, rfl⟩ | ⟨kh, rfl⟩
  · simp [Instr.sliceBounds]
  · have : (Instr.sliceBound (.int kh h) cap (if isSl then .sliceAcap else .sliceAlen)).run P w = .ok h.toNat w := run_sliceBound w kh h cap _ (by omega) (by omega)
    simp [Instr.sliceBounds, this]
  · have := run_sliceBound (P := P) w kl l len .sliceB h0 (by omega)
    simp [Instr.sliceBounds, this]
  · have h3 : (Instr.sliceBound (.int kh h) cap (if isSl then .sliceAcap else .sliceAlen)).run P w = .ok h.toNat w := run_sliceBound w kh h cap _ (by omega) (by omega)
    have h4 := run_sliceBound (P := P) w kl l h.toNat .sliceB h0 (by omega)
    simp [Instr.sliceBounds, h3, h4]
theorem cut_rep (hX : X.OK) {ok : Nat → Prop} {e : Ty} {l : List e.den} {A : Option Addr} {c : Nat} (h : Rep X w ok (.slice e) l [.slice A l.length c]) (lo hi : Int) (h0 : 0 ≤ lo) (h1 : lo ≤ hi) (h2 : hi ≤ (l.length : Int)) (s : Nat) (hs : s = e.size) :
    Rep X w ok (.slice e) (cut l lo hi) [.slice (if c = lo.toNat then A else A.map (·.add (lo.toNat * s))) (hi.toNat - lo.toNat) (c - lo.toNat)] := by
  obtain ⟨A', c', ev, q1, q2, q3⟩ := h
  cases ev
  have hlen : (cut l lo hi).length = hi.toNat - lo.toNat := by simp [cut]; omega
  refine ⟨_, c - lo.toNat, by rw [hlen], by rw [hlen]; omega, by omega, ?_⟩
  by_cases hz : hi.toNat - lo.toNat = 0
  · left; exact List.eq_nil_of_length_eq_zero (by rw [hlen, hz])
  · right
    have hne : ¬ c = lo.toNat := by omega
    rcases q3 with rfl | ⟨b, off, cs, rfl, hok, hc, hr⟩
    · simp at h2; omega
    · refine ⟨b, off + lo.toNat * e.size, (cs.take (hi.toNat * e.size)).drop (lo.toNat * e.size), ?_, hok, ?_, ?_⟩
      · rw [if_neg hne, hs]; simp [add_lit0]
      · intro j v hv
        rw [List.getElem?_drop, List.getElem?_take] at hv
        split at hv
        · rw [Nat.add_assoc]; exact hc _ v hv
        · cases hv
      · exact RepL.drop (fun x vs => Rep.len w ok e x vs) _ (RepL.take (fun x vs => Rep.len w ok e x vs) _ hr)
theorem sv_slice (hX : X.OK) (hE : tysOK P E.tys = true) (hr : HR X S w st.objs own) (ht : TR X w (okS S w own) own st.tmps a.tmps) {t : TypeId} {x : Operand} {lo hi mx : Option Operand} (ho : o.op = .slice t x lo hi mx)
    (h : opS E o st k = some r) : SVk X P S w own o a k r := by
  have hx := opd_VR ht x
  have he : execOp a.eval o = (do pure (.value (← Instr.sliceAt t (a.eval x) (lo.map a.eval) (hi.map a.eval) (mx.map a.eval)))) := by simp only [execOp, ho]
  cases mx with
  | some m => simp [opS, ho] at h
  | none =>
    have sl : ∀ (e : Ty) (l : List e.den) (v : Value) (p q : Int), Rep X w (okS S w own) (.slice e) l [v] → a.eval x = v → E.isSl t e = true → bound st 0 lo = some p → bound st l.length hi = some q → 0 ≤ p ∧ p ≤ q ∧ q ≤ (l.length : Int) →
        k (.sl e (cut l p q)) = some r → SVk X P S w own o a k r := by
      intro e l v p q hrep ev hs hp hq hb hk
      obtain ⟨te, ie, p1, p2, p3, _⟩ := isSl_ok hE hs
      have hrep' := hrep
      obtain ⟨A, c, ev', q1, q2, q3⟩ := hrep'
      cases ev'
      refine svk hk he (v := .slice (if c = p.toNat then A else A.map (·.add (p.toNat * e.size))) (q.toNat - p.toNat) (c - p.toNat)) ?_ (cut_rep hX hrep p q hb.1 hb.2.1 hb.2.2 _ rfl)
      rw [ev]
      have hbd := run_bounds (P := P) (w := w) true l.length c (lo.map a.eval) (hi.map a.eval) p q (bound_spec ht hp) (bound_spec ht hq) hb.1 hb.2.1 hb.2.2 q1
      simp [Instr.sliceAt, run_underlying p1, Instr.slice, hbd, sizeOf, typeInfo, p2, p3]
    simp only [opS, ho] at h
    split at h
    · rename_i s e1
      rw [e1] at hx; simp only [VR] at hx
      split at h
      · rename_i p q hs hp hq
        split at h
        · rename_i hb
          have p1 := isStr_ok hE hs
          refine svkT h he ?_ rfl
          rw [hx]
          have hbd := run_bounds (P := P) (w := w) false s.size s.size (lo.map a.eval) (hi.map a.eval) p q (bound_spec ht hp) (bound_spec ht hq) hb.1 hb.2.1 hb.2.2 (Nat.le_refl _)
          simp [Instr.sliceAt, run_underlying p1, Instr.slice, hbd, toV]
        · cases h
      · cases h
    · rename_i e l e1
      rw [e1] at hx
      split at h
      · rename_i p q hs hp hq
        split at h
        · rename_i hb
          exact sl e l _ p q hx rfl hs hp hq hb h
        · cases h
      · cases h
    · rename_i i e1
      rw [e1] at hx
      split at h
      · rename_i e l hg
        obtain ⟨oo, h1, h2⟩ := hx
        obtain ⟨o3, ho3, hor⟩ := hr.at (Ob.get_of hg (by simp))
        rw [h1] at ho3; cases ho3
        split at h
        · rename_i p q hs hp hq
          split at h
          · rename_i hb
            exact sl e l _ p q hor.2.2 (h2 hor.2.1) hs hp hq hb h
          · cases h
        · cases h
      · cases h
    · cases h
theorem readS_rep (hX : X.OK) (hr : HR X S w st.objs own) {T : Ty} {x : T.den} {av : AV} {v : Value} (h : readS st.objs T av = some x) (hv : VR X w (okS S w own) own av v) : Rep X w (okS S w own) T x v.cells.toList := by
  unfold readS at h
  split at h
  · rename_i i
    split at h
    · rename_i e l hg
      obtain ⟨oo, h1, h2⟩ := hv
      obtain ⟨o3, ho3, hor⟩ := hr.at (Ob.get_of hg (by simp))
      rw [h1] at ho3; cases ho3
      rw [h2 hor.2.1]
      have h3 := hor.2.2
      have h4 := castTo_rep h h3
      obtain ⟨A, c, ev, _⟩ := h3
      injection ev with ev
      rw [ev] at h4 ⊢
      exact h4
    · cases h
  · rename_i hnr
    exact readDat_rep hX hr h hv (fun i e l ei => absurd ei (hnr i))
theorem poke_whole {ok : Nat → Prop} {T : Ty} {x x' : T.den} {off : Nat} {cs ys : List Value} (hr : Rep X w ok T x cs) (h0 : off = 0) (hz : Rep X w ok T x' ys) :
    ∃ pre mid post, cs = pre ++ mid ++ post ∧ pre.length = off ∧ mid.length = ys.length ∧ Rep X w ok T x' (pre ++ ys ++ post) :=
  ⟨[], cs, [], by simp, by simp [h0], by rw [Rep.len w ok _ _ _ hr, Rep.len w ok _ _ _ hz], by simpa using hz⟩
theorem poke_rep {ok : Nat → Prop} : ∀ (T : Ty) (x : T.den) (off : Nat) (want : Ty) (y : want.den) (x' : T.den) (cs ys : List Value), poke T x off want y = some x' → Rep X w ok T x cs → Rep X w ok want y ys →
    ∃ pre mid post, cs = pre ++ mid ++ post ∧ pre.length = off ∧ mid.length = ys.length ∧ Rep X w ok T x' (pre ++ ys ++ post)
  | .pair a b, x, off, want, y, x', cs, ys, h, hr, hy => by
    have hr' := hr
    obtain ⟨v1, v2, rfl, r1, r2⟩ := hr'
    have l1 := Rep.len w ok a _ _ r1
    have rec' : (match Nat.blt off a.size with
        | true => match poke a x.1 off want y with | some z => some (z, x.2) | none => none
        | false => match poke b x.2 (off - a.size) want y with | some z => some (x.1, z) | none => none) = some x' →
        ∃ pre mid post, v1 ++ v2 = pre ++ mid ++ post ∧ pre.length = off ∧ mid.length = ys.length ∧ Rep X w ok (.pair a b) x' (pre ++ ys ++ post) := by
      intro h
      split at h
      · split at h
        · rename_i z hz
          cases h
          obtain ⟨p, m, q, rfl, e2, e3, e4⟩ := poke_rep a _ _ _ _ _ _ _ hz r1 hy
          exact ⟨p, m, q ++ v2, by simp, e2, e3, p ++ ys ++ q, v2, by simp, e4, r2⟩
        · cases h
      · rename_i hb
        split at h
        · rename_i z hz
          cases h
          have hge : a.size ≤ off := by
            rcases Nat.lt_or_ge off a.size with h1 | h1
            · rw [show Nat.blt off a.size = true by simpa using h1] at hb; cases hb
            · exact h1
          obtain ⟨p, m, q, rfl, e2, e3, e4⟩ := poke_rep b _ _ _ _ _ _ _ hz r2 hy
          exact ⟨v1 ++ p, m, q, by simp, by simp [l1, e2]; omega, e3, v1, p ++ ys ++ q, by simp, r1, e4⟩
        · cases h
    unfold poke at h
    split at h
    · rename_i h0
      simp at h0
      split at h
      · rename_i z hc
        cases h
        exact poke_whole hr h0 (castTo_rep hc hy)
      · exact rec' h
    · exact rec' h
  | .one a, x, off, want, y, x', cs, ys, h, hr, hy => by
    unfold poke at h
    split at h
    · rename_i h0
      simp at h0
      split at h
      · rename_i z hc
        cases h
        exact poke_whole hr h0 (castTo_rep hc hy)
      · exact poke_rep a x off want y x' cs ys h hr hy
    · exact poke_rep a x off want y x' cs ys h hr hy
  | .int _, x, off, want, y, x', cs, ys, h, hr, hy | .bool, x, off, want, y, x', cs, ys, h, hr, hy | .str, x, off, want, y, x', cs, ys, h, hr, hy | .unit, x, off, want, y, x', cs, ys, h, hr, hy
  | .slice _, x, off, want, y, x', cs, ys, h, hr, hy | .ext _, x, off, want, y, x', cs, ys, h, hr, hy => by
    unfold poke at h
    split at h
    · rename_i h0
      simp at h0
      exact poke_whole hr h0 (castTo_rep h hy)
    · cases h
end
end Go.Proofs.YtgelkklendpeoaaGreat.AE
