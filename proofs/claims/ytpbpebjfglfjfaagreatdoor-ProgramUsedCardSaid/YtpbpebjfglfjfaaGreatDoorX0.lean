/-
  AN EXECUTOR FOR THE PROGRAM'S CODE OVER VALUES WITHOUT MEMORY: definitions. 'V': values; a slice that is read alone is told by its elements ('ro'); what the call itself has made lies in a small heap ('Blk') under a number. 'ex' runs Code; it stops ('none') at whatever it does not know.
-/
import Derived.WalkKit
import Derived.KernelRfl
import Derived.Laws.MathBits
set_option autoImplicit false
set_option linter.unusedVariables false
namespace Go.Proofs.YtpbpebjfglfjfaaGreatDoor.X
open Go

inductive V (A : Nat → Type) : Type
  | int (k : IntKind) (n : Int)
  | bool (b : Bool)
  | str (s : ByteArray)
  | agg (l : List (V A))
  | tup (l : List (V A))
  | nils
  | ro (e : Nat) (l : List (A e))
  | own (id : Nat)
  | ptr (id off : Nat)
  | elt (e id j off : Nat)
  | rel (cs : List (V A))
  | glob (g : Nat)
  | fn (f : Nat) (caps : List (V A))
  | meth (f : Nat) (l : List (V A))
  | mapr (id : Nat)
  | nul (c : Value)
  | unk
/-- what a map holds: entries as they come, or entries of known kinds (its list may be any Lean list) -/
inductive ML (A : Nat → Type) : Type
  | pl (l : List (V A × V A))
  | ty (kt vt : Nat) (l : List (A kt × A vt))
inductive Blk (A : Nat → Type) : Type
  | var (l : List (V A)) (fz : Bool)
  | row (e : Nat) (l : List (A e)) (fz : Bool)
  | map (l : ML A) (fz : Bool)
structure St (A : Nat → Type) where
  env : List (Nat × V A)
  stk : List (List (Nat × V A))
  hp : List (Nat × Blk A)
  nx : Nat
abbrev Res (A : Nat → Type) := V A × List (Nat × Blk A)
/-- The kinds of elements: a Lean type for each element type of the program, its cells, and back. -/
structure Tab where
  A : Nat → Type
  known : Nat → Bool
  dflt : ∀ e, A e
  enc : ∀ e, A e → List (V A)
  dec : ∀ e, List (V A) → Option (A e)
  key : Nat → Bool   -- may be a key of a map
inductive Xit where | norm | ex (id : Nat) | ret
structure Env where
  T : Tab
  P : Program
  /-- contracts -/
  con : Nat → Option (List (V T.A) → Option (Bool × Res T.A))
  body : Nat → Option Func
  keep : Nat → Nat → Option (List (Nat × Option Nat))
  /-- what is kept where a loop is left -/
  exits : Nat → Nat → Option (List (Nat × Option Nat))
  /-- contracts of loops: what comes of a state at the head, and how it goes on -/
  lp : Nat → Nat → Option (St T.A → (Xit → St T.A → Option (Res T.A)) → Option (Res T.A))
  /-- functions that are run within their caller's blocks -/
  inl : Nat → Bool := fun _ => false
  /-- contracts of functions that write behind their arguments: out of what these reach -/
  pcon : Nat → Option (St T.A → Option (Bool × Res T.A)) := fun _ => none

def Blk.live {A : Nat → Type} : Blk A → Bool
  | .var _ z => !z
  | .row _ _ z => !z
  | .map _ z => !z
noncomputable section
def look {α : Type} (l : List (Nat × α)) (t : Nat) : Option α := List.rec (motive := fun _ => Option α) none (fun p _ ih => match Nat.beq p.1 t with | true => some p.2 | false => ih) l
def setk {α : Type} (l : List (Nat × α)) (t : Nat) (x : α) : List (Nat × α) := List.rec (motive := fun _ => List (Nat × α)) [] (fun p r ih => match Nat.beq p.1 t with | true => (t, x) :: r | false => p :: ih) l
def delk {α : Type} (l : List (Nat × α)) (t : Nat) : List (Nat × α) := List.rec (motive := fun _ => List (Nat × α)) [] (fun p r ih => match Nat.beq p.1 t with | true => ih | false => p :: ih) l
def nth {α : Type} (l : List α) : Nat → Option α := List.rec (motive := fun _ => Nat → Option α) (fun _ => none) (fun x _ ih n => match n with | 0 => some x | n + 1 => ih n) l
def dropN {α : Type} : Nat → List α → List α := fun n => Nat.rec (motive := fun _ => List α → List α) (fun l => l) (fun _ ih l => match l with | [] => [] | _ :: r => ih r) n
def takeN {α : Type} : Nat → List α → Option (List α) := fun n => Nat.rec (motive := fun _ => List α → Option (List α)) (fun _ => some []) (fun _ ih l => match l with | [] => none | x :: r => match ih r with | some y => some (x :: y) | none => none) n
/-- cells from 'off' on replaced -/
def putN {α : Type} (new : List α) : Nat → List α → Option (List α) := fun n =>
  Nat.rec (motive := fun _ => List α → Option (List α))
    (fun l => List.rec (motive := fun _ => List α → Option (List α)) (fun l => some l) (fun x _ ih l => match l with | [] => none | _ :: r => match ih r with | some y => some (x :: y) | none => none) new l)
    (fun _ ih l => match l with | [] => none | x :: r => match ih r with | some y => some (x :: y) | none => none) n
def gt {α : Type} (d : α) (l : List α) (j : Nat) : α := l.getD j d

/-! Strings -/
def eqL (a : List UInt8) : List UInt8 → Bool := List.rec (motive := fun _ => List UInt8 → Bool) (fun b => match b with | [] => true | _ :: _ => false) (fun x _ ih b => match b with | [] => false | y :: s => match Nat.beq x.toNat y.toNat with | true => ih s | false => false) a
def eqB (a b : ByteArray) : Bool := eqL a.data.toList b.data.toList
def ltL (a : List UInt8) : List UInt8 → Bool := List.rec (motive := fun _ => List UInt8 → Bool) (fun b => match b with | [] => false | _ :: _ => true) (fun x _ ih b => match b with | [] => false | y :: s => match Nat.blt x.toNat y.toNat with | true => true | false => match Nat.beq x.toNat y.toNat with | true => ih s | false => false) a
def ltB (a b : ByteArray) : Bool := ltL a.data.toList b.data.toList
def catB (a b : ByteArray) : ByteArray := ⟨(a.data.toList ++ b.data.toList).toArray⟩
def subB (s : ByteArray) (l h : Nat) : ByteArray := ⟨((s.data.toList.drop l).take (h - l)).toArray⟩
def byteAt (s : ByteArray) (i : Int) : Int := ((s.data.toList.getD i.toNat 0).toNat : Int)

variable {A : Nat → Type}
def cv : Value → V A
  | .int k n => .int k n
  | .bool b => .bool b
  | .string s => .str s
  | .slice none 0 0 => .nils
  | v => match v.oneCell' with | true => .nul v | false => .unk
def St.ev (st : St A) : Operand → V A
  | .tmp t => match look st.env t with | some v => v | none => .unk
  | .const v => cv v
  | .global g => .glob g
  | .func f => .fn f []
/-- a value, down to its head -/
def V.force {R : Type} (v : V A) (K : V A → Option R) : Option R := match v with
  | .int k n => K (.int k n) | .bool b => K (.bool b) | .str s => K (.str s) | .agg l => K (.agg l) | .tup l => K (.tup l) | .nils => K .nils | .ro e l => K (.ro e l)
  | .own i => K (.own i) | .ptr i o => K (.ptr i o) | .elt e i j o => K (.elt e i j o) | .rel c => K (.rel c) | .glob g => K (.glob g) | .fn f c => K (.fn f c) | .meth f c => K (.meth f c) | .mapr i => K (.mapr i) | .nul c => K (.nul c) | .unk => K .unk
def St.put (st : St A) (d : Option Nat) (v : V A) : St A := match d with | some d => { st with env := (d, v) :: st.env } | none => st
def V.cells : V A → List (V A)
  | .agg l => l
  | v => [v]
/-- fits into one cell of memory -/
def V.one : V A → Bool
  | .agg _ => false
  | .tup _ => false
  | .unk => false
  | _ => true
def oneL (l : List (V A)) : Bool := List.rec (motive := fun _ => Bool) true (fun x _ r => match x.one with | true => r | false => false) l
def aggT (P : Program) (t : Nat) : Option Bool := match P.underlying t with | some (.struct _) => some true | some (.array _ _) => some true | some _ => some false | none => none
def szT (P : Program) (t : Nat) : Nat := P.cellsOf t
def elemT (P : Program) (t : Nat) : Option Nat := match P.underlying t with | some (.slice e) => some e | _ => none
def zerosT (P : Program) (t : Nat) : Option (List (V A)) := match P.info? t with | some i => (match i.zero with | some z => some (z.cells.toList.map cv) | none => none) | none => none
/-- what a value of type t read off these cells is -/
def pickV (P : Program) (t : Nat) (cs : List (V A)) : Option (V A) := match aggT P t with
  | some true => (match takeN (szT P t) cs with | some l => some (.agg l) | none => none)
  | some false => (match cs with | v :: _ => some v | [] => none)
  | none => none

/-! Numbers of blocks inside a value: which are named -/
def V.ids1 (ih : V A → List Nat) (v : V A) : List Nat := match v with
  | .own i => [i] | .ptr i _ => [i] | .elt _ i _ _ => [i] | .mapr i => [i] | .agg l => l.flatMap ih | .tup l => l.flatMap ih | .fn _ l => l.flatMap ih | .meth _ l => l.flatMap ih | _ => []
def V.ids : Nat → V A → List Nat := fun n => Nat.rec (motive := fun _ => V A → List Nat) (fun _ => []) (fun _ ih => V.ids1 ih) n
/-- no numbers, as far as it is looked -/
def V.pure1 (ih : V A → Bool) (v : V A) : Bool := match v with
  | .own _ => false | .ptr _ _ => false | .elt _ _ _ _ => false | .mapr _ => false | .agg l => l.all ih | .tup l => l.all ih | .fn _ l => l.all ih | .meth _ _ => false | .rel l => l.all ih | _ => true
def V.pure : Nat → V A → Bool := fun n => Nat.rec (motive := fun _ => V A → Bool) (fun _ => false) (fun _ ih => V.pure1 ih) n
/-- nothing that leads to memory -/
def V.scalar1 (ih : V A → Bool) (v : V A) : Bool := match v with
  | .int _ _ => true | .bool _ => true | .str _ => true | .nils => true | .nul _ => true | .unk => true | .agg l => l.all ih | .tup l => l.all ih | _ => false
def V.scalar : Nat → V A → Bool := fun n => Nat.rec (motive := fun _ => V A → Bool) (fun _ => false) (fun _ ih => V.scalar1 ih) n
def cons2 {α : Type} (a : Option α) (b : Option (List α)) : Option (List α) := match a, b with | some y, some z => some (y :: z) | _, _ => none
def mapO {α β : Type} (f : α → Option β) (l : List α) : Option (List β) := List.rec (motive := fun _ => Option (List β)) (some []) (fun x _ r => cons2 (f x) r) l
/-- slices of the call's own, told by their elements -/
def shutOwn (b : Option (Blk A)) : Option (V A) := match b with | some (.row e l _) => some (.ro e l) | _ => none
def shutAgg (l : Option (List (V A))) : Option (V A) := match l with | some l => some (.agg l) | none => none
def shut1 (hp : List (Nat × Blk A)) (ih : V A → Option (V A)) (v : V A) : Option (V A) := match v with
  | .own i => shutOwn (look hp i)
  | .agg l => shutAgg (mapO ih l)
  | .fn f [] => some (.fn f [])
  | .int k n => some (.int k n) | .bool b => some (.bool b) | .str s => some (.str s) | .nils => some .nils | .ro e l => some (.ro e l) | .nul c => some (.nul c) | .unk => some .unk
  | _ => none
def shut (hp : List (Nat × Blk A)) : Nat → V A → Option (V A) := fun n => Nat.rec (motive := fun _ => V A → Option (V A)) (fun _ => none) (fun _ ih => shut1 hp ih) n
def shutL (hp : List (Nat × Blk A)) (l : List (V A)) : Option (List (V A)) := mapO (shut hp 2) l
/-! arguments: a pointer to a variable of the call's own is told by the cells behind it; a closure by what it has caught -/
def shutPtr (ih : V A → Option (V A)) (o : Nat) (b : Option (Blk A)) : Option (V A) := match b with
  | some (.var l _) => (match mapO ih l with | some cs => some (.rel (dropN o cs)) | none => none)
  | _ => none
def shutAF (f : Nat) (l : Option (List (V A))) : Option (V A) := match l with | some l => some (.fn f l) | none => none
def shutRel (cs : List (V A)) : Option (V A) := match cs.all (V.pure 4) with | true => some (.rel cs) | false => none
def shutA1 (hp : List (Nat × Blk A)) (ih : V A → Option (V A)) (v : V A) : Option (V A) := match v with | .ptr i o => shutPtr ih o (look hp i) | .fn f caps => shutAF f (mapO ih caps) | .rel cs => shutRel cs | v => shut hp 2 v
def shutAN (hp : List (Nat × Blk A)) : Nat → V A → Option (V A) := fun n => Nat.rec (motive := fun _ => V A → Option (V A)) (fun _ => none) (fun _ ih => shutA1 hp ih) n
def shutA (hp : List (Nat × Blk A)) (v : V A) : Option (V A) := shutAN hp 6 v
def shutAL (hp : List (Nat × Blk A)) (l : List (V A)) : Option (List (V A)) := mapO (shutA hp) l
def cellsOf (b : Option (Blk A)) : List (V A) := match b with | some (.var l _) => l | _ => []
def idsA1 (hp : List (Nat × Blk A)) (ih : V A → List Nat) (v : V A) : List Nat := match v with | .ptr i _ => i :: (cellsOf (look hp i)).flatMap ih | .fn _ caps => caps.flatMap ih | v => V.ids 2 v
def idsAN (hp : List (Nat × Blk A)) : Nat → V A → List Nat := fun n => Nat.rec (motive := fun _ => V A → List Nat) (fun _ => []) (fun _ ih => idsA1 hp ih) n
def idsA (hp : List (Nat × Blk A)) (v : V A) : List Nat := idsAN hp 6 v
def frA (hp : List (Nat × Blk A)) (l : List (V A)) : List Nat := l.flatMap (idsA hp)
/-- the numbers in a value, and those in the variables that it names -/
def deep (hp : List (Nat × Blk A)) (v : V A) : List Nat := V.ids 4 v ++ idsAN hp 7 v
def Blk.freeze : Blk A → Blk A
  | .var l _ => .var l true
  | .row e l _ => .row e l true
  | .map l _ => .map l true
def freeze (hp : List (Nat × Blk A)) (ids : List Nat) : List (Nat × Blk A) := List.rec (motive := fun _ => List (Nat × Blk A)) hp (fun i _ hp => match look hp i with | some b => setk hp i b.freeze | none => hp) ids

/-! Renaming; what is not named becomes unknown -/
def V.ren1 (f : Nat → Option Nat) (ih : V A → V A) (v : V A) : V A := match v with
  | .own i => (match f i with | some j => .own j | none => .unk)
  | .ptr i o => (match f i with | some j => .ptr j o | none => .unk)
  | .elt e i a o => (match f i with | some j => .elt e j a o | none => .unk)
  | .mapr i => (match f i with | some j => .mapr j | none => .unk)
  | .agg l => .agg (l.map ih) | .tup l => .tup (l.map ih) | .fn g l => .fn g (l.map ih) | .meth g l => .meth g (l.map ih)
  | .rel l => (match l.all (V.pure 4) with | true => .rel l | false => .unk)
  | .int k n => .int k n | .bool b => .bool b | .str s => .str s | .nils => .nils | .ro e l => .ro e l | .glob g => .glob g | .nul c => .nul c | .unk => .unk
def V.ren (f : Nat → Option Nat) : Nat → V A → V A := fun n => Nat.rec (motive := fun _ => V A → V A) (fun _ => .unk) (fun _ ih => V.ren1 f ih) n
def ML.ren (f : Nat → Option Nat) : ML A → ML A
  | .pl l => .pl (l.map fun p => (V.ren f 3 p.1, V.ren f 3 p.2))
  | .ty kt vt l => .ty kt vt l
def ML.ids : ML A → List Nat
  | .pl l => l.flatMap fun p => V.ids 3 p.1 ++ V.ids 3 p.2
  | .ty _ _ _ => []
def ML.len : ML A → Nat
  | .pl l => l.length
  | .ty _ _ l => l.length
def Blk.ren (f : Nat → Option Nat) : Blk A → Blk A
  | .var l z => .var (l.map (V.ren f 3)) z
  | .row e l z => .row e l z
  | .map l z => .map (l.ren f) z
def Blk.ids : Blk A → List Nat
  | .var l _ => l.flatMap (V.ids 3)
  | .row _ _ _ => []
  | .map l _ => l.ids
def memN (i : Nat) (l : List Nat) : Bool := List.rec (motive := fun _ => Bool) false (fun x _ r => match Nat.beq x i with | true => true | false => r) l
def posN (l : List Nat) (i : Nat) : Option Nat := List.rec (motive := fun _ => Nat → Option Nat) (fun _ => none) (fun x _ r n => match Nat.beq x i with | true => some n | false => r (n + 1)) l 0
def reach (hp : List (Nat × Blk A)) : Nat → List Nat → List Nat → List Nat := fun n => Nat.rec (motive := fun _ => List Nat → List Nat → List Nat) (fun _ d => d) (fun _ ih t d => match t with
  | [] => d
  | i :: r => (match memN i d with
    | true => ih r d
    | false => (match look hp i with
      | some b => ih (b.ids ++ r) (d ++ [i])
      | none => ih r d))) n
def renHp (hp : List (Nat × Blk A)) (f : Nat → Option Nat) (ord : List Nat) : List (Nat × Blk A) := ord.filterMap fun i => match look hp i, f i with | some b, some j => some (j, b.ren f) | _, _ => none
def renEnv (f : Nat → Option Nat) (e : List (Nat × V A)) : List (Nat × V A) := e.map fun p => (p.1, p.2.ren f 3)
/-- what stands in these places alone; the call's own blocks numbered anew -/
def canonEnv (st : St A) (env : List (Nat × V A)) : St A :=
  let ord := reach st.hp 4096 (env.flatMap (fun p => p.2.ids 3) ++ st.stk.flatMap fun e => e.flatMap fun p => p.2.ids 3) []
  let f := posN ord
  { env := renEnv f env, stk := st.stk.map (renEnv f), hp := renHp st.hp f ord, nx := ord.length }
def keepEnv (env : List (Nat × V A)) (ks : List (Nat × Option Nat)) : List (Nat × V A) := ks.filterMap fun k => match look env k.1 with | some v => some (k.1, v) | none => none
/-- nil slices in these places, as rows of the call's own -/
def opens (T : Tab) (st : St T.A) (ks : List (Nat × Option Nat)) : St T.A := ks.foldl (fun st k => match k.2, look st.env k.1 with
  | some e, some .nils => match T.known e with | true => { st with env := (k.1, .own st.nx) :: st.env, hp := (st.nx, .row e [] false) :: st.hp, nx := st.nx + 1 } | false => st
  | _, _ => st) st
def canon (T : Tab) (st : St T.A) (ks : List (Nat × Option Nat)) : St T.A := let s := opens T st ks; canonEnv s (keepEnv s.env ks)
def canonRes (v : V A) (st : St A) : Res A :=
  let ord := reach st.hp 4096 (v.ids 3) []
  let f := posN ord
  (v.ren f 3, renHp st.hp f ord)
end
end Go.Proofs.YtpbpebjfglfjfaaGreatDoor.X
