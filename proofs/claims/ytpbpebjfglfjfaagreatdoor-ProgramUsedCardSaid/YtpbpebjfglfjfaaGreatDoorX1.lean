/-
  THE EXECUTOR: one operation, a region, Code.
-/
import Derived.Test.YtpbpebjfglfjfaaGreatDoorX0
set_option autoImplicit false
set_option linter.unusedVariables false
namespace Go.Proofs.YtpbpebjfglfjfaaGreatDoor.X
open Go
noncomputable section
def mxI (x y : Int) : Int := if y > x then y else x
def mnI (x y : Int) : Int := if y < x then y else x
/-- two numbers -/
def intOp {A : Nat → Type} {R : Type} (op : BinOp) (k yk : IntKind) (x y : Int) (K : V A → Option R) : Option R := match op with
  | .shl => if 0 ≤ y then K (.int k (k.wrap (x * 2 ^ (min y.toNat k.bits)))) else none
  | .shr => if 0 ≤ y then K (.int k (x.fdiv (2 ^ (min y.toNat k.bits)))) else none
  | _ => match decide (k = yk) with
    | false => none
    | true => match op with
      | .add => K (.int k (k.wrap (x + y)))
      | .sub => K (.int k (k.wrap (x - y)))
      | .mul => K (.int k (k.wrap (x * y)))
      | .quo => if y = 0 then none else K (.int k (k.wrap (x.tdiv y)))
      | .rem => if y = 0 then none else K (.int k (x.tmod y))
      | .and => K (.int k (bits .and k x y))
      | .or => K (.int k (bits .or k x y))
      | .xor => K (.int k (bits .xor k x y))
      | .andNot => K (.int k (bits .andNot k x y))
      | .eql => K (.bool (decide (x = y)))
      | .neq => K (.bool (!decide (x = y)))
      | .lss => K (.bool (decide (x < y)))
      | .leq => K (.bool (decide (x ≤ y)))
      | .gtr => K (.bool (decide (x > y)))
      | .geq => K (.bool (decide (x ≥ y)))
      | _ => none
def strOp {A : Nat → Type} {R : Type} (op : BinOp) (x y : ByteArray) (K : V A → Option R) : Option R := match op with
  | .add => if x.size + y.size < 4611686018427387904 then K (.str (catB x y)) else none
  | .eql => K (.bool (eqB x y))
  | .neq => K (.bool (!eqB x y))
  | .lss => K (.bool (ltB x y))
  | .leq => K (.bool (ltB x y || eqB x y))
  | .gtr => K (.bool (!(ltB x y || eqB x y)))
  | .geq => K (.bool (!ltB x y))
  | _ => none
/-- a struct whose fields are numbers, texts, truths -/
def eqF1 {A : Nat → Type} (P : Program) (f : Field) (k : Nat) (x y : V A) (r : Option Bool) : Option Bool := match Nat.beq f.offset k && (f.name != "_"), P.underlying f.type, x, y, r with
    | true, some (.int _), .int j m, .int q n, some r => (match decide (j = q) with | true => some (decide (m = n) && r) | false => none)
    | true, some .string, .str m, .str n, some r => some (eqB m n && r)
    | true, some .bool, .bool m, .bool n, some r => some ((m == n) && r)
    | _, _, _, _, _ => none
def eqF0 {A : Nat → Type} (a b : List (V A)) : Option Bool := match a, b with | [], [] => some true | _, _ => none
def eqF {A : Nat → Type} (P : Program) (fs : List Field) : Nat → List (V A) → List (V A) → Option Bool := List.rec (motive := fun _ => Nat → List (V A) → List (V A) → Option Bool) (fun _ a b => eqF0 a b) (fun f _ ih k a b => match a, b with
  | x :: a, y :: b => eqF1 P f k x y (ih (k + 1) a b)
  | _, _ => none) fs
def eqS {A : Nat → Type} (P : Program) (t : Nat) (a b : List (V A)) : Option Bool := match P.underlying t with
  | some (.struct fs) => (match P.stoodInHeld t, P.eqGuardType P.depth t with | false, false => eqF P fs.toList 0 a b | _, _ => none)
  | _ => none
/-- structs in structs -/
def and2 (o r : Option Bool) : Option Bool := match o, r with | some p, some q => some (p && q) | _, _ => none
def eqFs1 {A : Nat → Type} (ih : Nat → V A → V A → Option Bool) (t : Nat) (n : Bool) (u v : Option (V A)) (r : Option Bool) : Option Bool := match n, u, v with | true, some x, some y => and2 (ih t x y) r | _, _, _ => none
def eqFs {A : Nat → Type} (P : Program) (ih : Nat → V A → V A → Option Bool) (a b : List (V A)) (fs : List Field) : Option Bool := List.rec (motive := fun _ => Option Bool) (some true) (fun f _ r => eqFs1 ih f.type (f.name != "_") (pickV P f.type (dropN f.offset a)) (pickV P f.type (dropN f.offset b)) r) fs
def eqD1 {A : Nat → Type} (P : Program) (ih : Nat → V A → V A → Option Bool) (t : Nat) (x y : V A) : Option Bool := match P.underlying t, x, y with
  | some (.int _), .int j m, .int q n => (match decide (j = q) with | true => some (decide (m = n)) | false => none)
  | some .string, .str m, .str n => some (eqB m n)
  | some .bool, .bool m, .bool n => some (m == n)
  | some (.struct fs), .agg a, .agg b => (match P.stoodInHeld t with | false => eqFs P ih a b fs.toList | true => none)
  | _, _, _ => none
def eqD {A : Nat → Type} (P : Program) : Nat → Nat → V A → V A → Option Bool := fun n => Nat.rec (motive := fun _ => Nat → V A → V A → Option Bool) (fun _ _ _ => none) (fun _ ih => eqD1 P ih) n
def eqA {A : Nat → Type} (P : Program) (t : Nat) (a b : List (V A)) : Option Bool := match eqS P t a b with
  | some r => some r
  | none => (match P.eqGuardType P.depth t with | false => eqD P 4 t (.agg a) (.agg b) | true => none)
/-- beside nil: a slice, a pointer, a function -/
def nilEq {A : Nat → Type} (P : Program) (t : Nat) (x y : V A) : Option Bool := match P.underlying t, x, y with
  | some (.slice _), .nils, .nils => some true
  | some (.slice _), .ro _ (_ :: _), .nils => some false
  | some (.slice _), .nul (.slice (some _) _ _), .nils => some false
  | some (.slice _), .nul (.slice none _ _), .nils => some true
  | some (.pointer _), .nul (.pointer none), .nul (.pointer none) => some true
  | some (.pointer _), .ptr _ _, .nul (.pointer none) => some false
  | some (.pointer _), .elt _ _ _ _, .nul (.pointer none) => some false
  | some (.pointer _), .rel _, .nul (.pointer none) => some false
  | some (.func _ _ _), .nul .nilFunc, .nul .nilFunc => some true
  | some (.func _ _ _), .fn _ _, .nul .nilFunc => some false
  | _, _, _ => none
def nilOp {A : Nat → Type} {R : Type} (op : BinOp) (b : Option Bool) (K : V A → Option R) : Option R := match b with
  | some b => (match op with | .eql => K (.bool b) | .neq => K (.bool (!b)) | _ => none)
  | none => none
def binV {A : Nat → Type} {R : Type} (P : Program) (op : BinOp) (t : Nat) (x y : V A) (K : V A → Option R) : Option R := match x, y with
  | .int k a, .int j b => intOp op k j a b K
  | .str a, .str b => strOp op a b K
  | .bool a, .bool b => (match P.underlying t with | some .bool => (match op with | .eql => K (.bool (a == b)) | .neq => K (.bool (!(a == b))) | _ => none) | _ => none)
  | .agg a, .agg b => (match eqA P t a b with | some r => (match op with | .eql => K (.bool r) | .neq => K (.bool (!r)) | _ => none) | none => none)
  | x, y => nilOp op (nilEq P t x y) K
def unV {A : Nat → Type} {R : Type} (op : UnOp) (x : V A) (K : V A → Option R) : Option R := match op, x with
  | .neg, .int k n => K (.int k (k.wrap (0 - n)))
  | .not, .bool b => K (.bool (!b))
  | _, _ => none
def convV {A : Nat → Type} {R : Type} (P : Program) (s t : Nat) (x : V A) (K : V A → Option R) : Option R := match P.underlying s, P.underlying t, x with
  | some (.int _), some (.int k), .int _ n => K (.int k (k.wrap n))
  | some .string, some .string, .str s => K (.str s)
  | _, _, _ => none
variable (E : Env) {R : Type}
abbrev VE (E : Env) := V E.T.A
abbrev SE (E : Env) := St E.T.A
def loadV (st : SE E) (t : Nat) (a : VE E) (K : VE E → Option R) : Option R := match a with
  | .ptr i off => (match look st.hp i with | some (.var l _) => (match pickV E.P t (dropN off l) with | some v => v.force K | none => none) | _ => none)
  | .elt e i j off => (match look st.hp i with
    | some (.row e' l _) => if h : e' = e then (match pickV E.P t (dropN off (E.T.enc e (gt (E.T.dflt e) (h ▸ l) j))) with | some v => v.force K | none => none) else none
    | _ => none)
  | .rel cs => (match pickV E.P t cs with | some v => v.force K | none => none)
  | _ => none
def storeV (st : SE E) (t : Nat) (a x : VE E) (K : SE E → Option R) : Option R := match Nat.beq x.cells.length (szT E.P t), oneL x.cells, Nat.beq (szT E.P t) 0 with
  | true, true, false => (match a with
    | .ptr i off => (match look st.hp i with | some (.var l false) => (match putN x.cells off l with | some l' => K { st with hp := setk st.hp i (.var l' false) } | none => none) | _ => none)
    | .elt e i j off => (match look st.hp i with
      | some (.row e' l false) => if h : e' = e then (match shutL st.hp x.cells with
          | some cs => (match putN cs off (E.T.enc e (gt (E.T.dflt e) (h ▸ l) j)) with
            | some cs' => (match E.T.dec e cs' with
              | some y => (match memN i (x.cells.flatMap (V.ids 2)) with
                | false => K { st with hp := setk (freeze st.hp (x.cells.flatMap (V.ids 2))) i (.row e ((h ▸ l : List (E.T.A e)).set j y) false) }
                | true => none)
              | none => none)
            | none => none)
          | none => none) else none
      | _ => none)
    | _ => none)
  | _, _, _ => none
def fieldOff (P : Program) (s f : Nat) : Option (Nat × Nat) := match P.underlying s with
  | some (.struct fs) => (match fs[f]? with | some x => (match Nat.beq (szT P x.type) 0 with | true => none | false => some (x.offset, x.type)) | none => none)
  | _ => none
def fieldAddrV {A : Nat → Type} {R : Type} (P : Program) (s f : Nat) (a : V A) (K : V A → Option R) : Option R := match fieldOff P s f, a with
  | some (o, _), .ptr i off => K (.ptr i (off + o))
  | some (o, _), .elt e i j off => K (.elt e i j (off + o))
  | some (o, _), .rel cs => K (.rel (dropN o cs))
  | _, _ => none
def fieldV {A : Nat → Type} {R : Type} (P : Program) (s f : Nat) (a : V A) (K : V A → Option R) : Option R := match fieldOff P s f, a with
  | some (o, t), .agg cs => (match pickV P t (dropN o cs) with | some v => v.force K | none => none)
  | _, _ => none
def indexAddrV (st : SE E) (t : Nat) (x i : VE E) (K : VE E → Option R) : Option R := match E.P.underlying t, x, i with
  | some (.slice e'), .ro e l, .int _ n => (match Nat.beq e' e with | true => if 0 ≤ n then if n < (l.length : Int) then K (.rel (E.T.enc e (gt (E.T.dflt e) l n.toNat))) else none else none | false => none)
  | some (.slice e'), .own id, .int _ n => (match look st.hp id with | some (.row e l _) => (match Nat.beq e' e with | true => if 0 ≤ n then if n < (l.length : Int) then K (.elt e id n.toNat 0) else none else none | false => none) | _ => none)
  | some (.array m e), .ptr id off, .int _ n => if 0 ≤ n then if n < (m : Int) then (match Nat.beq (szT E.P e) 0 with | false => K (.ptr id (off + n.toNat * szT E.P e)) | true => none) else none else none
  | some (.array m e), .rel cs, .int _ n => if 0 ≤ n then if n < (m : Int) then (match Nat.beq (szT E.P e) 0 with | false => K (.rel (dropN (n.toNat * szT E.P e) cs)) | true => none) else none else none
  | _, _, _ => none
def indexV {A : Nat → Type} {R : Type} (P : Program) (t : Nat) (x i : V A) (K : V A → Option R) : Option R := match P.underlying t, x, i with
  | some .string, .str s, .int _ n => if 0 ≤ n then if n < (s.size : Int) then K (.int .u8 (byteAt s n)) else none else none
  | some (.array m e), .agg cs, .int _ n => if 0 ≤ n then if n < (m : Int) then (match pickV P e (dropN (n.toNat * szT P e) cs) with | some v => v.force K | none => none) else none else none
  | _, _, _ => none
def boundsV {A : Nat → Type} {R : Type} (lo hi : Option (V A)) (n : Nat) (k : Nat → Nat → Option R) : Option R := match lo, hi with
    | none, none => k 0 n
    | some (.int _ l), none => if 0 ≤ l then if l ≤ (n : Int) then k l.toNat n else none else none
    | none, some (.int _ h) => if 0 ≤ h then if h ≤ (n : Int) then k 0 h.toNat else none else none
    | some (.int _ l), some (.int _ h) => if 0 ≤ l then if l ≤ h then if h ≤ (n : Int) then k l.toNat h.toNat else none else none else none
    | _, _ => none
def sliceV (st : SE E) (t : Nat) (x : VE E) (lo hi : Option (VE E)) (K : VE E → SE E → Option R) : Option R :=
  match E.P.underlying t, x with
  | some .string, .str s => boundsV lo hi s.size fun l h => K (.str (subB s l h)) st
  | some (.slice e'), .ro e l => (match Nat.beq e' e with | true => boundsV lo hi l.length fun a b => K (.ro e ((l.take b).drop a)) st | false => none)
  | some (.slice e'), .own id => (match look st.hp id with | some (.row e l _) => (match Nat.beq e' e with | true => boundsV lo hi l.length fun a b => K (.ro e ((l.take b).drop a)) { st with hp := freeze st.hp [id] } | false => none) | _ => none)
  | _, _ => none
/-- xs[lo:] of a row of the call's own, which is taken over -/
def sliceW (st : SE E) (nb t : Nat) (x lo : VE E) (K : VE E → SE E → Option R) : Option R := match E.P.underlying t, x, lo with
  | some (.slice e'), .own id, .int k n => (match look st.hp id with
    | some (.row e l false) => (match Nat.beq e' e with
      | true => if 0 ≤ n then if n ≤ (l.length : Int) then K (.own nb) { st with hp := (nb, .row e (l.drop n.toNat) false) :: delk st.hp id, nx := nb + 1 } else none else none
      | false => none)
    | _ => sliceV E st t (.own id) (some (.int k n)) none K)
  | _, x, lo => sliceV E st t x (some lo) none K
def mvSlice (o : Oper) : Option (Nat × Operand × Operand) := match o.op with | .slice t x (some lo) none none => some (t, x, lo) | _ => none
/-- the cells of parts put into zeros -/
def fill1 {A : Nat → Type} (place : Nat → Option (Nat × Nat)) (p : Nat × V A) (ih : List (V A) → Option (List (V A))) (z : List (V A)) : Option (List (V A)) := match place p.1 with
  | some (off, size) => (match Nat.beq p.2.cells.length size, oneL p.2.cells with | true, true => (match putN p.2.cells off z with | some z' => ih z' | none => none) | _, _ => none)
  | none => none
def fillV {A : Nat → Type} (place : Nat → Option (Nat × Nat)) (parts : List (Nat × V A)) : List (V A) → Option (List (V A)) := List.rec (motive := fun _ => List (V A) → Option (List (V A))) (fun z => some z) (fun p _ ih z => fill1 place p ih z) parts
def buildV {A : Nat → Type} {R : Type} (P : Program) (t : Nat) (parts : List (Nat × V A)) (K : V A → Option R) : Option R := match zerosT P t with
  | none => none
  | some z => match P.underlying t with
    | some (.struct fs) => (match mapO (fun f : Field => (P.info? f.type).map fun i => (f.offset, i.size)) fs.toList with | some places => (match fillV (nth places) parts z with | some cs => K (.agg cs) | none => none) | none => none)
    | some (.array _ e) => (match P.info? e with | some ie => (match fillV (fun i => some (i * ie.size, ie.size)) parts z with | some cs => K (.agg cs) | none => none) | none => none)
    | _ => none
/-- the elements of a slice literal -/
def lit1 (T : Tab) (P : Program) (hp : List (Nat × Blk T.A)) (e : Nat) (p : Nat × V T.A) (n : Nat) (r : Option (List (T.A e))) : Option (List (T.A e)) := match Nat.beq p.1 n, Nat.beq p.2.cells.length (szT P e), oneL p.2.cells, shutL hp p.2.cells with
  | true, true, true, some cs => (match T.dec e cs, r with | some x, some r => some (x :: r) | _, _ => none)
  | _, _, _, _ => none
def litV (T : Tab) (P : Program) (hp : List (Nat × Blk T.A)) (e : Nat) (parts : List (Nat × V T.A)) : Nat → Option (List (T.A e)) := List.rec (motive := fun _ => Nat → Option (List (T.A e))) (fun _ => some []) (fun p _ ih n => lit1 T P hp e p n (ih (n + 1))) parts
def buildSliceV (st : SE E) (nb : Nat) (t len : Nat) (parts : List (Nat × VE E)) (K : VE E → SE E → Option R) : Option R := match elemT E.P t with
  | none => none
  | some e => match E.T.known e, Nat.beq parts.length len, Nat.ble (len * szT E.P e) 16777216, litV E.T E.P st.hp e parts 0 with
    | true, true, true, some l => K (.own nb) { st with hp := (nb, .row e l false) :: freeze st.hp (parts.flatMap fun p => p.2.cells.flatMap (V.ids 2)), nx := nb + 1 }
    | _, _, _, _ => none
def makeSliceV (st : SE E) (nb : Nat) (t : Nat) (n c : VE E) (K : VE E → SE E → Option R) : Option R := match elemT E.P t, n, c with
  | some e, .int _ n, .int _ c => (match E.T.known e, zerosT (A := E.T.A) E.P e with
    | true, some z => (match E.T.dec e z with
      | some y => if 0 ≤ n then if n ≤ c then if c ≤ 16777216 then K (.own nb) { st with hp := (nb, .row e (List.replicate n.toNat y) false) :: st.hp, nx := nb + 1 } else none else none else none
      | none => none)
    | _, _ => none)
  | _, _, _ => none
/-- what is appended -/
def srcV (st : SE E) (e : Nat) (x : VE E) : Option (List (E.T.A e)) := match x with
  | .ro e' m => if h : e' = e then some (h ▸ m) else none
  | .own i => (match look st.hp i with
    | some (.row e' m _) => if h : e' = e then some (h ▸ m) else none
    | _ => none)
  | .nul (.slice _ 0 _) => some []
  | _ => none
def appendV (st : SE E) (nb : Nat) (t : Nat) (s x : VE E) (K : VE E → SE E → Option R) : Option R := match elemT E.P t with
  | none => none
  | some e => match E.T.known e, srcV E st e x with
    | true, some m => (match s with
      | .nils => if m.length < 16777216 then K (.own nb) { st with hp := (nb, .row e m false) :: st.hp, nx := nb + 1 } else none
      | .own i => (match look st.hp i with
        | some (.row e' l false) => if h : e' = e then (if l.length + m.length < 16777216 then K (.own nb) { st with hp := (nb, .row e ((h ▸ l : List (E.T.A e)) ++ m) false) :: delk st.hp i, nx := nb + 1 } else none) else none
        | _ => none)
      | _ => none)
    | _, _ => none
/-- the keys of maps: numbers and texts -/
def keyEq {A : Nat → Type} (k x : V A) : Option Bool := match k, x with
  | .int j a, .int j' b => (match decide (j = j') with | true => some (decide (a = b)) | false => none)
  | .str a, .str b => some (eqB a b)
  | _, _ => none
/-- rows of one cell as keys -/
def keyE {A : Nat → Type} (a b : List (V A)) : Option Bool := match a, b with | x :: _, y :: _ => keyEq x y | _, _ => none
def find1 {A : Nat → Type} (b : Option Bool) (v : V A) (ih : Option (Option (V A))) : Option (Option (V A)) := match b with | some true => some (some v) | some false => ih | none => none
def findV {A : Nat → Type} (k : V A) (l : List (V A × V A)) : Option (Option (V A)) := List.rec (motive := fun _ => Option (Option (V A))) (some none) (fun p _ ih => find1 (keyEq k p.1) p.2 ih) l
def upd1 {A : Nat → Type} (b : Option Bool) (k v : V A) (p : V A × V A) (r : List (V A × V A)) (ih : Option (List (V A × V A))) : Option (List (V A × V A)) := match b with
  | some true => some ((k, v) :: r)
  | some false => (match ih with | some l => some (p :: l) | none => none)
  | none => none
def updV {A : Nat → Type} (k v : V A) (l : List (V A × V A)) : Option (List (V A × V A)) := List.rec (motive := fun _ => Option (List (V A × V A))) (some [(k, v)]) (fun p r ih => upd1 (keyEq k p.1) k v p r ih) l
def keyT {A : Nat → Type} (P : Program) (kt : Nat) (k : V A) : Bool := match P.underlying kt, k with
  | some (.int _), .int _ _ => true
  | some .string, .str _ => true
  | _, _ => false
def zeroV {A : Nat → Type} (P : Program) (t : Nat) : Option (V A) := match P.info? t with
  | some i => (match i.zero with
    | some (.agg cs) => some (.agg (cs.toList.map cv))
    | some z => some (cv z)
    | none => none)
  | none => none
def entriesV (st : SE E) (x : VE E) : Option (ML E.T.A) := match x with
  | .mapr i => (match look st.hp i with | some (.map l _) => some l | _ => none)
  | .nul (.map none) => some (.pl [])
  | _ => none
/-- an element of a known kind as a value, and back -/
def valV (T : Tab) (P : Program) (e : Nat) (x : T.A e) : V T.A := match aggT P e with | some true => .agg (T.enc e x) | _ => (match T.enc e x with | v :: _ => v | [] => .unk)
def decV (T : Tab) (P : Program) (e : Nat) (v : V T.A) : Option (T.A e) := match aggT P e, v with
  | some true, .agg cs => T.dec e cs
  | some false, .agg _ => none
  | some false, v => T.dec e [v]
  | _, _ => none
def encP (T : Tab) (P : Program) (kt vt : Nat) (p : T.A kt × T.A vt) : V T.A × V T.A := (valV T P kt p.1, valV T P vt p.2)
def eqK (T : Tab) (P : Program) (kt : Nat) (a b : T.A kt) : Bool := match keyEq (valV T P kt a) (valV T P kt b) with | some r => r | none => false
def tlook (T : Tab) (P : Program) (kt vt : Nat) (k : T.A kt) (l : List (T.A kt × T.A vt)) : Option (T.A vt) := List.rec (motive := fun _ => Option (T.A vt)) none (fun p _ ih => match eqK T P kt k p.1 with | true => some p.2 | false => ih) l
def tupd (T : Tab) (P : Program) (kt vt : Nat) (k : T.A kt) (v : T.A vt) (l : List (T.A kt × T.A vt)) : List (T.A kt × T.A vt) := List.rec (motive := fun _ => List (T.A kt × T.A vt)) [(k, v)] (fun p r ih => match eqK T P kt k p.1 with | true => (k, v) :: r | false => p :: ih) l
def getO {α : Type} (d : α) (o : Option α) : α := match o with | some x => x | none => d
def isO {α : Type} (o : Option α) : Bool := match o with | some _ => true | none => false
def goodT (T : Tab) (kt vt : Nat) : Bool := match T.known kt, T.known vt with | true, true => T.key kt | _, _ => false
def lookOk {A : Nat → Type} {R : Type} (ok : Bool) (v : V A) (b : Bool) (K : V A → Option R) : Option R := match ok with | true => K (.tup [v, .bool b]) | false => v.force K
def lookTy {R : Type} (kt vt : Nat) (l : List (E.T.A kt × E.T.A vt)) (k : VE E) (ok : Bool) (K : VE E → Option R) : Option R := match goodT E.T kt vt, decV E.T E.P kt k, zeroV (A := E.T.A) E.P vt with
  | true, some key, some zv => (match keyT E.P kt (valV E.T E.P kt key), decV E.T E.P vt zv with
    | true, some z => lookOk ok (valV E.T E.P vt (getO z (tlook E.T E.P kt vt key l))) (isO (tlook E.T E.P kt vt key l)) K
    | _, _ => none)
  | _, _, _ => none
def find2 {R : Type} (b : Option Bool) (s ih : Option R) : Option R := match b with | some t => if t = true then s else ih | none => none
/-- the entries one after the other, each with its own way on -/
def findK {A : Nat → Type} {R : Type} (k : V A) (S : V A → Option R) (N : Option R) (l : List (V A × V A)) : Option R := List.rec (motive := fun _ => Option R) N (fun p _ ih => find2 (keyEq k p.1) (S p.2) ih) l
theorem findK_eq {A : Nat → Type} {R : Type} (k : V A) (S : V A → Option R) (N : Option R) (l : List (V A × V A)) : findK k S N l = match findV k l with | some (some v) => S v | some none => N | none => none := by
  induction l with
  | nil => rfl
  | cons p l ih =>
    have e1 : findK k S N (p :: l) = find2 (keyEq k p.1) (S p.2) (findK k S N l) := rfl
    have e2 : findV k (p :: l) = find1 (keyEq k p.1) p.2 (findV k l) := rfl
    rw [e1, e2, ih]
    cases keyEq k p.1 with
    | none => rfl
    | some t => cases t <;> rfl
def lookNo {R : Type} (vt : Nat) (ok : Bool) (K : VE E → Option R) : Option R := match zeroV E.P vt with | some z => lookOk ok z false K | none => none
def lookPl {R : Type} (kt vt : Nat) (l : List (VE E × VE E)) (k : VE E) (ok : Bool) (K : VE E → Option R) : Option R := match keyT E.P kt k with
  | true => findK k (fun v => lookOk ok v true K) (lookNo E vt ok K) l
  | false => none
theorem lookPl_eq {R : Type} (kt vt : Nat) (l : List (VE E × VE E)) (k : VE E) (ok : Bool) (K : VE E → Option R) : lookPl E kt vt l k ok K = match keyT E.P kt k with
  | true => (match findV k l with
      | some (some v) => lookOk ok v true K
      | some none => (match zeroV E.P vt with | some z => lookOk ok z false K | none => none)
      | none => none)
  | false => none := by
  unfold lookPl
  split
  · rw [findK_eq]; unfold lookNo; cases findV k l with | none => rfl | some o => cases o <;> rfl
  · rfl
def lookupV {R : Type} (st : SE E) (t : Nat) (x k : VE E) (ok : Bool) (K : VE E → Option R) : Option R := match E.P.underlying t with
  | some (.map kt vt) => (match entriesV E st x with
    | some (.pl l) => lookPl E kt vt l k ok K
    | some (.ty kt' vt' l) => (match Nat.beq kt' kt, Nat.beq vt' vt with | true, true => lookTy E kt' vt' l k ok K | _, _ => none)
    | none => none)
  | _ => none
def updTy (kt vt : Nat) (l : List (E.T.A kt × E.T.A vt)) (k v : VE E) : Option (ML E.T.A) := match goodT E.T kt vt, decV E.T E.P kt k, decV E.T E.P vt v with
  | true, some key, some y => (match keyT E.P kt (valV E.T E.P kt key), v.pure 2 with | true, true => some (.ty kt vt (tupd E.T E.P kt vt key y l)) | _, _ => none)
  | _, _, _ => none
def updPl (kt : Nat) (l : List (VE E × VE E)) (k v : VE E) : Option (ML E.T.A) := match keyT E.P kt k with | true => (match updV k v l with | some l' => some (.pl l') | none => none) | false => none
def updM (kt vt : Nat) (m : ML E.T.A) (k v : VE E) : Option (ML E.T.A) := match m with
  | .pl l => updPl E kt l k v
  | .ty kt' vt' l => (match Nat.beq kt' kt, Nat.beq vt' vt with | true, true => updTy E kt' vt' l k v | _, _ => none)
def mapUpdateV {R : Type} (st : SE E) (t : Nat) (x k v : VE E) (K : SE E → Option R) : Option R := match E.P.underlying t with
  | some (.map kt vt) => (match x with
    | .mapr i => (match look st.hp i with
      | some (.map l false) => (match updM E kt vt l k v with | some l' => K { st with hp := setk st.hp i (.map l' false) } | none => none)
      | _ => none)
    | _ => none)
  | _ => none
def newM (T : Tab) (P : Program) (t : Nat) : ML T.A := match P.underlying t with
  | some (.map kt vt) => (match goodT T kt vt with | true => .ty kt vt [] | false => .pl [])
  | _ => .pl []
def lenV {R : Type} (st : SE E) (t : Nat) (x : VE E) (K : VE E → Option R) : Option R := match E.P.underlying t, x with
  | some .string, .str s => K (.int .i64 (s.size : Int))
  | some (.slice _), .nils => K (.int .i64 0)
  | some (.slice _), .ro _ l => K (.int .i64 (l.length : Int))
  | some (.slice _), .own i => (match look st.hp i with | some (.row _ l _) => K (.int .i64 (l.length : Int)) | _ => none)
  | some (.array n _), _ => K (.int .i64 (n : Int))
  | some (.map _ _), .mapr i => (match look st.hp i with | some (.map l _) => K (.int .i64 (l.len : Int)) | _ => none)
  | _, _ => none
def fold1 {A : Nat → Type} (g : Int → Int → Int) (k : IntKind) (x : V A) (ih : Int → Option (V A)) (a : Int) : Option (V A) := match x with | .int j b => (match decide (j = k) with | true => ih (g a b) | false => none) | _ => none
def foldI {A : Nat → Type} (g : Int → Int → Int) (k : IntKind) (xs : List (V A)) : Int → Option (V A) := List.rec (motive := fun _ => Int → Option (V A)) (fun a => some (.int k a)) (fun x _ ih a => fold1 g k x ih a) xs
def extremeV {A : Nat → Type} {R : Type} (g : Int → Int → Int) (xs : List (V A)) (K : V A → Option R) : Option R := match xs with
  | .int k a :: r => (match foldI g k r a with | some v => K v | none => none)
  | _ => none
def partsV {A : Nat → Type} (st : St A) (ps : List (Nat × Operand)) : List (Nat × V A) := ps.map fun p => (p.1, st.ev p.2)
/-- One operation that is no call of a function; 'nb': the number of what it makes. -/
def opv (st : SE E) (o : Oper) (nb : Nat) (K : VE E → SE E → Option R) : Option R := match o.op with
  | .move x => (st.ev x).force fun v => K v st
  | .assign x => (st.ev x).force fun v => K v st
  | .pick c a b => (match st.ev c with | .bool t => if t = true then (st.ev a).force fun v => K v st else (st.ev b).force fun v => K v st | _ => none)
  | .alloc t => (match zerosT E.P t with | some z => K (.ptr nb 0) { st with hp := (nb, .var z false) :: st.hp, nx := nb + 1 } | none => none)
  | .box t x => (match Nat.beq (st.ev x).cells.length (szT E.P t), oneL (st.ev x).cells with | true, true => K (.ptr nb 0) { st with hp := (nb, .var (st.ev x).cells false) :: st.hp, nx := nb + 1 } | _, _ => none)
  | .build t ps => buildV E.P t (partsV st ps.toList) fun v => K v st
  | .buildSlice t n ps => buildSliceV E st nb t n (partsV st ps.toList) K
  | .load t a => loadV E st t (st.ev a) fun v => K v st
  | .store t a x => storeV E st t (st.ev a) (st.ev x) fun st' => K .unk st'
  | .nilCheck x => (match st.ev x with | .ptr i f => K (.ptr i f) st | .elt e i j f => K (.elt e i j f) st | .rel c => K (.rel c) st | .fn f c => K (.fn f c) st | _ => none)
  | .binOp op t x y _ => binV E.P op t (st.ev x) (st.ev y) fun v => K v st
  | .unOp op _ x => unV op (st.ev x) fun v => K v st
  | .convert s t x => convV E.P s t (st.ev x) fun v => K v st
  | .makeInterface t x => (match E.P.concrete t with | true => K .unk st | false => none)
  | .makeFunc (.func f) first caps => (match first.toList, caps.toList with | [], c => K (.fn f (c.map st.ev)) st | x :: r, [] => K (.meth f ((x :: r).map st.ev)) st | _, _ => none)
  | .makeSlice t n c => makeSliceV E st nb t (st.ev n) (st.ev c) K
  | .slice t x lo hi none => sliceV E st t (st.ev x) (lo.map st.ev) (hi.map st.ev) K
  | .fieldAddr s x f => fieldAddrV E.P s f (st.ev x) fun v => K v st
  | .field s x f => fieldV E.P s f (st.ev x) fun v => K v st
  | .indexAddr t x i => indexAddrV E st t (st.ev x) (st.ev i) fun v => K v st
  | .index t x i => indexV E.P t (st.ev x) (st.ev i) fun v => K v st
  | .makeMap t none => K (.mapr nb) { st with hp := (nb, .map (newM E.T E.P t) false) :: st.hp, nx := nb + 1 }
  | .lookup t x k ok => lookupV E st t (st.ev x) (st.ev k) ok fun v => K v st
  | .mapUpdate t m k v => mapUpdateV E st t (st.ev m) (st.ev k) (st.ev v) fun st' => K .unk st'
  | .insert t m k v => mapUpdateV E st t (st.ev m) (st.ev k) (st.ev v) fun st' => K .unk st'
  | .extract x i => (match st.ev x with | .tup l => (match nth l i with | some v => v.force fun v => K v st | none => none) | _ => none)
  | .call c => (match c.callee with
    | .builtin .len => (match c.args.toList, c.argTypes.toList with | [x], [t] => lenV E st t (st.ev x) fun v => K v st | _, _ => none)
    | .builtin .append => (match c.args.toList, c.argTypes.toList with | [s, x], [t, u] => (match Nat.beq t u with | true => appendV E st nb t (st.ev s) (st.ev x) K | false => none) | _, _ => none)
    | .builtin .max => extremeV mxI (c.args.toList.map st.ev) fun v => K v st
    | .builtin .min => extremeV mnI (c.args.toList.map st.ev) fun v => K v st
    | _ => none)
  | _ => none

/-- numbers of what comes back, moved on -/
def moved {A : Nat → Type} (nb : Nat) (l : List (Nat × Blk A)) (i : Nat) : Option Nat := match look l i with | some _ => some (nb + i) | none => none
def appHp {A : Nat → Type} (nb : Nat) (f : Nat → Option Nat) (old : List (Nat × Blk A)) (l : List (Nat × Blk A)) : List (Nat × Blk A) := List.rec (motive := fun _ => List (Nat × Blk A)) old (fun p _ ih => (nb + p.1, p.2.ren f) :: ih) l
def maxK {A : Nat → Type} (l : List (Nat × Blk A)) : Nat := List.rec (motive := fun _ => Nat) 0 (fun p _ ih => Nat.max (p.1 + 1) ih) l
/-- after a call: what it has made is taken over -/
def absorb (st : SE E) (nb : Nat) (fr : List Nat) (r : Res E.T.A) (K : VE E → SE E → Option R) : Option R :=
  match r.2 with
  | [] => (match r.1.scalar 3 with
    | true => r.1.force fun v => K v st
    | false => (match r.1.pure 3 with | true => r.1.force fun v => K v { st with hp := freeze st.hp fr } | false => none))
  | b :: bs => (match Nat.ble (maxK (b :: bs)) 64 with | true => (r.1.ren (moved nb (b :: bs)) 3).force fun v => K v { st with hp := appHp nb (moved nb (b :: bs)) (freeze st.hp fr) (b :: bs), nx := nb + maxK (b :: bs) } | false => none)
def bindArgs {A : Nat → Type} (args : List (V A)) : Nat → List (Nat × V A) := List.rec (motive := fun _ => Nat → List (Nat × V A)) (fun _ => []) (fun v _ ih n => (n, v) :: ih (n + 1)) args
/-- the results of a function -/
def res1 (st : SE E) (r : ResultVar) : Option (VE E) := match r with
  | .tmp t => some (st.ev (.tmp t))
  | .cell a t => loadV E st t (st.ev (.tmp a)) some
def resultsV (st : SE E) (rs : List ResultVar) : Option (List (VE E)) := mapO (res1 E st) rs
def resV {A : Nat → Type} (l : List (V A)) : V A := match l with | [v] => v | [] => .tup [] | a :: b :: l => .tup (a :: b :: l)
abbrev Rec (E : Env) := Nat → Code → SE E → (Xit → SE E → Option (Res E.T.A)) → Option (Res E.T.A)
def isoEnd (fn : Func) (st' : SE E) : Option (Res E.T.A) := match resultsV E st' fn.results.toList with | some l => some (canonRes (resV l) st') | none => none
def isoK (fn : Func) (e : Xit) (st' : SE E) : Option (Res E.T.A) := match e with
  | .ex _ => none
  | .norm => isoEnd E fn st'
  | .ret => isoEnd E fn st'
def inlEnd (fn : Func) (K : VE E → SE E → Option (Res E.T.A)) (st' : SE E) : Option (Res E.T.A) := match resultsV E st' fn.results.toList, st'.stk with | some l, env :: stk => (resV l).force fun v => K v { st' with env := env, stk := stk } | _, _ => none
def inlK (fn : Func) (K : VE E → SE E → Option (Res E.T.A)) (e : Xit) (st' : SE E) : Option (Res E.T.A) := match e with
  | .ex _ => none
  | .norm => inlEnd E fn K st'
  | .ret => inlEnd E fn K st'
/-- a function by its own text, from nothing -/
def isoV (ih : Rec E) (f : Nat) (fn : Func) (c : Code) (as : List (VE E)) : Option (Res E.T.A) := ih f c { env := bindArgs as 0, stk := [], hp := [], nx := 0 } (isoK E fn)
def inlV (ih : Rec E) (st : SE E) (f : Nat) (fn : Func) (c : Code) (args : List (VE E)) (K : VE E → SE E → Option (Res E.T.A)) : Option (Res E.T.A) := ih f c { env := bindArgs args 0, stk := st.env :: st.stk, hp := st.hp, nx := st.nx } (inlK E fn K)
def bodyV (ih : Rec E) (st : SE E) (nb : Nat) (f : Nat) (fn : Func) (c : Code) (args : List (VE E)) (K : VE E → SE E → Option (Res E.T.A)) : Option (Res E.T.A) := match E.inl f with
  | true => inlV E ih st f fn c args K
  | false => (match shutL st.hp args with
    | some as => (isoV E ih f fn c as).bind fun r => absorb E st nb (args.flatMap (V.ids 2)) r K
    | none => inlV E ih st f fn c args K)
/-- what a contract says: if its condition holds -/
def conO {A : Nat → Type} (o : Option (Bool × Res A)) : Option (Res A) := match o with | some p => if p.1 = true then some p.2 else none | none => none
def conV {A : Nat → Type} {R : Type} (o : Option (Bool × Res A)) (K : Res A → Option R) : Option R := match o with | some p => if p.1 = true then K p.2 else none | none => none
theorem conV_eq {A : Nat → Type} {R : Type} (o : Option (Bool × Res A)) (K : Res A → Option R) : conV o K = (conO o).bind K := by
  unfold conV conO
  cases o with
  | none => rfl
  | some p =>
    dsimp only
    by_cases h : p.1 = true
    · rw [if_pos h, if_pos h]; rfl
    · rw [if_neg h, if_neg h]; rfl
/-! calls that write behind their arguments: the callee sees what its arguments reach, and nothing else -/
def kindV {A : Nat → Type} (i : Nat) (b : Blk A) : V A := match b with | .var _ _ => .ptr i 0 | .row _ _ _ => .own i | .map _ _ => .mapr i
def ancEnv {A : Nat → Type} (hp : List (Nat × Blk A)) : List (Nat × V A) := hp.map fun p => (p.1, kindV p.1 p.2)
def aidV {A : Nat → Type} (n : Nat) (v : V A) : Nat := match v with | .ptr i _ => i | .own i => i | .mapr i => i | _ => n
def liveO {A : Nat → Type} (b : Option (Blk A)) : Bool := match b with | some b => b.live | none => false
def liveAll {A : Nat → Type} (hp : List (Nat × Blk A)) (ord : List Nat) : Bool := ord.all fun i => liveO (look hp i)
def viewO {A : Nat → Type} (st : St A) (args : List (V A)) : List Nat := reach st.hp 4096 (args.flatMap (V.ids 3)) []
def viewV {A : Nat → Type} (st : St A) (ord : List Nat) (args : List (V A)) : St A := { env := bindArgs (args.map (V.ren (posN ord) 3)) 0, stk := [], hp := renHp st.hp (posN ord) ord, nx := ord.length }
def keysB {α : Type} (l : List (Nat × α)) : Nat → Bool := List.rec (motive := fun _ => Nat → Bool) (fun _ => true) (fun p _ ih j => match Nat.beq p.1 j with | true => ih (j + 1) | false => false) l
def pOrd {A : Nat → Type} (st : St A) (anc : List (Nat × V A)) (v : V A) : List Nat := anc.map (fun p => aidV st.nx p.2) ++ (reach st.hp 4096 (anc.map (fun p => aidV st.nx p.2) ++ v.ids 3) []).filter fun i => !memN i (anc.map (fun p => aidV st.nx p.2))
def pRes {A : Nat → Type} (st : St A) (ord : List Nat) (v : V A) : Res A := (v.ren (posN ord) 3, renHp st.hp (posN ord) ord)
/-- the end: the blocks that were given keep their numbers, what is new follows -/
def pEnd (fn : Func) (n : Nat) (st' : SE E) : Option (Res E.T.A) := match resultsV E st' fn.results.toList, st'.stk with
  | some l, [anc] => (match keysB anc 0, Nat.beq anc.length n with | true, true => some (pRes st' (pOrd st' anc (resV l)) (resV l)) | _, _ => none)
  | _, _ => none
def pK (fn : Func) (n : Nat) (e : Xit) (st' : SE E) : Option (Res E.T.A) := match e with
  | .ex _ => none
  | .norm => pEnd E fn n st'
  | .ret => pEnd E fn n st'
def pV (ih : Rec E) (f : Nat) (fn : Func) (c : Code) (st : SE E) : Option (Res E.T.A) := match keysB st.hp 0, Nat.beq st.hp.length st.nx with | true, true => ih f c { st with stk := [ancEnv st.hp] } (pK E fn st.nx) | _, _ => none
def bkI (ord : List Nat) (nb j : Nat) : Nat := match nth ord j with | some i => i | none => nb + (j - ord.length)
def bkF {A : Nat → Type} (ord : List Nat) (nb : Nat) (l : List (Nat × Blk A)) (j : Nat) : Option Nat := match look l j with | some _ => some (bkI ord nb j) | none => none
def bkHp {A : Nat → Type} (f : Nat → Option Nat) (old l : List (Nat × Blk A)) : List (Nat × Blk A) := List.rec (motive := fun _ => List (Nat × Blk A)) old (fun p _ ih => match f p.1 with | some i => (i, p.2.ren f) :: ih | none => ih) l
def delAll {A : Nat → Type} (hp : List (Nat × Blk A)) (ord : List Nat) : List (Nat × Blk A) := List.rec (motive := fun _ => List (Nat × Blk A)) [] (fun p _ ih => match memN p.1 ord with | true => ih | false => p :: ih) hp
def pAbs {R : Type} (st : SE E) (nb : Nat) (ord : List Nat) (r : Res E.T.A) (K : VE E → SE E → Option R) : Option R := match Nat.ble (maxK r.2) (ord.length + 64) with
  | true => (r.1.ren (bkF ord nb r.2) 3).force fun v => K v { st with hp := bkHp (bkF ord nb r.2) (delAll st.hp ord) r.2, nx := nb + 64 }
  | false => none
def pcallV {R : Type} (st : SE E) (nb : Nat) (g : SE E → Option (Bool × Res E.T.A)) (args : List (VE E)) (K : VE E → SE E → Option R) : Option R := match liveAll st.hp (viewO st args) with
  | true => conV (g (viewV st (viewO st args) args)) fun r => pAbs E st nb (viewO st args) r K
  | false => none
/-- a call -/
def callC (ih : Rec E) (st : SE E) (nb : Nat) (f : Nat) (args : List (VE E)) (K : VE E → SE E → Option (Res E.T.A)) : Option (Res E.T.A) :=
  match E.con f with
  | some g => (match shutAL st.hp args with | some as => conV (g as) fun r => absorb E st nb (frA st.hp args) r K | none => none)
  | none => (match E.body f with
    | none => none
    | some fn => (match fn.body with
      | none => none
      | some c => bodyV E ih st nb f fn c args K))
def callV (ih : Rec E) (st : SE E) (nb : Nat) (f : Nat) (args : List (VE E)) (K : VE E → SE E → Option (Res E.T.A)) : Option (Res E.T.A) := match E.pcon f with
  | some g => pcallV E st nb g args K
  | none => callC E ih st nb f args K
def callO (ih : Rec E) (st : SE E) (nb : Nat) (fo : VE E) (args : List (VE E)) (K : VE E → SE E → Option (Res E.T.A)) : Option (Res E.T.A) := match fo with
  | .fn f caps => callV E ih st nb f (args ++ caps) K
  | .meth f l => callV E ih st nb f (l ++ args) K
  | _ => none
def callee (o : Oper) : Option (Operand × Array Operand) := match o.op with
  | .call c => (match c.callee with | .value fo => some (fo, c.args) | _ => none)
  | _ => none
def doOp (ih : Rec E) (o : Oper) (nb : Nat) (st : SE E) (K : SE E → Option (Res E.T.A)) : Option (Res E.T.A) := match callee o with
  | some (fo, args) => callO E ih st nb (st.ev fo) (args.toList.map st.ev) fun v st' => K (st'.put o.dst v)
  | none => (match mvSlice o with
    | some p => sliceW E st nb p.1 (st.ev p.2.1) (st.ev p.2.2) fun v st' => K (st'.put o.dst v)
    | none => opv E st o nb fun v st' => K (st'.put o.dst v))
/-- the operations of a region, in their order -/
def guardV (ih : Rec E) (all : Array Oper) (o : Oper) (rest : SE E → (SE E → Option (Res E.T.A)) → Option (Res E.T.A)) (st : SE E) (K : SE E → Option (Res E.T.A)) (j : Nat) (want : Bool) : Option (Res E.T.A) := match (all[j]?).bind (·.dst) with
  | some d => (match look st.env d with
    | some (.bool t) => if t = want then doOp E ih o st.nx (st.put (some d) (.bool want)) fun st' => rest st' K else rest ((st.put (some d) (.bool (!want))).put o.dst (.tup [])) K
    | some (.tup []) => rest (st.put o.dst (.tup [])) K
    | _ => none)
  | none => none
def runOp1 (ih : Rec E) (all : Array Oper) (o : Oper) (rest : SE E → (SE E → Option (Res E.T.A)) → Option (Res E.T.A)) (st : SE E) (K : SE E → Option (Res E.T.A)) : Option (Res E.T.A) := match o.guard with
  | none => doOp E ih o st.nx st fun st' => rest st' K
  | some (j, want) => guardV E ih all o rest st K j want
def runOps (ih : Rec E) (all : Array Oper) (ops : List Oper) : SE E → (SE E → Option (Res E.T.A)) → Option (Res E.T.A) :=
  List.rec (motive := fun _ => SE E → (SE E → Option (Res E.T.A)) → Option (Res E.T.A)) (fun st K => K st) (fun o _ rest => runOp1 E ih all o rest) ops
inductive Cl where | P | R | A | W
def cls (o : Oper) : Cl := match o.op with
  | .move _ | .assign _ | .pick _ _ _ | .build _ _ | .nilCheck _ | .binOp _ _ _ _ _ | .unOp _ _ _ | .convert _ _ _ | .makeInterface _ _ | .makeFunc _ _ _ | .fieldAddr _ _ _ | .field _ _ _ | .index _ _ _ | .extract _ _ => .P
  | .load _ _ | .indexAddr _ _ _ | .lookup _ _ _ _ => .R
  | .alloc _ | .makeMap _ _ | .box _ _ | .buildSlice _ _ _ | .makeSlice _ _ _ | .slice _ _ _ _ _ => .A
  | .call c => (match c.callee with | .builtin .len => .R | .builtin .max => .P | .builtin .min => .P | .value _ => .A | _ => .W)
  | _ => .W
/-- a call whose callee sees nothing of the caller's blocks -/
def retD (ih : Rec E) (st : SE E) (f : Nat) (args : List (VE E)) : Option (Res E.T.A) := match E.con f with
  | some g => (match shutAL st.hp args with | some as => conO (g as) | none => none)
  | none => (match E.body f with
    | none => none
    | some fn => (match fn.body with
      | none => none
      | some c => (match shutAL st.hp args with | some as => isoV E ih f fn c as | none => none)))
def retK {R : Type} (ih : Rec E) (st : SE E) (f : Nat) (args : List (VE E)) (K : Res E.T.A → Option R) : Option R := match E.con f with
  | some g => (match shutAL st.hp args with | some as => conV (g as) K | none => none)
  | none => (match E.body f with
    | none => none
    | some fn => (match fn.body with
      | none => none
      | some c => (match shutAL st.hp args with | some as => (isoV E ih f fn c as).bind K | none => none)))
theorem retK_eq {R : Type} (ih : Rec E) (st : SE E) (f : Nat) (args : List (VE E)) (K : Res E.T.A → Option R) : retK E ih st f args K = (retD E ih st f args).bind K := by
  unfold retK retD
  split
  · split
    · exact conV_eq _ _
    · rfl
  · split
    · rfl
    · split
      · rfl
      · split <;> rfl
def callD {R : Type} (ih : Rec E) (st : SE E) (nb : Nat) (fo : VE E) (args : List (VE E)) (K : VE E → SE E → Option R) : Option R := match fo with
  | .fn f caps => retK E ih st f (args ++ caps) fun r => absorb E st nb (frA st.hp (args ++ caps)) r K
  | _ => none
def opD {R : Type} (ih : Rec E) (o : Oper) (nb : Nat) (st : SE E) (K : VE E → SE E → Option R) : Option R := match callee o with
  | some (fo, args) => callD E ih st nb (st.ev fo) (args.toList.map st.ev) K
  | none => opv E st o nb K
def setN {A : Nat → Type} (st : St A) (n : Nat) : St A := { st with nx := n }
/-- a load whose address is told by itself -/
def isLd (o : Oper) : Bool := match o.op with | .load _ _ => true | _ => false
def isAp (o : Oper) : Bool := match o.op with | .call c => (match c.callee with | .builtin .append => true | _ => false) | _ => false
def adrP (o : Oper) (st : SE E) : Bool := match o.op with | .load _ a => (match st.ev a with | .ptr _ _ => true | .rel _ => true | _ => false) | .store _ a _ => (match st.ev a with | .elt _ _ _ _ => true | _ => false) | _ => false
def isSt (o : Oper) : Bool := match o.op with | .store _ _ _ => true | _ => false
def waitsIn (y : Oper) (D : List Nat) : Bool := y.after.toList.any fun e => Region.binds .any e && memN e.on D
/-- what waits for one of D, through others too -/
def wset (l : List Oper) : Nat → List Nat → List Nat := List.rec (motive := fun _ => Nat → List Nat → List Nat) (fun _ D => D) (fun y _ ih j D => match waitsIn y D with | true => ih (j + 1) (j :: D) | false => ih (j + 1) D) l
/-- does operation j, which stands behind i, wait for it -/
def waitsFor (l : List Oper) (i j : Nat) : Bool := memN j (wset (dropN (i + 1) l) (i + 1) [i])
/-- in no order -/
def unord (l : List Oper) (i j : Nat) : Bool := match Nat.blt i j with | true => !waitsFor l i j | false => !waitsFor l j i
/-- an operand that the region does not write -/
def outerT (all : Array Oper) (a : Operand) : Bool := match a with | .tmp t => all.toList.all fun o => (match o.dst with | some d => !Nat.beq d t | none => true) | _ => true
def adrOf (o : Oper) : Option Operand := match o.op with | .load _ a => some a | .store _ a _ => some a | _ => none
def lqP (all : Array Oper) (x y : Oper) : Bool := match adrOf x, adrOf y with | some a, some b => outerT all a && outerT all b | _, _ => false
/-- what is loaded there is not what is stored here -/
def pairV {A : Nat → Type} (u v : V A) : Bool := match u, v with | .ptr _ _, .elt _ _ _ _ => true | .rel _, .elt _ _ _ _ => true | .ptr i _, .ptr j _ => !Nat.beq i j | .rel _, .ptr _ _ => true | _, _ => false
def pairO (st : SE E) (x y : Oper) : Bool := match adrOf x, adrOf y with | some a, some b => pairV (st.ev a) (st.ev b) | _, _ => false
def okL1 (all : Array Oper) (i : Nat) (o : Oper) (st : SE E) (y : Oper) (j : Nat) : Bool := match isAp y with
  | true => (match unord all.toList i j with | true => adrP E o st | false => true)
  | false => (match isSt y with
    | true => (match unord all.toList i j with | true => (match lqP all o y with | true => pairO E st o y | false => adrP E o st) | false => true)
    | false => true)
def okS1 (all : Array Oper) (i : Nat) (o : Oper) (st : SE E) (y : Oper) (j : Nat) : Bool := match isLd y with
  | true => (match unord all.toList i j with | true => (match lqP all y o with | true => pairO E st y o | false => adrP E o st) | false => true)
  | false => true
def allJ (p : Oper → Nat → Bool) (l : List Oper) : Nat → Bool := List.rec (motive := fun _ => Nat → Bool) (fun _ => true) (fun y _ ih j => match p y j with | true => ih (j + 1) | false => false) l
def okP (all : Array Oper) (i : Nat) (o : Oper) (st : SE E) : Bool := match isLd o with
  | true => allJ (okL1 E all i o st) all.toList 0
  | false => (match isSt o with | true => allJ (okS1 E all i o st) all.toList 0 | false => true)
def doD {R : Type} (ih : Rec E) (all : Array Oper) (i : Nat) (o : Oper) (nb N : Nat) (st : SE E) (K : SE E → Option R) : Option R := match okP E all i o st with
  | true => opD E ih o nb st fun v st' => K ((setN st' N).put o.dst v)
  | false => none
def guardD {R : Type} (ih : Rec E) (all : Array Oper) (i : Nat) (o : Oper) (nb N : Nat) (st : SE E) (K : SE E → Option R) (j : Nat) (want : Bool) : Option R := match (all[j]?).bind (·.dst) with
  | some d => (match look st.env d with
    | some (.bool t) => if t = want then doD E ih all i o nb N (st.put (some d) (.bool want)) K else K ((st.put (some d) (.bool (!want))).put o.dst (.tup []))
    | some (.tup []) => K (st.put o.dst (.tup []))
    | _ => none)
  | none => none
def runD1 {R : Type} (ih : Rec E) (all : Array Oper) (i : Nat) (o : Oper) (nb N : Nat) (st : SE E) (K : SE E → Option R) : Option R := match o.guard with
  | none => doD E ih all i o nb N st K
  | some (j, want) => guardD E ih all i o nb N st K j want
def runD (ih : Rec E) (all : Array Oper) (n0 N : Nat) (ops : List Oper) : Nat → SE E → (SE E → Option (Res E.T.A)) → Option (Res E.T.A) :=
  List.rec (motive := fun _ => Nat → SE E → (SE E → Option (Res E.T.A)) → Option (Res E.T.A)) (fun _ st K => K st) (fun o _ rest i st K => runD1 E ih all i o (n0 + 64 * i) N st fun st' => rest (i + 1) st' K) ops
def compat (x y : Oper) : Bool := match cls x, cls y with
  | .W, .P => true
  | .P, .W => true
  | .W, _ => false
  | _, .W => false
  | _, _ => true
/-- a load beside an append -/
def laP (x y : Oper) : Bool := match isLd x, isAp y with | true, true => true | _, _ => (match isAp x, isLd y with | true, true => true | _, _ => false)
def isIx (o : Oper) : Bool := match o.op with | .indexAddr _ _ _ => true | _ => false
/-- the address of an element beside a store -/
def ixP (x y : Oper) : Bool := match isIx x, isSt y with | true, true => true | _, _ => (match isSt x, isIx y with | true, true => true | _, _ => false)
/-- a load beside a store -/
def lsP (x y : Oper) : Bool := match isLd x, isSt y with | true, true => true | _, _ => (match isSt x, isLd y with | true, true => true | _, _ => false)
def laN (all : Array Oper) (i j : Nat) (x y : Oper) : Bool := ixP x y || ((lsP x y || laP x y) && unord all.toList i j)
def chkD (all : Array Oper) (x : Oper) (i : Nat) (D : List Nat) (l : List Oper) : Nat → Bool := List.rec (motive := fun _ => Nat → Bool) (fun _ => true) (fun y _ ih j => (memN j D || (x.apart all y && (compat x y || laN all i j x y))) && ih (j + 1)) l
/-- every operation behind i waits for it, or may change places with it -/
def pairsD (all : Array Oper) (x : Oper) (i : Nat) (l : List Oper) : Bool := chkD all x i (wset l (i + 1) [i]) l (i + 1)
def lexD (all : Array Oper) (l : List Oper) : Nat → Bool := List.rec (motive := fun _ => Nat → Bool) (fun _ => true) (fun x r ih i => pairsD all x i r && (x.after.toList.all fun e => !Region.binds .any e || Nat.blt e.on i) && ih (i + 1)) l
def firstRegion : Code → Nat
  | .region id _ _ => id
  | .seq a _ => firstRegion a
  | .block _ c => firstRegion c
  | .scope c => firstRegion c
  | _ => 0
def learn {A : Nat → Type} (st : St A) (x : Operand) (b : Bool) : St A := match x with | .tmp t => st.put (some t) (.bool b) | _ => st
def seqK (ih : Rec E) (f : Nat) (b : Code) (K : Xit → SE E → Option (Res E.T.A)) (e : Xit) (st' : SE E) : Option (Res E.T.A) := match e with
  | .norm => ih f b st' K
  | .ex i => K (.ex i) st'
  | .ret => K .ret st'
def blkK (id : Nat) (K : Xit → SE E → Option (Res E.T.A)) (e : Xit) (st' : SE E) : Option (Res E.T.A) := match e with
  | .norm => K .norm st'
  | .ex i => (match Nat.beq i id with | true => K .norm st' | false => K (.ex i) st')
  | .ret => K .ret st'
def condV (ih : Rec E) (f : Nat) (v : VE E) (x : Operand) (a b : Code) (st : SE E) (K : Xit → SE E → Option (Res E.T.A)) : Option (Res E.T.A) := match v with
  | .bool t => if t = true then ih f a (learn st x true) K else ih f b (learn st x false) K
  | _ => none
def headV (f : Nat) (c : Code) (st : SE E) : SE E := match E.keep f (firstRegion c) with | some ks => canon E.T st ks | none => st
def exitV (f : Nat) (c : Code) (st : SE E) : SE E := match E.exits f (firstRegion c) with | some ks => canon E.T st ks | none => st
/-- behind a round of a loop -/
def contK (f : Nat) (c : Code) (R : SE E → Option (Res E.T.A)) (K : Xit → SE E → Option (Res E.T.A)) (e : Xit) (st' : SE E) : Option (Res E.T.A) := match e with
  | .norm => R (headV E f c st')
  | .ex i => K (.ex i) (exitV E f c st')
  | .ret => K .ret (exitV E f c st')
def loopV (ih : Rec E) (f : Nat) (c : Code) (st : SE E) (K : Xit → SE E → Option (Res E.T.A)) : Option (Res E.T.A) := match E.lp f (firstRegion c) with
  | some g => g st K
  | none => ih f c st (contK E f c (fun s => ih f (.loop c) s K) K)
/-- the bodies of the loops in a Code -/
def loopsIn : Code → List Code
  | .seq a b => loopsIn a ++ loopsIn b
  | .cond _ a b => loopsIn a ++ loopsIn b
  | .block _ c => loopsIn c
  | .scope c => loopsIn c
  | .loop c => c :: loopsIn c
  | _ => []
def step (ih : Rec E) (f : Nat) (c : Code) (st : SE E) (K : Xit → SE E → Option (Res E.T.A)) : Option (Res E.T.A) := match c with
  | .skip => K .norm st
  | .label _ => K .norm st
  | .region _ ops false => runOps E ih ops ops.toList st (K .norm)
  | .region _ ops true => (match lexD ops ops.toList 0 with | true => runD E ih ops st.nx (st.nx + 64 * ops.toList.length) ops.toList 0 (setN st (st.nx + 64 * ops.toList.length)) (K .norm) | false => none)
  | .seq a b => ih f a st (seqK E ih f b K)
  | .cond x a b => condV E ih f (st.ev x) x a b st K
  | .block id c => ih f c st (blkK E id K)
  | .loop c => loopV E ih f c (headV E f c st) K
  | .exit id => K (.ex id) st
  | .ret => K .ret st
  | _ => none
def ex (n : Nat) : Rec E := Nat.rec (motive := fun _ => Rec E) (fun _ _ _ _ => none) (fun _ ih => step E ih) n
end
end Go.Proofs.YtpbpebjfglfjfaaGreatDoor.X
