/-
  THE KINDS OF ELEMENTS and the environment of the executor for this program.
-/
import Derived.Test.YtpbpebjfglfjfaaGreatDoorX17
import Derived.Test.YtpbpebjfglfjfaaGreatDoorProg
set_option autoImplicit false
set_option linter.unusedVariables false
set_option linter.unusedSimpArgs false
set_option maxRecDepth 100000
namespace Go.Proofs.YtpbpebjfglfjfaaGreatDoor.X
open Go Go.Proofs Go.RowKit
structure GParam where
  name : ByteArray
  value : Int
structure GPort where
  name : ByteArray
  type_ : ByteArray
structure GValue where
  kind : Int
  n : Int
structure GBound where
  name : ByteArray
  lo : Int
  hi : Int
  default_ : Int
structure GDescriptor where
  name : ByteArray
  params : List GBound
  inputs : List GPort
  outputs : List GPort
  state : Int
  most : Int
structure GLink where
  node : ByteArray
  port : Int
  point : ByteArray
  const : GValue
  delayed : Bool
  initial : GValue
structure GNode where
  name : ByteArray
  block : ByteArray
  params : List GParam
  inputs : List GLink
structure GDrive where
  point : ByteArray
  level : Int
  from_ : GLink
structure GPoint where
  name : ByteArray
  kind : Int
  role : Int
  unit_ : ByteArray
  low : Int
  high : Int
  step : Int
  states : List ByteArray
  default_ : GValue
  minOn : Int
  minOff : Int
structure GToken where
  kind : Int
  text : ByteArray
  n : Int
  at_ : Int
structure GLine where
  tokens : List GToken
  heading : Bool
  kids : List GLine
  at_ : Int
structure GProgram where
  name : ByteArray
  period : Int
  nodes : List GNode
  drives : List GDrive
structure GFault where
  code : Int
  line : Int
  col : Int
structure GCursor where
  line : GLine
  at_ : Int
  fault : GFault
structure Gplenumref23_cursor where
  l : GLine
  at_ : Int
  bad : GFault
structure PT where
  T : Type
  d : T
def ptT (e : Nat) : PT := match e with
  | 2 => ⟨Int, 0⟩
  | 3 => ⟨Int, 0⟩
  | 4 => ⟨Bool, false⟩
  | 9 => ⟨ByteArray, ⟨#[]⟩⟩
  | 25 => ⟨GLine, ⟨[], false, [], 0⟩⟩
  | 31 => ⟨GProgram, ⟨⟨#[]⟩, 0, [], []⟩⟩
  | 34 => ⟨GFault, ⟨0, 0, 0⟩⟩
  | 53 => ⟨GValue, ⟨0, 0⟩⟩
  | 55 => ⟨GLink, ⟨⟨#[]⟩, 0, ⟨#[]⟩, ⟨0, 0⟩, false, ⟨0, 0⟩⟩⟩
  | 58 => ⟨GNode, ⟨⟨#[]⟩, ⟨#[]⟩, [], []⟩⟩
  | 66 => ⟨GPoint, ⟨⟨#[]⟩, 0, 0, ⟨#[]⟩, 0, 0, 0, [], ⟨0, 0⟩, 0, 0⟩⟩
  | 74 => ⟨GCursor, ⟨⟨[], false, [], 0⟩, 0, ⟨0, 0, 0⟩⟩⟩
  | 83 => ⟨Gplenumref23_cursor, ⟨⟨[], false, [], 0⟩, 0, ⟨0, 0, 0⟩⟩⟩
  | 89 => ⟨GDrive, ⟨⟨#[]⟩, 0, ⟨⟨#[]⟩, 0, ⟨#[]⟩, ⟨0, 0⟩, false, ⟨0, 0⟩⟩⟩⟩
  | 93 => ⟨GParam, ⟨⟨#[]⟩, 0⟩⟩
  | 123 => ⟨GToken, ⟨0, ⟨#[]⟩, 0, 0⟩⟩
  | 150 => ⟨GDescriptor, ⟨⟨#[]⟩, [], [], [], 0, 0⟩⟩
  | 155 => ⟨GBound, ⟨⟨#[]⟩, 0, 0, 0⟩⟩
  | 159 => ⟨GPort, ⟨⟨#[]⟩, ⟨#[]⟩⟩⟩
  | _ => ⟨Unit, ()⟩
def At (e : Nat) : Type := (ptT e).T
abbrev VT := V At
def slT (e : Nat) (v : VT) : Option (List (At e)) := match v with | .nils => some [] | .ro e' l => (if h : e' = e then some (h ▸ l) else none) | _ => none
theorem slT_spec {e : Nat} {v : VT} {l : List (At e)} (h : slT e v = some l) : v = .ro e l ∨ (v = .nils ∧ l = []) := by
  unfold slT at h
  split at h
  · exact .inr ⟨rfl, (Option.some.inj h).symm⟩
  · split at h
    · rename_i he
      subst he
      obtain rfl := Option.some.inj h
      exact .inl rfl
    · cases h
  · cases h
def enc2 (x : Int) : List VT := [.int .i64 x]
def dec2 (l : List VT) : Option Int := match l with | [.int .i64 a0] => some a0 | _ => none
def enc3 (x : Int) : List VT := [.int .i64 x]
def dec3 (l : List VT) : Option Int := match l with | [.int .i64 a0] => some a0 | _ => none
def enc4 (x : Bool) : List VT := [.bool x]
def dec4 (l : List VT) : Option Bool := match l with | [.bool a0] => some a0 | _ => none
def enc9 (x : ByteArray) : List VT := [.str x]
def dec9 (l : List VT) : Option ByteArray := match l with | [.str a0] => some a0 | _ => none
def enc25 (x : GLine) : List VT := [.ro 123 x.tokens, .bool x.heading, .ro 25 x.kids, .int .i64 x.at_]
def dec25 (l : List VT) : Option GLine := match l with | [a0, .bool a1, a2, .int .i64 a3] => (match slT 123 a0, slT 25 a2 with | some a0, some a2 => some ⟨a0, a1, a2, a3⟩ | _, _ => none) | _ => none
def enc31 (x : GProgram) : List VT := [.str x.name, .int .i64 x.period, .ro 58 x.nodes, .ro 89 x.drives]
def dec31 (l : List VT) : Option GProgram := match l with | [.str a0, .int .i64 a1, a2, a3] => (match slT 58 a2, slT 89 a3 with | some a2, some a3 => some ⟨a0, a1, a2, a3⟩ | _, _ => none) | _ => none
def enc34 (x : GFault) : List VT := [.int .i64 x.code, .int .i64 x.line, .int .i64 x.col]
def dec34 (l : List VT) : Option GFault := match l with | [.int .i64 a0, .int .i64 a1, .int .i64 a2] => some ⟨a0, a1, a2⟩ | _ => none
def enc53 (x : GValue) : List VT := [.int .i64 x.kind, .int .i64 x.n]
def dec53 (l : List VT) : Option GValue := match l with | [.int .i64 a0, .int .i64 a1] => some ⟨a0, a1⟩ | _ => none
def enc55 (x : GLink) : List VT := [.str x.node, .int .i64 x.port, .str x.point, .int .i64 x.const.kind, .int .i64 x.const.n, .bool x.delayed, .int .i64 x.initial.kind, .int .i64 x.initial.n]
def dec55 (l : List VT) : Option GLink := match l with | [.str a0, .int .i64 a1, .str a2, .int .i64 a3, .int .i64 a4, .bool a5, .int .i64 a6, .int .i64 a7] => some ⟨a0, a1, a2, ⟨a3, a4⟩, a5, ⟨a6, a7⟩⟩ | _ => none
def enc58 (x : GNode) : List VT := [.str x.name, .str x.block, .ro 93 x.params, .ro 55 x.inputs]
def dec58 (l : List VT) : Option GNode := match l with | [.str a0, .str a1, a2, a3] => (match slT 93 a2, slT 55 a3 with | some a2, some a3 => some ⟨a0, a1, a2, a3⟩ | _, _ => none) | _ => none
def enc66 (x : GPoint) : List VT := [.str x.name, .int .i64 x.kind, .int .i64 x.role, .str x.unit_, .int .i64 x.low, .int .i64 x.high, .int .i64 x.step, .ro 9 x.states, .int .i64 x.default_.kind, .int .i64 x.default_.n, .int .i64 x.minOn, .int .i64 x.minOff]
def dec66 (l : List VT) : Option GPoint := match l with | [.str a0, .int .i64 a1, .int .i64 a2, .str a3, .int .i64 a4, .int .i64 a5, .int .i64 a6, a7, .int .i64 a8, .int .i64 a9, .int .i64 a10, .int .i64 a11] => (match slT 9 a7 with | some a7 => some ⟨a0, a1, a2, a3, a4, a5, a6, a7, ⟨a8, a9⟩, a10, a11⟩ | _ => none) | _ => none
def enc74 (x : GCursor) : List VT := [.ro 123 x.line.tokens, .bool x.line.heading, .ro 25 x.line.kids, .int .i64 x.line.at_, .int .i64 x.at_, .int .i64 x.fault.code, .int .i64 x.fault.line, .int .i64 x.fault.col]
def dec74 (l : List VT) : Option GCursor := match l with | [a0, .bool a1, a2, .int .i64 a3, .int .i64 a4, .int .i64 a5, .int .i64 a6, .int .i64 a7] => (match slT 123 a0, slT 25 a2 with | some a0, some a2 => some ⟨⟨a0, a1, a2, a3⟩, a4, ⟨a5, a6, a7⟩⟩ | _, _ => none) | _ => none
def enc83 (x : Gplenumref23_cursor) : List VT := [.ro 123 x.l.tokens, .bool x.l.heading, .ro 25 x.l.kids, .int .i64 x.l.at_, .int .i64 x.at_, .int .i64 x.bad.code, .int .i64 x.bad.line, .int .i64 x.bad.col]
def dec83 (l : List VT) : Option Gplenumref23_cursor := match l with | [a0, .bool a1, a2, .int .i64 a3, .int .i64 a4, .int .i64 a5, .int .i64 a6, .int .i64 a7] => (match slT 123 a0, slT 25 a2 with | some a0, some a2 => some ⟨⟨a0, a1, a2, a3⟩, a4, ⟨a5, a6, a7⟩⟩ | _, _ => none) | _ => none
def enc89 (x : GDrive) : List VT := [.str x.point, .int .i64 x.level, .str x.from_.node, .int .i64 x.from_.port, .str x.from_.point, .int .i64 x.from_.const.kind, .int .i64 x.from_.const.n, .bool x.from_.delayed, .int .i64 x.from_.initial.kind, .int .i64 x.from_.initial.n]
def dec89 (l : List VT) : Option GDrive := match l with | [.str a0, .int .i64 a1, .str a2, .int .i64 a3, .str a4, .int .i64 a5, .int .i64 a6, .bool a7, .int .i64 a8, .int .i64 a9] => some ⟨a0, a1, ⟨a2, a3, a4, ⟨a5, a6⟩, a7, ⟨a8, a9⟩⟩⟩ | _ => none
def enc93 (x : GParam) : List VT := [.str x.name, .int .i64 x.value]
def dec93 (l : List VT) : Option GParam := match l with | [.str a0, .int .i64 a1] => some ⟨a0, a1⟩ | _ => none
def enc123 (x : GToken) : List VT := [.int .i64 x.kind, .str x.text, .int .i64 x.n, .int .i64 x.at_]
def dec123 (l : List VT) : Option GToken := match l with | [.int .i64 a0, .str a1, .int .i64 a2, .int .i64 a3] => some ⟨a0, a1, a2, a3⟩ | _ => none
def enc150 (x : GDescriptor) : List VT := [.str x.name, .ro 155 x.params, .ro 159 x.inputs, .ro 159 x.outputs, .int .i64 x.state, .int .i64 x.most]
def dec150 (l : List VT) : Option GDescriptor := match l with | [.str a0, a1, a2, a3, .int .i64 a4, .int .i64 a5] => (match slT 155 a1, slT 159 a2, slT 159 a3 with | some a1, some a2, some a3 => some ⟨a0, a1, a2, a3, a4, a5⟩ | _, _, _ => none) | _ => none
def enc155 (x : GBound) : List VT := [.str x.name, .int .i64 x.lo, .int .i64 x.hi, .int .i64 x.default_]
def dec155 (l : List VT) : Option GBound := match l with | [.str a0, .int .i64 a1, .int .i64 a2, .int .i64 a3] => some ⟨a0, a1, a2, a3⟩ | _ => none
def enc159 (x : GPort) : List VT := [.str x.name, .str x.type_]
def dec159 (l : List VT) : Option GPort := match l with | [.str a0, .str a1] => some ⟨a0, a1⟩ | _ => none
noncomputable def encT (e : Nat) : At e → List VT := match e with
  | 2 => enc2
  | 3 => enc3
  | 4 => enc4
  | 9 => enc9
  | 25 => enc25
  | 31 => enc31
  | 34 => enc34
  | 53 => enc53
  | 55 => enc55
  | 58 => enc58
  | 66 => enc66
  | 74 => enc74
  | 83 => enc83
  | 89 => enc89
  | 93 => enc93
  | 123 => enc123
  | 150 => enc150
  | 155 => enc155
  | 159 => enc159
  | _ => fun _ => []
noncomputable def decT (e : Nat) : List VT → Option (At e) := match e with
  | 2 => dec2
  | 3 => dec3
  | 4 => dec4
  | 9 => dec9
  | 25 => dec25
  | 31 => dec31
  | 34 => dec34
  | 53 => dec53
  | 55 => dec55
  | 58 => dec58
  | 66 => dec66
  | 74 => dec74
  | 83 => dec83
  | 89 => dec89
  | 93 => dec93
  | 123 => dec123
  | 150 => dec150
  | 155 => dec155
  | 159 => dec159
  | _ => fun _ => none
noncomputable def knownT (e : Nat) : Bool := memN e [2, 3, 4, 9, 25, 31, 34, 53, 55, 58, 66, 74, 83, 89, 93, 123, 150, 155, 159]
noncomputable def isKeyT (e : Nat) : Bool := memN e [2, 3, 9]
noncomputable def TT : Tab := { A := At, known := knownT, dflt := fun e => (ptT e).d, enc := encT, dec := decT, key := isKeyT }
/-- cell by cell: the same, or nil for an empty row -/
inductive Sub : List VT → List VT → Prop
  | nil : Sub [] []
  | cons {v u : VT} {a b : List VT} (h : v = u ∨ (v = V.nils ∧ ∃ e, knownT e = true ∧ u = V.ro e [])) (t : Sub a b) : Sub (v :: a) (u :: b)
theorem Sub.length {a b : List VT} (h : Sub a b) : a.length = b.length := by induction h with | nil => rfl | cons _ _ ih => simp [ih]
theorem Sub.get {a b : List VT} (h : Sub a b) : ∀ (i : Nat) (v u : VT), a[i]? = some v → b[i]? = some u → v = u ∨ (v = V.nils ∧ ∃ e, knownT e = true ∧ u = V.ro e []) := by
  induction h with
  | nil => intro i v u h _; cases h
  | cons h t ih =>
    intro i v u hv hu
    cases i with
    | zero => obtain rfl := Option.some.inj hv; obtain rfl := Option.some.inj hu; exact h
    | succ i => exact ih i v u hv hu
theorem Sub.sl {e : Nat} {v : VT} {l : List (At e)} (hk : knownT e = true) (h : slT e v = some l) : v = V.ro e l ∨ (v = V.nils ∧ ∃ e', knownT e' = true ∧ V.ro e l = V.ro e' []) := by
  rcases slT_spec h with h | h
  · exact .inl h
  · obtain ⟨h1, h2⟩ := h
    subst h2
    exact .inr ⟨h1, e, hk, rfl⟩
theorem sub2 {cs : List VT} {x : At 2} (h : dec2 cs = some x) : Sub cs (encT 2 x) := by
  unfold dec2 at h
  split at h
  · obtain rfl := Option.some.inj h
    exact .cons (.inl rfl) (.nil)
  · cases h
theorem sub3 {cs : List VT} {x : At 3} (h : dec3 cs = some x) : Sub cs (encT 3 x) := by
  unfold dec3 at h
  split at h
  · obtain rfl := Option.some.inj h
    exact .cons (.inl rfl) (.nil)
  · cases h
theorem sub4 {cs : List VT} {x : At 4} (h : dec4 cs = some x) : Sub cs (encT 4 x) := by
  unfold dec4 at h
  split at h
  · obtain rfl := Option.some.inj h
    exact .cons (.inl rfl) (.nil)
  · cases h
theorem sub9 {cs : List VT} {x : At 9} (h : dec9 cs = some x) : Sub cs (encT 9 x) := by
  unfold dec9 at h
  split at h
  · obtain rfl := Option.some.inj h
    exact .cons (.inl rfl) (.nil)
  · cases h
theorem sub25 {cs : List VT} {x : At 25} (h : dec25 cs = some x) : Sub cs (encT 25 x) := by
  unfold dec25 at h
  split at h
  · split at h
    · rename_i h0 h2
      obtain rfl := Option.some.inj h
      exact .cons (Sub.sl rfl h0) (.cons (.inl rfl) (.cons (Sub.sl rfl h2) (.cons (.inl rfl) (.nil))))
    · cases h
  · cases h
theorem sub31 {cs : List VT} {x : At 31} (h : dec31 cs = some x) : Sub cs (encT 31 x) := by
  unfold dec31 at h
  split at h
  · split at h
    · rename_i h2 h3
      obtain rfl := Option.some.inj h
      exact .cons (.inl rfl) (.cons (.inl rfl) (.cons (Sub.sl rfl h2) (.cons (Sub.sl rfl h3) (.nil))))
    · cases h
  · cases h
theorem sub34 {cs : List VT} {x : At 34} (h : dec34 cs = some x) : Sub cs (encT 34 x) := by
  unfold dec34 at h
  split at h
  · obtain rfl := Option.some.inj h
    exact .cons (.inl rfl) (.cons (.inl rfl) (.cons (.inl rfl) (.nil)))
  · cases h
theorem sub53 {cs : List VT} {x : At 53} (h : dec53 cs = some x) : Sub cs (encT 53 x) := by
  unfold dec53 at h
  split at h
  · obtain rfl := Option.some.inj h
    exact .cons (.inl rfl) (.cons (.inl rfl) (.nil))
  · cases h
theorem sub55 {cs : List VT} {x : At 55} (h : dec55 cs = some x) : Sub cs (encT 55 x) := by
  unfold dec55 at h
  split at h
  · obtain rfl := Option.some.inj h
    exact .cons (.inl rfl) (.cons (.inl rfl) (.cons (.inl rfl) (.cons (.inl rfl) (.cons (.inl rfl) (.cons (.inl rfl) (.cons (.inl rfl) (.cons (.inl rfl) (.nil))))))))
  · cases h
theorem sub58 {cs : List VT} {x : At 58} (h : dec58 cs = some x) : Sub cs (encT 58 x) := by
  unfold dec58 at h
  split at h
  · split at h
    · rename_i h2 h3
      obtain rfl := Option.some.inj h
      exact .cons (.inl rfl) (.cons (.inl rfl) (.cons (Sub.sl rfl h2) (.cons (Sub.sl rfl h3) (.nil))))
    · cases h
  · cases h
theorem sub66 {cs : List VT} {x : At 66} (h : dec66 cs = some x) : Sub cs (encT 66 x) := by
  unfold dec66 at h
  split at h
  · split at h
    · rename_i h7
      obtain rfl := Option.some.inj h
      exact .cons (.inl rfl) (.cons (.inl rfl) (.cons (.inl rfl) (.cons (.inl rfl) (.cons (.inl rfl) (.cons (.inl rfl) (.cons (.inl rfl) (.cons (Sub.sl rfl h7) (.cons (.inl rfl) (.cons (.inl rfl) (.cons (.inl rfl) (.cons (.inl rfl) (.nil))))))))))))
    · cases h
  · cases h
theorem sub74 {cs : List VT} {x : At 74} (h : dec74 cs = some x) : Sub cs (encT 74 x) := by
  unfold dec74 at h
  split at h
  · split at h
    · rename_i h0 h2
      obtain rfl := Option.some.inj h
      exact .cons (Sub.sl rfl h0) (.cons (.inl rfl) (.cons (Sub.sl rfl h2) (.cons (.inl rfl) (.cons (.inl rfl) (.cons (.inl rfl) (.cons (.inl rfl) (.cons (.inl rfl) (.nil))))))))
    · cases h
  · cases h
theorem sub83 {cs : List VT} {x : At 83} (h : dec83 cs = some x) : Sub cs (encT 83 x) := by
  unfold dec83 at h
  split at h
  · split at h
    · rename_i h0 h2
      obtain rfl := Option.some.inj h
      exact .cons (Sub.sl rfl h0) (.cons (.inl rfl) (.cons (Sub.sl rfl h2) (.cons (.inl rfl) (.cons (.inl rfl) (.cons (.inl rfl) (.cons (.inl rfl) (.cons (.inl rfl) (.nil))))))))
    · cases h
  · cases h
theorem sub89 {cs : List VT} {x : At 89} (h : dec89 cs = some x) : Sub cs (encT 89 x) := by
  unfold dec89 at h
  split at h
  · obtain rfl := Option.some.inj h
    exact .cons (.inl rfl) (.cons (.inl rfl) (.cons (.inl rfl) (.cons (.inl rfl) (.cons (.inl rfl) (.cons (.inl rfl) (.cons (.inl rfl) (.cons (.inl rfl) (.cons (.inl rfl) (.cons (.inl rfl) (.nil))))))))))
  · cases h
theorem sub93 {cs : List VT} {x : At 93} (h : dec93 cs = some x) : Sub cs (encT 93 x) := by
  unfold dec93 at h
  split at h
  · obtain rfl := Option.some.inj h
    exact .cons (.inl rfl) (.cons (.inl rfl) (.nil))
  · cases h
theorem sub123 {cs : List VT} {x : At 123} (h : dec123 cs = some x) : Sub cs (encT 123 x) := by
  unfold dec123 at h
  split at h
  · obtain rfl := Option.some.inj h
    exact .cons (.inl rfl) (.cons (.inl rfl) (.cons (.inl rfl) (.cons (.inl rfl) (.nil))))
  · cases h
theorem sub150 {cs : List VT} {x : At 150} (h : dec150 cs = some x) : Sub cs (encT 150 x) := by
  unfold dec150 at h
  split at h
  · split at h
    · rename_i h1 h2 h3
      obtain rfl := Option.some.inj h
      exact .cons (.inl rfl) (.cons (Sub.sl rfl h1) (.cons (Sub.sl rfl h2) (.cons (Sub.sl rfl h3) (.cons (.inl rfl) (.cons (.inl rfl) (.nil))))))
    · cases h
  · cases h
theorem sub155 {cs : List VT} {x : At 155} (h : dec155 cs = some x) : Sub cs (encT 155 x) := by
  unfold dec155 at h
  split at h
  · obtain rfl := Option.some.inj h
    exact .cons (.inl rfl) (.cons (.inl rfl) (.cons (.inl rfl) (.cons (.inl rfl) (.nil))))
  · cases h
theorem sub159 {cs : List VT} {x : At 159} (h : dec159 cs = some x) : Sub cs (encT 159 x) := by
  unfold dec159 at h
  split at h
  · obtain rfl := Option.some.inj h
    exact .cons (.inl rfl) (.cons (.inl rfl) (.nil))
  · cases h
def infoB (P : Program) (e : Nat) : Bool := match P.info? e with
  | some i => (match i.zero with | some z => Nat.beq z.cells.size i.size && Nat.ble i.bytes 65536 | none => false)
  | none => false
theorem infoB_spec {P : Program} {e : Nat} (h : infoB P e = true) : ∃ i z, P.info? e = some i ∧ i.zero = some z ∧ z.cells.size = i.size ∧ i.bytes ≤ 65536 := by
  unfold infoB at h
  split at h
  · rename_i i hi
    split at h
    · rename_i z hz
      simp only [Bool.and_eq_true] at h
      exact ⟨i, z, hi, hz, Nat.eq_of_beq_eq_true h.1, Nat.le_of_ble_eq_true h.2⟩
    · cases h
  · cases h
theorem known_cases {e : Nat} {p : Nat → Prop} (h : knownT e = true) (h2 : p 2) (h3 : p 3) (h4 : p 4) (h9 : p 9) (h25 : p 25) (h31 : p 31) (h34 : p 34) (h53 : p 53) (h55 : p 55) (h58 : p 58) (h66 : p 66) (h74 : p 74) (h83 : p 83) (h89 : p 89) (h93 : p 93) (h123 : p 123) (h150 : p 150) (h155 : p 155) (h159 : p 159) : p e := by
  have hm : e ∈ [2, 3, 4, 9, 25, 31, 34, 53, 55, 58, 66, 74, 83, 89, 93, 123, 150, 155, 159] := (memN_iff e _).1 h
  simp only [List.mem_cons, List.not_mem_nil, or_false] at hm
  rcases hm with rfl | rfl | rfl | rfl | rfl | rfl | rfl | rfl | rfl | rfl | rfl | rfl | rfl | rfl | rfl | rfl | rfl | rfl | rfl <;> assumption
theorem TT_ok : TT.Ok Tryz.prog where
  size := fun e h => known_cases (p := fun e => 0 < szT Tryz.prog e) h (Nat.le_of_ble_eq_true (by kernel_rfl)) (Nat.le_of_ble_eq_true (by kernel_rfl)) (Nat.le_of_ble_eq_true (by kernel_rfl)) (Nat.le_of_ble_eq_true (by kernel_rfl)) (Nat.le_of_ble_eq_true (by kernel_rfl)) (Nat.le_of_ble_eq_true (by kernel_rfl)) (Nat.le_of_ble_eq_true (by kernel_rfl)) (Nat.le_of_ble_eq_true (by kernel_rfl)) (Nat.le_of_ble_eq_true (by kernel_rfl)) (Nat.le_of_ble_eq_true (by kernel_rfl)) (Nat.le_of_ble_eq_true (by kernel_rfl)) (Nat.le_of_ble_eq_true (by kernel_rfl)) (Nat.le_of_ble_eq_true (by kernel_rfl)) (Nat.le_of_ble_eq_true (by kernel_rfl)) (Nat.le_of_ble_eq_true (by kernel_rfl)) (Nat.le_of_ble_eq_true (by kernel_rfl)) (Nat.le_of_ble_eq_true (by kernel_rfl)) (Nat.le_of_ble_eq_true (by kernel_rfl)) (Nat.le_of_ble_eq_true (by kernel_rfl))
  len := fun e x h => known_cases (p := fun e => ∀ x : At e, (encT e x).length = szT Tryz.prog e) h (fun x => by kernel_rfl) (fun x => by kernel_rfl) (fun x => by kernel_rfl) (fun x => by kernel_rfl) (fun x => by kernel_rfl) (fun x => by kernel_rfl) (fun x => by kernel_rfl) (fun x => by kernel_rfl) (fun x => by kernel_rfl) (fun x => by kernel_rfl) (fun x => by kernel_rfl) (fun x => by kernel_rfl) (fun x => by kernel_rfl) (fun x => by kernel_rfl) (fun x => by kernel_rfl) (fun x => by kernel_rfl) (fun x => by kernel_rfl) (fun x => by kernel_rfl) (fun x => by kernel_rfl) x
  info := fun e h => infoB_spec (known_cases (p := fun e => infoB Tryz.prog e = true) h (by kernel_rfl) (by kernel_rfl) (by kernel_rfl) (by kernel_rfl) (by kernel_rfl) (by kernel_rfl) (by kernel_rfl) (by kernel_rfl) (by kernel_rfl) (by kernel_rfl) (by kernel_rfl) (by kernel_rfl) (by kernel_rfl) (by kernel_rfl) (by kernel_rfl) (by kernel_rfl) (by kernel_rfl) (by kernel_rfl) (by kernel_rfl))
  pure := fun e x v h hv => (by
    have h2 : ((encT e x).all fun v => v.pure 1 && v.one) = true := known_cases (p := fun e => ∀ x : At e, ((encT e x).all fun v => v.pure 1 && v.one) = true) h (fun x => by kernel_rfl) (fun x => by kernel_rfl) (fun x => by kernel_rfl) (fun x => by kernel_rfl) (fun x => by kernel_rfl) (fun x => by kernel_rfl) (fun x => by kernel_rfl) (fun x => by kernel_rfl) (fun x => by kernel_rfl) (fun x => by kernel_rfl) (fun x => by kernel_rfl) (fun x => by kernel_rfl) (fun x => by kernel_rfl) (fun x => by kernel_rfl) (fun x => by kernel_rfl) (fun x => by kernel_rfl) (fun x => by kernel_rfl) (fun x => by kernel_rfl) (fun x => by kernel_rfl) x
    have h3 := List.all_eq_true.1 h2 v hv
    rw [Bool.and_eq_true] at h3
    exact h3)
  key := fun e x y hy h => known_cases (p := fun e => isKeyT e = true → ∀ x y : At e, isO (keyE (encT e x) (encT e y)) = true) h (fun _ x y => by kernel_rfl) (fun _ x y => by kernel_rfl) (fun h => nomatch (show false = true from h)) (fun _ x y => by kernel_rfl) (fun h => nomatch (show false = true from h)) (fun h => nomatch (show false = true from h)) (fun h => nomatch (show false = true from h)) (fun h => nomatch (show false = true from h)) (fun h => nomatch (show false = true from h)) (fun h => nomatch (show false = true from h)) (fun h => nomatch (show false = true from h)) (fun h => nomatch (show false = true from h)) (fun h => nomatch (show false = true from h)) (fun h => nomatch (show false = true from h)) (fun h => nomatch (show false = true from h)) (fun h => nomatch (show false = true from h)) (fun h => nomatch (show false = true from h)) (fun h => nomatch (show false = true from h)) (fun h => nomatch (show false = true from h)) hy x y
  dec := fun e cs x h hx => (by
    have h2 : Sub cs (encT e x) := known_cases (p := fun e => ∀ x : At e, decT e cs = some x → Sub cs (encT e x)) h (fun x h => sub2 h) (fun x h => sub3 h) (fun x h => sub4 h) (fun x h => sub9 h) (fun x h => sub25 h) (fun x h => sub31 h) (fun x h => sub34 h) (fun x h => sub53 h) (fun x h => sub55 h) (fun x h => sub58 h) (fun x h => sub66 h) (fun x h => sub74 h) (fun x h => sub83 h) (fun x h => sub89 h) (fun x h => sub93 h) (fun x h => sub123 h) (fun x h => sub150 h) (fun x h => sub155 h) (fun x h => sub159 h) x hx
    refine ⟨h2.length.trans (known_cases (p := fun e => ∀ x : At e, (encT e x).length = szT Tryz.prog e) h (fun x => by kernel_rfl) (fun x => by kernel_rfl) (fun x => by kernel_rfl) (fun x => by kernel_rfl) (fun x => by kernel_rfl) (fun x => by kernel_rfl) (fun x => by kernel_rfl) (fun x => by kernel_rfl) (fun x => by kernel_rfl) (fun x => by kernel_rfl) (fun x => by kernel_rfl) (fun x => by kernel_rfl) (fun x => by kernel_rfl) (fun x => by kernel_rfl) (fun x => by kernel_rfl) (fun x => by kernel_rfl) (fun x => by kernel_rfl) (fun x => by kernel_rfl) (fun x => by kernel_rfl) x), h2.get⟩)
def roV (e : Nat) (v : VT) : Option (List (At e)) := match v with | .ro e' l => (if h : e' = e then some (h ▸ l : List (At e)) else none) | _ => none
theorem roV_spec {e : Nat} {v : VT} {l : List (At e)} (h : roV e v = some l) : v = .ro e l := by
  unfold roV at h
  split at h
  · split at h
    · rename_i e'
      subst e'
      obtain rfl := Option.some.inj h
      rfl
    · cases h
  · cases h
/-- the cells of a GLine, exactly -/
def ex25 (l : List VT) : Option GLine := match l with | [a0, .bool a1, a2, .int .i64 a3] => (match roV 123 a0, roV 25 a2 with | some a0, some a2 => some ⟨a0, a1, a2, a3⟩ | _, _ => none) | _ => none
theorem ex25_spec {l : List VT} {x : GLine} (h : ex25 l = some x) : l = enc25 x := by
  unfold ex25 at h
  split at h
  · split at h
    · rename_i ha0 ha2
      obtain rfl := Option.some.inj h
      rw [roV_spec ha0, roV_spec ha2]
      rfl
    · cases h
  · cases h
def ag25 (v : VT) : Option GLine := match v with | .agg l => ex25 l | _ => none
theorem ag25_spec {v : VT} {x : GLine} (h : ag25 v = some x) : v = .agg (enc25 x) := by
  unfold ag25 at h
  split at h
  · rw [ex25_spec h]
  · cases h
/-- the cells of a GProgram, exactly -/
def ex31 (l : List VT) : Option GProgram := match l with | [.str a0, .int .i64 a1, a2, a3] => (match roV 58 a2, roV 89 a3 with | some a2, some a3 => some ⟨a0, a1, a2, a3⟩ | _, _ => none) | _ => none
theorem ex31_spec {l : List VT} {x : GProgram} (h : ex31 l = some x) : l = enc31 x := by
  unfold ex31 at h
  split at h
  · split at h
    · rename_i ha2 ha3
      obtain rfl := Option.some.inj h
      rw [roV_spec ha2, roV_spec ha3]
      rfl
    · cases h
  · cases h
def ag31 (v : VT) : Option GProgram := match v with | .agg l => ex31 l | _ => none
theorem ag31_spec {v : VT} {x : GProgram} (h : ag31 v = some x) : v = .agg (enc31 x) := by
  unfold ag31 at h
  split at h
  · rw [ex31_spec h]
  · cases h
/-- the cells of a GFault, exactly -/
def ex34 (l : List VT) : Option GFault := match l with | [.int .i64 a0, .int .i64 a1, .int .i64 a2] => some ⟨a0, a1, a2⟩ | _ => none
theorem ex34_spec {l : List VT} {x : GFault} (h : ex34 l = some x) : l = enc34 x := by
  unfold ex34 at h
  split at h
  · obtain rfl := Option.some.inj h; rfl
  · cases h
def ag34 (v : VT) : Option GFault := match v with | .agg l => ex34 l | _ => none
theorem ag34_spec {v : VT} {x : GFault} (h : ag34 v = some x) : v = .agg (enc34 x) := by
  unfold ag34 at h
  split at h
  · rw [ex34_spec h]
  · cases h
/-- the cells of a GValue, exactly -/
def ex53 (l : List VT) : Option GValue := match l with | [.int .i64 a0, .int .i64 a1] => some ⟨a0, a1⟩ | _ => none
theorem ex53_spec {l : List VT} {x : GValue} (h : ex53 l = some x) : l = enc53 x := by
  unfold ex53 at h
  split at h
  · obtain rfl := Option.some.inj h; rfl
  · cases h
def ag53 (v : VT) : Option GValue := match v with | .agg l => ex53 l | _ => none
theorem ag53_spec {v : VT} {x : GValue} (h : ag53 v = some x) : v = .agg (enc53 x) := by
  unfold ag53 at h
  split at h
  · rw [ex53_spec h]
  · cases h
/-- the cells of a GLink, exactly -/
def ex55 (l : List VT) : Option GLink := match l with | [.str a0, .int .i64 a1, .str a2, .int .i64 a3, .int .i64 a4, .bool a5, .int .i64 a6, .int .i64 a7] => some ⟨a0, a1, a2, ⟨a3, a4⟩, a5, ⟨a6, a7⟩⟩ | _ => none
theorem ex55_spec {l : List VT} {x : GLink} (h : ex55 l = some x) : l = enc55 x := by
  unfold ex55 at h
  split at h
  · obtain rfl := Option.some.inj h; rfl
  · cases h
def ag55 (v : VT) : Option GLink := match v with | .agg l => ex55 l | _ => none
theorem ag55_spec {v : VT} {x : GLink} (h : ag55 v = some x) : v = .agg (enc55 x) := by
  unfold ag55 at h
  split at h
  · rw [ex55_spec h]
  · cases h
/-- the cells of a GNode, exactly -/
def ex58 (l : List VT) : Option GNode := match l with | [.str a0, .str a1, a2, a3] => (match roV 93 a2, roV 55 a3 with | some a2, some a3 => some ⟨a0, a1, a2, a3⟩ | _, _ => none) | _ => none
theorem ex58_spec {l : List VT} {x : GNode} (h : ex58 l = some x) : l = enc58 x := by
  unfold ex58 at h
  split at h
  · split at h
    · rename_i ha2 ha3
      obtain rfl := Option.some.inj h
      rw [roV_spec ha2, roV_spec ha3]
      rfl
    · cases h
  · cases h
def ag58 (v : VT) : Option GNode := match v with | .agg l => ex58 l | _ => none
theorem ag58_spec {v : VT} {x : GNode} (h : ag58 v = some x) : v = .agg (enc58 x) := by
  unfold ag58 at h
  split at h
  · rw [ex58_spec h]
  · cases h
/-- the cells of a GPoint, exactly -/
def ex66 (l : List VT) : Option GPoint := match l with | [.str a0, .int .i64 a1, .int .i64 a2, .str a3, .int .i64 a4, .int .i64 a5, .int .i64 a6, a7, .int .i64 a8, .int .i64 a9, .int .i64 a10, .int .i64 a11] => (match roV 9 a7 with | some a7 => some ⟨a0, a1, a2, a3, a4, a5, a6, a7, ⟨a8, a9⟩, a10, a11⟩ | _ => none) | _ => none
theorem ex66_spec {l : List VT} {x : GPoint} (h : ex66 l = some x) : l = enc66 x := by
  unfold ex66 at h
  split at h
  · split at h
    · rename_i ha7
      obtain rfl := Option.some.inj h
      rw [roV_spec ha7]
      rfl
    · cases h
  · cases h
def ag66 (v : VT) : Option GPoint := match v with | .agg l => ex66 l | _ => none
theorem ag66_spec {v : VT} {x : GPoint} (h : ag66 v = some x) : v = .agg (enc66 x) := by
  unfold ag66 at h
  split at h
  · rw [ex66_spec h]
  · cases h
/-- the cells of a GCursor, exactly -/
def ex74 (l : List VT) : Option GCursor := match l with | [a0, .bool a1, a2, .int .i64 a3, .int .i64 a4, .int .i64 a5, .int .i64 a6, .int .i64 a7] => (match roV 123 a0, roV 25 a2 with | some a0, some a2 => some ⟨⟨a0, a1, a2, a3⟩, a4, ⟨a5, a6, a7⟩⟩ | _, _ => none) | _ => none
theorem ex74_spec {l : List VT} {x : GCursor} (h : ex74 l = some x) : l = enc74 x := by
  unfold ex74 at h
  split at h
  · split at h
    · rename_i ha0 ha2
      obtain rfl := Option.some.inj h
      rw [roV_spec ha0, roV_spec ha2]
      rfl
    · cases h
  · cases h
def ag74 (v : VT) : Option GCursor := match v with | .agg l => ex74 l | _ => none
theorem ag74_spec {v : VT} {x : GCursor} (h : ag74 v = some x) : v = .agg (enc74 x) := by
  unfold ag74 at h
  split at h
  · rw [ex74_spec h]
  · cases h
/-- the cells of a Gplenumref23_cursor, exactly -/
def ex83 (l : List VT) : Option Gplenumref23_cursor := match l with | [a0, .bool a1, a2, .int .i64 a3, .int .i64 a4, .int .i64 a5, .int .i64 a6, .int .i64 a7] => (match roV 123 a0, roV 25 a2 with | some a0, some a2 => some ⟨⟨a0, a1, a2, a3⟩, a4, ⟨a5, a6, a7⟩⟩ | _, _ => none) | _ => none
theorem ex83_spec {l : List VT} {x : Gplenumref23_cursor} (h : ex83 l = some x) : l = enc83 x := by
  unfold ex83 at h
  split at h
  · split at h
    · rename_i ha0 ha2
      obtain rfl := Option.some.inj h
      rw [roV_spec ha0, roV_spec ha2]
      rfl
    · cases h
  · cases h
def ag83 (v : VT) : Option Gplenumref23_cursor := match v with | .agg l => ex83 l | _ => none
theorem ag83_spec {v : VT} {x : Gplenumref23_cursor} (h : ag83 v = some x) : v = .agg (enc83 x) := by
  unfold ag83 at h
  split at h
  · rw [ex83_spec h]
  · cases h
/-- the cells of a GDrive, exactly -/
def ex89 (l : List VT) : Option GDrive := match l with | [.str a0, .int .i64 a1, .str a2, .int .i64 a3, .str a4, .int .i64 a5, .int .i64 a6, .bool a7, .int .i64 a8, .int .i64 a9] => some ⟨a0, a1, ⟨a2, a3, a4, ⟨a5, a6⟩, a7, ⟨a8, a9⟩⟩⟩ | _ => none
theorem ex89_spec {l : List VT} {x : GDrive} (h : ex89 l = some x) : l = enc89 x := by
  unfold ex89 at h
  split at h
  · obtain rfl := Option.some.inj h; rfl
  · cases h
def ag89 (v : VT) : Option GDrive := match v with | .agg l => ex89 l | _ => none
theorem ag89_spec {v : VT} {x : GDrive} (h : ag89 v = some x) : v = .agg (enc89 x) := by
  unfold ag89 at h
  split at h
  · rw [ex89_spec h]
  · cases h
/-- the cells of a GParam, exactly -/
def ex93 (l : List VT) : Option GParam := match l with | [.str a0, .int .i64 a1] => some ⟨a0, a1⟩ | _ => none
theorem ex93_spec {l : List VT} {x : GParam} (h : ex93 l = some x) : l = enc93 x := by
  unfold ex93 at h
  split at h
  · obtain rfl := Option.some.inj h; rfl
  · cases h
def ag93 (v : VT) : Option GParam := match v with | .agg l => ex93 l | _ => none
theorem ag93_spec {v : VT} {x : GParam} (h : ag93 v = some x) : v = .agg (enc93 x) := by
  unfold ag93 at h
  split at h
  · rw [ex93_spec h]
  · cases h
/-- the cells of a GToken, exactly -/
def ex123 (l : List VT) : Option GToken := match l with | [.int .i64 a0, .str a1, .int .i64 a2, .int .i64 a3] => some ⟨a0, a1, a2, a3⟩ | _ => none
theorem ex123_spec {l : List VT} {x : GToken} (h : ex123 l = some x) : l = enc123 x := by
  unfold ex123 at h
  split at h
  · obtain rfl := Option.some.inj h; rfl
  · cases h
def ag123 (v : VT) : Option GToken := match v with | .agg l => ex123 l | _ => none
theorem ag123_spec {v : VT} {x : GToken} (h : ag123 v = some x) : v = .agg (enc123 x) := by
  unfold ag123 at h
  split at h
  · rw [ex123_spec h]
  · cases h
/-- the cells of a GDescriptor, exactly -/
def ex150 (l : List VT) : Option GDescriptor := match l with | [.str a0, a1, a2, a3, .int .i64 a4, .int .i64 a5] => (match roV 155 a1, roV 159 a2, roV 159 a3 with | some a1, some a2, some a3 => some ⟨a0, a1, a2, a3, a4, a5⟩ | _, _, _ => none) | _ => none
theorem ex150_spec {l : List VT} {x : GDescriptor} (h : ex150 l = some x) : l = enc150 x := by
  unfold ex150 at h
  split at h
  · split at h
    · rename_i ha1 ha2 ha3
      obtain rfl := Option.some.inj h
      rw [roV_spec ha1, roV_spec ha2, roV_spec ha3]
      rfl
    · cases h
  · cases h
def ag150 (v : VT) : Option GDescriptor := match v with | .agg l => ex150 l | _ => none
theorem ag150_spec {v : VT} {x : GDescriptor} (h : ag150 v = some x) : v = .agg (enc150 x) := by
  unfold ag150 at h
  split at h
  · rw [ex150_spec h]
  · cases h
/-- the cells of a GBound, exactly -/
def ex155 (l : List VT) : Option GBound := match l with | [.str a0, .int .i64 a1, .int .i64 a2, .int .i64 a3] => some ⟨a0, a1, a2, a3⟩ | _ => none
theorem ex155_spec {l : List VT} {x : GBound} (h : ex155 l = some x) : l = enc155 x := by
  unfold ex155 at h
  split at h
  · obtain rfl := Option.some.inj h; rfl
  · cases h
def ag155 (v : VT) : Option GBound := match v with | .agg l => ex155 l | _ => none
theorem ag155_spec {v : VT} {x : GBound} (h : ag155 v = some x) : v = .agg (enc155 x) := by
  unfold ag155 at h
  split at h
  · rw [ex155_spec h]
  · cases h
/-- the cells of a GPort, exactly -/
def ex159 (l : List VT) : Option GPort := match l with | [.str a0, .str a1] => some ⟨a0, a1⟩ | _ => none
theorem ex159_spec {l : List VT} {x : GPort} (h : ex159 l = some x) : l = enc159 x := by
  unfold ex159 at h
  split at h
  · obtain rfl := Option.some.inj h; rfl
  · cases h
def ag159 (v : VT) : Option GPort := match v with | .agg l => ex159 l | _ => none
theorem ag159_spec {v : VT} {x : GPort} (h : ag159 v = some x) : v = .agg (enc159 x) := by
  unfold ag159 at h
  split at h
  · rw [ex159_spec h]
  · cases h
end Go.Proofs.YtpbpebjfglfjfaaGreatDoor.X
