/-
  THE KINDS OF ELEMENTS and the environment of the executor for this program.
-/
import Derived.Test.YtbcpnhnalhhfoaaGreatDoorX17
import Derived.Test.YtbcpnhnalhhfoaaGreatDoorProg
set_option autoImplicit false
set_option linter.unusedVariables false
set_option linter.unusedSimpArgs false
set_option maxRecDepth 100000
namespace Go.Proofs.YtbcpnhnalhhfoaaGreatDoor.X
open Go Go.Proofs Go.RowKit
structure GParam where
  name : ByteArray
  value : Int
structure GPort where
  name : ByteArray
  type_ : ByteArray
structure GValue where
  kind : Int
  n : Int
structure GBound where
  name : ByteArray
  lo : Int
  hi : Int
  default_ : Int
structure GDescriptor where
  name : ByteArray
  params : List GBound
  inputs : List GPort
  outputs : List GPort
  state : Int
  most : Int
structure PT where
  T : Type
  d : T
def ptT (e : Nat) : PT := match e with
  | 2 => ⟨Int, 0⟩
  | 3 => ⟨Int, 0⟩
  | 4 => ⟨Bool, false⟩
  | 9 => ⟨ByteArray, ⟨#[]⟩⟩
  | 38 => ⟨GValue, ⟨0, 0⟩⟩
  | 55 => ⟨GDescriptor, ⟨⟨#[]⟩, [], [], [], 0, 0⟩⟩
  | 63 => ⟨GParam, ⟨⟨#[]⟩, 0⟩⟩
  | 65 => ⟨GPort, ⟨⟨#[]⟩, ⟨#[]⟩⟩⟩
  | 69 => ⟨GBound, ⟨⟨#[]⟩, 0, 0, 0⟩⟩
  | _ => ⟨Unit, ()⟩
def At (e : Nat) : Type := (ptT e).T
abbrev VT := V At
def slT (e : Nat) (v : VT) : Option (List (At e)) := match v with | .nils => some [] | .ro e' l => (if h : e' = e then some (h ▸ l) else none) | _ => none
theorem slT_spec {e : Nat} {v : VT} {l : List (At e)} (h : slT e v = some l) : v = .ro e l ∨ (v = .nils ∧ l = []) := by
  unfold slT at h
  split at h
  · exact .inr ⟨rfl, (Option.some.inj h).symm⟩
  · split at h
    · rename_i he
      subst he
      obtain rfl := Option.some.inj h
      exact .inl rfl
    · cases h
  · cases h
def enc2 (x : Int) : List VT := [.int .i64 x]
def dec2 (l : List VT) : Option Int := match l with | [.int .i64 a0] => some a0 | _ => none
def enc3 (x : Int) : List VT := [.int .i64 x]
def dec3 (l : List VT) : Option Int := match l with | [.int .i64 a0] => some a0 | _ => none
def enc4 (x : Bool) : List VT := [.bool x]
def dec4 (l : List VT) : Option Bool := match l with | [.bool a0] => some a0 | _ => none
def enc9 (x : ByteArray) : List VT := [.str x]
def dec9 (l : List VT) : Option ByteArray := match l with | [.str a0] => some a0 | _ => none
def enc38 (x : GValue) : List VT := [.int .i64 x.kind, .int .i64 x.n]
def dec38 (l : List VT) : Option GValue := match l with | [.int .i64 a0, .int .i64 a1] => some ⟨a0, a1⟩ | _ => none
def enc55 (x : GDescriptor) : List VT := [.str x.name, .ro 69 x.params, .ro 65 x.inputs, .ro 65 x.outputs, .int .i64 x.state, .int .i64 x.most]
def dec55 (l : List VT) : Option GDescriptor := match l with | [.str a0, a1, a2, a3, .int .i64 a4, .int .i64 a5] => (match slT 69 a1, slT 65 a2, slT 65 a3 with | some a1, some a2, some a3 => some ⟨a0, a1, a2, a3, a4, a5⟩ | _, _, _ => none) | _ => none
def enc63 (x : GParam) : List VT := [.str x.name, .int .i64 x.value]
def dec63 (l : List VT) : Option GParam := match l with | [.str a0, .int .i64 a1] => some ⟨a0, a1⟩ | _ => none
def enc65 (x : GPort) : List VT := [.str x.name, .str x.type_]
def dec65 (l : List VT) : Option GPort := match l with | [.str a0, .str a1] => some ⟨a0, a1⟩ | _ => none
def enc69 (x : GBound) : List VT := [.str x.name, .int .i64 x.lo, .int .i64 x.hi, .int .i64 x.default_]
def dec69 (l : List VT) : Option GBound := match l with | [.str a0, .int .i64 a1, .int .i64 a2, .int .i64 a3] => some ⟨a0, a1, a2, a3⟩ | _ => none
noncomputable def encT (e : Nat) : At e → List VT := match e with
  | 2 => enc2
  | 3 => enc3
  | 4 => enc4
  | 9 => enc9
  | 38 => enc38
  | 55 => enc55
  | 63 => enc63
  | 65 => enc65
  | 69 => enc69
  | _ => fun _ => []
noncomputable def decT (e : Nat) : List VT → Option (At e) := match e with
  | 2 => dec2
  | 3 => dec3
  | 4 => dec4
  | 9 => dec9
  | 38 => dec38
  | 55 => dec55
  | 63 => dec63
  | 65 => dec65
  | 69 => dec69
  | _ => fun _ => none
noncomputable def knownT (e : Nat) : Bool := memN e [2, 3, 4, 9, 38, 55, 63, 65, 69]
noncomputable def isKeyT (e : Nat) : Bool := memN e [2, 3, 9]
noncomputable def TT : Tab := { A := At, known := knownT, dflt := fun e => (ptT e).d, enc := encT, dec := decT, key := isKeyT }
/-- cell by cell: the same, or nil for an empty row -/
inductive Sub : List VT → List VT → Prop
  | nil : Sub [] []
  | cons {v u : VT} {a b : List VT} (h : v = u ∨ (v = V.nils ∧ ∃ e, knownT e = true ∧ u = V.ro e [])) (t : Sub a b) : Sub (v :: a) (u :: b)
theorem Sub.length {a b : List VT} (h : Sub a b) : a.length = b.length := by induction h with | nil => rfl | cons _ _ ih => simp [ih]
theorem Sub.get {a b : List VT} (h : Sub a b) : ∀ (i : Nat) (v u : VT), a[i]? = some v → b[i]? = some u → v = u ∨ (v = V.nils ∧ ∃ e, knownT e = true ∧ u = V.ro e []) := by
  induction h with
  | nil => intro i v u h _; cases h
  | cons h t ih =>
    intro i v u hv hu
    cases i with
    | zero => obtain rfl := Option.some.inj hv; obtain rfl := Option.some.inj hu; exact h
    | succ i => exact ih i v u hv hu
theorem Sub.sl {e : Nat} {v : VT} {l : List (At e)} (hk : knownT e = true) (h : slT e v = some l) : v = V.ro e l ∨ (v = V.nils ∧ ∃ e', knownT e' = true ∧ V.ro e l = V.ro e' []) := by
  rcases slT_spec h with h | h
  · exact .inl h
  · obtain ⟨h1, h2⟩ := h
    subst h2
    exact .inr ⟨h1, e, hk, rfl⟩
theorem sub2 {cs : List VT} {x : At 2} (h : dec2 cs = some x) : Sub cs (encT 2 x) := by
  unfold dec2 at h
  split at h
  · obtain rfl := Option.some.inj h
    exact .cons (.inl rfl) (.nil)
  · cases h
theorem sub3 {cs : List VT} {x : At 3} (h : dec3 cs = some x) : Sub cs (encT 3 x) := by
  unfold dec3 at h
  split at h
  · obtain rfl := Option.some.inj h
    exact .cons (.inl rfl) (.nil)
  · cases h
theorem sub4 {cs : List VT} {x : At 4} (h : dec4 cs = some x) : Sub cs (encT 4 x) := by
  unfold dec4 at h
  split at h
  · obtain rfl := Option.some.inj h
    exact .cons (.inl rfl) (.nil)
  · cases h
theorem sub9 {cs : List VT} {x : At 9} (h : dec9 cs = some x) : Sub cs (encT 9 x) := by
  unfold dec9 at h
  split at h
  · obtain rfl := Option.some.inj h
    exact .cons (.inl rfl) (.nil)
  · cases h
theorem sub38 {cs : List VT} {x : At 38} (h : dec38 cs = some x) : Sub cs (encT 38 x) := by
  unfold dec38 at h
  split at h
  · obtain rfl := Option.some.inj h
    exact .cons (.inl rfl) (.cons (.inl rfl) (.nil))
  · cases h
theorem sub55 {cs : List VT} {x : At 55} (h : dec55 cs = some x) : Sub cs (encT 55 x) := by
  unfold dec55 at h
  split at h
  · split at h
    · rename_i h1 h2 h3
      obtain rfl := Option.some.inj h
      exact .cons (.inl rfl) (.cons (Sub.sl rfl h1) (.cons (Sub.sl rfl h2) (.cons (Sub.sl rfl h3) (.cons (.inl rfl) (.cons (.inl rfl) (.nil))))))
    · cases h
  · cases h
theorem sub63 {cs : List VT} {x : At 63} (h : dec63 cs = some x) : Sub cs (encT 63 x) := by
  unfold dec63 at h
  split at h
  · obtain rfl := Option.some.inj h
    exact .cons (.inl rfl) (.cons (.inl rfl) (.nil))
  · cases h
theorem sub65 {cs : List VT} {x : At 65} (h : dec65 cs = some x) : Sub cs (encT 65 x) := by
  unfold dec65 at h
  split at h
  · obtain rfl := Option.some.inj h
    exact .cons (.inl rfl) (.cons (.inl rfl) (.nil))
  · cases h
theorem sub69 {cs : List VT} {x : At 69} (h : dec69 cs = some x) : Sub cs (encT 69 x) := by
  unfold dec69 at h
  split at h
  · obtain rfl := Option.some.inj h
    exact .cons (.inl rfl) (.cons (.inl rfl) (.cons (.inl rfl) (.cons (.inl rfl) (.nil))))
  · cases h
def infoB (P : Program) (e : Nat) : Bool := match P.info? e with
  | some i => (match i.zero with | some z => Nat.beq z.cells.size i.size && Nat.ble i.bytes 65536 | none => false)
  | none => false
theorem infoB_spec {P : Program} {e : Nat} (h : infoB P e = true) : ∃ i z, P.info? e = some i ∧ i.zero = some z ∧ z.cells.size = i.size ∧ i.bytes ≤ 65536 := by
  unfold infoB at h
  split at h
  · rename_i i hi
    split at h
    · rename_i z hz
      simp only [Bool.and_eq_true] at h
      exact ⟨i, z, hi, hz, Nat.eq_of_beq_eq_true h.1, Nat.le_of_ble_eq_true h.2⟩
    · cases h
  · cases h
theorem known_cases {e : Nat} {p : Nat → Prop} (h : knownT e = true) (h2 : p 2) (h3 : p 3) (h4 : p 4) (h9 : p 9) (h38 : p 38) (h55 : p 55) (h63 : p 63) (h65 : p 65) (h69 : p 69) : p e := by
  have hm : e ∈ [2, 3, 4, 9, 38, 55, 63, 65, 69] := (memN_iff e _).1 h
  simp only [List.mem_cons, List.not_mem_nil, or_false] at hm
  rcases hm with rfl | rfl | rfl | rfl | rfl | rfl | rfl | rfl | rfl <;> assumption
theorem TT_ok : TT.Ok Tryz.prog where
  size := fun e h => known_cases (p := fun e => 0 < szT Tryz.prog e) h (Nat.le_of_ble_eq_true (by kernel_rfl)) (Nat.le_of_ble_eq_true (by kernel_rfl)) (Nat.le_of_ble_eq_true (by kernel_rfl)) (Nat.le_of_ble_eq_true (by kernel_rfl)) (Nat.le_of_ble_eq_true (by kernel_rfl)) (Nat.le_of_ble_eq_true (by kernel_rfl)) (Nat.le_of_ble_eq_true (by kernel_rfl)) (Nat.le_of_ble_eq_true (by kernel_rfl)) (Nat.le_of_ble_eq_true (by kernel_rfl))
  len := fun e x h => known_cases (p := fun e => ∀ x : At e, (encT e x).length = szT Tryz.prog e) h (fun x => by kernel_rfl) (fun x => by kernel_rfl) (fun x => by kernel_rfl) (fun x => by kernel_rfl) (fun x => by kernel_rfl) (fun x => by kernel_rfl) (fun x => by kernel_rfl) (fun x => by kernel_rfl) (fun x => by kernel_rfl) x
  info := fun e h => infoB_spec (known_cases (p := fun e => infoB Tryz.prog e = true) h (by kernel_rfl) (by kernel_rfl) (by kernel_rfl) (by kernel_rfl) (by kernel_rfl) (by kernel_rfl) (by kernel_rfl) (by kernel_rfl) (by kernel_rfl))
  pure := fun e x v h hv => (by
    have h2 : ((encT e x).all fun v => v.pure 1 && v.one) = true := known_cases (p := fun e => ∀ x : At e, ((encT e x).all fun v => v.pure 1 && v.one) = true) h (fun x => by kernel_rfl) (fun x => by kernel_rfl) (fun x => by kernel_rfl) (fun x => by kernel_rfl) (fun x => by kernel_rfl) (fun x => by kernel_rfl) (fun x => by kernel_rfl) (fun x => by kernel_rfl) (fun x => by kernel_rfl) x
    have h3 := List.all_eq_true.1 h2 v hv
    rw [Bool.and_eq_true] at h3
    exact h3)
  key := fun e x y hy h => known_cases (p := fun e => isKeyT e = true → ∀ x y : At e, isO (keyE (encT e x) (encT e y)) = true) h (fun _ x y => by kernel_rfl) (fun _ x y => by kernel_rfl) (fun h => nomatch (show false = true from h)) (fun _ x y => by kernel_rfl) (fun h => nomatch (show false = true from h)) (fun h => nomatch (show false = true from h)) (fun h => nomatch (show false = true from h)) (fun h => nomatch (show false = true from h)) (fun h => nomatch (show false = true from h)) hy x y
  dec := fun e cs x h hx => (by
    have h2 : Sub cs (encT e x) := known_cases (p := fun e => ∀ x : At e, decT e cs = some x → Sub cs (encT e x)) h (fun x h => sub2 h) (fun x h => sub3 h) (fun x h => sub4 h) (fun x h => sub9 h) (fun x h => sub38 h) (fun x h => sub55 h) (fun x h => sub63 h) (fun x h => sub65 h) (fun x h => sub69 h) x hx
    refine ⟨h2.length.trans (known_cases (p := fun e => ∀ x : At e, (encT e x).length = szT Tryz.prog e) h (fun x => by kernel_rfl) (fun x => by kernel_rfl) (fun x => by kernel_rfl) (fun x => by kernel_rfl) (fun x => by kernel_rfl) (fun x => by kernel_rfl) (fun x => by kernel_rfl) (fun x => by kernel_rfl) (fun x => by kernel_rfl) x), h2.get⟩)
def roV (e : Nat) (v : VT) : Option (List (At e)) := match v with | .ro e' l => (if h : e' = e then some (h ▸ l : List (At e)) else none) | _ => none
theorem roV_spec {e : Nat} {v : VT} {l : List (At e)} (h : roV e v = some l) : v = .ro e l := by
  unfold roV at h
  split at h
  · split at h
    · rename_i e'
      subst e'
      obtain rfl := Option.some.inj h
      rfl
    · cases h
  · cases h
/-- the cells of a GValue, exactly -/
def ex38 (l : List VT) : Option GValue := match l with | [.int .i64 a0, .int .i64 a1] => some ⟨a0, a1⟩ | _ => none
theorem ex38_spec {l : List VT} {x : GValue} (h : ex38 l = some x) : l = enc38 x := by
  unfold ex38 at h
  split at h
  · obtain rfl := Option.some.inj h; rfl
  · cases h
def ag38 (v : VT) : Option GValue := match v with | .agg l => ex38 l | _ => none
theorem ag38_spec {v : VT} {x : GValue} (h : ag38 v = some x) : v = .agg (enc38 x) := by
  unfold ag38 at h
  split at h
  · rw [ex38_spec h]
  · cases h
/-- the cells of a GDescriptor, exactly -/
def ex55 (l : List VT) : Option GDescriptor := match l with | [.str a0, a1, a2, a3, .int .i64 a4, .int .i64 a5] => (match roV 69 a1, roV 65 a2, roV 65 a3 with | some a1, some a2, some a3 => some ⟨a0, a1, a2, a3, a4, a5⟩ | _, _, _ => none) | _ => none
theorem ex55_spec {l : List VT} {x : GDescriptor} (h : ex55 l = some x) : l = enc55 x := by
  unfold ex55 at h
  split at h
  · split at h
    · rename_i ha1 ha2 ha3
      obtain rfl := Option.some.inj h
      rw [roV_spec ha1, roV_spec ha2, roV_spec ha3]
      rfl
    · cases h
  · cases h
def ag55 (v : VT) : Option GDescriptor := match v with | .agg l => ex55 l | _ => none
theorem ag55_spec {v : VT} {x : GDescriptor} (h : ag55 v = some x) : v = .agg (enc55 x) := by
  unfold ag55 at h
  split at h
  · rw [ex55_spec h]
  · cases h
/-- the cells of a GParam, exactly -/
def ex63 (l : List VT) : Option GParam := match l with | [.str a0, .int .i64 a1] => some ⟨a0, a1⟩ | _ => none
theorem ex63_spec {l : List VT} {x : GParam} (h : ex63 l = some x) : l = enc63 x := by
  unfold ex63 at h
  split at h
  · obtain rfl := Option.some.inj h; rfl
  · cases h
def ag63 (v : VT) : Option GParam := match v with | .agg l => ex63 l | _ => none
theorem ag63_spec {v : VT} {x : GParam} (h : ag63 v = some x) : v = .agg (enc63 x) := by
  unfold ag63 at h
  split at h
  · rw [ex63_spec h]
  · cases h
/-- the cells of a GPort, exactly -/
def ex65 (l : List VT) : Option GPort := match l with | [.str a0, .str a1] => some ⟨a0, a1⟩ | _ => none
theorem ex65_spec {l : List VT} {x : GPort} (h : ex65 l = some x) : l = enc65 x := by
  unfold ex65 at h
  split at h
  · obtain rfl := Option.some.inj h; rfl
  · cases h
def ag65 (v : VT) : Option GPort := match v with | .agg l => ex65 l | _ => none
theorem ag65_spec {v : VT} {x : GPort} (h : ag65 v = some x) : v = .agg (enc65 x) := by
  unfold ag65 at h
  split at h
  · rw [ex65_spec h]
  · cases h
/-- the cells of a GBound, exactly -/
def ex69 (l : List VT) : Option GBound := match l with | [.str a0, .int .i64 a1, .int .i64 a2, .int .i64 a3] => some ⟨a0, a1, a2, a3⟩ | _ => none
theorem ex69_spec {l : List VT} {x : GBound} (h : ex69 l = some x) : l = enc69 x := by
  unfold ex69 at h
  split at h
  · obtain rfl := Option.some.inj h; rfl
  · cases h
def ag69 (v : VT) : Option GBound := match v with | .agg l => ex69 l | _ => none
theorem ag69_spec {v : VT} {x : GBound} (h : ag69 v = some x) : v = .agg (enc69 x) := by
  unfold ag69 at h
  split at h
  · rw [ex69_spec h]
  · cases h
end Go.Proofs.YtbcpnhnalhhfoaaGreatDoor.X
