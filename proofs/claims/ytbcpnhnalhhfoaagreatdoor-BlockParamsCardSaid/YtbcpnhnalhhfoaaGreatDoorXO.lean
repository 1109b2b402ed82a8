/-
  Inputs: contracts, and BlockInputs.
-/
import Derived.Test.YtbcpnhnalhhfoaaGreatDoorXN
import Derived.Test.YtbcpnhnalhhfoaaGreatDoorXW
set_option autoImplicit false
set_option linter.unusedVariables false
set_option linter.unusedSimpArgs false
set_option maxRecDepth 100000
namespace Go.Proofs.YtbcpnhnalhhfoaaGreatDoor.X
open Go Go.Proofs Go.RowKit Go.Proofs.YtbcpnhnalhhfoaaGreatDoor
noncomputable section
def goodD (d : GDescriptor) : Bool := Nat.blt 0 d.inputs.length && Nat.ble d.inputs.length 3 && decide (1 ≤ d.most) && decide (d.most ≤ 7) && Nat.ble d.params.length 5
theorem lib_good : libL.all goodD = true := by kernel_rfl
theorem findD_mem {n : ByteArray} : ∀ {l : List GDescriptor} {d : GDescriptor}, findD n l = some d → d ∈ l
  | [], d, h => by cases h
  | x :: l, d, h => by
    replace h : (if eqB x.name n = true then some x else findD n l) = some d := h
    split at h
    · obtain rfl := Option.some.inj h; exact List.mem_cons_self ..
    · exact List.mem_cons_of_mem _ (findD_mem h)
theorem find_good {n : ByteArray} {d : GDescriptor} (h : findD n libL = some d) : 1 ≤ d.inputs.length ∧ d.inputs.length ≤ 3 ∧ 1 ≤ d.most ∧ d.most ≤ 7 ∧ d.params.length ≤ 5 := by
  have h1 := List.all_eq_true.1 lib_good d (findD_mem h)
  unfold goodD at h1
  simp only [Bool.and_eq_true, decide_eq_true_eq] at h1
  exact ⟨Nat.le_of_ble_eq_true h1.1.1.1.1, Nat.le_of_ble_eq_true h1.1.1.1.2, h1.1.1.2, h1.1.2, Nat.le_of_ble_eq_true h1.2⟩
def inpD (d : GDescriptor) (c : Int) : List GPort × Int := if c < (d.inputs.length : Int) then ([], 1) else if c > (d.inputs.length : Int) + d.most - 1 then ([], 1) else (more14 d c d.inputs, 0)
def inpR (o : Option GDescriptor) (c : Int) : List GPort × Int := match o with | none => ([], 3) | some d => inpD d c
def inpV (p : List GPort × Int) : Res At := (.tup [.ro 65 p.1, .int .i64 p.2], [])
def crP (z : Option (Res At)) : Option (Res At) := coRes TT [some 65] (shutRes z)
def inpF (z : Option (Res At)) (x : Bool) (y : Bool) (v : List GPort) (d : GDescriptor) (c : Int) : Option (Res At) :=
  if decide (c < (d.inputs.length : Int)) = false then
   if decide (c > IntKind.i64.wrap (IntKind.i64.wrap ((d.inputs.length : Int) + d.most) - 1)) = true then z
   else
    if x = true then
     if y = true then some ((.tup [(.own 0), (.int .i64 0)]), [(0, (.row 65 v false))]) else none
    else none
  else z
theorem run_inputs (n : ByteArray) (c : Int) : runF C14' 60 14 [.str n, .int .i64 c] = (if (n.size + 1).blt 4611686018427387904 = true then
   if (!decide (erD (findD n libL) = 0)) = true then some ((.tup [.nils, (.int .i64 (erD (findD n libL)))]), [])
   else inpF (some (.tup [.nils, (.int .i64 1)], [])) (cons1 (orD (findD n libL)).inputs) (ok14 (orD (findD n libL), c, ((orD (findD n libL)).inputs.length : Int), (orD (findD n libL)).inputs)) (more14 (orD (findD n libL)) c (orD (findD n libL)).inputs) (orD (findD n libL)) c
  else none : Option (Res At)) := by kernel_rfl
theorem run_inputsR (n : ByteArray) (c : Int) : runF C15' 60 15 [.str n, .int .i64 c] = (
   if (!isD (findD n libL)) = true then some ((.tup [.nils, (.int .i64 3)]), [])
   else inpF (some (.tup [.nils, (.int .i64 1)], [])) (decide (([] : List GPort).length + (orD (findD n libL)).inputs.length < 16777216)) (ok14 (orD (findD n libL), c, ((orD (findD n libL)).inputs.length : Int), [] ++ (orD (findD n libL)).inputs)) (more14 (orD (findD n libL)) c ([] ++ (orD (findD n libL)).inputs)) (orD (findD n libL)) c : Option (Res At)) := by
  show _ = (if (!isD (findD n libL)) = true then some ((.tup [.nils, (.int .i64 3)]), []) else
    (if decide (c < ((orD (findD n libL)).inputs.length : Int)) = false then
     if decide (c > IntKind.i64.wrap (IntKind.i64.wrap (((orD (findD n libL)).inputs.length : Int) + (orD (findD n libL)).most) - 1)) = true then (some (.tup [.nils, (.int .i64 1)], []))
     else
      if decide (([] : List GPort).length + (orD (findD n libL)).inputs.length < 16777216) = true then
       if (ok14 (orD (findD n libL), c, ((orD (findD n libL)).inputs.length : Int), [] ++ (orD (findD n libL)).inputs)) = true then some ((.tup [(.own 0), (.int .i64 0)]), [(0, (.row 65 (more14 (orD (findD n libL)) c ([] ++ (orD (findD n libL)).inputs)) false))]) else none
      else none
    else (some (.tup [.nils, (.int .i64 1)], []))) : Option (Res At))
  have h : runF C15' 60 15 [.str n, .int .i64 c] = (if (!isD (findD n libL)) = true then some ((.tup [.nils, (.int .i64 3)]), []) else
    (if decide (c < ((orD (findD n libL)).inputs.length : Int)) = false then
     if decide (c > IntKind.i64.wrap (IntKind.i64.wrap (((orD (findD n libL)).inputs.length : Int) + (orD (findD n libL)).most) - 1)) = true then (some (.tup [.nils, (.int .i64 1)], []))
     else
      if ([] : List GPort).length + (orD (findD n libL)).inputs.length < 16777216 then
       if (ok14 (orD (findD n libL), c, ((orD (findD n libL)).inputs.length : Int), [] ++ (orD (findD n libL)).inputs)) = true then some ((.tup [(.own 0), (.int .i64 0)]), [(0, (.row 65 (more14 (orD (findD n libL)) c ([] ++ (orD (findD n libL)).inputs)) false))]) else none
      else none
    else (some (.tup [.nils, (.int .i64 1)], []))) : Option (Res At)) := by kernel_rfl
  rw [h]
  simp only [decide_eq_true_eq]
theorem inpF_eq {n : ByteArray} {d : GDescriptor} (hd : findD n libL = some d) (x y : Bool) (v : List GPort) (c : Int) (hx : x = true) (hy : c < 16777216 → y = true) (hv : v = more14 d c d.inputs) : crP (inpF (some (.tup [.nils, (.int .i64 1)], [])) x y v d c) = some (inpV (inpD d c)) := by
  obtain ⟨h1, h2, h3, h4, _⟩ := find_good hd
  have hw : IntKind.i64.wrap (IntKind.i64.wrap ((d.inputs.length : Int) + d.most) - 1) = (d.inputs.length : Int) + d.most - 1 := by
    rw [wrap_small (i := (d.inputs.length : Int) + d.most) (by omega) (by omega), wrap_small (by omega) (by omega)]
  unfold inpF inpD
  rw [hw, hx]
  by_cases hc : c < (d.inputs.length : Int)
  · rw [if_pos hc, if_neg (by simp [hc])]; rfl
  · rw [if_neg hc, if_pos (by simp [hc])]
    by_cases hm : c > (d.inputs.length : Int) + d.most - 1
    · rw [if_pos hm, if_pos (by simp only [decide_eq_true_eq]; omega)]; rfl
    · rw [if_neg hm, if_neg (by simp only [decide_eq_true_eq]; omega), if_pos rfl, if_pos (hy (by omega)), hv]
      rfl
theorem ok14_of {n : ByteArray} {d : GDescriptor} (hd : findD n libL = some d) (c : Int) (l : List GPort) (h : c < 16777216) : ok14 (d, c, (d.inputs.length : Int), l) = true := by
  obtain ⟨h1, h2, h3, h4, _⟩ := find_good hd
  unfold ok14
  simp only [Bool.and_eq_true, decide_eq_true_eq]
  exact ⟨⟨⟨trivial, Nat.ble_eq_true_of_le h1⟩, Nat.ble_eq_true_of_le (by omega)⟩, h⟩
theorem cons1_of {n : ByteArray} {d : GDescriptor} (hd : findD n libL = some d) : cons1 d.inputs = true := by
  obtain ⟨h1, h2, _⟩ := find_good hd
  cases hl : d.inputs with
  | nil => rw [hl] at h1; cases h1
  | cons x l => rw [hl] at h2; exact Nat.ble_eq_true_of_le (by simp at h2; omega)
theorem inputs_eq (n : ByteArray) (hn : (n.size + 1).blt 4611686018427387904 = true) (c : Int) : crP (runF C14' 60 14 [.str n, .int .i64 c]) = some (inpV (inpR (findD n libL) c)) := by
  rw [run_inputs, if_pos hn]
  cases ho : findD n libL with
  | none => rfl
  | some d =>
    show crP (inpF _ (cons1 d.inputs) (ok14 (d, c, (d.inputs.length : Int), d.inputs)) (more14 d c d.inputs) d c) = some (inpV (inpD d c))
    exact inpF_eq ho _ _ _ c (cons1_of ho) (ok14_of ho c _) rfl
theorem inputsR_eq (n : ByteArray) (c : Int) : crP (runF C15' 60 15 [.str n, .int .i64 c]) = some (inpV (inpR (findD n libL) c)) := by
  rw [run_inputsR]
  cases ho : findD n libL with
  | none => rfl
  | some d =>
    show crP (inpF _ (decide (0 + d.inputs.length < 16777216)) (ok14 (d, c, (d.inputs.length : Int), d.inputs)) (more14 d c d.inputs) d c) = some (inpV (inpD d c))
    obtain ⟨h1, h2, _⟩ := find_good ho
    exact inpF_eq ho _ _ _ c (by simp; omega) (ok14_of ho c _) rfl
def onSI {R : Type} (F : ByteArray → Int → Option R) (l : List VT) : Option R := match l with | [.str a, .int .i64 b] => F a b | _ => none
theorem onSI_spec {R : Type} {F : ByteArray → Int → Option R} {l : List VT} {r : R} (h : onSI F l = some r) : ∃ a b, l = [.str a, .int .i64 b] ∧ F a b = some r := by
  unfold onSI at h
  split at h
  · exact ⟨_, _, rfl, h⟩
  · cases h
def conInputs : CON := onSI fun n c => some ((n.size + 1).blt 4611686018427387904, inpV (inpR (findD n libL) c))
theorem okInputs : OK 14 conInputs := by
  refine ok_co (E := mkE C14') TT_ok (body_ok (E := mkE C14') (good C14'_ok) (f := 14) (fn := (bodyT 14).getD default) (c := codeOf 14) (by rfl) (by rfl) 60) [some 65] fun l r h => ?_
  replace h := onSI_spec (conO_some h)
  obtain ⟨a, b, rfl, h⟩ := h
  obtain ⟨hn, rfl⟩ := some_pair h
  exact inputs_eq a hn b
def conInputsR : CON := onSI fun n c => some (true, inpV (inpR (findD n libL) c))
theorem okInputsR : OK 15 conInputsR := by
  refine ok_co (E := mkE C15') TT_ok (body_ok (E := mkE C15') (good C15'_ok) (f := 15) (fn := (bodyT 15).getD default) (c := codeOf 15) (by rfl) (by rfl) 60) [some 65] fun l r h => ?_
  replace h := onSI_spec (conO_some h)
  obtain ⟨a, b, rfl, h⟩ := h
  obtain ⟨_, rfl⟩ := some_pair h
  exact inputsR_eq a b
/-! the law -/
def lib3 : List (Nat × CON) := (14, conInputs) :: (15, conInputsR) :: lib2
theorem lib3_ok : AllOK lib3 := .cons okInputs (.cons okInputsR lib2_ok)
def C3 : Cfg := { cs := lib3 }
theorem C3_ok : CfgOK C3 := { con := lib3_ok }
end
end Go.Proofs.YtbcpnhnalhhfoaaGreatDoor.X
