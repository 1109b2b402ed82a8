/-
  Find, as a plain law.
-/
import Derived.Test.YtbcpnhnalhhfoaaGreatDoorXG
set_option autoImplicit false
set_option linter.unusedVariables false
set_option linter.unusedSimpArgs false
set_option maxRecDepth 100000
namespace Go.Proofs.YtbcpnhnalhhfoaaGreatDoor.X
open Go Go.Proofs Go.RowKit Go.Proofs.YtbcpnhnalhhfoaaGreatDoor
noncomputable section
/-- the descriptor of a name -/
def findD (n : ByteArray) (l : List GDescriptor) : Option GDescriptor := List.rec (motive := fun _ => Option GDescriptor) none (fun d _ ih => if eqB d.name n = true then some d else ih) l
def orD (o : Option GDescriptor) : GDescriptor := match o with | some d => d | none => gd0
def isD (o : Option GDescriptor) : Bool := match o with | some _ => true | none => false
def erD (o : Option GDescriptor) : Int := match o with | some _ => 0 | none => 3
/-- told by elements, descriptors by their kind -/
def crD (z : Option (Res At)) : Option (Res At) := coRes TT [some 55] (shutRes z)
theorem findR_eq (n : ByteArray) : ∀ l : List GDescriptor, crD (findR l n) = some (.tup [.agg (enc55 (orD (findD n l))), .bool (isD (findD n l))], [])
  | [] => rfl
  | d :: l => by
    show crD (if eqB d.name n = true then some (.tup [desV d, .bool true], []) else findR l n) = some (.tup [.agg (enc55 (orD (if eqB d.name n = true then some d else findD n l))), .bool (isD (if eqB d.name n = true then some d else findD n l))], [])
    by_cases h : eqB d.name n = true
    · rw [if_pos h, if_pos h]; rfl
    · rw [if_neg h, if_neg h]; exact findR_eq n l
def conFindR : CON := onS fun n => some (true, (.tup [.agg (enc55 (orD (findD n libL))), .bool (isD (findD n libL))], []))
theorem okFindR : OK 26 conFindR := by
  refine ok_co (E := mkE C1) TT_ok (body_ok (E := mkE C1) (good C1_ok) (f := 26) (fn := (bodyT 26).getD default) (c := codeOf 26) (by rfl) (by rfl) 200) [some 55] fun l r h => ?_
  replace h := onS_spec (conO_some h)
  obtain ⟨a, rfl, h⟩ := h
  obtain ⟨_, rfl⟩ := some_pair h
  exact (congrArg crD (run_refFind a)).trans (findR_eq a libL)
/-! the program's table -/
def rowOk (p : ByteArray × GDescriptor) : Bool := Lib.hasPrefix p.1.data.toList (p.2.name.data.toList ++ [124]) && !List.elem 124 p.2.name.data.toList
theorem rows_ok : tabL.all rowOk = true := by kernel_rfl
theorem first_bar : ∀ {a b r s : List UInt8}, a ++ 124 :: r = b ++ 124 :: s → (124 : UInt8) ∉ a → (124 : UInt8) ∉ b → a = b
  | [], [], _, _, _, _, _ => rfl
  | [], y :: b, _, _, h, _, hb => by
    simp only [List.nil_append, List.cons_append, List.cons.injEq] at h
    exact absurd (by rw [h.1]; exact List.mem_cons_self ..) hb
  | x :: a, [], _, _, h, ha, _ => by
    simp only [List.nil_append, List.cons_append, List.cons.injEq] at h
    exact absurd (by rw [← h.1]; exact List.mem_cons_self ..) ha
  | x :: a, y :: b, _, _, h, ha, hb => by
    simp only [List.cons_append, List.cons.injEq] at h
    rw [h.1, first_bar h.2 (fun e => ha (List.mem_cons_of_mem _ e)) (fun e => hb (List.mem_cons_of_mem _ e))]
theorem row_spec {p : ByteArray × GDescriptor} (h : rowOk p = true) (n : ByteArray) : (Lib.hasPrefix p.1.data.toList (catB n bar).data.toList = true ∧ (!List.elem 124 n.data.toList) = true) ↔ eqB p.2.name n = true := by
  unfold rowOk at h
  rw [Bool.and_eq_true] at h
  have e : (catB n bar).data.toList = n.data.toList ++ [124] := by unfold catB bar; simp
  rw [e]
  unfold Lib.hasPrefix at *
  simp only [List.isPrefixOf_iff_prefix, Bool.not_eq_true', List.elem_eq_mem, decide_eq_false_iff_not] at h ⊢
  rw [eqB_iff, decide_eq_true_iff]
  obtain ⟨⟨r, hr⟩, hnb⟩ := h
  constructor
  · rintro ⟨⟨s, hs⟩, hn⟩
    have h5 := hr.trans hs.symm
    simp only [List.append_assoc, List.cons_append, List.nil_append] at h5
    have := first_bar h5 hnb hn
    cases hp : p.2.name with | mk x => cases n with | mk y =>
    rw [hp] at this
    congr 1
    exact Array.ext' this
  · rintro rfl
    exact ⟨⟨r, hr⟩, hnb⟩
theorem findP_eq (n : ByteArray) (hn : n.size + 1 < 4611686018427387904) : ∀ l : List (ByteArray × GDescriptor), l.all rowOk = true → crD (findP n l) = some (.tup [.agg (enc55 (orD (findD n (l.map Prod.snd)))), .int .i64 (erD (findD n (l.map Prod.snd)))], [])
  | [], _ => rfl
  | p :: l, h => by
    rw [List.all_cons, Bool.and_eq_true] at h
    have ih := findP_eq n hn l h.2
    have hs := row_spec h.1 n
    show crD (if n.size + 1 < 4611686018427387904 then (if Lib.hasPrefix p.1.data.toList (catB n bar).data.toList = true then (if (!List.elem 124 n.data.toList) = true then some (.tup [desV p.2, .int .i64 0], []) else findP n l) else findP n l) else none) =
      some (.tup [.agg (enc55 (orD (if eqB p.2.name n = true then some p.2 else findD n (l.map Prod.snd)))), .int .i64 (erD (if eqB p.2.name n = true then some p.2 else findD n (l.map Prod.snd)))], [])
    rw [if_pos hn]
    by_cases he : eqB p.2.name n = true
    · rw [if_pos he, if_pos (hs.2 he).1, if_pos (hs.2 he).2]
      rfl
    · rw [if_neg he]
      by_cases h1 : Lib.hasPrefix p.1.data.toList (catB n bar).data.toList = true
      · rw [if_pos h1]
        by_cases h2 : (!List.elem 124 n.data.toList) = true
        · exact absurd (hs.1 ⟨h1, h2⟩) he
        · rw [if_neg h2]; exact ih
      · rw [if_neg h1]; exact ih
def conFind : CON := onS fun n => some (Nat.blt (n.size + 1) 4611686018427387904, (.tup [.agg (enc55 (orD (findD n libL))), .int .i64 (erD (findD n libL))], []))
theorem okFind : OK 24 conFind := by
  refine ok_co (E := mkE C24') TT_ok (body_ok (E := mkE C24') (good C24'_ok) (f := 24) (fn := (bodyT 24).getD default) (c := codeOf 24) (by rfl) (by rfl) 60) [some 55] fun l r h => ?_
  replace h := onS_spec (conO_some h)
  obtain ⟨a, rfl, h⟩ := h
  obtain ⟨hn, rfl⟩ := some_pair h
  exact (congrArg crD (run_find a)).trans (findP_eq a (Nat.le_of_ble_eq_true hn) tabL rows_ok)
end
end Go.Proofs.YtbcpnhnalhhfoaaGreatDoor.X
