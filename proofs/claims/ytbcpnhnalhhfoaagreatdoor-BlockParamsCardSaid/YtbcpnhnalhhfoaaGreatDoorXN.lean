/-
  Inputs, of the program and of the reference: at every name and number.
-/
import Derived.Test.YtbcpnhnalhhfoaaGreatDoorXY
set_option autoImplicit false
set_option linter.unusedVariables false
set_option linter.unusedSimpArgs false
set_option maxRecDepth 100000
namespace Go.Proofs.YtbcpnhnalhhfoaaGreatDoor.X
open Go Go.Proofs Go.RowKit Go.Proofs.YtbcpnhnalhhfoaaGreatDoor
noncomputable section
theorem run_clone65 (a : GPort) (l : List GPort) : runF C0 60 33 [.ro 65 (a :: l)] = if ([] : List GPort).length + (a :: l).length < 16777216 then some ((.own 0), [(0, (.row 65 (a :: l) false))]) else none := by kernel_rfl
def cons1 (l : List GPort) : Bool := match l with | [] => false | _ :: l => Nat.blt (l.length + 1) 16777216
def conClone65 : CON := fun l => match l with | [x] => (match roV 65 x with | some l => some (cons1 l, (.own 0, [(0, .row 65 l false)])) | none => none) | _ => none
theorem okClone65 : OK 33 conClone65 := ok_run C0_ok (by kernel_rfl) fun l r h => by
  unfold conClone65 at h
  split at h
  · split at h
    · rename_i l' hl
      obtain ⟨hc, rfl⟩ := some_pair h
      rw [roV_spec hl]
      cases l' with
      | nil => cases hc
      | cons a l' =>
        have : l'.length + 1 < 16777216 := Nat.le_of_ble_eq_true hc
        exact ⟨60, (run_clone65 a l').trans (if_pos (show (0 : Nat) + (l'.length + 1) < 16777216 by omega))⟩
    · cases h
  · cases h
/-! the loop -/
def lastP (d : GDescriptor) (n : Int) : GPort := gt gp0 d.inputs (IntKind.wrap .i64 (n - 1)).toNat
def st14 {α : Type} (d : GDescriptor) (c n : Int) (l : List GPort) (go : List GPort → α) (ex : List GPort → α) (no : α) : α :=
  if decide ((l.length : Int) < c) = true then
   if 0 ≤ IntKind.i64.wrap (n - 1) then
    if IntKind.i64.wrap (n - 1) < (d.inputs.length : Int) then
     if l.length + [lastP d n].length < 16777216 then go (l ++ [lastP d n]) else no
    else no
   else no
  else ex l
abbrev S14t := GDescriptor × Int × Int × List GPort
def step14 (s : S14t) : Nx S14t (List GPort) := st14 s.1 s.2.1 s.2.2.1 s.2.2.2 (fun l => .go (s.1, s.2.1, s.2.2.1, l)) .ex .no
def more14 (d : GDescriptor) (c : Int) (l : List GPort) : List GPort := l ++ List.replicate (c - (l.length : Int)).toNat (lastP d (d.inputs.length : Int))
theorem iter14 (d : GDescriptor) (c : Int) (h1 : 1 ≤ d.inputs.length) (h2 : d.inputs.length ≤ 9223372036854775807) (hc : c < 16777216) : ∀ (k : Nat) (l : List GPort), (c - (l.length : Int)).toNat = k → iter step14 k (d, c, (d.inputs.length : Int), l) = some (.ex (more14 d c l))
  | 0, l, hk => by
    refine iter_ex ?_ 0
    unfold step14 st14 more14
    rw [if_neg (by simp; omega), hk]
    simp
  | k + 1, l, hk => by
    have hw : IntKind.wrap .i64 ((d.inputs.length : Int) - 1) = (d.inputs.length : Int) - 1 := wrap_small (by omega) (by omega)
    have hs : step14 (d, c, (d.inputs.length : Int), l) = .go (d, c, (d.inputs.length : Int), l ++ [lastP d (d.inputs.length : Int)]) := by
      unfold step14 st14
      dsimp only
      rw [hw, if_pos (by simp; omega), if_pos (by omega), if_pos (by omega), if_pos (by simp; omega)]
    rw [iter_go hs, iter14 d c h1 h2 hc k _ (by simp; omega)]
    unfold more14
    rw [hk, List.replicate_succ, show (c - ((l ++ [lastP d (d.inputs.length : Int)]).length : Int)).toNat = k by simp; omega]
    simp
def u14 (st : St At) : Option S14t := match st with
  | ⟨[(1, .int .i64 c), (6, .ptr 0 0), (8, .int .i64 n), (9, .own 1)], [], [(0, .var x false), (1, b)], 2⟩ => (match exD x, rowB 65 b with | some d, some l => some (d, c, n, l) | _, _ => none)
  | _ => none
def S14 (s : S14t) : St At := { env := [(1, .int .i64 s.2.1), (6, .ptr 0 0), (8, .int .i64 s.2.2.1), (9, .own 1)], stk := [], hp := [(0, .var (enc55 s.1) false), (1, .row 65 s.2.2.2 false)], nx := 2 }
def X14 (l : List GPort) : St At := { env := [(9, .own 0)], stk := [], hp := [(0, .row 65 l false)], nx := 1 }
theorem u14_spec {st : St At} {s : S14t} (h : u14 st = some s) : st = S14 s := by
  unfold u14 at h
  split at h
  · split at h
    · rename_i hx hb
      obtain rfl := Option.some.inj h
      rw [exD_spec hx, rowB_spec hb]
      rfl
    · cases h
  · cases h
def ok14 (s : S14t) : Bool := decide (s.2.2.1 = (s.1.inputs.length : Int)) && Nat.blt 0 s.1.inputs.length && Nat.ble s.1.inputs.length 9223372036854775807 && decide (s.2.1 < 16777216)
def g14 : LP := fun st K => match u14 st with | some s => if ok14 s = true then K (.ex 0) (X14 (more14 s.1 s.2.1 s.2.2.2)) else none | none => none
theorem g14_spec {st : St At} {K : Xit → St At → Option (Res At)} {q : Res At} (h : g14 st K = some q) : ∃ s k e, st = S14 s ∧ iter step14 k s = some e ∧ e.k 0 X14 X14 K = some q := by
  unfold g14 at h
  split at h
  · rename_i s hu
    split at h
    · rename_i hc
      unfold ok14 at hc
      simp only [Bool.and_eq_true, decide_eq_true_eq] at hc
      obtain ⟨⟨⟨h1, h2⟩, h3⟩, h4⟩ := hc
      obtain ⟨d, c, n, l⟩ := s
      dsimp only at h1 h2 h3 h4 h
      subst h1
      exact ⟨_, _, _, u14_spec hu, iter14 d c (Nat.le_of_ble_eq_true h2) (Nat.le_of_ble_eq_true h3) h4 _ l rfl, h⟩
    · cases h
  · cases h
/-! of the program -/
def C14 : Cfg := { cs := (33, conClone65) :: lib2, ks := [((14, 8), [(1, none), (6, none), (8, none), (9, some 65)])], xs := [((14, 8), [(9, none)])] }
theorem C14_ok : CfgOK C14 := { con := .cons okClone65 lib2_ok }
theorem B14 (s : S14t) (m : Nat) (R : St At → Option (Res At)) (K : Xit → St At → Option (Res At)) : B C14 14 8 (m + 60) (S14 s) R K = st14 s.1 s.2.1 s.2.2.1 s.2.2.2 (fun l => R (S14 (s.1, s.2.1, s.2.2.1, l))) (fun l => K (.ex 0) (X14 l)) none := by kernel_rfl
theorem okg14 : OKL 14 8 g14 := okl_iter C14_ok (S := S14) (X := X14) (Y := X14) (step := step14) (id := 0) (by kernel_rfl) (by kernel_rfl)
  (fun s m R K => by rw [B14]; unfold step14 st14; (repeat' split) <;> rfl) (fun s => by kernel_rfl) fun st K q h => g14_spec h
def C14' : Cfg := { cs := C14.cs, ks := C14.ks, xs := C14.xs, lps := [((14, 8), g14)] }
theorem C14'_ok : CfgOK C14' := { con := C14_ok.con, lp := .cons okg14 .nil }
/-! of the reference -/
def C15 : Cfg := { cs := lib2, ks := [((15, 8), [(1, none), (6, none), (8, none), (9, some 65)])], xs := [((15, 8), [(9, none)])] }
theorem C15_ok : CfgOK C15 := { con := lib2_ok }
theorem B15 (s : S14t) (m : Nat) (R : St At → Option (Res At)) (K : Xit → St At → Option (Res At)) : B C15 15 8 (m + 60) (S14 s) R K = st14 s.1 s.2.1 s.2.2.1 s.2.2.2 (fun l => R (S14 (s.1, s.2.1, s.2.2.1, l))) (fun l => K (.ex 0) (X14 l)) none := by kernel_rfl
theorem okg15 : OKL 15 8 g14 := okl_iter C15_ok (S := S14) (X := X14) (Y := X14) (step := step14) (id := 0) (by kernel_rfl) (by kernel_rfl)
  (fun s m R K => by rw [B15]; unfold step14 st14; (repeat' split) <;> rfl) (fun s => by kernel_rfl) fun st K q h => g14_spec h
def C15' : Cfg := { cs := C15.cs, ks := C15.ks, xs := C15.xs, lps := [((15, 8), g14)] }
theorem C15'_ok : CfgOK C15' := { con := C15_ok.con, lp := .cons okg15 .nil }
end
end Go.Proofs.YtbcpnhnalhhfoaaGreatDoor.X
