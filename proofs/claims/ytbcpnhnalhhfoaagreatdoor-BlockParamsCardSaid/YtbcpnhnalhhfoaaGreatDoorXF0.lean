/-
  The conditions of parameters.
-/
import Derived.Test.YtbcpnhnalhhfoaaGreatDoorXO
set_option autoImplicit false
set_option linter.unusedVariables false
set_option linter.unusedSimpArgs false
set_option maxRecDepth 100000
namespace Go.Proofs.YtbcpnhnalhhfoaaGreatDoor.X
open Go Go.Proofs Go.RowKit Go.Proofs.YtbcpnhnalhhfoaaGreatDoor
noncomputable section
def Rhold (s : ByteArray) (ps : List Int) : Option (Res At) :=
  if eqB s { data := #[108, 105, 109, 105, 116] } = true then
   if 0 < (↑ps.length : Int) then
    if 1 < (↑ps.length : Int) then
     some ((.bool (decide (gt (Int.ofNat 0) ps (Int.toNat 0) ≤ gt (Int.ofNat 0) ps (Int.toNat 1)))), [])
    else
     none
   else
    none
  else
   if eqB s { data := #[112, 105, 100] } = true then
    if 2 < (↑ps.length : Int) then
     if 3 < (↑ps.length : Int) then
      some ((.bool (decide (gt (Int.ofNat 0) ps (Int.toNat 2) ≤ gt (Int.ofNat 0) ps (Int.toNat 3)))), [])
     else
      none
    else
     none
   else
    if eqB s { data := #[108, 105, 110, 101] } = true then
     if 0 < (↑ps.length : Int) then
      if 2 < (↑ps.length : Int) then
       some ((.bool (decide (gt (Int.ofNat 0) ps (Int.toNat 0) < gt (Int.ofNat 0) ps (Int.toNat 2)))), [])
      else
       none
     else
      none
    else
     if eqB s { data := #[104, 121, 115, 116] } = true then
      if 1 < (↑ps.length : Int) then
       if 0 < (↑ps.length : Int) then
        some ((.bool (decide (gt (Int.ofNat 0) ps (Int.toNat 1) < gt (Int.ofNat 0) ps (Int.toNat 0)))), [])
       else
        none
      else
       none
     else
      some ((.bool true), [])
theorem run_Rhold (s : ByteArray) (ps : List Int) : runF C0 60 30 [.str s, .ro 2 ps] = Rhold s ps := by kernel_rfl
def bLimit : ByteArray := ⟨#[108, 105, 109, 105, 116]⟩
def bPid : ByteArray := ⟨#[112, 105, 100]⟩
def bLine : ByteArray := ⟨#[108, 105, 110, 101]⟩
def bHyst : ByteArray := ⟨#[104, 121, 115, 116]⟩
def holdsN (s : ByteArray) : Nat := if eqB s bLimit = true then 2 else if eqB s bPid = true then 4 else if eqB s bLine = true then 3 else if eqB s bHyst = true then 2 else 0
def pg (ps : List Int) (i : Nat) : Int := gt (Int.ofNat 0) ps i
def holdsV (s : ByteArray) (ps : List Int) : Bool := if eqB s bLimit = true then decide (pg ps 0 ≤ pg ps 1) else if eqB s bPid = true then decide (pg ps 2 ≤ pg ps 3) else if eqB s bLine = true then decide (pg ps 0 < pg ps 2) else if eqB s bHyst = true then decide (pg ps 1 < pg ps 0) else true
def onSL {R : Type} (e : Nat) (F : ByteArray → List (At e) → Option R) (l : List VT) : Option R := match l with | [.str s, x] => (match roV e x with | some ps => F s ps | none => none) | _ => none
theorem onSL_spec {R : Type} {e : Nat} {F : ByteArray → List (At e) → Option R} {l : List VT} {r : R} (h : onSL e F l = some r) : ∃ s ps, l = [.str s, .ro e ps] ∧ F s ps = some r := by
  unfold onSL at h
  split at h
  · split at h
    · rename_i hx
      exact ⟨_, _, by rw [roV_spec hx], h⟩
    · cases h
  · cases h
def conHolds : CON := onSL 2 fun s (ps : List Int) => some (Nat.ble (holdsN s) ps.length, (.bool (holdsV s ps), []))
theorem Rhold_eq (s : ByteArray) (ps : List Int) (hc : holdsN s ≤ ps.length) : Rhold s ps = some (.bool (holdsV s ps), []) := by
  unfold Rhold holdsV
  unfold holdsN at hc
  by_cases h1 : eqB s bLimit = true
  · simp only [if_pos h1] at hc ⊢
    rw [if_pos (show eqB s { data := #[108, 105, 109, 105, 116] } = true from h1), if_pos (show (0 : Int) < (ps.length : Int) by omega), if_pos (show (1 : Int) < (ps.length : Int) by omega)]; rfl
  · simp only [if_neg h1] at hc ⊢
    rw [if_neg (show ¬ eqB s { data := #[108, 105, 109, 105, 116] } = true from h1)]
    by_cases h2 : eqB s bPid = true
    · simp only [if_pos h2] at hc ⊢
      rw [if_pos (show eqB s { data := #[112, 105, 100] } = true from h2), if_pos (show (2 : Int) < (ps.length : Int) by omega), if_pos (show (3 : Int) < (ps.length : Int) by omega)]; rfl
    · simp only [if_neg h2] at hc ⊢
      rw [if_neg (show ¬ eqB s { data := #[112, 105, 100] } = true from h2)]
      by_cases h3 : eqB s bLine = true
      · simp only [if_pos h3] at hc ⊢
        rw [if_pos (show eqB s { data := #[108, 105, 110, 101] } = true from h3), if_pos (show (0 : Int) < (ps.length : Int) by omega), if_pos (show (2 : Int) < (ps.length : Int) by omega)]; rfl
      · simp only [if_neg h3] at hc ⊢
        rw [if_neg (show ¬ eqB s { data := #[108, 105, 110, 101] } = true from h3)]
        by_cases h4 : eqB s bHyst = true
        · simp only [if_pos h4] at hc ⊢
          rw [if_pos (show eqB s { data := #[104, 121, 115, 116] } = true from h4), if_pos (show (1 : Int) < (ps.length : Int) by omega), if_pos (show (0 : Int) < (ps.length : Int) by omega)]; rfl
        · simp only [if_neg h4] at hc ⊢
          rw [if_neg (show ¬ eqB s { data := #[104, 121, 115, 116] } = true from h4)]
theorem okHolds : OK 30 conHolds := ok_run C0_ok (by kernel_rfl) fun l r h => by
  replace h := onSL_spec h
  obtain ⟨s, ps, rfl, h⟩ := h
  obtain ⟨hc, rfl⟩ := some_pair h
  exact ⟨60, (run_Rhold s ps).trans (Rhold_eq s ps (Nat.le_of_ble_eq_true hc))⟩
end
end Go.Proofs.YtbcpnhnalhhfoaaGreatDoor.X
