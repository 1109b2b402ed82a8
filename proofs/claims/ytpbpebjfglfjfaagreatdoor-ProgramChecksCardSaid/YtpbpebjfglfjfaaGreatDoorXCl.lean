/-
  slices.Clone, at rows of any kind.
-/
import Derived.Test.YtpbpebjfglfjfaaGreatDoorXR
import Derived.Test.YtpbpebjfglfjfaaGreatDoorXS
set_option autoImplicit false
set_option linter.unusedVariables false
set_option linter.unusedSimpArgs false
set_option maxRecDepth 100000
namespace Go.Proofs.YtpbpebjfglfjfaaGreatDoor.X
open Go Go.Proofs Go.RowKit Go.Proofs.YtpbpebjfglfjfaaGreatDoor
noncomputable section
theorem run_calls {C : Cfg} (h : CfgOK C) {f n : Nat} {xs : List VT} {vs : Array Value} {w : World} {okb : Nat → Prop} {r : Res At} (hG : GW w) (hs : vs.size = xs.length) (hr : ∀ i v, xs[i]? = some v → Rep TT Tryz.prog w (fun _ => none) okb v (vs.getD i undef)) (hok : ∀ b, okb b → b < w.heap.size) (h1 : runF C n f xs = some r) :
    Calls Tryz.prog f vs w (RetRel TT Tryz.prog w okb r) := by
  unfold runF at h1
  split at h1
  · rename_i fn hfn
    split at h1
    · rename_i c hc
      exact (body_ok (E := mkE C) (good h) hfn hc n).2 w okb xs vs r hG hs hr hok h1
    · cases h1
  · cases h1
theorem ret_nil_row {w w' : World} {okb : Nat → Prop} {x : Ending} {e : Nat} (hk : knownT e = true) (h : RetRel TT Tryz.prog w okb (.nils, []) x w') : RetRel TT Tryz.prog w okb (.own 0, [(0, .row e [] false)]) x w' := by
  obtain ⟨c, μr, n, rfl, H, hv⟩ := h
  replace hv : Rep TT Tryz.prog w' μr _ .nils c := hv
  cases hv
  exact ret_row (T := TT) (P := Tryz.prog) (cs := []) hk H.below.of rfl (World.ownsRow_nil _ _ _ _) fun ok j x q v hx => by simp at hx
theorem ro_nil_inv {T : Tab} {P : Program} {w : World} {μ : Nat → Option Value} {ok : Nat → Prop} {e : Nat} {c : Value} (h : Rep T P w μ ok (.ro e []) c) : ∃ a cap, c = .slice a 0 cap := by
  cases h with | ro _ _ a cap cf hk hcap hmax ha hr => exact ⟨a, cap, rfl⟩
def conClone (e : Nat) : CON := fun l => match l with | [x] => (match slT e x with | some l => some (Nat.blt l.length 16777216, (.own 0, [(0, .row e l false)])) | none => none) | _ => none
theorem ok_clone {C : Cfg} (hC : CfgOK C) {f e n : Nat} (he : entB f = true) (hk : knownT e = true) (h1 : ∀ (a : At e) (l : List (At e)), runF C n f [.ro e (a :: l)] = if ([] : List (At e)).length + (a :: l).length < 16777216 then some (.own 0, [(0, .row e (a :: l) false)]) else none)
    (h2 : ∀ (a : Addr) (cap : Nat), runF C n f [.nul (.slice (some a) 0 cap)] = some (.own 0, [(0, .row e [] false)])) (h3 : ∀ cap : Nat, runF C n f [.nul (.slice none 0 cap)] = some (.nils, [])) : OK f (conClone e) := by
  refine ⟨entB_spec he, fun w okb xs vs r hG hs hr hok h => ?_⟩
  replace h := conO_some h
  cases xs with
  | nil => cases h
  | cons x t =>
  cases t with
  | cons y t => cases h
  | nil =>
    replace h : (match slT e x with | some l => some (Nat.blt l.length 16777216, ((.own 0, [(0, .row e l false)]) : Res At)) | none => none) = some (true, r) := h
    split at h
    · rename_i l hl
      obtain ⟨hlt, rfl⟩ := some_pair h
      have hr0 := hr 0 x rfl
      have emp : (∃ a cap, vs.getD 0 undef = .slice a 0 cap) → l = [] → Calls Tryz.prog f vs w (RetRel TT Tryz.prog w okb (.own 0, [(0, .row e l false)])) := by
        rintro ⟨a, cap, ha⟩ rfl
        have hn : ∀ i v, [(V.nul (.slice a 0 cap) : VT)][i]? = some v → Rep TT Tryz.prog w (fun _ => none) okb v (vs.getD i undef) := fun i v hv => by
          cases i with
          | zero => obtain rfl := Option.some.inj hv; rw [ha]; exact .nul _ (by cases a <;> rfl)
          | succ i => cases hv
        cases a with
        | none => exact (run_calls hC (xs := [.nul (.slice none 0 cap)]) hG hs hn hok (h3 cap)).mono fun e w' hret => ret_nil_row hk hret
        | some a => exact run_calls hC (xs := [.nul (.slice (some a) 0 cap)]) hG hs hn hok (h2 a cap)
      rcases slT_spec hl with rfl | ⟨rfl, rfl⟩
      · cases l with
        | nil =>
          refine emp ?_ rfl
          exact ro_nil_inv hr0
        | cons a l => exact run_calls hC hG hs hr hok ((h1 a l).trans (if_pos (by have := Nat.le_of_ble_eq_true hlt; simp at this ⊢; omega)))
      · refine emp ?_ rfl
        exact ⟨none, 0, hr0.nils_inv⟩
    · cases h
theorem okClonePa : OK 132 (conClone 93) := ok_clone C0_ok (n := 60) (by kernel_rfl) (by kernel_rfl) (fun a l => by kernel_rfl) (fun a c => by kernel_rfl) (fun c => by kernel_rfl)
theorem okClonePo : OK 120 (conClone 159) := ok_clone C0_ok (n := 60) (by kernel_rfl) (by kernel_rfl) (fun a l => by kernel_rfl) (fun a c => by kernel_rfl) (fun c => by kernel_rfl)
theorem okCloneLi : OK 133 (conClone 55) := ok_clone C0_ok (n := 60) (by kernel_rfl) (by kernel_rfl) (fun a l => by kernel_rfl) (fun a c => by kernel_rfl) (fun c => by kernel_rfl)
theorem okCloneNo : OK 130 (conClone 58) := ok_clone C0_ok (n := 60) (by kernel_rfl) (by kernel_rfl) (fun a l => by kernel_rfl) (fun a c => by kernel_rfl) (fun c => by kernel_rfl)
theorem okCloneDr : OK 131 (conClone 89) := ok_clone C0_ok (n := 60) (by kernel_rfl) (by kernel_rfl) (fun a l => by kernel_rfl) (fun a c => by kernel_rfl) (fun c => by kernel_rfl)
def libC : List (Nat × CON) := (132, conClone 93) :: (120, conClone 159) :: (133, conClone 55) :: (130, conClone 58) :: (131, conClone 89) :: lib0
theorem libC_ok : AllOK libC := .cons okClonePa (.cons okClonePo (.cons okCloneLi (.cons okCloneNo (.cons okCloneDr lib0_ok))))
end
end Go.Proofs.YtpbpebjfglfjfaaGreatDoor.X
/-! awake. -/
namespace Go.Proofs.YtpbpebjfglfjfaaGreatDoor.X
open Go Go.Proofs Go.RowKit Go.Proofs.YtpbpebjfglfjfaaGreatDoor
noncomputable section
def insA : List Nat := [11, 35, 36, 37, 93, 94, 95, 147, 171, 76, 134, 159, 186, 135]
def CA : Cfg := { cs := libC, ins := insA }
theorem CA_ok : CfgOK CA := { con := libC_ok }
theorem run_awake : runF CA 600 9 [] = some (.bool true, []) := by kernel_rfl
def conAwake : CON := fun l => match l with | [] => some (true, (.bool true, [])) | _ => none
theorem okAwake : OK 9 conAwake := ok_run CA_ok (by kernel_rfl) fun l r h => by
  cases l with
  | nil => exact ⟨600, run_awake.trans (congrArg some (some_pair h).2)⟩
  | cons x l => cases h
end
end Go.Proofs.YtpbpebjfglfjfaaGreatDoor.X
