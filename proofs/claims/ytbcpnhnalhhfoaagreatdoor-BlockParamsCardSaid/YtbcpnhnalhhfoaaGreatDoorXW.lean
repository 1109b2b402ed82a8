/-
  From a contract to a law's row.
-/
import Derived.Test.YtbcpnhnalhhfoaaGreatDoorXR
set_option autoImplicit false
set_option linter.unusedVariables false
namespace Go.Proofs.YtbcpnhnalhhfoaaGreatDoor.X
open Go Go.Proofs Go.RowKit Go.Proofs.YtbcpnhnalhhfoaaGreatDoor
inductive Reps (W : World) : List VT → List Value → Prop
  | nil : Reps W [] []
  | cons {v : VT} {c : Value} {l : List VT} {m : List Value} (h : Rep TT Tryz.prog W (fun _ => none) (fun b => b < W.heap.size) v c) (t : Reps W l m) : Reps W (v :: l) (c :: m)
theorem Reps.get {W : World} {l : List VT} {m : List Value} (h : Reps W l m) : m.length = l.length ∧ ∀ (i : Nat) (v : VT), l[i]? = some v → Rep TT Tryz.prog W (fun _ => none) (fun b => b < W.heap.size) v (m.getD i undef) := by
  induction h with
  | nil => exact ⟨rfl, fun i v h => by cases h⟩
  | cons h t ih =>
    refine ⟨by simp [ih.1], fun i v hv => ?_⟩
    cases i with
    | zero => obtain rfl := Option.some.inj hv; exact h
    | succ i => exact ih.2 i v hv
theorem law_calls {f : Nat} {g : CON} (h : OK f g) {W : World} {xs : List VT} {vs : Array Value} (hG : GW W) (hs : vs.toList.length = xs.length) (hr : Reps W xs vs.toList) (hg : g xs = some (true, (.bool true, []))) :
    Calls Tryz.prog f vs W fun e W' => e = .returned (.bool true) ∧ Below W.heap.size W W' := by
  obtain ⟨h1, h2⟩ := hr.get
  refine (h.2 W (fun b => b < W.heap.size) xs vs (.bool true, []) hG ((Array.length_toList (xs := vs)).symm.trans h1) (fun i v hv => ?_) (fun b hb => hb) (congrArg conO hg)).mono fun e W' hret => ?_
  · have := h2 i v hv
    rw [List.getD_eq_getElem?_getD, Array.getElem?_toList] at this
    rw [Array.getD_eq_getD_getElem?]; exact this
  · obtain ⟨c, μr, n, rfl, H, hv⟩ := hret
    replace hv : Rep TT Tryz.prog W' μr _ (.bool true) c := hv
    rw [hv.bool_inv]
    exact ⟨rfl, H.below⟩
end Go.Proofs.YtbcpnhnalhhfoaaGreatDoor.X
