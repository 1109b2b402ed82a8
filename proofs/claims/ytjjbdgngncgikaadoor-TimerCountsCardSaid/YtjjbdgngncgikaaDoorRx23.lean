-- Written by this claim's own program out of the translation; not trusted: Lean checks it.
import Derived.Test.YtjjbdgngncgikaaDoorRx0
namespace Go.Proofs.YtjjbdgngncgikaaDoor.R
open Go.RowKit Go.Proofs.YtjjbdgngncgikaaDoorW.PrintWords Go.Proofs.YtjjbdgngncgikaaDoorW.PrintLast Go.Proofs.YtjjbdgngncgikaaDoorW.PrintMore
attribute [local go_sem] max2_int min2_int max_two min_two max_three min_three max_four min_four   -- for this text's walks alone
set_option linter.unusedVariables false
set_option linter.unusedSimpArgs false

/-! ### slices_Clone_int64_int64: function 17 (its contract: by hand, out of the shelf's) -/
def slices_Clone_int64_int64.f (l0 : List Int) : Option (List Int) := if 0 < l0.length ∧ l0.length ≤ 1000000 then some l0 else none
theorem slices_Clone_int64_int64.calls (A0 : Option Addr) (c0 : Nat) (l0 : List Int) (r : List Int) (w : World) (hr0 : Kd.C (Kd.int .i64) w A0 l0.length l0) (hc0 : l0.length ≤ c0) (h : slices_Clone_int64_int64.f l0 = some r) :
    Calls Tryd.prog 17 #[.slice A0 l0.length c0] w fun e w' => ∃ v0_ : Value, e = .returned (v0_) ∧ Kd.R (Kd.int .i64) 2 w' w.heap.size (fun _ => True) v0_ r ∧ Below w.heap.size w w' := by
  unfold slices_Clone_int64_int64.f at h
  split at h
  · rename_i hc
    obtain rfl := Option.some.inj h
    obtain ⟨ad, rfl, hcell⟩ := hr0.2.2 hc.1
    have each : ∀ j, j < l0.length → w.cell? (ad.add j) = some (.int .i64 (l0.getD j 0)) := by
      intro j hj
      obtain ⟨c, hl, hk, hu⟩ := hcell j _ (List.getElem?_eq_getElem hj)
      have hk' : c = [.int .i64 l0[j]] := hk
      have h2 := hu 0 (.int .i64 l0[j]) (by rw [hk']; rfl)
      rw [show j * (Kd.int .i64).sz + 0 = j from by simp [Kd.int, Kd.scalar]] at h2
      rw [h2, List.getD_eq_getElem?_getD, List.getElem?_eq_getElem hj]; rfl
    have h0 := each 0 hc.1
    obtain ⟨b, o, s⟩ := ad
    have hs : s = none := by
      cases s with
      | none => rfl
      | some x =>
        rw [show (⟨b, o, some x⟩ : Addr).add 0 = ⟨b, o, some x⟩ from rfl] at h0
        unfold World.cell? at h0
        split at h0 <;> simp at h0
    subst hs
    refine (Tryd.slices_Clone_int b o l0.length c0 l0 w (Nat.le_refl _) (by omega) (fun j hj => ?_)).mono ?_
    · have := each j hj
      rw [show (⟨b, o, none⟩ : Addr).add j = ⟨b, o + j, none⟩ from by unfold Addr.add; split <;> simp_all] at this
      exact this
    · rintro e w' ⟨v', rfl, hown, _, hb⟩
      refine ⟨v', rfl, ⟨fun _ _ => trivial, _, hown, ?_⟩, hb⟩
      rw [List.take_length]
      exact Kd.reps_scalar (enc := Value.int .i64) l0
  · cases h


end Go.Proofs.YtjjbdgngncgikaaDoor.R
