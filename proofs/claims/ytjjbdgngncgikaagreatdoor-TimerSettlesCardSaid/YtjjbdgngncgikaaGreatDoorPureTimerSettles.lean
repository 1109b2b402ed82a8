/-
  TimerSettles: for all states and inputs Settle returns the specified output and step, or the error: the plain law.
-/
import Derived.Test.YtjjbdgngncgikaaGreatDoorTm9
import Derived.Test.YtjjbdgngncgikaaGreatDoorRx11
import Derived.Test.YtjjbdgngncgikaaGreatDoorRx19
import Derived.Test.YtjjbdgngncgikaaGreatDoorRx20
namespace Go.Proofs.YtjjbdgngncgikaaGreatDoor.Pure
open Go Go.RowKit Go.Proofs.YtjjbdgngncgikaaGreatDoor.R Go.Proofs.YtjjbdgngncgikaaGreatDoor.Tm Go.Proofs.YtjjbdgngncgikaaGreatDoorW.PrintWords Go.Proofs.YtjjbdgngncgikaaGreatDoorW.PrintMore
set_option linter.unusedVariables false
set_option linter.unusedSimpArgs false

section
variable (nm : ByteArray) (l s : List Int) (r : List S26) (hl : l.length ≤ 8)
include hl
theorem settles_a (R : Int × Int × Int × Int) (K : Nat) (hR : ∀ k, K ≤ k → timer_Settle.f k nm l s r = some R ∧ plenumref19_Settle.f k nm l s r = some R) : ∀ (d i k : Nat), i + d = l.length → K + 3 * d + 3 ≤ k → plenumlaw19_TimerSettles.l0 k nm l s r (i : Int) = some true
  | 0, i, k, hd, hk => by
    obtain ⟨k, rfl⟩ : ∃ m, k = m + 2 := ⟨k - 2, by omega⟩
    simp only [plenumlaw19_TimerSettles.l0, plenumlaw19_TimerSettles.j2]
    rw [if_neg (by omega), if_neg (by simp), (hR k (by omega)).1, (hR k (by omega)).2, Option.bind_some, Option.bind_some]
    simp
  | d + 1, i, k, hd, hk => by
    obtain ⟨k, rfl⟩ : ∃ m, k = m + 2 := ⟨k - 2, by omega⟩
    have hi : i < l.length := by omega
    have ih := settles_a R K hR d (i + 1) k (by omega) (by omega)
    simp only [plenumlaw19_TimerSettles.l0, plenumlaw19_TimerSettles.j2]
    rw [if_pos (by omega), wrap_id (by omega) (by omega), show (i : Int) + 1 = ((i + 1 : Nat) : Int) by omega, ih]
    by_cases c : nm.toList = ([104, 121, 115, 116] : List UInt8)
    · rw [if_neg (by simp [c]), (hR k (by omega)).1, (hR k (by omega)).2, Option.bind_some, Option.bind_some]
      simp
    · rw [if_pos (bne_iff_ne.2 c), if_pos (by omega), if_pos (by omega)]
      split
      · split <;> rfl
      · rfl
theorem settles_b (hn : nm.toList ≠ ([104, 121, 115, 116] : List UInt8)) : ∀ (d i k : Nat), i + d = l.length → 3 * d + 3 ≤ k → (∃ p ∈ l.drop i, 200 < p ∧ p ≤ 86400) → plenumlaw19_TimerSettles.l0 k nm l s r (i : Int) = some true
  | 0, i, k, hd, hk, hp => by
    rw [List.drop_eq_nil_of_le (by omega)] at hp
    obtain ⟨p, hp, _⟩ := hp
    exact absurd hp (by simp)
  | d + 1, i, k, hd, hk, hp => by
    obtain ⟨k, rfl⟩ : ∃ m, k = m + 2 := ⟨k - 2, by omega⟩
    have hi : i < l.length := by omega
    simp only [plenumlaw19_TimerSettles.l0, plenumlaw19_TimerSettles.j2]
    rw [if_pos (by omega), if_pos (bne_iff_ne.2 hn), if_pos (by omega), if_pos (by omega), wrap_id (by omega) (by omega), show (i : Int) + 1 = ((i + 1 : Nat) : Int) by omega, rdI l i hi]
    rw [List.drop_eq_getElem_cons (i := i) hi] at hp
    have go : ¬ (200 < l[i] ∧ l[i] ≤ 86400) → plenumlaw19_TimerSettles.l0 k nm l s r ((i + 1 : Nat) : Int) = some true := fun hb => by
      obtain ⟨p, hp, q⟩ := hp
      rcases List.mem_cons.1 hp with rfl | hp
      · exact absurd q hb
      · exact settles_b hn d (i + 1) k (by omega) (by omega) ⟨p, hp, q⟩
    by_cases c : l[i] > 200
    · rw [if_pos c]
      by_cases e : l[i] ≤ 86400
      · rw [if_pos e]
      · rw [if_neg e]; exact go (fun h => e h.2)
    · rw [if_neg c]; exact go (fun h => c h.1)
end
theorem TimerSettles (a0 : ByteArray) (l1 l2 : List Int) (l3 : List S26) (_ : a0.size ≤ maxLen) (_ : l1.length ≤ maxLen) (_ : ∀ x ∈ l1, (Lit.int .i64 x).wf = true) (_ : l2.length ≤ maxLen) (_ : ∀ x ∈ l2, (Lit.int .i64 x).wf = true)
    (_ : l3.length ≤ maxLen) (_ : ∀ x ∈ l3, (Lit.int .i64 x.f0).wf = true ∧ (Lit.int .i64 x.f1).wf = true) : ∃ k, plenumlaw19_TimerSettles.f k a0 l1 l2 l3 = some true := by
  have hj0 : ∀ k, plenumlaw19_TimerSettles.j0 (k + 1) a0 l1 l2 l3 true = some true := by intro k; simp only [plenumlaw19_TimerSettles.j0]; rfl
  have start : ∀ k, 110 ≤ k → (l1.length ≤ 8 → plenumlaw19_TimerSettles.l0 (k - 1) a0 l1 l2 l3 0 = some true) → plenumlaw19_TimerSettles.f k a0 l1 l2 l3 = some true := by
    intro k hk h
    obtain ⟨k, rfl⟩ : ∃ m, k = m + 1 := ⟨k - 1, by omega⟩
    rw [Nat.add_sub_cancel] at h
    unfold plenumlaw19_TimerSettles.f
    rw [awake_f _ (by omega), Option.bind_some, if_pos rfl]
    by_cases c1 : (a0.size : Int) > 40
    · rw [if_pos c1]; exact hj0 _
    rw [if_neg c1]
    by_cases c2 : (l1.length : Int) > 8
    · rw [if_pos c2]; exact hj0 _
    rw [if_neg c2]
    by_cases c3 : (l2.length : Int) > 8
    · rw [if_pos c3]; exact hj0 _
    rw [if_neg c3]
    by_cases c4 : (l3.length : Int) > 8
    · rw [decide_eq_true c4]; exact hj0 _
    rw [decide_eq_false c4]
    simp only [plenumlaw19_TimerSettles.j0]
    rw [if_neg (by simp)]
    exact h (by omega)
  by_cases hp : a0.toList ≠ ([104, 121, 115, 116] : List UInt8) → ∀ p ∈ l1, ¬ (200 < p ∧ p ≤ 86400)
  · obtain ⟨R, K, hR⟩ := tells a0 l1 l2 l3 hp
    refine ⟨K + 200, start _ (by omega) fun hl => ?_⟩
    exact settles_a a0 l1 l2 l3 hl R K hR l1.length 0 _ (by omega) (by omega)
  · refine ⟨200, start _ (by omega) fun hl => ?_⟩
    have hn : a0.toList ≠ ([104, 121, 115, 116] : List UInt8) := fun h => hp (fun h2 => absurd h h2)
    refine settles_b a0 l1 l2 l3 hl hn l1.length 0 _ (by omega) (by omega) ?_
    rw [List.drop_zero]
    exact Classical.byContradiction fun h => hp fun _ p hm hb => h ⟨p, hm, hb⟩
end Go.Proofs.YtjjbdgngncgikaaGreatDoor.Pure
