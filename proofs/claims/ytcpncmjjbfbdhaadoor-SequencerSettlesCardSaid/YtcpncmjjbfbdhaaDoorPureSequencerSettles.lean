/-
  SequencerSettles: Settle returns the specified numbers or error: the plain law.
-/
import Derived.Test.YtcpncmjjbfbdhaaDoorSq2
import Derived.Test.YtcpncmjjbfbdhaaDoorRx10
import Derived.Test.YtcpncmjjbfbdhaaDoorRx14
import Derived.Test.YtcpncmjjbfbdhaaDoorRx15
import Derived.Test.YtcpncmjjbfbdhaaDoorRx17
namespace Go.Proofs.YtcpncmjjbfbdhaaDoor.Pure
open Go Go.RowKit Go.Proofs.YtcpncmjjbfbdhaaDoor.R Go.Proofs.YtcpncmjjbfbdhaaDoor.Sq Go.Proofs.YtcpncmjjbfbdhaaDoorW.PrintWords Go.Proofs.YtcpncmjjbfbdhaaDoorW.PrintMore
set_option linter.unusedVariables false
set_option linter.unusedSimpArgs false

theorem set_j0 (l0 l1 : List Int) (x dt : Int) : ∃ K, ∀ k, K ≤ k → plenumlaw21_SequencerSettles.j0 k l0 l1 x dt false = some true := by
  obtain ⟨K, r, hf, ho⟩ := settle_f l0 l1 x dt
  have start : ∀ k, 70 ≤ k → K ≤ k → plenumlaw21_SequencerSettles.j0 (k + 1) l0 l1 x dt false = (if checkOf B5 l0 = 0 then ((plenumref21_Time.f dt).bind fun t701 => (if t701 = true then ((plenumref21_State.f k stageB l0 l1).bind fun t702 => (if t702 = true then (if x < (-1000000000000) then (plenumlaw21_SequencerSettles.j1 k l0 l1 x dt r.1 r.2.1 r.2.2 (checkOf B5 l0) true) else (plenumlaw21_SequencerSettles.j1 k l0 l1 x dt r.1 r.2.1 r.2.2 (checkOf B5 l0) (decide (x > 1000000000000)))) else (if r.2.2 = 8 then (if r.1 = 0 then (some (r.2.1 == 0)) else (none)) else (none)))) else (if r.2.2 = 1 then (if r.1 = 0 then (some (r.2.1 == 0)) else (none)) else (none)))) else (if r.2.2 = checkOf B5 l0 then (if r.1 = 0 then (some (r.2.1 == 0)) else (none)) else (none))) := by
    intro k h1 h2
    simp only [plenumlaw21_SequencerSettles.j0]
    rw [if_neg (by simp), hf k h2, show (⟨#[115, 116, 97, 103, 101]⟩ : ByteArray) = stageB from rfl, refcheck_stage l0 k (by omega)]
    rfl
  have tm : ∀ (c : Prop) [Decidable c], decide c = true ↔ c := fun c _ => decide_eq_true_iff
  refine ⟨K + 2000000, fun k hk => ?_⟩
  obtain ⟨k, rfl⟩ : ∃ m, k = m + 1 := ⟨k - 1, by omega⟩
  rw [start k (by omega) (by omega)]
  cases ho with
  | bad h e => subst e; rw [if_neg h, if_pos rfl, if_pos rfl]; rfl
  | time h hd e =>
    subst e
    rw [if_pos h, time_f, Option.bind_some, if_neg (by simpa using hd), if_pos rfl, if_pos rfl]
    rfl
  | state h hd hs e =>
    subst e
    obtain ⟨n, up, dn, ud, dd, rfl, hp⟩ := check5 h
    have hs : vst n l1 = false := hs
    rw [if_pos h, time_f, Option.bind_some, if_pos (by simpa using hd), refstate_f n _ l1 k (by omega), Option.bind_some, hs, if_neg (by simp), if_pos rfl, if_pos rfl]
    rfl
  | range h hd hs hx e =>
    subst e
    obtain ⟨n, up, dn, ud, dd, rfl, hp⟩ := check5 h
    have hs : vst n l1 = true := hs
    rw [if_pos h, time_f, Option.bind_some, if_pos (by simpa using hd), refstate_f n _ l1 k (by omega), Option.bind_some, hs, if_pos rfl]
    have fin : plenumlaw21_SequencerSettles.j1 k [n, up, dn, ud, dd] l1 x dt 0 0 6 (checkOf B5 [n, up, dn, ud, dd]) true = some true := by
      obtain ⟨k, rfl⟩ : ∃ m, k = m + 1 := ⟨k - 1, by omega⟩
      simp only [plenumlaw21_SequencerSettles.j1]
      rfl
    by_cases h1 : x < -1000000000000
    · rw [if_pos h1]; exact fin
    · rw [if_neg h1, decide_eq_true (by omega)]; exact fin
  | conflict h hd hs hx hc e =>
    subst e
    obtain ⟨n, up, dn, ud, dd, rfl, hp⟩ := check5 h
    have hs : vst n l1 = true := hs
    have hc : x > up ∧ x < dn := hc
    rw [if_pos h, time_f, Option.bind_some, if_pos (by simpa using hd), refstate_f n _ l1 k (by omega), Option.bind_some, hs, if_pos rfl, if_neg (by omega), decide_eq_false (by omega)]
    obtain ⟨k, rfl⟩ : ∃ m, k = m + 2 := ⟨k - 2, by omega⟩
    simp only [plenumlaw21_SequencerSettles.j1]
    rw [if_neg (by simp), if_pos (by simp), if_pos (show x > rd [n, up, dn, ud, dd] 1 from hc.1), if_pos (by simp), show rd [n, up, dn, ud, dd] 2 = dn from rfl, decide_eq_true hc.2]
    simp only [plenumlaw21_SequencerSettles.j2]
    rfl
  | runs n up dn ud dd s t N hl0 hl1 h hp hv hd hx hc e hN hN0 hprog href =>
    subst e hl0 hl1
    have hs : vst n [s, t] = true := decide_eq_true ⟨hv.s1, hv.s2, hv.t1, hv.t2⟩
    rw [if_pos h, time_f, Option.bind_some, if_pos (by simpa using hd), refstate_f n _ _ k (by omega), Option.bind_some, hs, if_pos rfl, if_neg (by omega), decide_eq_false (by omega)]
    obtain ⟨k, rfl⟩ : ∃ m, k = m + 2 := ⟨k - 2, by omega⟩
    have fin : plenumlaw21_SequencerSettles.j2 (k + 1) [n, up, dn, ud, dd] [s, t] x dt (goal n up dn x s) (N : Int) 0 (checkOf B5 [n, up, dn, ud, dd]) false = some true := by
      simp only [plenumlaw21_SequencerSettles.j2]
      rw [if_neg (by simp), if_pos h, href k (by omega)]
      simp
    simp only [plenumlaw21_SequencerSettles.j1]
    rw [if_neg (by simp), if_pos (by simp)]
    by_cases c1 : x > up
    · rw [if_pos (show x > rd [n, up, dn, ud, dd] 1 from c1), if_pos (by simp), show rd [n, up, dn, ud, dd] 2 = dn from rfl, decide_eq_false (fun h => hc ⟨c1, h⟩)]
      exact fin
    · rw [if_neg (show ¬ x > rd [n, up, dn, ud, dd] 1 from c1)]
      exact fin

theorem SequencerSettles : plenumlaw21_SequencerSettles.Pure := by
  intro l0 l1 a2 a3 _ _ _ _ _ _ _ _
  obtain ⟨K, hK⟩ := set_j0 l0 l1 a2 a3
  refine ⟨K + 100, ?_⟩
  unfold plenumlaw21_SequencerSettles.f plenumlaw21_few.f
  rw [awake_f _ (by omega), Option.bind_some, if_pos rfl, Option.bind_some]
  have ht : plenumlaw21_SequencerSettles.j0 (K + 100) l0 l1 a2 a3 true = some true := by
    obtain ⟨k, hk⟩ : ∃ m, K + 100 = m + 1 := ⟨K + 99, by omega⟩
    rw [hk]; simp only [plenumlaw21_SequencerSettles.j0]; rfl
  have hj : ∀ b : Bool, plenumlaw21_SequencerSettles.j0 (K + 100) l0 l1 a2 a3 b = some true := by
    intro b
    cases b with
    | true => exact ht
    | false => exact hK _ (by omega)
  by_cases h0 : (l0.length : Int) ≤ 10
  · rw [if_pos (by simpa using h0), Option.bind_some]
    by_cases h1 : (l1.length : Int) ≤ 10
    · rw [if_pos (by simpa using h1)]
      split <;> exact hj _
    · rw [if_neg (by simpa using h1)]; exact ht
  · rw [if_neg (by simpa using h0)]; exact ht
end Go.Proofs.YtcpncmjjbfbdhaaDoor.Pure
