/-
  SequencerEnds: a demand that stays high ends with all stages, one that stays low with none, one between leaves them: the plain law.
-/
import Derived.Test.YtcpncmjjbfbdhaaDoorSq3
import Derived.Test.YtcpncmjjbfbdhaaDoorRx9
import Derived.Test.YtcpncmjjbfbdhaaDoorRx22
namespace Go.Proofs.YtcpncmjjbfbdhaaDoor.Pure
open Go Go.RowKit Go.Proofs.YtcpncmjjbfbdhaaDoor.R Go.Proofs.YtcpncmjjbfbdhaaDoor.Sq Go.Proofs.YtcpncmjjbfbdhaaDoorW.PrintWords Go.Proofs.YtcpncmjjbfbdhaaDoorW.PrintMore
set_option linter.unusedVariables false
set_option linter.unusedSimpArgs false

theorem ends_loop {n up dn ud dd x dt s0 t0 : Int} {N : Nat} (h : checkOf B5 [n, up, dn, ud, dd] = 0) (hp : P5 n up dn ud dd) (hx1 : -1000000000000 ≤ x) (hx2 : x ≤ 1000000000000) (h1 : 1 ≤ dt) (h2 : dt ≤ 86400) (hc : ¬ (x > up ∧ x < dn)) (hN : (N : Int) ≤ 15 * 86401)
    (hN0 : N = 0 ↔ s0 = goal n up dn x s0) :
    ∀ (d : Nat) (i s t : Int) (M : Nat) (k : Nat), i + d = 331 → 1 ≤ i → VS n s t → (M = 0 → (N : Int) ≤ i - 1) → (0 < M → (N : Int) = i - 1 + M) →
      (∀ k, M + 5 ≤ k → sequencer_Settle.l0 k [n, up, dn, ud, dd] x dt (goal n up dn x s0) (i - 1) [s, t] = some (goal n up dn x s0, (i - 1) + (M : Int), 0)) → d + 90 ≤ k →
      plenumlaw21_SequencerEnds.l0 k [n, up, dn, ud, dd] [s0, t0] x dt (goal n up dn x s0) (N : Int) [s, t] i = some true
  | 0, i, s, t, M, k, hi, hi1, hv, hM0, hM1, hl, hk => by
    obtain ⟨k, rfl⟩ : ∃ m, k = m + 1 := ⟨k - 1, by omega⟩
    simp only [plenumlaw21_SequencerEnds.l0]
    rw [if_neg (by omega), if_pos (by simp)]
    by_cases c1 : x > up
    · rw [if_pos (show x > rd [n, up, dn, ud, dd] 1 from c1), if_pos (by simp)]
      unfold goal; rw [if_pos c1]; simp [show rd [n, up, dn, ud, dd] 0 = n from rfl]
    · rw [if_neg (show ¬ x > rd [n, up, dn, ud, dd] 1 from c1), if_pos (by simp)]
      by_cases c2 : x < dn
      · rw [if_pos (show x < rd [n, up, dn, ud, dd] 2 from c2)]
        unfold goal; rw [if_neg c1, if_pos c2]; rfl
      · rw [if_neg (show ¬ x < rd [n, up, dn, ud, dd] 2 from c2), if_pos (by simp)]
        have e : goal n up dn x s0 = s0 := by unfold goal; rw [if_neg c1, if_neg c2]
        rw [if_pos (show goal n up dn x s0 = rd [s0, t0] 0 from e), hN0.2 e.symm]
        rfl
  | d + 1, i, s, t, M, k, hi, hi1, hv, hM0, hM1, hl, hk => by
    obtain ⟨k, rfl⟩ : ∃ m, k = m + 1 := ⟨k - 1, by omega⟩
    have hMb : (i - 1) + (M : Int) ≤ 1000000000 := by
      rcases Nat.eq_zero_or_pos M with h | h
      · omega
      · have := hM1 h; omega
    obtain ⟨hz, hnx⟩ := left_next hp hv h1 h2 (by omega) hMb hl
    have hnext := stg_vs (x := x) hp hv h1 h2
    have hstep := step_stage h hp hv hx1 hx2 h1 h2 k (by omega)
    -- what is left behind this evaluation
    obtain ⟨M', hM0', hM1', hl', hz', hrel⟩ : ∃ M' : Nat, (M' = 0 → (N : Int) ≤ (i + 1) - 1) ∧ (0 < M' → (N : Int) = (i + 1) - 1 + M') ∧
        (∀ k, M' + 5 ≤ k → sequencer_Settle.l0 k [n, up, dn, ud, dd] x dt (goal n up dn x s0) ((i + 1) - 1) [(stg n up dn ud dd x dt s t).1, (stg n up dn ud dd x dt s t).2] = some (goal n up dn x s0, ((i + 1) - 1) + (M' : Int), 0)) ∧
        (M' = 0 ↔ (stg n up dn ud dd x dt s t).1 = goal n up dn x s0) ∧ M' = M - 1 := by
      rcases Nat.eq_zero_or_pos M with hM | hM
      · have e := hz.1 hM
        refine ⟨0, fun _ => by have := hM0 hM; omega, fun hh => absurd hh (by omega), ?_, ?_, by omega⟩
        · intro k hk
          have hst : stg n up dn ud dd x dt s t = (goal n up dn x s0, 0) := by rw [e]; exact goal_stay dt hc t
          rw [hst]
          obtain ⟨k, rfl⟩ : ∃ m, k = m + 1 := ⟨k - 1, by omega⟩
          simp only [sequencer_Settle.l0]
          rw [if_pos (by simp), if_pos (show rd [goal n up dn x s0, 0] 0 = goal n up dn x s0 from rfl)]
          simp
        · refine ⟨fun _ => ?_, fun _ => rfl⟩
          rw [e, goal_stay dt hc t]
      · have hn := hnx hM
        have hq : ∀ k, (M - 1) + 5 ≤ k → sequencer_Settle.l0 k [n, up, dn, ud, dd] x dt (goal n up dn x s0) ((i + 1) - 1) [(stg n up dn ud dd x dt s t).1, (stg n up dn ud dd x dt s t).2] = some (goal n up dn x s0, ((i + 1) - 1) + ((M - 1 : Nat) : Int), 0) := by
          intro k hk
          rw [show (i + 1) - 1 = (i - 1) + 1 by omega]
          exact hn k hk
        have hz2 := (left_next hp hnext h1 h2 (by omega) (by omega) hq).1
        have := hM1 hM
        exact ⟨M - 1, by omega, by omega, hq, hz2, rfl⟩
    have ih := ends_loop (t0 := t0) h hp hx1 hx2 h1 h2 hc hN hN0 d (i + 1) _ _ M' k (by omega) (by omega) hnext hM0' hM1' hl' (by omega)
    have hw : wrap64 (i + 1) = i + 1 := wrap_id (by omega) (by omega)
    have hw2 : wrap64 ((N : Int) - 1) = (N : Int) - 1 := wrap_id (by omega) (by omega)
    simp only [plenumlaw21_SequencerEnds.l0]
    rw [if_pos (by omega), show (⟨#[115, 116, 97, 103, 101]⟩ : ByteArray) = stageB from rfl, hstep, Option.bind_some, if_pos rfl, if_pos (by simp), hw, hw2]
    have hrd : rd [(stg n up dn ud dd x dt s t).1, (stg n up dn ud dd x dt s t).2] 0 = (stg n up dn ud dd x dt s t).1 := rfl
    by_cases a1 : i ≥ (N : Int)
    · have hM'0 : M' = 0 := by
        rcases Nat.eq_zero_or_pos M with hM | hM
        · omega
        · have := hM1 hM; omega
      rw [if_pos a1, if_pos (by simp), if_pos (show rd [(stg n up dn ud dd x dt s t).1, (stg n up dn ud dd x dt s t).2] 0 = goal n up dn x s0 from hz'.1 hM'0), if_neg (by omega)]
      exact ih
    · rw [if_neg a1]
      by_cases a2 : i = (N : Int) - 1
      · have hne : ¬ (stg n up dn ud dd x dt s t).1 = goal n up dn x s0 := by
          intro e
          have := hz'.2 e
          rcases Nat.eq_zero_or_pos M with hM | hM
          · have := hM0 hM; omega
          · have := hM1 hM; omega
        rw [if_pos a2, if_pos (by simp), if_neg (show ¬ rd [(stg n up dn ud dd x dt s t).1, (stg n up dn ud dd x dt s t).2] 0 = goal n up dn x s0 from hne)]
        exact ih
      · rw [if_neg a2]
        exact ih

theorem SequencerEnds : plenumlaw21_SequencerEnds.Pure := by
  intro l0 l1 x dt _ _ hw0 _ _ _ _ hdt
  obtain ⟨K, r, hf, ho⟩ := settle_f l0 l1 x dt
  have hj0 : ∀ k a b, 1 ≤ k → plenumlaw21_SequencerEnds.j0 k l0 l1 x dt a b true = some true := by
    intro k a b hk
    obtain ⟨k, rfl⟩ : ∃ m, k = m + 1 := ⟨k - 1, by omega⟩
    simp only [plenumlaw21_SequencerEnds.j0]; rfl
  have start : ∀ k, 70 ≤ k → K ≤ k → plenumlaw21_SequencerEnds.f k l0 l1 x dt = if r.2.2 = 0 then (if 3 < (l0.length : Int) then (if (rd l0 3) > (wrap64 (20 * dt)) then (plenumlaw21_SequencerEnds.j0 k l0 l1 x dt r.1 r.2.1 true) else (if 4 < (l0.length : Int) then (plenumlaw21_SequencerEnds.j0 k l0 l1 x dt r.1 r.2.1 (decide ((rd l0 4) > (wrap64 (20 * dt))))) else (none))) else (none)) else (plenumlaw21_SequencerEnds.j0 k l0 l1 x dt r.1 r.2.1 true) := by
    intro k h1 h2
    unfold plenumlaw21_SequencerEnds.f
    rw [awake_f _ (by omega), Option.bind_some, if_pos rfl, hf k h2, Option.bind_some]
  refine ⟨K + 2000000, ?_⟩
  rw [start _ (by omega) (by omega)]
  cases ho with
  | bad h e => subst e; rw [if_neg h]; exact hj0 _ _ _ (by omega)
  | time h hd e => subst e; rw [if_neg (by decide)]; exact hj0 _ _ _ (by omega)
  | state h hd hs e => subst e; rw [if_neg (by decide)]; exact hj0 _ _ _ (by omega)
  | range h hd hs hx e => subst e; rw [if_neg (by decide)]; exact hj0 _ _ _ (by omega)
  | conflict h hd hs hx hc e => subst e; rw [if_neg (by decide)]; exact hj0 _ _ _ (by omega)
  | runs n up dn ud dd s t N hl0 hl1 h hp hv hd hx hc e hN hN0 hprog href =>
    subst e hl0 hl1
    rw [if_pos rfl, if_pos (by simp)]
    have hf : plenumlaw21_SequencerEnds.j0 (K + 2000000) [n, up, dn, ud, dd] [s, t] x dt (goal n up dn x s) (N : Int) false = some true := by
      obtain ⟨k, hk⟩ : ∃ m, K + 2000000 = m + 1 := ⟨K + 1999999, by omega⟩
      rw [hk]
      simp only [plenumlaw21_SequencerEnds.j0]
      rw [if_neg (by simp)]
      exact ends_loop h hp (by omega) (by omega) hd.1 hd.2 hc hN hN0 330 1 s t N k (by omega) (by omega) hv (by omega) (by omega) (fun k hk => by
        have := hprog k hk
        simpa using this) (by omega)
    by_cases c3 : rd [n, up, dn, ud, dd] 3 > wrap64 (20 * dt)
    · rw [if_pos c3]; exact hj0 _ _ _ (by omega)
    · rw [if_neg c3, if_pos (by simp)]
      by_cases c : rd [n, up, dn, ud, dd] 4 > wrap64 (20 * dt)
      · rw [decide_eq_true c]; exact hj0 _ _ _ (by omega)
      · rw [decide_eq_false c]; exact hf
end Go.Proofs.YtcpncmjjbfbdhaaDoor.Pure
