/-
  SequencerWaits: a step but the first one is begun only with next on, and behind at least least seconds in the step before; go off ends the sequence at once: the plain law.
-/
import Derived.Test.YtcpncmjjbfbdhaaDoorSq4p
import Derived.Test.YtcpncmjjbfbdhaaDoorRx0
import Derived.Test.YtcpncmjjbfbdhaaDoorRx7
import Derived.Test.YtcpncmjjbfbdhaaDoorRx23
namespace Go.Proofs.YtcpncmjjbfbdhaaDoor.Pure
open Go Go.RowKit Go.Proofs.YtcpncmjjbfbdhaaDoor.R Go.Proofs.YtcpncmjjbfbdhaaDoor.Sq Go.Proofs.YtcpncmjjbfbdhaaDoorW.PrintWords Go.Proofs.YtcpncmjjbfbdhaaDoorW.PrintMore
set_option linter.unusedVariables false
set_option linter.unusedSimpArgs false

theorem and1 (n : Int) : Go.bits .and .i64 n 1 = n % 2 := by
  have h1 : (BitVec.ofInt 64 1).toNat = 2 ^ 1 - 1 := by decide
  have key : (BitVec.ofInt 64 n &&& BitVec.ofInt 64 1).toNat = (n % ((2 ^ 64 : Nat) : Int)).toNat % 2 ^ 1 := by
    rw [BitVec.toNat_and, BitVec.toNat_ofInt, h1, Nat.and_two_pow_sub_one_eq_mod]
  show IntKind.i64.wrap ((BitVec.ofInt 64 n &&& BitVec.ofInt 64 1).toNat : Nat) = n % 2
  rw [key, IntKind.wrap_i64]
  omega
theorem step_steps {n ls dt s t : Int} {r x : Int} (hk2 : checkOf B2 [n, ls] = 0) (hp : P2 n ls) (hv : VT n s t) (h1 : 1 ≤ dt) (h2 : dt ≤ 86400) (hr : r = 0 ∨ r = 1) (hx : x = 0 ∨ x = 1) (k : Nat) (hk : 100 ≤ k) :
    sequencer_Step.f k stepsB [n, ls] [s, t] [(⟨2, r⟩ : S27), (⟨2, x⟩ : S27)] dt = some ([(stp n ls (r == 1) (x == 1) dt s t).1, (stp n ls (r == 1) (x == 1) dt s t).2], 3, (stp n ls (r == 1) (x == 1) dt s t).1 + 1, 0) := by
  obtain ⟨k, rfl⟩ : ∃ m, k = m + 2 := ⟨k - 2, by omega⟩
  unfold sequencer_Step.f
  rw [check_steps _ _ (by omega), Option.bind_some, if_pos hk2, if_neg stepsB_ne]
  simp only [sequencer_Step.j0]
  rw [seconds_f, Option.bind_some, decide_eq_true (⟨h1, h2⟩ : 1 ≤ dt ∧ dt ≤ 86400), if_pos rfl]
  simp only [sequencer_Step.j1]
  rw [if_neg (by simp)]
  have := steps_l0 (l := [s, t]) (v := (⟨2, r⟩ : S27)) (w := (⟨2, x⟩ : S27)) hp h1 h2 k (by omega)
  refine Eq.trans this ?_
  unfold stepsOut fitB
  rw [if_pos ⟨by rw [if_neg (show ¬ (2 : Int) = 1 by decide)]; exact decide_eq_true ⟨rfl, hr⟩, by rw [if_neg (show ¬ (2 : Int) = 1 by decide)]; exact decide_eq_true ⟨rfl, hx⟩⟩]
  rw [if_pos (show vtt n [s, t] = true from decide_eq_true ⟨hv.s1, hv.s2, hv.t1, hv.t2⟩)]
  rfl

section loop
variable {n ls dt : Int} {ms : List Int} (hk2 : checkOf B2 [n, ls] = 0) (hp : P2 n ls) (h1 : 1 ≤ dt) (h2 : dt ≤ 86400) (hL : ms.length ≤ 40)
include hk2 hp h1 h2 hL
theorem waits_l0 : ∀ (d i : Nat), i + d = ms.length → ∃ K, ∀ (s t b : Int), VT n s t → 0 ≤ b → b ≤ i → (s = 0 ∨ (b + 1 ≤ i ∧ t = ((i : Int) - 1 - b) * dt)) → ∀ k, K ≤ k →
    plenumlaw21_SequencerWaits.l0 k [n, ls] ms dt [s, t] b (i : Int) = some true := by
  intro d
  induction d with
  | zero =>
    intro i hi
    refine ⟨1, fun s t b hv hb0 hb hs k hk => ?_⟩
    obtain ⟨k, rfl⟩ : ∃ m, k = m + 1 := ⟨k - 1, by omega⟩
    simp only [plenumlaw21_SequencerWaits.l0]
    rw [if_neg (by omega)]
  | succ d ih =>
    intro i hi
    obtain ⟨K, hK⟩ := ih (i + 1) (by omega)
    refine ⟨K + 110, fun s t b hv hb0 hb hs k hk => ?_⟩
    obtain ⟨k, rfl⟩ : ∃ m, k = m + 4 := ⟨k - 4, by omega⟩
    obtain ⟨r, hrd⟩ : ∃ r, Go.bits .and .i64 (rd ms (i : Int)) 1 = r := ⟨_, rfl⟩
    obtain ⟨x, hxd⟩ : ∃ x, Go.bits .and .i64 ((rd ms (i : Int)) / 2) 1 = x := ⟨_, rfl⟩
    have hr : r = 0 ∨ r = 1 := by rw [and1] at hrd; omega
    have hx : x = 0 ∨ x = 1 := by rw [and1] at hxd; omega
    have hv' := stp_vt (run := (r == 1)) (next := (x == 1)) hp hv h1 h2
    have b1 := hv'.s1
    have b2 := hv'.s2
    have n2 := hp.n2
    have s1 := hv.s1
    have s2 := hv.s2
    simp only [plenumlaw21_SequencerWaits.l0]
    rw [hrd, hxd]
    rw [if_pos (by omega), if_pos (by omega), show (⟨#[115, 116, 101, 112, 115]⟩ : ByteArray) = stepsB from rfl, step_steps hk2 hp hv h1 h2 hr hx _ (by omega), Option.bind_some]
    obtain ⟨s', hs'⟩ : ∃ s', (stp n ls (r == 1) (x == 1) dt s t).1 = s' := ⟨_, rfl⟩
    obtain ⟨t', ht'⟩ : ∃ t', (stp n ls (r == 1) (x == 1) dt s t).2 = t' := ⟨_, rfl⟩
    rw [hs', ht']
    rw [hs'] at b1 b2
    rw [hs', ht'] at hv'
    rw [if_pos rfl, if_pos (by simp), if_pos (by simp), rd0, wrap_id (by omega) (by omega), show (!((3 : Int) == 3) || !(s' + 1 == s' + 1)) = false by simp]
    have hend : ∀ k, K + 1 ≤ k → (s' = s → s' = 0 ∨ (b + 1 ≤ ((i + 1 : Nat) : Int) ∧ t' = (((i + 1 : Nat) : Int) - 1 - b) * dt)) → (s' ≠ s → s' = 0 ∨ t' = 0) → plenumlaw21_SequencerWaits.j5 k [n, ls] ms dt [s, t] b (i : Int) [s', t'] = some true := by
      intro k hk e1 e2
      obtain ⟨k, rfl⟩ : ∃ m, k = m + 1 := ⟨k - 1, by omega⟩
      simp only [plenumlaw21_SequencerWaits.j5]
      rw [if_pos (by simp), if_pos (by simp), rd0, rd0, wrap_id (x := (i : Int) + 1) (by omega) (by omega)]
      by_cases c : s' = s
      · rw [if_pos c]
        exact hK s' t' b hv' hb0 (by omega) (e1 c) k (by omega)
      · rw [if_neg c]
        refine hK s' t' i hv' (by omega) (by omega) ?_ k (by omega)
        rcases e2 c with e | e
        · exact Or.inl e
        · exact Or.inr ⟨by omega, by rw [e, show (((i + 1 : Nat) : Int) - 1 - (i : Int)) = 0 by omega]; simp⟩
    simp only [plenumlaw21_SequencerWaits.j2]
    rw [if_neg (show ¬ (false = true) by simp)]
    unfold stp at hs' ht'
    rcases hr with e | e
    · -- go is off
      subst e
      rw [if_neg (show ¬ (((0 : Int) == 1) = true) by decide)] at hs' ht'
      have e0 : s' = 0 := hs'.symm
      rw [if_pos rfl, if_pos (by simp), rd0, if_pos e0]
      exact hend _ (by omega) (fun _ => Or.inl e0) (fun _ => Or.inl e0)
    · subst e
      rw [if_pos (show ((1 : Int) == 1) = true by decide)] at hs' ht'
      rw [if_neg (show ¬ (1 : Int) = 0 by decide), if_pos (by simp), rd0]
      by_cases c0 : s = 0
      · -- the first step
        rw [if_pos c0] at hs' ht'
        have e0 : s' = 1 := hs'.symm
        have e1 : t' = 0 := ht'.symm
        rw [if_pos c0, if_pos (by simp), rd0, if_pos e0]
        exact hend _ (by omega) (fun h => by omega) (fun _ => Or.inr e1)
      · rw [if_neg c0] at hs' ht'
        obtain ⟨hbi, ht⟩ : b + 1 ≤ i ∧ t = ((i : Int) - 1 - b) * dt := by
          rcases hs with h | h
          · exact absurd h c0
          · exact h
        have hmul : t + dt = ((i : Int) - b) * dt := by
          rw [ht, show (i : Int) - b = ((i : Int) - 1 - b) + 1 by omega, Int.add_mul]; omega
        have m1 : ((i : Int) - b) * dt ≤ 40 * 86400 := Int.mul_le_mul (by omega) h2 (by omega) (by omega)
        have m0 : 0 ≤ ((i : Int) - b) * dt := Int.mul_nonneg (by omega) (by omega)
        have hmin : min (t + dt) 6311433599 = ((i : Int) - b) * dt := by omega
        rw [hmin] at hs' ht'
        have hw : wrap64 ((wrap64 ((i : Int) - b)) * dt) = ((i : Int) - b) * dt := by
          rw [wrap_id (x := (i : Int) - b) (by omega) (by omega), wrap_id (by omega) (by omega)]
        rw [if_neg c0, if_pos (by simp), rd0, hw, wrap_id (x := s + 1) (by omega) (by omega)]
        by_cases cg : s < n ∧ (x == 1) = true ∧ ((i : Int) - b) * dt ≥ ls
        · -- the next step
          rw [if_pos cg] at hs' ht'
          have e0 : s' = s + 1 := hs'.symm
          have e1 : t' = 0 := ht'.symm
          have x1 : x = 1 := by simpa using cg.2.1
          rw [if_neg (by omega), if_pos e0, if_neg (by omega), if_pos (by simp), show rd [n, ls] 1 = ls from rfl, if_neg (by omega), if_pos (by simp), show rd [n, ls] 0 = n from rfl, decide_eq_false (by omega)]
          simp only [plenumlaw21_SequencerWaits.j4]
          rw [if_neg (by simp)]
          exact hend _ (by omega) (fun h => by omega) (fun _ => Or.inr e1)
        · rw [if_neg cg] at hs' ht'
          have e0 : s' = s := hs'.symm
          have e1 : t' = ((i : Int) - b) * dt := ht'.symm
          have hgo : ∀ k, K + 2 ≤ k → plenumlaw21_SequencerWaits.j3 k [n, ls] ms dt [s, t] b (i : Int) [s', t'] false = some true := by
            intro k hk
            obtain ⟨k, rfl⟩ : ∃ m, k = m + 1 := ⟨k - 1, by omega⟩
            simp only [plenumlaw21_SequencerWaits.j3]
            rw [if_neg (by simp)]
            exact hend _ (by omega) (fun _ => Or.inr ⟨by omega, by rw [e1, show (((i + 1 : Nat) : Int) - 1 - b) = (i : Int) - b by omega]⟩) (fun h => absurd e0 h)
          rw [if_pos e0, if_pos (by simp), show rd [n, ls] 0 = n from rfl]
          by_cases c1 : s < n
          · rw [if_pos c1]
            by_cases c2 : x = 1
            · rw [if_pos c2, if_pos (by simp), show rd [n, ls] 1 = ls from rfl, decide_eq_false (fun h => cg ⟨c1, by simpa using c2, h⟩)]
              exact hgo _ (by omega)
            · rw [if_neg c2]; exact hgo _ (by omega)
          · rw [if_neg c1]; exact hgo _ (by omega)
end loop

theorem SequencerWaits : plenumlaw21_SequencerWaits.Pure := by
  intro l0 l1 dt _ _ hw0 _ _ _ hdt
  have hj0 : ∀ k, 1 ≤ k → plenumlaw21_SequencerWaits.j0 k l0 l1 dt true = some true := by
    intro k hk
    obtain ⟨k, rfl⟩ : ∃ m, k = m + 1 := ⟨k - 1, by omega⟩
    simp only [plenumlaw21_SequencerWaits.j0]; rfl
  have start : ∀ k, 70 ≤ k → plenumlaw21_SequencerWaits.f k l0 l1 dt = if (l1.length : Int) > 40 then (plenumlaw21_SequencerWaits.j0 k l0 l1 dt true) else (if checkOf B2 l0 = 0 then (if dt < 1 then (plenumlaw21_SequencerWaits.j0 k l0 l1 dt true) else (plenumlaw21_SequencerWaits.j0 k l0 l1 dt (decide (dt > 86400)))) else (plenumlaw21_SequencerWaits.j0 k l0 l1 dt true)) := by
    intro k hk
    unfold plenumlaw21_SequencerWaits.f
    rw [awake_f _ (by omega), Option.bind_some, if_pos rfl, show (⟨#[115, 116, 101, 112, 115]⟩ : ByteArray) = stepsB from rfl, check_steps _ _ (by omega), Option.bind_some]
  by_cases c1 : (l1.length : Int) > 40
  · exact ⟨70, by rw [start _ (by omega), if_pos c1]; exact hj0 _ (by omega)⟩
  by_cases c2 : checkOf B2 l0 = 0
  · by_cases c3 : dt < 1
    · exact ⟨70, by rw [start _ (by omega), if_neg c1, if_pos c2, if_pos c3]; exact hj0 _ (by omega)⟩
    · by_cases c4 : dt > 86400
      · exact ⟨70, by rw [start _ (by omega), if_neg c1, if_pos c2, if_neg c3, decide_eq_true c4]; exact hj0 _ (by omega)⟩
      · obtain ⟨n, ls, e, q1, q2, q3, q4⟩ := check2 c2
        subst e
        obtain ⟨K, hK⟩ := waits_l0 (n := n) (ls := ls) (dt := dt) (ms := l1) c2 ⟨q1, q2, q3, q4⟩ (by omega) (by omega) (by omega) l1.length 0 (by omega)
        refine ⟨K + 71, ?_⟩
        rw [start _ (by omega), if_neg c1, if_pos c2, if_neg c3, decide_eq_false c4]
        obtain ⟨k, hk⟩ : ∃ m, K + 71 = m + 1 := ⟨K + 70, by omega⟩
        rw [hk]
        simp only [plenumlaw21_SequencerWaits.j0]
        rw [if_neg (by simp)]
        exact hK 0 0 0 ⟨by omega, by omega, by omega, by omega⟩ (by omega) (by omega) (Or.inl rfl) k (by omega)
  · exact ⟨70, by rw [start _ (by omega), if_neg c1, if_neg c2]; exact hj0 _ (by omega)⟩
end Go.Proofs.YtcpncmjjbfbdhaaDoor.Pure
