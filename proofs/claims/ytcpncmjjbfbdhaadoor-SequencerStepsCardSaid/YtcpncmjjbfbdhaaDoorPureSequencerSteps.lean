/-
  SequencerSteps: Check and Step return the specified results or errors: the plain law.
-/
import Derived.Test.YtcpncmjjbfbdhaaDoorSq4
import Derived.Test.YtcpncmjjbfbdhaaDoorRx0
import Derived.Test.YtcpncmjjbfbdhaaDoorRx5
import Derived.Test.YtcpncmjjbfbdhaaDoorRx7
import Derived.Test.YtcpncmjjbfbdhaaDoorRx8
import Derived.Test.YtcpncmjjbfbdhaaDoorRx10
import Derived.Test.YtcpncmjjbfbdhaaDoorRx12
import Derived.Test.YtcpncmjjbfbdhaaDoorRx13
import Derived.Test.YtcpncmjjbfbdhaaDoorRx14
namespace Go.Proofs.YtcpncmjjbfbdhaaDoor.Pure
open Go Go.RowKit Go.Proofs.YtcpncmjjbfbdhaaDoor.R Go.Proofs.YtcpncmjjbfbdhaaDoor.Sq Go.Proofs.YtcpncmjjbfbdhaaDoorW.PrintWords Go.Proofs.YtcpncmjjbfbdhaaDoorW.PrintMore
set_option linter.unusedVariables false
set_option linter.unusedSimpArgs false

theorem check_both (a0 : ByteArray) (l : List Int) : ∃ c, (∀ k, 60 ≤ k → sequencer_Check.f k a0 l = some c) ∧ (∀ k, 60 ≤ k → plenumref21_Check.f k a0 l = some c) ∧ (c = 0 → (a0 = stageB ∧ checkOf B5 l = 0) ∨ (a0 = stepsB ∧ checkOf B2 l = 0)) := by
  by_cases c1 : a0.toList = ([115, 116, 97, 103, 101] : List UInt8)
  · obtain rfl : a0 = stageB := of_toList (c1.trans stageB_l.symm)
    exact ⟨checkOf B5 l, fun k hk => check_stage l k (by omega), fun k hk => refcheck_stage l k (by omega), fun h => Or.inl ⟨rfl, h⟩⟩
  · by_cases c2 : a0.toList = ([115, 116, 101, 112, 115] : List UInt8)
    · obtain rfl : a0 = stepsB := of_toList (c2.trans stepsB_l.symm)
      exact ⟨checkOf B2 l, fun k hk => check_steps l k (by omega), fun k hk => refcheck_steps l k (by omega), fun h => Or.inr ⟨rfl, h⟩⟩
    · have hb : (a0.toList != ([115, 116, 101, 112, 115] : List UInt8)) = true := bne_iff_ne.2 c2
      refine ⟨3, fun k hk => ?_, fun k hk => ?_, fun h => absurd h (by decide)⟩
      · obtain ⟨k, rfl⟩ : ∃ m, k = m + 1 := ⟨k - 1, by omega⟩
        unfold sequencer_Check.f
        rw [if_neg c1, hb]
        simp only [sequencer_Check.j0]
        rfl
      · obtain ⟨k, rfl⟩ : ∃ m, k = m + 1 := ⟨k - 1, by omega⟩
        unfold plenumref21_Check.f
        rw [if_neg c1, hb]
        simp only [plenumref21_Check.j0]
        rfl
theorem time_low (dt : Int) : plenumref21_time.f dt = some (decide (1 ≤ dt ∧ dt ≤ 86400)) := by
  have h := time_f dt
  unfold plenumref21_Time.f at h
  cases e : plenumref21_time.f dt with
  | none => rw [e] at h; cases h
  | some b => rw [e, Option.bind_some] at h; rw [← h]
theorem stageOut_len (n up dn ud dd : Int) (l : List Int) (v : S27) (dt : Int) : (stageOut n up dn ud dd l v dt).1.length ≤ 2 := by
  unfold stageOut; split <;> try split
  all_goals simp
theorem stepsOut_len (n ls : Int) (l : List Int) (v w : S27) (dt : Int) : (stepsOut n ls l v w dt).1.length ≤ 2 := by
  unfold stepsOut; split <;> try split
  all_goals simp
theorem step_both (a0 : ByteArray) (l1 l2 : List Int) (l3 : List S27) (dt : Int) : ∃ r : List Int × Int × Int × Int, r.1.length ≤ 2 ∧ ∀ k, 100 ≤ k → sequencer_Step.f k a0 l1 l2 l3 dt = some r ∧ plenumref21_Step.f k a0 l1 l2 l3 dt = some r := by
  obtain ⟨c, h1, h2, h3⟩ := check_both a0 l1
  by_cases hc : c = 0
  · subst hc
    rcases h3 rfl with ⟨rfl, hk5⟩ | ⟨rfl, hk2⟩
    · obtain ⟨n, up, dn, ud, dd, rfl, hp⟩ := check5 hk5
      have start : ∀ k, 100 ≤ k + 1 → sequencer_Step.f (k + 1) stageB [n, up, dn, ud, dd] l2 l3 dt = sequencer_Step.j1 k stageB [n, up, dn, ud, dd] l2 l3 dt [1] (if (1 ≤ dt ∧ dt ≤ 86400) then ((l3.length : Int) != 1) else true) := by
        intro k hk
        unfold sequencer_Step.f
        rw [h1 _ (by omega), Option.bind_some, if_pos rfl, if_pos stageB_l]
        simp only [sequencer_Step.j0]
        rw [seconds_f, Option.bind_some]
        by_cases ct : 1 ≤ dt ∧ dt ≤ 86400
        · rw [decide_eq_true ct, if_pos rfl, if_pos ct]; rfl
        · rw [decide_eq_false ct, if_neg (by simp), if_neg ct]
      have rstart : ∀ k, 100 ≤ k + 1 → plenumref21_Step.f (k + 1) stageB [n, up, dn, ud, dd] l2 l3 dt = plenumref21_Step.j1 k stageB [n, up, dn, ud, dd] l2 l3 dt [1] (if (1 ≤ dt ∧ dt ≤ 86400) then ((l3.length : Int) != 1) else true) := by
        intro k hk
        unfold plenumref21_Step.f
        rw [h2 _ (by omega), Option.bind_some, if_pos rfl, if_pos stageB_l]
        simp only [plenumref21_Step.j0]
        rw [time_low, Option.bind_some]
        by_cases ct : 1 ≤ dt ∧ dt ≤ 86400
        · rw [decide_eq_true ct, if_pos rfl, if_pos ct]; rfl
        · rw [decide_eq_false ct, if_neg (by simp), if_neg ct]
      by_cases cg : (1 ≤ dt ∧ dt ≤ 86400) ∧ l3.length = 1
      · obtain ⟨v, rfl⟩ := List.length_eq_one_iff.1 cg.2
        refine ⟨stageOut n up dn ud dd l2 v dt, stageOut_len .., fun k hk => ?_⟩
        obtain ⟨k, rfl⟩ : ∃ m, k = m + 2 := ⟨k - 2, by omega⟩
        rw [start _ (by omega), rstart _ (by omega), if_pos cg.1]
        simp only [sequencer_Step.j1, plenumref21_Step.j1]
        rw [if_neg (by simp), if_neg (by simp)]
        exact ⟨stage_l0 hp cg.1.1 cg.1.2 k (by omega), refstage_l0 hp cg.1.1 cg.1.2 k (by omega)⟩
      · have hb : (if (1 ≤ dt ∧ dt ≤ 86400) then ((l3.length : Int) != 1) else true) = true := by
          by_cases ct : 1 ≤ dt ∧ dt ≤ 86400
          · rw [if_pos ct]; exact bne_iff_ne.2 (fun h => cg ⟨ct, by omega⟩)
          · rw [if_neg ct]
        refine ⟨(([] : List Int), 0, 0, 1), by simp, fun k hk => ?_⟩
        obtain ⟨k, rfl⟩ : ∃ m, k = m + 2 := ⟨k - 2, by omega⟩
        rw [start _ (by omega), rstart _ (by omega), hb]
        simp only [sequencer_Step.j1, plenumref21_Step.j1]
        exact ⟨rfl, rfl⟩
    · obtain ⟨n, ls, rfl, q1, q2, q3, q4⟩ := check2 hk2
      have hp : P2 n ls := ⟨q1, q2, q3, q4⟩
      have start : ∀ k, 100 ≤ k + 1 → sequencer_Step.f (k + 1) stepsB [n, ls] l2 l3 dt = sequencer_Step.j1 k stepsB [n, ls] l2 l3 dt [2, 2] (if (1 ≤ dt ∧ dt ≤ 86400) then ((l3.length : Int) != 2) else true) := by
        intro k hk
        unfold sequencer_Step.f
        rw [h1 _ (by omega), Option.bind_some, if_pos rfl, if_neg stepsB_ne]
        simp only [sequencer_Step.j0]
        rw [seconds_f, Option.bind_some]
        by_cases ct : 1 ≤ dt ∧ dt ≤ 86400
        · rw [decide_eq_true ct, if_pos rfl, if_pos ct]; rfl
        · rw [decide_eq_false ct, if_neg (by simp), if_neg ct]
      have rstart : ∀ k, 100 ≤ k + 1 → plenumref21_Step.f (k + 1) stepsB [n, ls] l2 l3 dt = plenumref21_Step.j1 k stepsB [n, ls] l2 l3 dt [2, 2] (if (1 ≤ dt ∧ dt ≤ 86400) then ((l3.length : Int) != 2) else true) := by
        intro k hk
        unfold plenumref21_Step.f
        rw [h2 _ (by omega), Option.bind_some, if_pos rfl, if_neg stepsB_ne]
        simp only [plenumref21_Step.j0]
        rw [time_low, Option.bind_some]
        by_cases ct : 1 ≤ dt ∧ dt ≤ 86400
        · rw [decide_eq_true ct, if_pos rfl, if_pos ct]; rfl
        · rw [decide_eq_false ct, if_neg (by simp), if_neg ct]
      by_cases cg : (1 ≤ dt ∧ dt ≤ 86400) ∧ l3.length = 2
      · obtain ⟨v, w, rfl⟩ : ∃ v w, l3 = [v, w] := (match l3, cg.2 with | [v, w], _ => ⟨v, w, rfl⟩)
        refine ⟨stepsOut n ls l2 v w dt, stepsOut_len .., fun k hk => ?_⟩
        obtain ⟨k, rfl⟩ : ∃ m, k = m + 2 := ⟨k - 2, by omega⟩
        rw [start _ (by omega), rstart _ (by omega), if_pos cg.1]
        simp only [sequencer_Step.j1, plenumref21_Step.j1]
        rw [if_neg (by simp), if_neg (by simp)]
        exact ⟨steps_l0 hp cg.1.1 cg.1.2 k (by omega), refsteps_l0 hp cg.1.1 cg.1.2 k (by omega)⟩
      · have hb : (if (1 ≤ dt ∧ dt ≤ 86400) then ((l3.length : Int) != 2) else true) = true := by
          by_cases ct : 1 ≤ dt ∧ dt ≤ 86400
          · rw [if_pos ct]; exact bne_iff_ne.2 (fun h => cg ⟨ct, by omega⟩)
          · rw [if_neg ct]
        refine ⟨(([] : List Int), 0, 0, 1), by simp, fun k hk => ?_⟩
        obtain ⟨k, rfl⟩ : ∃ m, k = m + 2 := ⟨k - 2, by omega⟩
        rw [start _ (by omega), rstart _ (by omega), hb]
        simp only [sequencer_Step.j1, plenumref21_Step.j1]
        exact ⟨rfl, rfl⟩
  · refine ⟨(([] : List Int), 0, 0, c), by simp, fun k hk => ⟨?_, ?_⟩⟩
    · unfold sequencer_Step.f
      rw [h1 _ (by omega), Option.bind_some, if_neg hc]
    · unfold plenumref21_Step.f
      rw [h2 _ (by omega), Option.bind_some, if_neg hc]
theorem same_l0 (l : List Int) (hl : l.length ≤ 1000) : ∀ (d i k : Nat), i + d = l.length → d < k → plenumref21_Same.l0 k l l (i : Int) = some true := by
  intro d
  induction d with
  | zero =>
    intro i k hi hk
    obtain ⟨k, rfl⟩ : ∃ m, k = m + 1 := ⟨k - 1, by omega⟩
    simp only [plenumref21_Same.l0]
    rw [if_neg (by omega)]
  | succ d ih =>
    intro i k hi hk
    obtain ⟨k, rfl⟩ : ∃ m, k = m + 1 := ⟨k - 1, by omega⟩
    simp only [plenumref21_Same.l0]
    rw [if_pos (by omega), if_pos (by omega), if_pos (by omega), if_pos trivial, wrap_id (by omega) (by omega)]
    exact ih (i + 1) k (by omega) (by omega)
theorem SequencerSteps (a0 : ByteArray) (l1 l2 : List Int) (l3 : List S27) (dt : Int) (_ : a0.size ≤ maxLen) (_ : l1.length ≤ maxLen) (_ : ∀ x ∈ l1, (Lit.int .i64 x).wf = true) (_ : l2.length ≤ maxLen) (_ : ∀ x ∈ l2, (Lit.int .i64 x).wf = true)
    (_ : l3.length ≤ maxLen) (_ : ∀ x ∈ l3, (Lit.int .i64 x.f0).wf = true ∧ (Lit.int .i64 x.f1).wf = true) (_ : (Lit.int .i64 dt).wf = true) : ∃ k, plenumlaw21_SequencerSteps.f k a0 l1 l2 l3 dt = some true := by
  refine ⟨201, ?_⟩
  obtain ⟨r, hl, hr⟩ := step_both a0 l1 l2 l3 dt
  obtain ⟨c, h1, h2, _⟩ := check_both a0 l1
  have hj : ∀ b, plenumlaw21_SequencerSteps.j0 201 a0 l1 l2 l3 dt b = some true := by
    intro b
    simp only [plenumlaw21_SequencerSteps.j0]
    cases b
    · rw [if_neg (by simp), (hr 200 (by omega)).1, (hr 200 (by omega)).2]
      simp only [Option.bind_some]
      rw [if_pos trivial, if_pos (by simp)]
      have hs : plenumref21_Same.f 200 r.1 r.1 = some true := by
        unfold plenumref21_Same.f
        rw [if_pos rfl]
        exact same_l0 r.1 (by omega) r.1.length 0 200 (by omega) (by omega)
      rw [hs, Option.bind_some, if_pos rfl, h1 _ (by omega), h2 _ (by omega)]
      simp
    · rw [if_pos rfl]
  unfold plenumlaw21_SequencerSteps.f plenumlaw21_few.f
  rw [awake_f _ (by omega), Option.bind_some, if_pos rfl, Option.bind_some]
  split
  · rw [Option.bind_some]
    split
    · exact hj _
    · exact hj _
  · exact hj _
end Go.Proofs.YtcpncmjjbfbdhaaDoor.Pure
