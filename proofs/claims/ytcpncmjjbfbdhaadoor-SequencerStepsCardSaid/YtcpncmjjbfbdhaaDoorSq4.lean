/-
  PLAIN LAWS OF THE SEQUENCER, 4: the block steps, and Step at any name: what the program and the reference answer is the same.
-/
import Derived.Test.YtcpncmjjbfbdhaaDoorSq4p
import Derived.Test.YtcpncmjjbfbdhaaDoorSq2r
import Derived.Test.YtcpncmjjbfbdhaaDoorRx0
import Derived.Test.YtcpncmjjbfbdhaaDoorRx11
import Derived.Test.YtcpncmjjbfbdhaaDoorRx12
import Derived.Test.YtcpncmjjbfbdhaaDoorRx15
import Derived.Test.YtcpncmjjbfbdhaaDoorRx18
namespace Go.Proofs.YtcpncmjjbfbdhaaDoor.Sq
open Go Go.RowKit Go.Proofs.YtcpncmjjbfbdhaaDoor.R Go.Proofs.YtcpncmjjbfbdhaaDoorW.PrintWords Go.Proofs.YtcpncmjjbfbdhaaDoorW.PrintMore
set_option linter.unusedVariables false
set_option linter.unusedSimpArgs false

theorem refsteps_f {n ls dt s t : Int} {run next : Bool} (hp : P2 n ls) (hv : VT n s t) (h1 : 1 ≤ dt) (h2 : dt ≤ 86400) :
    plenumref21_Steps.f [n, ls] [s, t] run next dt = some [(stp n ls run next dt s t).1, (stp n ls run next dt s t).2] := by
  obtain ⟨n1, n2, a1, a2⟩ := hp
  obtain ⟨s1, s2, t1, t2⟩ := hv
  unfold plenumref21_Steps.f stp
  rw [show rd [n, ls] 0 = n from rfl, show rd [n, ls] 1 = ls from rfl, show rd [s, t] 0 = s from rfl, show rd [s, t] 1 = t from rfl, mn_min, wrap_id (x := t + dt) (by omega) (by omega), wrap_id (x := s + 1) (by omega) (by omega)]
  cases run
  · rw [if_neg (by simp), if_neg (by simp)]
  · rw [if_pos rfl, if_pos rfl, if_pos (by simp)]
    by_cases c : s = 0
    · rw [if_pos c, if_pos c]
    · rw [if_neg c, if_neg c, if_pos (by simp), if_pos (by simp)]
      by_cases c1 : s < n
      · rw [if_pos c1]
        cases next
        · rw [if_neg (by simp), if_neg (by simp)]
        · rw [if_pos rfl, if_pos (by simp)]
          by_cases c2 : min (t + dt) 6311433599 ≥ ls
          · rw [if_pos c2, if_pos ⟨c1, rfl, c2⟩]
          · rw [if_neg c2, if_neg (fun h => c2 h.2.2)]
      · rw [if_neg c1, if_neg (fun h => c1 h.1)]
theorem refstate_t (n : Int) (ps l : List Int) (k : Nat) (hk : 1 ≤ k) : plenumref21_State.f k stepsB (n :: ps) l = some (vtt n l) := by
  obtain ⟨k, rfl⟩ : ∃ m, k = m + 1 := ⟨k - 1, by omega⟩
  unfold plenumref21_State.f
  by_cases hl : l.length = 2
  · match l, hl with
    | [s, t], _ =>
      rw [if_pos (by simp), if_pos (by simp), show rd [s, t] 0 = s from rfl, show rd [s, t] 1 = t from rfl, show rd (n :: ps) 0 = n from rfl]
      simp only [plenumref21_State.j0, vtt, stepsB_l, show rd [s, t] 1 = t from rfl]
      by_cases h1 : s < 0
      · rw [if_pos h1, if_pos trivial]; symm; congr 1; exact decide_eq_false (by omega)
      · rw [if_neg h1, if_pos (by simp)]
        by_cases h2 : s > n
        · rw [if_pos h2, if_pos trivial]; symm; congr 1; exact decide_eq_false (by omega)
        · rw [if_neg h2, if_pos (by simp)]
          by_cases h3 : t > 6311433599
          · rw [if_pos (by simpa using h3)]; symm; congr 1; exact decide_eq_false (by omega)
          · rw [if_neg (by simpa using h3), if_neg (by decide), if_pos (by simp)]; congr 1; apply decide_eq_decide.2; omega
  · rw [if_neg (by omega), vtt_len hl]
    simp only [plenumref21_State.j0]
    rfl

theorem reffits_f (a b kd : Int) (h : kd = 1 ∨ kd = 2) : plenumref21_possible.f a b kd = some (fitB a b kd) := by
  unfold plenumref21_possible.f fitB
  rcases h with rfl | rfl
  · rw [if_pos rfl, if_pos rfl]
    by_cases c : a = 1
    · rw [if_pos c]
      by_cases c2 : b ≥ -1000000000000
      · rw [if_pos c2]; congr 1; apply decide_eq_decide.2; omega
      · rw [if_neg c2]; symm; congr 1; exact decide_eq_false (by omega)
    · rw [if_neg c]; symm; congr 1; exact decide_eq_false (by omega)
  · rw [if_neg (show ¬ (2 : Int) = 1 by decide), if_neg (show ¬ (2 : Int) = 1 by decide)]
    by_cases c : a = 2
    · rw [if_pos c]
      by_cases c2 : b = 0
      · rw [if_pos c2]; symm; congr 1; exact decide_eq_true (by omega)
      · rw [if_neg c2]
        by_cases c3 : b = 1
        · subst c3; symm; congr 1; exact decide_eq_true (by omega)
        · rw [beq_eq_false_iff_ne.2 c3]; symm; congr 1; exact decide_eq_false (by omega)
    · rw [if_neg c]; symm; congr 1; exact decide_eq_false (by omega)

theorem refsteps_l0 {n ls dt : Int} {l : List Int} {v w : S27} (hp : P2 n ls) (h1 : 1 ≤ dt) (h2 : dt ≤ 86400) (k : Nat) (hk : 6 ≤ k) :
    plenumref21_Step.l0 k stepsB [n, ls] l [v, w] dt [2, 2] 0 = some (stepsOut n ls l v w dt) := by
  obtain ⟨k, rfl⟩ : ∃ m, k = m + 3 := ⟨k - 3, by omega⟩
  unfold stepsOut
  simp only [plenumref21_Step.l0]
  rw [if_pos (by simp), if_pos (by decide), if_pos (by simp), show rd_T27 [v, w] 0 = v from rfl, show rd [2, 2] 0 = 2 from rfl, reffits_f _ _ 2 (Or.inr rfl), Option.bind_some]
  by_cases c1 : fitB v.f0 v.f1 2 = true
  · rw [if_pos c1, w01, if_pos (by simp), if_pos (by decide), if_pos (by simp), show rd_T27 [v, w] 1 = w from rfl, show rd [2, 2] 1 = 2 from rfl, reffits_f _ _ 2 (Or.inr rfl), Option.bind_some]
    by_cases c2 : fitB w.f0 w.f1 2 = true
    · rw [if_pos c2, w12, if_neg (by simp), refstate_t n [ls] l k (by omega), Option.bind_some, if_pos (show fitB v.f0 v.f1 2 = true ∧ fitB w.f0 w.f1 2 = true from ⟨c1, c2⟩)]
      by_cases c3 : vtt n l = true
      · obtain ⟨s, t, rfl, hv⟩ := vtt_ok c3
        have hv' := stp_vt (run := (v.f1 == 1)) (next := (w.f1 == 1)) hp hv h1 h2
        have b1 := hv'.s1
        have b2 := hv'.s2
        have n2 := hp.n2
        rw [if_pos c3, if_pos c3, if_neg stepsB_ne, if_pos (by simp), if_pos (by simp), refsteps_f hp hv h1 h2, Option.bind_some, if_pos (by simp), rd0, rd0, rd1, wrap_id (by omega) (by omega)]
      · rw [if_neg c3, if_neg c3]
    · rw [if_neg c2, if_neg (show ¬ (fitB v.f0 v.f1 2 = true ∧ fitB w.f0 w.f1 2 = true) from fun h => c2 h.2)]
  · rw [if_neg c1, if_neg (show ¬ (fitB v.f0 v.f1 2 = true ∧ fitB w.f0 w.f1 2 = true) from fun h => c1 h.1)]
theorem refstage_l0 {n up dn ud dd dt : Int} {l : List Int} {v : S27} (hp : P5 n up dn ud dd) (h1 : 1 ≤ dt) (h2 : dt ≤ 86400) (k : Nat) (hk : 8 ≤ k) :
    plenumref21_Step.l0 k stageB [n, up, dn, ud, dd] l [v] dt [1] 0 = some (stageOut n up dn ud dd l v dt) := by
  obtain ⟨k, rfl⟩ : ∃ m, k = m + 2 := ⟨k - 2, by omega⟩
  unfold stageOut
  simp only [plenumref21_Step.l0]
  rw [if_pos (by simp), if_pos (by decide), if_pos (by simp), show rd_T27 [v] 0 = v from rfl, show rd [1] 0 = 1 from rfl, reffits_f _ _ 1 (Or.inl rfl), Option.bind_some]
  by_cases c1 : fitB v.f0 v.f1 1 = true
  · rw [if_pos c1, if_pos c1, w01, if_neg (by simp), refstate_f n _ l k (by omega), Option.bind_some]
    by_cases c3 : vst n l = true
    · obtain ⟨s, t, rfl, hv⟩ := vst_ok c3
      have hv' := stg_vs (x := v.f1) hp hv h1 h2
      have b1 := hv'.s1
      have b2 := hv'.s2
      have n2 := hp.n2
      rw [if_pos c3, if_pos c3, if_pos stageB_l, if_pos (by simp), refstage_f hp hv h1 h2 k (by omega), Option.bind_some, if_pos (by simp), rd0, rd0, rd1, wrap_id (by omega) (by omega)]
    · rw [if_neg c3, if_neg c3]
  · rw [if_neg c1, if_neg c1]
end Go.Proofs.YtcpncmjjbfbdhaaDoor.Sq
