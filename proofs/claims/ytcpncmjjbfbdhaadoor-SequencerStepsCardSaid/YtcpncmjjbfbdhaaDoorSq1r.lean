/-
  PLAIN LAWS OF THE SEQUENCER'S REFERENCE: what Check, the block stage and Step come to, in numbers.
-/
import Derived.Test.YtcpncmjjbfbdhaaDoorSq1
import Derived.Test.YtcpncmjjbfbdhaaDoorRx0
import Derived.Test.YtcpncmjjbfbdhaaDoorRx14
import Derived.Test.YtcpncmjjbfbdhaaDoorRx15
namespace Go.Proofs.YtcpncmjjbfbdhaaDoor.Sq
open Go Go.RowKit Go.Proofs.YtcpncmjjbfbdhaaDoor.R Go.Proofs.YtcpncmjjbfbdhaaDoorW.PrintWords Go.Proofs.YtcpncmjjbfbdhaaDoorW.PrintMore

set_option linter.unusedVariables false
set_option linter.unusedSimpArgs false
theorem ref_stage0 : (plenumref18_Find.f 40 stageB).map (fun p => p.2.1.map bd) = some B5 := by kernel_rfl
theorem ref_steps0 : (plenumref18_Find.f 40 stepsB).map (fun p => p.2.1.map bd) = some B2 := by kernel_rfl
theorem ref_at {nm : ByteArray} {B : List (Int × Int)} (h : (plenumref18_Find.f 40 nm).map (fun p => p.2.1.map bd) = some B) : ∃ D, D.2.1.map bd = B ∧ ∀ k, 40 ≤ k → plenumref18_Find.f k nm = some D := by
  obtain ⟨D, h1, h2⟩ := Option.map_eq_some_iff.1 h
  exact ⟨D, h2, fun k hk => at_rounds (plenumref18_Find.mono _) hk h1⟩

theorem refcheck_l0 (bs : List S61) (l : List Int) (x0 : ByteArray) (x2 x3 : List S73) (x4 x5 : Int) (hl : l.length = bs.length) (hn : bs.length ≤ 100) : ∀ (d i k : Nat), i + d = bs.length → d < k → plenumref21_Check.l0 k l (i : Int) x0 bs x2 x3 x4 x5 = some (chk ((bs.map bd).drop i) (l.drop i))
  | 0, i, k, hd, hk => by
    obtain ⟨k, rfl⟩ : ∃ m, k = m + 1 := ⟨k - 1, by omega⟩
    simp only [plenumref21_Check.l0]
    rw [if_neg (by omega), List.drop_eq_nil_of_le (by simp; omega)]
    simp [chk]
  | d + 1, i, k, hd, hk => by
    obtain ⟨k, rfl⟩ : ∃ m, k = m + 1 := ⟨k - 1, by omega⟩
    have ih := refcheck_l0 bs l x0 x2 x3 x4 x5 hl hn d (i + 1) k (by omega) (by omega)
    simp only [plenumref21_Check.l0]
    rw [if_pos (by omega), if_pos (by omega), if_pos (by omega), rdI l i (by omega), rdT bs i (by omega), chk_at bs l i (by omega) (by omega)]
    rw [wrap_id (by omega) (by omega), show (i : Int) + 1 = ((i + 1 : Nat) : Int) by omega, ih]
    split
    · rfl
    · split <;> rfl
theorem refcheck_j0 {nm : ByteArray} {B : List (Int × Int)} (hB : B.length ≤ 5) (h : (plenumref18_Find.f 40 nm).map (fun p => p.2.1.map bd) = some B) (l : List Int) (k : Nat) (hk : 50 ≤ k) : plenumref21_Check.j0 k nm l false = some (checkOf B l) := by
  obtain ⟨k, rfl⟩ : ∃ m, k = m + 1 := ⟨k - 1, by omega⟩
  obtain ⟨D, h1, h3⟩ := ref_at h
  have hlen : D.2.1.length = B.length := by rw [← h1, List.length_map]
  simp only [plenumref21_Check.j0]
  rw [if_neg (by simp), h3 k (by omega)]
  simp only [Option.bind_some]
  unfold checkOf
  by_cases e : l.length = B.length
  · rw [if_pos e, if_pos (by omega)]
    have := refcheck_l0 D.2.1 l D.1 D.2.2.1 D.2.2.2.1 D.2.2.2.2.1 D.2.2.2.2.2.1 (by omega) (by omega) D.2.1.length 0 k (by omega) (by omega)
    rw [h1] at this
    simpa using this
  · rw [if_neg e, if_neg (by omega)]
theorem refcheck_stage (l : List Int) (k : Nat) (hk : 50 ≤ k) : plenumref21_Check.f k stageB l = some (checkOf B5 l) := by
  unfold plenumref21_Check.f
  rw [if_pos stageB_l]
  exact refcheck_j0 (by decide) ref_stage0 l k hk
theorem refcheck_steps (l : List Int) (k : Nat) (hk : 50 ≤ k) : plenumref21_Check.f k stepsB l = some (checkOf B2 l) := by
  unfold plenumref21_Check.f
  rw [if_neg (by rw [stepsB_l]; decide), stepsB_l]
  exact refcheck_j0 (by decide) ref_steps0 l k hk

theorem refstage_f {n up dn ud dd x dt s t : Int} (hp : P5 n up dn ud dd) (hv : VS n s t) (h1 : 1 ≤ dt) (h2 : dt ≤ 86400) (k : Nat) (hk : 2 ≤ k) :
    plenumref21_Stage.f k [n, up, dn, ud, dd] [s, t] x dt = some [(stg n up dn ud dd x dt s t).1, (stg n up dn ud dd x dt s t).2] := by
  obtain ⟨n1, n2, u1, u2, d1, d2, a1, a2, b1, b2⟩ := hp
  obtain ⟨s1, s2, t1, t2⟩ := hv
  obtain ⟨k, rfl⟩ : ∃ m, k = m + 2 := ⟨k - 2, by omega⟩
  have e0 : rd [n, up, dn, ud, dd] 0 = n := rfl
  have e1 : rd [n, up, dn, ud, dd] 1 = up := rfl
  have e2 : rd [n, up, dn, ud, dd] 2 = dn := rfl
  have e3 : rd [n, up, dn, ud, dd] 3 = ud := rfl
  have e4 : rd [n, up, dn, ud, dd] 4 = dd := rfl
  have f0 : rd [s, t] 0 = s := rfl
  have f1 : rd [s, t] 1 = t := rfl
  have g2 : 2 < (([n, up, dn, ud, dd] : List Int).length : Int) := by simp
  have g3 : 3 < (([n, up, dn, ud, dd] : List Int).length : Int) := by simp
  have g4 : 4 < (([n, up, dn, ud, dd] : List Int).length : Int) := by simp
  unfold plenumref21_Stage.f
  rw [if_pos (by simp), if_pos (by simp), if_pos (by simp), if_pos (by simp : 0 < (([n, up, dn, ud, dd] : List Int).length : Int)), e0, e1, f0, f1]
  simp only [plenumref21_Stage.j0, plenumref21_Stage.j1, mx_max, mn_min, decide_eq_true_eq, if_pos g2, if_pos g3, if_pos g4, e2, e3, e4]
  unfold stg
  have w1 : wrap64 (max t 0 + dt) = max t 0 + dt := wrap_id (by omega) (by omega)
  have w2 : wrap64 (min t 0 - dt) = min t 0 - dt := wrap_id (by omega) (by omega)
  have w3 : wrap64 (-(max (min t 0 - dt) (-6311433599))) = -(max (min t 0 - dt) (-6311433599)) := wrap_id (by omega) (by omega)
  have w4 : wrap64 (s + 1) = s + 1 := wrap_id (by omega) (by omega)
  have w5 : wrap64 (s - 1) = s - 1 := wrap_id (by omega) (by omega)
  rw [w1, w2, w3, w4, w5]
  by_cases c1 : x > up
  · rw [if_pos c1]
    by_cases c2 : s < n
    · rw [if_pos c2, if_pos (⟨c1, c2⟩ : x > up ∧ s < n)]
      by_cases c3 : max t 0 + dt ≥ ud
      · rw [if_pos (by omega), if_pos c3]
      · rw [if_neg (by omega), if_neg c3]
        rw [show min (max t 0 + dt) 6311433599 = max t 0 + dt by omega]
    · rw [if_neg c2, if_neg (show ¬ (x > up ∧ s < n) from fun h => c2 h.2)]
      by_cases c4 : x < dn
      · rw [if_pos c4]
        by_cases c5 : s > 0
        · rw [if_pos c5, if_pos (⟨c4, c5⟩ : x < dn ∧ s > 0)]
          by_cases c6 : dt - min t 0 ≥ dd
          · rw [if_pos (by omega), if_pos c6]
          · rw [if_neg (by omega), if_neg c6, show max (min t 0 - dt) (-6311433599) = min t 0 - dt by omega]
        · rw [if_neg c5, if_neg (show ¬ (x < dn ∧ s > 0) from fun h => c5 h.2)]
      · rw [if_neg c4, if_neg (show ¬ (x < dn ∧ s > 0) from fun h => c4 h.1), if_neg (show ¬ (false = true) by simp)]
  · rw [if_neg c1, if_neg (show ¬ (x > up ∧ s < n) from fun h => c1 h.1), if_neg (show ¬ (false = true) by simp)]
    by_cases c4 : x < dn
    · rw [if_pos c4]
      by_cases c5 : s > 0
      · rw [if_pos c5, if_pos (⟨c4, c5⟩ : x < dn ∧ s > 0)]
        by_cases c6 : dt - min t 0 ≥ dd
        · rw [if_pos (by omega), if_pos c6]
        · rw [if_neg (by omega), if_neg c6, show max (min t 0 - dt) (-6311433599) = min t 0 - dt by omega]
      · rw [if_neg c5, if_neg (show ¬ (x < dn ∧ s > 0) from fun h => c5 h.2)]
    · rw [if_neg c4, if_neg (show ¬ (x < dn ∧ s > 0) from fun h => c4 h.1), if_neg (show ¬ (false = true) by simp)]
theorem time_f (dt : Int) : plenumref21_Time.f dt = some (decide (1 ≤ dt ∧ dt ≤ 86400)) := by
  unfold plenumref21_Time.f plenumref21_time.f
  by_cases h : dt ≥ 1
  · rw [if_pos h]; simp only [Option.bind_some]; congr 1; apply decide_eq_decide.2; omega
  · rw [if_neg h]; simp only [Option.bind_some]; symm; congr 1; exact decide_eq_false (by omega)
end Go.Proofs.YtcpncmjjbfbdhaaDoor.Sq
