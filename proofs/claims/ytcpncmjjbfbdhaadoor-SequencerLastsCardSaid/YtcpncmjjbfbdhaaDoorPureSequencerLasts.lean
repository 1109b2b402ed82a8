/-
  SequencerLasts: Duration returns the specified number or error: the plain law.
-/
import Derived.Test.YtcpncmjjbfbdhaaDoorSq1r
import Derived.Test.YtcpncmjjbfbdhaaDoorRx10
import Derived.Test.YtcpncmjjbfbdhaaDoorRx18
import Derived.Test.YtcpncmjjbfbdhaaDoorRx19
namespace Go.Proofs.YtcpncmjjbfbdhaaDoor.Pure
open Go Go.RowKit Go.Proofs.YtcpncmjjbfbdhaaDoor.R Go.Proofs.YtcpncmjjbfbdhaaDoor.Sq Go.Proofs.YtcpncmjjbfbdhaaDoorW.PrintWords Go.Proofs.YtcpncmjjbfbdhaaDoorW.PrintMore

set_option linter.unusedVariables false
theorem dur_loop {n ls dt E : Int} (hn : n ≤ 15) (hdt : 1 ≤ dt) (hls : ls ≤ 86400) (hdt2 : dt ≤ 86400) (hE1 : 1 ≤ E) (hE2 : ls ≤ E * dt) (hE3 : E = 1 ∨ (E - 1) * dt < ls) (hE4 : E ≤ 100000) :
    ∀ (d k : Nat) (s q c : Int), 1 ≤ s → s ≤ n → 0 ≤ q → q < E → (s = n → q = 0) → (n - s) * E - q = d → d < k → 0 ≤ c → c + d ≤ 1000000000 → plenumref21_Duration.l0 k [n, ls] dt [s, q * dt] c = some (c + d)
  | 0, k, s, q, c, h1, h2, h3, h4, h5, hd, hk, hc, hc2 => by
    obtain ⟨k, rfl⟩ : ∃ m, k = m + 1 := ⟨k - 1, by omega⟩
    have hs : s = n := by
      rcases Int.lt_or_eq_of_le h2 with h | h
      · have : (1 : Int) * E ≤ (n - s) * E := Int.mul_le_mul_of_nonneg_right (by omega) (by omega)
        omega
      · exact h
    simp only [plenumref21_Duration.l0]
    rw [if_pos (by simp), if_pos (by simp), if_neg (show ¬ rd [s, q * dt] 0 < rd [n, ls] 0 by show ¬ s < n; omega)]
    simp
  | d + 1, k, s, q, c, h1, h2, h3, h4, h5, hd, hk, hc, hc2 => by
    obtain ⟨k, rfl⟩ : ∃ m, k = m + 1 := ⟨k - 1, by omega⟩
    have hs : s < n := by
      rcases Int.lt_or_eq_of_le h2 with h | h
      · exact h
      · have := h5 h; subst h; simp at hd; omega
    have hq : q * dt + dt = (q + 1) * dt := by rw [Int.add_mul, Int.one_mul]
    have hb : (q + 1) * dt ≤ 172800 := by
      rcases hE3 with e | e
      · have : q = 0 := by omega
        subst this; simp; omega
      · have : (q + 1) * dt ≤ E * dt := Int.mul_le_mul_of_nonneg_right (by omega) (by omega)
        have e2 : (E - 1) * dt = E * dt - dt := by rw [Int.sub_mul, Int.one_mul]
        omega
    have hb0 : 0 ≤ q * dt := Int.mul_nonneg h3 (by omega)
    have w1 : wrap64 (q * dt + dt) = (q + 1) * dt := by rw [wrap_id (by omega) (by omega), hq]
    have hmn : mn ((q + 1) * dt) 6311433599 = (q + 1) * dt := by rw [mn_min]; omega
    have hE5 : (n - (s + 1)) * E = (n - s) * E - E := by rw [show n - (s + 1) = (n - s) - 1 by omega, Int.sub_mul, Int.one_mul]
    simp only [plenumref21_Duration.l0]
    rw [if_pos (by simp), if_pos (by simp), if_pos (show rd [s, q * dt] 0 < rd [n, ls] 0 from hs)]
    unfold plenumref21_Steps.f
    rw [if_pos rfl, if_pos (by simp), if_neg (show ¬ rd [s, q * dt] 0 = 0 by show ¬ s = 0; omega), if_pos (by simp), if_pos (by simp), if_pos (show rd [s, q * dt] 0 < rd [n, ls] 0 from hs), if_pos rfl, if_pos (by simp)]
    rw [show rd [s, q * dt] 1 = q * dt from rfl, show rd [s, q * dt] 0 = s from rfl, show rd [n, ls] 1 = ls from rfl, w1, hmn, wrap_id (x := c + 1) (by omega) (by omega), wrap_id (x := s + 1) (by omega) (by omega)]
    by_cases hc3 : (q + 1) * dt ≥ ls
    · rw [if_pos hc3]
      have hqE : q + 1 = E := by
        rcases hE3 with e | e
        · omega
        · rcases Int.lt_or_eq_of_le (show q + 1 ≤ E by omega) with h | h
          · have : (q + 1) * dt ≤ (E - 1) * dt := Int.mul_le_mul_of_nonneg_right (by omega) (by omega)
            omega
          · exact h
      have := dur_loop hn hdt hls hdt2 hE1 hE2 hE3 hE4 d k (s + 1) 0 (c + 1) (by omega) (by omega) (by omega) (by omega) (fun _ => rfl) (by omega) (by omega) (by omega) (by omega)
      rw [Int.zero_mul] at this
      rw [Option.bind_some, this]
      congr 1; omega
    · rw [if_neg hc3]
      have hqE : q + 1 < E := by
        rcases Sq.lt_or_ge (q + 1) E with h | h
        · exact h
        · have : E * dt ≤ (q + 1) * dt := Int.mul_le_mul_of_nonneg_right (by omega) (by omega)
          omega
      have := dur_loop hn hdt hls hdt2 hE1 hE2 hE3 hE4 d k s (q + 1) (c + 1) (by omega) (by omega) (by omega) (by omega) (by omega) (by omega) (by omega) (by omega) (by omega)
      rw [Option.bind_some, this]
      congr 1; omega

theorem ediv_facts (ls dt : Int) (h0 : 0 ≤ ls) (h1 : 1 ≤ dt) : ls ≤ ((ls + dt - 1) / dt) * dt ∧ (((ls + dt - 1) / dt) - 1) * dt < ls := by
  have a := Int.mul_ediv_add_emod (ls + dt - 1) dt
  have b := Int.emod_nonneg (ls + dt - 1) (show dt ≠ 0 by omega)
  have c := Int.emod_lt_of_pos (ls + dt - 1) (show 0 < dt by omega)
  rw [Int.mul_comm dt] at a
  refine ⟨by omega, ?_⟩
  rw [Int.sub_mul, Int.one_mul]
  omega

theorem ref_duration {n ls dt : Int} (hn1 : 1 ≤ n) (hn : n ≤ 15) (hl0 : 0 ≤ ls) (hls : ls ≤ 86400) (h1 : 600 ≤ dt) (h2 : dt ≤ 86400) (k : Nat) (hk : 3000 ≤ k) :
    plenumref21_Duration.f k [n, ls] dt = some (1 + (n - 1) * max 1 ((ls + dt - 1) / dt)) := by
  obtain ⟨k, rfl⟩ : ∃ m, k = m + 1 := ⟨k - 1, by omega⟩
  obtain ⟨a, b⟩ := ediv_facts ls dt hl0 (by omega)
  generalize hD : (ls + dt - 1) / dt = D at a b
  have hE4 : D ≤ 145 := by
    rcases Sq.lt_or_ge 145 D with h | h
    · have : (145 : Int) * 600 ≤ (D - 1) * dt := Int.mul_le_mul (by omega) h1 (by omega) (by omega)
      omega
    · exact h
  unfold plenumref21_Duration.f
  simp only [plenumref21_Duration.l0]
  rw [if_pos (by simp), if_pos (by simp), if_pos (show rd [0, 0] 0 < rd [n, ls] 0 by show (0 : Int) < n; omega)]
  unfold plenumref21_Steps.f
  rw [if_pos rfl, if_pos (by simp), if_pos (show rd [0, 0] 0 = 0 from rfl)]
  rw [Option.bind_some, wrap_id (by omega) (by omega)]
  have hnn : 0 ≤ (n - 1) * max 1 D := Int.mul_nonneg (by omega) (by omega)
  have hup : (n - 1) * max 1 D ≤ 14 * 145 := Int.mul_le_mul (by omega) (by omega) (by omega) (by omega)
  have := dur_loop (E := max 1 D) hn (by omega) hls h2 (by omega)
    (by rcases Sq.lt_or_ge 1 D with h | h
        · rw [Int.max_eq_right (by omega)]; exact a
        · rw [Int.max_eq_left (by omega)]; have : D * dt ≤ 1 * dt := Int.mul_le_mul_of_nonneg_right (by omega) (by omega); omega)
    (by rcases Sq.lt_or_ge 1 D with h | h
        · right; rw [Int.max_eq_right (by omega)]; exact b
        · left; omega)
    (by omega) ((n - 1) * max 1 D).toNat k 1 0 (0 + 1) (by omega) (by omega) (by omega) (by omega) (fun _ => rfl) (by omega) (by omega) (by omega) (by omega)
  rw [Int.zero_mul] at this
  rw [this]
  congr 1; omega

theorem duration_f (l : List Int) (dt : Int) (k : Nat) (hk : 60 ≤ k) : sequencer_Duration.f k l dt =
    if checkOf B2 l = 0 then (if 1 ≤ dt ∧ dt ≤ 86400 then some (1 + (rd l 0 - 1) * max 1 ((rd l 1 + dt - 1) / dt), 0) else some (0, 1)) else some (0, checkOf B2 l) := by
  unfold sequencer_Duration.f
  rw [show (⟨#[115, 116, 101, 112, 115]⟩ : ByteArray) = stepsB from rfl, check_steps l k (by omega), Option.bind_some]
  by_cases h : checkOf B2 l = 0
  · rw [if_pos h, if_pos h, seconds_f, Option.bind_some]
    obtain ⟨n, ls, rfl, h1, h2, h3, h4⟩ := check2 h
    by_cases hd : 1 ≤ dt ∧ dt ≤ 86400
    · rw [if_pos (by simpa using hd), if_pos hd, if_pos (by simp), if_neg (by omega), if_pos (by simp)]
      rw [show rd [n, ls] 0 = n from rfl, show rd [n, ls] 1 = ls from rfl]
      rw [wrap_id (x := ls + dt) (by omega) (by omega), wrap_id (x := ls + dt - 1) (by omega) (by omega), Int.tdiv_eq_ediv_of_nonneg (by omega)]
      have e1 : 0 ≤ (ls + dt - 1) / dt := Int.ediv_nonneg (by omega) (by omega)
      have e2 : (ls + dt - 1) / dt ≤ ls + dt - 1 := Int.ediv_le_self _ (by omega)
      rw [wrap_id (x := (ls + dt - 1) / dt) (by omega) (by omega), mx_max, wrap_id (x := n - 1) (by omega) (by omega)]
      have e3 : 0 ≤ (n - 1) * max 1 ((ls + dt - 1) / dt) := Int.mul_nonneg (by omega) (by omega)
      have e4 : (n - 1) * max 1 ((ls + dt - 1) / dt) ≤ 14 * 200000 := Int.mul_le_mul (by omega) (by omega) (by omega) (by omega)
      rw [wrap_id (x := (n - 1) * max 1 ((ls + dt - 1) / dt)) (by omega) (by omega), wrap_id (by omega) (by omega)]
    · rw [if_neg (by simpa using hd), if_neg hd]
  · rw [if_neg h, if_neg h]

theorem SequencerLasts : plenumlaw21_SequencerLasts.Pure := by
  intro l0 a1 _ _ _ _
  refine ⟨4000, ?_⟩
  unfold plenumlaw21_SequencerLasts.f plenumlaw21_few.f
  rw [awake_f _ (by omega), Option.bind_some, if_pos rfl, Option.bind_some]
  have hj : ∀ b : Bool, (b = false → a1 > 0 → 600 ≤ a1) → plenumlaw21_SequencerLasts.j0 4000 l0 a1 b = some true := by
    intro b hb
    cases b with
    | true => simp only [plenumlaw21_SequencerLasts.j0]; rfl
    | false =>
      have hb := hb rfl
      simp only [plenumlaw21_SequencerLasts.j0]
      rw [if_neg (by simp), duration_f l0 a1 3999 (by omega), show (⟨#[115, 116, 101, 112, 115]⟩ : ByteArray) = stepsB from rfl, refcheck_steps l0 3999 (by omega)]
      by_cases h : checkOf B2 l0 = 0
      · rw [if_pos h]
        obtain ⟨n, ls, rfl, h1, h2, h3, h4⟩ := check2 h
        by_cases hd : 1 ≤ a1 ∧ a1 ≤ 86400
        · rw [if_pos hd]
          simp only [Option.bind_some]
          rw [if_pos h, time_f]
          simp only [Option.bind_some, plenumlaw21_SequencerLasts.j1]
          rw [if_neg (by simpa using hd), if_pos h, if_pos trivial, ref_duration h1 h2 h3 h4 (hb (by omega)) hd.2 3998 (by omega)]
          simp [show rd [n, ls] 0 = n from rfl, show rd [n, ls] 1 = ls from rfl]
        · rw [if_neg hd]
          simp only [Option.bind_some]
          rw [if_pos h, time_f]
          simp only [Option.bind_some, plenumlaw21_SequencerLasts.j1]
          rw [if_pos (show (!decide (1 ≤ a1 ∧ a1 ≤ 86400)) = true by rw [decide_eq_false hd]; rfl)]
          rfl
      · rw [if_neg h]
        simp only [Option.bind_some, if_neg h, plenumlaw21_SequencerLasts.j1]
        rw [if_neg (by simp), if_pos trivial]
        rfl
  by_cases hf : (l0.length : Int) ≤ 10
  · rw [if_pos (by simpa using hf)]
    by_cases h0 : a1 > 0
    · rw [if_pos h0]
      exact hj _ (fun e _ => by have := of_decide_eq_false e; omega)
    · rw [if_neg h0]
      exact hj _ (fun _ h => absurd h h0)
  · rw [if_neg (by simpa using hf)]
    exact hj _ (fun e => by cases e)
end Go.Proofs.YtcpncmjjbfbdhaaDoor.Pure
