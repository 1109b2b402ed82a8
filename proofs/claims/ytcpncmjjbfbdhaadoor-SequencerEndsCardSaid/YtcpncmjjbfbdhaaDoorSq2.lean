/-
  PLAIN LAWS OF THE SEQUENCER, 2: possible states; what Settle and the reference's Settle come to.
-/
import Derived.Test.YtcpncmjjbfbdhaaDoorSq2r
import Derived.Test.YtcpncmjjbfbdhaaDoorRx9
import Derived.Test.YtcpncmjjbfbdhaaDoorRx16
namespace Go.Proofs.YtcpncmjjbfbdhaaDoor.Sq
open Go Go.RowKit Go.Proofs.YtcpncmjjbfbdhaaDoor.R Go.Proofs.YtcpncmjjbfbdhaaDoorW.PrintWords Go.Proofs.YtcpncmjjbfbdhaaDoorW.PrintMore
set_option linter.unusedVariables false
set_option linter.unusedSimpArgs false

/-- A step function that goes towards a goal: it stays there, and from elsewhere it moves by one, or its clock runs on. -/
structure Goes (n up dn ud dd x dt g e Q : Int) (G : Int → Int → Prop) : Prop where
  Q1 : 1 ≤ Q
  e1 : e = 1 ∨ e = -1
  g0 : ∀ t, G t 0
  stay : ∀ t, VS n g t → stg n up dn ud dd x dt g t = (g, 0)
  move : ∀ s t q, VS n s t → s ≠ g → 0 ≤ (g - s) * e → 0 ≤ q → q < Q → G t q →
    stg n up dn ud dd x dt s t = (s + e, 0) ∨ ∃ t', stg n up dn ud dd x dt s t = (s, t') ∧ t' ≠ 0 ∧ q + 1 < Q ∧ G t' (q + 1)

def refEnd (g s0 last i : Int) (N : Nat) : Int × Int := if N = 0 then (if last = 0 then (s0, 0) else (g, last)) else (g, i + N - 1)

theorem sq_e {e : Int} (h : e = 1 ∨ e = -1) (a : Int) : (a - e) * e = a * e - 1 := by rcases h with h | h <;> subst h <;> omega

/-- At the goal: no evaluation more. -/
theorem settle_base {n up dn ud dd x dt g s0 t0 : Int} (hp : P5 n up dn ud dd) (h1 : 1 ≤ dt) (h2 : dt ≤ 86400) (hstay : ∀ t, VS n g t → stg n up dn ud dd x dt g t = (g, 0)) (LIM : Int)
    (hlim : wrap64 (16 * (wrap64 ((wrap64 (Int.tdiv 86400 dt)) + 2))) = LIM) (hLIM : LIM ≤ 100000000) : ∀ (d : Nat) (t : Int), VS n g t → ∃ N : Nat, N ≤ d ∧ (N = 0 ↔ g = g) ∧
      (∀ (k : Nat) (c : Int), N + 5 ≤ k → 0 ≤ c → c + N ≤ 1000000000 → sequencer_Settle.l0 k [n, up, dn, ud, dd] x dt g c [g, t] = some (g, c + N, 0)) ∧
      (∀ (k : Nat) (i last nn : Int), N + 7 ≤ k → 1 ≤ i → i + N + 1 ≤ LIM → (last ≠ 0 → nn = g) →
        plenumref21_Settle.l0 k [n, up, dn, ud, dd] [s0, t0] x dt [g, t] last nn i = some (refEnd g s0 last i N)) := by
  intro d t hv
  have at0 : ∀ (k : Nat) (i last nn : Int), 3 ≤ k → 1 ≤ i → i ≤ LIM → (last ≠ 0 → nn = g) → plenumref21_Settle.l0 k [n, up, dn, ud, dd] [s0, t0] x dt [g, 0] last nn i = some (refEnd g s0 last i 0) := by
    intro k i last nn hk hi hl hn
    obtain ⟨k, rfl⟩ : ∃ m, k = m + 1 := ⟨k - 1, by omega⟩
    have hv0 : VS n g 0 := ⟨hv.s1, hv.s2, by omega, by omega⟩
    simp only [plenumref21_Settle.l0]
    rw [if_neg (by omega), hlim, if_pos (by omega), refstage_f hp hv0 h1 h2 k (by omega), hstay 0 hv0]
    simp only [Option.bind_some, rd0, rd1]
    rw [if_pos (by simp), if_pos (by simp), if_pos trivial, if_pos (by simp), if_pos (by simp), if_pos trivial, if_pos trivial]
    unfold refEnd
    rw [if_pos rfl]
    by_cases e : last = 0
    · rw [if_pos e, if_pos e, if_pos (by simp), e]
    · rw [if_neg e, if_neg e, hn e]
  refine ⟨0, Nat.zero_le _, by simp, fun k c hk hc hcN => ?_, fun k i last nn hk hi hl hn => ?_⟩
  · obtain ⟨k, rfl⟩ : ∃ m, k = m + 1 := ⟨k - 1, by omega⟩
    simp only [sequencer_Settle.l0, rd0]
    rw [if_pos (by simp), if_pos trivial]
    simp
  · by_cases ht : t = 0
    · subst ht
      exact at0 k i last nn (by omega) hi (by omega) hn
    · obtain ⟨k, rfl⟩ : ∃ m, k = m + 1 := ⟨k - 1, by omega⟩
      simp only [plenumref21_Settle.l0]
      rw [if_neg (by omega), hlim, if_pos (by omega), refstage_f hp hv h1 h2 k (by omega), hstay t hv]
      simp only [Option.bind_some]
      rw [if_pos (by simp), if_pos (by simp), if_pos (show rd [g, 0] 0 = rd [g, t] 0 from rfl), if_pos (by simp), if_pos (by simp), if_neg (show ¬ rd [g, 0] 1 = rd [g, t] 1 from fun e => ht e.symm), wrap_id (by omega) (by omega), rd0]
      rw [at0 k (i + 1) last g (by omega) (by omega) (by omega) (fun _ => rfl)]
      unfold refEnd
      rw [if_pos rfl, if_pos rfl]
theorem settle_loops {n up dn ud dd x dt g e Q s0 t0 : Int} {G : Int → Int → Prop} (hp : P5 n up dn ud dd) (h1 : 1 ≤ dt) (h2 : dt ≤ 86400) (hg : Goes n up dn ud dd x dt g e Q G) (LIM : Int)
    (hlim : wrap64 (16 * (wrap64 ((wrap64 (Int.tdiv 86400 dt)) + 2))) = LIM) (hLIM : LIM ≤ 100000000) :
    ∀ (d : Nat) (s t q : Int), VS n s t → 0 ≤ (g - s) * e → 0 ≤ q → q < Q → G t q → (g - s) * e * Q - q ≤ d →
    ∃ N : Nat, N ≤ d ∧ (N = 0 ↔ s = g) ∧
      (∀ (k : Nat) (c : Int), N + 5 ≤ k → 0 ≤ c → c + N ≤ 1000000000 → sequencer_Settle.l0 k [n, up, dn, ud, dd] x dt g c [s, t] = some (g, c + N, 0)) ∧
      (∀ (k : Nat) (i last nn : Int), N + 7 ≤ k → 1 ≤ i → i + N + 1 ≤ LIM → (last ≠ 0 → nn = s) →
        plenumref21_Settle.l0 k [n, up, dn, ud, dd] [s0, t0] x dt [s, t] last nn i = some (refEnd g s0 last i N)) := by
  have base := settle_base (s0 := s0) (t0 := t0) hp h1 h2 hg.stay LIM hlim hLIM
  intro d
  induction d with
  | zero =>
    intro s t q hv hge hq hqQ hG hd
    have hs : s = g := by
      by_cases h : s = g
      · exact h
      · exfalso
        have hge1 : 1 ≤ (g - s) * e := by
          have : (g - s) * e ≠ 0 := by
            rcases hg.e1 with e1 | e1 <;> subst e1 <;> omega
          omega
        have := Int.mul_le_mul_of_nonneg_right hge1 (show 0 ≤ Q by have := hg.Q1; omega)
        omega
    subst hs
    exact base 0 t hv
  | succ d ih =>
    intro s t q hv hge hq hqQ hG hd
    by_cases hs : s = g
    · subst hs
      exact base (d + 1) t hv
    · have hnext := stg_vs (x := x) hp hv h1 h2
      have hQ := hg.Q1
      rcases hg.move s t q hv hs hge hq hqQ hG with hm | ⟨t', hm, ht', hq1, hG'⟩
      · rw [hm] at hnext
        have hge1 : 1 ≤ (g - s) * e := by
          have : (g - s) * e ≠ 0 := by
            rcases hg.e1 with e1 | e1 <;> subst e1 <;> omega
          omega
        have he : (g - (s + e)) * e = (g - s) * e - 1 := by rw [show g - (s + e) = (g - s) - e by omega]; exact sq_e hg.e1 _
        obtain ⟨N, hN, hN0, hprog, href⟩ := ih (s + e) 0 0 hnext (by rw [he]; omega) (by omega) (by omega) (hg.g0 0) (by
          rw [he, Int.sub_mul, Int.one_mul]
          omega)
        refine ⟨N + 1, by omega, by constructor <;> intro h <;> omega, fun k c hk hc hcN => ?_, fun k i last nn hk hi hl hn => ?_⟩
        · obtain ⟨k, rfl⟩ : ∃ m, k = m + 1 := ⟨k - 1, by omega⟩
          simp only [sequencer_Settle.l0]
          rw [if_pos (by simp), if_neg (show ¬ rd [s, t] 0 = g from hs), stage_f hp hv h1 h2 k (by omega), hm]
          simp only [Option.bind_some]
          rw [wrap_id (by omega) (by omega), hprog k (c + 1) (by omega) (by omega) (by omega)]
          congr 2
          simp only [Prod.mk.injEq, and_true]
          omega
        · obtain ⟨k, rfl⟩ : ∃ m, k = m + 1 := ⟨k - 1, by omega⟩
          simp only [plenumref21_Settle.l0]
          rw [if_neg (by omega), hlim, if_pos (by omega), refstage_f hp hv h1 h2 k (by omega), hm]
          simp only [Option.bind_some]
          rw [if_pos (by simp), if_pos (by simp), if_neg (show ¬ rd [s + e, 0] 0 = rd [s, t] 0 by show ¬ s + e = s; rcases hg.e1 with e1 | e1 <;> omega), wrap_id (by omega) (by omega), rd0]
          rw [href k (i + 1) i (s + e) (by omega) (by omega) (by omega) (fun _ => rfl)]
          unfold refEnd
          rw [if_neg (show ¬ N + 1 = 0 by omega)]
          by_cases e0 : N = 0
          · rw [if_pos e0, if_neg (by omega), e0]; simp
          · rw [if_neg e0]; congr 2; omega
      · rw [hm] at hnext
        obtain ⟨N, hN, hN0, hprog, href⟩ := ih s t' (q + 1) hnext hge (by omega) hq1 hG' (by omega)
        refine ⟨N + 1, by omega, by constructor <;> intro h <;> omega, fun k c hk hc hcN => ?_, fun k i last nn hk hi hl hn => ?_⟩
        · obtain ⟨k, rfl⟩ : ∃ m, k = m + 1 := ⟨k - 1, by omega⟩
          simp only [sequencer_Settle.l0]
          rw [if_pos (by simp), if_neg (show ¬ rd [s, t] 0 = g from hs), stage_f hp hv h1 h2 k (by omega), hm]
          simp only [Option.bind_some]
          rw [wrap_id (by omega) (by omega), hprog k (c + 1) (by omega) (by omega) (by omega)]
          congr 2
          simp only [Prod.mk.injEq, and_true]
          omega
        · obtain ⟨k, rfl⟩ : ∃ m, k = m + 1 := ⟨k - 1, by omega⟩
          have hr := href k (i + 1) last s (by omega) (by omega) (by omega) (fun _ => rfl)
          have hfin : refEnd g s0 last (i + 1) N = refEnd g s0 last i (N + 1) := by
            unfold refEnd
            rw [if_neg (show ¬ N = 0 from fun e => hs (hN0.1 e)), if_neg (show ¬ N + 1 = 0 by omega)]
            congr 1; omega
          simp only [plenumref21_Settle.l0]
          rw [if_neg (by omega), hlim, if_pos (by omega), refstage_f hp hv h1 h2 k (by omega), hm]
          simp only [Option.bind_some]
          rw [if_pos (by simp), if_pos (by simp), if_pos (show rd [s, t'] 0 = rd [s, t] 0 from rfl), if_pos (by simp), if_pos (by simp), wrap_id (by omega) (by omega), if_neg (show ¬ rd [s, t'] 1 = 0 from ht'), rd0, hr, hfin]
          split <;> rfl

/-- The three ways of a demand. -/
theorem goes_up {n up dn ud dd x dt Q : Int} (hp : P5 n up dn ud dd) (h1 : 1 ≤ dt) (hx : x > up) (hQ : ud ≤ Q * dt) (hQ1 : 1 ≤ Q) (hxd : ¬ (x < dn)) : Goes n up dn ud dd x dt n 1 Q (fun t q => q * dt ≤ max t 0) where
  Q1 := hQ1
  e1 := .inl rfl
  g0 := fun t => by simp; omega
  stay := fun t hv => by
    unfold stg
    rw [if_neg (show ¬ (x > up ∧ n < n) by omega), if_neg (show ¬ (x < dn ∧ n > 0) by omega)]
  move := fun s t q hv hs hge hq hqQ hG => by
    have hlt : s < n := by have := hv.s2; omega
    unfold stg
    rw [if_pos (show x > up ∧ s < n from ⟨hx, hlt⟩)]
    by_cases h : max t 0 + dt ≥ ud
    · rw [if_pos h]; exact .inl rfl
    · rw [if_neg h]
      refine .inr ⟨max t 0 + dt, rfl, by omega, ?_, ?_⟩
      · have e1 : (q + 1) * dt = q * dt + dt := by rw [Int.add_mul, Int.one_mul]
        rcases lt_or_ge (q + 1) Q with h3 | h3
        · exact h3
        · have : Q * dt ≤ (q + 1) * dt := Int.mul_le_mul_of_nonneg_right h3 (by omega)
          omega
      · show (q + 1) * dt ≤ max (max t 0 + dt) 0
        rw [Int.add_mul, Int.one_mul]
        have hG : q * dt ≤ max t 0 := hG
        omega
theorem goes_dn {n up dn ud dd x dt Q : Int} (hp : P5 n up dn ud dd) (h1 : 1 ≤ dt) (hx : x < dn) (hQ : dd ≤ Q * dt) (hQ1 : 1 ≤ Q) (hxd : ¬ (x > up)) : Goes n up dn ud dd x dt 0 (-1) Q (fun t q => q * dt ≤ -(min t 0)) where
  Q1 := hQ1
  e1 := .inr rfl
  g0 := fun t => by simp; omega
  stay := fun t hv => by
    unfold stg
    rw [if_neg (show ¬ (x > up ∧ (0 : Int) < n) by omega), if_neg (show ¬ (x < dn ∧ (0 : Int) > 0) by omega)]
  move := fun s t q hv hs hge hq hqQ hG => by
    have hlt : s > 0 := by have := hv.s1; omega
    unfold stg
    rw [if_neg (show ¬ (x > up ∧ s < n) by omega), if_pos (show x < dn ∧ s > 0 from ⟨hx, hlt⟩)]
    by_cases h : dt - min t 0 ≥ dd
    · rw [if_pos h]; exact .inl rfl
    · rw [if_neg h]
      refine .inr ⟨min t 0 - dt, rfl, by omega, ?_, ?_⟩
      · have e1 : (q + 1) * dt = q * dt + dt := by rw [Int.add_mul, Int.one_mul]
        have hG : q * dt ≤ -(min t 0) := hG
        rcases lt_or_ge (q + 1) Q with h3 | h3
        · exact h3
        · have : Q * dt ≤ (q + 1) * dt := Int.mul_le_mul_of_nonneg_right h3 (by omega)
          omega
      · show (q + 1) * dt ≤ -(min (min t 0 - dt) 0)
        rw [Int.add_mul, Int.one_mul]
        have hG : q * dt ≤ -(min t 0) := hG
        omega

/-- What Settle answers for parameters, a state, a demand and a time that are right. -/
def goal (n up dn x s : Int) : Int := if x > up then n else if x < dn then 0 else s
theorem lim_facts (dt : Int) (h1 : 1 ≤ dt) (h2 : dt ≤ 86400) : ∃ D : Int, wrap64 (16 * (wrap64 ((wrap64 (Int.tdiv 86400 dt)) + 2))) = 16 * (D + 2) ∧ 1 ≤ D ∧ D ≤ 86400 ∧ 86400 ≤ (D + 1) * dt := by
  refine ⟨86400 / dt, ?_, ?_, ?_, ?_⟩
  · rw [Int.tdiv_eq_ediv_of_nonneg (by omega)]
    have e1 : 0 ≤ 86400 / dt := Int.ediv_nonneg (by omega) (by omega)
    have e2 : 86400 / dt ≤ 86400 := Int.ediv_le_self _ (by omega)
    rw [wrap_id (x := 86400 / dt) (by omega) (by omega), wrap_id (x := 86400 / dt + 2) (by omega) (by omega), wrap_id (by omega) (by omega)]
  · exact (Int.le_ediv_iff_mul_le (by omega)).2 (by omega)
  · exact Int.ediv_le_self _ (by omega)
  · have a := Int.mul_ediv_add_emod 86400 dt
    have c := Int.emod_lt_of_pos 86400 (show 0 < dt by omega)
    rw [Int.add_mul, Int.one_mul, Int.mul_comm]
    omega
theorem settle_run {n up dn ud dd x dt s t : Int} (hp : P5 n up dn ud dd) (h1 : 1 ≤ dt) (h2 : dt ≤ 86400) (hv : VS n s t) (hx : ¬ (x > up ∧ x < dn)) :
    ∃ N : Nat, (N : Int) ≤ 15 * 86401 ∧ (N = 0 ↔ s = goal n up dn x s) ∧
      (∀ (k : Nat), N + 5 ≤ k → sequencer_Settle.l0 k [n, up, dn, ud, dd] x dt (goal n up dn x s) 0 [s, t] = some (goal n up dn x s, (N : Int), 0)) ∧
      (∀ (k : Nat), N + 7 ≤ k → plenumref21_Settle.f k [n, up, dn, ud, dd] [s, t] x dt = some (goal n up dn x s, (N : Int))) := by
  obtain ⟨D, hlim, hD1, hD2, hD3⟩ := lim_facts dt h1 h2
  have fin : ∀ g, g = goal n up dn x s → (∃ N : Nat, (N : Int) ≤ 15 * (D + 1) ∧ (N = 0 ↔ s = g) ∧
      (∀ (k : Nat) (c : Int), N + 5 ≤ k → 0 ≤ c → c + N ≤ 1000000000 → sequencer_Settle.l0 k [n, up, dn, ud, dd] x dt g c [s, t] = some (g, c + N, 0)) ∧
      (∀ (k : Nat) (i last nn : Int), N + 7 ≤ k → 1 ≤ i → i + N + 1 ≤ 16 * (D + 2) → (last ≠ 0 → nn = s) →
        plenumref21_Settle.l0 k [n, up, dn, ud, dd] [s, t] x dt [s, t] last nn i = some (refEnd g s last i N))) →
      ∃ N : Nat, (N : Int) ≤ 15 * 86401 ∧ (N = 0 ↔ s = goal n up dn x s) ∧
      (∀ (k : Nat), N + 5 ≤ k → sequencer_Settle.l0 k [n, up, dn, ud, dd] x dt (goal n up dn x s) 0 [s, t] = some (goal n up dn x s, (N : Int), 0)) ∧
      (∀ (k : Nat), N + 7 ≤ k → plenumref21_Settle.f k [n, up, dn, ud, dd] [s, t] x dt = some (goal n up dn x s, (N : Int))) := by
    rintro g rfl ⟨N, hN, hN0, hp1, hp2⟩
    refine ⟨N, by omega, hN0, fun k hk => ?_, fun k hk => ?_⟩
    · have := hp1 k 0 hk (by omega) (by omega)
      rw [this]; congr 2; simp
    · unfold plenumref21_Settle.f
      rw [hp2 k 1 0 0 hk (by omega) (by omega) (fun h => absurd rfl h)]
      unfold refEnd
      by_cases e : N = 0
      · rw [if_pos e, if_pos rfl, ← hN0.1 e, e]; rfl
      · rw [if_neg e]; congr 2; omega
  have P := hp
  obtain ⟨n1, n2, u1, u2, d1, d2, a1, a2, b1, b2⟩ := hp
  obtain ⟨s1, s2, t1, t2⟩ := hv
  by_cases c1 : x > up
  · have hg := goes_up (Q := D + 1) P h1 c1 (by omega) (by omega) (fun h => hx ⟨c1, h⟩)
    obtain ⟨N, hN, r⟩ := settle_loops (s0 := s) (t0 := t) P h1 h2 hg _ hlim (by omega) ((n - s) * 1 * (D + 1)).toNat s t 0 ⟨s1, s2, t1, t2⟩ (by omega) (by omega) (by omega) (by simp; omega) (by omega)
    have : (n - s) * 1 * (D + 1) ≤ 15 * (D + 1) := Int.mul_le_mul_of_nonneg_right (by omega) (by omega)
    have h0 : 0 ≤ (n - s) * 1 * (D + 1) := Int.mul_nonneg (by omega) (by omega)
    exact fin n (by unfold goal; rw [if_pos c1]) ⟨N, by omega, r⟩
  · by_cases c2 : x < dn
    · have hg := goes_dn (Q := D + 1) P h1 c2 (by omega) (by omega) c1
      obtain ⟨N, hN, r⟩ := settle_loops (s0 := s) (t0 := t) P h1 h2 hg _ hlim (by omega) ((0 - s) * -1 * (D + 1)).toNat s t 0 ⟨s1, s2, t1, t2⟩ (by omega) (by omega) (by omega) (by simp; omega) (by omega)
      have : (0 - s) * -1 * (D + 1) ≤ 15 * (D + 1) := Int.mul_le_mul_of_nonneg_right (by omega) (by omega)
      have h0 : 0 ≤ (0 - s) * -1 * (D + 1) := Int.mul_nonneg (by omega) (by omega)
      exact fin 0 (by unfold goal; rw [if_neg c1, if_pos c2]) ⟨N, by omega, r⟩
    · obtain ⟨N, hN, _, r⟩ := settle_base (g := s) (s0 := s) (t0 := t) P h1 h2 (x := x) (fun t' hv' => by
        unfold stg
        rw [if_neg (show ¬ (x > up ∧ s < n) by omega), if_neg (show ¬ (x < dn ∧ s > 0) by omega)]) _ hlim (by omega) 0 t ⟨s1, s2, t1, t2⟩
      exact fin s (by unfold goal; rw [if_neg c1, if_neg c2]) ⟨N, by omega, ⟨fun _ => rfl, fun _ => by omega⟩, r⟩

inductive SetOut (l0 l1 : List Int) (x dt : Int) (r : Int × Int × Int) : Prop where
  | bad (h : checkOf B5 l0 ≠ 0) (e : r = (0, 0, checkOf B5 l0))
  | time (h : checkOf B5 l0 = 0) (hd : ¬ (1 ≤ dt ∧ dt ≤ 86400)) (e : r = (0, 0, 1))
  | state (h : checkOf B5 l0 = 0) (hd : 1 ≤ dt ∧ dt ≤ 86400) (hs : vst (rd l0 0) l1 = false) (e : r = (0, 0, 8))
  | range (h : checkOf B5 l0 = 0) (hd : 1 ≤ dt ∧ dt ≤ 86400) (hs : vst (rd l0 0) l1 = true) (hx : x < -1000000000000 ∨ x > 1000000000000) (e : r = (0, 0, 6))
  | conflict (h : checkOf B5 l0 = 0) (hd : 1 ≤ dt ∧ dt ≤ 86400) (hs : vst (rd l0 0) l1 = true) (hx : ¬ (x < -1000000000000 ∨ x > 1000000000000)) (hc : x > rd l0 1 ∧ x < rd l0 2) (e : r = (0, 0, 10))
  | runs (n up dn ud dd s t : Int) (N : Nat) (hl0 : l0 = [n, up, dn, ud, dd]) (hl1 : l1 = [s, t]) (h : checkOf B5 l0 = 0) (hp : P5 n up dn ud dd) (hv : VS n s t) (hd : 1 ≤ dt ∧ dt ≤ 86400) (hx : ¬ (x < -1000000000000 ∨ x > 1000000000000)) (hc : ¬ (x > up ∧ x < dn))
      (e : r = (goal n up dn x s, (N : Int), 0)) (hN : (N : Int) ≤ 15 * 86401) (hN0 : N = 0 ↔ s = goal n up dn x s)
      (hprog : ∀ (k : Nat), N + 5 ≤ k → sequencer_Settle.l0 k [n, up, dn, ud, dd] x dt (goal n up dn x s) 0 [s, t] = some (goal n up dn x s, (N : Int), 0))
      (href : ∀ (k : Nat), N + 7 ≤ k → plenumref21_Settle.f k [n, up, dn, ud, dd] [s, t] x dt = some (goal n up dn x s, (N : Int)))
/-- Settle, whole. -/
theorem settle_f (l0 l1 : List Int) (x dt : Int) : ∃ K r, (∀ k, K ≤ k → sequencer_Settle.f k l0 l1 x dt = some r) ∧ SetOut l0 l1 x dt r := by
  by_cases h : checkOf B5 l0 ≠ 0
  · refine ⟨60, _, fun k hk => ?_, .bad h rfl⟩
    unfold sequencer_Settle.f
    rw [show (⟨#[115, 116, 97, 103, 101]⟩ : ByteArray) = stageB from rfl, check_stage l0 k (by omega), Option.bind_some, if_neg h]
  · have h0 : checkOf B5 l0 = 0 := by omega
    obtain ⟨n, up, dn, ud, dd, rfl, hp⟩ := check5 h0
    have pre : ∀ k, 60 ≤ k → sequencer_Settle.f k [n, up, dn, ud, dd] l1 x dt = if 1 ≤ dt ∧ dt ≤ 86400 then (if vst n l1 = true then (if x < (-1000000000000) then (sequencer_Settle.j0 k [n, up, dn, ud, dd] l1 x dt true) else (sequencer_Settle.j0 k [n, up, dn, ud, dd] l1 x dt (decide (x > 1000000000000)))) else some (0, 0, 8)) else some (0, 0, 1) := by
      intro k hk
      unfold sequencer_Settle.f
      rw [show (⟨#[115, 116, 97, 103, 101]⟩ : ByteArray) = stageB from rfl, check_stage _ k (by omega), Option.bind_some, if_pos h0, seconds_f, Option.bind_some]
      by_cases hd : 1 ≤ dt ∧ dt ≤ 86400
      · rw [if_pos (by simpa using hd), if_pos hd, possible_f n [up, dn, ud, dd] l1 k (by omega), Option.bind_some]
      · rw [if_neg (by simpa using hd), if_neg hd]
    by_cases hd : 1 ≤ dt ∧ dt ≤ 86400
    · by_cases hs : vst n l1 = true
      · by_cases hx : x < -1000000000000 ∨ x > 1000000000000
        · refine ⟨61, _, fun k hk => ?_, .range h0 hd hs hx rfl⟩
          rw [pre k (by omega), if_pos hd, if_pos hs]
          obtain ⟨k, rfl⟩ : ∃ m, k = m + 1 := ⟨k - 1, by omega⟩
          by_cases hx1 : x < -1000000000000
          · rw [if_pos hx1]; simp only [sequencer_Settle.j0]; rfl
          · rw [if_neg hx1, decide_eq_true (by omega)]; simp only [sequencer_Settle.j0]; rfl
        · have j0f : ∀ k, 61 ≤ k → sequencer_Settle.f k [n, up, dn, ud, dd] l1 x dt = sequencer_Settle.j0 k [n, up, dn, ud, dd] l1 x dt false := by
            intro k hk
            rw [pre k (by omega), if_pos hd, if_pos hs, if_neg (by omega), decide_eq_false (by omega)]
          by_cases hc : x > up ∧ x < dn
          · refine ⟨61, _, fun k hk => ?_, .conflict h0 hd hs hx hc rfl⟩
            rw [j0f k hk]
            obtain ⟨k, rfl⟩ : ∃ m, k = m + 1 := ⟨k - 1, by omega⟩
            simp only [sequencer_Settle.j0]
            rw [if_neg (by simp), if_pos (by simp), if_pos (show x > rd [n, up, dn, ud, dd] 1 from hc.1), if_pos (by simp), if_pos (show x < rd [n, up, dn, ud, dd] 2 from hc.2)]
          · obtain ⟨s, t, rfl, hv⟩ := vst_ok hs
            obtain ⟨N, hN, hN0, hp1, hp2⟩ := settle_run hp hd.1 hd.2 hv hc
            refine ⟨N + 70, _, fun k hk => ?_, .runs n up dn ud dd s t N rfl rfl h0 hp hv hd hx hc rfl hN hN0 hp1 hp2⟩
            rw [j0f k (by omega)]
            have j1f : ∀ k, N + 8 ≤ k → sequencer_Settle.j1 k [n, up, dn, ud, dd] [s, t] x dt = some (goal n up dn x s, (N : Int), 0) := by
              intro k hk
              obtain ⟨k, rfl⟩ : ∃ m, k = m + 2 := ⟨k - 2, by omega⟩
              simp only [sequencer_Settle.j1]
              rw [if_pos (by simp), if_pos (by simp)]
              have gg : ∀ g, g = goal n up dn x s → sequencer_Settle.j2 (k + 1) [n, up, dn, ud, dd] [s, t] x dt g = some (goal n up dn x s, (N : Int), 0) := by
                rintro g rfl
                simp only [sequencer_Settle.j2]
                exact hp1 k (by omega)
              by_cases c1 : x > up
              · rw [if_pos (show x > rd [n, up, dn, ud, dd] 1 from c1), if_pos (by simp)]
                exact gg _ (by unfold goal; rw [if_pos c1]; rfl)
              · rw [if_neg (show ¬ x > rd [n, up, dn, ud, dd] 1 from c1), if_pos (by simp)]
                by_cases c2 : x < dn
                · rw [if_pos (show x < rd [n, up, dn, ud, dd] 2 from c2)]
                  exact gg _ (by unfold goal; rw [if_neg c1, if_pos c2])
                · rw [if_neg (show ¬ x < rd [n, up, dn, ud, dd] 2 from c2)]
                  exact gg _ (by unfold goal; rw [if_neg c1, if_neg c2]; rfl)
            obtain ⟨k, rfl⟩ : ∃ m, k = m + 1 := ⟨k - 1, by omega⟩
            simp only [sequencer_Settle.j0]
            rw [if_neg (by simp), if_pos (by simp)]
            by_cases c1 : x > up
            · rw [if_pos (show x > rd [n, up, dn, ud, dd] 1 from c1), if_pos (by simp), if_neg (show ¬ x < rd [n, up, dn, ud, dd] 2 from fun h => hc ⟨c1, h⟩)]
              exact j1f k (by omega)
            · rw [if_neg (show ¬ x > rd [n, up, dn, ud, dd] 1 from c1)]
              exact j1f k (by omega)
      · have hs2 : vst n l1 = false := by cases h2 : vst n l1 <;> simp_all
        refine ⟨60, _, fun k hk => ?_, .state h0 hd hs2 rfl⟩
        rw [pre k hk, if_pos hd, if_neg hs]
    · refine ⟨60, _, fun k hk => ?_, .time h0 hd rfl⟩
      rw [pre k hk, if_neg hd]
end Go.Proofs.YtcpncmjjbfbdhaaDoor.Sq
