/-
  SequencerDelays: a stage is added or taken away only behind its delay: the plain law.
-/
import Derived.Test.YtcpncmjjbfbdhaaDoorSq3s
import Derived.Test.YtcpncmjjbfbdhaaDoorRx20
import Derived.Test.YtcpncmjjbfbdhaaDoorRx21
namespace Go.Proofs.YtcpncmjjbfbdhaaDoor.Pure
open Go Go.RowKit Go.Proofs.YtcpncmjjbfbdhaaDoor.R Go.Proofs.YtcpncmjjbfbdhaaDoor.Sq Go.Proofs.YtcpncmjjbfbdhaaDoorW.PrintWords Go.Proofs.YtcpncmjjbfbdhaaDoorW.PrintMore
set_option linter.unusedVariables false
set_option linter.unusedSimpArgs false

/-- The states that the demands lead through. -/
def sg (n up dn ud dd dt : Int) (xs : List Int) : Nat → Int × Int
  | 0 => (0, 0)
  | i + 1 => stg n up dn ud dd (rd xs (i : Int)) dt (sg n up dn ud dd dt xs i).1 (sg n up dn ud dd dt xs i).2
/-- Their stages. -/
def sgs (n up dn ud dd dt : Int) (xs : List Int) (i : Nat) : List Int := (List.range i).map fun j => (sg n up dn ud dd dt xs (j + 1)).1
theorem sgs_len {n up dn ud dd dt : Int} {xs : List Int} (i : Nat) : (sgs n up dn ud dd dt xs i).length = i := by simp [sgs]
theorem sgs_succ {n up dn ud dd dt : Int} {xs : List Int} (i : Nat) : sgs n up dn ud dd dt xs (i + 1) = sgs n up dn ud dd dt xs i ++ [(sg n up dn ud dd dt xs (i + 1)).1] := by
  simp [sgs, List.range_succ]
theorem sgs_rd {n up dn ud dd dt : Int} {xs : List Int} (L i : Nat) (h : i < L) : rd (sgs n up dn ud dd dt xs L) (i : Int) = (sg n up dn ud dd dt xs (i + 1)).1 := by
  unfold rd sgs
  simp [List.getD, h]
/-- What the timer says of the demands just past. -/
def Past (up dn dt : Int) (xs : List Int) (i : Nat) (t : Int) : Prop :=
  (∃ m : Nat, m ≤ i ∧ t = (m : Int) * dt ∧ ∀ j : Nat, i ≤ j + m → j < i → rd xs (j : Int) > up) ∨
  (∃ m : Nat, m ≤ i ∧ t = -((m : Int) * dt) ∧ ∀ j : Nat, i ≤ j + m → j < i → rd xs (j : Int) < dn)
theorem mul_next (m : Nat) (dt : Int) : ((m + 1 : Nat) : Int) * dt = (m : Int) * dt + dt := by
  rw [Int.natCast_add, Int.add_mul]; simp
theorem past_zero (up dn dt : Int) (xs : List Int) (i : Nat) : Past up dn dt xs i 0 := Or.inl ⟨0, Nat.zero_le _, by simp, fun j h1 h2 => by omega⟩
theorem mul_pos0 (m : Nat) {dt : Int} (h1 : 1 ≤ dt) : 0 ≤ (m : Int) * dt := Int.mul_nonneg (by omega) (by omega)
/-- What one evaluation may change. -/
structure Turn (n up dn ud dd dt : Int) (xs : List Int) (i : Nat) (s s' : Int) : Prop where
  b : s' = s ∨ s' = s + 1 ∨ s' = s - 1
  u : s' = s + 1 → ∀ k : Nat, k ≤ i → (k = i ∨ ((i - k : Nat) : Int) * dt < ud) → rd xs (k : Int) > up
  d : s' = s - 1 → ∀ k : Nat, k ≤ i → (k = i ∨ ((i - k : Nat) : Int) * dt < dd) → rd xs (k : Int) < dn
theorem mul_lt_imp {a b : Nat} {dt x : Int} (h1 : 1 ≤ dt) (h : (a : Int) * dt < x) (hx : x ≤ (b : Int) * dt) : a < b := by
  have : (a : Int) * dt < (b : Int) * dt := Int.lt_of_lt_of_le h hx
  have := Int.lt_of_mul_lt_mul_right this (by omega)
  omega
theorem turn {n up dn ud dd dt : Int} {xs : List Int} (h1 : 1 ≤ dt) (i : Nat) (s t : Int) (hP : Past up dn dt xs i t) :
    Past up dn dt xs (i + 1) (stg n up dn ud dd (rd xs (i : Int)) dt s t).2 ∧ Turn n up dn ud dd dt xs i s (stg n up dn ud dd (rd xs (i : Int)) dt s t).1 := by
  unfold stg
  by_cases c1 : rd xs (i : Int) > up ∧ s < n
  · rw [if_pos c1]
    -- so many of the demands were greater
    obtain ⟨m, hm, ht, hx⟩ : ∃ m : Nat, m ≤ i ∧ max t 0 = (m : Int) * dt ∧ ∀ j : Nat, i ≤ j + m → j < i → rd xs (j : Int) > up := by
      rcases hP with ⟨m, hm, ht, hx⟩ | ⟨m, hm, ht, hx⟩
      · refine ⟨m, hm, ?_, hx⟩
        have := mul_pos0 m h1
        omega
      · refine ⟨0, Nat.zero_le _, ?_, fun j a b => by omega⟩
        have := mul_pos0 m h1
        simp only [Int.natCast_zero, Int.zero_mul]
        omega
    have hall : ∀ j : Nat, i ≤ j + m → j ≤ i → rd xs (j : Int) > up := by
      intro j a b
      by_cases e : j = i
      · rw [e]; exact c1.1
      · exact hx j a (by omega)
    by_cases c2 : max t 0 + dt ≥ ud
    · rw [if_pos c2]
      refine ⟨past_zero .., Or.inr (Or.inl rfl), fun _ k hk hor => ?_, fun h => by simp only at h; omega⟩
      rcases hor with e | hlt
      · rw [e]; exact c1.1
      · have : i - k < m + 1 := mul_lt_imp h1 hlt (by rw [mul_next]; omega)
        exact hall k (by omega) hk
    · rw [if_neg c2]
      refine ⟨Or.inl ⟨m + 1, by omega, by rw [mul_next]; simp only; omega, fun j a b => hall j (by omega) (by omega)⟩, Or.inl rfl, fun h => by simp only at h; omega, fun h => by simp only at h; omega⟩
  · rw [if_neg c1]
    by_cases c3 : rd xs (i : Int) < dn ∧ s > 0
    · rw [if_pos c3]
      obtain ⟨m, hm, ht, hx⟩ : ∃ m : Nat, m ≤ i ∧ min t 0 = -((m : Int) * dt) ∧ ∀ j : Nat, i ≤ j + m → j < i → rd xs (j : Int) < dn := by
        rcases hP with ⟨m, hm, ht, hx⟩ | ⟨m, hm, ht, hx⟩
        · refine ⟨0, Nat.zero_le _, ?_, fun j a b => by omega⟩
          have := mul_pos0 m h1
          simp only [Int.natCast_zero, Int.zero_mul]
          omega
        · refine ⟨m, hm, ?_, hx⟩
          have := mul_pos0 m h1
          omega
      have hall : ∀ j : Nat, i ≤ j + m → j ≤ i → rd xs (j : Int) < dn := by
        intro j a b
        by_cases e : j = i
        · rw [e]; exact c3.1
        · exact hx j a (by omega)
      by_cases c2 : dt - min t 0 ≥ dd
      · rw [if_pos c2]
        refine ⟨past_zero .., Or.inr (Or.inr rfl), fun h => by simp only at h; omega, fun _ k hk hor => ?_⟩
        rcases hor with e | hlt
        · rw [e]; exact c3.1
        · have : i - k < m + 1 := mul_lt_imp h1 hlt (by rw [mul_next]; omega)
          exact hall k (by omega) hk
      · rw [if_neg c2]
        refine ⟨Or.inr ⟨m + 1, by omega, by rw [mul_next]; simp only; omega, fun j a b => hall j (by omega) (by omega)⟩, Or.inl rfl, fun h => by simp only at h; omega, fun h => by simp only at h; omega⟩
    · rw [if_neg c3]
      exact ⟨past_zero .., Or.inl rfl, fun h => by simp only at h; omega, fun h => by simp only at h; omega⟩

theorem sg_ok {n up dn ud dd dt : Int} {xs : List Int} (hp : P5 n up dn ud dd) (h1 : 1 ≤ dt) (h2 : dt ≤ 86400) (i : Nat) :
    VS n (sg n up dn ud dd dt xs i).1 (sg n up dn ud dd dt xs i).2 ∧ Past up dn dt xs i (sg n up dn ud dd dt xs i).2 := by
  induction i with
  | zero =>
    have := hp.n1
    exact ⟨⟨by simp [sg], by simp only [sg]; omega, by simp [sg], by simp [sg]⟩, past_zero ..⟩
  | succ i ih => exact ⟨stg_vs hp ih.1 h1 h2, (turn h1 i _ _ ih.2).1⟩
theorem sg_turn {n up dn ud dd dt : Int} {xs : List Int} (hp : P5 n up dn ud dd) (h1 : 1 ≤ dt) (h2 : dt ≤ 86400) (i : Nat) :
    Turn n up dn ud dd dt xs i (sg n up dn ud dd dt xs i).1 (sg n up dn ud dd dt xs (i + 1)).1 := (turn h1 i _ _ (sg_ok hp h1 h2 i).2).2

theorem run_l0 {n up dn ud dd dt : Int} {xs : List Int} (h : checkOf B5 [n, up, dn, ud, dd] = 0) (hp : P5 n up dn ud dd) (h1 : 1 ≤ dt) (h2 : dt ≤ 86400) (hL : xs.length ≤ 40)
    (hx : ∀ i : Nat, i < xs.length → -1000000000000 ≤ rd xs (i : Int) ∧ rd xs (i : Int) ≤ 1000000000000) :
    ∀ (d i k : Nat), i + d = xs.length → d + 90 ≤ k →
      plenumlaw21_run.l0 k [n, up, dn, ud, dd] [(sg n up dn ud dd dt xs i).1, (sg n up dn ud dd dt xs i).2] xs dt (sgs n up dn ud dd dt xs i) (i : Int) = some (sgs n up dn ud dd dt xs xs.length, true) := by
  intro d
  induction d with
  | zero =>
    intro i k hi hk
    obtain ⟨k, rfl⟩ : ∃ m, k = m + 1 := ⟨k - 1, by omega⟩
    simp only [plenumlaw21_run.l0]
    rw [if_neg (by omega)]
    have : i = xs.length := by omega
    rw [this]
  | succ d ih =>
    intro i k hi hk
    obtain ⟨k, rfl⟩ : ∃ m, k = m + 1 := ⟨k - 1, by omega⟩
    have hxi := hx i (by omega)
    have hv := (sg_ok (xs := xs) (ud := ud) (dd := dd) hp h1 h2 i).1
    have hv' := (sg_ok (xs := xs) (ud := ud) (dd := dd) hp h1 h2 (i + 1)).1
    have hn2 := hp.n2
    have hs1 := hv'.s1
    have hs2 := hv'.s2
    simp only [plenumlaw21_run.l0]
    rw [if_pos (by omega), if_pos (by omega)]
    rw [show (⟨#[115, 116, 97, 103, 101]⟩ : ByteArray) = stageB from rfl, step_stage h hp hv hxi.1 hxi.2 h1 h2 k (by omega), Option.bind_some]
    rw [show stg n up dn ud dd (rd xs (i : Int)) dt (sg n up dn ud dd dt xs i).1 (sg n up dn ud dd dt xs i).2 = sg n up dn ud dd dt xs (i + 1) from rfl]
    rw [if_pos rfl, if_pos (by simp), if_pos (by simp)]
    simp only [rd0]
    rw [wrap_id (by omega) (by omega), if_pos rfl, if_pos trivial, if_pos (by rw [sgs_len]; omega), wrap_id (by omega) (by omega), ← sgs_succ]
    exact ih (i + 1) k (by omega) (by omega)

section back
variable {n up dn ud dd dt : Int} {xs ss : List Int} (h1 : 1 ≤ dt) (h2 : dt ≤ 86400) (hL : xs.length ≤ 40)
include h1 h2 hL
/-- The way back through the demands. -/
theorem back (i : Nat) (hi : i < xs.length) (o s nn : Int)
    (hnn : nn = 0 ∨ (nn = 1 ∧ ∀ k : Nat, k ≤ i → (k = i ∨ ((i - k : Nat) : Int) * dt < ud) → rd xs (k : Int) > up) ∨ (nn = -1 ∧ ∀ k : Nat, k ≤ i → (k = i ∨ ((i - k : Nat) : Int) * dt < dd) → rd xs (k : Int) < dn))
    (K : Nat) (hK : ∀ k, K ≤ k → plenumlaw21_SequencerDelays.l1 k [n, up, dn, ud, dd] xs dt ss s ((i : Int) + 1) = some true) :
    ∀ (d : Nat), d ≤ i + 1 → ∀ k, K + 2 * d + 2 ≤ k → plenumlaw21_SequencerDelays.l2 k [n, up, dn, ud, dd] xs dt ss s (i : Int) nn ((d : Int) - 1) = some true := by
  have hend : ∀ k (x : Int), K + 1 ≤ k → plenumlaw21_SequencerDelays.j5 k [n, up, dn, ud, dd] xs dt ss s (i : Int) nn x false = some true := by
    intro k x hk
    obtain ⟨k, rfl⟩ : ∃ m, k = m + 1 := ⟨k - 1, by omega⟩
    simp only [plenumlaw21_SequencerDelays.j5]
    rw [if_neg (by simp), wrap_id (by omega) (by omega)]
    exact hK k (by omega)
  intro d
  induction d with
  | zero =>
    intro hd k hk
    obtain ⟨k, rfl⟩ : ∃ m, k = m + 1 := ⟨k - 1, by omega⟩
    simp only [plenumlaw21_SequencerDelays.l2]
    rw [show decide ((((0 : Nat) : Int) - 1) ≥ 0) = false from rfl]
    split
    · exact hend _ _ (by omega)
    · exact hend _ _ (by omega)
  | succ d ih =>
    intro hd k hk
    obtain ⟨k, rfl⟩ : ∃ m, k = m + 2 := ⟨k - 2, by omega⟩
    have hstep : ((d + 1 : Nat) : Int) - 1 = (d : Int) := by omega
    rw [hstep]
    have hih := ih (by omega) k (by omega)
    simp only [plenumlaw21_SequencerDelays.l2]
    rcases hnn with e | ⟨e, hu⟩ | ⟨e, hu⟩
    · rw [if_pos e]; exact hend _ _ (by omega)
    · subst e
      rw [if_neg (by decide), decide_eq_true (by omega : (d : Int) ≥ 0)]
      simp only [plenumlaw21_SequencerDelays.j5]
      rw [if_pos trivial, if_pos trivial, wrap_id (x := (d : Int) - 1) (by omega) (by omega)]
      have hwm : wrap64 ((wrap64 ((i : Int) - (d : Int))) * dt) = ((i - d : Nat) : Int) * dt := by
        rw [wrap_id (x := (i : Int) - (d : Int)) (by omega) (by omega), show ((i - d : Nat) : Int) = (i : Int) - (d : Int) by omega]
        have a0 : 0 ≤ ((i : Int) - (d : Int)) * dt := Int.mul_nonneg (by omega) (by omega)
        have a1 : ((i : Int) - (d : Int)) * dt ≤ 40 * 86400 := Int.mul_le_mul (by omega) h2 (by omega) (by omega)
        exact wrap_id (by omega) (by omega)
      rw [hwm]
      by_cases c : d = i
      · have hx := hu d (by omega) (Or.inl c)
        rw [if_pos (by omega), if_pos (by omega), if_pos (by omega), if_pos (by simp), show rd [n, up, dn, ud, dd] 1 = up from rfl, if_neg (by omega), if_neg (by decide)]
        exact hih
      · rw [if_neg (by omega), if_pos (by simp), show rd [n, up, dn, ud, dd] 3 = ud from rfl]
        by_cases c2 : ((i - d : Nat) : Int) * dt < ud
        · have hx := hu d (by omega) (Or.inr c2)
          rw [if_pos c2, if_pos (by omega), if_pos (by omega), if_pos (by simp), show rd [n, up, dn, ud, dd] 1 = up from rfl, if_neg (by omega), if_neg (by decide)]
          exact hih
        · rw [if_neg c2, if_neg (by decide)]
          exact hih
    · subst e
      rw [if_neg (by decide), decide_eq_true (by omega : (d : Int) ≥ 0)]
      simp only [plenumlaw21_SequencerDelays.j5]
      rw [if_pos trivial, if_neg (by decide), if_pos trivial, wrap_id (x := (d : Int) - 1) (by omega) (by omega)]
      have hwm : wrap64 ((wrap64 ((i : Int) - (d : Int))) * dt) = ((i - d : Nat) : Int) * dt := by
        rw [wrap_id (x := (i : Int) - (d : Int)) (by omega) (by omega), show ((i - d : Nat) : Int) = (i : Int) - (d : Int) by omega]
        have a0 : 0 ≤ ((i : Int) - (d : Int)) * dt := Int.mul_nonneg (by omega) (by omega)
        have a1 : ((i : Int) - (d : Int)) * dt ≤ 40 * 86400 := Int.mul_le_mul (by omega) h2 (by omega) (by omega)
        exact wrap_id (by omega) (by omega)
      rw [hwm]
      by_cases c : d = i
      · have hx := hu d (by omega) (Or.inl c)
        rw [if_pos (by omega), if_pos (by omega), if_pos (by omega), if_pos (by simp), show rd [n, up, dn, ud, dd] 2 = dn from rfl, if_neg (by omega)]
        exact hih
      · rw [if_neg (by omega), if_pos (by simp), show rd [n, up, dn, ud, dd] 4 = dd from rfl]
        by_cases c2 : ((i - d : Nat) : Int) * dt < dd
        · have hx := hu d (by omega) (Or.inr c2)
          rw [if_pos c2, if_pos (by omega), if_pos (by omega), if_pos (by simp), show rd [n, up, dn, ud, dd] 2 = dn from rfl, if_neg (by omega)]
          exact hih
        · rw [if_neg c2]
          exact hih
end back

theorem delays_l1 {n up dn ud dd dt : Int} {xs : List Int} (hp : P5 n up dn ud dd) (h1 : 1 ≤ dt) (h2 : dt ≤ 86400) (hL : xs.length ≤ 40) :
    ∀ (d i : Nat), i + d = xs.length → ∃ K, ∀ k, K ≤ k →
      plenumlaw21_SequencerDelays.l1 k [n, up, dn, ud, dd] xs dt (sgs n up dn ud dd dt xs xs.length) (sg n up dn ud dd dt xs i).1 (i : Int) = some true := by
  intro d
  induction d with
  | zero =>
    intro i hi
    refine ⟨1, fun k hk => ?_⟩
    obtain ⟨k, rfl⟩ : ∃ m, k = m + 1 := ⟨k - 1, by omega⟩
    simp only [plenumlaw21_SequencerDelays.l1]
    rw [if_neg (by rw [sgs_len]; omega)]
  | succ d ih =>
    intro i hi
    obtain ⟨K, hK⟩ := ih (i + 1) (by omega)
    have hv := (sg_ok (xs := xs) (ud := ud) (dd := dd) hp h1 h2 i).1
    have hv' := (sg_ok (xs := xs) (ud := ud) (dd := dd) hp h1 h2 (i + 1)).1
    have hT := sg_turn (xs := xs) (ud := ud) (dd := dd) hp h1 h2 i
    have hn2 := hp.n2
    have a1 := hv.s1
    have a2 := hv.s2
    have b1 := hv'.s1
    have b2 := hv'.s2
    have htb := hT.b
    refine ⟨K + 2 * (i + 1) + 10, fun k hk => ?_⟩
    obtain ⟨k, rfl⟩ : ∃ m, k = m + 2 := ⟨k - 2, by omega⟩
    simp only [plenumlaw21_SequencerDelays.l1]
    rw [sgs_rd _ _ (by omega : i < xs.length), wrap_id (x := (sg n up dn ud dd dt xs (i + 1)).1 - (sg n up dn ud dd dt xs i).1) (by omega) (by omega)]
    rw [if_pos (by rw [sgs_len]; omega), if_pos (by omega), if_neg (by omega), if_neg (by omega), if_neg (by omega), if_pos (by simp), show rd [n, up, dn, ud, dd] 0 = n from rfl, decide_eq_false (by omega)]
    simp only [plenumlaw21_SequencerDelays.j3]
    rw [if_neg (by simp)]
    have := back (n := n) (up := up) (dn := dn) (ud := ud) (dd := dd) (ss := sgs n up dn ud dd dt xs xs.length) h1 h2 hL i (by omega) 0 (sg n up dn ud dd dt xs (i + 1)).1 ((sg n up dn ud dd dt xs (i + 1)).1 - (sg n up dn ud dd dt xs i).1)
      (by
        rcases htb with e | e | e
        · exact Or.inl (by omega)
        · exact Or.inr (Or.inl ⟨by omega, hT.u e⟩)
        · exact Or.inr (Or.inr ⟨by omega, hT.d e⟩)) K (fun k hk => hK k hk) (i + 1) (Nat.le_refl _) k (by omega)
    rw [show (((i + 1 : Nat) : Int) - 1) = (i : Int) by omega] at this
    exact this

theorem delays_l0 {n up dn ud dd dt : Int} {xs : List Int} (h : checkOf B5 [n, up, dn, ud, dd] = 0) (hp : P5 n up dn ud dd) (h1 : 1 ≤ dt) (h2 : dt ≤ 86400) (hL : xs.length ≤ 40) :
    ∀ (d i : Nat), i + d = xs.length → (∀ j : Nat, j < i → -1000000000000 ≤ rd xs (j : Int) ∧ rd xs (j : Int) ≤ 1000000000000) → ∃ K, ∀ k, K ≤ k → plenumlaw21_SequencerDelays.l0 k [n, up, dn, ud, dd] xs dt (i : Int) = some true := by
  intro d
  induction d with
  | zero =>
    intro i hi hx
    obtain ⟨K, hK⟩ := delays_l1 (ud := ud) (dd := dd) hp h1 h2 hL xs.length 0 (by omega)
    refine ⟨K + 200, fun k hk => ?_⟩
    obtain ⟨k, rfl⟩ : ∃ m, k = m + 1 := ⟨k - 1, by omega⟩
    simp only [plenumlaw21_SequencerDelays.l0]
    have hr := run_l0 (xs := xs) h hp h1 h2 hL (fun j hj => hx j (by omega)) xs.length 0 k (by omega) (by omega)
    have hr' : plenumlaw21_run.f k [n, up, dn, ud, dd] [0, 0] xs dt = some (sgs n up dn ud dd dt xs xs.length, true) := hr
    rw [if_neg (by omega), hr', Option.bind_some, if_pos rfl]
    exact hK k (by omega)
  | succ d ih =>
    intro i hi hx
    by_cases c1 : rd xs (i : Int) < -1000000000000
    · refine ⟨1, fun k hk => ?_⟩
      obtain ⟨k, rfl⟩ : ∃ m, k = m + 1 := ⟨k - 1, by omega⟩
      simp only [plenumlaw21_SequencerDelays.l0]
      rw [if_pos (by omega), if_pos (by omega), if_pos c1]
    · by_cases c2 : rd xs (i : Int) > 1000000000000
      · refine ⟨1, fun k hk => ?_⟩
        obtain ⟨k, rfl⟩ : ∃ m, k = m + 1 := ⟨k - 1, by omega⟩
        simp only [plenumlaw21_SequencerDelays.l0]
        rw [if_pos (by omega), if_pos (by omega), if_neg c1, if_pos c2]
      · obtain ⟨K, hK⟩ := ih (i + 1) (by omega) (fun j hj => by
          by_cases e : j = i
          · subst e; omega
          · exact hx j (by omega))
        refine ⟨K + 1, fun k hk => ?_⟩
        obtain ⟨k, rfl⟩ : ∃ m, k = m + 1 := ⟨k - 1, by omega⟩
        simp only [plenumlaw21_SequencerDelays.l0]
        rw [if_pos (by omega), if_pos (by omega), if_neg c1, if_neg c2, wrap_id (by omega) (by omega)]
        exact hK k (by omega)

theorem SequencerDelays : plenumlaw21_SequencerDelays.Pure := by
  intro l0 l1 dt _ _ hw0 _ _ _ hdt
  have hj0 : ∀ k, 1 ≤ k → plenumlaw21_SequencerDelays.j0 k l0 l1 dt true = some true := by
    intro k hk
    obtain ⟨k, rfl⟩ : ∃ m, k = m + 1 := ⟨k - 1, by omega⟩
    simp only [plenumlaw21_SequencerDelays.j0]; rfl
  have start : ∀ k, 70 ≤ k → plenumlaw21_SequencerDelays.f k l0 l1 dt = if (l1.length : Int) > 40 then (plenumlaw21_SequencerDelays.j0 k l0 l1 dt true) else (if checkOf B5 l0 = 0 then (if dt < 1 then (plenumlaw21_SequencerDelays.j0 k l0 l1 dt true) else (plenumlaw21_SequencerDelays.j0 k l0 l1 dt (decide (dt > 86400)))) else (plenumlaw21_SequencerDelays.j0 k l0 l1 dt true)) := by
    intro k hk
    unfold plenumlaw21_SequencerDelays.f
    rw [awake_f _ (by omega), Option.bind_some, if_pos rfl, show (⟨#[115, 116, 97, 103, 101]⟩ : ByteArray) = stageB from rfl, check_stage _ _ (by omega), Option.bind_some]
  by_cases c1 : (l1.length : Int) > 40
  · exact ⟨70, by rw [start _ (by omega), if_pos c1]; exact hj0 _ (by omega)⟩
  by_cases c2 : checkOf B5 l0 = 0
  · by_cases c3 : dt < 1
    · exact ⟨70, by rw [start _ (by omega), if_neg c1, if_pos c2, if_pos c3]; exact hj0 _ (by omega)⟩
    · by_cases c4 : dt > 86400
      · exact ⟨70, by rw [start _ (by omega), if_neg c1, if_pos c2, if_neg c3, decide_eq_true c4]; exact hj0 _ (by omega)⟩
      · obtain ⟨n, up, dn, ud, dd, e, hp⟩ := check5 c2
        subst e
        obtain ⟨K, hK⟩ := delays_l0 c2 hp (by omega : 1 ≤ dt) (by omega) (by omega : l1.length ≤ 40) l1.length 0 (by omega) (fun j hj => by omega)
        refine ⟨K + 71, ?_⟩
        rw [start _ (by omega), if_neg c1, if_pos c2, if_neg c3, decide_eq_false c4]
        obtain ⟨k, hk⟩ : ∃ m, K + 71 = m + 1 := ⟨K + 70, by omega⟩
        rw [hk]
        simp only [plenumlaw21_SequencerDelays.j0]
        rw [if_neg (by simp)]
        exact hK k (by omega)
  · exact ⟨70, by rw [start _ (by omega), if_neg c1, if_neg c2]; exact hj0 _ (by omega)⟩
end Go.Proofs.YtcpncmjjbfbdhaaDoor.Pure
