/-
  PLAIN LAWS OF THE TIMERS, 8: Settle and the reference's Settle tell the same, where the steps come to an end.
-/
import Derived.Test.YtjjbdgngncgikaaGreatDoorTm7
import Derived.Test.YtjjbdgngncgikaaGreatDoorRx9
import Derived.Test.YtjjbdgngncgikaaGreatDoorRx10
import Derived.Test.YtjjbdgngncgikaaGreatDoorRx11
import Derived.Test.YtjjbdgngncgikaaGreatDoorRx15
import Derived.Test.YtjjbdgngncgikaaGreatDoorRx16
import Derived.Test.YtjjbdgngncgikaaGreatDoorRx19
namespace Go.Proofs.YtjjbdgngncgikaaGreatDoor.Tm
open Go Go.RowKit Go.Proofs.YtjjbdgngncgikaaGreatDoor.R Go.Proofs.YtjjbdgngncgikaaGreatDoorW.PrintWords Go.Proofs.YtjjbdgngncgikaaGreatDoorW.PrintMore

set_option linter.unusedVariables false
set_option linter.unusedSimpArgs false
theorem equal_l0 (a b : List Int) (hl : a.length = b.length) (h5 : a.length ≤ 5) : ∀ (d i k : Nat), i + d = a.length → d < k → slices_Equal_int64_int64.l0 k a b (a.length : Int) (i : Int) = some (decide (a.drop i = b.drop i))
  | 0, i, k, hd, hk => by
    obtain ⟨k, rfl⟩ : ∃ m, k = m + 1 := ⟨k - 1, by omega⟩
    simp only [slices_Equal_int64_int64.l0]
    rw [if_neg (by omega), List.drop_eq_nil_of_le (by omega), List.drop_eq_nil_of_le (by omega)]
    simp
  | d + 1, i, k, hd, hk => by
    obtain ⟨k, rfl⟩ : ∃ m, k = m + 1 := ⟨k - 1, by omega⟩
    have ih := equal_l0 a b hl h5 d (i + 1) k (by omega) (by omega)
    simp only [slices_Equal_int64_int64.l0]
    rw [if_pos (by omega), if_pos (by omega), if_pos (by omega), if_pos (by omega), rdI a i (by omega), rdI b i (by omega), wrap_id (by omega) (by omega), show (i : Int) + 1 = ((i + 1 : Nat) : Int) by omega, ih]
    rw [List.drop_eq_getElem_cons (i := i) (l := a) (by omega), List.drop_eq_getElem_cons (i := i) (l := b) (by omega)]
    by_cases c : a[i] = b[i]
    · rw [if_pos c]; congr 1; apply decide_eq_decide.2; rw [List.cons.injEq]; exact ⟨fun h => ⟨c, h⟩, fun h => h.2⟩
    · rw [if_neg c, decide_eq_false (fun h => c (List.cons.inj h).1)]
theorem equal_f (a b : List Int) (hl : a.length = b.length) (h5 : a.length ≤ 5) (k : Nat) (hk : 20 ≤ k) : slices_Equal_int64_int64.f k a b = some (decide (a = b)) := by
  unfold slices_Equal_int64_int64.f
  rw [if_pos (by omega)]
  have := equal_l0 a b hl h5 a.length 0 k (by omega) (by omega)
  rw [List.drop_zero, List.drop_zero, show ((0 : Nat) : Int) = 0 from rfl] at this
  exact this
theorem clone_f (a : List Int) (h0 : 0 < a.length) (h5 : a.length ≤ 5) : slices_Clone_int64_int64.f a = some a := by
  unfold slices_Clone_int64_int64.f
  rw [if_pos ⟨h0, by omega⟩]
def gs (nm : ByteArray) (l : List Int) (r : List S26) (s : List Int) : Int × Int × List Int := (timer_step.f 60 nm l s r 1).getD (0, 0, [])
def VS (nm : ByteArray) (l : List Int) (n : Nat) (s : List Int) : Prop := s.length = n ∧ timer_possible.f nm l s = some true
section
variable {nm : ByteArray} {B : List (Int × Int)} {T : List Bool} {n : Nat} (b : RB nm B T n) (c : Blk nm B T n) {l : List Int} {r : List S26} (hg : goodP nm B l) (hr : inpE T r = 0)
include b hg hr
theorem gs_ok (s : List Int) (hs : VS nm l n s) : (∀ k, 60 ≤ k → timer_step.f k nm l s r 1 = some (gs nm l r s)) ∧ VS nm l n (gs nm l r s).2.2 ∧ ∀ k, 80 ≤ k → plenumref19_Step.f k nm l s r 1 = some ((gs nm l r s).2.2, (gs nm l r s).1, (gs nm l r s).2.1, 0) := by
  have hr1 : r.length = T.length := by
    unfold inpE at hr; split at hr
    · assumption
    · omega
  have hi2 : inp T r = 0 := by unfold inpE at hr; rw [if_pos hr1] at hr; exact hr
  obtain ⟨s', kd, x, q1, q2, q3, q4⟩ := b.step l s r 1 60 (by omega) hg hs.1 hs.2 (by omega) (by omega) hr1 hi2
  have e : gs nm l r s = (kd, x, s') := by unfold gs; rw [q1]; rfl
  rw [e]
  refine ⟨fun k hk => at_rounds (timer_step.mono _ _ _ _ _) hk q1, ⟨q3, q4⟩, fun k hk => ?_⟩
  have h1 := hs.1
  rw [rstep_f b l s r 1 k (by omega), if_pos hg, if_pos (by omega), hs.2, Option.bind_some, if_pos ⟨rfl, by omega, by omega⟩, if_pos hr, at_rounds (plenumref19_step.mono _ _ _ _ _) (by omega : 60 ≤ k) q2]
  rfl
omit b hg hr in
theorem l1_ok (x0 : ByteArray) (x1 : List Int) (x3 : List S26) (at_ q i v0 v1 : Int) (s t : List Int) (hs : s.length = t.length) (h5 : t.length ≤ 5) (K : Nat) (R : Int × Int × Int × Int) (hR : t ≠ s → ∀ k, K ≤ k → plenumref19_Settle.l0 k x0 x1 x3 t at_ q (wrap64 (i + 1)) v0 v1 = some R) : ∀ (d j k : Nat) (m : Bool), j + d = t.length → K + d < k → (m = true ↔ t.take j = s.take j) →
    plenumref19_Settle.l1 k x0 x1 x3 s at_ q i t m (j : Int) v0 v1 = some (if t = s then (v0, v1, at_, 0) else R)
  | 0, j, k, m, hd, hk, hm => by
    obtain ⟨k, rfl⟩ : ∃ u, k = u + 1 := ⟨k - 1, by omega⟩
    obtain rfl : j = t.length := by omega
    rw [List.take_of_length_le (by omega), List.take_of_length_le (by omega)] at hm
    simp only [plenumref19_Settle.l1]
    rw [if_neg (by omega)]
    by_cases e : t = s
    · rw [if_pos (hm.2 e), if_pos e]
    · rw [if_neg (fun h => e (hm.1 h)), if_neg e]; exact hR e k (by omega)
  | d + 1, j, k, m, hd, hk, hm => by
    obtain ⟨k, rfl⟩ : ∃ u, k = u + 1 := ⟨k - 1, by omega⟩
    have ih := fun m' => l1_ok x0 x1 x3 at_ q i v0 v1 s t hs h5 K R hR d (j + 1) k m' (by omega) (by omega)
    have tk : (t.take (j + 1) = s.take (j + 1)) ↔ (t.take j = s.take j ∧ t[j]'(by omega) = s[j]'(by omega)) := by
      rw [← List.take_append_getElem (show j < t.length by omega), ← List.take_append_getElem (show j < s.length by omega)]
      constructor
      · intro h
        have := List.append_inj h (by rw [List.length_take, List.length_take]; omega)
        exact ⟨this.1, (List.cons.inj this.2).1⟩
      · rintro ⟨h1, h2⟩; rw [h1, h2]
    simp only [plenumref19_Settle.l1]
    rw [if_pos (by omega), wrap_id (x := (j : Int) + 1) (by omega) (by omega), show (j : Int) + 1 = ((j + 1 : Nat) : Int) by omega]
    cases m
    · rw [if_neg (show ¬ (false = true) by simp)]
      exact ih false ⟨fun h => absurd h (by simp), fun h => absurd (hm.2 (tk.1 h).1) (by simp)⟩
    · rw [if_pos rfl, if_pos (by omega), if_pos (by omega), rdI t j (by omega), rdI s j (by omega)]
      refine ih _ ⟨fun h => tk.2 ⟨hm.1 rfl, by simpa using h⟩, fun h => by simpa using (tk.1 h).2⟩
include c in
theorem settle_loop (hn : 0 < n) (μ : List Int → Nat) (hμ : ∀ s, VS nm l n s → μ s ≤ 700 ∧ ((gs nm l r s).2.2 ≠ s → μ (gs nm l r s).2.2 < μ s)) : ∀ (m : Nat) (s0 s : List Int) (f q i : Int), μ s ≤ m → VS nm l n s0 → VS nm l n s → s = (gs nm l r s0).2.2 → 0 ≤ q → q + m ≤ 2000 → 0 ≤ i → i + m ≤ 10000 →
    ∃ R, (∀ k, 100 + 120 * m ≤ k → timer_Settle.l0 k nm l s0 r s f i (gs nm l r s0).1 (gs nm l r s0).2.1 = some R) ∧ (∀ k, 100 + 120 * m ≤ k → plenumref19_Settle.l0 k nm l r s f q i (gs nm l r s0).1 (gs nm l r s0).2.1 = some R)
  | m, s0, s, f, q, i, hm, h0, hs, he, hq, hqm, hi, him => by
    have hn5 : n ≤ 5 := by have := c.n5; omega
    obtain ⟨g1, g2, g3⟩ := gs_ok b hg hr s hs
    obtain ⟨u, hu⟩ : ∃ u, gs nm l r s = u := ⟨_, rfl⟩
    obtain ⟨u0, hu0⟩ : ∃ u, gs nm l r s0 = u := ⟨_, rfl⟩
    rw [hu] at g1 g2 g3
    rw [hu0] at he
    rw [hu0]
    have hss := hs.1
    have hs0 := h0.1
    have h22 := g2.1
    -- what both do with one step more
    have hw : ∀ (X Y : Option (Int × Int × Int × Int)), (if (!(u.1 == u0.1) || !(u.2.1 == u0.2.1)) = true then X else Y) = if (u.1, u.2.1) = (u0.1, u0.2.1) then Y else X := by
      intro X Y
      by_cases e : (u.1, u.2.1) = (u0.1, u0.2.1)
      · have e1 := (Prod.mk.inj e).1
        have e2 := (Prod.mk.inj e).2
        rw [if_pos e, if_neg (by rw [e1, e2]; simp)]
      · rw [if_neg e, if_pos]
        by_cases e1 : u.1 = u0.1
        · have : u.2.1 ≠ u0.2.1 := fun e2 => e (by rw [e1, e2])
          simp [this]
        · simp [e1]
    by_cases hss0 : s = s0
    · -- the fixed point, at the very beginning
      subst hss0
      rw [hu] at hu0
      subst hu0
      refine ⟨(u.1, u.2.1, f, 0), fun k hk => ?_, fun k hk => ?_⟩
      · obtain ⟨k, rfl⟩ : ∃ m, k = m + 1 := ⟨k - 1, by omega⟩
        simp only [timer_Settle.l0]
        rw [equal_f s s rfl (by omega) k (by omega), Option.bind_some, if_pos (by simp)]
      · obtain ⟨k, rfl⟩ : ∃ m, k = m + 2 := ⟨k - 2, by omega⟩
        simp only [plenumref19_Settle.l0, plenumref19_Settle.j1]
        rw [if_pos (by omega), g3 _ (by omega), Option.bind_some, hw, if_pos rfl]
        rw [show (((u.2.2).length : Int) == (s.length : Int)) = true from beq_iff_eq.2 (by omega)]
        have := l1_ok nm l r f (wrap64 (q + 1)) i u.1 u.2.1 s u.2.2 (by omega) (by omega) 0 (0, 0, 0, 0) (fun h => absurd he.symm h) u.2.2.length 0 k true (by omega) (by omega) (by simp)
        rw [show ((0 : Nat) : Int) = 0 from rfl] at this
        rw [this, if_pos he.symm]
    · have hp : ∀ k, 60 ≤ k → ∀ f', (f' = if (u.1, u.2.1) = (u0.1, u0.2.1) then f else i) → ∀ R, (timer_Settle.l0 k nm l s r u.2.2 f' (i + 1) u.1 u.2.1 = R) → timer_Settle.l0 (k + 1) nm l s0 r s f i u0.1 u0.2.1 = R := by
        intro k hk f' hf' R hR
        simp only [timer_Settle.l0]
        rw [equal_f s s0 (by omega) (by omega) k (by omega), Option.bind_some, if_neg (by simpa using hss0), clone_f s (by omega) (by omega), Option.bind_some, g1 k (by omega), Option.bind_some, hw, wrap_id (by omega) (by omega)]
        by_cases e : (u.1, u.2.1) = (u0.1, u0.2.1)
        · rw [if_pos e] at hf' ⊢
          rw [← (Prod.mk.inj e).1, ← (Prod.mk.inj e).2]
          subst hf'
          exact hR
        · rw [if_neg e] at hf' ⊢
          subst hf'
          exact hR
      have hrf : ∀ f' q', (f' = if (u.1, u.2.1) = (u0.1, u0.2.1) then f else i) → (q' = if (u.1, u.2.1) = (u0.1, u0.2.1) then q + 1 else 1) → ∀ K R, (u.2.2 ≠ s → ∀ k, K ≤ k → plenumref19_Settle.l0 k nm l r u.2.2 f' q' (i + 1) u.1 u.2.1 = some R) → ∀ k, K + 100 ≤ k → plenumref19_Settle.l0 k nm l r s f q i u0.1 u0.2.1 = some (if u.2.2 = s then (u.1, u.2.1, f', 0) else R) := by
        intro f' q' hf' hq' K R hR k hk
        obtain ⟨k, rfl⟩ : ∃ m, k = m + 2 := ⟨k - 2, by omega⟩
        simp only [plenumref19_Settle.l0, plenumref19_Settle.j1]
        rw [if_pos (by omega), g3 _ (by omega), Option.bind_some, hw]
        rw [show (((u.2.2).length : Int) == (s.length : Int)) = true from beq_iff_eq.2 (by omega)]
        have key := l1_ok nm l r f' q' i u.1 u.2.1 s u.2.2 (by omega) (by omega) K R (fun h k hk => by rw [wrap_id (by omega) (by omega)]; exact hR h k hk) u.2.2.length 0 k true (by omega) (by omega) (by simp)
        rw [show ((0 : Nat) : Int) = 0 from rfl] at key
        by_cases e : (u.1, u.2.1) = (u0.1, u0.2.1)
        · rw [if_pos e] at hf' hq' ⊢
          rw [← (Prod.mk.inj e).1, ← (Prod.mk.inj e).2, wrap_id (by omega) (by omega)]
          subst hf' hq'
          exact key
        · rw [if_neg e] at hf' hq' ⊢
          rw [show wrap64 (0 + 1) = 1 from wrap_id (by omega) (by omega)]
          subst hf' hq'
          exact key
      obtain ⟨f', hf'⟩ : ∃ f', f' = if (u.1, u.2.1) = (u0.1, u0.2.1) then f else i := ⟨_, rfl⟩
      obtain ⟨q', hq'⟩ : ∃ q', q' = if (u.1, u.2.1) = (u0.1, u0.2.1) then q + 1 else 1 := ⟨_, rfl⟩
      by_cases hfix : u.2.2 = s
      · refine ⟨(u.1, u.2.1, f', 0), fun k hk => ?_, fun k hk => ?_⟩
        · obtain ⟨k, rfl⟩ : ∃ m, k = m + 2 := ⟨k - 2, by omega⟩
          refine hp (k + 1) (by omega) f' hf' _ ?_
          simp only [timer_Settle.l0]
          rw [equal_f u.2.2 s (by omega) (by omega) k (by omega), Option.bind_some, if_pos (by simpa using hfix)]
        · have := hrf f' q' hf' hq' 0 (0, 0, 0, 0) (fun h => absurd hfix h) k (by omega)
          rw [if_pos hfix] at this
          exact this
      · have hμs := hμ s hs
        rw [hu] at hμs
        have hlt := hμs.2 hfix
        obtain ⟨m, rfl⟩ : ∃ m', m = m' + 1 := ⟨m - 1, by omega⟩
        have hq2 : 0 ≤ q' ∧ q' ≤ q + 1 := by rw [hq']; split <;> omega
        obtain ⟨R, r1, r2⟩ := settle_loop hn μ hμ m s u.2.2 f' q' (i + 1) (by omega) hs g2 (by rw [hu]) (by omega) (by omega) (by omega) (by omega)
        rw [hu] at r1 r2
        refine ⟨R, fun k hk => ?_, fun k hk => ?_⟩
        · obtain ⟨k, rfl⟩ : ∃ m, k = m + 1 := ⟨k - 1, by omega⟩
          exact hp k (by omega) f' hf' _ (r1 k (by omega))
        · have := hrf f' q' hf' hq' (100 + 120 * m) R (fun _ => r2) k (by omega)
          rw [if_neg hfix] at this
          exact this
end
end Go.Proofs.YtjjbdgngncgikaaGreatDoor.Tm
