/-
  TimerCounts: the output of count is the number of edges of a since the last step with reset, and the output of latch is that of the last set or reset, of both at once reset: the plain law.
-/
import Derived.Test.YtjjbdgngncgikaaDoorTm3
import Derived.Test.YtjjbdgngncgikaaDoorRx0
import Derived.Test.YtjjbdgngncgikaaDoorRx19
import Derived.Test.YtjjbdgngncgikaaDoorRx29
namespace Go.Proofs.YtjjbdgngncgikaaDoor.Pure
open Go Go.RowKit Go.Proofs.YtjjbdgngncgikaaDoor.R Go.Proofs.YtjjbdgngncgikaaDoor.Tm Go.Proofs.YtjjbdgngncgikaaDoorW.PrintWords Go.Proofs.YtjjbdgngncgikaaDoorW.PrintMore
set_option linter.unusedVariables false
set_option linter.unusedSimpArgs false

def bothR (l r : List Bool) : List (List S32) := (List.range l.length).map fun i => [bv (l.getD i false), bv (r.getD i false)]
theorem bothR_len (l r : List Bool) : (bothR l r).length = l.length := by rw [bothR, List.length_map, List.length_range]
theorem bothR_get (l r : List Bool) (i : Nat) (h : i < (bothR l r).length) : (bothR l r)[i] = [bv (l.getD i false), bv (r.getD i false)] := by simp [bothR]
/-- The count and the latch behind so many steps. -/
def cn (l r : List Bool) : Nat → Int
  | 0 => 0
  | i + 1 => if r.getD i false = true then 0 else cn l r i + bitv (ris l i)
def la (l r : List Bool) : Nat → Bool
  | 0 => false
  | i + 1 => if r.getD i false = true then false else (la l r i || l.getD i false)
theorem cn_wf (l r : List Bool) : ∀ i, 0 ≤ cn l r i ∧ cn l r i ≤ i
  | 0 => by simp [cn]
  | i + 1 => by
    have := cn_wf l r i
    have w := bitv_wf (ris l i)
    unfold cn
    split <;> omega
theorem cnt_step (l r : List Bool) (i : Nat) (h : i ≤ 1000) : cntS (bitv (pv l i)) (cn l r i) (l.getD i false) (r.getD i false) = cn l r (i + 1) := by
  have w := cn_wf l r i
  have e : (l.getD i false = true ∧ bitv (pv l i) = 0) = (ris l i = true) := by
    unfold ris
    cases l.getD i false <;> cases pv l i <;> simp [bitv]
  unfold cntS
  simp only [e]
  rw [cn]
  cases hr : r.getD i false
  · rw [if_neg (show ¬ (false = true) by simp), if_neg (show ¬ (false = true) by simp)]
    cases hs : ris l i
    · rw [if_neg (show ¬ (false = true) by simp)]; show cn l r i = cn l r i + 0; omega
    · rw [if_pos rfl]; show _ = cn l r i + 1; omega
  · rw [if_pos rfl, if_pos rfl]
theorem lat_step (l r : List Bool) (i : Nat) : latS (bitv (la l r i)) (l.getD i false) (r.getD i false) = bitv (la l r (i + 1)) := by
  unfold latS
  rw [la]
  cases r.getD i false <;> cases l.getD i false <;> cases la l r i <;> rfl
section
variable {dt : Int} (d1 : 1 ≤ dt) (d2 : dt ≤ 1000) (l r : List Bool) (hl : l.length ≤ 80)
include d1 d2 hl
theorem run_cnt (k : Nat) (hk : 300 ≤ k) : timer_Run.f k countB [] (bothR l r) dt = some ((List.range l.length).map fun i => (⟨1, 1000 * cn l r (i + 1)⟩ : S32), 0) := by
  have := run_seq (n := 2) (K := 70) count_blk (fun h => absurd h nh_cnt) (good_none nh_cnt) (rows := bothR l r) (dt := dt) (by rw [bothR_len]; omega) (fun i => [bitv (pv l i), cn l r i]) (fun i => (⟨1, 1000 * cn l r (i + 1)⟩ : S32)) rfl (fun i h k hk => by
    have w := cn_wf l r i
    rw [bothR_len] at h
    rw [bothR_get, step_cnt d1 (by omega) k hk (bitv_wf _) w.1 (by omega), cnt_step l r i (by omega)]
    rfl) k (by rw [bothR_len]; omega)
  rw [bothR_len] at this
  exact this
theorem run_lat (k : Nat) (hk : 300 ≤ k) : timer_Run.f k latchB [] (bothR l r) dt = some ((List.range l.length).map fun i => bv (la l r (i + 1)), 0) := by
  have := run_seq (n := 1) (K := 70) latch_blk (fun h => absurd h nh_lat) (good_none nh_lat) (rows := bothR l r) (dt := dt) (by rw [bothR_len]; omega) (fun i => [bitv (la l r i)]) (fun i => bv (la l r (i + 1))) rfl (fun i h k hk => by
    rw [bothR_get, step_lat d1 (by omega) k hk (bitv_wf _), lat_step, bitv_one]
    rfl) k (by rw [bothR_len]; omega)
  rw [bothR_len] at this
  exact this
omit d1 d2 in
theorem counts_l1 (A E C : List S32) (hA : A = (List.range l.length).map fun i => (⟨1, 1000 * cn l r (i + 1)⟩ : S32)) (hE : E = (List.range l.length).map fun i => bv (ris l i)) (hC : C = (List.range l.length).map fun i => bv (la l r (i + 1))) (hr : r.length = l.length) : ∀ (d i k : Nat), i + d = l.length → d < k →
    plenumlaw19_TimerCounts.l1 k l r A E C (cn l r i) (la l r i) (i : Int) = some true
  | 0, i, k, hd, hk => by
    obtain ⟨k, rfl⟩ : ∃ m, k = m + 1 := ⟨k - 1, by omega⟩
    simp only [plenumlaw19_TimerCounts.l1]
    rw [if_neg (by omega)]
  | d + 1, i, k, hd, hk => by
    obtain ⟨k, rfl⟩ : ∃ m, k = m + 1 := ⟨k - 1, by omega⟩
    have hi : i < l.length := by omega
    have go := counts_l1 A E C hA hE hC hr d (i + 1) k (by omega) (by omega)
    have hAl : A.length = l.length := by rw [hA, len_range]
    have hEl : E.length = l.length := by rw [hE, len_range]
    have hCl : C.length = l.length := by rw [hC, len_range]
    have rA : rd_T32 A (i : Int) = (⟨1, 1000 * cn l r (i + 1)⟩ : S32) := by rw [hA, rd_range _ _ i hi]
    have rE : rd_T32 E (i : Int) = bv (ris l i) := by rw [hE, rd_range _ _ i hi]
    have rC : rd_T32 C (i : Int) = bv (la l r (i + 1)) := by rw [hC, rd_range _ _ i hi]
    have w := cn_wf l r i
    have w1 := cn_wf l r (i + 1)
    have wb := bitv_wf (ris l i)
    simp only [plenumlaw19_TimerCounts.l1]
    simp only [if_pos (show (0 : Int) ≤ (i : Int) by omega), if_pos (show (i : Int) < (A.length : Int) by omega), if_pos (show (i : Int) < (l.length : Int) by omega), if_pos (show (i : Int) < (r.length : Int) by omega), if_pos (show (i : Int) < (E.length : Int) by omega), if_pos (show (i : Int) < (C.length : Int) by omega), rdG, rA, rE, rC, lbit_f, Option.bind_some]
    rw [wrap_id (x := (i : Int) + 1) (by omega) (by omega), show (i : Int) + 1 = ((i + 1 : Nat) : Int) by omega, show (bv (ris l i)).f1 = bitv (ris l i) from rfl, wrap_id (x := cn l r i + bitv (ris l i)) (by omega) (by omega), wrap_id (x := 1000 * (cn l r i + bitv (ris l i))) (by omega) (by omega)]
    cases hb : r.getD i false
    · have e1 : cn l r (i + 1) = cn l r i + bitv (ris l i) := by rw [cn, hb]; rfl
      have e2 : la l r (i + 1) = (la l r i || l.getD i false) := by rw [la, hb]; rfl
      rw [if_neg (show ¬ (false = true) by simp), ← e1]
      have c1 : (!((1 : Int) == 1) || !(1000 * cn l r (i + 1) == 1000 * cn l r (i + 1))) = false := by simp
      cases hc : la l r i
      · rw [if_neg (show ¬ (false = true) by simp), c1, if_neg (show ¬ (false = true) by simp)]
        rw [hc, Bool.false_or] at e2
        rw [e2, cmp_bv, if_neg (show ¬ (false = true) by simp)]
        rw [e2] at go
        exact go
      · rw [if_pos rfl, c1, if_neg (show ¬ (false = true) by simp)]
        rw [hc, Bool.true_or] at e2
        rw [e2, cmp_bv, if_neg (show ¬ (false = true) by simp)]
        rw [e2] at go
        exact go
    · have e1 : cn l r (i + 1) = 0 := by rw [cn, hb]; rfl
      have e2 : la l r (i + 1) = false := by rw [la, hb]; rfl
      rw [if_pos rfl, e1, show wrap64 0 = 0 from wrap_id (by omega) (by omega), if_neg (by decide), e2, cmp_bv, if_neg (show ¬ (false = true) by simp)]
      rw [e1, e2] at go
      exact go
theorem counts_l0 (hr : r.length = l.length) : ∀ (d i k : Nat) (acc : List (List S32)), i + d = l.length → 400 + d < k → acc = (List.range i).map (fun i => [bv (l.getD i false), bv (r.getD i false)]) →
    plenumlaw19_TimerCounts.l0 k l r dt acc (i : Int) = some true
  | 0, i, k, acc, hd, hk, ha => by
    obtain ⟨k, rfl⟩ : ∃ m, k = m + 2 := ⟨k - 2, by omega⟩
    obtain rfl : i = l.length := by omega
    have ha' : acc = bothR l r := ha
    subst ha'
    simp only [plenumlaw19_TimerCounts.l0]
    rw [if_neg (by omega), show (⟨#[99, 111, 117, 110, 116]⟩ : ByteArray) = countB from rfl, show (⟨#[101, 100, 103, 101]⟩ : ByteArray) = edgeB from rfl, show (⟨#[108, 97, 116, 99, 104]⟩ : ByteArray) = latchB from rfl, run_cnt d1 d2 l r hl _ (by omega), Option.bind_some, on_f l (by omega) _ (by omega), Option.bind_some, run_edg d1 (by omega) l hl _ (by omega), Option.bind_some, run_lat d1 d2 l r hl _ (by omega), Option.bind_some, if_pos rfl, if_pos rfl, if_pos rfl, len_range, len_range, len_range, if_pos rfl, if_pos rfl]
    simp only [plenumlaw19_TimerCounts.j2]
    rw [if_neg (by simp)]
    exact counts_l1 l r hl _ _ _ rfl rfl rfl hr l.length 0 k (by omega) (by omega)
  | d + 1, i, k, acc, hd, hk, ha => by
    obtain ⟨k, rfl⟩ : ∃ m, k = m + 1 := ⟨k - 1, by omega⟩
    have hal : acc.length = i := by rw [ha, List.length_map, List.length_range]
    simp only [plenumlaw19_TimerCounts.l0]
    rw [if_pos (by omega), if_pos (by omega), lbit_f, Option.bind_some, if_pos (by omega), lbit_f, Option.bind_some, if_pos (by omega), rdG, rdG, wrap_id (by omega) (by omega), show (i : Int) + 1 = ((i + 1 : Nat) : Int) by omega]
    refine counts_l0 hr d (i + 1) k _ (by omega) (by omega) ?_
    rw [ha, List.range_succ, List.map_append]
    rfl
end
theorem TimerCounts (l r : List Bool) (dt : Int) (_ : l.length ≤ maxLen) (_ : ∀ x ∈ l, True) (_ : r.length ≤ maxLen) (_ : ∀ x ∈ r, True) (_ : (Lit.int .i64 dt).wf = true) : ∃ k, plenumlaw19_TimerCounts.f k l r dt = some true := by
  have hj0 : ∀ k, plenumlaw19_TimerCounts.j0 (k + 1) l r dt true = some true := by intro k; simp only [plenumlaw19_TimerCounts.j0]; rfl
  refine ⟨1001, ?_⟩
  unfold plenumlaw19_TimerCounts.f
  rw [awake_f _ (by omega), Option.bind_some, if_pos rfl]
  by_cases c1 : (l.length : Int) > 80
  · rw [if_pos c1]; exact hj0 _
  rw [if_neg c1]
  by_cases c2 : (r.length : Int) = (l.length : Int)
  · rw [if_pos c2]
    by_cases c3 : dt < 1
    · rw [if_pos c3]; exact hj0 _
    rw [if_neg c3]
    by_cases c4 : dt > 1000
    · rw [decide_eq_true c4]; exact hj0 _
    rw [decide_eq_false c4]
    simp only [plenumlaw19_TimerCounts.j0]
    rw [if_neg (by simp)]
    exact counts_l0 (by omega) (by omega) l r (by omega) (by omega) l.length 0 1000 [] (by omega) (by omega) rfl
  · rw [if_neg c2]; exact hj0 _
end Go.Proofs.YtjjbdgngncgikaaDoor.Pure
