/-
  PLAIN LAWS OF THE SEQUENCER: what Check, the block stage and Step come to, in numbers.
-/
import Derived.Test.YtcpncmjjbfbdhaaDoorRx0
import Derived.Test.YtcpncmjjbfbdhaaDoorRx4
import Derived.Test.YtcpncmjjbfbdhaaDoorRx5
import Derived.Test.YtcpncmjjbfbdhaaDoorRx6
import Derived.Test.YtcpncmjjbfbdhaaDoorRx10
namespace Go.Proofs.YtcpncmjjbfbdhaaDoor.Sq
open Go Go.RowKit Go.Proofs.YtcpncmjjbfbdhaaDoor.R Go.Proofs.YtcpncmjjbfbdhaaDoorW.PrintWords Go.Proofs.YtcpncmjjbfbdhaaDoorW.PrintMore

set_option linter.unusedVariables false
set_option linter.unusedSimpArgs false
def stageB : ByteArray := ⟨#[115, 116, 97, 103, 101]⟩
def stepsB : ByteArray := ⟨#[115, 116, 101, 112, 115]⟩
theorem stageB_l : stageB.toList = ([115, 116, 97, 103, 101] : List UInt8) := by kernel_rfl
theorem stepsB_l : stepsB.toList = ([115, 116, 101, 112, 115] : List UInt8) := by kernel_rfl
theorem wrap_id {x : Int} (h : -9223372036854775808 ≤ x) (h2 : x ≤ 9223372036854775807) : wrap64 x = x := by unfold wrap64; omega
theorem lt_or_ge (a b : Int) : a < b ∨ b ≤ a := by omega
theorem mx_max (a b : Int) : mx a b = max a b := by unfold mx; omega
theorem mn_min (a b : Int) : mn a b = min a b := by unfold mn; omega

def B5 : List (Int × Int) := [(1, 15), (-1000000000000, 1000000000000), (-1000000000000, 1000000000000), (0, 86400), (0, 86400)]
def B2 : List (Int × Int) := [(1, 15), (0, 86400)]
def bd (b : S61) : Int × Int := (b.f1, b.f2)
theorem find_stage0 : (block_Find.f 40 stageB).map (fun p => (p.2.1.map bd, p.2.2.2.2.2.2)) = some (B5, 0) := by kernel_rfl
theorem find_steps0 : (block_Find.f 40 stepsB).map (fun p => (p.2.1.map bd, p.2.2.2.2.2.2)) = some (B2, 0) := by kernel_rfl
theorem find_at {nm : ByteArray} {B : List (Int × Int)} (h : (block_Find.f 40 nm).map (fun p => (p.2.1.map bd, p.2.2.2.2.2.2)) = some (B, 0)) : ∃ D, D.2.1.map bd = B ∧ D.2.2.2.2.2.2 = 0 ∧ ∀ k, 40 ≤ k → block_Find.f k nm = some D := by
  obtain ⟨D, h1, h2⟩ := Option.map_eq_some_iff.1 h
  simp only [Prod.mk.injEq] at h2
  exact ⟨D, h2.1, h2.2, fun k hk => at_rounds (block_Find.mono _) hk h1⟩
/-- The first fault of numbers in their bounds: 0 or 6. -/
def chk : List (Int × Int) → List Int → Int
  | b :: bs, p :: ps => if p < b.1 then 6 else if p > b.2 then 6 else chk bs ps
  | _, _ => 0
theorem rdT (bs : List S61) (i : Nat) (h : i < bs.length) : rd_T61 bs i = bs[i] := by
  unfold rd_T61; rw [Int.toNat_natCast, List.getD_eq_getElem?_getD, List.getElem?_eq_getElem h]; rfl
theorem rdI (l : List Int) (i : Nat) (h : i < l.length) : rd l i = l[i] := by
  unfold rd; rw [Int.toNat_natCast, List.getD_eq_getElem?_getD, List.getElem?_eq_getElem h]; rfl
theorem chk_at (bs : List S61) (l : List Int) (i : Nat) (h : i < bs.length) (h2 : i < l.length) : chk ((bs.map bd).drop i) (l.drop i) = if l[i] < bs[i].f1 then 6 else if l[i] > bs[i].f2 then 6 else chk ((bs.map bd).drop (i + 1)) (l.drop (i + 1)) := by
  rw [List.drop_eq_getElem_cons (i := i) (l := l) h2, List.drop_eq_getElem_cons (i := i) (l := bs.map bd) (by simpa using h)]
  simp only [chk, List.getElem_map]
  rfl
theorem check_l0 (bs : List S61) (l : List Int) (hl : l.length = bs.length) (hn : bs.length ≤ 100) : ∀ (d i k : Nat), i + d = bs.length → d < k → sequencer_Check.l0 k l bs (bs.length : Int) (i : Int) = some (chk ((bs.map bd).drop i) (l.drop i))
  | 0, i, k, hd, hk => by
    obtain ⟨k, rfl⟩ : ∃ m, k = m + 1 := ⟨k - 1, by omega⟩
    simp only [sequencer_Check.l0]
    rw [if_neg (by omega), List.drop_eq_nil_of_le (by simp; omega)]
    simp [chk]
  | d + 1, i, k, hd, hk => by
    obtain ⟨k, rfl⟩ : ∃ m, k = m + 1 := ⟨k - 1, by omega⟩
    have ih := check_l0 bs l hl hn d (i + 1) k (by omega) (by omega)
    simp only [sequencer_Check.l0]
    rw [if_pos (by omega), if_pos (by omega), if_pos (by omega), if_pos (by omega), rdI l i (by omega), rdT bs i (by omega), chk_at bs l i (by omega) (by omega)]
    rw [wrap_id (by omega) (by omega), show (i : Int) + 1 = ((i + 1 : Nat) : Int) by omega, ih]
    split
    · rfl
    · split <;> rfl
def checkOf (B : List (Int × Int)) (l : List Int) : Int := if l.length = B.length then chk B l else 1
theorem check_j0 {nm : ByteArray} {B : List (Int × Int)} (hB : B.length ≤ 5) (h : (block_Find.f 40 nm).map (fun p => (p.2.1.map bd, p.2.2.2.2.2.2)) = some (B, 0)) (l : List Int) (k : Nat) (hk : 50 ≤ k) : sequencer_Check.j0 k nm l false = some (checkOf B l) := by
  obtain ⟨k, rfl⟩ : ∃ m, k = m + 1 := ⟨k - 1, by omega⟩
  obtain ⟨D, h1, h2, h3⟩ := find_at h
  have hlen : D.2.1.length = B.length := by rw [← h1, List.length_map]
  simp only [sequencer_Check.j0]
  rw [if_neg (by simp), h3 k (by omega)]
  simp only [Option.bind_some, h2, if_true]
  unfold checkOf
  by_cases e : l.length = B.length
  · rw [if_pos e, if_pos (by omega)]
    have := check_l0 D.2.1 l (by omega) (by omega) D.2.1.length 0 k (by omega) (by omega)
    rw [h1] at this
    simpa using this
  · rw [if_neg e, if_neg (by omega)]
theorem check_stage (l : List Int) (k : Nat) (hk : 50 ≤ k) : sequencer_Check.f k stageB l = some (checkOf B5 l) := by
  unfold sequencer_Check.f
  rw [if_pos stageB_l]
  exact check_j0 (by decide) find_stage0 l k hk
theorem check_steps (l : List Int) (k : Nat) (hk : 50 ≤ k) : sequencer_Check.f k stepsB l = some (checkOf B2 l) := by
  unfold sequencer_Check.f
  rw [if_neg (by rw [stepsB_l]; decide), stepsB_l]
  exact check_j0 (by decide) find_steps0 l k hk
/-- Parameters of the block stage that are right. -/
structure P5 (n up dn ud dd : Int) : Prop where
  n1 : 1 ≤ n
  n2 : n ≤ 15
  u1 : -1000000000000 ≤ up
  u2 : up ≤ 1000000000000
  d1 : -1000000000000 ≤ dn
  d2 : dn ≤ 1000000000000
  a1 : 0 ≤ ud
  a2 : ud ≤ 86400
  b1 : 0 ≤ dd
  b2 : dd ≤ 86400
theorem check5 {l : List Int} (h : checkOf B5 l = 0) : ∃ n up dn ud dd, l = [n, up, dn, ud, dd] ∧ P5 n up dn ud dd := by
  unfold checkOf at h
  split at h
  · rename_i hl
    match l, hl with
    | [n, up, dn, ud, dd], _ =>
      simp only [B5, chk] at h
      refine ⟨n, up, dn, ud, dd, rfl, ?_⟩
      repeat' (split at h)
      all_goals (first | (exfalso; omega) | constructor <;> omega)
  · omega
theorem check2 {l : List Int} (h : checkOf B2 l = 0) : ∃ n ls, l = [n, ls] ∧ 1 ≤ n ∧ n ≤ 15 ∧ 0 ≤ ls ∧ ls ≤ 86400 := by
  unfold checkOf at h
  split at h
  · rename_i hl
    match l, hl with
    | [n, ls], _ =>
      simp only [B2, chk] at h
      refine ⟨n, ls, rfl, ?_⟩
      repeat' (split at h)
      all_goals (first | (exfalso; omega) | omega)
  · omega

def stg (n up dn ud dd x dt : Int) (s t : Int) : Int × Int :=
  if x > up ∧ s < n then (if max t 0 + dt ≥ ud then (s + 1, 0) else (s, max t 0 + dt))
  else if x < dn ∧ s > 0 then (if dt - min t 0 ≥ dd then (s - 1, 0) else (s, min t 0 - dt))
  else (s, 0)
structure VS (n s t : Int) : Prop where
  s1 : 0 ≤ s
  s2 : s ≤ n
  t1 : -6311433599 ≤ t
  t2 : t ≤ 6311433599
theorem stg_vs {n up dn ud dd x dt s t : Int} (hp : P5 n up dn ud dd) (hv : VS n s t) (h1 : 1 ≤ dt) (h2 : dt ≤ 86400) : VS n (stg n up dn ud dd x dt s t).1 (stg n up dn ud dd x dt s t).2 := by
  obtain ⟨n1, n2, u1, u2, d1, d2, a1, a2, b1, b2⟩ := hp
  obtain ⟨s1, s2, t1, t2⟩ := hv
  unfold stg
  repeat' split
  all_goals (constructor <;> simp only <;> omega)
theorem stage_f {n up dn ud dd x dt s t : Int} (hp : P5 n up dn ud dd) (hv : VS n s t) (h1 : 1 ≤ dt) (h2 : dt ≤ 86400) (k : Nat) (hk : 2 ≤ k) :
    sequencer_stage.f k [n, up, dn, ud, dd] [s, t] x dt = some [(stg n up dn ud dd x dt s t).1, (stg n up dn ud dd x dt s t).2] := by
  obtain ⟨n1, n2, u1, u2, d1, d2, a1, a2, b1, b2⟩ := hp
  obtain ⟨s1, s2, t1, t2⟩ := hv
  obtain ⟨k, rfl⟩ : ∃ m, k = m + 2 := ⟨k - 2, by omega⟩
  have e0 : rd [n, up, dn, ud, dd] 0 = n := rfl
  have e1 : rd [n, up, dn, ud, dd] 1 = up := rfl
  have e2 : rd [n, up, dn, ud, dd] 2 = dn := rfl
  have e3 : rd [n, up, dn, ud, dd] 3 = ud := rfl
  have e4 : rd [n, up, dn, ud, dd] 4 = dd := rfl
  have f0 : rd [s, t] 0 = s := rfl
  have f1 : rd [s, t] 1 = t := rfl
  unfold sequencer_stage.f
  rw [if_pos (by simp), if_pos (by simp), if_pos (by simp), if_pos (by simp), if_pos (by simp), if_pos (by simp), if_pos (by simp), e0, e1, e2, e3, e4, f0, f1]
  simp only [sequencer_stage.j0, sequencer_stage.j1, mx_max, mn_min, decide_eq_true_eq]
  unfold stg
  have w1 : wrap64 (max t 0 + dt) = max t 0 + dt := wrap_id (by omega) (by omega)
  have w2 : wrap64 (min t 0 - dt) = min t 0 - dt := wrap_id (by omega) (by omega)
  have w3 : wrap64 (-(min t 0 - dt)) = -(min t 0 - dt) := wrap_id (by omega) (by omega)
  have w4 : wrap64 (s + 1) = s + 1 := wrap_id (by omega) (by omega)
  have w5 : wrap64 (s - 1) = s - 1 := wrap_id (by omega) (by omega)
  rw [w1, w2, w3, w4, w5]
  by_cases c1 : x > up
  · rw [if_pos c1]
    by_cases c2 : s < n
    · rw [if_pos c2, if_pos (⟨c1, c2⟩ : x > up ∧ s < n)]
      by_cases c3 : max t 0 + dt ≥ ud
      · rw [if_pos c3, if_pos c3]
      · rw [if_neg c3, if_neg c3]
        rw [show max (-6311433599) (min 6311433599 (max t 0 + dt)) = max t 0 + dt by omega]
    · rw [if_neg c2, if_neg (show ¬ (x > up ∧ s < n) from fun h => c2 h.2)]
      by_cases c4 : x < dn
      · rw [if_pos c4]
        by_cases c5 : s > 0
        · rw [if_pos c5, if_pos (⟨c4, c5⟩ : x < dn ∧ s > 0)]
          by_cases c6 : dt - min t 0 ≥ dd
          · rw [if_pos (by omega), if_pos c6]
          · rw [if_neg (by omega), if_neg c6, show max (-6311433599) (min 6311433599 (min t 0 - dt)) = min t 0 - dt by omega]
        · rw [if_neg c5, if_neg (show ¬ (x < dn ∧ s > 0) from fun h => c5 h.2)]
      · rw [if_neg c4, if_neg (show ¬ (x < dn ∧ s > 0) from fun h => c4 h.1), if_neg (show ¬ (false = true) by simp)]
  · rw [if_neg c1, if_neg (show ¬ (x > up ∧ s < n) from fun h => c1 h.1), if_neg (show ¬ (false = true) by simp)]
    by_cases c4 : x < dn
    · rw [if_pos c4]
      by_cases c5 : s > 0
      · rw [if_pos c5, if_pos (⟨c4, c5⟩ : x < dn ∧ s > 0)]
        by_cases c6 : dt - min t 0 ≥ dd
        · rw [if_pos (by omega), if_pos c6]
        · rw [if_neg (by omega), if_neg c6, show max (-6311433599) (min 6311433599 (min t 0 - dt)) = min t 0 - dt by omega]
      · rw [if_neg c5, if_neg (show ¬ (x < dn ∧ s > 0) from fun h => c5 h.2)]
    · rw [if_neg c4, if_neg (show ¬ (x < dn ∧ s > 0) from fun h => c4 h.1), if_neg (show ¬ (false = true) by simp)]
theorem awake_f (k : Nat) (hk : 60 ≤ k) : plenumlaw21_awake.f k = some true := at_rounds plenumlaw21_awake.mono hk (by kernel_rfl)
theorem seconds_f (dt : Int) : sequencer_seconds.f dt = some (decide (1 ≤ dt ∧ dt ≤ 86400)) := by
  unfold sequencer_seconds.f
  by_cases h : dt ≥ 1
  · rw [if_pos h]; congr 1; apply decide_eq_decide.2; omega
  · rw [if_neg h]; symm; congr 1; exact decide_eq_false (by omega)
end Go.Proofs.YtcpncmjjbfbdhaaDoor.Sq
