/-
  PLAIN LAWS OF THE TIMERS, 3: a step of each block at possible states; a run told by its states.
-/
import Derived.Test.YtjjbdgngncgikaaDoorTm2
import Derived.Test.YtjjbdgngncgikaaDoorRx0
import Derived.Test.YtjjbdgngncgikaaDoorRx18
import Derived.Test.YtjjbdgngncgikaaDoorRx19
namespace Go.Proofs.YtjjbdgngncgikaaDoor.Tm
open Go Go.RowKit Go.Proofs.YtjjbdgngncgikaaDoor.R Go.Proofs.YtjjbdgngncgikaaDoorW.PrintWords Go.Proofs.YtjjbdgngncgikaaDoorW.PrintMore

set_option linter.unusedVariables false
set_option linter.unusedSimpArgs false
theorem good_one {nm : ByteArray} {time : Int} (hn : nm.toList ≠ ([104, 121, 115, 116] : List UInt8)) (h1 : 0 ≤ time) (h2 : time ≤ 86400) : goodP nm [DD] [time] := by
  refine ⟨rfl, ?_, fun h => absurd h hn⟩
  show (if time < 0 then (1 : Int) else if time > 86400 then 1 else 0) = 0
  rw [if_neg (by omega), if_neg (by omega)]
theorem good_two {nm : ByteArray} {a b : Int} (hn : nm.toList ≠ ([104, 121, 115, 116] : List UInt8)) (h1 : 0 ≤ a) (h2 : a ≤ 86400) (h3 : 0 ≤ b) (h4 : b ≤ 86400) : goodP nm [DD, DD] [a, b] := by
  refine ⟨rfl, ?_, fun h => absurd h hn⟩
  show (if a < 0 then (1 : Int) else if a > 86400 then 1 else if b < 0 then 1 else if b > 86400 then 1 else 0) = 0
  rw [if_neg (by omega), if_neg (by omega), if_neg (by omega), if_neg (by omega)]
theorem good_none {nm : ByteArray} (hn : nm.toList ≠ ([104, 121, 115, 116] : List UInt8)) : goodP nm [] [] := ⟨rfl, rfl, fun h => absurd h hn⟩
theorem nh_on : ondelayB.toList ≠ ([104, 121, 115, 116] : List UInt8) := by rw [ondelayB_l]; decide
theorem nh_off : offdelayB.toList ≠ ([104, 121, 115, 116] : List UInt8) := by rw [offdelayB_l]; decide
theorem nh_pul : pulseB.toList ≠ ([104, 121, 115, 116] : List UInt8) := by rw [pulseB_l]; decide
theorem nh_min : minrunB.toList ≠ ([104, 121, 115, 116] : List UInt8) := by rw [minrunB_l]; decide
theorem nh_cnt : countB.toList ≠ ([104, 121, 115, 116] : List UInt8) := by rw [countB_l]; decide
theorem nh_edg : edgeB.toList ≠ ([104, 121, 115, 116] : List UInt8) := by rw [edgeB_l]; decide
theorem nh_lat : latchB.toList ≠ ([104, 121, 115, 116] : List UInt8) := by rw [latchB_l]; decide
def bv (b : Bool) : S32 := ⟨2, bitv b⟩
theorem inp1 (a : Bool) : inpE [true] [bv a] = 0 := by cases a <;> rfl
theorem inp2 (a b : Bool) : inpE [true, true] [bv a, bv b] = 0 := by cases a <;> cases b <;> rfl
theorem bitv_wf (b : Bool) : 0 ≤ bitv b ∧ bitv b ≤ 1 := by cases b <;> decide
section
variable {dt : Int} (d1 : 1 ≤ dt) (d2 : dt ≤ 86400) (k : Nat) (hk : 70 ≤ k)
include d1 d2 hk
theorem step_on {time t : Int} (h1 : 0 ≤ time) (h2 : time ≤ 86400) (t1 : 0 ≤ t) (t2 : t ≤ time + 1) (a : Bool) :
    timer_Step.f k ondelayB [time] [t] [bv a] dt = some ([(onS time dt t a).1], 2, bitv (onS time dt t a).2, 0) := by
  obtain ⟨k, rfl⟩ : ∃ m, k = m + 1 := ⟨k - 1, by omega⟩
  rw [step_f ondelay_blk (fun h => absurd h nh_on) _ _ _ _ k (by omega), if_pos (good_one nh_on h1 h2), if_pos (show (([t] : List Int).length : Int) = 1 from rfl), pos_on time t h1 h2, Option.bind_some, if_pos ⟨decide_eq_true ⟨t1, t2⟩, d1, d2⟩, if_pos (inp1 a), bv, f_on time t _ _ dt _ t1 t2 h1 h2 d1 d2, Option.bind_some, bitv_one]
theorem step_off {time t : Int} (h1 : 0 ≤ time) (h2 : time ≤ 86400) (t1 : -1 ≤ t) (t2 : t ≤ time) (a : Bool) :
    timer_Step.f k offdelayB [time] [t] [bv a] dt = some ([(offS time dt t a).1], 2, bitv (offS time dt t a).2, 0) := by
  obtain ⟨k, rfl⟩ : ∃ m, k = m + 1 := ⟨k - 1, by omega⟩
  rw [step_f offdelay_blk (fun h => absurd h nh_off) _ _ _ _ k (by omega), if_pos (good_one nh_off h1 h2), if_pos (show (([t] : List Int).length : Int) = 1 from rfl), pos_off time t, Option.bind_some, if_pos ⟨decide_eq_true ⟨t1, t2⟩, d1, d2⟩, if_pos (inp1 a), bv, f_off time t _ _ dt _ t1 t2 h1 h2 d1 d2, Option.bind_some, bitv_one]
theorem step_pul {time p q : Int} (h1 : 0 ≤ time) (h2 : time ≤ 86400) (p1 : 0 ≤ p ∧ p ≤ 1) (t1 : 0 ≤ q) (t2 : q ≤ time) (a : Bool) :
    timer_Step.f k pulseB [time] [p, q] [bv a] dt = some ([bitv a, (pulS time dt p q a).1], 2, bitv (pulS time dt p q a).2, 0) := by
  obtain ⟨k, rfl⟩ : ∃ m, k = m + 2 := ⟨k - 2, by omega⟩
  rw [step_f pulse_blk (fun h => absurd h nh_pul) _ _ _ _ (k + 1) (by omega), if_pos (good_one nh_pul h1 h2), if_pos (show (([p, q] : List Int).length : Int) = 2 from rfl), pos_pulse time p q, Option.bind_some, if_pos ⟨decide_eq_true ⟨p1, t1, t2⟩, d1, d2⟩, if_pos (inp1 a), bv, f_pul time p q _ _ dt _ t1 t2 h1 h2 d1 d2, Option.bind_some, bitv_one]
theorem step_min {up dn p q : Int} (h1 : 0 ≤ up) (h2 : up ≤ 86400) (h3 : 0 ≤ dn) (h4 : dn ≤ 86400) (p1 : 0 ≤ p ∧ p ≤ 1) (t1 : 0 ≤ q) (t2 : q ≤ (if p = 1 then up else dn)) (a : Bool) :
    timer_Step.f k minrunB [up, dn] [p, q] [bv a] dt = some ([(minS up dn dt p q a).1.1, (minS up dn dt p q a).1.2], 2, bitv (minS up dn dt p q a).2, 0) := by
  obtain ⟨k, rfl⟩ : ∃ m, k = m + 3 := ⟨k - 3, by omega⟩
  have q2 : q ≤ 86400 := by split at t2 <;> omega
  rw [step_f minrun_blk (fun h => absurd h nh_min) _ _ _ _ (k + 2) (by omega), if_pos (good_two nh_min h1 h2 h3 h4), if_pos (show (([p, q] : List Int).length : Int) = 2 from rfl), pos_min up dn p q, Option.bind_some, if_pos ⟨decide_eq_true ⟨p1, t1, t2⟩, d1, d2⟩, if_pos (inp1 a), bv, f_min up dn p q _ _ dt _ t1 q2 d1 d2, Option.bind_some, bitv_one]
theorem step_edg {t : Int} (p1 : 0 ≤ t ∧ t ≤ 1) (a : Bool) :
    timer_Step.f k edgeB [] [t] [bv a] dt = some ([bitv a], 2, bitv (a && t == 0), 0) := by
  obtain ⟨k, rfl⟩ : ∃ m, k = m + 1 := ⟨k - 1, by omega⟩
  rw [step_f edge_blk (fun h => absurd h nh_edg) _ _ _ _ k (by omega), if_pos (good_none nh_edg), if_pos (show (([t] : List Int).length : Int) = 1 from rfl), pos_edge, Option.bind_some, if_pos ⟨decide_eq_true p1, d1, d2⟩, if_pos (inp1 a), bv, f_edge, Option.bind_some, bitv_one]
theorem step_lat {t : Int} (p1 : 0 ≤ t ∧ t ≤ 1) (a r : Bool) :
    timer_Step.f k latchB [] [t] [bv a, bv r] dt = some ([latS t a r], 2, bitv (latS t a r == 1), 0) := by
  obtain ⟨k, rfl⟩ : ∃ m, k = m + 1 := ⟨k - 1, by omega⟩
  rw [step_f latch_blk (fun h => absurd h nh_lat) _ _ _ _ k (by omega), if_pos (good_none nh_lat), if_pos (show (([t] : List Int).length : Int) = 1 from rfl), pos_latch, Option.bind_some, if_pos ⟨decide_eq_true p1, d1, d2⟩, if_pos (inp2 a r), bv, bv, f_latch, Option.bind_some, bitv_one, bitv_one]
theorem step_cnt {p n : Int} (p1 : 0 ≤ p ∧ p ≤ 1) (n1 : 0 ≤ n) (n2 : n ≤ 1000000000) (a r : Bool) :
    timer_Step.f k countB [] [p, n] [bv a, bv r] dt = some ([bitv a, cntS p n a r], 1, 1000 * cntS p n a r, 0) := by
  obtain ⟨k, rfl⟩ : ∃ m, k = m + 2 := ⟨k - 2, by omega⟩
  rw [step_f count_blk (fun h => absurd h nh_cnt) _ _ _ _ (k + 1) (by omega), if_pos (good_none nh_cnt), if_pos (show (([p, n] : List Int).length : Int) = 2 from rfl), pos_count, Option.bind_some, if_pos ⟨decide_eq_true ⟨p1, n1, n2⟩, d1, d2⟩, if_pos (inp2 a r), bv, bv, f_count _ _ _ _ _ _ _ _ _ _ n1 n2, Option.bind_some, bitv_one, bitv_one]
end
/-! ### A run, told by its states -/
theorem range_map {α : Type} (f : Nat → α) (i : Nat) : (List.range i).map f ++ [f i] = (List.range (i + 1)).map f := by rw [List.range_succ, List.map_append]; rfl
theorem run_l1 {nm : ByteArray} {l : List Int} {dt : Int} {K : Nat} {rows : List (List S32)} (hn : rows.length ≤ 1000) (st : Nat → List Int) (ov : Nat → S32)
    (hst : ∀ i (h : i < rows.length), ∀ k, K ≤ k → timer_Step.f k nm l (st i) rows[i] dt = some (st (i + 1), (ov i).f0, (ov i).f1, 0)) : ∀ (d i k : Nat), i + d = rows.length → K + d < k →
    timer_Run.l0 k nm l dt (st i) ((List.range i).map ov) rows (rows.length : Int) (i : Int) = some ((List.range rows.length).map ov, 0)
  | 0, i, k, hd, hk => by
    obtain ⟨k, rfl⟩ : ∃ m, k = m + 1 := ⟨k - 1, by omega⟩
    obtain rfl : i = rows.length := by omega
    simp only [timer_Run.l0]
    rw [if_neg (by omega)]
  | d + 1, i, k, hd, hk => by
    obtain ⟨k, rfl⟩ : ∃ m, k = m + 1 := ⟨k - 1, by omega⟩
    have hi : i < rows.length := by omega
    simp only [timer_Run.l0]
    rw [if_pos (by omega), if_pos (by omega), if_pos (by omega), rdR rows i hi, hst i hi k (by omega), Option.bind_some, if_pos rfl, if_pos (by rw [List.length_map, List.length_range]; omega)]
    rw [wrap_id (by omega) (by omega), show (i : Int) + 1 = ((i + 1 : Nat) : Int) by omega, show (⟨(ov i).f0, (ov i).f1⟩ : S32) = ov i from rfl, range_map]
    exact run_l1 hn st ov hst d (i + 1) k (by omega) (by omega)
theorem run_seq {nm : ByteArray} {B T} {n : Nat} (b : Blk nm B T n) (hh : nm.toList = ([104, 121, 115, 116] : List UInt8) → B.length = 2) {l : List Int} (hg : goodP nm B l) {dt : Int} {K : Nat} {rows : List (List S32)} (hn : rows.length ≤ 1000) (st : Nat → List Int) (ov : Nat → S32)
    (h0 : st 0 = List.replicate n 0) (hst : ∀ i (h : i < rows.length), ∀ k, K ≤ k → timer_Step.f k nm l (st i) rows[i] dt = some (st (i + 1), (ov i).f0, (ov i).f1, 0)) (k : Nat) (hk : K + rows.length + 50 ≤ k) :
    timer_Run.f k nm l rows dt = some ((List.range rows.length).map ov, 0) := by
  obtain ⟨D, e1, e2, e3, e4, hf⟩ := find_f b hh
  have hn5 := b.n5
  unfold timer_Run.f
  rw [hf l _ (by omega), Option.bind_some, if_pos hg, if_pos e4, e3, if_pos (by omega), if_pos (by omega), Int.toNat_natCast, ← h0]
  exact run_l1 hn st ov hst rows.length 0 k (by omega) (by omega)
theorem rd_range (n : Nat) (ov : Nat → S32) (i : Nat) (h : i < n) : rd_T32 ((List.range n).map ov) (i : Int) = ov i := by
  rw [rdV _ i (by rw [List.length_map, List.length_range]; exact h)]; simp
theorem len_range (n : Nat) (ov : Nat → S32) : ((List.range n).map ov).length = n := by rw [List.length_map, List.length_range]
theorem onR_len (l : List Bool) : (onR l).length = l.length := by rw [onR, List.length_map]
theorem onR_get (l : List Bool) (i : Nat) (h : i < (onR l).length) : (onR l)[i] = [bv (l.getD i false)] := by
  have hi : i < l.length := by rw [onR_len] at h; exact h
  rw [List.getD_eq_getElem?_getD, List.getElem?_eq_getElem hi]
  simp [onR, bv]
theorem rdG (l : List Bool) (i : Nat) : rdOf false l (i : Int) = l.getD i false := by unfold rdOf; rw [Int.toNat_natCast]
theorem cmp_bv (b : Bool) : (!((bv b).f0 == 2) || !((bv b).f1 == bitv b)) = false := by cases b <;> rfl
/-- How many of the last steps were on. -/
def tr (l : List Bool) : Nat → Int
  | 0 => 0
  | i + 1 => if l.getD i false = true then tr l i + 1 else 0
theorem tr_wf (l : List Bool) : ∀ i, 0 ≤ tr l i ∧ tr l i ≤ i
  | 0 => by simp [tr]
  | i + 1 => by
    have := tr_wf l i
    unfold tr
    split <;> omega
/-- How many steps ago one was on, -1 if none was. -/
def fs (g : Nat → Bool) : Nat → Int
  | 0 => -1
  | i + 1 => if g i = true then 0 else if fs g i < 0 then -1 else fs g i + 1
theorem fs_wf (g : Nat → Bool) : ∀ i, -1 ≤ fs g i ∧ fs g i < i
  | 0 => by simp [fs]
  | i + 1 => by
    have := fs_wf g i
    unfold fs
    split
    · omega
    · split <;> omega
theorem tr_t {l : List Bool} {i : Nat} (h : l.getD i false = true) : tr l (i + 1) = tr l i + 1 := by rw [tr, if_pos h]
theorem tr_f {l : List Bool} {i : Nat} (h : l.getD i false = false) : tr l (i + 1) = 0 := by rw [tr, h]; rfl
theorem fs_t {g : Nat → Bool} {i : Nat} (h : g i = true) : fs g (i + 1) = 0 := by rw [fs, if_pos h]
theorem fs_f {g : Nat → Bool} {i : Nat} (h : g i = false) : fs g (i + 1) = if fs g i < 0 then -1 else fs g i + 1 := by rw [fs, h]; rfl
/-- What a was before; does it rise? -/
def pv (l : List Bool) : Nat → Bool
  | 0 => false
  | i + 1 => l.getD i false
def ris (l : List Bool) (i : Nat) : Bool := l.getD i false && !(pv l i)
theorem bitv_zero (b : Bool) : (bitv b == 0) = !b := by cases b <;> rfl
theorem run_edg {dt : Int} (d1 : 1 ≤ dt) (d2 : dt ≤ 86400) (l : List Bool) (hl : l.length ≤ 80) (k : Nat) (hk : 300 ≤ k) : timer_Run.f k edgeB [] (onR l) dt = some ((List.range l.length).map fun i => bv (ris l i), 0) := by
  have := run_seq (n := 1) (K := 70) edge_blk (fun h => absurd h nh_edg) (good_none nh_edg) (rows := onR l) (dt := dt) (by rw [onR_len]; omega) (fun i => [bitv (pv l i)]) (fun i => bv (ris l i)) rfl (fun i h k hk => by
    rw [onR_get, step_edg d1 d2 k hk (bitv_wf _), bitv_zero]
    rfl) k (by rw [onR_len]; omega)
  rw [onR_len] at this
  exact this
end Go.Proofs.YtjjbdgngncgikaaDoor.Tm
