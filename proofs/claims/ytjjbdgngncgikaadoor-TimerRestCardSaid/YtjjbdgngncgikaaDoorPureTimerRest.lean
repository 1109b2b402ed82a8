/-
  TimerRest: with steps of one second the outputs of minrun stay on for at least on steps, and off, once they have been on, for at least off steps; where the last change is so long ago, or there was none, the output is a: the plain law.
-/
import Derived.Test.YtjjbdgngncgikaaDoorTm3
import Derived.Test.YtjjbdgngncgikaaDoorRx0
import Derived.Test.YtjjbdgngncgikaaDoorRx19
import Derived.Test.YtjjbdgngncgikaaDoorRx28
namespace Go.Proofs.YtjjbdgngncgikaaDoor.Pure
open Go Go.RowKit Go.Proofs.YtjjbdgngncgikaaDoor.R Go.Proofs.YtjjbdgngncgikaaDoor.Tm Go.Proofs.YtjjbdgngncgikaaDoorW.PrintWords Go.Proofs.YtjjbdgngncgikaaDoorW.PrintMore
set_option linter.unusedVariables false
set_option linter.unusedSimpArgs false

def lst (up dn : Int) (b : Bool) : Int := if b = true then up else dn
def runs (up dn : Int) (b : Bool) (q : Int) : Prop := q ≠ 0 ∧ q < lst up dn b
instance (up dn b q) : Decidable (runs up dn b q) := inferInstanceAs (Decidable (_ ∧ _))
def nxt (up dn : Int) (b : Bool) (q : Int) (a : Bool) : Bool × Int := if a = b ∨ runs up dn b q then (b, if runs up dn b q then q + 1 else 0) else (a, bitv (lst up dn a != 0))
theorem lst_bit (up dn : Int) (b : Bool) : (if bitv b = 1 then up else dn) = lst up dn b := by cases b <;> rfl
theorem bitv_inj {a b : Bool} (h : bitv a = bitv b) : a = b := by cases a <;> cases b <;> first | rfl | exact absurd h (by decide)
theorem min_b (up dn q : Int) (b a : Bool) : minS up dn 1 (bitv b) q a = ((bitv (nxt up dn b q a).1, (nxt up dn b q a).2), (nxt up dn b q a).1) := by
  unfold minS nxt
  rw [lst_bit, lst_bit, show q - 1 + 1 = q by omega, bitv_one]
  have e : (q ≠ 0 ∧ q < lst up dn b) = runs up dn b q := rfl
  by_cases c : runs up dn b q
  · have c' : q ≠ 0 ∧ q < lst up dn b := c
    rw [if_pos (show bitv a = bitv b ∨ (q ≠ 0 ∧ q < lst up dn b) from .inr c'), if_pos (show a = b ∨ runs up dn b q from .inr c), if_pos c', if_pos c]
  · have c' : ¬ (q ≠ 0 ∧ q < lst up dn b) := c
    by_cases d : a = b
    · rw [if_pos (show bitv a = bitv b ∨ (q ≠ 0 ∧ q < lst up dn b) from .inl (by rw [d])), if_pos (show a = b ∨ runs up dn b q from .inl d), if_neg c', if_neg c]
    · rw [if_neg (show ¬ (bitv a = bitv b ∨ (q ≠ 0 ∧ q < lst up dn b)) from fun h => h.elim (fun h => d (bitv_inj h)) c'), if_neg (show ¬ (a = b ∨ runs up dn b q) from fun h => h.elim d c)]
def ms (up dn : Int) (l : List Bool) : Nat → Bool × Int
  | 0 => (false, 0)
  | i + 1 => nxt up dn (ms up dn l i).1 (ms up dn l i).2 (l.getD i false)
section
variable {up dn : Int} (h1 : 0 ≤ up) (h2 : up ≤ 100) (h3 : 0 ≤ dn) (h4 : dn ≤ 100) (l : List Bool) (hl : l.length ≤ 80)
include h1 h3
theorem lst_wf (b : Bool) : 0 ≤ lst up dn b := by cases b <;> assumption
theorem nxt_wf {b : Bool} {q : Int} (a : Bool) (q1 : 0 ≤ q) (q2 : q ≤ lst up dn b) : 0 ≤ (nxt up dn b q a).2 ∧ (nxt up dn b q a).2 ≤ lst up dn (nxt up dn b q a).1 := by
  have w := lst_wf h1 h3 b
  have w2 := lst_wf h1 h3 a
  unfold nxt
  by_cases c : a = b ∨ runs up dn b q
  · rw [if_pos c]
    by_cases d : runs up dn b q
    · simp only [if_pos d]
      have := d.2; omega
    · simp only [if_neg d]; omega
  · rw [if_neg c]
    simp only
    by_cases d : lst up dn a = 0
    · rw [d]; decide
    · rw [show (lst up dn a != 0) = true from bne_iff_ne.2 d]
      show 0 ≤ 1 ∧ 1 ≤ lst up dn a
      omega
theorem ms_wf : ∀ i, 0 ≤ (ms up dn l i).2 ∧ (ms up dn l i).2 ≤ lst up dn (ms up dn l i).1
  | 0 => ⟨Int.le_refl _, lst_wf h1 h3 _⟩
  | i + 1 => nxt_wf h1 h3 _ (ms_wf i).1 (ms_wf i).2
include h2 h4 hl
theorem run_min (k : Nat) (hk : 300 ≤ k) : timer_Run.f k minrunB [up, dn] (onR l) 1 = some ((List.range l.length).map fun i => bv (ms up dn l (i + 1)).1, 0) := by
  have := run_seq (n := 2) (K := 70) minrun_blk (fun h => absurd h nh_min) (good_two nh_min h1 (by omega) h3 (by omega)) (rows := onR l) (dt := 1) (by rw [onR_len]; omega) (fun i => [bitv (ms up dn l i).1, (ms up dn l i).2]) (fun i => bv (ms up dn l (i + 1)).1) rfl (fun i h k hk => by
    have w := ms_wf h1 h3 l i
    rw [onR_get, step_min (by omega) (by omega) k hk h1 (by omega) h3 (by omega) (bitv_wf _) w.1 (by rw [lst_bit]; exact w.2), min_b]
    rfl) k (by rw [onR_len]; omega)
  rw [onR_len] at this
  exact this
omit h2 h4 in
theorem rest_l0 (A : List S32) (hA : A = (List.range l.length).map fun i => bv (ms up dn l (i + 1)).1) : ∀ (d i k : Nat) (c : Int), i + d = l.length → 10 * d < k →
    ((c = -1 ∧ (ms up dn l i).2 = 0) ∨ (0 ≤ c ∧ c < i ∧ (ms up dn l i).2 = if (i : Int) - c ≤ lst up dn (ms up dn l i).1 then (i : Int) - c else 0)) →
    plenumlaw19_TimerRest.l0 k up dn l A (bitv (ms up dn l i).1) c (i : Int) = some true
  | 0, i, k, c, hd, hk, hc => by
    obtain ⟨k, rfl⟩ : ∃ m, k = m + 1 := ⟨k - 1, by omega⟩
    simp only [plenumlaw19_TimerRest.l0]
    rw [if_neg (by omega)]
  | d + 1, i, k, c, hd, hk, hc => by
    obtain ⟨k, rfl⟩ : ∃ m, k = m + 4 := ⟨k - 4, by omega⟩
    have hi : i < l.length := by omega
    have hAl : A.length = l.length := by rw [hA, len_range]
    have hrA : rd_T32 A (i : Int) = bv (ms up dn l (i + 1)).1 := by rw [hA, rd_range _ _ i hi]
    have go := fun k c => rest_l0 A hA d (i + 1) k c (by omega)
    have w := ms_wf h1 h3 l i
    have hn : ms up dn l (i + 1) = nxt up dn (ms up dn l i).1 (ms up dn l i).2 (l.getD i false) := rfl
    have w3 := lst_wf h1 h3 (l.getD i false)
    generalize hm : ms up dn l (i + 1) = m' at *
    obtain ⟨b', q'⟩ := m'
    generalize hm0 : ms up dn l i = m0 at *
    obtain ⟨b, q⟩ := m0
    simp only at hc hn go w hrA ⊢
    have hj4 : ∀ k, 10 * d + 1 < k → ∀ f : Bool, (f = decide (¬ runs up dn b q)) → plenumlaw19_TimerRest.j4 k up dn l A (bitv b) c (i : Int) f = some true := by
      intro k hk f hf
      obtain ⟨k, rfl⟩ : ∃ m, k = m + 1 := ⟨k - 1, by omega⟩
      simp only [plenumlaw19_TimerRest.j4]
      simp only [if_pos (show (0 : Int) ≤ (i : Int) by omega), if_pos (show (i : Int) < (A.length : Int) by omega), if_pos (show (i : Int) < (l.length : Int) by omega)]
      rw [rdG, lbit_f, Option.bind_some, hrA, wrap_id (by omega) (by omega), show (i : Int) + 1 = ((i + 1 : Nat) : Int) by omega]
      by_cases r : runs up dn b q
      · rw [decide_eq_false (by simpa using r)] at hf
        rw [hf, if_neg (show ¬ (false = true) by simp)]
        have e : b' = b ∧ q' = q + 1 := by
          unfold nxt at hn
          rw [if_pos (Or.inr r), if_pos r] at hn
          exact ⟨(Prod.mk.inj hn).1, (Prod.mk.inj hn).2⟩
        obtain ⟨rfl, rfl⟩ := e
        rw [if_pos (show (bv b').f1 = bitv b' from rfl)]
        refine go k c (by omega) (.inr ?_)
        have r1 := r.1
        have r2 := r.2
        rcases hc with ⟨_, h0⟩ | ⟨c1, c2, c3⟩
        · exact absurd h0 r1
        · refine ⟨c1, by omega, ?_⟩
          by_cases x : (i : Int) - c ≤ lst up dn b'
          · rw [if_pos x] at c3; rw [if_pos (by omega)]; omega
          · rw [if_neg x] at c3; exact absurd c3 r1
      · rw [decide_eq_true r] at hf
        rw [hf, if_pos rfl]
        have hb : b' = l.getD i false := by
          unfold nxt at hn
          by_cases x : l.getD i false = b
          · rw [if_pos (Or.inl x)] at hn; rw [x]; exact (Prod.mk.inj hn).1
          · rw [if_neg (show ¬ (l.getD i false = b ∨ runs up dn b q) from fun h => h.elim x r)] at hn; exact (Prod.mk.inj hn).1
        rw [← hb, if_neg (by rw [cmp_bv]; simp)]
        by_cases x : b' = b
        · rw [if_pos (show (bv b').f1 = bitv b by rw [x]; rfl)]
          have e : q' = 0 := by
            unfold nxt at hn
            rw [if_pos (Or.inl (hb ▸ x)), if_neg r] at hn
            exact (Prod.mk.inj hn).2
          subst x
          refine go k c (by omega) ?_
          rcases hc with ⟨c1, c2⟩ | ⟨c1, c2, c3⟩
          · exact .inl ⟨c1, e⟩
          · refine .inr ⟨c1, by omega, ?_⟩
            have : ¬ ((i + 1 : Nat) : Int) - c ≤ lst up dn b' := by
              intro y
              rw [if_pos (by omega)] at c3
              exact r ⟨by omega, by omega⟩
            rw [if_neg this, e]
        · rw [if_neg (show ¬ (bv b').f1 = bitv b from fun h => x (bitv_inj h))]
          have e : q' = bitv (lst up dn b' != 0) := by
            unfold nxt at hn
            rw [if_neg (show ¬ (l.getD i false = b ∨ runs up dn b q) from fun h => h.elim (fun h => x (hb.trans h)) r)] at hn
            rw [hb]; exact (Prod.mk.inj hn).2
          refine go k i (by omega) (.inr ⟨by omega, by omega, ?_⟩)
          rw [← hb] at w3
          by_cases y : lst up dn b' = 0
          · rw [e, y, if_neg (by omega)]; rfl
          · rw [e, show (lst up dn b' != 0) = true from bne_iff_ne.2 y, if_pos (by omega)]
            show (1 : Int) = _
            omega
    have hj3 : ∀ k, 10 * d + 2 < k → plenumlaw19_TimerRest.j3 k up dn l A (bitv b) c (i : Int) (lst up dn b) = some true := by
      intro k hk
      obtain ⟨k, rfl⟩ : ∃ m, k = m + 1 := ⟨k - 1, by omega⟩
      simp only [plenumlaw19_TimerRest.j3]
      rcases hc with ⟨c1, c2⟩ | ⟨c1, c2, c3⟩
      · rw [if_pos (by omega)]
        exact hj4 k (by omega) true (by symm; apply decide_eq_true; exact fun h => h.1 c2)
      · rw [if_neg (by omega), wrap_id (by omega) (by omega)]
        refine hj4 k (by omega) _ (decide_eq_decide.2 ?_)
        by_cases x : (i : Int) - c ≤ lst up dn b
        · rw [if_pos x] at c3
          unfold runs
          omega
        · rw [if_neg x] at c3
          unfold runs
          omega
    simp only [plenumlaw19_TimerRest.l0]
    rw [if_pos (by omega)]
    cases b
    · rw [if_neg (show ¬ bitv false = 1 by decide)]; exact hj3 _ (by omega)
    · rw [if_pos (show bitv true = 1 from rfl)]; exact hj3 _ (by omega)
end
theorem TimerRest (up dn : Int) (l : List Bool) (_ : (Lit.int .i64 up).wf = true) (_ : (Lit.int .i64 dn).wf = true) (_ : l.length ≤ maxLen) (_ : ∀ x ∈ l, True) : ∃ k, plenumlaw19_TimerRest.f k up dn l = some true := by
  have hj0 : ∀ k, plenumlaw19_TimerRest.j0 (k + 1) up dn l true = some true := by intro k; simp only [plenumlaw19_TimerRest.j0]; rfl
  refine ⟨9001, ?_⟩
  unfold plenumlaw19_TimerRest.f
  rw [awake_f _ (by omega), Option.bind_some, if_pos rfl]
  by_cases c1 : (l.length : Int) > 80
  · rw [if_pos c1]; exact hj0 _
  rw [if_neg c1]
  by_cases c2 : up < 0
  · rw [if_pos c2]; exact hj0 _
  rw [if_neg c2]
  by_cases c3 : up > 100
  · rw [if_pos c3]; exact hj0 _
  rw [if_neg c3]
  by_cases c4 : dn < 0
  · rw [if_pos c4]; exact hj0 _
  rw [if_neg c4]
  by_cases c5 : dn > 100
  · rw [decide_eq_true c5]; exact hj0 _
  rw [decide_eq_false c5]
  simp only [plenumlaw19_TimerRest.j0]
  rw [if_neg (by simp), on_f l (by omega) _ (by omega), Option.bind_some, show (⟨#[109, 105, 110, 114, 117, 110]⟩ : ByteArray) = minrunB from rfl, run_min (by omega) (by omega) (by omega) (by omega) l (by omega) _ (by omega), Option.bind_some, if_pos rfl, len_range]
  simp only [plenumlaw19_TimerRest.j1]
  rw [if_neg (by simp)]
  exact rest_l0 (by omega) (by omega) l (by omega) _ rfl l.length 0 8999 (-1) (by omega) (by omega) (.inl ⟨rfl, rfl⟩)
end Go.Proofs.YtjjbdgngncgikaaDoor.Pure
