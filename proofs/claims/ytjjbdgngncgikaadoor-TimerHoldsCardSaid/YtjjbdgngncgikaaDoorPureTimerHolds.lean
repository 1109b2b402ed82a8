/-
  TimerHolds: the output of hyst is on if the last number outside of the span from off to on was greater than on: the plain law.
-/
import Derived.Test.YtjjbdgngncgikaaDoorTm2
import Derived.Test.YtjjbdgngncgikaaDoorRx0
import Derived.Test.YtjjbdgngncgikaaDoorRx18
import Derived.Test.YtjjbdgngncgikaaDoorRx30
namespace Go.Proofs.YtjjbdgngncgikaaDoor.Pure
open Go Go.RowKit Go.Proofs.YtjjbdgngncgikaaDoor.R Go.Proofs.YtjjbdgngncgikaaDoor.Tm Go.Proofs.YtjjbdgngncgikaaDoorW.PrintWords Go.Proofs.YtjjbdgngncgikaaDoorW.PrintMore
set_option linter.unusedVariables false
set_option linter.unusedSimpArgs false

def nxH (up dn : Int) (s : List Int) (r : List S32) : List Int × S32 := ([hysS up dn (rd s 0) (rd_T32 r 0).f1], ⟨2, bitv (hysS up dn (rd s 0) (rd_T32 r 0).f1 == 1)⟩)
def anaR (l : List Int) : List (List S32) := l.map fun x => [(⟨1, x⟩ : S32)]
def VB (s : List Int) : Prop := ∃ b : Bool, s = [bitv b]
theorem hys_bit (up dn x : Int) (b : Bool) : hysS up dn (bitv b) x = bitv (if x > up then true else if x < dn then false else b) := by
  unfold hysS
  by_cases c : x > up
  · rw [if_pos c, if_pos c]; rfl
  · rw [if_neg c, if_neg c]
    by_cases d : x < dn
    · rw [if_pos d, if_pos d]; rfl
    · rw [if_neg d, if_neg d]
theorem bitv_wf (b : Bool) : 0 ≤ bitv b ∧ bitv b ≤ 1 := by cases b <;> decide
section
variable {up dn dt : Int} (h1 : -1000000000000 ≤ dn) (h2 : dn < up) (h3 : up ≤ 1000000000000) (h4 : 1 ≤ dt) (h5 : dt ≤ 86400)
include h1 h2 h3 h4 h5
omit h4 h5 in
theorem goodH : goodP hystB [MM, MM] [up, dn] := by
  refine ⟨rfl, ?_, fun _ => h2⟩
  show (if up < -1000000000000 then (1 : Int) else if up > 1000000000000 then 1 else if dn < -1000000000000 then 1 else if dn > 1000000000000 then 1 else 0) = 0
  rw [if_neg (by omega), if_neg (by omega), if_neg (by omega), if_neg (by omega)]
theorem stepH (s : List Int) (r : List S32) (hs : VB s) (hr : ∃ x, r = [(⟨1, x⟩ : S32)]) : VB (nxH up dn s r).1 ∧ ∀ k, 61 ≤ k → timer_Step.f k hystB [up, dn] s r dt = some ((nxH up dn s r).1, (nxH up dn s r).2.f0, (nxH up dn s r).2.f1, 0) := by
  obtain ⟨b, rfl⟩ := hs
  obtain ⟨x, rfl⟩ := hr
  have e : nxH up dn [bitv b] [⟨1, x⟩] = ([hysS up dn (bitv b) x], ⟨2, bitv (hysS up dn (bitv b) x == 1)⟩) := rfl
  rw [e]
  refine ⟨⟨_, by rw [hys_bit]⟩, fun k hk => ?_⟩
  obtain ⟨k, rfl⟩ : ∃ m, k = m + 1 := ⟨k - 1, by omega⟩
  rw [step_f hyst_blk (fun _ => rfl) _ _ _ _ k (by omega), if_pos (goodH h1 h2 h3), if_pos (show (([bitv b] : List Int).length : Int) = 1 from rfl), pos_hyst, Option.bind_some, if_pos ⟨decide_eq_true (bitv_wf b), h4, h5⟩, if_pos (show inpE [false] [⟨1, x⟩] = 0 from rfl), f_hyst, Option.bind_some]
omit h1 h3 h4 h5 in
theorem holds_l1 (l : List Int) (hl : l.length ≤ 80) (out : List S32) (ho : out = outs (nxH up dn) [0] (anaR l)) : ∀ (d i k : Nat) (b : Bool), i + d = l.length → 2 * d < k → stAt (nxH up dn) [0] (anaR l) i = [bitv b] →
    plenumlaw19_TimerHolds.l1 k up dn l out b (i : Int) = some true
  | 0, i, k, b, hd, hk, hs => by
    obtain ⟨k, rfl⟩ : ∃ m, k = m + 1 := ⟨k - 1, by omega⟩
    simp only [plenumlaw19_TimerHolds.l1]
    rw [if_neg (by omega)]
  | d + 1, i, k, b, hd, hk, hs => by
    obtain ⟨k, rfl⟩ : ∃ m, k = m + 2 := ⟨k - 2, by omega⟩
    have hi : i < l.length := by omega
    have hlen : (anaR l).length = l.length := by rw [anaR, List.length_map]
    have hol : out.length = l.length := by rw [ho, outs_len, hlen]
    have hx : (anaR l)[i]'(by omega) = [(⟨1, l[i]⟩ : S32)] := by simp only [anaR, List.getElem_map]
    have hget : rd_T32 out (i : Int) = ⟨2, bitv (if l[i] > up then true else if l[i] < dn then false else b)⟩ := by
      rw [rdV out i (by omega)]
      subst ho
      rw [outs_get _ _ _ i (by omega), hs, hx]
      show (⟨2, bitv (hysS up dn (bitv b) l[i] == 1)⟩ : S32) = _
      rw [hys_bit, bitv_one]
    have hst : stAt (nxH up dn) [0] (anaR l) (i + 1) = [bitv (if l[i] > up then true else if l[i] < dn then false else b)] := by
      rw [stAt, hs, List.getD_eq_getElem?_getD, List.getElem?_eq_getElem (by omega), Option.getD_some, hx]
      show [hysS up dn (bitv b) l[i]] = _
      rw [hys_bit]
    have hcmp : ∀ c : Bool, (!((2 : Int) == 2) || !((bitv c) == bitv c)) = false := by intro c; simp
    simp only [plenumlaw19_TimerHolds.l1, plenumlaw19_TimerHolds.j4]
    rw [if_pos (by omega), if_pos (by omega), rdI l i hi]
    simp only [if_pos (show (i : Int) < (l.length : Int) by omega), if_pos (show (i : Int) < (out.length : Int) by omega), if_pos (show (0 : Int) ≤ (i : Int) by omega), lbit_f, Option.bind_some, hget]
    rw [wrap_id (by omega) (by omega), show (i : Int) + 1 = ((i + 1 : Nat) : Int) by omega]
    by_cases c1 : l[i] > up
    · rw [if_pos c1, if_neg (by omega)]
      simp only [if_pos c1] at hst ⊢
      rw [hcmp, if_neg (by simp)]
      exact holds_l1 l hl out ho d (i + 1) k true (by omega) (by omega) hst
    · rw [if_neg c1]
      simp only [if_neg c1] at hst ⊢
      by_cases c2 : l[i] < dn
      · rw [if_pos c2]
        simp only [if_pos c2] at hst ⊢
        rw [hcmp, if_neg (by simp)]
        exact holds_l1 l hl out ho d (i + 1) k false (by omega) (by omega) hst
      · rw [if_neg c2]
        simp only [if_neg c2] at hst ⊢
        rw [hcmp, if_neg (by simp)]
        exact holds_l1 l hl out ho d (i + 1) k b (by omega) (by omega) hst
theorem holds_l0 (l : List Int) (hl : l.length ≤ 80) : ∀ (d i k : Nat) (acc : List (List S32)), i + d = l.length → 400 + d < k → acc = (anaR l).take i →
    plenumlaw19_TimerHolds.l0 k up dn l dt acc (i : Int) = some true
  | 0, i, k, acc, hd, hk, ha => by
    obtain ⟨k, rfl⟩ : ∃ m, k = m + 2 := ⟨k - 2, by omega⟩
    have hlen : (anaR l).length = l.length := by rw [anaR, List.length_map]
    rw [List.take_of_length_le (by omega)] at ha
    subst ha
    have hrun := run_f (n := 1) hyst_blk (fun _ => rfl) (goodH h1 h2 h3) (dt := dt) (nx := nxH up dn) (V := VB) (R := fun r => ∃ x, r = [(⟨1, x⟩ : S32)]) (K := 61) (fun s r hs hr => stepH h1 h2 h3 h4 h5 s r hs hr) (anaR l) (by
      intro r hr; obtain ⟨x, _, rfl⟩ := List.mem_map.1 hr; exact ⟨x, rfl⟩) (by omega) ⟨false, rfl⟩ (k + 1) (by omega)
    simp only [plenumlaw19_TimerHolds.l0]
    rw [if_neg (by omega), show (⟨#[104, 121, 115, 116]⟩ : ByteArray) = hystB from rfl, hrun, Option.bind_some, if_pos rfl]
    simp only [plenumlaw19_TimerHolds.j2, outs_len, hlen]
    rw [if_neg (by simp)]
    exact holds_l1 h2 l hl _ rfl l.length 0 k false (by omega) (by omega) rfl
  | d + 1, i, k, acc, hd, hk, ha => by
    obtain ⟨k, rfl⟩ : ∃ m, k = m + 1 := ⟨k - 1, by omega⟩
    have hi : i < l.length := by omega
    have hlen : (anaR l).length = l.length := by rw [anaR, List.length_map]
    have hal : acc.length = i := by rw [ha, List.length_take]; omega
    simp only [plenumlaw19_TimerHolds.l0]
    rw [if_pos (by omega), if_pos (by omega), if_pos (by omega), wrap_id (by omega) (by omega), show (i : Int) + 1 = ((i + 1 : Nat) : Int) by omega, rdI l i hi]
    refine holds_l0 l hl d (i + 1) k _ (by omega) (by omega) ?_
    rw [ha, ← List.take_append_getElem (show i < (anaR l).length by omega)]
    simp [anaR]
end
theorem TimerHolds : plenumlaw19_TimerHolds.Pure := by
  intro up dn l dt _ _ _ _ _ _
  have hj0 : ∀ k, plenumlaw19_TimerHolds.j0 (k + 1) up dn l dt true = some true := by intro k; simp only [plenumlaw19_TimerHolds.j0]; rfl
  refine ⟨1001, ?_⟩
  unfold plenumlaw19_TimerHolds.f
  rw [awake_f _ (by omega), Option.bind_some, if_pos rfl]
  by_cases c1 : (l.length : Int) > 80
  · rw [if_pos c1]; exact hj0 _
  rw [if_neg c1]
  by_cases c2 : dt < 1
  · rw [if_pos c2]; exact hj0 _
  rw [if_neg c2]
  by_cases c3 : dt > 1000
  · rw [if_pos c3]; exact hj0 _
  rw [if_neg c3]
  by_cases c4 : up < -1000000000000
  · rw [if_pos c4]; exact hj0 _
  rw [if_neg c4]
  by_cases c5 : up > 1000000000000
  · rw [if_pos c5]; exact hj0 _
  rw [if_neg c5]
  by_cases c6 : dn < -1000000000000
  · rw [if_pos c6]; exact hj0 _
  rw [if_neg c6]
  by_cases c7 : dn ≥ up
  · rw [decide_eq_true c7]; exact hj0 _
  rw [decide_eq_false c7]
  simp only [plenumlaw19_TimerHolds.j0]
  rw [if_neg (by simp)]
  exact holds_l0 (by omega) (by omega) (by omega) (by omega) (by omega) l (by omega) l.length 0 1000 [] (by omega) (by omega) rfl
end Go.Proofs.YtjjbdgngncgikaaDoor.Pure
