/-
  PLAIN LAWS OF THE TIMERS, 1: the blocks' descriptors, what find, inputs and Step come to.
-/
import Derived.Test.YtjjbdgngncgikaaGreatDoorRx2
import Derived.Test.YtjjbdgngncgikaaGreatDoorRx5
import Derived.Test.YtjjbdgngncgikaaGreatDoorRx6
import Derived.Test.YtjjbdgngncgikaaGreatDoorRx7
import Derived.Test.YtjjbdgngncgikaaGreatDoorRx9
import Derived.Test.YtjjbdgngncgikaaGreatDoorRx10
import Derived.Test.YtjjbdgngncgikaaGreatDoorRx12
namespace Go.Proofs.YtjjbdgngncgikaaGreatDoor.Tm
open Go Go.RowKit Go.Proofs.YtjjbdgngncgikaaGreatDoor.R Go.Proofs.YtjjbdgngncgikaaGreatDoorW.PrintWords Go.Proofs.YtjjbdgngncgikaaGreatDoorW.PrintMore

set_option linter.unusedVariables false
set_option linter.unusedSimpArgs false
def countB : ByteArray := ⟨#[99, 111, 117, 110, 116]⟩
def edgeB : ByteArray := ⟨#[101, 100, 103, 101]⟩
def hystB : ByteArray := ⟨#[104, 121, 115, 116]⟩
def latchB : ByteArray := ⟨#[108, 97, 116, 99, 104]⟩
def minrunB : ByteArray := ⟨#[109, 105, 110, 114, 117, 110]⟩
def offdelayB : ByteArray := ⟨#[111, 102, 102, 100, 101, 108, 97, 121]⟩
def ondelayB : ByteArray := ⟨#[111, 110, 100, 101, 108, 97, 121]⟩
def pulseB : ByteArray := ⟨#[112, 117, 108, 115, 101]⟩
theorem countB_l : countB.toList = ([99, 111, 117, 110, 116] : List UInt8) := by kernel_rfl
theorem edgeB_l : edgeB.toList = ([101, 100, 103, 101] : List UInt8) := by kernel_rfl
theorem hystB_l : hystB.toList = ([104, 121, 115, 116] : List UInt8) := by kernel_rfl
theorem latchB_l : latchB.toList = ([108, 97, 116, 99, 104] : List UInt8) := by kernel_rfl
theorem minrunB_l : minrunB.toList = ([109, 105, 110, 114, 117, 110] : List UInt8) := by kernel_rfl
theorem offdelayB_l : offdelayB.toList = ([111, 102, 102, 100, 101, 108, 97, 121] : List UInt8) := by kernel_rfl
theorem ondelayB_l : ondelayB.toList = ([111, 110, 100, 101, 108, 97, 121] : List UInt8) := by kernel_rfl
theorem pulseB_l : pulseB.toList = ([112, 117, 108, 115, 101] : List UInt8) := by kernel_rfl
theorem wrap_id {x : Int} (h : -9223372036854775808 ≤ x) (h2 : x ≤ 9223372036854775807) : wrap64 x = x := by unfold wrap64; omega
theorem mn_min (a b : Int) : mn a b = min a b := by unfold mn; omega
def bitv (b : Bool) : Int := if b = true then 1 else 0
theorem bit_f (b : Bool) : timer_bit.f b = some (bitv b) := by cases b <;> rfl
theorem bitv_one (b : Bool) : (bitv b == 1) = b := by cases b <;> rfl

def bnd (b : S61) : Int × Int := (b.f1, b.f2)
def isb (p : S64) : Bool := p.f1.toList == ([98, 105, 110, 97, 114, 121] : List UInt8)
/-- What the library has of a block: the parameters' bounds, which inputs are binary, how long the state is. -/
structure Blk (nm : ByteArray) (B : List (Int × Int)) (T : List Bool) (n : Int) : Prop where
  c : (timer_Names.f.bind fun t => slices_Contains_string_string.f 20 t nm) = some true
  f : (block_Find.f 40 nm).map (fun p => ((p.2.1.map bnd, p.2.2.1.map isb), (p.2.2.2.2.1, p.2.2.2.2.2.2))) = some ((B, T), (n, 0))
  b5 : B.length ≤ 5
  t5 : T.length ≤ 5
  n5 : 0 ≤ n ∧ n ≤ 5
def DD : Int × Int := (0, 86400)
def MM : Int × Int := (-1000000000000, 1000000000000)
theorem count_blk : Blk countB [] [true, true] 2 := ⟨by kernel_rfl, by kernel_rfl, by decide, by decide, by decide⟩
theorem edge_blk : Blk edgeB [] [true] 1 := ⟨by kernel_rfl, by kernel_rfl, by decide, by decide, by decide⟩
theorem hyst_blk : Blk hystB [MM, MM] [false] 1 := ⟨by kernel_rfl, by kernel_rfl, by decide, by decide, by decide⟩
theorem latch_blk : Blk latchB [] [true, true] 1 := ⟨by kernel_rfl, by kernel_rfl, by decide, by decide, by decide⟩
theorem minrun_blk : Blk minrunB [DD, DD] [true] 2 := ⟨by kernel_rfl, by kernel_rfl, by decide, by decide, by decide⟩
theorem offdelay_blk : Blk offdelayB [DD] [true] 1 := ⟨by kernel_rfl, by kernel_rfl, by decide, by decide, by decide⟩
theorem ondelay_blk : Blk ondelayB [DD] [true] 1 := ⟨by kernel_rfl, by kernel_rfl, by decide, by decide, by decide⟩
theorem pulse_blk : Blk pulseB [DD] [true] 2 := ⟨by kernel_rfl, by kernel_rfl, by decide, by decide, by decide⟩
/-- Do numbers lie in their bounds? 0 or 1. -/
def chk : List (Int × Int) → List Int → Int
  | b :: bs, p :: ps => if p < b.1 then 1 else if p > b.2 then 1 else chk bs ps
  | _, _ => 0
theorem rdT (bs : List S61) (i : Nat) (h : i < bs.length) : rd_T61 bs i = bs[i] := by
  unfold rd_T61; rw [Int.toNat_natCast, List.getD_eq_getElem?_getD, List.getElem?_eq_getElem h]; rfl
theorem rdP (bs : List S64) (i : Nat) (h : i < bs.length) : rd_T64 bs i = bs[i] := by
  unfold rd_T64; rw [Int.toNat_natCast, List.getD_eq_getElem?_getD, List.getElem?_eq_getElem h]; rfl
theorem rdV (bs : List S26) (i : Nat) (h : i < bs.length) : rd_T26 bs i = bs[i] := by
  unfold rd_T26; rw [Int.toNat_natCast, List.getD_eq_getElem?_getD, List.getElem?_eq_getElem h]; rfl
theorem rdI (l : List Int) (i : Nat) (h : i < l.length) : rd l i = l[i] := by
  unfold rd; rw [Int.toNat_natCast, List.getD_eq_getElem?_getD, List.getElem?_eq_getElem h]; rfl
theorem chk_at (bs : List S61) (l : List Int) (i : Nat) (h : i < bs.length) (h2 : i < l.length) : chk ((bs.map bnd).drop i) (l.drop i) = if l[i] < bs[i].f1 then 1 else if l[i] > bs[i].f2 then 1 else chk ((bs.map bnd).drop (i + 1)) (l.drop (i + 1)) := by
  rw [List.drop_eq_getElem_cons (i := i) (l := l) h2, List.drop_eq_getElem_cons (i := i) (l := bs.map bnd) (by simpa using h)]
  simp only [chk, List.getElem_map]
  rfl
abbrev Dsc := ByteArray × (List (S61)) × (List (S64)) × (List (S64)) × Int × Int × Int
def noD : Dsc := ((⟨#[]⟩ : ByteArray), ([] : List (S61)), ([] : List (S64)), ([] : List (S64)), 0, 0, 1)
/-- Are parameters right? -/
def goodP (nm : ByteArray) (B : List (Int × Int)) (l : List Int) : Prop := l.length = B.length ∧ chk B l = 0 ∧ (nm.toList = ([104, 121, 115, 116] : List UInt8) → rd l 1 < rd l 0)
instance (nm B l) : Decidable (goodP nm B l) := inferInstanceAs (Decidable (_ ∧ _ ∧ _))
theorem find_l0 (nm : ByteArray) (bs : List S61) (l : List Int) (D : Dsc) (hD : D.2.2.2.2.2.2 = 0) (hl : l.length = bs.length) (hn : bs.length ≤ 5) (h2 : nm.toList = ([104, 121, 115, 116] : List UInt8) → bs.length = 2) : ∀ (d i k : Nat), i + d = bs.length → d < k →
    timer_find.l0 k nm l bs (bs.length : Int) (i : Int) D.1 D.2.1 D.2.2.1 D.2.2.2.1 D.2.2.2.2.1 D.2.2.2.2.2.1 = some (if chk ((bs.map bnd).drop i) (l.drop i) = 0 ∧ (nm.toList = ([104, 121, 115, 116] : List UInt8) → rd l 1 < rd l 0) then D else noD)
  | 0, i, k, hd, hk => by
    obtain ⟨k, rfl⟩ : ∃ m, k = m + 1 := ⟨k - 1, by omega⟩
    simp only [timer_find.l0]
    rw [if_neg (by omega), (List.drop_eq_nil_of_le (by simp; omega) : (bs.map bnd).drop i = [])]
    have e : (D.1, D.2.1, D.2.2.1, D.2.2.2.1, D.2.2.2.2.1, D.2.2.2.2.2.1, (0 : Int)) = D := by rw [← hD]
    have c0 : chk [] (l.drop i) = 0 := rfl
    by_cases hh : nm.toList = ([104, 121, 115, 116] : List UInt8)
    · have hl2 := h2 hh
      rw [if_pos hh, if_pos (by omega), if_pos (by omega)]
      by_cases hc : rd l 1 ≥ rd l 0
      · rw [if_pos hc, if_neg (fun h => by have := h.2 hh; omega)]; rfl
      · rw [if_neg hc, if_pos ⟨c0, fun _ => by omega⟩, e]
    · rw [if_neg hh, if_pos ⟨c0, fun h => absurd h hh⟩, e]
  | d + 1, i, k, hd, hk => by
    obtain ⟨k, rfl⟩ : ∃ m, k = m + 1 := ⟨k - 1, by omega⟩
    have ih := find_l0 nm bs l D hD hl hn h2 d (i + 1) k (by omega) (by omega)
    simp only [timer_find.l0]
    rw [if_pos (by omega), if_pos (by omega), if_pos (by omega), if_pos (by omega), rdI l i (by omega), rdT bs i (by omega), chk_at bs l i (by omega) (by omega)]
    rw [wrap_id (by omega) (by omega), show (i : Int) + 1 = ((i + 1 : Nat) : Int) by omega, ih]
    split
    · rw [if_neg (fun h => absurd h.1 (by decide))]; rfl
    · split
      · rw [if_neg (fun h => absurd h.1 (by decide))]; rfl
      · rfl
theorem names_at {nm : ByteArray} {r : Bool} (h : (timer_Names.f.bind fun t => slices_Contains_string_string.f 20 t nm) = some r) (k : Nat) (hk : 20 ≤ k) : (timer_Names.f.bind fun t => slices_Contains_string_string.f k t nm) = some r := by
  obtain ⟨t, ht, h1⟩ := Option.bind_eq_some_iff.1 h
  rw [ht, Option.bind_some]
  exact at_rounds (slices_Contains_string_string.mono _ _) hk h1
theorem find_f {nm : ByteArray} {B T n} (b : Blk nm B T n) (hh : nm.toList = ([104, 121, 115, 116] : List UInt8) → B.length = 2) : ∃ D : Dsc, D.2.1.map bnd = B ∧ D.2.2.1.map isb = T ∧ D.2.2.2.2.1 = n ∧ D.2.2.2.2.2.2 = 0 ∧ ∀ l k, 50 ≤ k → timer_find.f k nm l = some (if goodP nm B l then D else noD) := by
  obtain ⟨D, h1, h2⟩ := Option.map_eq_some_iff.1 b.f
  simp only [Prod.mk.injEq] at h2
  obtain ⟨⟨e1, e2⟩, e3, e4⟩ := h2
  refine ⟨D, e1, e2, e3, e4, fun l k hk => ?_⟩
  have hlen : D.2.1.length = B.length := by rw [← e1, List.length_map]
  unfold timer_find.f
  obtain ⟨t, ht, hc⟩ := Option.bind_eq_some_iff.1 (names_at b.c k (by omega))
  rw [ht, Option.bind_some, hc, Option.bind_some, if_pos rfl, at_rounds (block_Find.mono _) (by omega : 40 ≤ k) h1, Option.bind_some, if_pos e4]
  by_cases hl : l.length = B.length
  · rw [if_pos (by omega)]
    have hb := b.b5
    have := find_l0 nm D.2.1 l D e4 (by omega) (by omega) (fun h => by have := hh h; omega) D.2.1.length 0 k (by omega) (by omega)
    rw [e1, List.drop_zero, List.drop_zero] at this
    refine Eq.trans this ?_
    by_cases hg : chk B l = 0 ∧ (nm.toList = ([104, 121, 115, 116] : List UInt8) → rd l 1 < rd l 0)
    · rw [if_pos hg, if_pos (show goodP nm B l from ⟨hl, hg⟩)]
    · rw [if_neg hg, if_neg (show ¬ goodP nm B l from fun h => hg h.2)]
  · rw [if_neg (by omega), if_neg (fun h => hl h.1)]; rfl
/-- Does a value fit an input? -/
def fitv (t : Bool) (v : S26) : Bool := if t then decide (v.f0 = 2 ∧ (v.f1 = 0 ∨ v.f1 = 1)) else decide (v.f0 = 1)
def inp : List Bool → List S26 → Int
  | t :: ts, v :: vs => if fitv t v = true then inp ts vs else 11
  | _, _ => 0
theorem inputs_l0 (r : List S26) (D : Dsc) (hl : r.length = D.2.2.1.length) (hn : r.length ≤ 5) : ∀ (d i k : Nat), i + d = r.length → d < k →
    timer_inputs.l0 k r (r.length : Int) (i : Int) D.1 D.2.1 D.2.2.1 D.2.2.2.1 D.2.2.2.2.1 D.2.2.2.2.2.1 = some (inp ((D.2.2.1.map isb).drop i) (r.drop i))
  | 0, i, k, hd, hk => by
    obtain ⟨k, rfl⟩ : ∃ m, k = m + 1 := ⟨k - 1, by omega⟩
    simp only [timer_inputs.l0]
    rw [if_neg (by omega), (List.drop_eq_nil_of_le (by simp; omega) : (D.2.2.1.map isb).drop i = [])]
    rfl
  | d + 1, i, k, hd, hk => by
    obtain ⟨k, rfl⟩ : ∃ m, k = m + 1 := ⟨k - 1, by omega⟩
    have ih := inputs_l0 r D hl hn d (i + 1) k (by omega) (by omega)
    have hi : i < D.2.2.1.length := by omega
    simp only [timer_inputs.l0]
    rw [if_pos (by omega), if_pos (by omega), if_pos (by omega), if_pos (by omega), rdP D.2.2.1 i hi, rdV r i (by omega)]
    rw [List.drop_eq_getElem_cons (i := i) (l := r) (by omega), List.drop_eq_getElem_cons (i := i) (l := D.2.2.1.map isb) (by simpa using hi), List.getElem_map]
    rw [wrap_id (by omega) (by omega), show (i : Int) + 1 = ((i + 1 : Nat) : Int) by omega, ih]
    simp only [inp]
    by_cases c : (D.2.2.1[i]).f1.toList = ([98, 105, 110, 97, 114, 121] : List UInt8)
    · have e : isb D.2.2.1[i] = true := beq_iff_eq.2 c
      rw [if_pos c, e]
      unfold fitv
      rw [if_pos (rfl : true = true)]
      by_cases c1 : (r[i]).f0 = 2
      · rw [if_pos c1]
        by_cases c2 : (r[i]).f1 = 0
        · rw [if_pos c2, if_pos (decide_eq_true ⟨c1, .inl c2⟩)]
        · rw [if_neg c2]
          by_cases c3 : (r[i]).f1 = 1
          · rw [if_pos c3, if_pos (decide_eq_true ⟨c1, .inr c3⟩)]
          · rw [if_neg c3, if_neg (fun h => (of_decide_eq_true h).2.elim c2 c3)]
      · rw [if_neg c1, if_neg (fun h => c1 (of_decide_eq_true h).1)]
    · have e : isb D.2.2.1[i] = false := beq_eq_false_iff_ne.2 c
      rw [if_neg c, e]
      unfold fitv
      rw [if_neg (show ¬ (false = true) by simp)]
      by_cases c1 : (r[i]).f0 = 1
      · rw [if_pos c1, if_pos (decide_eq_true c1)]
      · rw [if_neg c1, if_neg (fun h => c1 (of_decide_eq_true h))]
def inpE (T : List Bool) (r : List S26) : Int := if r.length = T.length then inp T r else 1
theorem inputs_f {T : List Bool} (hT : T.length ≤ 5) (r : List S26) (D : Dsc) (h : D.2.2.1.map isb = T) (k : Nat) (hk : 6 ≤ k) : timer_inputs.f k D.1 D.2.1 D.2.2.1 D.2.2.2.1 D.2.2.2.2.1 D.2.2.2.2.2.1 r = some (inpE T r) := by
  have hlen : D.2.2.1.length = T.length := by rw [← h, List.length_map]
  unfold timer_inputs.f inpE
  by_cases c : r.length = T.length
  · rw [if_pos c, if_pos (by omega)]
    have := inputs_l0 r D (by omega) (by omega) r.length 0 k (by omega) (by omega)
    rw [h] at this
    simpa using this
  · rw [if_neg c, if_neg (by omega)]
theorem step_f {nm : ByteArray} {B T n} (b : Blk nm B T n) (hh : nm.toList = ([104, 121, 115, 116] : List UInt8) → B.length = 2) (l s : List Int) (r : List S26) (dt : Int) (k : Nat) (hk : 60 ≤ k) :
    timer_Step.f (k + 1) nm l s r dt = if goodP nm B l then (if (s.length : Int) = n then ((timer_possible.f nm l s).bind fun p => if p = true ∧ 1 ≤ dt ∧ dt ≤ 86400 then (if inpE T r = 0 then (timer_step.f k nm l s r dt).bind fun t => some (t.2.2, t.1, t.2.1, 0) else some ([], 0, 0, inpE T r)) else some ([], 0, 0, 1)) else some ([], 0, 0, 1)) else some ([], 0, 0, 1) := by
  obtain ⟨D, e1, e2, e3, e4, hf⟩ := find_f b hh
  unfold timer_Step.f
  rw [hf l _ (by omega), Option.bind_some]
  by_cases hg : goodP nm B l
  · rw [if_pos hg, if_pos hg, if_pos e4, e3]
    by_cases hs : (s.length : Int) = n
    · rw [if_pos hs, if_pos hs]
      have hn := b.n5
      cases hp : timer_possible.f nm l s with
      | none => rfl
      | some p =>
        rw [Option.bind_some, Option.bind_some]
        cases p with
        | false =>
          rw [if_neg (by simp), if_neg (fun h => absurd h.1 (by simp))]
          simp only [timer_Step.j0]; rfl
        | true =>
          rw [if_pos rfl]
          by_cases d1 : dt < 1
          · rw [if_pos d1, if_neg (fun h => by omega)]
            simp only [timer_Step.j0]; rfl
          · rw [if_neg d1]
            by_cases d2 : dt > 86400
            · rw [decide_eq_true d2, if_neg (fun h => by omega)]
              simp only [timer_Step.j0]; rfl
            · rw [decide_eq_false d2, if_pos ⟨rfl, by omega, by omega⟩]
              simp only [timer_Step.j0]
              have hi := inputs_f b.t5 r D e2 k (by omega)
              rw [e3] at hi
              rw [if_neg (by simp), hi, Option.bind_some]
              by_cases c : inpE T r = 0
              · rw [if_pos c, if_pos c, if_pos (by omega), if_pos (by omega), if_pos (by simp)]
              · rw [if_neg c, if_neg c]
    · rw [if_neg hs, if_neg hs]
      simp only [timer_Step.j0]; rfl
  · rw [if_neg hg, if_neg hg]; rfl
theorem awake_f (k : Nat) (hk : 100 ≤ k) : plenumlaw19_awake.f k = some true := at_rounds plenumlaw19_awake.mono hk (by kernel_rfl)
end Go.Proofs.YtjjbdgngncgikaaGreatDoor.Tm
