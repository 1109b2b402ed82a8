/-
  PLAIN LAWS OF THE TIMERS, 6: what the reference knows of each block; names that are no block's.
-/
import Derived.Test.YtjjbdgngncgikaaGreatDoorTm5
import Derived.Test.YtjjbdgngncgikaaGreatDoorRx10
import Derived.Test.YtjjbdgngncgikaaGreatDoorRx13
import Derived.Test.YtjjbdgngncgikaaGreatDoorRx14
namespace Go.Proofs.YtjjbdgngncgikaaGreatDoor.Tm
open Go Go.RowKit Go.Proofs.YtjjbdgngncgikaaGreatDoor.R Go.Proofs.YtjjbdgngncgikaaGreatDoorW.PrintWords Go.Proofs.YtjjbdgngncgikaaGreatDoorW.PrintMore

set_option linter.unusedVariables false
set_option linter.unusedSimpArgs false
theorem inp_two : ∀ (T : List Bool) (r : List S26), inp T r = 0 ∨ inp T r = 11
  | [], _ => .inl rfl
  | _ :: _, [] => .inl rfl
  | t :: T, v :: r => by
    simp only [inp]
    split
    · exact inp_two T r
    · exact .inr rfl
theorem typed1 {nm : ByteArray} {t : Bool} (ht : (nm.toList = ([104, 121, 115, 116] : List UInt8)) ↔ t = false) (r : List S26) (k : Nat) (hk : 60 ≤ k) (hr : r.length = ([t] : List Bool).length) : plenumref19_Typed.f k nm r = some (decide (inp [t] r = 0)) := by
  match r, hr with
  | [v], _ =>
    refine Eq.trans (typed_l0 nm t ht [v] (by simp) 1 0 k (by simp) (by omega)) ?_
    simp only [List.drop_zero, List.all_cons, List.all_nil, Bool.and_true]
    have e : inp [t] [v] = if fitv t v = true then 0 else 11 := rfl
    rw [e]
    by_cases a : fitv t v = true
    · rw [if_pos a, a]; rfl
    · rw [if_neg a, (Bool.not_eq_true _).mp a]; rfl
theorem typed2 {nm : ByteArray} {t : Bool} (ht : (nm.toList = ([104, 121, 115, 116] : List UInt8)) ↔ t = false) (r : List S26) (k : Nat) (hk : 60 ≤ k) (hr : r.length = ([t, t] : List Bool).length) : plenumref19_Typed.f k nm r = some (decide (inp [t, t] r = 0)) := by
  match r, hr with
  | [v, w], _ =>
    refine Eq.trans (typed_l0 nm t ht [v, w] (by simp) 2 0 k (by simp) (by omega)) ?_
    simp only [List.drop_zero, List.all_cons, List.all_nil, Bool.and_true]
    have e : inp [t, t] [v, w] = if fitv t v = true then (if fitv t w = true then 0 else 11) else 11 := rfl
    rw [e]
    by_cases a : fitv t v = true
    · rw [if_pos a, a, Bool.true_and]
      by_cases b : fitv t w = true
      · rw [if_pos b, b]; rfl
      · rw [if_neg b, (Bool.not_eq_true _).mp b]; rfl
    · rw [if_neg a, (Bool.not_eq_true _).mp a, Bool.false_and]; rfl
theorem inp1_bv {r : List S26} (hr : r.length = ([true] : List Bool).length) (h : inp [true] r = 0) : ∃ a, r = [bv a] := by
  match r, hr with
  | [v], _ =>
    simp only [inp] at h
    split at h
    · rename_i hf
      obtain ⟨a, rfl⟩ := fit_bv hf
      exact ⟨a, rfl⟩
    · omega
theorem inp2_bv {r : List S26} (hr : r.length = ([true, true] : List Bool).length) (h : inp [true, true] r = 0) : ∃ a b, r = [bv a, bv b] := by
  match r, hr with
  | [v, w], _ =>
    simp only [inp] at h
    split at h
    · rename_i hf
      split at h
      · rename_i hg
        obtain ⟨a, rfl⟩ := fit_bv hf
        obtain ⟨b, rfl⟩ := fit_bv hg
        exact ⟨a, b, rfl⟩
      · omega
    · omega
theorem inp1_an {r : List S26} (hr : r.length = ([false] : List Bool).length) (h : inp [false] r = 0) : ∃ x, r = [⟨1, x⟩] := by
  match r, hr with
  | [v], _ =>
    simp only [inp] at h
    split at h
    · rename_i hf
      obtain ⟨x, rfl⟩ := fit_an hf
      exact ⟨x, rfl⟩
    · omega
theorem good0 {nm : ByteArray} (hn : nm.toList ≠ ([104, 121, 115, 116] : List UInt8)) (l : List Int) : goodP nm [] l ↔ l = [] :=
  ⟨fun h => List.eq_nil_of_length_eq_zero h.1, fun h => by subst h; exact ⟨rfl, rfl, fun h => absurd h hn⟩⟩
theorem good1 {nm : ByteArray} (hn : nm.toList ≠ ([104, 121, 115, 116] : List UInt8)) (l : List Int) : goodP nm [DD] l ↔ ∃ a, l = [a] ∧ 0 ≤ a ∧ a ≤ 86400 := by
  constructor
  · intro h
    match l, h.1 with
    | [a], _ =>
      have h2 : (if a < 0 then (1 : Int) else if a > 86400 then 1 else 0) = 0 := h.2.1
      refine ⟨a, rfl, ?_⟩
      split at h2
      · omega
      · split at h2 <;> omega
  · rintro ⟨a, rfl, h1, h2⟩
    exact good_one hn h1 h2
theorem good2 {nm : ByteArray} (hn : nm.toList ≠ ([104, 121, 115, 116] : List UInt8)) (l : List Int) : goodP nm [DD, DD] l ↔ ∃ a b, l = [a, b] ∧ (0 ≤ a ∧ a ≤ 86400) ∧ (0 ≤ b ∧ b ≤ 86400) := by
  constructor
  · intro h
    match l, h.1 with
    | [a, b], _ =>
      have h2 : (if a < 0 then (1 : Int) else if a > 86400 then 1 else if b < 0 then 1 else if b > 86400 then 1 else 0) = 0 := h.2.1
      refine ⟨a, b, rfl, ?_⟩
      repeat' (split at h2)
      all_goals omega
  · rintro ⟨a, b, rfl, ⟨h1, h2⟩, h3, h4⟩
    exact good_two hn h1 h2 h3 h4
theorem goodH2 (l : List Int) : goodP hystB [MM, MM] l ↔ ∃ a b, l = [a, b] ∧ (-1000000000000 ≤ a ∧ a ≤ 1000000000000) ∧ (-1000000000000 ≤ b ∧ b ≤ 1000000000000) ∧ b < a := by
  constructor
  · intro h
    match l, h.1 with
    | [a, b], _ =>
      have h2 : (if a < -1000000000000 then (1 : Int) else if a > 1000000000000 then 1 else if b < -1000000000000 then 1 else if b > 1000000000000 then 1 else 0) = 0 := h.2.1
      have h3 : b < a := h.2.2 hystB_l
      refine ⟨a, b, rfl, ?_⟩
      repeat' (split at h2)
      all_goals omega
  · rintro ⟨a, b, rfl, ⟨h1, h2⟩, ⟨h3, h4⟩, h5⟩
    refine ⟨rfl, ?_, fun _ => h5⟩
    show (if a < -1000000000000 then (1 : Int) else if a > 1000000000000 then 1 else if b < -1000000000000 then 1 else if b > 1000000000000 then 1 else 0) = 0
    rw [if_neg (by omega), if_neg (by omega), if_neg (by omega), if_neg (by omega)]
theorem formed0 {nm : ByteArray} (hn : nm.toList ≠ ([104, 121, 115, 116] : List UInt8)) (h2 : nm.toList ≠ minrunB.toList) (h3 : nm.toList ≠ offdelayB.toList) (h4 : nm.toList ≠ ondelayB.toList) (h5 : nm.toList ≠ pulseB.toList) (l : List Int) : plenumref19_Formed.f nm l = some (decide (goodP nm [] l)) := by
  rw [minrunB_l] at h2; rw [offdelayB_l] at h3; rw [ondelayB_l] at h4; rw [pulseB_l] at h5
  unfold plenumref19_Formed.f
  rw [if_neg hn, if_neg h2, if_neg h3, if_neg h4, if_neg h5]
  cases l with
  | nil => rw [decide_eq_true ((good0 hn []).2 rfl)]; rfl
  | cons a l => rw [decide_eq_false (fun h => absurd ((good0 hn (a :: l)).1 h) (by simp))]; exact congrArg some (beq_eq_false_iff_ne.2 (by simp only [List.length_cons]; omega))
theorem sec1 (l : List Int) (P : Prop) [Decidable P] (h : P ↔ ∃ a, l = [a] ∧ 0 ≤ a ∧ a ≤ 86400) : (if (l.length : Int) = 1 then (if 0 < (l.length : Int) then ((plenumref19_seconds.f (rd l 0)).bind fun t => some t) else none) else some false) = some (decide P) := by
  by_cases c : l.length = 1
  · match l, c with
    | [a], _ =>
      rw [if_pos (by rfl), if_pos len1, r0, seconds_f, Option.bind_some]
      congr 1
      refine decide_eq_decide.2 ⟨fun q => h.2 ⟨a, rfl, q⟩, fun q => ?_⟩
      obtain ⟨b, hb, q⟩ := h.1 q
      cases hb; exact q
  · rw [if_neg (by omega)]
    symm; congr 1
    exact decide_eq_false fun q => by obtain ⟨a, rfl, _⟩ := h.1 q; exact c rfl
theorem on_rb : RB ondelayB [DD] [true] 1 where
  known := by kernel_rfl
  formed l := by
    unfold plenumref19_Formed.f
    rw [ondelayB_l, if_neg (by decide), if_neg (by decide), if_neg (by decide), if_pos rfl]
    exact sec1 l _ (good1 nh_on l)
  poss l s k hk hg := by
    obtain ⟨time, rfl, h1, h2⟩ := (good1 nh_on l).1 hg
    by_cases c : s.length = 1
    · match s, c with
      | [t], _ =>
        refine ⟨_, ?_, fun h => absurd rfl h, fun _ => pos_on time t h1 h2⟩
        unfold plenumref19_Possible.f
        rw [show plenumref19_Length.f ondelayB = some 1 from by kernel_rfl, Option.bind_some, if_pos (by rfl), if_pos len1, ondelayB_l, if_pos rfl, r0, if_pos len1, r0, wrap_id (by omega) (by omega)]
        by_cases d : t ≥ 0
        · rw [if_pos d]; congr 1; apply decide_eq_decide.2; omega
        · rw [if_neg d]; symm; congr 1; exact decide_eq_false (by omega)
    · refine ⟨false, ?_, fun _ => rfl, fun h => absurd h c⟩
      unfold plenumref19_Possible.f
      rw [show plenumref19_Length.f ondelayB = some 1 from by kernel_rfl, Option.bind_some, if_neg (by omega)]
  count := by kernel_rfl
  typed := typed1 ⟨fun h => absurd h nh_on, fun h => absurd h (by simp)⟩
  inpe := inp_two _
  step l s r dt k hk hg hs hp d1 d2 hr hi := by
    obtain ⟨time, rfl, h1, h2⟩ := (good1 nh_on l).1 hg
    obtain ⟨a, rfl⟩ := inp1_bv hr hi
    match s, hs with
    | [t], _ =>
      rw [pos_on time t h1 h2] at hp
      have hp := of_decide_eq_true (Option.some.inj hp)
      obtain ⟨k, rfl⟩ : ∃ m, k = m + 1 := ⟨k - 1, by omega⟩
      refine ⟨[(onS time dt t a).1], 2, bitv (onS time dt t a).2, ?_, g_on time dt t a hp.1 hp.2 h1 h2 d1 d2 k, rfl, ?_⟩
      · have := f_on time t (bitv a) 2 dt [] hp.1 hp.2 h1 h2 d1 d2 (k + 1)
        rw [bitv_one] at this
        exact this
      · rw [pos_on time _ h1 h2]
        congr 1
        apply decide_eq_true
        unfold onS
        split
        · simp only; split <;> omega
        · simp only; omega
theorem off_rb : RB offdelayB [DD] [true] 1 where
  known := by kernel_rfl
  formed l := by
    unfold plenumref19_Formed.f
    rw [offdelayB_l, if_neg (by decide), if_neg (by decide), if_pos rfl]
    exact sec1 l _ (good1 nh_off l)
  poss l s k hk hg := by
    obtain ⟨time, rfl, h1, h2⟩ := (good1 nh_off l).1 hg
    by_cases c : s.length = 1
    · match s, c with
      | [t], _ =>
        refine ⟨_, ?_, fun h => absurd rfl h, fun _ => pos_off time t⟩
        unfold plenumref19_Possible.f
        rw [show plenumref19_Length.f offdelayB = some 1 from by kernel_rfl, Option.bind_some, if_pos (by rfl), if_pos len1, offdelayB_l, if_neg (by decide), if_pos rfl, r0, if_pos len1, r0]
        by_cases d : t ≥ -1
        · rw [if_pos d]; congr 1; apply decide_eq_decide.2; omega
        · rw [if_neg d]; symm; congr 1; exact decide_eq_false (by omega)
    · refine ⟨false, ?_, fun _ => rfl, fun h => absurd h c⟩
      unfold plenumref19_Possible.f
      rw [show plenumref19_Length.f offdelayB = some 1 from by kernel_rfl, Option.bind_some, if_neg (by omega)]
  count := by kernel_rfl
  typed := typed1 ⟨fun h => absurd h nh_off, fun h => absurd h (by simp)⟩
  inpe := inp_two _
  step l s r dt k hk hg hs hp d1 d2 hr hi := by
    obtain ⟨time, rfl, h1, h2⟩ := (good1 nh_off l).1 hg
    obtain ⟨a, rfl⟩ := inp1_bv hr hi
    match s, hs with
    | [t], _ =>
      rw [pos_off time t] at hp
      have hp := of_decide_eq_true (Option.some.inj hp)
      obtain ⟨k, rfl⟩ : ∃ m, k = m + 2 := ⟨k - 2, by omega⟩
      refine ⟨[(offS time dt t a).1], 2, bitv (offS time dt t a).2, ?_, g_off time dt t a hp.1 hp.2 h1 h2 d1 d2 k, rfl, ?_⟩
      · have := f_off time t (bitv a) 2 dt [] hp.1 hp.2 h1 h2 d1 d2 (k + 2)
        rw [bitv_one] at this
        exact this
      · rw [pos_off time _]
        congr 1
        apply decide_eq_true
        unfold offS
        split
        · simp only; omega
        · split
          · simp only; omega
          · by_cases e : (if t = -1 then 0 else t - 1 + dt) < time
            · rw [if_pos e]
              by_cases g : t = -1
              · rw [if_pos g] at e ⊢; exact ⟨by decide, by omega⟩
              · rw [if_neg g] at e ⊢; exact ⟨by show -1 ≤ t - 1 + dt + 1; omega, by show t - 1 + dt + 1 ≤ time; omega⟩
            · rw [if_neg e]; exact ⟨by decide, h1⟩
theorem nonhd {nm : ByteArray} (h1 : nm.toList ≠ ondelayB.toList) (h2 : nm.toList ≠ offdelayB.toList) : nm.toList ≠ ([111, 110, 100, 101, 108, 97, 121] : List UInt8) ∧ nm.toList ≠ ([111, 102, 102, 100, 101, 108, 97, 121] : List UInt8) := ⟨by rw [← ondelayB_l]; exact h1, by rw [← offdelayB_l]; exact h2⟩
theorem pos01 {nm : ByteArray} (ps s : List Int) (k : Nat) (n : Int) (t : Int) (hl : plenumref19_Length.f nm = some n) (hn : (s.length : Int) = n) (h0 : 0 < (s.length : Int)) (ht : rd s 0 = t) (h1 : nm.toList ≠ ondelayB.toList) (h2 : nm.toList ≠ offdelayB.toList) :
    plenumref19_Possible.f k nm ps s = plenumref19_Possible.j0 k nm ps s t (decide (¬ (0 ≤ t ∧ t ≤ 1))) := by
  obtain ⟨h1, h2⟩ := nonhd h1 h2
  unfold plenumref19_Possible.f
  rw [hl, Option.bind_some, if_pos hn, if_pos h0, if_neg h1, if_neg h2, ht]
  by_cases c : t < 0
  · rw [if_pos c, decide_eq_true (by omega)]
  · rw [if_neg c]; congr 1; apply decide_eq_decide.2; omega
theorem possN {nm : ByteArray} (ps s : List Int) (k : Nat) (n : Int) (hl : plenumref19_Length.f nm = some n) (hn : ¬ (s.length : Int) = n) : plenumref19_Possible.f k nm ps s = some false := by
  unfold plenumref19_Possible.f
  rw [hl, Option.bind_some, if_neg hn]
/-- The blocks with one number that is 0 or 1. -/
theorem poss1 {nm : ByteArray} (hl : plenumref19_Length.f nm = some 1) (h1 : nm.toList ≠ ondelayB.toList) (h2 : nm.toList ≠ offdelayB.toList) (h3 : nm.toList ≠ countB.toList) (h4 : nm.toList ≠ pulseB.toList) (h5 : nm.toList ≠ minrunB.toList)
    (hp : ∀ ps t, timer_possible.f nm ps [t] = some (decide (0 ≤ t ∧ t ≤ 1))) (ps s : List Int) (k : Nat) (hk : 5 ≤ k) :
    ∃ p, plenumref19_Possible.f k nm ps s = some p ∧ (s.length ≠ 1 → p = false) ∧ (s.length = 1 → timer_possible.f nm ps s = some p) := by
  rw [countB_l] at h3; rw [pulseB_l] at h4; rw [minrunB_l] at h5
  by_cases c : s.length = 1
  · match s, c with
    | [t], _ =>
      refine ⟨_, ?_, fun h => absurd rfl h, fun _ => hp ps t⟩
      obtain ⟨k, rfl⟩ : ∃ m, k = m + 1 := ⟨k - 1, by omega⟩
      rw [pos01 ps [t] _ 1 t hl (by rfl) len1 r0 h1 h2]
      simp only [plenumref19_Possible.j0]
      by_cases d : 0 ≤ t ∧ t ≤ 1
      · rw [decide_eq_true d, if_neg (by simp [d]), if_neg h3, if_neg h4, if_neg h5]
      · rw [decide_eq_false d, if_pos (by simp [d])]
  · exact ⟨false, possN ps s k 1 hl (by omega), fun _ => rfl, fun h => absurd h c⟩
theorem edg_rb : RB edgeB [] [true] 1 where
  known := by kernel_rfl
  formed := formed0 nh_edg (by rw [edgeB_l, minrunB_l]; decide) (by rw [edgeB_l, offdelayB_l]; decide) (by rw [edgeB_l, ondelayB_l]; decide) (by rw [edgeB_l, pulseB_l]; decide)
  poss l s k hk hg := poss1 (by kernel_rfl) (by rw [edgeB_l, ondelayB_l]; decide) (by rw [edgeB_l, offdelayB_l]; decide) (by rw [edgeB_l, countB_l]; decide) (by rw [edgeB_l, pulseB_l]; decide) (by rw [edgeB_l, minrunB_l]; decide) pos_edge l s k hk
  count := by kernel_rfl
  typed := typed1 ⟨fun h => absurd h nh_edg, fun h => absurd h (by simp)⟩
  inpe := inp_two _
  step l s r dt k hk hg hs hp d1 d2 hr hi := by
    obtain rfl := (good0 nh_edg l).1 hg
    obtain ⟨a, rfl⟩ := inp1_bv hr hi
    match s, hs with
    | [t], _ =>
      obtain ⟨k, rfl⟩ : ∃ m, k = m + 1 := ⟨k - 1, by omega⟩
      refine ⟨[bitv a], 2, bitv (a && t == 0), ?_, g_edge t a dt k, rfl, ?_⟩
      · have := f_edge [] t (bitv a) 2 dt [] (k + 1)
        rw [bitv_one] at this
        exact this
      · rw [pos_edge]; congr 1; exact decide_eq_true (bitv_wf a)
theorem lat_rb : RB latchB [] [true, true] 1 where
  known := by kernel_rfl
  formed := formed0 nh_lat (by rw [latchB_l, minrunB_l]; decide) (by rw [latchB_l, offdelayB_l]; decide) (by rw [latchB_l, ondelayB_l]; decide) (by rw [latchB_l, pulseB_l]; decide)
  poss l s k hk hg := poss1 (by kernel_rfl) (by rw [latchB_l, ondelayB_l]; decide) (by rw [latchB_l, offdelayB_l]; decide) (by rw [latchB_l, countB_l]; decide) (by rw [latchB_l, pulseB_l]; decide) (by rw [latchB_l, minrunB_l]; decide) pos_latch l s k hk
  count := by kernel_rfl
  typed := typed2 ⟨fun h => absurd h nh_lat, fun h => absurd h (by simp)⟩
  inpe := inp_two _
  step l s r dt k hk hg hs hp d1 d2 hr hi := by
    obtain rfl := (good0 nh_lat l).1 hg
    obtain ⟨a, b, rfl⟩ := inp2_bv hr hi
    match s, hs with
    | [t], _ =>
      rw [pos_latch] at hp
      have hp := of_decide_eq_true (Option.some.inj hp)
      refine ⟨[latS t a b], 2, bitv (latS t a b == 1), ?_, g_latch t a b dt k (by omega), rfl, ?_⟩
      · have := f_latch [] t (bitv a) (bitv b) 2 2 dt [] k
        rw [bitv_one, bitv_one] at this
        exact this
      · rw [pos_latch]; congr 1; apply decide_eq_true
        unfold latS; split
        · omega
        · split <;> omega
theorem hys_rb : RB hystB [MM, MM] [false] 1 where
  known := by kernel_rfl
  formed l := by
    unfold plenumref19_Formed.f
    rw [hystB_l, if_pos rfl]
    by_cases c : l.length = 2
    · match l, c with
      | [a, b], _ =>
        rw [if_pos (by rfl), if_pos len2, r00, inside_f, Option.bind_some]
        have e : goodP hystB [MM, MM] [a, b] ↔ (-1000000000000 ≤ a ∧ a ≤ 1000000000000) ∧ (-1000000000000 ≤ b ∧ b ≤ 1000000000000) ∧ b < a := by
          refine (goodH2 [a, b]).trans ⟨?_, fun q => ⟨a, b, rfl, q⟩⟩
          rintro ⟨x, y, h, q⟩
          cases h; exact q
        by_cases c1 : -1000000000000 ≤ a ∧ a ≤ 1000000000000
        · rw [if_pos (decide_eq_true c1), if_pos len21, r1, inside_f, Option.bind_some]
          by_cases c2 : -1000000000000 ≤ b ∧ b ≤ 1000000000000
          · rw [if_pos (decide_eq_true c2)]; congr 1; exact decide_eq_decide.2 ⟨fun q => e.2 ⟨c1, c2, q⟩, fun q => (e.1 q).2.2⟩
          · rw [if_neg (by simpa using c2)]; symm; congr 1; exact decide_eq_false fun q => c2 (e.1 q).2.1
        · rw [if_neg (by simpa using c1)]; symm; congr 1; exact decide_eq_false fun q => c1 (e.1 q).1
    · rw [if_neg (by omega)]; symm; congr 1; exact decide_eq_false fun q => c q.1
  poss l s k hk hg := poss1 (by kernel_rfl) (by rw [hystB_l, ondelayB_l]; decide) (by rw [hystB_l, offdelayB_l]; decide) (by rw [hystB_l, countB_l]; decide) (by rw [hystB_l, pulseB_l]; decide) (by rw [hystB_l, minrunB_l]; decide) pos_hyst l s k hk
  count := by kernel_rfl
  typed := typed1 ⟨fun _ => rfl, fun _ => hystB_l⟩
  inpe := inp_two _
  step l s r dt k hk hg hs hp d1 d2 hr hi := by
    obtain ⟨up, dn, rfl, _⟩ := (goodH2 l).1 hg
    obtain ⟨x, rfl⟩ := inp1_an hr hi
    match s, hs with
    | [t], _ =>
      rw [pos_hyst] at hp
      have hp := of_decide_eq_true (Option.some.inj hp)
      refine ⟨[hysS up dn t x], 2, bitv (hysS up dn t x == 1), f_hyst up dn t x 1 dt [] k, g_hyst up dn t x dt k (by omega), rfl, ?_⟩
      rw [pos_hyst]; congr 1; apply decide_eq_true
      unfold hysS; split
      · omega
      · split <;> omega
theorem pul_rb : RB pulseB [DD] [true] 2 where
  known := by kernel_rfl
  formed l := by
    unfold plenumref19_Formed.f
    rw [pulseB_l, if_neg (by decide), if_neg (by decide), if_neg (by decide), if_neg (by decide), if_pos rfl]
    exact sec1 l _ (good1 nh_pul l)
  poss l s k hk hg := by
    obtain ⟨time, rfl, h1, h2⟩ := (good1 nh_pul l).1 hg
    by_cases c : s.length = 2
    · match s, c with
      | [p, q], _ =>
        refine ⟨_, ?_, fun h => absurd rfl h, fun _ => pos_pulse time p q⟩
        obtain ⟨k, rfl⟩ : ∃ m, k = m + 1 := ⟨k - 1, by omega⟩
        rw [pos01 _ [p, q] _ 2 p (by kernel_rfl) (by rfl) len2 r00 (by rw [pulseB_l, ondelayB_l]; decide) (by rw [pulseB_l, offdelayB_l]; decide)]
        simp only [plenumref19_Possible.j0]
        rw [pulseB_l, if_neg (show ¬ (([112, 117, 108, 115, 101] : List UInt8) = [99, 111, 117, 110, 116]) by decide), if_pos (rfl : ([112, 117, 108, 115, 101] : List UInt8) = _), if_pos len21, r1, if_pos len1, r0]
        by_cases d : 0 ≤ p ∧ p ≤ 1
        · rw [if_neg (by simp [d])]
          by_cases e : q ≥ 0
          · rw [if_pos e]; congr 1; exact decide_eq_decide.2 ⟨fun x => ⟨d, e, x⟩, fun x => x.2.2⟩
          · rw [if_neg e]; symm; congr 1; exact decide_eq_false fun x => e x.2.1
        · rw [if_pos (by simp [d])]; symm; congr 1; exact decide_eq_false fun x => d x.1
    · exact ⟨false, possN _ s k 2 (by kernel_rfl) (by omega), fun _ => rfl, fun h => absurd h c⟩
  count := by kernel_rfl
  typed := typed1 ⟨fun h => absurd h nh_pul, fun h => absurd h (by simp)⟩
  inpe := inp_two _
  step l s r dt k hk hg hs hp d1 d2 hr hi := by
    obtain ⟨time, rfl, h1, h2⟩ := (good1 nh_pul l).1 hg
    obtain ⟨a, rfl⟩ := inp1_bv hr hi
    match s, hs with
    | [p, q], _ =>
      rw [pos_pulse] at hp
      have hp := of_decide_eq_true (Option.some.inj hp)
      obtain ⟨k, rfl⟩ : ∃ m, k = m + 2 := ⟨k - 2, by omega⟩
      refine ⟨[bitv a, (pulS time dt p q a).1], 2, bitv (pulS time dt p q a).2, ?_, g_pul time dt p q a hp.2.1 hp.2.2 h1 h2 d1 d2 k, rfl, ?_⟩
      · have := f_pul time p q (bitv a) 2 dt [] hp.2.1 hp.2.2 h1 h2 d1 d2 (k + 1)
        rw [bitv_one] at this
        exact this
      · rw [pos_pulse]; congr 1; apply decide_eq_true
        refine ⟨bitv_wf a, ?_⟩
        unfold pulS; split
        · simp only; omega
        · simp only; omega
theorem cnt_rb : RB countB [] [true, true] 2 where
  known := by kernel_rfl
  formed := formed0 nh_cnt (by rw [countB_l, minrunB_l]; decide) (by rw [countB_l, offdelayB_l]; decide) (by rw [countB_l, ondelayB_l]; decide) (by rw [countB_l, pulseB_l]; decide)
  poss l s k hk hg := by
    by_cases c : s.length = 2
    · match s, c with
      | [p, n], _ =>
        refine ⟨_, ?_, fun h => absurd rfl h, fun _ => pos_count l p n⟩
        obtain ⟨k, rfl⟩ : ∃ m, k = m + 1 := ⟨k - 1, by omega⟩
        rw [pos01 _ [p, n] _ 2 p (by kernel_rfl) (by rfl) len2 r00 (by rw [countB_l, ondelayB_l]; decide) (by rw [countB_l, offdelayB_l]; decide)]
        simp only [plenumref19_Possible.j0]
        rw [countB_l, if_pos (rfl : ([99, 111, 117, 110, 116] : List UInt8) = _), if_pos len21, r1]
        by_cases d : 0 ≤ p ∧ p ≤ 1
        · rw [if_neg (by simp [d])]
          by_cases e : n ≥ 0
          · rw [if_pos e]; congr 1; exact decide_eq_decide.2 ⟨fun x => ⟨d, e, x⟩, fun x => x.2.2⟩
          · rw [if_neg e]; symm; congr 1; exact decide_eq_false fun x => e x.2.1
        · rw [if_pos (by simp [d])]; symm; congr 1; exact decide_eq_false fun x => d x.1
    · exact ⟨false, possN _ s k 2 (by kernel_rfl) (by omega), fun _ => rfl, fun h => absurd h c⟩
  count := by kernel_rfl
  typed := typed2 ⟨fun h => absurd h nh_cnt, fun h => absurd h (by simp)⟩
  inpe := inp_two _
  step l s r dt k hk hg hs hp d1 d2 hr hi := by
    obtain rfl := (good0 nh_cnt l).1 hg
    obtain ⟨a, b, rfl⟩ := inp2_bv hr hi
    match s, hs with
    | [p, n], _ =>
      rw [pos_count] at hp
      have hp := of_decide_eq_true (Option.some.inj hp)
      obtain ⟨k, rfl⟩ : ∃ m, k = m + 1 := ⟨k - 1, by omega⟩
      refine ⟨[bitv a, cntS p n a b], 1, 1000 * cntS p n a b, ?_, g_count p n a b dt (k + 1) hp.2.1 hp.2.2, rfl, ?_⟩
      · have := f_count [] p n (bitv a) (bitv b) 2 2 dt [] k hp.2.1 hp.2.2
        rw [bitv_one, bitv_one] at this
        exact this
      · rw [pos_count]; congr 1; apply decide_eq_true
        refine ⟨bitv_wf a, ?_⟩
        unfold cntS; split
        · omega
        · split <;> omega
theorem min_rb : RB minrunB [DD, DD] [true] 2 where
  known := by kernel_rfl
  formed l := by
    unfold plenumref19_Formed.f
    rw [minrunB_l, if_neg (by decide), if_pos rfl]
    by_cases c : l.length = 2
    · match l, c with
      | [a, b], _ =>
        rw [if_pos (by rfl), if_pos len2, r00, seconds_f, Option.bind_some]
        have e : goodP minrunB [DD, DD] [a, b] ↔ (0 ≤ a ∧ a ≤ 86400) ∧ (0 ≤ b ∧ b ≤ 86400) := by
          refine (good2 nh_min [a, b]).trans ⟨?_, fun q => ⟨a, b, rfl, q⟩⟩
          rintro ⟨x, y, h, q⟩
          cases h; exact q
        by_cases c1 : 0 ≤ a ∧ a ≤ 86400
        · rw [if_pos (decide_eq_true c1), if_pos len21, r1, seconds_f, Option.bind_some]
          congr 1; exact decide_eq_decide.2 ⟨fun q => e.2 ⟨c1, q⟩, fun q => (e.1 q).2⟩
        · rw [if_neg (by simpa using c1)]; symm; congr 1; exact decide_eq_false fun q => c1 (e.1 q).1
    · rw [if_neg (by omega)]; symm; congr 1; exact decide_eq_false fun q => c q.1
  poss l s k hk hg := by
    obtain ⟨up, dn, rfl, h1, h2⟩ := (good2 nh_min l).1 hg
    by_cases c : s.length = 2
    · match s, c with
      | [p, q], _ =>
        refine ⟨_, ?_, fun h => absurd rfl h, fun _ => pos_min up dn p q⟩
        obtain ⟨k, rfl⟩ : ∃ m, k = m + 1 := ⟨k - 1, by omega⟩
        rw [pos01 _ [p, q] _ 2 p (by kernel_rfl) (by rfl) len2 r00 (by rw [minrunB_l, ondelayB_l]; decide) (by rw [minrunB_l, offdelayB_l]; decide)]
        simp only [plenumref19_Possible.j0]
        rw [minrunB_l, if_neg (show ¬ (([109, 105, 110, 114, 117, 110] : List UInt8) = [99, 111, 117, 110, 116]) by decide), if_neg (show ¬ (([109, 105, 110, 114, 117, 110] : List UInt8) = [112, 117, 108, 115, 101]) by decide), if_pos (rfl : ([109, 105, 110, 114, 117, 110] : List UInt8) = _), if_pos len21, r1, rleast_f, Option.bind_some]
        by_cases d : 0 ≤ p ∧ p ≤ 1
        · rw [if_neg (by simp [d])]
          by_cases e : q ≥ 0
          · rw [if_pos e]; congr 1; exact decide_eq_decide.2 ⟨fun x => ⟨d, e, x⟩, fun x => x.2.2⟩
          · rw [if_neg e]; symm; congr 1; exact decide_eq_false fun x => e x.2.1
        · rw [if_pos (by simp [d])]; symm; congr 1; exact decide_eq_false fun x => d x.1
    · exact ⟨false, possN _ s k 2 (by kernel_rfl) (by omega), fun _ => rfl, fun h => absurd h c⟩
  count := by kernel_rfl
  typed := typed1 ⟨fun h => absurd h nh_min, fun h => absurd h (by simp)⟩
  inpe := inp_two _
  step l s r dt k hk hg hs hp d1 d2 hr hi := by
    obtain ⟨up, dn, rfl, h1, h2⟩ := (good2 nh_min l).1 hg
    obtain ⟨a, rfl⟩ := inp1_bv hr hi
    match s, hs with
    | [p, q], _ =>
      rw [pos_min] at hp
      have hp := of_decide_eq_true (Option.some.inj hp)
      have q2 : q ≤ 86400 := by have := hp.2.2; split at this <;> omega
      obtain ⟨k, rfl⟩ : ∃ m, k = m + 2 := ⟨k - 2, by omega⟩
      refine ⟨[(minS up dn dt p q a).1.1, (minS up dn dt p q a).1.2], 2, bitv (minS up dn dt p q a).2, ?_, g_min up dn dt p q a (by omega) hp.2.1 q2 d1 d2 k, rfl, ?_⟩
      · have := f_min up dn p q (bitv a) 2 dt [] hp.2.1 q2 d1 d2 k
        rw [bitv_one] at this
        exact this
      · rw [pos_min]; congr 1; apply decide_eq_true
        unfold minS
        by_cases c : bitv a = p ∨ (q ≠ 0 ∧ q - 1 + dt < (if p = 1 then up else dn))
        · rw [if_pos c]
          refine ⟨hp.1, ?_⟩
          simp only
          by_cases d : q ≠ 0 ∧ q - 1 + dt < (if p = 1 then up else dn)
          · rw [if_pos d]; have := d.2; omega
          · rw [if_neg d]
            refine ⟨by omega, ?_⟩
            split <;> omega
        · rw [if_neg c]
          refine ⟨bitv_wf a, ?_⟩
          simp only
          generalize hy : (if bitv a = 1 then up else dn) = y
          have : 0 ≤ y := by subst hy; split <;> omega
          by_cases d : y = 0
          · subst d; decide
          · rw [show (y != 0) = true from bne_iff_ne.2 d]; show (0 : Int) ≤ 1 ∧ (1 : Int) ≤ y; omega
end Go.Proofs.YtjjbdgngncgikaaGreatDoor.Tm
