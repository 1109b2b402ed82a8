import Derived.Test.YtjjbdgngncgikaaGreatDoorRx0
import Derived.Test.YtjjbdgngncgikaaGreatDoorRx1
import Derived.Test.YtjjbdgngncgikaaGreatDoorRx11
import Derived.Test.YtjjbdgngncgikaaGreatDoorRx12
import Derived.Test.YtjjbdgngncgikaaGreatDoorRx19
namespace Go.Proofs.YtjjbdgngncgikaaGreatDoor.R
open Go.RowKit Go.Proofs.YtjjbdgngncgikaaGreatDoorW.PrintWords Go.Proofs.YtjjbdgngncgikaaGreatDoorW.PrintLast Go.Proofs.YtjjbdgngncgikaaGreatDoorW.PrintMore
attribute [local go_sem] max2_int min2_int max_two min_two max_three min_three max_four min_four
set_option linter.unusedVariables false
set_option linter.unusedSimpArgs false
attribute [local go_sem high] eqA26
mutual
def plenumlaw19_TimerSettles.j0 : Nat → ByteArray → List Int → List Int → List (S26) → Bool → Option (Bool)
 | 0, _, _, _, _, _ => none
 | k + 1, x0, x1, x2, x3, x35 => if x35 = true then (some true) else (plenumlaw19_TimerSettles.l0 k x0 x1 x2 x3 0)
def plenumlaw19_TimerSettles.l0 : Nat → ByteArray → List Int → List Int → List (S26) → Int → Option (Bool)
 | 0, _, _, _, _, _ => none
 | k + 1, x0, x1, x2, x3, x9 => if x9 < (x1.length : Int) then (plenumlaw19_TimerSettles.j2 k x0 x1 x2 x3 x9 (x0.toList != ([104, 121, 115, 116] : List UInt8))) else (plenumlaw19_TimerSettles.j2 k x0 x1 x2 x3 x9 false)
def plenumlaw19_TimerSettles.j2 : Nat → ByteArray → List Int → List Int → List (S26) → Int → Bool → Option (Bool)
 | 0, _, _, _, _, _, _ => none
 | k + 1, x0, x1, x2, x3, x9, x43 => if x43 = true then (if 0 ≤ x9 then (if x9 < (x1.length : Int) then (if (rd x1 x9) > 200 then (if (rd x1 x9) ≤ 86400 then (some true) else (plenumlaw19_TimerSettles.l0 k x0 x1 x2 x3 (wrap64 (x9 + 1)))) else (plenumlaw19_TimerSettles.l0 k x0 x1 x2 x3 (wrap64 (x9 + 1)))) else (none)) else (none)) else ((timer_Settle.f k x0 x1 x2 x3).bind fun bt719 => ((plenumref19_Settle.f k x0 x1 x2 x3).bind fun bt724 => (if (bt719.1 == bt724.1 && (bt719.2.1 == bt724.2.1)) = true then (if bt719.2.2.1 = bt724.2.2.1 then (some (bt719.2.2.2 == bt724.2.2.2)) else (none)) else (none))))
end
def plenumlaw19_TimerSettles.f (k : Nat) (a0 : ByteArray) (l1 : List Int) (l2 : List Int) (l3 : List (S26)) : Option (Bool) := (plenumlaw19_awake.f k).bind fun t716 => (if t716 = true then (if (a0.size : Int) > 40 then (plenumlaw19_TimerSettles.j0 k a0 l1 l2 l3 true) else (if (l1.length : Int) > 8 then (plenumlaw19_TimerSettles.j0 k a0 l1 l2 l3 true) else (if (l2.length : Int) > 8 then (plenumlaw19_TimerSettles.j0 k a0 l1 l2 l3 true) else (plenumlaw19_TimerSettles.j0 k a0 l1 l2 l3 (decide ((l3.length : Int) > 8)))))) else (none))
set_option maxHeartbeats 8000000 in
set_option maxRecDepth 100000 in
theorem plenumlaw19_TimerSettles.calls (k : Nat) (a0 : ByteArray) (A1 : Option Addr) (c1 : Nat) (l1 : List Int) (A2 : Option Addr) (c2 : Nat) (l2 : List Int) (A3 : Option Addr) (c3 : Nat) (l3 : List (S26)) (r : Bool) (w : World) (hr1 : Kd.C (Kd.int .i64) w A1 l1.length l1) (hc1 : l1.length ≤ c1) (hr2 : Kd.C (Kd.int .i64) w A2 l2.length l2) (hc2 : l2.length ≤ c2) (hr3 : Kd.C k26 w A3 l3.length l3) (hc3 : l3.length ≤ c3) (hG : GW w) (h : plenumlaw19_TimerSettles.f k a0 l1 l2 l3 = some r) :
  Calls Tryz.prog 4 #[.string a0, .slice A1 l1.length c1, .slice A2 l2.length c2, .slice A3 l3.length c3] w fun e w' => e = .returned (.bool r) ∧ Below w.heap.size w w' := by
 have hu26 := Tryz.underlying26
 have HG := am hG
 clear hG
 have HR1 := am hr1
 have HC1 := am hc1
 clear hr1 hc1
 have HR2 := am hr2
 have HC2 := am hc2
 clear hr2 hc2
 have HR3 := am hr3
 have HC3 := am hc3
 clear hr3 hc3
 have HB := am (Below.refl w.heap.size w)
 have H : ((plenumlaw19_awake.f k).bind fun t716 => (if t716 = true then (if (a0.size : Int) > 40 then (plenumlaw19_TimerSettles.j0 k a0 l1 l2 l3 true) else (if (l1.length : Int) > 8 then (plenumlaw19_TimerSettles.j0 k a0 l1 l2 l3 true) else (if (l2.length : Int) > 8 then (plenumlaw19_TimerSettles.j0 k a0 l1 l2 l3 true) else (plenumlaw19_TimerSettles.j0 k a0 l1 l2 l3 (decide ((l3.length : Int) > 8)))))) else (none))) = some r := h
 clear h
 obtain ⟨t716, A5, H⟩ := Option.bind_eq_some_iff.mp H
 (try dsimp only at H)
 replace A5 := am A5
 by_cases c6 : t716 = true
 rotate_left
 ·
  replace c6 := Bool.eq_false_iff.mpr c6
  subst c6
  rw [if_neg (show ¬ (false = true) by decide)] at H
  exact absurd H (by simp)
 subst c6
 rw [if_pos rfl] at H
 have HC7 := am H
 clear H
 go_enter Tryz.func4, Tryz.ntmps4
 go_upto_region 3 with (first | ((refine gate_callee (f := 5) rfl ?_); refine gl (some 16) Tryz.func5 #[] ?_; (with_reducible refine (plenumlaw19_awake.calls k  true _ ?side1 A5.out).mono ?_); (case side1 => exact GW.below HG.out bl); rintro e w8 ⟨rfl, hb⟩; refine ⟨_, rfl, ?_⟩; replace HB := am (below_step bl hb); (try clear hb); (try clear hb2); (try clear hk); (try clear hi)))
 (try simp only [ap, sa, sb, sc])
 go_cut [35] (fun v35 wc => ∃ (kq : Nat) (x35_6 : Bool), v35 = .bool x35_6 ∧ Aside0 (plenumlaw19_TimerSettles.j0 kq a0 l1 l2 l3 x35_6 = some r) ∧ Aside0 (kq ≤ k) ∧ Aside0 (Below w.heap.size w wc))
 case first =>
  have H := HC7.out
  clear HC7
  by_cases c9 : (a0.size : Int) > 40
  ·
   rw [if_pos c9] at H
   have c9b0 : decide (40 < (a0.size : Int)) = true := decide_eq_true c9
   have c9b1 : decide (40 < a0.size) = true := decide_eq_true (by omega)
   clear c9
   (first | rw [c9b0] | (simp only [i64_w, i32_w]; rw [c9b0]) | skip)
   have H' := am H
   clear H
   go_wp2
   go_meet
   case rel => exact ⟨_, (true), (by first | rfl | (simp; done) | (simp [*]; done)), H', ⟨by first | omega | exact Nat.le_refl _⟩, ⟨bl⟩⟩
  rw [if_neg c9] at H
  have c9b0 : decide (40 < (a0.size : Int)) = false := decide_eq_false c9
  have c9b1 : decide (40 < a0.size) = false := decide_eq_false (by omega)
  clear c9
  (first | rw [c9b0] | (simp only [i64_w, i32_w]; rw [c9b0]) | skip)
  by_cases c10 : (l1.length : Int) > 8
  ·
   rw [if_pos c10] at H
   have c10b0 : decide (8 < (l1.length : Int)) = true := decide_eq_true c10
   have c10b1 : decide (8 < l1.length) = true := decide_eq_true (by omega)
   clear c10
   have H' := am H
   clear H
   go_wp2
   go_meet
   case rel => exact ⟨_, (true), (by first | rfl | (simp; done) | (simp [*]; done)), H', ⟨by first | omega | exact Nat.le_refl _⟩, ⟨bl⟩⟩
  rw [if_neg c10] at H
  have c10b0 : decide (8 < (l1.length : Int)) = false := decide_eq_false c10
  have c10b1 : decide (8 < l1.length) = false := decide_eq_false (by omega)
  clear c10
  by_cases c11 : (l2.length : Int) > 8
  ·
   rw [if_pos c11] at H
   have c11b0 : decide (8 < (l2.length : Int)) = true := decide_eq_true c11
   have c11b1 : decide (8 < l2.length) = true := decide_eq_true (by omega)
   clear c11
   have H' := am H
   clear H
   go_wp2
   go_meet
   case rel => exact ⟨_, (true), (by first | rfl | (simp; done) | (simp [*]; done)), H', ⟨by first | omega | exact Nat.le_refl _⟩, ⟨bl⟩⟩
  rw [if_neg c11] at H
  have c11b0 : decide (8 < (l2.length : Int)) = false := decide_eq_false c11
  have c11b1 : decide (8 < l2.length) = false := decide_eq_false (by omega)
  clear c11
  have H' := am H
  clear H
  go_wp2
  go_meet
  case rel => exact ⟨_, (decide ((l3.length : Int) > 8)), (by first | rfl | (simp; done) | (simp [*]; done)), H', ⟨by first | omega | exact Nat.le_refl _⟩, ⟨bl⟩⟩
 clear HC7
 obtain ⟨kq, x35_6, rfl, HA, HJ6, HB⟩ := hcut
 cases kq with
 | zero => exact absurd HA.out (by simp [plenumlaw19_TimerSettles.j0])
 | succ kj6 =>
  have H := HA.out
  clear HA
  simp only [plenumlaw19_TimerSettles.j0] at H
  by_cases c12 : x35_6 = true
  ·
   subst c12
   rw [if_pos rfl] at H
   obtain rfl := Option.some.inj H
   go_wp2
   go_ret
   exact ⟨ew, bl⟩
  replace c12 := Bool.eq_false_iff.mpr c12
  subst c12
  rw [if_neg (show ¬ (false = true) by decide)] at H
  have H' := am H
  clear H
  go_wp2
  go_loopg [9] kj6 (fun kq v9 w' => ∃ (x9_2 : Int), v9 = .int .i64 x9_2 ∧ Aside0 (plenumlaw19_TimerSettles.l0 kq a0 l1 l2 l3 x9_2 = some r) ∧ Aside0 (kq ≤ kj6) ∧ Aside0 (Below w.heap.size w w'))
  case atStart => exact ⟨(0), (by first | rfl | (simp; done) | (simp [*]; done)), H', ⟨Nat.le_refl _⟩, ⟨bl⟩⟩
  case round =>
   clear H'
   obtain ⟨x9_2, rfl, HA, HK2, HB⟩ := hrel
   cases gk with
   | zero => exact absurd HA.out (by simp [plenumlaw19_TimerSettles.l0])
   | succ k2 =>
    have H := HA.out
    clear HA
    simp only [plenumlaw19_TimerSettles.l0] at H
    have HC13 := am H
    clear H
    go_upto_region 6 with (fail)
    go_cut [43] (fun v43 wc => ∃ (kq : Nat) (x43_12 : Bool), v43 = .bool x43_12 ∧ Aside0 (plenumlaw19_TimerSettles.j2 kq a0 l1 l2 l3 x9_2 x43_12 = some r) ∧ Aside0 (kq ≤ k2) ∧ Aside0 (Below w.heap.size w wc))
    case first =>
     have H := HC13.out
     clear HC13
     by_cases c14 : x9_2 < (l1.length : Int)
     ·
      rw [if_pos c14] at H
      have c14b0 := decide_eq_true c14
      clear c14
      (first | rw [c14b0] | (simp only [i64_w, i32_w]; rw [c14b0]) | skip)
      have H' := am H
      clear H
      go_wp2
      go_meet
      case rel => exact ⟨_, ((a0.toList != ([104, 121, 115, 116] : List UInt8))), (by first | rfl | (simp; done) | (simp [*]; done)), H', ⟨by have := HJ6.out; have := HK2.out; first | omega | exact Nat.le_refl _⟩, ⟨bl⟩⟩
     rw [if_neg c14] at H
     have c14b0 := decide_eq_false c14
     clear c14
     (first | rw [c14b0] | (simp only [i64_w, i32_w]; rw [c14b0]) | skip)
     have H' := am H
     clear H
     go_wp2
     go_meet
     case rel => exact ⟨_, (false), (by first | rfl | (simp; done) | (simp [*]; done)), H', ⟨by have := HJ6.out; have := HK2.out; first | omega | exact Nat.le_refl _⟩, ⟨bl⟩⟩
    clear HC13
    obtain ⟨kq, x43_12, rfl, HA, HJ12, HB⟩ := hcut
    cases kq with
    | zero => exact absurd HA.out (by simp [plenumlaw19_TimerSettles.j2])
    | succ kj12 =>
     have H := HA.out
     clear HA
     simp only [plenumlaw19_TimerSettles.j2] at H
     by_cases c15 : x43_12 = true
     rotate_left
     ·
      replace c15 := Bool.eq_false_iff.mpr c15
      subst c15
      rw [if_neg (show ¬ (false = true) by decide)] at H
      obtain ⟨⟨t719, t720, t721, t722⟩, A20, H⟩ := Option.bind_eq_some_iff.mp H
      (try dsimp only at H)
      replace A20 := am A20
      obtain ⟨⟨t724, t725, t726, t727⟩, A21, H⟩ := Option.bind_eq_some_iff.mp H
      (try dsimp only at H)
      replace A21 := am A21
      have c22 := oi H; rw [if_pos c22] at H
      have c22b0 : (t719 == t724 && (t720 == t725)) = true := c22
      (try (have c22b1 : decide (t719 = t724 && (t720 == t725)) = true := by simpa using c22))
      (try (have c22b2 : (t719 == t724 && (t720 == t725)) = true := by simpa using c22))
      clear c22
      have c23 := oi H; rw [if_pos c23] at H
      have c23b0 := beq_iff_eq.mpr c23
      have c23b1 := bne_eq_false_iff_eq.mpr c23
      clear c23
      obtain rfl := Option.some.inj H
      go_wp2_with (first | ((refine gate_callee (f := 10) rfl ?_); refine gl (some 63) Tryz.func10 #[.string a0, .slice A1 l1.length c1, .slice A2 l2.length c2, .slice A3 l3.length c3] ?_; (with_reducible refine (timer_Settle.calls kj12 a0 _ _ l1 (fun k_ => k_ < w.heap.size) _ _ l2 _ _ l3 t719 t720 t721 t722 _ ?side1 ?side2 ?side3 ?side4 ?side5 ?side6 A20.out).mono ?_); (case side1 => exact cc (Kd.C_below HR1.out HB.out)); (case side2 => exact HC1.out); (case side3 => exact Kd.V_mk HC2.out (Kd.F_below (Kd.C_F (Kd.heap_int .i64) HR2.out) bl)); (case side4 => exact cc (Kd.C_below HR3.out HB.out)); (case side5 => exact HC3.out); (case side6 => exact GW.below HG.out bl); rintro e w24 ⟨rfl, hb⟩; refine ⟨_, rfl, ?_⟩; replace HB := am (below_step bl hb); (try clear hb); (try clear hb2); (try clear hk); (try clear hi)) | ((refine gate_dst (N := 10) rfl ?_); (try (refine gate_guard (by rfl) ?_; dsimp only)); refine bx (N := 10) (cs := #[.int .i64 0, .int .i64 0]) (t := 26) ?_; intro gb723 hg w25 hbox hb; have BK723 := am (hbox); have GW723 := am (gw hg (below_size bl)); have GE723 := am (gw hg (below_size bl)); replace HB := am (below_step bl hb); clear hb hbox hg; obtain ⟨hcz26_0, hcz26_1, hfz26_0, hfz26_1⟩ := bz2 BK723.out) | ((refine gate_callee (f := 11) rfl ?_); refine gl (some 72) Tryz.func11 #[.string a0, .slice A1 l1.length c1, .slice A2 l2.length c2, .slice A3 l3.length c3] ?_; (with_reducible refine (plenumref19_Settle.calls kj12 a0 _ _ l1 _ _ l2 _ _ l3 t724 t725 t726 t727 _ ?side1 ?side2 ?side3 ?side4 ?side5 ?side6 A21.out).mono ?_); (case side1 => exact Kd.C_below HR1.out (bs1 GE723.out)); (case side2 => exact HC1.out); (case side3 => exact Kd.C_below HR2.out (bs1 GE723.out)); (case side4 => exact HC2.out); (case side5 => exact Kd.C_below HR3.out (bs1 GE723.out)); (case side6 => exact HC3.out); rintro e w27 ⟨rfl, hb⟩; refine ⟨_, rfl, ?_⟩; replace BK723 := am (blk_below (g := gb723) (o := .cells #[.int .i64 t719, .int .i64 t720] 26 (0, 0)) (by refine rb ?_; refine blk_put (cs := #[.int .i64 t719, .int .i64 0]) ?_ 1 _ rfl; refine rb ?_; refine blk_put (cs := #[.int .i64 0, .int .i64 0]) ?_ 0 _ rfl; exact rb BK723.out) hb); replace HB := am (below_step (bs1 GE723.out) hb); (try clear hb); (try clear hb2); (try clear hk); (try clear hi)) | ((refine gate_dst (N := 13) rfl ?_); (try (refine gate_guard (by rfl) ?_; dsimp only)); refine bx (N := 13) (cs := #[.int .i64 0, .int .i64 0]) (t := 26) ?_; intro gb728 hg w28 hbox hb; have BK728 := am (hbox); have GW728 := am (gw hg (below_size (bs1 GE723.out))); have GE728 := am (gw hg (below_size (bs1 GE723.out))); replace HB := am (below_step (bs1 GE723.out) hb); have NB723_728 := am ((by rw [hg]; exact Nat.ne_of_lt (blk_lt (rb BK723.out)) : gb723 ≠ gb728)); have NB728_723 := am ((by rw [hg]; exact Nat.ne_of_gt (blk_lt (rb BK723.out)) : gb728 ≠ gb723)); replace BK723 := am (blk_below (rb BK723.out) hb); clear hb hbox hg; have hnb29 := NB728_723.out; have hnc29 := NB723_728.out; obtain ⟨hcz30_0, hcz30_1, hfz30_0, hfz30_1⟩ := bz2 BK728.out; obtain ⟨hcz31_0, hcz31_1, hfz31_0, hfz31_1⟩ := bz2 BK723.out))
      go_ret
      exact ⟨ew, bs2 GE723.out GE728.out⟩
     subst c15
     rw [if_pos rfl] at H
     have c16 := oi H; rw [if_pos c16] at H
     have c16b0 := decide_eq_true c16
     clear c16
     have c17 := oi H; rw [if_pos c17] at H
     have c17b0 := decide_eq_true c17
     clear c17
     by_cases c18 : (rd l1 x9_2) > 200
     rotate_left
     ·
      rw [if_neg c18] at H
      have c18b0 : decide (200 < (rd l1 x9_2)) = false := decide_eq_false c18
      clear c18
      have H' := am H
      clear H
      have q717 := ixv (i := x9_2) (n := l1.length) ode ode; obtain ⟨ad717, e717, hx717_0⟩ := Kd.at_int HR1.out x9_2 (of_eq_true q717.1) (of_eq_true q717.2); cases e717; replace hx717_0 := hbl HB.out hx717_0; obtain ⟨p717, q717⟩ := q717
      go_wp2
      go_roundg kj12
      case measure => have := HJ6.out; have := HK2.out; have := HJ12.out; omega
      case rel => exact ⟨(wrap64 (x9_2 + 1)), (by first | rfl | (simp; done) | (simp [*]; done)), H', ⟨by have := HJ6.out; have := HK2.out; have := HJ12.out; omega⟩, ⟨bl⟩⟩
     rw [if_pos c18] at H
     have c18b0 : decide (200 < (rd l1 x9_2)) = true := decide_eq_true c18
     clear c18
     by_cases c19 : (rd l1 x9_2) ≤ 86400
     ·
      rw [if_pos c19] at H
      have c19b0 := decide_eq_true c19
      clear c19
      obtain rfl := Option.some.inj H
      have q717 := ixv (i := x9_2) (n := l1.length) ode ode; obtain ⟨ad717, e717, hx717_0⟩ := Kd.at_int HR1.out x9_2 (of_eq_true q717.1) (of_eq_true q717.2); cases e717; replace hx717_0 := hbl HB.out hx717_0; obtain ⟨p717, q717⟩ := q717; have q718 := ixv (i := x9_2) (n := l1.length) ode ode; obtain ⟨ad718, e718, hx718_0⟩ := Kd.at_int HR1.out x9_2 (of_eq_true q718.1) (of_eq_true q718.2); obtain rfl : ad717 = ad718 := (by injection e718); replace hx718_0 := hbl HB.out hx718_0; obtain ⟨p718, q718⟩ := q718
      go_wp2
      go_ret
      exact ⟨ew, bl⟩
     rw [if_neg c19] at H
     have c19b0 := decide_eq_false c19
     clear c19
     have H' := am H
     clear H
     have q717 := ixv (i := x9_2) (n := l1.length) ode ode; obtain ⟨ad717, e717, hx717_0⟩ := Kd.at_int HR1.out x9_2 (of_eq_true q717.1) (of_eq_true q717.2); cases e717; replace hx717_0 := hbl HB.out hx717_0; obtain ⟨p717, q717⟩ := q717; have q718 := ixv (i := x9_2) (n := l1.length) ode ode; obtain ⟨ad718, e718, hx718_0⟩ := Kd.at_int HR1.out x9_2 (of_eq_true q718.1) (of_eq_true q718.2); obtain rfl : ad717 = ad718 := (by injection e718); replace hx718_0 := hbl HB.out hx718_0; obtain ⟨p718, q718⟩ := q718
     go_wp2
     go_roundg kj12
     case measure => have := HJ6.out; have := HK2.out; have := HJ12.out; omega
     case rel => exact ⟨(wrap64 (x9_2 + 1)), (by first | rfl | (simp; done) | (simp [*]; done)), H', ⟨by have := HJ6.out; have := HK2.out; have := HJ12.out; omega⟩, ⟨bl⟩⟩
end Go.Proofs.YtjjbdgngncgikaaGreatDoor.R
