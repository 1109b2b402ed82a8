import Derived.Test.YtjjbdgngncgikaaGreatDoorRx0
import Derived.Test.YtjjbdgngncgikaaGreatDoorRx1
import Derived.Test.YtjjbdgngncgikaaGreatDoorRx6
import Derived.Test.YtjjbdgngncgikaaGreatDoorRx9
import Derived.Test.YtjjbdgngncgikaaGreatDoorRx10
namespace Go.Proofs.YtjjbdgngncgikaaGreatDoor.R
open Go.RowKit Go.Proofs.YtjjbdgngncgikaaGreatDoorW.PrintWords Go.Proofs.YtjjbdgngncgikaaGreatDoorW.PrintLast Go.Proofs.YtjjbdgngncgikaaGreatDoorW.PrintMore
attribute [local go_sem] max2_int min2_int max_two min_two max_three min_three max_four min_four
set_option linter.unusedVariables false
set_option linter.unusedSimpArgs false

attribute [local go_sem high] eqA26
def slices_Equal_int64_int64.l0 : Nat → List Int → List Int → Int → Int → Option (Bool)
 | 0, _, _, _, _ => none
 | k + 1, x0, x1, x12, x13 => if x13 < x12 then (if 0 ≤ x13 then (if x13 < (x0.length : Int) then (if x13 < (x1.length : Int) then (if (rd x0 x13) = (rd x1 x13) then (slices_Equal_int64_int64.l0 k x0 x1 x12 (wrap64 (x13 + 1))) else (some false)) else (none)) else (none)) else (none)) else (some true)
def slices_Equal_int64_int64.f (k : Nat) (l0 : List Int) (l1 : List Int) : Option (Bool) := if (l0.length : Int) = (l1.length : Int) then (slices_Equal_int64_int64.l0 k l0 l1 (l0.length : Int) 0) else (some false)
theorem slices_Equal_int64_int64.mono_l : ∀ k, (∀ y0 y1 y2 y3, LeO (slices_Equal_int64_int64.l0 k y0 y1 y2 y3) (slices_Equal_int64_int64.l0 (k + 1) y0 y1 y2 y3))
 | 0 => fun _ _ _ _ r h => by simp [slices_Equal_int64_int64.l0] at h
 | k + 1 => by
  have ih0 := slices_Equal_int64_int64.mono_l k
  ·
   intro y0 y1 y2 y3
   unfold slices_Equal_int64_int64.l0
   repeat' first
   | (with_reducible exact ih0 _ _ _ _)
   | (with_reducible exact LeO.refl _)
   | (with_reducible exact LeO.none _)
   | (with_reducible refine LeO.ite ?_ ?_)
   | (with_reducible refine LeO.bind ?_ (fun _ => ?_))
   | exact LeO.none _
   | refine LeO.ite ?_ ?_
   | refine LeO.bind ?_ (fun _ => ?_)
theorem slices_Equal_int64_int64.mono : ∀ a0 a1 k, LeO (slices_Equal_int64_int64.f k a0 a1) (slices_Equal_int64_int64.f (k + 1) a0 a1) := by
 intro a0 a1 k
 have ih0 := slices_Equal_int64_int64.mono_l k
 unfold slices_Equal_int64_int64.f
 repeat' first
   | (with_reducible exact ih0 _ _ _ _)
   | (with_reducible exact LeO.refl _)
   | (with_reducible exact LeO.none _)
   | (with_reducible refine LeO.ite ?_ ?_)
   | (with_reducible refine LeO.bind ?_ (fun _ => ?_))
   | exact LeO.none _
   | refine LeO.ite ?_ ?_
   | refine LeO.bind ?_ (fun _ => ?_)
set_option maxHeartbeats 8000000 in
set_option maxRecDepth 100000 in
theorem slices_Equal_int64_int64.calls (k : Nat) (A0 : Option Addr) (c0 : Nat) (l0 : List Int) (A1 : Option Addr) (c1 : Nat) (l1 : List Int) (r : Bool) (w : World) (hr0 : Kd.C (Kd.int .i64) w A0 l0.length l0) (hc0 : l0.length ≤ c0) (hr1 : Kd.C (Kd.int .i64) w A1 l1.length l1) (hc1 : l1.length ≤ c1) (h : slices_Equal_int64_int64.f k l0 l1 = some r) :
  Calls Tryz.prog 24 #[.slice A0 l0.length c0, .slice A1 l1.length c1] w fun e w' => e = .returned (.bool r) ∧ Drawn0 w w' := by
 have HR0 := am hr0
 have HC0 := am hc0
 clear hr0 hc0
 have HR1 := am hr1
 have HC1 := am hc1
 clear hr1 hc1
 have H : (if (l0.length : Int) = (l1.length : Int) then (slices_Equal_int64_int64.l0 k l0 l1 (l0.length : Int) 0) else (some false)) = some r := h
 clear h
 by_cases c3 : (l0.length : Int) = (l1.length : Int)
 rotate_left
 ·
  rw [if_neg c3] at H
  have c3b0 := beq_eq_false_iff_ne.mpr c3
  have c3b1 := bne_iff_ne.mpr c3
  have c3b2 : (l0.length == l1.length) = false := by first | simpa using c3 | (simp at c3 ⊢; omega)
  obtain rfl := Option.some.inj H
  go_enter Tryz.func24, Tryz.ntmps24
  go_wp2
  repeat (go_quiet (fail); try go_wp2)
  go_ret
  exact ⟨by first | rfl | (simp; done) | (simp [*]; done), by repeat (first | exact Drawn0.refl _ | apply Drawn0.step)⟩
 rw [if_pos c3] at H
 have c3b0 := beq_iff_eq.mpr c3
 have c3b1 := bne_eq_false_iff_eq.mpr c3
 have c3b2 : (l0.length == l1.length) = true := by first | simpa using c3 | (simp at c3 ⊢; omega)
 clear c3
 have H' := am H
 clear H
 go_enter Tryz.func24, Tryz.ntmps24
 go_wp2
 repeat (go_quiet (fail); try go_wp2)
 go_loopg [13] k (fun kq v13 w' => ∃ (x13_1 : Int), v13 = .int .i64 x13_1 ∧ Aside0 (slices_Equal_int64_int64.l0 kq l0 l1 (l0.length : Int) x13_1 = some r) ∧ Aside0 (kq ≤ k) ∧ Drawn0 w w')
 case atStart => exact ⟨(0), (by first | rfl | (simp; done) | (simp [*]; done)), H', ⟨Nat.le_refl _⟩, by repeat (first | exact Drawn0.refl _ | apply Drawn0.step)⟩
 case round =>
  clear H'
  obtain ⟨x13_1, rfl, HA, HK1, ⟨m1, rfl⟩⟩ := hrel
  cases gk with
  | zero => exact absurd HA.out (by simp [slices_Equal_int64_int64.l0])
  | succ k1 =>
   have H := HA.out
   clear HA
   simp only [slices_Equal_int64_int64.l0] at H
   by_cases c4 : x13_1 < (l0.length : Int)
   rotate_left
   ·
    rw [if_neg c4] at H
    have c4b0 := decide_eq_false c4
    clear c4
    obtain rfl := Option.some.inj H
    go_wp2
    repeat (go_quiet (fail); try go_wp2)
    go_ret
    exact ⟨by first | rfl | (simp; done) | (simp [*]; done), by repeat (first | exact Drawn0.refl _ | apply Drawn0.step)⟩
   rw [if_pos c4] at H
   have c4b0 := decide_eq_true c4
   clear c4
   have c5 := oi H; rw [if_pos c5] at H
   have c5b0 := decide_eq_true c5
   clear c5
   have c6 := oi H; rw [if_pos c6] at H
   have c6b0 := decide_eq_true c6
   clear c6
   have c7 := oi H; rw [if_pos c7] at H
   have c7b0 := decide_eq_true c7
   clear c7
   by_cases c8 : (rd l0 x13_1) = (rd l1 x13_1)
   rotate_left
   ·
    rw [if_neg c8] at H
    have c8b0 := beq_eq_false_iff_ne.mpr c8
    have c8b1 := bne_iff_ne.mpr c8
    obtain rfl := Option.some.inj H
    have q351 := ixv (i := x13_1) (n := l0.length) ode ode; obtain ⟨ad351, e351, hx351_0⟩ := Kd.at_int HR0.out x13_1 (of_eq_true q351.1) (of_eq_true q351.2); cases e351; obtain ⟨p351, q351⟩ := q351; have q352 := ixv (i := x13_1) (n := l1.length) ode ode; obtain ⟨ad352, e352, hx352_0⟩ := Kd.at_int HR1.out x13_1 (of_eq_true q352.1) (of_eq_true q352.2); cases e352; obtain ⟨p352, q352⟩ := q352
    go_wp2
    repeat (go_quiet (fail); try go_wp2)
    go_ret
    exact ⟨by first | rfl | (simp; done) | (simp [*]; done), by repeat (first | exact Drawn0.refl _ | apply Drawn0.step)⟩
   rw [if_pos c8] at H
   have c8b0 := beq_iff_eq.mpr c8
   have c8b1 := bne_eq_false_iff_eq.mpr c8
   clear c8
   have H' := am H
   clear H
   have q351 := ixv (i := x13_1) (n := l0.length) ode ode; obtain ⟨ad351, e351, hx351_0⟩ := Kd.at_int HR0.out x13_1 (of_eq_true q351.1) (of_eq_true q351.2); cases e351; obtain ⟨p351, q351⟩ := q351; have q352 := ixv (i := x13_1) (n := l1.length) ode ode; obtain ⟨ad352, e352, hx352_0⟩ := Kd.at_int HR1.out x13_1 (of_eq_true q352.1) (of_eq_true q352.2); cases e352; obtain ⟨p352, q352⟩ := q352
   go_wp2
   repeat (go_quiet (fail); try go_wp2)
   go_roundg k1
   case measure => have := HK1.out; omega
   case rel => exact ⟨(wrap64 (x13_1 + 1)), (by first | rfl | (simp; done) | (simp [*]; done)), H', ⟨by have := HK1.out; omega⟩, by repeat (first | exact Drawn0.refl _ | apply Drawn0.step)⟩
def slices_Clone_int64_int64.f (l0 : List Int) : Option (List Int) := if 0 < l0.length ∧ l0.length ≤ 1000000 then some l0 else none
theorem slices_Clone_int64_int64.calls (A0 : Option Addr) (c0 : Nat) (l0 : List Int) (r : List Int) (w : World) (hr0 : Kd.C (Kd.int .i64) w A0 l0.length l0) (hc0 : l0.length ≤ c0) (h : slices_Clone_int64_int64.f l0 = some r) :
    Calls Tryz.prog 25 #[.slice A0 l0.length c0] w fun e w' => ∃ v0_ : Value, e = .returned (v0_) ∧ Kd.R (Kd.int .i64) 2 w' w.heap.size (fun _ => True) v0_ r ∧ Below w.heap.size w w' := by
  unfold slices_Clone_int64_int64.f at h
  split at h
  · rename_i hc
    obtain rfl := Option.some.inj h
    obtain ⟨ad, rfl, hcell⟩ := hr0.2.2 hc.1
    have each : ∀ j, j < l0.length → w.cell? (ad.add j) = some (.int .i64 (l0.getD j 0)) := by
      intro j hj
      obtain ⟨c, hl, hk, hu⟩ := hcell j _ (List.getElem?_eq_getElem hj)
      have hk' : c = [.int .i64 l0[j]] := hk
      have h2 := hu 0 (.int .i64 l0[j]) (by rw [hk']; rfl)
      rw [show j * (Kd.int .i64).sz + 0 = j from by simp [Kd.int, Kd.scalar]] at h2
      rw [h2, List.getD_eq_getElem?_getD, List.getElem?_eq_getElem hj]; rfl
    have h0 := each 0 hc.1
    obtain ⟨b, o, s⟩ := ad
    have hs : s = none := by
      cases s with
      | none => rfl
      | some x =>
        rw [show (⟨b, o, some x⟩ : Addr).add 0 = ⟨b, o, some x⟩ from rfl] at h0
        unfold World.cell? at h0
        split at h0 <;> simp at h0
    subst hs
    refine (Tryz.slices_Clone_int b o l0.length c0 l0 w (Nat.le_refl _) (by omega) (fun j hj => ?_)).mono ?_
    · have := each j hj
      rw [show (⟨b, o, none⟩ : Addr).add j = ⟨b, o + j, none⟩ from by unfold Addr.add; split <;> simp_all] at this
      exact this
    · rintro e w' ⟨v', rfl, hown, _, hb⟩
      refine ⟨v', rfl, ⟨fun _ _ => trivial, _, hown, ?_⟩, hb⟩
      rw [List.take_length]
      exact Kd.reps_scalar (enc := Value.int .i64) l0
  · cases h


def timer_Settle.l0 : Nat → ByteArray → List Int → List Int → List (S26) → List Int → Int → Int → Int → Int → Option (Int × Int × Int × Int)
 | 0, _, _, _, _, _, _, _, _, _ => none
 | k + 1, x0, x1, x2, x3, x11, x14, x15, x361000, x361001 => (slices_Equal_int64_int64.f k x11 x2).bind fun t361 => (if t361 = true then (some (x361000, x361001, x14, 0)) else ((slices_Clone_int64_int64.f x11).bind fun t362 => ((timer_step.f k x0 x1 x11 x3 1).bind fun bt365 => (if (!(bt365.1 == x361000) || (!(bt365.2.1 == x361001))) = true then (timer_Settle.l0 k x0 x1 t362 x3 bt365.2.2 x15 (wrap64 (x15 + 1)) bt365.1 bt365.2.1) else (timer_Settle.l0 k x0 x1 t362 x3 bt365.2.2 x14 (wrap64 (x15 + 1)) x361000 x361001)))))
def timer_Settle.f (k : Nat) (a0 : ByteArray) (l1 : List Int) (l2 : List Int) (l3 : List (S26)) : Option (Int × Int × Int × Int) := (timer_Step.f k a0 l1 l2 l3 1).bind fun bt354 => (if bt354.2.2.2 = 0 then (timer_Settle.l0 k a0 l1 l2 l3 bt354.1 1 2 bt354.2.1 bt354.2.2.1) else (some (0, 0, 0, bt354.2.2.2)))
theorem timer_Settle.mono_l : ∀ k, (∀ y0 y1 y2 y3 y4 y5 y6 y7 y8, LeO (timer_Settle.l0 k y0 y1 y2 y3 y4 y5 y6 y7 y8) (timer_Settle.l0 (k + 1) y0 y1 y2 y3 y4 y5 y6 y7 y8))
 | 0 => fun _ _ _ _ _ _ _ _ _ r h => by simp [timer_Settle.l0] at h
 | k + 1 => by
  have ih0 := timer_Settle.mono_l k
  ·
   intro y0 y1 y2 y3 y4 y5 y6 y7 y8
   unfold timer_Settle.l0
   repeat' first
   | (with_reducible exact ih0 _ _ _ _ _ _ _ _ _)
   | (with_reducible exact slices_Equal_int64_int64.mono _ _ _)
   | (with_reducible exact timer_Step.mono _ _ _ _ _ _)
   | (with_reducible exact timer_step.mono _ _ _ _ _ _)
   | (with_reducible exact LeO.refl _)
   | (with_reducible exact LeO.none _)
   | (with_reducible refine LeO.ite ?_ ?_)
   | (with_reducible refine LeO.bind ?_ (fun _ => ?_))
   | exact LeO.none _
   | refine LeO.ite ?_ ?_
   | refine LeO.bind ?_ (fun _ => ?_)
theorem timer_Settle.mono : ∀ a0 a1 a2 a3 k, LeO (timer_Settle.f k a0 a1 a2 a3) (timer_Settle.f (k + 1) a0 a1 a2 a3) := by
 intro a0 a1 a2 a3 k
 have ih0 := timer_Settle.mono_l k
 unfold timer_Settle.f
 repeat' first
   | (with_reducible exact ih0 _ _ _ _ _ _ _ _ _)
   | (with_reducible exact slices_Equal_int64_int64.mono _ _ _)
   | (with_reducible exact timer_Step.mono _ _ _ _ _ _)
   | (with_reducible exact timer_step.mono _ _ _ _ _ _)
   | (with_reducible exact LeO.refl _)
   | (with_reducible exact LeO.none _)
   | (with_reducible refine LeO.ite ?_ ?_)
   | (with_reducible refine LeO.bind ?_ (fun _ => ?_))
   | exact LeO.none _
   | refine LeO.ite ?_ ?_
   | refine LeO.bind ?_ (fun _ => ?_)
set_option maxHeartbeats 8000000 in
set_option maxRecDepth 100000 in
theorem timer_Settle.calls (k : Nat) (a0 : ByteArray) (A1 : Option Addr) (c1 : Nat) (l1 : List Int) (P2_ : Nat → Prop) (A2 : Option Addr) (c2 : Nat) (l2 : List Int) (A3 : Option Addr) (c3 : Nat) (l3 : List (S26)) (r1 : Int) (r2 : Int) (r3 : Int) (r4 : Int) (w : World) (hr1 : Kd.C (Kd.int .i64) w A1 l1.length l1) (hc1 : l1.length ≤ c1) (hs2 : Kd.V (Kd.int .i64) 2 w w.heap.size (fun k_ => P2_ k_) (.slice A2 l2.length c2) l2) (hr3 : Kd.C k26 w A3 l3.length l3) (hc3 : l3.length ≤ c3) (hG : GW w) (h : timer_Settle.f k a0 l1 l2 l3 = some (r1, r2, r3, r4)) :
  Calls Tryz.prog 10 #[.string a0, .slice A1 l1.length c1, .slice A2 l2.length c2, .slice A3 l3.length c3] w fun e w' => e = .returned (.tuple #[.agg #[.int .i64 r1, .int .i64 r2], .int .i64 r3, .int .i64 r4]) ∧ Below w.heap.size w w' := by
 have hu26 := Tryz.underlying26
 have HG := am hG
 clear hG
 have HR1 := am hr1
 have HC1 := am hc1
 clear hr1 hc1
 have HO2 := am (show Kd.V (Kd.int .i64) 2 w w.heap.size (fun k_ => (P2_ k_ ∨ w.heap.size ≤ k_)) (.slice A2 l2.length c2) l2 from Kd.V_mono hs2 (fun k_ hk => .inl hk))
 have HR3 := am hr3
 have HC3 := am hc3
 clear hr3 hc3
 have HB := am (Below.refl w.heap.size w)
 have H : ((timer_Step.f k a0 l1 l2 l3 1).bind fun bt354 => (if bt354.2.2.2 = 0 then (timer_Settle.l0 k a0 l1 l2 l3 bt354.1 1 2 bt354.2.1 bt354.2.2.1) else (some (0, 0, 0, bt354.2.2.2)))) = some (r1, r2, r3, r4) := h
 clear h
 obtain ⟨⟨t354, t357, t358, t359⟩, A5, H⟩ := Option.bind_eq_some_iff.mp H
 (try dsimp only at H)
 replace A5 := am A5
 by_cases c6 : t359 = 0
 rotate_left
 ·
  rw [if_neg c6] at H
  have c6b0 := beq_eq_false_iff_ne.mpr c6
  have c6b1 := bne_iff_ne.mpr c6
  simp only [Option.some.injEq, Prod.mk.injEq] at H
  obtain ⟨rfl, rfl, rfl, rfl⟩ := H
  go_enter Tryz.func10, Tryz.ntmps10
  go_wp2_with (first | ((refine gate_dst (N := 8) rfl ?_); refine bx (N := 8) (cs := #[.int .i64 0, .int .i64 0]) (t := 26) ?_; intro gb353 hg w46 hbox hb; replace HO2 := am (Kd.V_below (Kd.V_elderB (by (with_reducible repeat (first | apply Kd.V_alloc | apply Kd.V_drewN | apply Kd.V_drew)); exact HO2.out) gb353 (Nat.le_of_eq hg.symm)) hb); have BK353 := am (hbox); have GW353 := am (gw hg (below_size bl)); have GE353 := am (gw hg (below_size bl)); replace HB := am (below_step bl hb); clear hb hbox hg) | ((refine gate_callee (f := 6) rfl ?_); refine gl (some 22) Tryz.func6 #[.string a0, .slice A1 l1.length c1, .slice A2 l2.length c2, .slice A3 l3.length c3, .int .i64 1] ?_; (with_reducible refine (timer_Step.calls k a0 _ _ l1 _ _ l2 _ _ l3 1 t354 t357 t358 t359 _ ?side1 ?side2 ?side3 ?side4 ?side5 ?side6 ?side7 A5.out).mono ?_); (case side1 => exact cc (Kd.C_below HR1.out HB.out)); (case side2 => exact HC1.out); (case side3 => repeat (first | exact (Kd.V_reads' HO2.out).2.2 | (with_reducible refine Kd.C_alloc ?_ _) | (with_reducible refine Kd.C_drewN ?_ _) | (with_reducible refine Kd.C_drew ?_))); (case side4 => exact (Kd.V_reads' HO2.out).2.1); (case side5 => exact cc (Kd.C_below HR3.out HB.out)); (case side6 => exact HC3.out); (case side7 => exact GW.below HG.out (bs1 GE353.out)); rintro e w47 ⟨v355, rfl, ho0, hb⟩; refine ⟨_, rfl, ?_⟩; replace HO2 := am (Kd.V_elder' (by (with_reducible repeat (first | apply Kd.V_alloc | apply Kd.V_drewN | apply Kd.V_drew)); exact HO2.out) (Kd.R_base ho0) hb); have HO356 := am (Kd.R_lower (Kd.R_newM (M := fun k_ => (w.heap.size ≤ k_)) ho0 (below_size (bs1 GE353.out)) (fun k_ h_ => h_)) (below_size (bs1 GE353.out))); replace BK353 := am (blk_below (rb BK353.out) hb); replace HB := am (below_step (bs1 GE353.out) hb); (try clear hb); (try clear hb2); (try clear hk); (try clear hi); (try clear ho0)) | ((refine gate_dst (N := 12) rfl ?_); refine bx (N := 12) (cs := #[.int .i64 0, .int .i64 0]) (t := 26) ?_; intro gb360 hg w48 hbox hb; replace HO2 := am (Kd.V_below (Kd.V_elderB (by (with_reducible repeat (first | apply Kd.V_alloc | apply Kd.V_drewN | apply Kd.V_drew)); exact HO2.out) gb360 (Nat.le_of_eq hg.symm)) hb); replace HO356 := am (Kd.R_below (rr HO356.out) hb); have BK360 := am (hbox); have GW360 := am (gw hg (below_size (bs1 GE353.out))); have GE360 := am (gw hg (below_size (bs1 GE353.out))); replace HB := am (below_step (bs1 GE353.out) hb); have NB353_360 := am ((by rw [hg]; exact Nat.ne_of_lt (blk_lt (rb BK353.out)) : gb353 ≠ gb360)); have NB360_353 := am ((by rw [hg]; exact Nat.ne_of_gt (blk_lt (rb BK353.out)) : gb360 ≠ gb353)); replace BK353 := am (blk_below (rb BK353.out) hb); clear hb hbox hg; have hnb49 := NB360_353.out; have hnc49 := NB353_360.out; obtain ⟨hcz50_0, hcz50_1, hfz50_0, hfz50_1⟩ := bz2 BK360.out; obtain ⟨hcz51_0, hcz51_1, hfz51_0, hfz51_1⟩ := bz2 BK353.out))
  refine bodyPost_ret (results_ctt rfl _ _ gb353 26 #[.int .i64 0, .int .i64 0] (0, 0) _ rfl (by refine rb ?_; refine blk_put (cs := #[.int .i64 0, .int .i64 0]) ?_ 1 _ rfl; refine rb ?_; refine blk_put (cs := #[.int .i64 0, .int .i64 0]) ?_ 0 _ rfl; (with_reducible repeat (first | apply blk_drewN | apply blk_drew | apply blk_alloc)); refine blk_far ?_ NB353_360.out _; (with_reducible repeat (first | apply blk_drewN | apply blk_drew | apply blk_alloc)); refine blk_far ?_ NB353_360.out _; exact rb BK353.out) Tryz.underlying26 rfl (by kernel_rfl)) rfl ?_
  exact ⟨ew, bs2 GE353.out GE360.out⟩
 rw [if_pos c6] at H
 have c6b0 := beq_iff_eq.mpr c6
 have c6b1 := bne_eq_false_iff_eq.mpr c6
 clear c6
 have H' := am H
 clear H
 go_enter Tryz.func10, Tryz.ntmps10
 go_wp2_with (first | ((refine gate_dst (N := 8) rfl ?_); refine bx (N := 8) (cs := #[.int .i64 0, .int .i64 0]) (t := 26) ?_; intro gb353 hg w7 hbox hb; replace HO2 := am (Kd.V_below (Kd.V_elderB (by (with_reducible repeat (first | apply Kd.V_alloc | apply Kd.V_drewN | apply Kd.V_drew)); exact HO2.out) gb353 (Nat.le_of_eq hg.symm)) hb); have BK353 := am (hbox); have GW353 := am (gw hg (below_size bl)); have GE353 := am (gw hg (below_size bl)); replace HB := am (below_step bl hb); clear hb hbox hg) | ((refine gate_callee (f := 6) rfl ?_); refine gl (some 22) Tryz.func6 #[.string a0, .slice A1 l1.length c1, .slice A2 l2.length c2, .slice A3 l3.length c3, .int .i64 1] ?_; (with_reducible refine (timer_Step.calls k a0 _ _ l1 _ _ l2 _ _ l3 1 t354 t357 t358 t359 _ ?side1 ?side2 ?side3 ?side4 ?side5 ?side6 ?side7 A5.out).mono ?_); (case side1 => exact cc (Kd.C_below HR1.out HB.out)); (case side2 => exact HC1.out); (case side3 => repeat (first | exact (Kd.V_reads' HO2.out).2.2 | (with_reducible refine Kd.C_alloc ?_ _) | (with_reducible refine Kd.C_drewN ?_ _) | (with_reducible refine Kd.C_drew ?_))); (case side4 => exact (Kd.V_reads' HO2.out).2.1); (case side5 => exact cc (Kd.C_below HR3.out HB.out)); (case side6 => exact HC3.out); (case side7 => exact GW.below HG.out (bs1 GE353.out)); rintro e w8 ⟨v355, rfl, ho0, hb⟩; refine ⟨_, rfl, ?_⟩; replace HO2 := am (Kd.V_elder' (by (with_reducible repeat (first | apply Kd.V_alloc | apply Kd.V_drewN | apply Kd.V_drew)); exact HO2.out) (Kd.R_base ho0) hb); have HO356 := am (Kd.R_lower (Kd.R_newM (M := fun k_ => (w.heap.size ≤ k_)) ho0 (below_size (bs1 GE353.out)) (fun k_ h_ => h_)) (below_size (bs1 GE353.out))); replace BK353 := am (blk_below (rb BK353.out) hb); replace HB := am (below_step (bs1 GE353.out) hb); (try clear hb); (try clear hb2); (try clear hk); (try clear hi); (try clear ho0)) | ((refine gate_dst (N := 12) rfl ?_); refine bx (N := 12) (cs := #[.int .i64 0, .int .i64 0]) (t := 26) ?_; intro gb360 hg w9 hbox hb; replace HO2 := am (Kd.V_below (Kd.V_elderB (by (with_reducible repeat (first | apply Kd.V_alloc | apply Kd.V_drewN | apply Kd.V_drew)); exact HO2.out) gb360 (Nat.le_of_eq hg.symm)) hb); replace HO356 := am (Kd.R_below (rr HO356.out) hb); have BK360 := am (hbox); have GW360 := am (gw hg (below_size (bs1 GE353.out))); have GE360 := am (gw hg (below_size (bs1 GE353.out))); replace HB := am (below_step (bs1 GE353.out) hb); have NB353_360 := am ((by rw [hg]; exact Nat.ne_of_lt (blk_lt (rb BK353.out)) : gb353 ≠ gb360)); have NB360_353 := am ((by rw [hg]; exact Nat.ne_of_gt (blk_lt (rb BK353.out)) : gb360 ≠ gb353)); replace BK353 := am (blk_below (rb BK353.out) hb); clear hb hbox hg; have hnb10 := NB360_353.out; have hnc10 := NB353_360.out; obtain ⟨hcz11_0, hcz11_1, hfz11_0, hfz11_1⟩ := bz2 BK360.out))
 go_loopg [2, 14, 15] k (fun kq v2 v14 v15 w' => ∃ (x2_1 : List Int) (x11_1 : List Int) (x14_1 : Int) (x15_1 : Int) (x361000_1 : Int) (x361001_1 : Int), v14 = .int .i64 x14_1 ∧ v15 = .int .i64 x15_1 ∧ Aside0 (timer_Settle.l0 kq a0 l1 x2_1 l3 x11_1 x14_1 x15_1 x361000_1 x361001_1 = some (r1, r2, r3, r4)) ∧ Aside0 (kq ≤ k) ∧ Aside0 (Kd.V (Kd.int .i64) 2 w' w.heap.size (fun k_ => (P2_ k_ ∨ w.heap.size ≤ k_) ∧ some k_ ≠ (v355 : Value).ownBlock ∧ k_ ≠ gb353 ∧ k_ ≠ gb360) v2 x2_1) ∧ Aside0 (Kd.R (Kd.int .i64) 2 w' w.heap.size (fun k_ => (w.heap.size ≤ k_)) v355 x11_1) ∧ Aside0 (w'.heap[gb353]? = some (.cells #[.int .i64 0, .int .i64 0] 26 (0, 0))) ∧ Aside0 (w'.heap[gb360]? = some (.cells #[.int .i64 x361000_1, .int .i64 x361001_1] 26 (0, 0))) ∧ Aside0 (Below w.heap.size w w'))
 case atStart => exact ⟨(l2), (t354), (1), (2), (t357), (t358), (by first | rfl | (simp; done) | (simp [*]; done)), (by first | rfl | (simp; done) | (simp [*]; done)), H', ⟨Nat.le_refl _⟩, ⟨by (with_reducible repeat (first | apply Kd.V_alloc | apply Kd.V_drewN | apply Kd.V_drew)); exact Kd.V_mono (Kd.V_far (p := ⟨gb360, 1, none⟩) (Kd.V_far (p := ⟨gb360, 0, none⟩) (Kd.V_mono HO2.out (fun k_ hk => (⟨hk, hk.2⟩ : _ ∧ k_ ≠ gb360))) (fun _ hk => hk.2) (.int .i64 t357)) (fun _ hk => hk.2) (.int .i64 t358)) (fun _ hk => ⟨hk.1.1.1.1, ⟨hk.1.1.2, ⟨hk.1.1.1.2, hk.1.2⟩⟩⟩)⟩, ⟨rr (Kd.R_mono (Kd.R_far (p := ⟨gb360, 1, none⟩) (Kd.R_far (p := ⟨gb360, 0, none⟩) (Kd.R_types HO356.out BK360.out (by decide)) (fun _ hk => hk.2) (.int .i64 t357)) (fun _ hk => hk.2) (.int .i64 t358)) (fun _ hk => hk.1.1))⟩, ⟨by (with_reducible repeat (first | apply blk_drewN | apply blk_drew | apply blk_alloc)); refine blk_far ?_ NB353_360.out _; (with_reducible repeat (first | apply blk_drewN | apply blk_drew | apply blk_alloc)); refine blk_far ?_ NB353_360.out _; exact rb BK353.out⟩, ⟨by refine rb ?_; refine blk_put (cs := #[.int .i64 t357, .int .i64 0]) ?_ 1 _ rfl; refine rb ?_; refine blk_put (cs := #[.int .i64 0, .int .i64 0]) ?_ 0 _ rfl; exact rb BK360.out⟩, ⟨bs2 GE353.out GE360.out⟩⟩
 case round =>
  clear H'
  obtain ⟨x2_1, x11_1, x14_1, x15_1, x361000_1, x361001_1, rfl, rfl, HA, HK1, HO_2, HO_11, BK353, BK360, HB⟩ := hrel
  cases gk with
  | zero => exact absurd HA.out (by simp [timer_Settle.l0])
  | succ k1 =>
   have H := HA.out
   clear HA
   simp only [timer_Settle.l0] at H
   obtain ⟨t361, A12, H⟩ := Option.bind_eq_some_iff.mp H
   (try dsimp only at H)
   replace A12 := am A12
   by_cases c13 : t361 = true
   ·
    subst c13
    rw [if_pos rfl] at H
    simp only [Option.some.injEq, Prod.mk.injEq] at H
    obtain ⟨rfl, rfl, rfl, rfl⟩ := H
    obtain ⟨Ao14, co14, eo14⟩ := Kd.R_slice HO_11.out
    subst eo14
    obtain ⟨Ao15, co15, eo15⟩ := Kd.V_slice HO_2.out
    subst eo15
    go_wp2_with (first | ((refine gate_callee (f := 24) rfl ?_); refine gl (some 32) Tryz.func24 #[.slice Ao14 x11_1.length co14, .slice Ao15 x2_1.length co15] ?_; (with_reducible refine (slices_Equal_int64_int64.calls k1 _ _ x11_1 _ _ x2_1 true _ ?side1 ?side2 ?side3 ?side4 A12.out).mono ?_); (case side1 => repeat (first | exact (Kd.R_reads' HO_11.out).2.2 | (with_reducible refine Kd.C_alloc ?_ _) | (with_reducible refine Kd.C_drewN ?_ _) | (with_reducible refine Kd.C_drew ?_))); (case side2 => exact (Kd.R_reads' HO_11.out).2.1); (case side3 => repeat (first | exact (Kd.V_reads' HO_2.out).2.2 | (with_reducible refine Kd.C_alloc ?_ _) | (with_reducible refine Kd.C_drewN ?_ _) | (with_reducible refine Kd.C_drew ?_))); (case side4 => exact (Kd.V_reads' HO_2.out).2.1); rintro e w' ⟨rfl, ⟨nd, rfl⟩⟩; refine ⟨_, rfl, ?_⟩; (try (rw [drewN_self wr]; generalize hq_ : World.drewN wr _ = wr; have n0_ : Aside0 (Kd.R (Kd.int .i64) 2 wr w.heap.size (fun k_ => (w.heap.size ≤ k_)) (.slice Ao14 x11_1.length co14) x11_1) := ⟨by rw [← hq_]; exact (rr HO_11.out)⟩; have n1_ : Aside0 (Kd.V (Kd.int .i64) 2 wr w.heap.size (fun k_ => (P2_ k_ ∨ w.heap.size ≤ k_) ∧ some k_ ≠ (.slice Ao14 x11_1.length co14 : Value).ownBlock ∧ k_ ≠ gb353 ∧ k_ ≠ gb360) (.slice Ao15 x2_1.length co15) x2_1) := ⟨by rw [← hq_]; exact (by (with_reducible repeat (first | apply Kd.V_alloc | apply Kd.V_drewN | apply Kd.V_drew)); exact HO_2.out)⟩; have n2_ : Aside0 (wr.heap[gb353]? = some (.cells #[.int .i64 0, .int .i64 0] 26 (0, 0))) := ⟨by rw [← hq_]; exact (rb BK353.out)⟩; have n3_ : Aside0 (wr.heap[gb360]? = some (.cells #[.int .i64 x361000_1, .int .i64 x361001_1] 26 (0, 0))) := ⟨by rw [← hq_]; exact (rb BK360.out)⟩; have n4_ : Aside0 (Below w.heap.size w wr) := ⟨by rw [← hq_]; exact (bs2 GE353.out GE360.out)⟩; clear HO_11 HO_2 BK353 BK360 HB hq_; have HO_11 := n0_; have HO_2 := n1_; have BK353 := n2_; have BK360 := n3_; have HB := n4_; clear n0_ n1_ n2_ n3_ n4_)); have hnb16 := NB360_353.out; have hnc16 := NB353_360.out; obtain ⟨hcz17_0, hcz17_1, hfz17_0, hfz17_1⟩ := bz2 BK360.out; obtain ⟨hcz18_0, hcz18_1, hfz18_0, hfz18_1⟩ := bz2 BK353.out))
    refine bodyPost_ret (results_ctt rfl _ _ gb353 26 #[.int .i64 x361000_1, .int .i64 x361001_1] (0, 0) _ rfl (by refine rb ?_; refine blk_put (cs := #[.int .i64 x361000_1, .int .i64 0]) ?_ 1 _ rfl; refine rb ?_; refine blk_put (cs := #[.int .i64 0, .int .i64 0]) ?_ 0 _ rfl; exact rb BK353.out) Tryz.underlying26 rfl (by kernel_rfl)) rfl ?_
    exact ⟨ew, bs2 GE353.out GE360.out⟩
   replace c13 := Bool.eq_false_iff.mpr c13
   subst c13
   rw [if_neg (show ¬ (false = true) by decide)] at H
   obtain ⟨t362, A19, H⟩ := Option.bind_eq_some_iff.mp H
   (try dsimp only at H)
   replace A19 := am A19
   obtain ⟨⟨t365, t366, t367⟩, A20, H⟩ := Option.bind_eq_some_iff.mp H
   (try dsimp only at H)
   replace A20 := am A20
   by_cases c21 : (!(t365 == x361000_1) || (!(t366 == x361001_1))) = true
   rotate_left
   ·
    rw [if_neg c21] at H
    have c21b0 : (!(t365 == x361000_1) || (!(t366 == x361001_1))) = false := by simpa using c21
    clear c21
    have H' := am H
    clear H
    obtain ⟨Ao36, co36, eo36⟩ := Kd.R_slice HO_11.out
    subst eo36
    obtain ⟨Ao37, co37, eo37⟩ := Kd.V_slice HO_2.out
    subst eo37
    go_wp2_with (first | ((refine gate_callee (f := 24) rfl ?_); refine gl (some 32) Tryz.func24 #[.slice Ao36 x11_1.length co36, .slice Ao37 x2_1.length co37] ?_; (with_reducible refine (slices_Equal_int64_int64.calls k1 _ _ x11_1 _ _ x2_1 false _ ?side1 ?side2 ?side3 ?side4 A12.out).mono ?_); (case side1 => repeat (first | exact (Kd.R_reads' HO_11.out).2.2 | (with_reducible refine Kd.C_alloc ?_ _) | (with_reducible refine Kd.C_drewN ?_ _) | (with_reducible refine Kd.C_drew ?_))); (case side2 => exact (Kd.R_reads' HO_11.out).2.1); (case side3 => repeat (first | exact (Kd.V_reads' HO_2.out).2.2 | (with_reducible refine Kd.C_alloc ?_ _) | (with_reducible refine Kd.C_drewN ?_ _) | (with_reducible refine Kd.C_drew ?_))); (case side4 => exact (Kd.V_reads' HO_2.out).2.1); rintro e w' ⟨rfl, ⟨nd, rfl⟩⟩; refine ⟨_, rfl, ?_⟩; (try (rw [drewN_self wr]; generalize hq_ : World.drewN wr _ = wr; have n0_ : Aside0 (Kd.R (Kd.int .i64) 2 wr w.heap.size (fun k_ => (w.heap.size ≤ k_)) (.slice Ao36 x11_1.length co36) x11_1) := ⟨by rw [← hq_]; exact (rr HO_11.out)⟩; have n1_ : Aside0 (Kd.V (Kd.int .i64) 2 wr w.heap.size (fun k_ => (P2_ k_ ∨ w.heap.size ≤ k_) ∧ some k_ ≠ (.slice Ao36 x11_1.length co36 : Value).ownBlock ∧ k_ ≠ gb353 ∧ k_ ≠ gb360) (.slice Ao37 x2_1.length co37) x2_1) := ⟨by rw [← hq_]; exact (by (with_reducible repeat (first | apply Kd.V_alloc | apply Kd.V_drewN | apply Kd.V_drew)); exact HO_2.out)⟩; have n2_ : Aside0 (wr.heap[gb353]? = some (.cells #[.int .i64 0, .int .i64 0] 26 (0, 0))) := ⟨by rw [← hq_]; exact (rb BK353.out)⟩; have n3_ : Aside0 (wr.heap[gb360]? = some (.cells #[.int .i64 x361000_1, .int .i64 x361001_1] 26 (0, 0))) := ⟨by rw [← hq_]; exact (rb BK360.out)⟩; have n4_ : Aside0 (Below w.heap.size w wr) := ⟨by rw [← hq_]; exact (bs2 GE353.out GE360.out)⟩; clear HO_11 HO_2 BK353 BK360 HB hq_; have HO_11 := n0_; have HO_2 := n1_; have BK353 := n2_; have BK360 := n3_; have HB := n4_; clear n0_ n1_ n2_ n3_ n4_))) | ((refine gate_callee (f := 25) rfl ?_); refine gl (some 37) Tryz.func25 #[.slice Ao36 x11_1.length co36] ?_; (with_reducible refine (slices_Clone_int64_int64.calls _ _ x11_1 t362 _ ?side1 ?side2 A19.out).mono ?_); (case side1 => repeat (first | exact (Kd.R_reads' HO_11.out).2.2 | (with_reducible refine Kd.C_alloc ?_ _) | (with_reducible refine Kd.C_drewN ?_ _) | (with_reducible refine Kd.C_drew ?_))); (case side2 => exact (Kd.R_reads' HO_11.out).2.1); rintro e w38 ⟨v363, rfl, ho0, hb⟩; refine ⟨_, rfl, ?_⟩; replace HO_2 := am (Kd.V_elder' (by (with_reducible repeat (first | apply Kd.V_alloc | apply Kd.V_drewN | apply Kd.V_drew)); exact HO_2.out) (Kd.R_base ho0) hb); have HO364 := am (Kd.R_lower (Kd.R_new' (Kd.R_newM (M := fun k_ => (w.heap.size ≤ k_)) ho0 (below_size (bs2 GE353.out GE360.out)) (fun k_ h_ => h_)) (Kd.R_lt (rr HO_11.out))) (below_size (bs2 GE353.out GE360.out))); replace HO_11 := am (Kd.R_elder' (rr HO_11.out) (Kd.R_base ho0) hb); replace BK353 := am (blk_below (rb BK353.out) hb); replace BK360 := am (blk_below (rb BK360.out) hb); replace HB := am (below_step (bs2 GE353.out GE360.out) hb); (try clear hb); (try clear hb2); (try clear hk); (try clear hi); (try clear ho0)) | ((refine gate_callee (f := 19) rfl ?_); refine gl (some 42) Tryz.func19 #[.string a0, .slice A1 l1.length c1, .slice Ao36 x11_1.length co36, .slice A3 l3.length c3, .int .i64 1] ?_; (with_reducible refine (timer_step.calls k1 a0 _ _ l1 (fun k_ => some k_ = (.slice Ao36 x11_1.length co36 : Value).ownBlock) (.slice Ao36 x11_1.length co36) x11_1 _ _ l3 1 t365 t366 t367 w _ ?side1 ?side2 ?side3 ?side4 ?side5 ?side6 A20.out).mono ?_); (case side1 => repeat (first | (with_reducible first | exact HB.out | apply below_alloc | apply pw_below_drewN | apply below_drew1 | refine below_set ?_ GE353.out | refine below_set ?_ GE360.out) | exact HB.out)); (case side2 => exact Kd.C_kept_came (Kd.heap_int .i64) HR1.out (bs2 GE353.out GE360.out) (fun k_ hs_ => (fun e_ => Kd.R_base HO_11.out k_ e_.symm) hs_)); (case side3 => exact HC1.out); (case side4 => exact Kd.R_tight rfl HO_11.out); (case side5 => exact Kd.C_kept_came k26_heap HR3.out (bs2 GE353.out GE360.out) (fun k_ hs_ => (fun e_ => Kd.R_base HO_11.out k_ e_.symm) hs_)); (case side6 => exact HC3.out); rintro e w39 ⟨rfl, hy0, hb, hkp⟩; refine ⟨_, rfl, ?_⟩; replace HO_2 := am (Kd.V_mono (ok' := fun k_ => (P2_ k_ ∨ w.heap.size ≤ k_) ∧ some k_ ≠ (.slice Ao36 x11_1.length co36 : Value).ownBlock ∧ some k_ ≠ (v363 : Value).ownBlock ∧ k_ ≠ gb353 ∧ k_ ≠ gb360) (Kd.V_keptB (HO_2.out) hkp (fun k_ hk_ hs_ => (hk_.1.2.1) hs_)) (fun k_ hk_ => ⟨hk_.1.1.1, hk_.1.1.2.1, hk_.1.2, hk_.1.1.2.2.1, hk_.1.1.2.2.2⟩)); replace BK353 := am (blk_kept (rb BK353.out) hkp (fun hs_ => (fun e_ => (Kd.R_ne HO_11.out BK353.out (by decide)) e_) hs_)); replace BK360 := am (blk_kept (rb BK360.out) hkp (fun hs_ => (fun e_ => (Kd.R_ne HO_11.out BK360.out (by decide)) e_) hs_)); replace HO_11 := am (Kd.R_reok rfl hy0 (fun k_ e_ => HO_11.out.1 k_ e_)); replace HO364 := am (Kd.R_mono (ok' := fun k_ => (w.heap.size ≤ k_) ∧ some k_ ≠ (.slice Ao36 x11_1.length co36 : Value).ownBlock) (Kd.R_keptB (HO364.out) hkp (fun k_ hk_ hs_ => (hk_.2) hs_)) (fun k_ hk_ => ⟨hk_.1.1.1, hk_.1.2⟩)); replace HB := am (hb); (try clear hb); (try clear hkp); (try clear hy0)) | ((refine gate_dst (N := 16) rfl ?_); refine bx (N := 16) (cs := #[.int .i64 0, .int .i64 0]) (t := 26) ?_; intro gb368 hg w40 hbox hb; replace HO_2 := am (Kd.V_below (Kd.V_elderB (by (with_reducible repeat (first | apply Kd.V_alloc | apply Kd.V_drewN | apply Kd.V_drew)); exact HO_2.out) gb368 (Nat.le_of_eq hg.symm)) hb); replace HO_11 := am (Kd.R_below (rr HO_11.out) hb); replace HO364 := am (Kd.R_below (rr HO364.out) hb); have BK368 := am (hbox); have GW368 := am (gw hg (below_size (bs2 GE353.out GE360.out))); have GE368 := am (gw hg (below_size (bs2 GE353.out GE360.out))); replace HB := am (below_step (bs2 GE353.out GE360.out) hb); have NB353_368 := am ((by rw [hg]; exact Nat.ne_of_lt (blk_lt (rb BK353.out)) : gb353 ≠ gb368)); have NB368_353 := am ((by rw [hg]; exact Nat.ne_of_gt (blk_lt (rb BK353.out)) : gb368 ≠ gb353)); replace BK353 := am (blk_below (rb BK353.out) hb); have NB360_368 := am ((by rw [hg]; exact Nat.ne_of_lt (blk_lt (rb BK360.out)) : gb360 ≠ gb368)); have NB368_360 := am ((by rw [hg]; exact Nat.ne_of_gt (blk_lt (rb BK360.out)) : gb368 ≠ gb360)); replace BK360 := am (blk_below (rb BK360.out) hb); clear hb hbox hg; have hnb41 := NB368_353.out; have hnc41 := NB353_368.out; have hnb42 := NB368_360.out; have hnc42 := NB360_368.out; obtain ⟨hcz43_0, hcz43_1, hfz43_0, hfz43_1⟩ := bz2 BK368.out; have hnb44 := NB360_353.out; have hnc44 := NB353_360.out; obtain ⟨hcz45_0, hcz45_1, hfz45_0, hfz45_1⟩ := bz2 BK360.out))
    go_roundg k1
    case measure => have := HK1.out; omega
    case rel => exact ⟨(t362), (t367), (x14_1), (wrap64 (x15_1 + 1)), (x361000_1), (x361001_1), (by first | rfl | (simp; done) | (simp [*]; done)), (by first | rfl | (simp; done) | (simp [*]; done)), H', ⟨by have := HK1.out; omega⟩, ⟨Kd.V_mono (Kd.R_V (by (with_reducible repeat (first | apply Kd.R_alloc | apply Kd.R_drewN | apply Kd.R_drew)); exact Kd.R_mono (Kd.R_far (p := ⟨gb368, 1, none⟩) (Kd.R_far (p := ⟨gb368, 0, none⟩) (Kd.R_types (Kd.R_types (Kd.R_types HO364.out BK353.out (by decide)) BK360.out (by decide)) BK368.out (by decide)) (fun _ hk => hk.2) (.int .i64 t365)) (fun _ hk => hk.2) (.int .i64 t366)) (fun _ hk => (And.intro hk.1.1.1.1 (And.intro hk.1.1.1.2 (And.intro hk.1.1.2 hk.1.2)))))) (fun k_ hk => by first | exact ⟨(.inr (hk.1)), hk.2⟩ | exact (.inr (hk)))⟩, ⟨rr (Kd.R_mono (Kd.R_far (p := ⟨gb368, 1, none⟩) (Kd.R_far (p := ⟨gb368, 0, none⟩) (Kd.R_types HO_11.out BK368.out (by decide)) (fun _ hk => hk.2) (.int .i64 t365)) (fun _ hk => hk.2) (.int .i64 t366)) (fun _ hk => hk.1.1))⟩, ⟨by (with_reducible repeat (first | apply blk_drewN | apply blk_drew | apply blk_alloc)); refine blk_far ?_ NB353_368.out _; (with_reducible repeat (first | apply blk_drewN | apply blk_drew | apply blk_alloc)); refine blk_far ?_ NB353_368.out _; exact rb BK353.out⟩, ⟨by (with_reducible repeat (first | apply blk_drewN | apply blk_drew | apply blk_alloc)); refine blk_far ?_ NB360_368.out _; (with_reducible repeat (first | apply blk_drewN | apply blk_drew | apply blk_alloc)); refine blk_far ?_ NB360_368.out _; exact rb BK360.out⟩, ⟨bs3 GE353.out GE360.out GE368.out⟩⟩
   rw [if_pos c21] at H
   have c21b0 : (!(t365 == x361000_1) || (!(t366 == x361001_1))) = true := c21
   clear c21
   have H' := am H
   clear H
   obtain ⟨Ao22, co22, eo22⟩ := Kd.R_slice HO_11.out
   subst eo22
   obtain ⟨Ao23, co23, eo23⟩ := Kd.V_slice HO_2.out
   subst eo23
   try go_wp2_with (first | ((refine gate_callee (f := 24) rfl ?_); refine gl (some 32) Tryz.func24 #[.slice Ao22 x11_1.length co22, .slice Ao23 x2_1.length co23] ?_; (with_reducible refine (slices_Equal_int64_int64.calls k1 _ _ x11_1 _ _ x2_1 false _ ?side1 ?side2 ?side3 ?side4 A12.out).mono ?_); (case side1 => repeat (first | exact (Kd.R_reads' HO_11.out).2.2 | (with_reducible refine Kd.C_alloc ?_ _) | (with_reducible refine Kd.C_drewN ?_ _) | (with_reducible refine Kd.C_drew ?_))); (case side2 => exact (Kd.R_reads' HO_11.out).2.1); (case side3 => repeat (first | exact (Kd.V_reads' HO_2.out).2.2 | (with_reducible refine Kd.C_alloc ?_ _) | (with_reducible refine Kd.C_drewN ?_ _) | (with_reducible refine Kd.C_drew ?_))); (case side4 => exact (Kd.V_reads' HO_2.out).2.1); rintro e w' ⟨rfl, ⟨nd, rfl⟩⟩; refine ⟨_, rfl, ?_⟩; (try (rw [drewN_self wr]; generalize hq_ : World.drewN wr _ = wr; have n0_ : Aside0 (Kd.R (Kd.int .i64) 2 wr w.heap.size (fun k_ => (w.heap.size ≤ k_)) (.slice Ao22 x11_1.length co22) x11_1) := ⟨by rw [← hq_]; exact (rr HO_11.out)⟩; have n1_ : Aside0 (Kd.V (Kd.int .i64) 2 wr w.heap.size (fun k_ => (P2_ k_ ∨ w.heap.size ≤ k_) ∧ some k_ ≠ (.slice Ao22 x11_1.length co22 : Value).ownBlock ∧ k_ ≠ gb353 ∧ k_ ≠ gb360) (.slice Ao23 x2_1.length co23) x2_1) := ⟨by rw [← hq_]; exact (by (with_reducible repeat (first | apply Kd.V_alloc | apply Kd.V_drewN | apply Kd.V_drew)); exact HO_2.out)⟩; have n2_ : Aside0 (wr.heap[gb353]? = some (.cells #[.int .i64 0, .int .i64 0] 26 (0, 0))) := ⟨by rw [← hq_]; exact (rb BK353.out)⟩; have n3_ : Aside0 (wr.heap[gb360]? = some (.cells #[.int .i64 x361000_1, .int .i64 x361001_1] 26 (0, 0))) := ⟨by rw [← hq_]; exact (rb BK360.out)⟩; have n4_ : Aside0 (Below w.heap.size w wr) := ⟨by rw [← hq_]; exact (bs2 GE353.out GE360.out)⟩; clear HO_11 HO_2 BK353 BK360 HB hq_; have HO_11 := n0_; have HO_2 := n1_; have BK353 := n2_; have BK360 := n3_; have HB := n4_; clear n0_ n1_ n2_ n3_ n4_))) | ((refine gate_callee (f := 25) rfl ?_); refine gl (some 37) Tryz.func25 #[.slice Ao22 x11_1.length co22] ?_; (with_reducible refine (slices_Clone_int64_int64.calls _ _ x11_1 t362 _ ?side1 ?side2 A19.out).mono ?_); (case side1 => repeat (first | exact (Kd.R_reads' HO_11.out).2.2 | (with_reducible refine Kd.C_alloc ?_ _) | (with_reducible refine Kd.C_drewN ?_ _) | (with_reducible refine Kd.C_drew ?_))); (case side2 => exact (Kd.R_reads' HO_11.out).2.1); rintro e w24 ⟨v363, rfl, ho0, hb⟩; refine ⟨_, rfl, ?_⟩; replace HO_2 := am (Kd.V_elder' (by (with_reducible repeat (first | apply Kd.V_alloc | apply Kd.V_drewN | apply Kd.V_drew)); exact HO_2.out) (Kd.R_base ho0) hb); have HO364 := am (Kd.R_lower (Kd.R_new' (Kd.R_newM (M := fun k_ => (w.heap.size ≤ k_)) ho0 (below_size (bs2 GE353.out GE360.out)) (fun k_ h_ => h_)) (Kd.R_lt (rr HO_11.out))) (below_size (bs2 GE353.out GE360.out))); replace HO_11 := am (Kd.R_elder' (rr HO_11.out) (Kd.R_base ho0) hb); replace BK353 := am (blk_below (rb BK353.out) hb); replace BK360 := am (blk_below (rb BK360.out) hb); replace HB := am (below_step (bs2 GE353.out GE360.out) hb); (try clear hb); (try clear hb2); (try clear hk); (try clear hi); (try clear ho0)) | ((refine gate_callee (f := 19) rfl ?_); refine gl (some 42) Tryz.func19 #[.string a0, .slice A1 l1.length c1, .slice Ao22 x11_1.length co22, .slice A3 l3.length c3, .int .i64 1] ?_; (with_reducible refine (timer_step.calls k1 a0 _ _ l1 (fun k_ => some k_ = (.slice Ao22 x11_1.length co22 : Value).ownBlock) (.slice Ao22 x11_1.length co22) x11_1 _ _ l3 1 t365 t366 t367 w _ ?side1 ?side2 ?side3 ?side4 ?side5 ?side6 A20.out).mono ?_); (case side1 => repeat (first | (with_reducible first | exact HB.out | apply below_alloc | apply pw_below_drewN | apply below_drew1 | refine below_set ?_ GE353.out | refine below_set ?_ GE360.out) | exact HB.out)); (case side2 => exact Kd.C_kept_came (Kd.heap_int .i64) HR1.out (bs2 GE353.out GE360.out) (fun k_ hs_ => (fun e_ => Kd.R_base HO_11.out k_ e_.symm) hs_)); (case side3 => exact HC1.out); (case side4 => exact Kd.R_tight rfl HO_11.out); (case side5 => exact Kd.C_kept_came k26_heap HR3.out (bs2 GE353.out GE360.out) (fun k_ hs_ => (fun e_ => Kd.R_base HO_11.out k_ e_.symm) hs_)); (case side6 => exact HC3.out); rintro e w25 ⟨rfl, hy0, hb, hkp⟩; refine ⟨_, rfl, ?_⟩; replace HO_2 := am (Kd.V_mono (ok' := fun k_ => (P2_ k_ ∨ w.heap.size ≤ k_) ∧ some k_ ≠ (.slice Ao22 x11_1.length co22 : Value).ownBlock ∧ some k_ ≠ (v363 : Value).ownBlock ∧ k_ ≠ gb353 ∧ k_ ≠ gb360) (Kd.V_keptB (HO_2.out) hkp (fun k_ hk_ hs_ => (hk_.1.2.1) hs_)) (fun k_ hk_ => ⟨hk_.1.1.1, hk_.1.1.2.1, hk_.1.2, hk_.1.1.2.2.1, hk_.1.1.2.2.2⟩)); replace BK353 := am (blk_kept (rb BK353.out) hkp (fun hs_ => (fun e_ => (Kd.R_ne HO_11.out BK353.out (by decide)) e_) hs_)); replace BK360 := am (blk_kept (rb BK360.out) hkp (fun hs_ => (fun e_ => (Kd.R_ne HO_11.out BK360.out (by decide)) e_) hs_)); replace HO_11 := am (Kd.R_reok rfl hy0 (fun k_ e_ => HO_11.out.1 k_ e_)); replace HO364 := am (Kd.R_mono (ok' := fun k_ => (w.heap.size ≤ k_) ∧ some k_ ≠ (.slice Ao22 x11_1.length co22 : Value).ownBlock) (Kd.R_keptB (HO364.out) hkp (fun k_ hk_ hs_ => (hk_.2) hs_)) (fun k_ hk_ => ⟨hk_.1.1.1, hk_.1.2⟩)); replace HB := am (hb); (try clear hb); (try clear hkp); (try clear hy0)) | ((refine gate_dst (N := 16) rfl ?_); refine bx (N := 16) (cs := #[.int .i64 0, .int .i64 0]) (t := 26) ?_; intro gb368 hg w26 hbox hb; replace HO_2 := am (Kd.V_below (Kd.V_elderB (by (with_reducible repeat (first | apply Kd.V_alloc | apply Kd.V_drewN | apply Kd.V_drew)); exact HO_2.out) gb368 (Nat.le_of_eq hg.symm)) hb); replace HO_11 := am (Kd.R_below (rr HO_11.out) hb); replace HO364 := am (Kd.R_below (rr HO364.out) hb); have BK368 := am (hbox); have GW368 := am (gw hg (below_size (bs2 GE353.out GE360.out))); have GE368 := am (gw hg (below_size (bs2 GE353.out GE360.out))); replace HB := am (below_step (bs2 GE353.out GE360.out) hb); have NB353_368 := am ((by rw [hg]; exact Nat.ne_of_lt (blk_lt (rb BK353.out)) : gb353 ≠ gb368)); have NB368_353 := am ((by rw [hg]; exact Nat.ne_of_gt (blk_lt (rb BK353.out)) : gb368 ≠ gb353)); replace BK353 := am (blk_below (rb BK353.out) hb); have NB360_368 := am ((by rw [hg]; exact Nat.ne_of_lt (blk_lt (rb BK360.out)) : gb360 ≠ gb368)); have NB368_360 := am ((by rw [hg]; exact Nat.ne_of_gt (blk_lt (rb BK360.out)) : gb368 ≠ gb360)); replace BK360 := am (blk_below (rb BK360.out) hb); clear hb hbox hg; have hnb27 := NB368_353.out; have hnc27 := NB353_368.out; have hnb28 := NB368_360.out; have hnc28 := NB360_368.out; obtain ⟨hcz29_0, hcz29_1, hfz29_0, hfz29_1⟩ := bz2 BK368.out; have hnb30 := NB360_353.out; have hnc30 := NB353_360.out; obtain ⟨hcz31_0, hcz31_1, hfz31_0, hfz31_1⟩ := bz2 BK360.out))
   have n0_ : Aside0 (Kd.V (Kd.int .i64) 2 ((w26.setCell ⟨gb368, 0, none⟩ (.int .i64 t365)).setCell ⟨gb368, 1, none⟩ (.int .i64 t366)) w.heap.size (fun k_ => (P2_ k_ ∨ w.heap.size ≤ k_) ∧ some k_ ≠ (.slice Ao22 x11_1.length co22 : Value).ownBlock ∧ some k_ ≠ (v363 : Value).ownBlock ∧ k_ ≠ gb353 ∧ k_ ≠ gb360 ∧ k_ ≠ gb368) (.slice Ao23 x2_1.length co23) x2_1) := ⟨by (with_reducible repeat (first | apply Kd.V_alloc | apply Kd.V_drewN | apply Kd.V_drew)); exact Kd.V_mono (Kd.V_far (p := ⟨gb368, 1, none⟩) (Kd.V_far (p := ⟨gb368, 0, none⟩) (Kd.V_mono HO_2.out (fun k_ hk => (⟨hk, hk.2⟩ : _ ∧ k_ ≠ gb368))) (fun _ hk => hk.2) (.int .i64 t365)) (fun _ hk => hk.2) (.int .i64 t366)) (fun _ hk => ⟨hk.1.1.1, ⟨hk.1.1.2.1, ⟨hk.1.1.2.2.1, ⟨hk.1.1.2.2.2.1, ⟨hk.1.1.2.2.2.2, hk.1.2⟩⟩⟩⟩⟩)⟩
   have n1_ : Aside0 (Kd.R (Kd.int .i64) 2 ((w26.setCell ⟨gb368, 0, none⟩ (.int .i64 t365)).setCell ⟨gb368, 1, none⟩ (.int .i64 t366)) w.heap.size (fun k_ => (w.heap.size ≤ k_) ∧ some k_ ≠ (v363 : Value).ownBlock) (.slice Ao22 x11_1.length co22) t367) := ⟨by (with_reducible repeat (first | apply Kd.R_alloc | apply Kd.R_drewN | apply Kd.R_drew)); exact Kd.R_mono (Kd.R_far (p := ⟨gb368, 1, none⟩) (Kd.R_far (p := ⟨gb368, 0, none⟩) (Kd.R_types HO_11.out BK368.out (by decide)) (fun _ hk => hk.2) (.int .i64 t365)) (fun _ hk => hk.2) (.int .i64 t366)) (fun _ hk => ⟨hk.1.1, hk.1.2⟩)⟩
   have n2_ : Aside0 (Kd.R (Kd.int .i64) 2 ((w26.setCell ⟨gb368, 0, none⟩ (.int .i64 t365)).setCell ⟨gb368, 1, none⟩ (.int .i64 t366)) w.heap.size (fun k_ => (w.heap.size ≤ k_) ∧ some k_ ≠ (.slice Ao22 x11_1.length co22 : Value).ownBlock) v363 t362) := ⟨by (with_reducible repeat (first | apply Kd.R_alloc | apply Kd.R_drewN | apply Kd.R_drew)); exact Kd.R_mono (Kd.R_far (p := ⟨gb368, 1, none⟩) (Kd.R_far (p := ⟨gb368, 0, none⟩) (Kd.R_types HO364.out BK368.out (by decide)) (fun _ hk => hk.2) (.int .i64 t365)) (fun _ hk => hk.2) (.int .i64 t366)) (fun _ hk => ⟨hk.1.1, hk.1.2⟩)⟩
   have n3_ : Aside0 (((w26.setCell ⟨gb368, 0, none⟩ (.int .i64 t365)).setCell ⟨gb368, 1, none⟩ (.int .i64 t366)).heap[gb353]? = some (.cells #[.int .i64 0, .int .i64 0] 26 (0, 0))) := ⟨by (with_reducible repeat (first | apply blk_drewN | apply blk_drew | apply blk_alloc)); refine blk_far ?_ NB353_368.out _; (with_reducible repeat (first | apply blk_drewN | apply blk_drew | apply blk_alloc)); refine blk_far ?_ NB353_368.out _; exact rb BK353.out⟩
   have n4_ : Aside0 (((w26.setCell ⟨gb368, 0, none⟩ (.int .i64 t365)).setCell ⟨gb368, 1, none⟩ (.int .i64 t366)).heap[gb360]? = some (.cells #[.int .i64 x361000_1, .int .i64 x361001_1] 26 (0, 0))) := ⟨by (with_reducible repeat (first | apply blk_drewN | apply blk_drew | apply blk_alloc)); refine blk_far ?_ NB360_368.out _; (with_reducible repeat (first | apply blk_drewN | apply blk_drew | apply blk_alloc)); refine blk_far ?_ NB360_368.out _; exact rb BK360.out⟩
   have n5_ : Aside0 (((w26.setCell ⟨gb368, 0, none⟩ (.int .i64 t365)).setCell ⟨gb368, 1, none⟩ (.int .i64 t366)).heap[gb368]? = some (.cells #[.int .i64 t365, .int .i64 t366] 26 (0, 0))) := ⟨by refine rb ?_; refine blk_put (cs := #[.int .i64 t365, .int .i64 0]) ?_ 1 _ rfl; refine rb ?_; refine blk_put (cs := #[.int .i64 0, .int .i64 0]) ?_ 0 _ rfl; exact rb BK368.out⟩
   have n6_ : Aside0 (Below w.heap.size w ((w26.setCell ⟨gb368, 0, none⟩ (.int .i64 t365)).setCell ⟨gb368, 1, none⟩ (.int .i64 t366))) := ⟨bs3 GE353.out GE360.out GE368.out⟩
   (try clear HO_2)
   (try clear HO_11)
   (try clear HO364)
   (try clear BK353)
   (try clear BK360)
   (try clear BK368)
   (try clear HB)
   generalize ((w26.setCell ⟨gb368, 0, none⟩ (.int .i64 t365)).setCell ⟨gb368, 1, none⟩ (.int .i64 t366)) = w32 at n0_ n1_ n2_ n3_ n4_ n5_ n6_ ⊢
   have HO_2 := n0_
   have HO_11 := n1_
   have HO364 := n2_
   have BK353 := n3_
   have BK360 := n4_
   have BK368 := n5_
   have HB := n6_
   clear n0_ n1_ n2_ n3_ n4_ n5_ n6_
   have n0_ := am (Kd.V_drew HO_2.out)
   have n1_ := am (Kd.R_drew HO_11.out)
   have n2_ := am (Kd.R_drew HO364.out)
   have n3_ := am (blk_drew BK353.out)
   have n4_ := am (blk_drew BK360.out)
   have n5_ := am (blk_drew BK368.out)
   have n6_ := am (below_drew1 HB.out)
   revert n0_ n1_ n2_ n3_ n4_ n5_ n6_; clear HO_2 HO_11 HO364 BK353 BK360 BK368 HB; intro HO_2 HO_11 HO364 BK353 BK360 BK368 HB
   refine start_ (n := 4) (S := fun w' => w'.cell? ⟨gb368, 0, none⟩ = some (.int .i64 t365) ∧ w'.cell? ⟨gb368, 1, none⟩ = some (.int .i64 t366)) (ds := []) #[F, F, F, F] (by kernel_rfl) rfl rfl ⟨(blk_cell BK368.out 0).trans rfl, (blk_cell BK368.out 1).trans rfl⟩ (fun hHeld => ?_)
   generalize w32.drew = w33 at HO_2 HO_11 HO364 BK353 BK360 BK368 HB hHeld ⊢
   refine pure_ (i := 0) (N := some 46) (v := ?_) (a' := ?_) #[T, F, F, F] rfl rfl (by kernel_rfl) (fun _ _ _ h => h) (Or.inl ⟨by rfl, ?_⟩) ?_ ?_
   rotate_left
   ·
    intro w'
    go_simp
    with_reducible rfl
   rotate_left
   ·
    simp only [ap, sa, sb, sc, i64_w, i32_w]
    rfl
   refine pure_ (i := 2) (N := some 14) (v := ?_) (a' := ?_) #[T, F, T, F] rfl rfl (by kernel_rfl) (fun _ _ _ h => h) (Or.inl ⟨by rfl, ?_⟩) ?_ ?_
   rotate_left
   ·
    intro w'
    go_simp
    with_reducible rfl
   rotate_left
   ·
    simp only [ap, sa, sb, sc, i64_w, i32_w]
    rfl
   refine take_ (i := 1) (N := some 47) (v := ?_) (a' := ?_) #[T, T, T, F] rfl rfl (by kernel_rfl) (fun _ _ _ h => h) (Or.inl ⟨by rfl, ?_⟩) hHeld ?_ ?_
   rotate_left
   ·
    rintro w' ⟨s0, s1⟩
    go_simp
    with_reducible rfl
   rotate_left
   ·
    simp only [ap, sa, sb, sc, i64_w, i32_w]
    rfl
   refine one_ (i := 3) (N := none) #[T, T, T, T] rfl rfl (by kernel_rfl) (by decide) (fun K hK => ?_)
   have hs34 : w33.cell? ⟨gb360, 0, none⟩ = some (.int .i64 x361000_1) := (blk_cell BK360.out 0).trans rfl
   have hfs34 := blk_frozen BK360.out 0
   have hns34_0 := NB353_360.out
   have hns34_2 := NB368_360.out
   have hms34_0 := NB360_353.out
   have hms34_2 := NB360_368.out
   have hs35 : w33.cell? ⟨gb360, 1, none⟩ = some (.int .i64 x361001_1) := (blk_cell BK360.out 1).trans rfl
   have hfs35 := blk_frozen BK360.out 1
   have hns35_0 := NB353_360.out
   have hns35_2 := NB368_360.out
   have hms35_0 := NB360_353.out
   have hms35_2 := NB360_368.out
   refine skip_ (w1 := ?_) (by rfl) rfl ?_ ?_
   rotate_left
   ·
    go_simp
    rfl
   refine hK.out _ _ ⟨((cell_far (p := ⟨gb360, _, none⟩) NB368_360.out _).trans (((cell_far (p := ⟨gb360, _, none⟩) NB368_360.out _).trans (hHeld.1)))), ((cell_far (p := ⟨gb360, _, none⟩) NB368_360.out _).trans (((cell_far (p := ⟨gb360, _, none⟩) NB368_360.out _).trans (hHeld.2))))⟩ (fun hHeld => ?_)
   clear hK K
   refine done_ (by kernel_rfl) ?_
   try go_wp2
   go_roundg k1
   case measure => have := HK1.out; omega
   case rel => exact ⟨(t362), (t367), (x15_1), (wrap64 (x15_1 + 1)), (t365), (t366), (by first | rfl | (simp; done) | (simp [*]; done)), (by first | rfl | (simp; done) | (simp [*]; done)), H', ⟨by have := HK1.out; omega⟩, ⟨Kd.V_mono (Kd.R_V (by (with_reducible repeat (first | apply Kd.R_alloc | apply Kd.R_drewN | apply Kd.R_drew)); exact Kd.R_mono (Kd.R_far (p := ⟨gb360, 1, none⟩) (Kd.R_far (p := ⟨gb360, 0, none⟩) (Kd.R_types (Kd.R_types (Kd.R_types HO364.out BK353.out (by decide)) BK360.out (by decide)) BK360.out (by decide)) (fun _ hk => hk.2) (.int .i64 t365)) (fun _ hk => hk.2) (.int .i64 t366)) (fun _ hk => (And.intro hk.1.1.1.1 (And.intro hk.1.1.1.2 (And.intro hk.1.1.2 hk.1.2)))))) (fun k_ hk => by first | exact ⟨(.inr (hk.1)), hk.2⟩ | exact (.inr (hk)))⟩, ⟨rr (Kd.R_mono (Kd.R_far (p := ⟨gb360, 1, none⟩) (Kd.R_far (p := ⟨gb360, 0, none⟩) (Kd.R_types HO_11.out BK360.out (by decide)) (fun _ hk => hk.2) (.int .i64 t365)) (fun _ hk => hk.2) (.int .i64 t366)) (fun _ hk => hk.1.1))⟩, ⟨by (with_reducible repeat (first | apply blk_drewN | apply blk_drew | apply blk_alloc)); refine blk_far ?_ NB353_360.out _; (with_reducible repeat (first | apply blk_drewN | apply blk_drew | apply blk_alloc)); refine blk_far ?_ NB353_360.out _; exact rb BK353.out⟩, ⟨by refine rb ?_; refine blk_put (cs := #[.int .i64 t365, .int .i64 x361001_1]) ?_ 1 _ rfl; refine rb ?_; refine blk_put (cs := #[.int .i64 x361000_1, .int .i64 x361001_1]) ?_ 0 _ rfl; exact rb BK360.out⟩, ⟨bs3 GE353.out GE360.out GE368.out⟩⟩
def timer_Run.l0 : Nat → ByteArray → List Int → Int → List Int → List (S26) → List (List (S26)) → Int → Int → Option ((List (S26)) × Int)
 | 0, _, _, _, _, _, _, _, _ => none
 | k + 1, x0, x1, x3, x12, x13, x31, x32, x33 => if x33 < x32 then (if 0 ≤ x33 then (if x33 < (x31.length : Int) then ((timer_Step.f k x0 x1 x12 (rd_L8 x31 x33) x3).bind fun bt387 => (if bt387.2.2.2 = 0 then (if x13.length < 8796093022208 then (timer_Run.l0 k x0 x1 x3 bt387.1 (x13 ++ [(⟨bt387.2.1, bt387.2.2.1⟩ : S26)]) x31 x32 (wrap64 (x33 + 1))) else (none)) else (some (([] : List (S26)), bt387.2.2.2)))) else (none)) else (none)) else (some (x13, 0))
def timer_Run.f (k : Nat) (a0 : ByteArray) (l1 : List Int) (l2 : List (List (S26))) (a3 : Int) : Option ((List (S26)) × Int) := (timer_find.f k a0 l1).bind fun bt369 => (if bt369.2.2.2.2.2.2 = 0 then (if 0 ≤ bt369.2.2.2.2.1 then (if (bt369.2.2.2.2.1 : Int).toNat ≤ 35184372088832 then (timer_Run.l0 k a0 l1 a3 (List.replicate (bt369.2.2.2.2.1 : Int).toNat 0) ([] : List (S26)) l2 (l2.length : Int) 0) else (none)) else (none)) else (some (([] : List (S26)), bt369.2.2.2.2.2.2)))
theorem timer_Run.mono_l : ∀ k, (∀ y0 y1 y2 y3 y4 y5 y6 y7, LeO (timer_Run.l0 k y0 y1 y2 y3 y4 y5 y6 y7) (timer_Run.l0 (k + 1) y0 y1 y2 y3 y4 y5 y6 y7))
 | 0 => fun _ _ _ _ _ _ _ _ r h => by simp [timer_Run.l0] at h
 | k + 1 => by
  have ih0 := timer_Run.mono_l k
  ·
   intro y0 y1 y2 y3 y4 y5 y6 y7
   unfold timer_Run.l0
   repeat' first
   | (with_reducible exact ih0 _ _ _ _ _ _ _ _)
   | (with_reducible exact timer_Step.mono _ _ _ _ _ _)
   | (with_reducible exact timer_find.mono _ _ _)
   | (with_reducible exact LeO.refl _)
   | (with_reducible exact LeO.none _)
   | (with_reducible refine LeO.ite ?_ ?_)
   | (with_reducible refine LeO.bind ?_ (fun _ => ?_))
   | exact LeO.none _
   | refine LeO.ite ?_ ?_
   | refine LeO.bind ?_ (fun _ => ?_)
theorem timer_Run.mono : ∀ a0 a1 a2 a3 k, LeO (timer_Run.f k a0 a1 a2 a3) (timer_Run.f (k + 1) a0 a1 a2 a3) := by
 intro a0 a1 a2 a3 k
 have ih0 := timer_Run.mono_l k
 unfold timer_Run.f
 repeat' first
   | (with_reducible exact ih0 _ _ _ _ _ _ _ _)
   | (with_reducible exact timer_Step.mono _ _ _ _ _ _)
   | (with_reducible exact timer_find.mono _ _ _)
   | (with_reducible exact LeO.refl _)
   | (with_reducible exact LeO.none _)
   | (with_reducible refine LeO.ite ?_ ?_)
   | (with_reducible refine LeO.bind ?_ (fun _ => ?_))
   | exact LeO.none _
   | refine LeO.ite ?_ ?_
   | refine LeO.bind ?_ (fun _ => ?_)
set_option maxHeartbeats 8000000 in
set_option maxRecDepth 100000 in
theorem timer_Run.calls (k : Nat) (a0 : ByteArray) (A1 : Option Addr) (c1 : Nat) (l1 : List Int) (A2 : Option Addr) (c2 : Nat) (l2 : List (List (S26))) (a3 : Int) (r1 : List (S26)) (r2 : Int) (w : World) (hr1 : Kd.C (Kd.int .i64) w A1 l1.length l1) (hc1 : l1.length ≤ c1) (hr2 : Kd.C (Kd.slice 26 k26) w A2 l2.length l2) (hc2 : l2.length ≤ c2) (hG : GW w) (h : timer_Run.f k a0 l1 l2 a3 = some (r1, r2)) :
  Calls Tryz.prog 12 #[.string a0, .slice A1 l1.length c1, .slice A2 l2.length c2, .int .i64 a3] w fun e w' => ∃ v0_ : Value, e = .returned (.tuple #[v0_, .int .i64 r2]) ∧ Kd.R k26 26 w' w.heap.size (fun _ => True) v0_ r1 ∧ Below w.heap.size w w' := by
 have hu47 := Tryz.underlying47
 have hu26 := Tryz.underlying26
 have HG := am hG
 clear hG
 have HR1 := am hr1
 have HC1 := am hc1
 clear hr1 hc1
 have HR2 := am hr2
 have HC2 := am hc2
 clear hr2 hc2
 have HB := am (Below.refl w.heap.size w)
 have H : ((timer_find.f k a0 l1).bind fun bt369 => (if bt369.2.2.2.2.2.2 = 0 then (if 0 ≤ bt369.2.2.2.2.1 then (if (bt369.2.2.2.2.1 : Int).toNat ≤ 35184372088832 then (timer_Run.l0 k a0 l1 a3 (List.replicate (bt369.2.2.2.2.1 : Int).toNat 0) ([] : List (S26)) l2 (l2.length : Int) 0) else (none)) else (none)) else (some (([] : List (S26)), bt369.2.2.2.2.2.2)))) = some (r1, r2) := h
 clear h
 obtain ⟨⟨t369, t370, t373, t376, t379, t380, t381⟩, A5, H⟩ := Option.bind_eq_some_iff.mp H
 (try dsimp only at H)
 replace A5 := am A5
 by_cases c6 : t381 = 0
 rotate_left
 ·
  rw [if_neg c6] at H
  have c6b0 := beq_eq_false_iff_ne.mpr c6
  have c6b1 := bne_iff_ne.mpr c6
  simp only [Option.some.injEq, Prod.mk.injEq] at H
  obtain ⟨rfl, rfl⟩ := H
  go_enter Tryz.func12, Tryz.ntmps12
  go_wp2_with (first | ((refine gate_callee (f := 16) rfl ?_); refine gl (some 22) Tryz.func16 #[.string a0, .slice A1 l1.length c1] ?_; (with_reducible refine (timer_find.calls k a0 _ _ l1 t369 t370 t373 t376 t379 t380 t381 _ ?side1 ?side2 ?side3 A5.out).mono ?_); (case side1 => repeat (first | exact HR1.out | (with_reducible refine Kd.C_alloc ?_ _) | (with_reducible refine Kd.C_drewN ?_ _) | (with_reducible refine Kd.C_drew ?_))); (case side2 => exact HC1.out); (case side3 => exact GW.below HG.out bl); rintro e w34 ⟨v371, v374, v377, rfl, ho0, ho1, ho2, hb⟩; refine ⟨_, rfl, ?_⟩; have HO372 := am (Kd.R_lower ho0 (below_size bl)); have HO375 := am (Kd.R_lower ho1 (below_size bl)); have HO378 := am (Kd.R_lower ho2 (below_size bl)); replace HB := am (below_step bl hb); (try clear hb); (try clear hb2); (try clear hk); (try clear hi); (try clear ho0); (try clear ho1); (try clear ho2)) | ((refine gate_dst (N := 10) rfl ?_); refine bx (N := 10) (cs := #[.string (⟨#[]⟩ : ByteArray), .slice none 0 0, .slice none 0 0, .slice none 0 0, .int .i64 0, .int .i64 0]) (t := 47) ?_; intro gb382 hg w35 hbox hb; replace HO372 := am (Kd.R_below (rr HO372.out) hb); replace HO375 := am (Kd.R_below (rr HO375.out) hb); replace HO378 := am (Kd.R_below (rr HO378.out) hb); have BK382 := am (hbox); have GW382 := am (gw hg (below_size bl)); have GE382 := am (gw hg (below_size bl)); replace HB := am (below_step bl hb); clear hb hbox hg; obtain ⟨hcz36_0, hcz36_1, hcz36_2, hcz36_3, hcz36_4, hcz36_5, hfz36_0, hfz36_1, hfz36_2, hfz36_3, hfz36_4, hfz36_5⟩ := bz6 BK382.out; obtain ⟨Ao37, co37, eo37⟩ := Kd.R_slice HO372.out; subst eo37; obtain ⟨Ao38, co38, eo38⟩ := Kd.R_slice HO375.out; subst eo38; obtain ⟨Ao39, co39, eo39⟩ := Kd.R_slice HO378.out; subst eo39))
  go_ret2
  exact ⟨_, ew, by first | exact Kd.R_nil _ _ _ _ _ | exact Kd.R_nil _ _ _ 0 _ | exact Kd.N_nil _ _ _ _ _ | exact Kd.V_nil _ _ _ _ _ | exact Kd.Q_nil _ _ _ _ _ | exact Kd.S_nil _ _ _ _ _, bs1 GE382.out⟩
 rw [if_pos c6] at H
 have c6b0 := beq_iff_eq.mpr c6
 have c6b1 := bne_eq_false_iff_eq.mpr c6
 clear c6
 have c7 := oi H; rw [if_pos c7] at H
 have c7b0 := eq_true c7
 have c7b1 := decide_eq_true c7
 clear c7
 have c8 := oi H; rw [if_pos c8] at H
 have c8b0 := eq_true c8
 have c8b1 := decide_eq_true c8
 clear c8
 obtain ⟨y383, hy383⟩ : ∃ y_ : List Int, y_ = (List.replicate (t379 : Int).toNat 0) := ⟨_, rfl⟩
 (try rw [← hy383] at H); (try rw [Option.bind_some] at H); (try dsimp only at H)
 have Ny383 := am hy383
 clear hy383
 have H' := am H
 clear H
 go_enter Tryz.func12, Tryz.ntmps12
 go_wp2_with (first | ((refine gate_callee (f := 16) rfl ?_); refine gl (some 22) Tryz.func16 #[.string a0, .slice A1 l1.length c1] ?_; (with_reducible refine (timer_find.calls k a0 _ _ l1 t369 t370 t373 t376 t379 t380 t381 _ ?side1 ?side2 ?side3 A5.out).mono ?_); (case side1 => repeat (first | exact HR1.out | (with_reducible refine Kd.C_alloc ?_ _) | (with_reducible refine Kd.C_drewN ?_ _) | (with_reducible refine Kd.C_drew ?_))); (case side2 => exact HC1.out); (case side3 => exact GW.below HG.out bl); rintro e w9 ⟨v371, v374, v377, rfl, ho0, ho1, ho2, hb⟩; refine ⟨_, rfl, ?_⟩; have HO372 := am (Kd.R_lower ho0 (below_size bl)); have HO375 := am (Kd.R_lower ho1 (below_size bl)); have HO378 := am (Kd.R_lower ho2 (below_size bl)); replace HB := am (below_step bl hb); (try clear hb); (try clear hb2); (try clear hk); (try clear hi); (try clear ho0); (try clear ho1); (try clear ho2)) | ((refine gate_dst (N := 10) rfl ?_); refine bx (N := 10) (cs := #[.string (⟨#[]⟩ : ByteArray), .slice none 0 0, .slice none 0 0, .slice none 0 0, .int .i64 0, .int .i64 0]) (t := 47) ?_; intro gb382 hg w10 hbox hb; replace HO372 := am (Kd.R_below (rr HO372.out) hb); replace HO375 := am (Kd.R_below (rr HO375.out) hb); replace HO378 := am (Kd.R_below (rr HO378.out) hb); have BK382 := am (hbox); have GW382 := am (gw hg (below_size bl)); have GE382 := am (gw hg (below_size bl)); replace HB := am (below_step bl hb); clear hb hbox hg; obtain ⟨hcz11_0, hcz11_1, hcz11_2, hcz11_3, hcz11_4, hcz11_5, hfz11_0, hfz11_1, hfz11_2, hfz11_3, hfz11_4, hfz11_5⟩ := bz6 BK382.out; obtain ⟨Ao12, co12, eo12⟩ := Kd.R_slice HO372.out; subst eo12; obtain ⟨Ao13, co13, eo13⟩ := Kd.R_slice HO375.out; subst eo13; obtain ⟨Ao14, co14, eo14⟩ := Kd.R_slice HO378.out; subst eo14) | ((refine gate_dst (N := 30) rfl ?_); refine Kd.R_make (Kd.int .i64) _ 2 rfl (N := 30) rfl 22 _ _ rfl t379 rfl rfl Tryz.underlying22 (.int .i64 0) 8 info2 rfl (by decide) (by omega) 0 (ok := fun _ => True) (okp := fun _ => True) rfl (fun _ hk => hk) trivial (ode) (Nat.le_trans (Nat.mul_le_mul_right _ (ode : t379.toNat ≤ 35184372088832)) (by omega)) (Below.refl _ _) (Nat.le_refl _) ?_; intro v384 w15 ho16 hb hg_ hnew_; clear hg_ hnew_; (first | rw [← Ny383.out] at ho16 | (simp only [Int.reduceToNat] at ho16; rw [← Ny383.out] at ho16)); replace HO372 := am (Kd.R_below (rr ((Kd.R_mono (Kd.R_far (p := ⟨gb382, 5, none⟩) (Kd.R_far (p := ⟨gb382, 4, none⟩) (Kd.R_far (p := ⟨gb382, 3, none⟩) (Kd.R_far (p := ⟨gb382, 2, none⟩) (Kd.R_far (p := ⟨gb382, 1, none⟩) (Kd.R_far (p := ⟨gb382, 0, none⟩) (Kd.R_types HO372.out BK382.out (by decide)) (fun _ hk => hk.2) (.string t369)) (fun _ hk => hk.2) (.slice Ao12 t370.length co12)) (fun _ hk => hk.2) (.slice Ao13 t373.length co13)) (fun _ hk => hk.2) (.slice Ao14 t376.length co14)) (fun _ hk => hk.2) (.int .i64 t379)) (fun _ hk => hk.2) (.int .i64 t380)) (fun _ h_ => h_.1)))) hb); replace HO375 := am (Kd.R_below (rr ((Kd.R_mono (Kd.R_far (p := ⟨gb382, 5, none⟩) (Kd.R_far (p := ⟨gb382, 4, none⟩) (Kd.R_far (p := ⟨gb382, 3, none⟩) (Kd.R_far (p := ⟨gb382, 2, none⟩) (Kd.R_far (p := ⟨gb382, 1, none⟩) (Kd.R_far (p := ⟨gb382, 0, none⟩) (Kd.R_types HO375.out BK382.out (by decide)) (fun _ hk => hk.2) (.string t369)) (fun _ hk => hk.2) (.slice Ao12 t370.length co12)) (fun _ hk => hk.2) (.slice Ao13 t373.length co13)) (fun _ hk => hk.2) (.slice Ao14 t376.length co14)) (fun _ hk => hk.2) (.int .i64 t379)) (fun _ hk => hk.2) (.int .i64 t380)) (fun _ h_ => h_.1)))) hb); replace HO378 := am (Kd.R_below (rr ((Kd.R_mono (Kd.R_far (p := ⟨gb382, 5, none⟩) (Kd.R_far (p := ⟨gb382, 4, none⟩) (Kd.R_far (p := ⟨gb382, 3, none⟩) (Kd.R_far (p := ⟨gb382, 2, none⟩) (Kd.R_far (p := ⟨gb382, 1, none⟩) (Kd.R_far (p := ⟨gb382, 0, none⟩) (Kd.R_types HO378.out BK382.out (by decide)) (fun _ hk => hk.2) (.string t369)) (fun _ hk => hk.2) (.slice Ao12 t370.length co12)) (fun _ hk => hk.2) (.slice Ao13 t373.length co13)) (fun _ hk => hk.2) (.slice Ao14 t376.length co14)) (fun _ hk => hk.2) (.int .i64 t379)) (fun _ hk => hk.2) (.int .i64 t380)) (fun _ h_ => h_.1)))) hb); have HO385 := am (Kd.R_lower ho16 (below_size (bs1 GE382.out))); replace BK382 := am (blk_below (g := gb382) (o := .cells #[.string t369, .slice Ao12 t370.length co12, .slice Ao13 t373.length co13, .slice Ao14 t376.length co14, .int .i64 t379, .int .i64 t380] 47 (0, 0)) (by refine rb ?_; refine blk_put (cs := #[.string t369, .slice Ao12 t370.length co12, .slice Ao13 t373.length co13, .slice Ao14 t376.length co14, .int .i64 t379, .int .i64 0]) ?_ 5 _ rfl; refine rb ?_; refine blk_put (cs := #[.string t369, .slice Ao12 t370.length co12, .slice Ao13 t373.length co13, .slice Ao14 t376.length co14, .int .i64 0, .int .i64 0]) ?_ 4 _ rfl; refine rb ?_; refine blk_put (cs := #[.string t369, .slice Ao12 t370.length co12, .slice Ao13 t373.length co13, .slice none 0 0, .int .i64 0, .int .i64 0]) ?_ 3 _ rfl; refine rb ?_; refine blk_put (cs := #[.string t369, .slice Ao12 t370.length co12, .slice none 0 0, .slice none 0 0, .int .i64 0, .int .i64 0]) ?_ 2 _ rfl; refine rb ?_; refine blk_put (cs := #[.string t369, .slice none 0 0, .slice none 0 0, .slice none 0 0, .int .i64 0, .int .i64 0]) ?_ 1 _ rfl; refine rb ?_; refine blk_put (cs := #[.string (⟨#[]⟩ : ByteArray), .slice none 0 0, .slice none 0 0, .slice none 0 0, .int .i64 0, .int .i64 0]) ?_ 0 _ rfl; exact rb BK382.out) hb); replace HB := am (below_step (bs1 GE382.out) hb); clear hb ho16))
 go_loopg [12, 13, 33] k (fun kq v12 v13 v33 w' => ∃ (x12_1 : List Int) (x13_1 : List (S26)) (x33_1 : Int), v33 = .int .i64 x33_1 ∧ Aside0 (timer_Run.l0 kq a0 l1 a3 x12_1 x13_1 l2 (l2.length : Int) x33_1 = some (r1, r2)) ∧ Aside0 (kq ≤ k) ∧ Aside0 (Kd.R (Kd.int .i64) 2 w' w.heap.size (fun _ => True) v12 x12_1) ∧ Aside0 (Kd.R k26 26 w' w.heap.size (fun _ => True) v13 x13_1) ∧ Aside0 (Kd.R k61 61 w' w.heap.size (fun _ => True) (.slice Ao12 t370.length co12) t370) ∧ Aside0 (Kd.R k64 64 w' w.heap.size (fun k_ => some k_ ≠ ((.slice Ao14 t376.length co14) : Value).ownBlock) (.slice Ao13 t373.length co13) t373) ∧ Aside0 (Kd.R k64 64 w' w.heap.size (fun k_ => some k_ ≠ ((.slice Ao13 t373.length co13) : Value).ownBlock) (.slice Ao14 t376.length co14) t376) ∧ Aside0 (w'.heap[gb382]? = some (.cells #[.string t369, (.slice Ao12 t370.length co12), (.slice Ao13 t373.length co13), (.slice Ao14 t376.length co14), .int .i64 t379, .int .i64 t380] 47 (0, 0))) ∧ Aside0 (Below w.heap.size w w'))
 case atStart => exact ⟨(y383), (([] : List (S26))), (0), (by first | rfl | (simp; done) | (simp [*]; done)), H', ⟨Nat.le_refl _⟩, ⟨rr HO385.out⟩, ⟨by first | exact Kd.R_nil _ _ _ _ _ | exact Kd.R_nil _ _ _ 0 _ | exact Kd.N_nil _ _ _ _ _ | exact Kd.V_nil _ _ _ _ _ | exact Kd.Q_nil _ _ _ _ _ | exact Kd.S_nil _ _ _ _ _⟩, ⟨rr HO372.out⟩, ⟨rr HO375.out⟩, ⟨rr HO378.out⟩, ⟨rb BK382.out⟩, ⟨bs1 GE382.out⟩⟩
 case round =>
  clear H'
  obtain ⟨x12_1, x13_1, x33_1, rfl, HA, HK1, HO_12, HO_13, HO_383001, HO_383002, HO_383003, BK382, HB⟩ := hrel
  cases gk with
  | zero => exact absurd HA.out (by simp [timer_Run.l0])
  | succ k1 =>
   have H := HA.out
   clear HA
   simp only [timer_Run.l0] at H
   by_cases c17 : x33_1 < (l2.length : Int)
   rotate_left
   ·
    rw [if_neg c17] at H
    have c17b0 := decide_eq_false c17
    clear c17
    simp only [Option.some.injEq, Prod.mk.injEq] at H
    obtain ⟨rfl, rfl⟩ := H
    go_wp2
    go_ret2
    exact ⟨_, ew, rr HO_13.out, bs1 GE382.out⟩
   rw [if_pos c17] at H
   have c17b0 := decide_eq_true c17
   clear c17
   have c18 := oi H; rw [if_pos c18] at H
   have c18b0 := decide_eq_true c18
   clear c18
   have c19 := oi H; rw [if_pos c19] at H
   have c19b0 := decide_eq_true c19
   clear c19
   obtain ⟨⟨t387, t390, t391, t392⟩, A20, H⟩ := Option.bind_eq_some_iff.mp H
   (try dsimp only at H)
   replace A20 := am A20
   by_cases c21 : t392 = 0
   rotate_left
   ·
    rw [if_neg c21] at H
    have c21b0 := beq_eq_false_iff_ne.mpr c21
    have c21b1 := bne_iff_ne.mpr c21
    simp only [Option.some.injEq, Prod.mk.injEq] at H
    obtain ⟨rfl, rfl⟩ := H
    have p386 : 0 ≤ (x33_1 : Int) := ode; have q386 : x33_1 < (l2.length : Int) := ode
    obtain ⟨ad386, A386_0, c386_0, e386, hx386_0, hl386_0, hi386_0⟩ := at_L8 HR2.out x33_1 p386 q386
    cases e386; replace hx386_0 := hbl HB.out hx386_0
    have HR386_0 := am hi386_0
    have HC386_0 := am hl386_0
    clear hi386_0 hl386_0
    replace p386 := eq_true p386; replace q386 := eq_true q386
    obtain ⟨Ao29, co29, eo29⟩ := Kd.R_slice HO_12.out
    subst eo29
    go_wp2_with (first | ((refine gate_callee (f := 6) rfl ?_); refine gl (some 43) Tryz.func6 #[.string a0, .slice A1 l1.length c1, .slice Ao29 x12_1.length co29, .slice A386_0 (rd_L8 l2 x33_1).length c386_0, .int .i64 a3] ?_; (with_reducible refine (timer_Step.calls k1 a0 _ _ l1 _ _ x12_1 _ _ (rd_L8 l2 x33_1) a3 t387 t390 t391 t392 _ ?side1 ?side2 ?side3 ?side4 ?side5 ?side6 ?side7 A20.out).mono ?_); (case side1 => exact cc (Kd.C_below HR1.out HB.out)); (case side2 => exact HC1.out); (case side3 => repeat (first | exact (Kd.R_reads' HO_12.out).2.2 | (with_reducible refine Kd.C_alloc ?_ _) | (with_reducible refine Kd.C_drewN ?_ _) | (with_reducible refine Kd.C_drew ?_))); (case side4 => exact (Kd.R_reads' HO_12.out).2.1); (case side5 => exact cc (Kd.C_below HR386_0.out HB.out)); (case side6 => exact HC386_0.out); (case side7 => exact GW.below HG.out (bs1 GE382.out)); rintro e w30 ⟨v388, rfl, ho0, hb⟩; refine ⟨_, rfl, ?_⟩; replace HO_13 := am (Kd.R_below (rr HO_13.out) hb); replace HO_383001 := am (Kd.R_below (rr HO_383001.out) hb); replace HO_383002 := am (Kd.R_below (rr HO_383002.out) hb); replace HO_383003 := am (Kd.R_below (rr HO_383003.out) hb); have HO389 := am (Kd.R_lower (Kd.R_new' ho0 (Kd.R_lt (rr HO_12.out))) (below_size (bs1 GE382.out))); replace HO_12 := am (Kd.R_elder' (rr HO_12.out) (Kd.R_base ho0) hb); replace BK382 := am (blk_below (rb BK382.out) hb); replace HB := am (below_step (bs1 GE382.out) hb); (try clear hb); (try clear hb2); (try clear hk); (try clear hi); (try clear ho0)) | ((refine gate_dst (N := 17) rfl ?_); refine bx (N := 17) (cs := #[.int .i64 0, .int .i64 0]) (t := 26) ?_; intro gb393 hg w31 hbox hb; replace HO_12 := am (Kd.R_below (rr HO_12.out) hb); replace HO_13 := am (Kd.R_below (Kd.R_elderB (rr HO_13.out) gb393 (Nat.le_of_eq hg.symm)) hb); replace HO_383001 := am (Kd.R_below (rr HO_383001.out) hb); replace HO_383002 := am (Kd.R_below (rr HO_383002.out) hb); replace HO_383003 := am (Kd.R_below (rr HO_383003.out) hb); replace HO389 := am (Kd.R_below (rr HO389.out) hb); have BK393 := am (hbox); have GW393 := am (gw hg (below_size (bs1 GE382.out))); have GE393 := am (gw hg (below_size (bs1 GE382.out))); replace HB := am (below_step (bs1 GE382.out) hb); have NB382_393 := am ((by rw [hg]; exact Nat.ne_of_lt (blk_lt (rb BK382.out)) : gb382 ≠ gb393)); have NB393_382 := am ((by rw [hg]; exact Nat.ne_of_gt (blk_lt (rb BK382.out)) : gb393 ≠ gb382)); replace BK382 := am (blk_below (rb BK382.out) hb); clear hb hbox hg; have hnb32 := NB393_382.out; have hnc32 := NB382_393.out; obtain ⟨hcz33_0, hcz33_1, hfz33_0, hfz33_1⟩ := bz2 BK393.out))
    go_ret2
    exact ⟨_, ew, by first | exact Kd.R_nil _ _ _ _ _ | exact Kd.R_nil _ _ _ 0 _ | exact Kd.N_nil _ _ _ _ _ | exact Kd.V_nil _ _ _ _ _ | exact Kd.Q_nil _ _ _ _ _ | exact Kd.S_nil _ _ _ _ _, bs2 GE382.out GE393.out⟩
   rw [if_pos c21] at H
   have c21b0 := beq_iff_eq.mpr c21
   have c21b1 := bne_eq_false_iff_eq.mpr c21
   clear c21
   have c22 := oi H; rw [if_pos c22] at H
   have LMc22 := am c22
   clear c22
   obtain ⟨y394, hy394⟩ : ∃ y_ : List (S26), y_ = (x13_1 ++ [(⟨t390, t391⟩ : S26)]) := ⟨_, rfl⟩
   (try rw [← hy394] at H); (try rw [Option.bind_some] at H); (try dsimp only at H)
   have Ny394 := am hy394
   clear hy394
   have H' := am H
   clear H
   have p386 : 0 ≤ (x33_1 : Int) := ode; have q386 : x33_1 < (l2.length : Int) := ode
   obtain ⟨ad386, A386_0, c386_0, e386, hx386_0, hl386_0, hi386_0⟩ := at_L8 HR2.out x33_1 p386 q386
   cases e386; replace hx386_0 := hbl HB.out hx386_0
   have HR386_0 := am hi386_0
   have HC386_0 := am hl386_0
   clear hi386_0 hl386_0
   replace p386 := eq_true p386; replace q386 := eq_true q386
   obtain ⟨Ao23, co23, eo23⟩ := Kd.R_slice HO_12.out
   subst eo23
   go_wp2_with (first | ((refine gate_callee (f := 6) rfl ?_); refine gl (some 43) Tryz.func6 #[.string a0, .slice A1 l1.length c1, .slice Ao23 x12_1.length co23, .slice A386_0 (rd_L8 l2 x33_1).length c386_0, .int .i64 a3] ?_; (with_reducible refine (timer_Step.calls k1 a0 _ _ l1 _ _ x12_1 _ _ (rd_L8 l2 x33_1) a3 t387 t390 t391 t392 _ ?side1 ?side2 ?side3 ?side4 ?side5 ?side6 ?side7 A20.out).mono ?_); (case side1 => exact cc (Kd.C_below HR1.out HB.out)); (case side2 => exact HC1.out); (case side3 => repeat (first | exact (Kd.R_reads' HO_12.out).2.2 | (with_reducible refine Kd.C_alloc ?_ _) | (with_reducible refine Kd.C_drewN ?_ _) | (with_reducible refine Kd.C_drew ?_))); (case side4 => exact (Kd.R_reads' HO_12.out).2.1); (case side5 => exact cc (Kd.C_below HR386_0.out HB.out)); (case side6 => exact HC386_0.out); (case side7 => exact GW.below HG.out (bs1 GE382.out)); rintro e w24 ⟨v388, rfl, ho0, hb⟩; refine ⟨_, rfl, ?_⟩; replace HO_13 := am (Kd.R_below (rr HO_13.out) hb); replace HO_383001 := am (Kd.R_below (rr HO_383001.out) hb); replace HO_383002 := am (Kd.R_below (rr HO_383002.out) hb); replace HO_383003 := am (Kd.R_below (rr HO_383003.out) hb); have HO389 := am (Kd.R_lower (Kd.R_new' ho0 (Kd.R_lt (rr HO_12.out))) (below_size (bs1 GE382.out))); replace HO_12 := am (Kd.R_elder' (rr HO_12.out) (Kd.R_base ho0) hb); replace BK382 := am (blk_below (rb BK382.out) hb); replace HB := am (below_step (bs1 GE382.out) hb); (try clear hb); (try clear hb2); (try clear hk); (try clear hi); (try clear ho0)) | ((refine gate_dst (N := 17) rfl ?_); refine bx (N := 17) (cs := #[.int .i64 0, .int .i64 0]) (t := 26) ?_; intro gb393 hg w25 hbox hb; replace HO_12 := am (Kd.R_below (rr HO_12.out) hb); replace HO_13 := am (Kd.R_below (Kd.R_elderB (rr HO_13.out) gb393 (Nat.le_of_eq hg.symm)) hb); replace HO_383001 := am (Kd.R_below (rr HO_383001.out) hb); replace HO_383002 := am (Kd.R_below (rr HO_383002.out) hb); replace HO_383003 := am (Kd.R_below (rr HO_383003.out) hb); replace HO389 := am (Kd.R_below (rr HO389.out) hb); have BK393 := am (hbox); have GW393 := am (gw hg (below_size (bs1 GE382.out))); have GE393 := am (gw hg (below_size (bs1 GE382.out))); replace HB := am (below_step (bs1 GE382.out) hb); have NB382_393 := am ((by rw [hg]; exact Nat.ne_of_lt (blk_lt (rb BK382.out)) : gb382 ≠ gb393)); have NB393_382 := am ((by rw [hg]; exact Nat.ne_of_gt (blk_lt (rb BK382.out)) : gb393 ≠ gb382)); replace BK382 := am (blk_below (rb BK382.out) hb); clear hb hbox hg; have hnb26 := NB393_382.out; have hnc26 := NB382_393.out; obtain ⟨hcz27_0, hcz27_1, hfz27_0, hfz27_1⟩ := bz2 BK393.out) | ((refine gate_builtin (b := .append) (xs := #[.tmp 51, .tmp 53]) rfl ?_); at_builtin; refine Kd.R_append k26 (w0 := w) w.heap.size rfl (.tmp 51) (.tmp 53) 23 26 (.agg #[(.int .i64 0), (.int .i64 0)]) 16 rfl Tryz.underlying23 info26 rfl (by decide) (by omega) u13 x13_1 (⟨t390, t391⟩ : S26) [.int .i64 t390, .int .i64 t391] (fun k_ => k_ ≠ gb393) (fun _ => False) rfl (by first | (go_simp; done) | (go_simp; rfl)) ?aP (fun _ hk => hk.elim) ?aF ?aO ?aB ?aS ?aL ?_; (case aP => exact k26_mkM _ _ _ (⟨t390, t391⟩ : S26)); (case aB => exact (bs2 GE382.out GE393.out)); (case aF => exact (fun k_ hk => Kd.freshB (g := gb393) (o := .cells #[.int .i64 t390, .int .i64 t391] 26 (0, 0)) (by refine rb ?_; refine blk_put (cs := #[.int .i64 t390, .int .i64 0]) ?_ 1 _ rfl; refine rb ?_; refine blk_put (cs := #[.int .i64 0, .int .i64 0]) ?_ 0 _ rfl; exact rb BK393.out) k_ hk)); (case aO => exact (by (with_reducible repeat (first | apply Kd.R_alloc | apply Kd.R_drewN | apply Kd.R_drew)); exact Kd.R_mono (Kd.R_far (p := ⟨gb393, 1, none⟩) (Kd.R_far (p := ⟨gb393, 0, none⟩) (Kd.R_mono HO_13.out (fun k_ hk => (⟨hk, hk.2⟩ : _ ∧ k_ ≠ gb393))) (fun _ hk => hk.2) (.int .i64 t390)) (fun _ hk => hk.2) (.int .i64 t391)) (fun _ hk => hk.1.2))); (case aS => exact (below_size (bs2 GE382.out GE393.out))); (case aL => have := LMc22.out; omega); intro v395 w28 ho hb hg hat; rw [← Ny394.out] at ho; replace HO_12 := am (Kd.R_over' (rr ((Kd.R_mono (Kd.R_far (p := ⟨gb393, 1, none⟩) (Kd.R_far (p := ⟨gb393, 0, none⟩) (Kd.R_types HO_12.out BK393.out (by decide)) (fun _ hk => hk.2) (.int .i64 t390)) (fun _ hk => hk.2) (.int .i64 t391)) (fun _ h_ => h_.1)))) (Kd.R_typed (by (with_reducible repeat (first | apply Kd.R_alloc | apply Kd.R_drewN | apply Kd.R_drew)); exact (Kd.R_mono (Kd.R_far (p := ⟨gb393, 1, none⟩) (Kd.R_far (p := ⟨gb393, 0, none⟩) (Kd.R_mono HO_13.out (fun k_ hk => (⟨hk, hk.2⟩ : _ ∧ k_ ≠ gb393))) (fun _ hk => hk.2) (.int .i64 t390)) (fun _ hk => hk.2) (.int .i64 t391)) (fun _ h_ => h_.1)))) (by decide) hg); replace HO_383001 := am (Kd.R_over' (rr ((Kd.R_mono (Kd.R_far (p := ⟨gb393, 1, none⟩) (Kd.R_far (p := ⟨gb393, 0, none⟩) (Kd.R_types HO_383001.out BK393.out (by decide)) (fun _ hk => hk.2) (.int .i64 t390)) (fun _ hk => hk.2) (.int .i64 t391)) (fun _ h_ => h_.1)))) (Kd.R_typed (by (with_reducible repeat (first | apply Kd.R_alloc | apply Kd.R_drewN | apply Kd.R_drew)); exact (Kd.R_mono (Kd.R_far (p := ⟨gb393, 1, none⟩) (Kd.R_far (p := ⟨gb393, 0, none⟩) (Kd.R_mono HO_13.out (fun k_ hk => (⟨hk, hk.2⟩ : _ ∧ k_ ≠ gb393))) (fun _ hk => hk.2) (.int .i64 t390)) (fun _ hk => hk.2) (.int .i64 t391)) (fun _ h_ => h_.1)))) (by decide) hg); replace HO_383002 := am (Kd.R_over' (rr ((Kd.R_mono (Kd.R_far (p := ⟨gb393, 1, none⟩) (Kd.R_far (p := ⟨gb393, 0, none⟩) (Kd.R_types HO_383002.out BK393.out (by decide)) (fun _ hk => hk.2) (.int .i64 t390)) (fun _ hk => hk.2) (.int .i64 t391)) (fun _ h_ => h_.1)))) (Kd.R_typed (by (with_reducible repeat (first | apply Kd.R_alloc | apply Kd.R_drewN | apply Kd.R_drew)); exact (Kd.R_mono (Kd.R_far (p := ⟨gb393, 1, none⟩) (Kd.R_far (p := ⟨gb393, 0, none⟩) (Kd.R_mono HO_13.out (fun k_ hk => (⟨hk, hk.2⟩ : _ ∧ k_ ≠ gb393))) (fun _ hk => hk.2) (.int .i64 t390)) (fun _ hk => hk.2) (.int .i64 t391)) (fun _ h_ => h_.1)))) (by decide) hg); replace HO_383003 := am (Kd.R_over' (rr ((Kd.R_mono (Kd.R_far (p := ⟨gb393, 1, none⟩) (Kd.R_far (p := ⟨gb393, 0, none⟩) (Kd.R_types HO_383003.out BK393.out (by decide)) (fun _ hk => hk.2) (.int .i64 t390)) (fun _ hk => hk.2) (.int .i64 t391)) (fun _ h_ => h_.1)))) (Kd.R_typed (by (with_reducible repeat (first | apply Kd.R_alloc | apply Kd.R_drewN | apply Kd.R_drew)); exact (Kd.R_mono (Kd.R_far (p := ⟨gb393, 1, none⟩) (Kd.R_far (p := ⟨gb393, 0, none⟩) (Kd.R_mono HO_13.out (fun k_ hk => (⟨hk, hk.2⟩ : _ ∧ k_ ≠ gb393))) (fun _ hk => hk.2) (.int .i64 t390)) (fun _ hk => hk.2) (.int .i64 t391)) (fun _ h_ => h_.1)))) (by decide) hg); replace BK382 := am (blk_grown (g := gb382) (o := .cells #[.string t369, .slice Ao12 t370.length co12, .slice Ao13 t373.length co13, .slice Ao14 t376.length co14, .int .i64 t379, .int .i64 t380] 47 (0, 0)) (by (with_reducible repeat (first | apply blk_drewN | apply blk_drew | apply blk_alloc)); refine blk_far ?_ NB382_393.out _; (with_reducible repeat (first | apply blk_drewN | apply blk_drew | apply blk_alloc)); refine blk_far ?_ NB382_393.out _; exact rb BK382.out) hg (Kd.R_ne HO_13.out BK382.out (by decide))); replace HO389 := am (Kd.R_over' (rr ((Kd.R_mono (Kd.R_far (p := ⟨gb393, 1, none⟩) (Kd.R_far (p := ⟨gb393, 0, none⟩) (Kd.R_types HO389.out BK393.out (by decide)) (fun _ hk => hk.2) (.int .i64 t390)) (fun _ hk => hk.2) (.int .i64 t391)) (fun _ h_ => h_.1)))) (Kd.R_typed (by (with_reducible repeat (first | apply Kd.R_alloc | apply Kd.R_drewN | apply Kd.R_drew)); exact (Kd.R_mono (Kd.R_far (p := ⟨gb393, 1, none⟩) (Kd.R_far (p := ⟨gb393, 0, none⟩) (Kd.R_mono HO_13.out (fun k_ hk => (⟨hk, hk.2⟩ : _ ∧ k_ ≠ gb393))) (fun _ hk => hk.2) (.int .i64 t390)) (fun _ hk => hk.2) (.int .i64 t391)) (fun _ h_ => h_.1)))) (by decide) hg); replace BK393 := am (blk_grown (g := gb393) (o := .cells #[.int .i64 t390, .int .i64 t391] 26 (0, 0)) (by refine rb ?_; refine blk_put (cs := #[.int .i64 t390, .int .i64 0]) ?_ 1 _ rfl; refine rb ?_; refine blk_put (cs := #[.int .i64 0, .int .i64 0]) ?_ 0 _ rfl; exact rb BK393.out) hg (Kd.R_away HO_13.out (fun _ hk => hk.2))); replace HB := am (hb); have HO396 := am (ho); clear HO_13; clear ho hb hg hat))
   go_roundg k1
   case measure => have := HK1.out; omega
   case rel => exact ⟨(t387), (y394), (wrap64 (x33_1 + 1)), (by first | rfl | (simp; done) | (simp [*]; done)), H', ⟨by have := HK1.out; omega⟩, ⟨rr (Kd.R_mono HO389.out (fun _ hk => trivial))⟩, ⟨rr (Kd.R_mono HO396.out (fun _ hk => trivial))⟩, ⟨rr HO_383001.out⟩, ⟨rr HO_383002.out⟩, ⟨rr HO_383003.out⟩, ⟨rb BK382.out⟩, ⟨bs2 GE382.out GE393.out⟩⟩
def plenumlaw19_bit.f (a0 : Bool) : Option (Int × Int) := if a0 = true then (some (2, 1)) else (some (2, 0))
set_option maxHeartbeats 8000000 in
set_option maxRecDepth 100000 in
theorem plenumlaw19_bit.calls (a0 : Bool) (r1 : Int) (r2 : Int) (w : World) (h : plenumlaw19_bit.f a0 = some (r1, r2)) :
  Calls Tryz.prog 14 #[.bool a0] w fun e w' => e = .returned (.agg #[.int .i64 r1, .int .i64 r2]) ∧ Below w.heap.size w w' := by
 have hu26 := Tryz.underlying26
 have HB := am (Below.refl w.heap.size w)
 have H : (if a0 = true then (some (2, 1)) else (some (2, 0))) = some (r1, r2) := h
 clear h
 by_cases c2 : a0 = true
 ·
  subst c2
  rw [if_pos rfl] at H
  simp only [Option.some.injEq, Prod.mk.injEq] at H
  obtain ⟨rfl, rfl⟩ := H
  go_enter Tryz.func14, Tryz.ntmps14
  go_wp2_with (first | ((refine gate_dst (N := 2) rfl ?_); refine bx (N := 2) (cs := #[.int .i64 0, .int .i64 0]) (t := 26) ?_; intro gb397 hg w3 hbox hb; have BK397 := am (hbox); have GW397 := am (gw hg (below_size bl)); have GE397 := am (gw hg (below_size bl)); replace HB := am (below_step bl hb); clear hb hbox hg; obtain ⟨hcz4_0, hcz4_1, hfz4_0, hfz4_1⟩ := bz2 BK397.out))
  refine bodyPost_ret (results_cell_row rfl _ _ gb397 26 #[.int .i64 2, .int .i64 1] (0, 0) _ rfl (by refine rb ?_; refine blk_put (cs := #[.int .i64 2, .int .i64 0]) ?_ 1 _ rfl; refine rb ?_; refine blk_put (cs := #[.int .i64 0, .int .i64 0]) ?_ 0 _ rfl; exact rb BK397.out) Tryz.underlying26 rfl (by kernel_rfl)) rfl ?_
  exact ⟨ew, bs1 GE397.out⟩
 replace c2 := Bool.eq_false_iff.mpr c2
 subst c2
 rw [if_neg (show ¬ (false = true) by decide)] at H
 simp only [Option.some.injEq, Prod.mk.injEq] at H
 obtain ⟨rfl, rfl⟩ := H
 go_enter Tryz.func14, Tryz.ntmps14
 go_wp2_with (first | ((refine gate_dst (N := 2) rfl ?_); refine bx (N := 2) (cs := #[.int .i64 0, .int .i64 0]) (t := 26) ?_; intro gb397 hg w5 hbox hb; have BK397 := am (hbox); have GW397 := am (gw hg (below_size bl)); have GE397 := am (gw hg (below_size bl)); replace HB := am (below_step bl hb); clear hb hbox hg; obtain ⟨hcz6_0, hcz6_1, hfz6_0, hfz6_1⟩ := bz2 BK397.out))
 refine bodyPost_ret (results_cell_row rfl _ _ gb397 26 #[.int .i64 2, .int .i64 0] (0, 0) _ rfl (by refine rb ?_; refine blk_put (cs := #[.int .i64 2, .int .i64 0]) ?_ 1 _ rfl; refine rb ?_; refine blk_put (cs := #[.int .i64 0, .int .i64 0]) ?_ 0 _ rfl; exact rb BK397.out) Tryz.underlying26 rfl (by kernel_rfl)) rfl ?_
 exact ⟨ew, bs1 GE397.out⟩
def plenumlaw19_on.l0 : Nat → List Bool → List (List (S26)) → Int → Option ((List (List (S26))))
 | 0, _, _, _ => none
 | k + 1, x0, x3, x4 => if x4 < (x0.length : Int) then (if 0 ≤ x4 then ((plenumlaw19_bit.f (rdOf false x0 x4)).bind fun bt402 => (if x3.length < 5864062014805 then (plenumlaw19_on.l0 k x0 (x3 ++ [(([(⟨bt402.1, bt402.2⟩ : S26)] : List (S26)))]) (wrap64 (x4 + 1))) else (none))) else (none)) else (some x3)
def plenumlaw19_on.f (k : Nat) (l0 : List Bool) : Option ((List (List (S26)))) := plenumlaw19_on.l0 k l0 (([] : List (List (S26)))) 0
theorem plenumlaw19_on.mono_l : ∀ k, (∀ y0 y1 y2, LeO (plenumlaw19_on.l0 k y0 y1 y2) (plenumlaw19_on.l0 (k + 1) y0 y1 y2))
 | 0 => fun _ _ _ r h => by simp [plenumlaw19_on.l0] at h
 | k + 1 => by
  have ih0 := plenumlaw19_on.mono_l k
  ·
   intro y0 y1 y2
   unfold plenumlaw19_on.l0
   repeat' first
   | (with_reducible exact ih0 _ _ _)
   | (with_reducible exact LeO.refl _)
   | (with_reducible exact LeO.none _)
   | (with_reducible refine LeO.ite ?_ ?_)
   | (with_reducible refine LeO.bind ?_ (fun _ => ?_))
   | exact LeO.none _
   | refine LeO.ite ?_ ?_
   | refine LeO.bind ?_ (fun _ => ?_)
theorem plenumlaw19_on.mono : ∀ a0 k, LeO (plenumlaw19_on.f k a0) (plenumlaw19_on.f (k + 1) a0) := by
 intro a0 k
 have ih0 := plenumlaw19_on.mono_l k
 unfold plenumlaw19_on.f
 repeat' first
   | (with_reducible exact ih0 _ _ _)
   | (with_reducible exact LeO.refl _)
   | (with_reducible exact LeO.none _)
   | (with_reducible refine LeO.ite ?_ ?_)
   | (with_reducible refine LeO.bind ?_ (fun _ => ?_))
   | exact LeO.none _
   | refine LeO.ite ?_ ?_
   | refine LeO.bind ?_ (fun _ => ?_)
set_option maxHeartbeats 8000000 in
set_option maxRecDepth 100000 in
theorem plenumlaw19_on.calls (k : Nat) (A0 : Option Addr) (c0 : Nat) (l0 : List Bool) (r : List (List (S26))) (w : World) (hr0 : Kd.C Kd.bool w A0 l0.length l0) (hc0 : l0.length ≤ c0) (h : plenumlaw19_on.f k l0 = some r) :
  Calls Tryz.prog 13 #[.slice A0 l0.length c0] w fun e w' => ∃ v0_ : Value, e = .returned (v0_) ∧ Kd.S (Kd.slice 26 k26) 23 w' w.heap.size (fun _ => True) v0_ r ∧ Below w.heap.size w w' := by
 have HR0 := am hr0
 have HC0 := am hc0
 clear hr0 hc0
 have HB := am (Below.refl w.heap.size w)
 have H : (plenumlaw19_on.l0 k l0 (([] : List (List (S26)))) 0) = some r := h
 clear h
 obtain ⟨y398, hy398⟩ : ∃ y_ : List (List (S26)), y_ = (([] : List (List (S26)))) := ⟨_, rfl⟩
 (try rw [← hy398] at H); (try rw [Option.bind_some] at H); (try dsimp only at H)
 have Ny398 := am hy398
 clear hy398
 have H' := am H
 clear H
 go_enter Tryz.func13, Tryz.ntmps13
 go_wp2_with (first | ((refine gate_dst (N := 5) rfl ?_); refine Kd.S_lit (Kd.slice 26 k26) _ 23 ?hg (N := 5) ?hd (xs := ([] : List (List (S26)))) (inner := []) (ok := fun _ => True) (okp := fun _ => True) ?hr ?hp (fun _ hk => hk) trivial (Below.refl _ _) (Nat.le_refl _) (by simp) ?_; (case hd => rfl); (case hg => rfl); (case hr => first | (go_simp; done) | (go_simp; rfl)); (case hp => exact (Reps.none _ _)); intro v399 w2 ho3 hb hg_ hnew_; clear hg_ hnew_; (first | rw [← Ny398.out] at ho3 | (simp only [Int.reduceToNat] at ho3; rw [← Ny398.out] at ho3)); have HO400 := am (Kd.S_lower ho3 (below_size bl)); replace HB := am (below_step bl hb); clear hb ho3))
 go_loopg [3, 4] k (fun kq v3 v4 w' => ∃ (x3_1 : List (List (S26))) (x4_1 : Int), v4 = .int .i64 x4_1 ∧ Aside0 (plenumlaw19_on.l0 kq l0 x3_1 x4_1 = some r) ∧ Aside0 (kq ≤ k) ∧ Aside0 (Kd.S (Kd.slice 26 k26) 23 w' w.heap.size (fun _ => True) v3 x3_1) ∧ Aside0 (Below w.heap.size w w'))
 case atStart => exact ⟨(y398), (0), (by first | rfl | (simp; done) | (simp [*]; done)), H', ⟨Nat.le_refl _⟩, ⟨rs HO400.out⟩, ⟨bl⟩⟩
 case round =>
  clear H'
  obtain ⟨x3_1, x4_1, rfl, HA, HK1, HO_3, HB⟩ := hrel
  cases gk with
  | zero => exact absurd HA.out (by simp [plenumlaw19_on.l0])
  | succ k1 =>
   have H := HA.out
   clear HA
   simp only [plenumlaw19_on.l0] at H
   by_cases c4 : x4_1 < (l0.length : Int)
   rotate_left
   ·
    rw [if_neg c4] at H
    have c4b0 := decide_eq_false c4
    clear c4
    obtain rfl := Option.some.inj H
    go_wp2
    go_ret
    exact ⟨_, ew, rs HO_3.out, bl⟩
   rw [if_pos c4] at H
   have c4b0 := decide_eq_true c4
   clear c4
   have c5 := oi H; rw [if_pos c5] at H
   have c5b0 := decide_eq_true c5
   clear c5
   obtain ⟨⟨t402, t403⟩, A6, H⟩ := Option.bind_eq_some_iff.mp H
   (try dsimp only at H)
   replace A6 := am A6
   obtain ⟨y404, hy404⟩ : ∃ y_ : List (S26), y_ = (([(⟨t402, t403⟩ : S26)] : List (S26))) := ⟨_, rfl⟩
   (try rw [← hy404] at H); (try rw [Option.bind_some] at H); (try dsimp only at H)
   have Ny404 := am hy404
   clear hy404
   have c7 := oi H; rw [if_pos c7] at H
   have LMc7 := am c7
   clear c7
   obtain ⟨y407, hy407⟩ : ∃ y_ : List (List (S26)), y_ = (x3_1 ++ [y404]) := ⟨_, rfl⟩
   (try rw [← hy407] at H); (try rw [Option.bind_some] at H); (try dsimp only at H)
   have Ny407 := am hy407
   clear hy407
   have H' := am H
   clear H
   have q401 := ixv (i := x4_1) (n := l0.length) ode ode; obtain ⟨ad401, e401, hx401_0⟩ := Kd.at_bool HR0.out x4_1 (of_eq_true q401.1) (of_eq_true q401.2); cases e401; replace hx401_0 := hbl HB.out hx401_0; obtain ⟨p401, q401⟩ := q401
   go_wp2_with (first | ((refine gate_callee (f := 14) rfl ?_); refine gl (some 17) Tryz.func14 #[.bool (rdOf false l0 x4_1)] ?_; (with_reducible refine (plenumlaw19_bit.calls (rdOf false l0 x4_1) t402 t403 _ A6.out).mono ?_); rintro e w8 ⟨rfl, hb⟩; refine ⟨_, rfl, ?_⟩; replace HO_3 := am (Kd.S_below (rs HO_3.out) hb); replace HB := am (below_step bl hb); (try clear hb); (try clear hb2); (try clear hk); (try clear hi)) | ((refine gate_dst (N := 18) rfl ?_); refine Kd.R_lit k26 _ 26 ?hg (N := 18) ?hd (xs := ([(⟨t402, t403⟩ : S26)] : List (S26))) (inner := [.int .i64 t402, .int .i64 t403]) (ok := fun _ => True) (okp := fun _ => True) ?hr ?hp (fun _ hk => hk) trivial (Below.refl _ _) (Nat.le_refl _) (by simp) ?_; (case hd => rfl); (case hg => rfl); (case hr => first | (go_simp; done) | (go_simp; rfl)); (case hp => exact (Reps.c2 (show Kd.M k26 _ _ _ (⟨t402, t403⟩ : S26) [.int .i64 t402, .int .i64 t403] from (k26_mkM _ _ _ (⟨t402, t403⟩ : S26) )) (Reps.none _ _))); intro v405 w9 ho10 hb hg_ hnew_; clear hg_ hnew_; (first | rw [← Ny404.out] at ho10 | (simp only [Int.reduceToNat] at ho10; rw [← Ny404.out] at ho10)); replace HO_3 := am (Kd.S_elder' (rs HO_3.out) (Kd.R_base ho10) hb); have HO406 := am (Kd.R_lower ho10 (below_size bl)); replace HB := am (below_step bl hb); clear hb ho10; obtain ⟨Ao12, co12, eo12⟩ := Kd.R_slice HO406.out; subst eo12) | ((refine gate_builtin (b := .append) (xs := #[.tmp 12, .tmp 19]) rfl ?_); at_builtin; refine Kd.S_append (Kd.slice 26 k26) (w0 := w) w.heap.size rfl (.tmp 12) (.tmp 19) 38 23 (.slice none 0 0) 24 rfl Tryz.underlying38 info23 rfl (by decide) (by omega) u3 x3_1 y404 [.slice Ao12 y404.length co12] (fun _ => True) (fun k_ => some k_ = (.slice Ao12 y404.length co12 : Value).ownBlock) rfl rfl ?aP (fun k_ hk_ => ((Kd.R_mono (ok' := fun k_ => ((fun _ => True)) k_ ∧ some k_ ≠ (u3 : Value).ownBlock) (Kd.R_apart' (HO406.out) (Kd.S_typed HO_3.out) (by decide)) (fun k_ hk => ⟨trivial, hk.2⟩))).1 k_ hk_.symm) ?aF ?aO ?aB ?aS ?aL ?_; (case aP => exact Kd.M_row (Kd.R_mono (Kd.R_tight rfl (Kd.R_mono (ok' := fun k_ => ((fun _ => True)) k_ ∧ some k_ ≠ (u3 : Value).ownBlock) (Kd.R_apart' (HO406.out) (Kd.S_typed HO_3.out) (by decide)) (fun k_ hk => ⟨trivial, hk.2⟩))) (fun _ h_ => h_))); (case aB => exact bl); (case aF => exact (fun _ _ => trivial)); (case aO => exact (by (with_reducible repeat (first | apply Kd.S_alloc | apply Kd.S_drewN | apply Kd.S_drew)); exact Kd.S_mono HO_3.out (fun k_ hk => ⟨trivial, fun e_ => hk.2 e_⟩))); (case aS => exact (below_size bl)); (case aL => have := LMc7.out; omega); intro v408 w11 ho hb hg hat; rw [← Ny407.out] at ho; replace HB := am (hb); have HO409 := am (ho); clear HO_3 HO406; clear ho hb hg hat))
   go_roundg k1
   case measure => have := HK1.out; omega
   case rel => exact ⟨(y407), (wrap64 (x4_1 + 1)), (by first | rfl | (simp; done) | (simp [*]; done)), H', ⟨by have := HK1.out; omega⟩, ⟨rs HO409.out⟩, ⟨bl⟩⟩
end Go.Proofs.YtjjbdgngncgikaaGreatDoor.R
