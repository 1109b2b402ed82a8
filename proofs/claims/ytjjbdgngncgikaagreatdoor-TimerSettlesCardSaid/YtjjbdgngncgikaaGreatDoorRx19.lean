import Derived.Test.YtjjbdgngncgikaaGreatDoorRx0
import Derived.Test.YtjjbdgngncgikaaGreatDoorRx1
import Derived.Test.YtjjbdgngncgikaaGreatDoorRx16
namespace Go.Proofs.YtjjbdgngncgikaaGreatDoor.R
open Go.RowKit Go.Proofs.YtjjbdgngncgikaaGreatDoorW.PrintWords Go.Proofs.YtjjbdgngncgikaaGreatDoorW.PrintLast Go.Proofs.YtjjbdgngncgikaaGreatDoorW.PrintMore
attribute [local go_sem] max2_int min2_int max_two min_two max_three min_three max_four min_four
set_option linter.unusedVariables false
set_option linter.unusedSimpArgs false
attribute [local go_sem high] eqA26
mutual
def plenumref19_Settle.l0 : Nat → ByteArray → List Int → List (S26) → List Int → Int → Int → Int → Int → Int → Option (Int × Int × Int × Int)
 | 0, _, _, _, _, _, _, _, _, _ => none
 | k + 1, x0, x1, x3, x11, x14, x15, x16, x707000, x707001 => if x15 ≤ 86402 then ((plenumref19_Step.f k x0 x1 x11 x3 1).bind fun bt707 => (if (!(bt707.2.1 == x707000) || (!(bt707.2.2.1 == x707001))) = true then (plenumref19_Settle.j1 k x0 x1 x3 x11 x16 0 x16 bt707.1 bt707.2.1 bt707.2.2.1) else (plenumref19_Settle.j1 k x0 x1 x3 x11 x14 x15 x16 bt707.1 x707000 x707001))) else (some (x707000, x707001, x14, 0))
def plenumref19_Settle.j1 : Nat → ByteArray → List Int → List (S26) → List Int → Int → Int → Int → List Int → Int → Int → Option (Int × Int × Int × Int)
 | 0, _, _, _, _, _, _, _, _, _, _ => none
 | k + 1, x0, x1, x3, x11, x14, x15, x16, x17, x707000, x707001 => plenumref19_Settle.l1 k x0 x1 x3 x11 x14 (wrap64 (x15 + 1)) x16 x17 ((x17.length : Int) == (x11.length : Int)) 0 x707000 x707001
def plenumref19_Settle.l1 : Nat → ByteArray → List Int → List (S26) → List Int → Int → Int → Int → List Int → Bool → Int → Int → Int → Option (Int × Int × Int × Int)
 | 0, _, _, _, _, _, _, _, _, _, _, _, _ => none
 | k + 1, x0, x1, x3, x11, x14, x15, x16, x17, x20, x21, x707000, x707001 => if x21 < (x17.length : Int) then (if x20 = true then (if 0 ≤ x21 then (if x21 < (x11.length : Int) then (plenumref19_Settle.l1 k x0 x1 x3 x11 x14 x15 x16 x17 ((rd x17 x21) == (rd x11 x21)) (wrap64 (x21 + 1)) x707000 x707001) else (none)) else (none)) else (plenumref19_Settle.l1 k x0 x1 x3 x11 x14 x15 x16 x17 false (wrap64 (x21 + 1)) x707000 x707001)) else (if x20 = true then (some (x707000, x707001, x14, 0)) else (plenumref19_Settle.l0 k x0 x1 x3 x17 x14 x15 (wrap64 (x16 + 1)) x707000 x707001))
end
def plenumref19_Settle.f (k : Nat) (a0 : ByteArray) (l1 : List Int) (l2 : List Int) (l3 : List (S26)) : Option (Int × Int × Int × Int) := (plenumref19_Step.f k a0 l1 l2 l3 1).bind fun bt700 => (if bt700.2.2.2 = 0 then (plenumref19_Settle.l0 k a0 l1 l3 bt700.1 1 0 2 bt700.2.1 bt700.2.2.1) else (some (0, 0, 0, bt700.2.2.2)))
set_option maxHeartbeats 8000000 in
set_option maxRecDepth 100000 in
theorem plenumref19_Settle.calls (k : Nat) (a0 : ByteArray) (A1 : Option Addr) (c1 : Nat) (l1 : List Int) (A2 : Option Addr) (c2 : Nat) (l2 : List Int) (A3 : Option Addr) (c3 : Nat) (l3 : List (S26)) (r1 : Int) (r2 : Int) (r3 : Int) (r4 : Int) (w : World) (hr1 : Kd.C (Kd.int .i64) w A1 l1.length l1) (hc1 : l1.length ≤ c1) (hr2 : Kd.C (Kd.int .i64) w A2 l2.length l2) (hc2 : l2.length ≤ c2) (hr3 : Kd.C k26 w A3 l3.length l3) (hc3 : l3.length ≤ c3) (h : plenumref19_Settle.f k a0 l1 l2 l3 = some (r1, r2, r3, r4)) :
  Calls Tryz.prog 11 #[.string a0, .slice A1 l1.length c1, .slice A2 l2.length c2, .slice A3 l3.length c3] w fun e w' => e = .returned (.tuple #[.agg #[.int .i64 r1, .int .i64 r2], .int .i64 r3, .int .i64 r4]) ∧ Below w.heap.size w w' := by
 have hu26 := Tryz.underlying26
 have HR1 := am hr1
 have HC1 := am hc1
 clear hr1 hc1
 have HR2 := am hr2
 have HC2 := am hc2
 clear hr2 hc2
 have HR3 := am hr3
 have HC3 := am hc3
 clear hr3 hc3
 have HB := am (Below.refl w.heap.size w)
 have H : ((plenumref19_Step.f k a0 l1 l2 l3 1).bind fun bt700 => (if bt700.2.2.2 = 0 then (plenumref19_Settle.l0 k a0 l1 l3 bt700.1 1 0 2 bt700.2.1 bt700.2.2.1) else (some (0, 0, 0, bt700.2.2.2)))) = some (r1, r2, r3, r4) := h
 clear h
 obtain ⟨⟨t700, t703, t704, t705⟩, A5, H⟩ := Option.bind_eq_some_iff.mp H
 (try dsimp only at H)
 replace A5 := am A5
 by_cases c6 : t705 = 0
 rotate_left
 ·
  rw [if_neg c6] at H
  have c6b0 := beq_eq_false_iff_ne.mpr c6
  have c6b1 := bne_iff_ne.mpr c6
  simp only [Option.some.injEq, Prod.mk.injEq] at H
  obtain ⟨rfl, rfl, rfl, rfl⟩ := H
  go_enter Tryz.func11, Tryz.ntmps11
  go_wp2_with (first | ((refine gate_dst (N := 8) rfl ?_); refine bx (N := 8) (cs := #[.int .i64 0, .int .i64 0]) (t := 26) ?_; intro gb699 hg w43 hbox hb; have BK699 := am (hbox); have GW699 := am (gw hg (below_size bl)); have GE699 := am (gw hg (below_size bl)); replace HB := am (below_step bl hb); clear hb hbox hg) | (go_at_call 7; (with_reducible refine (plenumref19_Step.calls k a0 _ _ l1 _ _ l2 _ _ l3 1 t700 t703 t704 t705 _ ?side1 ?side2 ?side3 ?side4 ?side5 ?side6 A5.out).mono ?_); (case side1 => exact cc (Kd.C_below HR1.out HB.out)); (case side2 => exact HC1.out); (case side3 => exact cc (Kd.C_below HR2.out HB.out)); (case side4 => exact HC2.out); (case side5 => exact cc (Kd.C_below HR3.out HB.out)); (case side6 => exact HC3.out); rintro e w44 ⟨v701, rfl, ho0, hb⟩; have HO702 := am (Kd.R_lower ho0 (below_size (bs1 GE699.out))); replace BK699 := am (blk_below (rb BK699.out) hb); replace HB := am (below_step (bs1 GE699.out) hb); (try clear hb); (try clear hb2); (try clear hk); (try clear hi); (try clear ho0)) | ((refine gate_dst (N := 12) rfl ?_); refine bx (N := 12) (cs := #[.int .i64 0, .int .i64 0]) (t := 26) ?_; intro gb706 hg w45 hbox hb; replace HO702 := am (Kd.R_below (rr HO702.out) hb); have BK706 := am (hbox); have GW706 := am (gw hg (below_size (bs1 GE699.out))); have GE706 := am (gw hg (below_size (bs1 GE699.out))); replace HB := am (below_step (bs1 GE699.out) hb); have NB699_706 := am ((by rw [hg]; exact Nat.ne_of_lt (blk_lt (rb BK699.out)) : gb699 ≠ gb706)); have NB706_699 := am ((by rw [hg]; exact Nat.ne_of_gt (blk_lt (rb BK699.out)) : gb706 ≠ gb699)); replace BK699 := am (blk_below (rb BK699.out) hb); clear hb hbox hg; have hnb46 := NB706_699.out; have hnc46 := NB699_706.out; obtain ⟨hcz47_0, hcz47_1, hfz47_0, hfz47_1⟩ := bz2 BK706.out; obtain ⟨hcz48_0, hcz48_1, hfz48_0, hfz48_1⟩ := bz2 BK699.out) | (go_quiet (first | ((refine gate_dst (N := 8) rfl ?_); refine bx (N := 8) (cs := #[.int .i64 0, .int .i64 0]) (t := 26) ?_; intro gb699 hg w43 hbox hb; have BK699 := am (hbox); have GW699 := am (gw hg (below_size bl)); have GE699 := am (gw hg (below_size bl)); replace HB := am (below_step bl hb); clear hb hbox hg) | (go_at_call 7; (with_reducible refine (plenumref19_Step.calls k a0 _ _ l1 _ _ l2 _ _ l3 1 t700 t703 t704 t705 _ ?side1 ?side2 ?side3 ?side4 ?side5 ?side6 A5.out).mono ?_); (case side1 => exact cc (Kd.C_below HR1.out HB.out)); (case side2 => exact HC1.out); (case side3 => exact cc (Kd.C_below HR2.out HB.out)); (case side4 => exact HC2.out); (case side5 => exact cc (Kd.C_below HR3.out HB.out)); (case side6 => exact HC3.out); rintro e w44 ⟨v701, rfl, ho0, hb⟩; have HO702 := am (Kd.R_lower ho0 (below_size (bs1 GE699.out))); replace BK699 := am (blk_below (rb BK699.out) hb); replace HB := am (below_step (bs1 GE699.out) hb); (try clear hb); (try clear hb2); (try clear hk); (try clear hi); (try clear ho0)) | ((refine gate_dst (N := 12) rfl ?_); refine bx (N := 12) (cs := #[.int .i64 0, .int .i64 0]) (t := 26) ?_; intro gb706 hg w45 hbox hb; replace HO702 := am (Kd.R_below (rr HO702.out) hb); have BK706 := am (hbox); have GW706 := am (gw hg (below_size (bs1 GE699.out))); have GE706 := am (gw hg (below_size (bs1 GE699.out))); replace HB := am (below_step (bs1 GE699.out) hb); have NB699_706 := am ((by rw [hg]; exact Nat.ne_of_lt (blk_lt (rb BK699.out)) : gb699 ≠ gb706)); have NB706_699 := am ((by rw [hg]; exact Nat.ne_of_gt (blk_lt (rb BK699.out)) : gb706 ≠ gb699)); replace BK699 := am (blk_below (rb BK699.out) hb); clear hb hbox hg; have hnb46 := NB706_699.out; have hnc46 := NB699_706.out; obtain ⟨hcz47_0, hcz47_1, hfz47_0, hfz47_1⟩ := bz2 BK706.out; obtain ⟨hcz48_0, hcz48_1, hfz48_0, hfz48_1⟩ := bz2 BK699.out))))
  refine bodyPost_ret (results_ctt rfl _ _ gb699 26 #[.int .i64 0, .int .i64 0] (0, 0) _ rfl (by refine rb ?_; refine blk_put (cs := #[.int .i64 0, .int .i64 0]) ?_ 1 _ rfl; refine rb ?_; refine blk_put (cs := #[.int .i64 0, .int .i64 0]) ?_ 0 _ rfl; (with_reducible repeat (first | apply blk_drewN | apply blk_drew | apply blk_alloc)); refine blk_far ?_ NB699_706.out _; (with_reducible repeat (first | apply blk_drewN | apply blk_drew | apply blk_alloc)); refine blk_far ?_ NB699_706.out _; exact rb BK699.out) Tryz.underlying26 rfl (by kernel_rfl)) rfl ?_
  exact ⟨ew, bs2 GE699.out GE706.out⟩
 rw [if_pos c6] at H
 have c6b0 := beq_iff_eq.mpr c6
 have c6b1 := bne_eq_false_iff_eq.mpr c6
 clear c6
 have H' := am H
 clear H
 go_enter Tryz.func11, Tryz.ntmps11
 go_wp2_with (first | ((refine gate_dst (N := 8) rfl ?_); refine bx (N := 8) (cs := #[.int .i64 0, .int .i64 0]) (t := 26) ?_; intro gb699 hg w7 hbox hb; have BK699 := am (hbox); have GW699 := am (gw hg (below_size bl)); have GE699 := am (gw hg (below_size bl)); replace HB := am (below_step bl hb); clear hb hbox hg) | (go_at_call 7; (with_reducible refine (plenumref19_Step.calls k a0 _ _ l1 _ _ l2 _ _ l3 1 t700 t703 t704 t705 _ ?side1 ?side2 ?side3 ?side4 ?side5 ?side6 A5.out).mono ?_); (case side1 => exact cc (Kd.C_below HR1.out HB.out)); (case side2 => exact HC1.out); (case side3 => exact cc (Kd.C_below HR2.out HB.out)); (case side4 => exact HC2.out); (case side5 => exact cc (Kd.C_below HR3.out HB.out)); (case side6 => exact HC3.out); rintro e w8 ⟨v701, rfl, ho0, hb⟩; have HO702 := am (Kd.R_lower ho0 (below_size (bs1 GE699.out))); replace BK699 := am (blk_below (rb BK699.out) hb); replace HB := am (below_step (bs1 GE699.out) hb); (try clear hb); (try clear hb2); (try clear hk); (try clear hi); (try clear ho0)) | ((refine gate_dst (N := 12) rfl ?_); refine bx (N := 12) (cs := #[.int .i64 0, .int .i64 0]) (t := 26) ?_; intro gb706 hg w9 hbox hb; replace HO702 := am (Kd.R_below (rr HO702.out) hb); have BK706 := am (hbox); have GW706 := am (gw hg (below_size (bs1 GE699.out))); have GE706 := am (gw hg (below_size (bs1 GE699.out))); replace HB := am (below_step (bs1 GE699.out) hb); have NB699_706 := am ((by rw [hg]; exact Nat.ne_of_lt (blk_lt (rb BK699.out)) : gb699 ≠ gb706)); have NB706_699 := am ((by rw [hg]; exact Nat.ne_of_gt (blk_lt (rb BK699.out)) : gb706 ≠ gb699)); replace BK699 := am (blk_below (rb BK699.out) hb); clear hb hbox hg; have hnb10 := NB706_699.out; have hnc10 := NB699_706.out; obtain ⟨hcz11_0, hcz11_1, hfz11_0, hfz11_1⟩ := bz2 BK706.out) | (go_quiet (first | ((refine gate_dst (N := 8) rfl ?_); refine bx (N := 8) (cs := #[.int .i64 0, .int .i64 0]) (t := 26) ?_; intro gb699 hg w7 hbox hb; have BK699 := am (hbox); have GW699 := am (gw hg (below_size bl)); have GE699 := am (gw hg (below_size bl)); replace HB := am (below_step bl hb); clear hb hbox hg) | (go_at_call 7; (with_reducible refine (plenumref19_Step.calls k a0 _ _ l1 _ _ l2 _ _ l3 1 t700 t703 t704 t705 _ ?side1 ?side2 ?side3 ?side4 ?side5 ?side6 A5.out).mono ?_); (case side1 => exact cc (Kd.C_below HR1.out HB.out)); (case side2 => exact HC1.out); (case side3 => exact cc (Kd.C_below HR2.out HB.out)); (case side4 => exact HC2.out); (case side5 => exact cc (Kd.C_below HR3.out HB.out)); (case side6 => exact HC3.out); rintro e w8 ⟨v701, rfl, ho0, hb⟩; have HO702 := am (Kd.R_lower ho0 (below_size (bs1 GE699.out))); replace BK699 := am (blk_below (rb BK699.out) hb); replace HB := am (below_step (bs1 GE699.out) hb); (try clear hb); (try clear hb2); (try clear hk); (try clear hi); (try clear ho0)) | ((refine gate_dst (N := 12) rfl ?_); refine bx (N := 12) (cs := #[.int .i64 0, .int .i64 0]) (t := 26) ?_; intro gb706 hg w9 hbox hb; replace HO702 := am (Kd.R_below (rr HO702.out) hb); have BK706 := am (hbox); have GW706 := am (gw hg (below_size (bs1 GE699.out))); have GE706 := am (gw hg (below_size (bs1 GE699.out))); replace HB := am (below_step (bs1 GE699.out) hb); have NB699_706 := am ((by rw [hg]; exact Nat.ne_of_lt (blk_lt (rb BK699.out)) : gb699 ≠ gb706)); have NB706_699 := am ((by rw [hg]; exact Nat.ne_of_gt (blk_lt (rb BK699.out)) : gb706 ≠ gb699)); replace BK699 := am (blk_below (rb BK699.out) hb); clear hb hbox hg; have hnb10 := NB706_699.out; have hnc10 := NB699_706.out; obtain ⟨hcz11_0, hcz11_1, hfz11_0, hfz11_1⟩ := bz2 BK706.out))))
 go_loopg [11, 14, 15, 16] k (fun kq v11 v14 v15 v16 w' => ∃ (x11_1 : List Int) (x14_1 : Int) (x15_1 : Int) (x16_1 : Int) (x700000_1 : Int) (x700001_1 : Int) (x707000_1 : Int) (x707001_1 : Int), v14 = .int .i64 x14_1 ∧ v15 = .int .i64 x15_1 ∧ v16 = .int .i64 x16_1 ∧ Aside0 (plenumref19_Settle.l0 kq a0 l1 l3 x11_1 x14_1 x15_1 x16_1 x707000_1 x707001_1 = some (r1, r2, r3, r4)) ∧ Aside0 (kq ≤ k) ∧ Aside0 (Kd.R (Kd.int .i64) 2 w' w.heap.size (fun _ => True) v11 x11_1) ∧ Aside0 (w'.heap[gb699]? = some (.cells #[.int .i64 x700000_1, .int .i64 x700001_1] 26 (0, 0))) ∧ Aside0 (w'.heap[gb706]? = some (.cells #[.int .i64 x707000_1, .int .i64 x707001_1] 26 (0, 0))) ∧ Aside0 (Below w.heap.size w w'))
 case atStart => exact ⟨(t700), (1), (0), (2), (0), (0), (t703), (t704), (by first | rfl | (simp; done) | (simp [*]; done)), (by first | rfl | (simp; done) | (simp [*]; done)), (by first | rfl | (simp; done) | (simp [*]; done)), H', ⟨Nat.le_refl _⟩, ⟨rr (Kd.R_mono (Kd.R_far (p := ⟨gb706, 1, none⟩) (Kd.R_far (p := ⟨gb706, 0, none⟩) (Kd.R_types HO702.out BK706.out (by decide)) (fun _ hk => hk.2) (.int .i64 t703)) (fun _ hk => hk.2) (.int .i64 t704)) (fun _ hk => trivial))⟩, ⟨by (with_reducible repeat (first | apply blk_drewN | apply blk_drew | apply blk_alloc)); refine blk_far ?_ NB699_706.out _; (with_reducible repeat (first | apply blk_drewN | apply blk_drew | apply blk_alloc)); refine blk_far ?_ NB699_706.out _; exact rb BK699.out⟩, ⟨by refine rb ?_; refine blk_put (cs := #[.int .i64 t703, .int .i64 0]) ?_ 1 _ rfl; refine rb ?_; refine blk_put (cs := #[.int .i64 0, .int .i64 0]) ?_ 0 _ rfl; exact rb BK706.out⟩, ⟨bs2 GE699.out GE706.out⟩⟩
 case round =>
  clear H'
  obtain ⟨x11_1, x14_1, x15_1, x16_1, x700000_1, x700001_1, x707000_1, x707001_1, rfl, rfl, rfl, HA, HK1, HO_11, BK699, BK706, HB⟩ := hrel
  cases gk with
  | zero => exact absurd HA.out (by simp [plenumref19_Settle.l0])
  | succ k1 =>
   have H := HA.out
   clear HA
   simp only [plenumref19_Settle.l0] at H
   by_cases c12 : x15_1 ≤ 86402
   rotate_left
   ·
    rw [if_neg c12] at H
    have c12b0 := decide_eq_false c12
    clear c12
    simp only [Option.some.injEq, Prod.mk.injEq] at H
    obtain ⟨rfl, rfl, rfl, rfl⟩ := H
    have hnb40 := NB706_699.out
    have hnc40 := NB699_706.out
    obtain ⟨hcz41_0, hcz41_1, hfz41_0, hfz41_1⟩ := bz2 BK706.out; obtain ⟨hcz42_0, hcz42_1, hfz42_0, hfz42_1⟩ := bz2 BK699.out
    go_wp2
    repeat (go_quiet (fail); try go_wp2)
    refine bodyPost_ret (results_ctt rfl _ _ gb699 26 #[.int .i64 x707000_1, .int .i64 x707001_1] (0, 0) _ rfl (by refine rb ?_; refine blk_put (cs := #[.int .i64 x707000_1, .int .i64 x700001_1]) ?_ 1 _ rfl; refine rb ?_; refine blk_put (cs := #[.int .i64 x700000_1, .int .i64 x700001_1]) ?_ 0 _ rfl; exact rb BK699.out) Tryz.underlying26 rfl (by kernel_rfl)) rfl ?_
    exact ⟨ew, bs2 GE699.out GE706.out⟩
   rw [if_pos c12] at H
   have c12b0 := decide_eq_true c12
   clear c12
   obtain ⟨⟨t707, t710, t711, t712⟩, A13, H⟩ := Option.bind_eq_some_iff.mp H
   (try dsimp only at H)
   replace A13 := am A13
   have HC14 := am H
   clear H
   obtain ⟨Ao15, co15, eo15⟩ := Kd.R_slice HO_11.out
   subst eo15
   go_upto_if 50 with (first | (go_at_call 7; (with_reducible refine (plenumref19_Step.calls k1 a0 _ _ l1 _ _ x11_1 _ _ l3 1 t707 t710 t711 t712 _ ?side1 ?side2 ?side3 ?side4 ?side5 ?side6 A13.out).mono ?_); (case side1 => exact cc (Kd.C_below HR1.out HB.out)); (case side2 => exact HC1.out); (case side3 => repeat (first | exact (Kd.R_reads' HO_11.out).2.2 | (with_reducible refine Kd.C_alloc ?_ _) | (with_reducible refine Kd.C_drewN ?_ _) | (with_reducible refine Kd.C_drew ?_))); (case side4 => exact (Kd.R_reads' HO_11.out).2.1); (case side5 => exact cc (Kd.C_below HR3.out HB.out)); (case side6 => exact HC3.out); rintro e w16 ⟨v708, rfl, ho0, hb⟩; have HO709 := am (Kd.R_lower (Kd.R_new' ho0 (Kd.R_lt (rr HO_11.out))) (below_size (bs2 GE699.out GE706.out))); replace HO_11 := am (Kd.R_elder' (rr HO_11.out) (Kd.R_base ho0) hb); replace BK699 := am (blk_below (rb BK699.out) hb); replace BK706 := am (blk_below (rb BK706.out) hb); replace HB := am (below_step (bs2 GE699.out GE706.out) hb); (try clear hb); (try clear hb2); (try clear hk); (try clear hi); (try clear ho0)) | ((refine gate_dst (N := 18) rfl ?_); refine bx (N := 18) (cs := #[.int .i64 0, .int .i64 0]) (t := 26) ?_; intro gb713 hg w17 hbox hb; replace HO_11 := am (Kd.R_below (rr HO_11.out) hb); replace HO709 := am (Kd.R_below (rr HO709.out) hb); have BK713 := am (hbox); have GW713 := am (gw hg (below_size (bs2 GE699.out GE706.out))); have GE713 := am (gw hg (below_size (bs2 GE699.out GE706.out))); replace HB := am (below_step (bs2 GE699.out GE706.out) hb); have NB699_713 := am ((by rw [hg]; exact Nat.ne_of_lt (blk_lt (rb BK699.out)) : gb699 ≠ gb713)); have NB713_699 := am ((by rw [hg]; exact Nat.ne_of_gt (blk_lt (rb BK699.out)) : gb713 ≠ gb699)); replace BK699 := am (blk_below (rb BK699.out) hb); have NB706_713 := am ((by rw [hg]; exact Nat.ne_of_lt (blk_lt (rb BK706.out)) : gb706 ≠ gb713)); have NB713_706 := am ((by rw [hg]; exact Nat.ne_of_gt (blk_lt (rb BK706.out)) : gb713 ≠ gb706)); replace BK706 := am (blk_below (rb BK706.out) hb); clear hb hbox hg; have hnb18 := NB713_699.out; have hnc18 := NB699_713.out; have hnb19 := NB713_706.out; have hnc19 := NB706_713.out; obtain ⟨hcz20_0, hcz20_1, hfz20_0, hfz20_1⟩ := bz2 BK713.out; have hnb21 := NB706_699.out; have hnc21 := NB699_706.out; obtain ⟨hcz22_0, hcz22_1, hfz22_0, hfz22_1⟩ := bz2 BK706.out))
   repeat (go_quiet (first | (go_at_call 7; (with_reducible refine (plenumref19_Step.calls k1 a0 _ _ l1 _ _ x11_1 _ _ l3 1 t707 t710 t711 t712 _ ?side1 ?side2 ?side3 ?side4 ?side5 ?side6 A13.out).mono ?_); (case side1 => exact cc (Kd.C_below HR1.out HB.out)); (case side2 => exact HC1.out); (case side3 => repeat (first | exact (Kd.R_reads' HO_11.out).2.2 | (with_reducible refine Kd.C_alloc ?_ _) | (with_reducible refine Kd.C_drewN ?_ _) | (with_reducible refine Kd.C_drew ?_))); (case side4 => exact (Kd.R_reads' HO_11.out).2.1); (case side5 => exact cc (Kd.C_below HR3.out HB.out)); (case side6 => exact HC3.out); rintro e w16 ⟨v708, rfl, ho0, hb⟩; have HO709 := am (Kd.R_lower (Kd.R_new' ho0 (Kd.R_lt (rr HO_11.out))) (below_size (bs2 GE699.out GE706.out))); replace HO_11 := am (Kd.R_elder' (rr HO_11.out) (Kd.R_base ho0) hb); replace BK699 := am (blk_below (rb BK699.out) hb); replace BK706 := am (blk_below (rb BK706.out) hb); replace HB := am (below_step (bs2 GE699.out GE706.out) hb); (try clear hb); (try clear hb2); (try clear hk); (try clear hi); (try clear ho0)) | ((refine gate_dst (N := 18) rfl ?_); refine bx (N := 18) (cs := #[.int .i64 0, .int .i64 0]) (t := 26) ?_; intro gb713 hg w17 hbox hb; replace HO_11 := am (Kd.R_below (rr HO_11.out) hb); replace HO709 := am (Kd.R_below (rr HO709.out) hb); have BK713 := am (hbox); have GW713 := am (gw hg (below_size (bs2 GE699.out GE706.out))); have GE713 := am (gw hg (below_size (bs2 GE699.out GE706.out))); replace HB := am (below_step (bs2 GE699.out GE706.out) hb); have NB699_713 := am ((by rw [hg]; exact Nat.ne_of_lt (blk_lt (rb BK699.out)) : gb699 ≠ gb713)); have NB713_699 := am ((by rw [hg]; exact Nat.ne_of_gt (blk_lt (rb BK699.out)) : gb713 ≠ gb699)); replace BK699 := am (blk_below (rb BK699.out) hb); have NB706_713 := am ((by rw [hg]; exact Nat.ne_of_lt (blk_lt (rb BK706.out)) : gb706 ≠ gb713)); have NB713_706 := am ((by rw [hg]; exact Nat.ne_of_gt (blk_lt (rb BK706.out)) : gb713 ≠ gb706)); replace BK706 := am (blk_below (rb BK706.out) hb); clear hb hbox hg; have hnb18 := NB713_699.out; have hnc18 := NB699_713.out; have hnb19 := NB713_706.out; have hnc19 := NB706_713.out; obtain ⟨hcz20_0, hcz20_1, hfz20_0, hfz20_1⟩ := bz2 BK713.out; have hnb21 := NB706_699.out; have hnc21 := NB699_706.out; obtain ⟨hcz22_0, hcz22_1, hfz22_0, hfz22_1⟩ := bz2 BK706.out)); go_upto_if 50 with (first | (go_at_call 7; (with_reducible refine (plenumref19_Step.calls k1 a0 _ _ l1 _ _ x11_1 _ _ l3 1 t707 t710 t711 t712 _ ?side1 ?side2 ?side3 ?side4 ?side5 ?side6 A13.out).mono ?_); (case side1 => exact cc (Kd.C_below HR1.out HB.out)); (case side2 => exact HC1.out); (case side3 => repeat (first | exact (Kd.R_reads' HO_11.out).2.2 | (with_reducible refine Kd.C_alloc ?_ _) | (with_reducible refine Kd.C_drewN ?_ _) | (with_reducible refine Kd.C_drew ?_))); (case side4 => exact (Kd.R_reads' HO_11.out).2.1); (case side5 => exact cc (Kd.C_below HR3.out HB.out)); (case side6 => exact HC3.out); rintro e w16 ⟨v708, rfl, ho0, hb⟩; have HO709 := am (Kd.R_lower (Kd.R_new' ho0 (Kd.R_lt (rr HO_11.out))) (below_size (bs2 GE699.out GE706.out))); replace HO_11 := am (Kd.R_elder' (rr HO_11.out) (Kd.R_base ho0) hb); replace BK699 := am (blk_below (rb BK699.out) hb); replace BK706 := am (blk_below (rb BK706.out) hb); replace HB := am (below_step (bs2 GE699.out GE706.out) hb); (try clear hb); (try clear hb2); (try clear hk); (try clear hi); (try clear ho0)) | ((refine gate_dst (N := 18) rfl ?_); refine bx (N := 18) (cs := #[.int .i64 0, .int .i64 0]) (t := 26) ?_; intro gb713 hg w17 hbox hb; replace HO_11 := am (Kd.R_below (rr HO_11.out) hb); replace HO709 := am (Kd.R_below (rr HO709.out) hb); have BK713 := am (hbox); have GW713 := am (gw hg (below_size (bs2 GE699.out GE706.out))); have GE713 := am (gw hg (below_size (bs2 GE699.out GE706.out))); replace HB := am (below_step (bs2 GE699.out GE706.out) hb); have NB699_713 := am ((by rw [hg]; exact Nat.ne_of_lt (blk_lt (rb BK699.out)) : gb699 ≠ gb713)); have NB713_699 := am ((by rw [hg]; exact Nat.ne_of_gt (blk_lt (rb BK699.out)) : gb713 ≠ gb699)); replace BK699 := am (blk_below (rb BK699.out) hb); have NB706_713 := am ((by rw [hg]; exact Nat.ne_of_lt (blk_lt (rb BK706.out)) : gb706 ≠ gb713)); have NB713_706 := am ((by rw [hg]; exact Nat.ne_of_gt (blk_lt (rb BK706.out)) : gb713 ≠ gb706)); replace BK706 := am (blk_below (rb BK706.out) hb); clear hb hbox hg; have hnb18 := NB713_699.out; have hnc18 := NB699_713.out; have hnb19 := NB713_706.out; have hnc19 := NB706_713.out; obtain ⟨hcz20_0, hcz20_1, hfz20_0, hfz20_1⟩ := bz2 BK713.out; have hnb21 := NB706_699.out; have hnc21 := NB699_706.out; obtain ⟨hcz22_0, hcz22_1, hfz22_0, hfz22_1⟩ := bz2 BK706.out)))
   (try simp only [ap, sa, sb, sc])
   go_cut [14, 15] (fun v14 v15 wc => ∃ (kq : Nat) (x14_13 : Int) (x15_13 : Int) (x707000_13 : Int) (x707001_13 : Int), v14 = .int .i64 x14_13 ∧ v15 = .int .i64 x15_13 ∧ Aside0 (plenumref19_Settle.j1 kq a0 l1 l3 x11_1 x14_13 x15_13 x16_1 t707 x707000_13 x707001_13 = some (r1, r2, r3, r4)) ∧ Aside0 (kq ≤ k1) ∧ Aside0 (Kd.R (Kd.int .i64) 2 wc w.heap.size (fun k_ => some k_ ≠ (v708 : Value).ownBlock) (.slice Ao15 x11_1.length co15) x11_1) ∧ Aside0 (Kd.R (Kd.int .i64) 2 wc w.heap.size (fun k_ => some k_ ≠ ((.slice Ao15 x11_1.length co15) : Value).ownBlock) v708 t707) ∧ Aside0 (wc.heap[gb699]? = some (.cells #[.int .i64 x700000_1, .int .i64 x700001_1] 26 (0, 0))) ∧ Aside0 (wc.heap[gb706]? = some (.cells #[.int .i64 x707000_13, .int .i64 x707001_13] 26 (0, 0))) ∧ Aside0 (wc.heap[gb713]? = some (.cells #[.int .i64 t710, .int .i64 t711] 26 (0, 0))) ∧ Aside0 (Below w.heap.size w wc))
   case first =>
    have H := HC14.out
    clear HC14
    by_cases c23 : (!(t710 == x707000_1) || (!(t711 == x707001_1))) = true
    rotate_left
    ·
     rw [if_neg c23] at H
     have c23b0 : (!(t710 == x707000_1) || (!(t711 == x707001_1))) = false := by simpa using c23
     clear c23
     (first | rw [c23b0] | (simp only [i64_w, i32_w]; rw [c23b0]) | skip)
     have H' := am H
     clear H
     go_wp2
     repeat (go_quiet (fail); try go_wp2)
     go_meet
     case rel => exact ⟨_, (x14_1), (x15_1), (x707000_1), (x707001_1), (by first | rfl | (simp; done) | (simp [*]; done)), (by first | rfl | (simp; done) | (simp [*]; done)), H', ⟨by have := HK1.out; first | omega | exact Nat.le_refl _⟩, ⟨rr (Kd.R_mono (Kd.R_far (p := ⟨gb713, 1, none⟩) (Kd.R_far (p := ⟨gb713, 0, none⟩) (Kd.R_types HO_11.out BK713.out (by decide)) (fun _ hk => hk.2) (.int .i64 t710)) (fun _ hk => hk.2) (.int .i64 t711)) (fun _ hk => hk.1.2))⟩, ⟨rr (Kd.R_mono (Kd.R_far (p := ⟨gb713, 1, none⟩) (Kd.R_far (p := ⟨gb713, 0, none⟩) (Kd.R_types HO709.out BK713.out (by decide)) (fun _ hk => hk.2) (.int .i64 t710)) (fun _ hk => hk.2) (.int .i64 t711)) (fun _ hk => hk.1.2))⟩, ⟨by (with_reducible repeat (first | apply blk_drewN | apply blk_drew | apply blk_alloc)); refine blk_far ?_ NB699_713.out _; (with_reducible repeat (first | apply blk_drewN | apply blk_drew | apply blk_alloc)); refine blk_far ?_ NB699_713.out _; exact rb BK699.out⟩, ⟨by (with_reducible repeat (first | apply blk_drewN | apply blk_drew | apply blk_alloc)); refine blk_far ?_ NB706_713.out _; (with_reducible repeat (first | apply blk_drewN | apply blk_drew | apply blk_alloc)); refine blk_far ?_ NB706_713.out _; exact rb BK706.out⟩, ⟨by refine rb ?_; refine blk_put (cs := #[.int .i64 t710, .int .i64 0]) ?_ 1 _ rfl; refine rb ?_; refine blk_put (cs := #[.int .i64 0, .int .i64 0]) ?_ 0 _ rfl; exact rb BK713.out⟩, ⟨bs3 GE699.out GE706.out GE713.out⟩⟩
    rw [if_pos c23] at H
    have c23b0 : (!(t710 == x707000_1) || (!(t711 == x707001_1))) = true := c23
    clear c23
    (first | rw [c23b0] | (simp only [i64_w, i32_w]; rw [c23b0]) | skip)
    have H' := am H
    clear H
    have hnb24 := NB713_699.out
    have hnc24 := NB699_713.out
    have hnb25 := NB713_706.out
    have hnc25 := NB706_713.out
    obtain ⟨hcz26_0, hcz26_1, hfz26_0, hfz26_1⟩ := bz2 BK713.out
    have hnb27 := NB706_699.out
    have hnc27 := NB699_706.out
    obtain ⟨hcz28_0, hcz28_1, hfz28_0, hfz28_1⟩ := bz2 BK706.out
    go_wp2
    repeat (go_quiet (fail); try go_wp2)
    go_meet
    case rel => exact ⟨_, (x16_1), (0), (t710), (t711), (by first | rfl | (simp; done) | (simp [*]; done)), (by first | rfl | (simp; done) | (simp [*]; done)), H', ⟨by have := HK1.out; first | omega | exact Nat.le_refl _⟩, ⟨rr (Kd.R_mono (Kd.R_far (p := ⟨gb706, 1, none⟩) (Kd.R_far (p := ⟨gb706, 0, none⟩) (Kd.R_far (p := ⟨gb713, 1, none⟩) (Kd.R_far (p := ⟨gb713, 0, none⟩) (Kd.R_types (Kd.R_types HO_11.out BK713.out (by decide)) BK706.out (by decide)) (fun _ hk => hk.1.2) (.int .i64 t710)) (fun _ hk => hk.1.2) (.int .i64 t711)) (fun _ hk => hk.2) (.int .i64 t710)) (fun _ hk => hk.2) (.int .i64 t711)) (fun _ hk => hk.1.1.2))⟩, ⟨rr (Kd.R_mono (Kd.R_far (p := ⟨gb706, 1, none⟩) (Kd.R_far (p := ⟨gb706, 0, none⟩) (Kd.R_far (p := ⟨gb713, 1, none⟩) (Kd.R_far (p := ⟨gb713, 0, none⟩) (Kd.R_types (Kd.R_types HO709.out BK713.out (by decide)) BK706.out (by decide)) (fun _ hk => hk.1.2) (.int .i64 t710)) (fun _ hk => hk.1.2) (.int .i64 t711)) (fun _ hk => hk.2) (.int .i64 t710)) (fun _ hk => hk.2) (.int .i64 t711)) (fun _ hk => hk.1.1.2))⟩, ⟨by (with_reducible repeat (first | apply blk_drewN | apply blk_drew | apply blk_alloc)); refine blk_far ?_ NB699_706.out _; (with_reducible repeat (first | apply blk_drewN | apply blk_drew | apply blk_alloc)); refine blk_far ?_ NB699_706.out _; (with_reducible repeat (first | apply blk_drewN | apply blk_drew | apply blk_alloc)); refine blk_far ?_ NB699_713.out _; (with_reducible repeat (first | apply blk_drewN | apply blk_drew | apply blk_alloc)); refine blk_far ?_ NB699_713.out _; exact rb BK699.out⟩, ⟨by refine rb ?_; refine blk_put (cs := #[.int .i64 t710, .int .i64 x707001_1]) ?_ 1 _ rfl; refine rb ?_; refine blk_put (cs := #[.int .i64 x707000_1, .int .i64 x707001_1]) ?_ 0 _ rfl; (with_reducible repeat (first | apply blk_drewN | apply blk_drew | apply blk_alloc)); refine blk_far ?_ NB706_713.out _; (with_reducible repeat (first | apply blk_drewN | apply blk_drew | apply blk_alloc)); refine blk_far ?_ NB706_713.out _; exact rb BK706.out⟩, ⟨by (with_reducible repeat (first | apply blk_drewN | apply blk_drew | apply blk_alloc)); refine blk_far ?_ NB713_706.out _; (with_reducible repeat (first | apply blk_drewN | apply blk_drew | apply blk_alloc)); refine blk_far ?_ NB713_706.out _; refine rb ?_; refine blk_put (cs := #[.int .i64 t710, .int .i64 0]) ?_ 1 _ rfl; refine rb ?_; refine blk_put (cs := #[.int .i64 0, .int .i64 0]) ?_ 0 _ rfl; exact rb BK713.out⟩, ⟨bs3 GE699.out GE706.out GE713.out⟩⟩
   clear HC14
   obtain ⟨kq, x14_13, x15_13, x707000_13, x707001_13, rfl, rfl, HA, HJ13, HO_11, HO_17, BK699, BK706, BK713, HB⟩ := hcut
   cases kq with
   | zero => exact absurd HA.out (by simp [plenumref19_Settle.j1])
   | succ kj13 =>
    have H := HA.out
    clear HA
    simp only [plenumref19_Settle.j1] at H
    have H' := am H
    clear H
    obtain ⟨Ao29, co29, eo29⟩ := Kd.R_slice HO_17.out
    subst eo29
    go_wp2
    repeat (go_quiet (fail); try go_wp2)
    go_loopg [20, 21] kj13 (fun kq v20 v21 w' => ∃ (x20_3 : Bool) (x21_3 : Int), v20 = .bool x20_3 ∧ v21 = .int .i64 x21_3 ∧ Aside0 (plenumref19_Settle.l1 kq a0 l1 l3 x11_1 x14_13 (wrap64 (x15_13 + 1)) x16_1 t707 x20_3 x21_3 x707000_13 x707001_13 = some (r1, r2, r3, r4)) ∧ Aside0 (kq ≤ kj13) ∧ Aside0 (Kd.R (Kd.int .i64) 2 w' w.heap.size (fun k_ => some k_ ≠ ((.slice Ao29 t707.length co29) : Value).ownBlock) (.slice Ao15 x11_1.length co15) x11_1) ∧ Aside0 (Kd.R (Kd.int .i64) 2 w' w.heap.size (fun k_ => some k_ ≠ ((.slice Ao15 x11_1.length co15) : Value).ownBlock) (.slice Ao29 t707.length co29) t707) ∧ Aside0 (w'.heap[gb699]? = some (.cells #[.int .i64 x700000_1, .int .i64 x700001_1] 26 (0, 0))) ∧ Aside0 (w'.heap[gb706]? = some (.cells #[.int .i64 x707000_13, .int .i64 x707001_13] 26 (0, 0))) ∧ Aside0 (w'.heap[gb713]? = some (.cells #[.int .i64 t710, .int .i64 t711] 26 (0, 0))) ∧ Aside0 (Below w.heap.size w w'))
    case atStart => exact ⟨(((t707.length : Int) == (x11_1.length : Int))), (0), (by first | rfl | (simp; done) | (simp [*]; done)), (by first | rfl | (simp; done) | (simp [*]; done)), H', ⟨Nat.le_refl _⟩, ⟨rr HO_11.out⟩, ⟨rr HO_17.out⟩, ⟨rb BK699.out⟩, ⟨rb BK706.out⟩, ⟨rb BK713.out⟩, ⟨bs3 GE699.out GE706.out GE713.out⟩⟩
    case round =>
     clear H'
     obtain ⟨x20_3, x21_3, rfl, rfl, HA, HK3, HO_11, HO_17, BK699, BK706, BK713, HB⟩ := hrel
     cases gk with
     | zero => exact absurd HA.out (by simp [plenumref19_Settle.l1])
     | succ k3 =>
      have H := HA.out
      clear HA
      simp only [plenumref19_Settle.l1] at H
      by_cases c30 : x21_3 < (t707.length : Int)
      rotate_left
      ·
       rw [if_neg c30] at H
       have c30b0 := decide_eq_false c30
       clear c30
       by_cases c34 : x20_3 = true
       rotate_left
       ·
        replace c34 := Bool.eq_false_iff.mpr c34
        subst c34
        rw [if_neg (show ¬ (false = true) by decide)] at H
        have H' := am H
        clear H
        go_wp2
        repeat (go_quiet (fail); try go_wp2)
        go_roundg k3
        case measure => have := HK1.out; have := HJ13.out; have := HK3.out; omega
        case rel => exact ⟨(t707), (x14_13), ((wrap64 (x15_13 + 1))), (wrap64 (x16_1 + 1)), (x700000_1), (x700001_1), (x707000_13), (x707001_13), (by first | rfl | (simp; done) | (simp [*]; done)), (by first | rfl | (simp; done) | (simp [*]; done)), (by first | rfl | (simp; done) | (simp [*]; done)), H', ⟨by have := HK1.out; have := HJ13.out; have := HK3.out; omega⟩, ⟨rr (Kd.R_mono HO_17.out (fun _ hk => trivial))⟩, ⟨rb BK699.out⟩, ⟨rb BK706.out⟩, ⟨bs3 GE699.out GE706.out GE713.out⟩⟩
       subst c34
       rw [if_pos rfl] at H
       simp only [Option.some.injEq, Prod.mk.injEq] at H
       obtain ⟨rfl, rfl, rfl, rfl⟩ := H
       have hnb35 := NB706_699.out
       have hnc35 := NB699_706.out
       have hnb36 := NB706_713.out
       have hnc36 := NB713_706.out
       obtain ⟨hcz37_0, hcz37_1, hfz37_0, hfz37_1⟩ := bz2 BK706.out
       have hnb38 := NB699_713.out
       have hnc38 := NB713_699.out
       obtain ⟨hcz39_0, hcz39_1, hfz39_0, hfz39_1⟩ := bz2 BK699.out
       go_wp2
       repeat (go_quiet (fail); try go_wp2)
       refine bodyPost_ret (results_ctt rfl _ _ gb699 26 #[.int .i64 x707000_13, .int .i64 x707001_13] (0, 0) _ rfl (by refine rb ?_; refine blk_put (cs := #[.int .i64 x707000_13, .int .i64 x700001_1]) ?_ 1 _ rfl; refine rb ?_; refine blk_put (cs := #[.int .i64 x700000_1, .int .i64 x700001_1]) ?_ 0 _ rfl; exact rb BK699.out) Tryz.underlying26 rfl (by kernel_rfl)) rfl ?_
       exact ⟨ew, bs3 GE699.out GE706.out GE713.out⟩
      rw [if_pos c30] at H
      have c30b0 := decide_eq_true c30
      clear c30
      by_cases c31 : x20_3 = true
      rotate_left
      ·
       replace c31 := Bool.eq_false_iff.mpr c31
       subst c31
       rw [if_neg (show ¬ (false = true) by decide)] at H
       have H' := am H
       clear H
       go_wp2
       repeat (go_quiet (fail); try go_wp2)
       go_roundg k3
       case measure => have := HK1.out; have := HJ13.out; have := HK3.out; omega
       case rel => exact ⟨(false), (wrap64 (x21_3 + 1)), (by first | rfl | (simp; done) | (simp [*]; done)), (by first | rfl | (simp; done) | (simp [*]; done)), H', ⟨by have := HK1.out; have := HJ13.out; have := HK3.out; omega⟩, ⟨rr HO_11.out⟩, ⟨rr HO_17.out⟩, ⟨rb BK699.out⟩, ⟨rb BK706.out⟩, ⟨rb BK713.out⟩, ⟨bs3 GE699.out GE706.out GE713.out⟩⟩
      subst c31
      rw [if_pos rfl] at H
      have c32 := oi H; rw [if_pos c32] at H
      have c32b0 := decide_eq_true c32
      clear c32
      have c33 := oi H; rw [if_pos c33] at H
      have c33b0 := decide_eq_true c33
      clear c33
      have H' := am H
      clear H
      have q714 := ixv (i := x21_3) (n := t707.length) ode ode; obtain ⟨ad714, e714, hx714_0⟩ := Kd.at_int (Kd.R_reads' HO_17.out).2.2 x21_3 (of_eq_true q714.1) (of_eq_true q714.2); cases e714; obtain ⟨p714, q714⟩ := q714; have q715 := ixv (i := x21_3) (n := x11_1.length) ode ode; obtain ⟨ad715, e715, hx715_0⟩ := Kd.at_int (Kd.R_reads' HO_11.out).2.2 x21_3 (of_eq_true q715.1) (of_eq_true q715.2); cases e715; obtain ⟨p715, q715⟩ := q715
      go_wp2
      repeat (go_quiet (fail); try go_wp2)
      go_roundg k3
      case measure => have := HK1.out; have := HJ13.out; have := HK3.out; omega
      case rel => exact ⟨(((rd t707 x21_3) == (rd x11_1 x21_3))), (wrap64 (x21_3 + 1)), (by first | rfl | (simp; done) | (simp [*]; done)), (by first | rfl | (simp; done) | (simp [*]; done)), H', ⟨by have := HK1.out; have := HJ13.out; have := HK3.out; omega⟩, ⟨rr HO_11.out⟩, ⟨rr HO_17.out⟩, ⟨rb BK699.out⟩, ⟨rb BK706.out⟩, ⟨rb BK713.out⟩, ⟨bs3 GE699.out GE706.out GE713.out⟩⟩
end Go.Proofs.YtjjbdgngncgikaaGreatDoor.R
