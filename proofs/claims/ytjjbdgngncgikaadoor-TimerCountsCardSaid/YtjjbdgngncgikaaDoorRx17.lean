-- Written by this claim's own program out of the translation; not trusted: Lean checks it.
import Derived.Test.YtjjbdgngncgikaaDoorRx0
namespace Go.Proofs.YtjjbdgngncgikaaDoor.R
open Go.RowKit Go.Proofs.YtjjbdgngncgikaaDoorW.PrintWords Go.Proofs.YtjjbdgngncgikaaDoorW.PrintLast Go.Proofs.YtjjbdgngncgikaaDoorW.PrintMore
attribute [local go_sem] max2_int min2_int max_two min_two max_three min_three max_four min_four   -- for this text's walks alone
set_option linter.unusedVariables false
set_option linter.unusedSimpArgs false

/-! ### timer_inputs: function 22 -/
def timer_inputs.l0 : Nat → List (S32) → Int → Int → ByteArray → List (S56) → List (S69) → List (S69) → Int → Int → Option (Int)
 | 0, _, _, _, _, _, _, _, _, _ => none
 | k + 1, x13, x14, x15, x321000, x321001, x321002, x321003, x321004, x321005 => if x15 < x14 then (if 0 ≤ x15 then (if x15 < (x13.length : Int) then (if x15 < (x321002.length : Int) then (if ((rd_T69 x321002 x15).f1).toList = ([98, 105, 110, 97, 114, 121] : List UInt8) then (if ((rd_T32 x13 x15).f0) = 2 then (if ((rd_T32 x13 x15).f1) = 0 then (timer_inputs.l0 k x13 x14 (wrap64 (x15 + 1)) x321000 x321001 x321002 x321003 x321004 x321005) else (if ((rd_T32 x13 x15).f1) = 1 then (timer_inputs.l0 k x13 x14 (wrap64 (x15 + 1)) x321000 x321001 x321002 x321003 x321004 x321005) else (some 11))) else (some 11)) else (if ((rd_T32 x13 x15).f0) = 1 then (timer_inputs.l0 k x13 x14 (wrap64 (x15 + 1)) x321000 x321001 x321002 x321003 x321004 x321005) else (some 11))) else (none)) else (none)) else (none)) else (some 0)
def timer_inputs.f (k : Nat) (a0_0 : ByteArray) (l0_1 : List (S56)) (l0_2 : List (S69)) (l0_3 : List (S69)) (a0_4 : Int) (a0_5 : Int) (l1 : List (S32)) : Option (Int) := if (l1.length : Int) = (l0_2.length : Int) then (timer_inputs.l0 k l1 (l1.length : Int) 0 a0_0 l0_1 l0_2 l0_3 a0_4 a0_5) else (some 1)
theorem timer_inputs.mono_l : ∀ k, (∀ y0 y1 y2 y3 y4 y5 y6 y7 y8, LeO (timer_inputs.l0 k y0 y1 y2 y3 y4 y5 y6 y7 y8) (timer_inputs.l0 (k + 1) y0 y1 y2 y3 y4 y5 y6 y7 y8))
 | 0 => fun _ _ _ _ _ _ _ _ _ r h => by simp [timer_inputs.l0] at h
 | k + 1 => by
  have ih0 := timer_inputs.mono_l k
  ·
   intro y0 y1 y2 y3 y4 y5 y6 y7 y8
   unfold timer_inputs.l0
   repeat' first
   | (with_reducible exact ih0 _ _ _ _ _ _ _ _ _)
   | (with_reducible exact LeO.refl _)
   | (with_reducible exact LeO.none _)
   | (with_reducible refine LeO.ite ?_ ?_)
   | (with_reducible refine LeO.bind ?_ (fun _ => ?_))
   | exact ih0 _ _ _ _ _ _ _ _ _
   | exact LeO.none _
   | refine LeO.ite ?_ ?_
   | refine LeO.bind ?_ (fun _ => ?_)
theorem timer_inputs.mono : ∀ a0 a1 a2 a3 a4 a5 a6 k, LeO (timer_inputs.f k a0 a1 a2 a3 a4 a5 a6) (timer_inputs.f (k + 1) a0 a1 a2 a3 a4 a5 a6) := by
 intro a0 a1 a2 a3 a4 a5 a6 k
 have ih0 := timer_inputs.mono_l k
 unfold timer_inputs.f
 repeat' first
   | (with_reducible exact ih0 _ _ _ _ _ _ _ _ _)
   | (with_reducible exact LeO.refl _)
   | (with_reducible exact LeO.none _)
   | (with_reducible refine LeO.ite ?_ ?_)
   | (with_reducible refine LeO.bind ?_ (fun _ => ?_))
   | exact ih0 _ _ _ _ _ _ _ _ _
   | exact LeO.none _
   | refine LeO.ite ?_ ?_
   | refine LeO.bind ?_ (fun _ => ?_)
set_option maxHeartbeats 8000000 in
set_option maxRecDepth 100000 in
theorem timer_inputs.calls (k : Nat) (a0_0 : ByteArray) (A0_1 : Option Addr) (c0_1 : Nat) (l0_1 : List (S56)) (A0_2 : Option Addr) (c0_2 : Nat) (l0_2 : List (S69)) (A0_3 : Option Addr) (c0_3 : Nat) (l0_3 : List (S69)) (a0_4 : Int) (a0_5 : Int) (A1 : Option Addr) (c1 : Nat) (l1 : List (S32)) (r : Int) (w : World) (hr0_1 : Kd.C k56 w A0_1 l0_1.length l0_1) (hc0_1 : l0_1.length ≤ c0_1) (hr0_2 : Kd.C k69 w A0_2 l0_2.length l0_2) (hc0_2 : l0_2.length ≤ c0_2) (hr0_3 : Kd.C k69 w A0_3 l0_3.length l0_3) (hc0_3 : l0_3.length ≤ c0_3) (hr1 : Kd.C k32 w A1 l1.length l1) (hc1 : l1.length ≤ c1) (h : timer_inputs.f k a0_0 l0_1 l0_2 l0_3 a0_4 a0_5 l1 = some r) :
  Calls Tryd.prog 22 #[.agg #[.string a0_0, .slice A0_1 l0_1.length c0_1, .slice A0_2 l0_2.length c0_2, .slice A0_3 l0_3.length c0_3, .int .i64 a0_4, .int .i64 a0_5], .slice A1 l1.length c1] w fun e w' => e = .returned (.int .i64 r) ∧ Below w.heap.size w w' := by
 have hu45 := Tryd.underlying45
 have hu32 := Tryd.underlying32
 have HR0_1 := Aside0.mk hr0_1
 have HC0_1 := Aside0.mk hc0_1
 clear hr0_1 hc0_1
 have HR0_2 := Aside0.mk hr0_2
 have HC0_2 := Aside0.mk hc0_2
 clear hr0_2 hc0_2
 have HR0_3 := Aside0.mk hr0_3
 have HC0_3 := Aside0.mk hc0_3
 clear hr0_3 hc0_3
 have HR1 := Aside0.mk hr1
 have HC1 := Aside0.mk hc1
 clear hr1 hc1
 have HB := Aside0.mk (Below.refl w.heap.size w)
 have H : (if (l1.length : Int) = (l0_2.length : Int) then (timer_inputs.l0 k l1 (l1.length : Int) 0 a0_0 l0_1 l0_2 l0_3 a0_4 a0_5) else (some 1)) = some r := h
 clear h
 by_cases c3 : (l1.length : Int) = (l0_2.length : Int)
 ·
  rw [if_pos c3] at H
  have c3b0 : ((l1.length : Int) == (l0_2.length : Int)) = true := beq_iff_eq.mpr c3
  have c3b1 : ((l1.length : Int) != (l0_2.length : Int)) = false := bne_eq_false_iff_eq.mpr c3
  have c3b2 : (l1.length == l0_2.length) = true := by first | simpa using c3 | (simp at c3 ⊢; omega)
  clear c3
  have H' := Aside0.mk H
  clear H
  go_enter Tryd.func22, Tryd.ntmps22
  go_wp2_with (first | ((with_reducible refine gate_dst (N := 2) rfl ?_); refine box_event ?hg (N := 2) ?hd (cs := #[.string a0_0, .slice A0_1 l0_1.length c0_1, .slice A0_2 l0_2.length c0_2, .slice A0_3 l0_3.length c0_3, .int .i64 a0_4, .int .i64 a0_5]) (t := 45) ?hr ?_; (case hd => rfl); (case hg => rfl); (case hr => first | (go_simp; done) | (go_simp; rfl)); intro gb320 hg w4 hbox hb; have n0_ := Aside0.mk (below_step bl hb); have n1_ := Aside0.mk (hbox); have n2_ := Aside0.mk ((by rw [hg]; exact (below_size bl) : w.heap.size ≤ gb320)); have n3_ := Aside0.mk ((by rw [hg]; exact (below_size bl) : w.heap.size ≤ gb320)); revert n0_ n1_ n2_ n3_; clear HB; intro HB BK320 GW320 GE320; clear hb hbox hg; have hcz5_0 : w4.cell? ⟨gb320, 0, none⟩ = some (.string a0_0) := (blk_cell BK320.out 0).trans rfl; have hcz5_1 : w4.cell? ⟨gb320, 1, none⟩ = some (.slice A0_1 l0_1.length c0_1) := (blk_cell BK320.out 1).trans rfl; have hcz5_2 : w4.cell? ⟨gb320, 2, none⟩ = some (.slice A0_2 l0_2.length c0_2) := (blk_cell BK320.out 2).trans rfl; have hcz5_3 : w4.cell? ⟨gb320, 3, none⟩ = some (.slice A0_3 l0_3.length c0_3) := (blk_cell BK320.out 3).trans rfl; have hcz5_4 : w4.cell? ⟨gb320, 4, none⟩ = some (.int .i64 a0_4) := (blk_cell BK320.out 4).trans rfl; have hcz5_5 : w4.cell? ⟨gb320, 5, none⟩ = some (.int .i64 a0_5) := (blk_cell BK320.out 5).trans rfl; have hfz5_0 := blk_frozen BK320.out 0; have hfz5_1 := blk_frozen BK320.out 1; have hfz5_2 := blk_frozen BK320.out 2; have hfz5_3 := blk_frozen BK320.out 3; have hfz5_4 := blk_frozen BK320.out 4; have hfz5_5 := blk_frozen BK320.out 5))
  go_loopg [15] k (fun kq v15 w' => ∃ (x15_1 : Int), v15 = .int .i64 x15_1 ∧ Aside0 (timer_inputs.l0 kq l1 (l1.length : Int) x15_1 a0_0 l0_1 l0_2 l0_3 a0_4 a0_5 = some r) ∧ Aside0 (kq ≤ k) ∧ Aside0 (w'.heap[gb320]? = some (.cells #[.string a0_0, (.slice A0_1 l0_1.length c0_1), (.slice A0_2 l0_2.length c0_2), (.slice A0_3 l0_3.length c0_3), .int .i64 a0_4, .int .i64 a0_5] 45 (0, 0))) ∧ Aside0 (Below w.heap.size w w'))
  case atStart => exact ⟨(0), (by first | rfl | (simp; done) | (simp [*]; done)), H', ⟨Nat.le_refl _⟩, ⟨rb BK320.out⟩, ⟨bs1 GE320.out⟩⟩
  case round =>
   clear H'
   try clear c1
   try clear c2
   try clear p2
   try clear c3
   try clear c3b0
   try clear c3b1
   try clear c3b2
   try clear hcz5_0
   try clear hcz5_1
   try clear hcz5_2
   try clear hcz5_3
   try clear hcz5_4
   try clear hcz5_5
   try clear hfz5_0
   try clear hfz5_1
   try clear hfz5_2
   try clear hfz5_3
   try clear hfz5_4
   try clear hfz5_5
   obtain ⟨x15_1, rfl, HA, HK1, BK320, HB⟩ := hrel
   cases gk with
   | zero => exact absurd HA.out (by simp [timer_inputs.l0])
   | succ k1 =>
    have H := HA.out
    clear HA
    simp only [timer_inputs.l0] at H
    by_cases c6 : x15_1 < (l1.length : Int)
    rotate_left
    ·
     rw [if_neg c6] at H
     have c6b0 : decide (x15_1 < (l1.length : Int)) = false := decide_eq_false c6
     clear c6
     obtain rfl := Option.some.inj H
     go_wp2
     go_ret
     exact ⟨by first | rfl | (simp [errW_none, errW_some] <;> rfl) | (simp [*, errW_none, errW_some] <;> rfl), bs1 GE320.out⟩
    rw [if_pos c6] at H
    have c6b0 : decide (x15_1 < (l1.length : Int)) = true := decide_eq_true c6
    clear c6
    by_cases c7 : 0 ≤ x15_1
    rotate_left
    ·
     rw [if_neg c7] at H
     exact absurd H (by simp)
    rw [if_pos c7] at H
    have c7b0 : decide (0 ≤ x15_1) = true := decide_eq_true c7
    clear c7
    by_cases c8 : x15_1 < (l1.length : Int)
    rotate_left
    ·
     rw [if_neg c8] at H
     exact absurd H (by simp)
    rw [if_pos c8] at H
    have c8b0 : decide (x15_1 < (l1.length : Int)) = true := decide_eq_true c8
    clear c8
    by_cases c9 : x15_1 < (l0_2.length : Int)
    rotate_left
    ·
     rw [if_neg c9] at H
     exact absurd H (by simp)
    rw [if_pos c9] at H
    have c9b0 : decide (x15_1 < (l0_2.length : Int)) = true := decide_eq_true c9
    clear c9
    by_cases c10 : ((rd_T69 l0_2 x15_1).f1).toList = ([98, 105, 110, 97, 114, 121] : List UInt8)
    rotate_left
    ·
     rw [if_neg c10] at H
     have c10b0 : (((rd_T69 l0_2 x15_1).f1).toList == ([98, 105, 110, 97, 114, 121] : List UInt8)) = false := beq_eq_false_iff_ne.mpr c10
     have c10b1 : (((rd_T69 l0_2 x15_1).f1).toList != ([98, 105, 110, 97, 114, 121] : List UInt8)) = true := bne_iff_ne.mpr c10
     by_cases c30 : ((rd_T32 l1 x15_1).f0) = 1
     rotate_left
     ·
      rw [if_neg c30] at H
      have c30b0 : (((rd_T32 l1 x15_1).f0) == 1) = false := beq_eq_false_iff_ne.mpr c30
      have c30b1 : (((rd_T32 l1 x15_1).f0) != 1) = true := bne_iff_ne.mpr c30
      obtain rfl := Option.some.inj H
      have p321 : 0 ≤ (x15_1 : Int) := ode
      have q321 : x15_1 < (l1.length : Int) := ode
      obtain ⟨ad321, e321, hx321_0, hx321_1⟩ := at_T32 HR1.out x15_1 p321 q321
      cases e321
      replace hx321_0 := (HB.out.cell (World.block_lt_of_cell? w _ hx321_0)).trans hx321_0
      replace hx321_1 := (HB.out.cell (World.block_lt_of_cell? w _ hx321_1)).trans hx321_1
      replace p321 := eq_true p321
      replace q321 := eq_true q321
      go_wp2_with (first | ((with_reducible refine gate_dst (N := 6) rfl ?_); refine box_event ?hg (N := 6) ?hd (cs := #[.int .i64 0, .int .i64 0]) (t := 32) ?hr ?_; (case hd => rfl); (case hg => rfl); (case hr => first | (go_simp; done) | (go_simp; rfl)); intro gb322 hg w35 hbox hb; have n0_ := Aside0.mk (blk_below (g := gb320) (o := .cells #[.string a0_0, .slice A0_1 l0_1.length c0_1, .slice A0_2 l0_2.length c0_2, .slice A0_3 l0_3.length c0_3, .int .i64 a0_4, .int .i64 a0_5] 45 (0, 0)) (rb BK320.out) hb); have n1_ := Aside0.mk (below_step (bs1 GE320.out) hb); have n2_ := Aside0.mk (hbox); have n3_ := Aside0.mk ((by rw [hg]; exact (below_size (bs1 GE320.out)) : w.heap.size ≤ gb322)); have n4_ := Aside0.mk ((by rw [hg]; exact (below_size (bs1 GE320.out)) : w.heap.size ≤ gb322)); have n5_ := Aside0.mk ((by rw [hg]; exact Nat.ne_of_lt (blk_lt (g := gb320) (o := .cells #[.string a0_0, .slice A0_1 l0_1.length c0_1, .slice A0_2 l0_2.length c0_2, .slice A0_3 l0_3.length c0_3, .int .i64 a0_4, .int .i64 a0_5] 45 (0, 0)) (rb BK320.out)) : gb320 ≠ gb322)); have n6_ := Aside0.mk ((by rw [hg]; exact Nat.ne_of_gt (blk_lt (g := gb320) (o := .cells #[.string a0_0, .slice A0_1 l0_1.length c0_1, .slice A0_2 l0_2.length c0_2, .slice A0_3 l0_3.length c0_3, .int .i64 a0_4, .int .i64 a0_5] 45 (0, 0)) (rb BK320.out)) : gb322 ≠ gb320)); revert n0_ n1_ n2_ n3_ n4_ n5_ n6_; clear BK320 HB; intro BK320 HB BK322 GW322 GE322 NB320_322 NB322_320; clear hb hbox hg; have hnb36 := NB322_320.out; have hnc36 := NB320_322.out; have hcz37_0 : w35.cell? ⟨gb322, 0, none⟩ = some (.int .i64 0) := (blk_cell BK322.out 0).trans rfl; have hcz37_1 : w35.cell? ⟨gb322, 1, none⟩ = some (.int .i64 0) := (blk_cell BK322.out 1).trans rfl; have hfz37_0 := blk_frozen BK322.out 0; have hfz37_1 := blk_frozen BK322.out 1; have hcz38_0 : w35.cell? ⟨gb320, 0, none⟩ = some (.string a0_0) := (blk_cell BK320.out 0).trans rfl; have hcz38_1 : w35.cell? ⟨gb320, 1, none⟩ = some (.slice A0_1 l0_1.length c0_1) := (blk_cell BK320.out 1).trans rfl; have hcz38_2 : w35.cell? ⟨gb320, 2, none⟩ = some (.slice A0_2 l0_2.length c0_2) := (blk_cell BK320.out 2).trans rfl; have hcz38_3 : w35.cell? ⟨gb320, 3, none⟩ = some (.slice A0_3 l0_3.length c0_3) := (blk_cell BK320.out 3).trans rfl; have hcz38_4 : w35.cell? ⟨gb320, 4, none⟩ = some (.int .i64 a0_4) := (blk_cell BK320.out 4).trans rfl; have hcz38_5 : w35.cell? ⟨gb320, 5, none⟩ = some (.int .i64 a0_5) := (blk_cell BK320.out 5).trans rfl; have hfz38_0 := blk_frozen BK320.out 0; have hfz38_1 := blk_frozen BK320.out 1; have hfz38_2 := blk_frozen BK320.out 2; have hfz38_3 := blk_frozen BK320.out 3; have hfz38_4 := blk_frozen BK320.out 4; have hfz38_5 := blk_frozen BK320.out 5; have p323 : 0 ≤ (x15_1 : Int) := ode; have q323 : x15_1 < (l0_2.length : Int) := ode; obtain ⟨ad323, e323, hx323_0, hx323_1⟩ := at_T69 HR0_2.out x15_1 p323 q323; cases e323; have hn323_0 : ad323.block ≠ gb322 := Nat.ne_of_lt (Nat.lt_of_lt_of_le (by have := World.block_lt_of_cell? _ _ hx323_0; first | rwa [add_block] at this | exact this) GW322.out); have hn323_1 : ad323.block ≠ gb322 := Nat.ne_of_lt (Nat.lt_of_lt_of_le (by have := World.block_lt_of_cell? _ _ hx323_0; first | rwa [add_block] at this | exact this) GW322.out); replace hx323_0 := (HB.out.cell (World.block_lt_of_cell? w _ hx323_0)).trans hx323_0; replace hx323_1 := (HB.out.cell (World.block_lt_of_cell? w _ hx323_1)).trans hx323_1; replace hx323_0 := (cell_far (p := ⟨gb322, 0, none⟩) (by first | (rw [add_block]; exact hn323_0) | (show (Addr.add _ _).block ≠ _; rw [add_block]; exact hn323_0) | exact hn323_0) (.int .i64 ((rd_T32 l1 x15_1).f0))).trans hx323_0; replace hx323_1 := (cell_far (p := ⟨gb322, 0, none⟩) (by first | (rw [add_block]; exact hn323_0) | (show (Addr.add _ _).block ≠ _; rw [add_block]; exact hn323_0) | exact hn323_0) (.int .i64 ((rd_T32 l1 x15_1).f0))).trans hx323_1; replace hx323_0 := (cell_far (p := ⟨gb322, 1, none⟩) (by first | (rw [add_block]; exact hn323_1) | (show (Addr.add _ _).block ≠ _; rw [add_block]; exact hn323_1) | exact hn323_1) (.int .i64 ((rd_T32 l1 x15_1).f1))).trans hx323_0; replace hx323_1 := (cell_far (p := ⟨gb322, 1, none⟩) (by first | (rw [add_block]; exact hn323_1) | (show (Addr.add _ _).block ≠ _; rw [add_block]; exact hn323_1) | exact hn323_1) (.int .i64 ((rd_T32 l1 x15_1).f1))).trans hx323_1; clear hn323_0; clear hn323_1; replace p323 := eq_true p323; replace q323 := eq_true q323))
      go_ret
      exact ⟨by first | rfl | (simp [errW_none, errW_some] <;> rfl) | (simp [*, errW_none, errW_some] <;> rfl), bs2 GE320.out GE322.out⟩
     rw [if_pos c30] at H
     have c30b0 : (((rd_T32 l1 x15_1).f0) == 1) = true := beq_iff_eq.mpr c30
     have c30b1 : (((rd_T32 l1 x15_1).f0) != 1) = false := bne_eq_false_iff_eq.mpr c30
     clear c30
     have H' := Aside0.mk H
     clear H
     have p321 : 0 ≤ (x15_1 : Int) := ode
     have q321 : x15_1 < (l1.length : Int) := ode
     obtain ⟨ad321, e321, hx321_0, hx321_1⟩ := at_T32 HR1.out x15_1 p321 q321
     cases e321
     replace hx321_0 := (HB.out.cell (World.block_lt_of_cell? w _ hx321_0)).trans hx321_0
     replace hx321_1 := (HB.out.cell (World.block_lt_of_cell? w _ hx321_1)).trans hx321_1
     replace p321 := eq_true p321
     replace q321 := eq_true q321
     go_wp2_with (first | ((with_reducible refine gate_dst (N := 6) rfl ?_); refine box_event ?hg (N := 6) ?hd (cs := #[.int .i64 0, .int .i64 0]) (t := 32) ?hr ?_; (case hd => rfl); (case hg => rfl); (case hr => first | (go_simp; done) | (go_simp; rfl)); intro gb322 hg w31 hbox hb; have n0_ := Aside0.mk (blk_below (g := gb320) (o := .cells #[.string a0_0, .slice A0_1 l0_1.length c0_1, .slice A0_2 l0_2.length c0_2, .slice A0_3 l0_3.length c0_3, .int .i64 a0_4, .int .i64 a0_5] 45 (0, 0)) (rb BK320.out) hb); have n1_ := Aside0.mk (below_step (bs1 GE320.out) hb); have n2_ := Aside0.mk (hbox); have n3_ := Aside0.mk ((by rw [hg]; exact (below_size (bs1 GE320.out)) : w.heap.size ≤ gb322)); have n4_ := Aside0.mk ((by rw [hg]; exact (below_size (bs1 GE320.out)) : w.heap.size ≤ gb322)); have n5_ := Aside0.mk ((by rw [hg]; exact Nat.ne_of_lt (blk_lt (g := gb320) (o := .cells #[.string a0_0, .slice A0_1 l0_1.length c0_1, .slice A0_2 l0_2.length c0_2, .slice A0_3 l0_3.length c0_3, .int .i64 a0_4, .int .i64 a0_5] 45 (0, 0)) (rb BK320.out)) : gb320 ≠ gb322)); have n6_ := Aside0.mk ((by rw [hg]; exact Nat.ne_of_gt (blk_lt (g := gb320) (o := .cells #[.string a0_0, .slice A0_1 l0_1.length c0_1, .slice A0_2 l0_2.length c0_2, .slice A0_3 l0_3.length c0_3, .int .i64 a0_4, .int .i64 a0_5] 45 (0, 0)) (rb BK320.out)) : gb322 ≠ gb320)); revert n0_ n1_ n2_ n3_ n4_ n5_ n6_; clear BK320 HB; intro BK320 HB BK322 GW322 GE322 NB320_322 NB322_320; clear hb hbox hg; have hnb32 := NB322_320.out; have hnc32 := NB320_322.out; have hcz33_0 : w31.cell? ⟨gb322, 0, none⟩ = some (.int .i64 0) := (blk_cell BK322.out 0).trans rfl; have hcz33_1 : w31.cell? ⟨gb322, 1, none⟩ = some (.int .i64 0) := (blk_cell BK322.out 1).trans rfl; have hfz33_0 := blk_frozen BK322.out 0; have hfz33_1 := blk_frozen BK322.out 1; have hcz34_0 : w31.cell? ⟨gb320, 0, none⟩ = some (.string a0_0) := (blk_cell BK320.out 0).trans rfl; have hcz34_1 : w31.cell? ⟨gb320, 1, none⟩ = some (.slice A0_1 l0_1.length c0_1) := (blk_cell BK320.out 1).trans rfl; have hcz34_2 : w31.cell? ⟨gb320, 2, none⟩ = some (.slice A0_2 l0_2.length c0_2) := (blk_cell BK320.out 2).trans rfl; have hcz34_3 : w31.cell? ⟨gb320, 3, none⟩ = some (.slice A0_3 l0_3.length c0_3) := (blk_cell BK320.out 3).trans rfl; have hcz34_4 : w31.cell? ⟨gb320, 4, none⟩ = some (.int .i64 a0_4) := (blk_cell BK320.out 4).trans rfl; have hcz34_5 : w31.cell? ⟨gb320, 5, none⟩ = some (.int .i64 a0_5) := (blk_cell BK320.out 5).trans rfl; have hfz34_0 := blk_frozen BK320.out 0; have hfz34_1 := blk_frozen BK320.out 1; have hfz34_2 := blk_frozen BK320.out 2; have hfz34_3 := blk_frozen BK320.out 3; have hfz34_4 := blk_frozen BK320.out 4; have hfz34_5 := blk_frozen BK320.out 5; have p323 : 0 ≤ (x15_1 : Int) := ode; have q323 : x15_1 < (l0_2.length : Int) := ode; obtain ⟨ad323, e323, hx323_0, hx323_1⟩ := at_T69 HR0_2.out x15_1 p323 q323; cases e323; have hn323_0 : ad323.block ≠ gb322 := Nat.ne_of_lt (Nat.lt_of_lt_of_le (by have := World.block_lt_of_cell? _ _ hx323_0; first | rwa [add_block] at this | exact this) GW322.out); have hn323_1 : ad323.block ≠ gb322 := Nat.ne_of_lt (Nat.lt_of_lt_of_le (by have := World.block_lt_of_cell? _ _ hx323_0; first | rwa [add_block] at this | exact this) GW322.out); replace hx323_0 := (HB.out.cell (World.block_lt_of_cell? w _ hx323_0)).trans hx323_0; replace hx323_1 := (HB.out.cell (World.block_lt_of_cell? w _ hx323_1)).trans hx323_1; replace hx323_0 := (cell_far (p := ⟨gb322, 0, none⟩) (by first | (rw [add_block]; exact hn323_0) | (show (Addr.add _ _).block ≠ _; rw [add_block]; exact hn323_0) | exact hn323_0) (.int .i64 ((rd_T32 l1 x15_1).f0))).trans hx323_0; replace hx323_1 := (cell_far (p := ⟨gb322, 0, none⟩) (by first | (rw [add_block]; exact hn323_0) | (show (Addr.add _ _).block ≠ _; rw [add_block]; exact hn323_0) | exact hn323_0) (.int .i64 ((rd_T32 l1 x15_1).f0))).trans hx323_1; replace hx323_0 := (cell_far (p := ⟨gb322, 1, none⟩) (by first | (rw [add_block]; exact hn323_1) | (show (Addr.add _ _).block ≠ _; rw [add_block]; exact hn323_1) | exact hn323_1) (.int .i64 ((rd_T32 l1 x15_1).f1))).trans hx323_0; replace hx323_1 := (cell_far (p := ⟨gb322, 1, none⟩) (by first | (rw [add_block]; exact hn323_1) | (show (Addr.add _ _).block ≠ _; rw [add_block]; exact hn323_1) | exact hn323_1) (.int .i64 ((rd_T32 l1 x15_1).f1))).trans hx323_1; clear hn323_0; clear hn323_1; replace p323 := eq_true p323; replace q323 := eq_true q323))
     go_roundg k1
     case measure => have := HK1.out; omega
     case rel => exact ⟨(wrap64 (x15_1 + 1)), (by first | rfl | (simp; done) | (simp [*]; done)), H', ⟨by have := HK1.out; omega⟩, ⟨by (with_reducible repeat (first | apply blk_drewN | apply blk_drew | apply blk_alloc)); refine blk_far ?_ NB320_322.out _; (with_reducible repeat (first | apply blk_drewN | apply blk_drew | apply blk_alloc)); refine blk_far ?_ NB320_322.out _; (with_reducible repeat (first | apply blk_drewN | apply blk_drew | apply blk_alloc)); exact BK320.out⟩, ⟨bs2 GE320.out GE322.out⟩⟩
    rw [if_pos c10] at H
    have c10b0 : (((rd_T69 l0_2 x15_1).f1).toList == ([98, 105, 110, 97, 114, 121] : List UInt8)) = true := beq_iff_eq.mpr c10
    have c10b1 : (((rd_T69 l0_2 x15_1).f1).toList != ([98, 105, 110, 97, 114, 121] : List UInt8)) = false := bne_eq_false_iff_eq.mpr c10
    clear c10
    by_cases c11 : ((rd_T32 l1 x15_1).f0) = 2
    rotate_left
    ·
     rw [if_neg c11] at H
     have c11b0 : (((rd_T32 l1 x15_1).f0) == 2) = false := beq_eq_false_iff_ne.mpr c11
     have c11b1 : (((rd_T32 l1 x15_1).f0) != 2) = true := bne_iff_ne.mpr c11
     obtain rfl := Option.some.inj H
     have p321 : 0 ≤ (x15_1 : Int) := ode
     have q321 : x15_1 < (l1.length : Int) := ode
     obtain ⟨ad321, e321, hx321_0, hx321_1⟩ := at_T32 HR1.out x15_1 p321 q321
     cases e321
     replace hx321_0 := (HB.out.cell (World.block_lt_of_cell? w _ hx321_0)).trans hx321_0
     replace hx321_1 := (HB.out.cell (World.block_lt_of_cell? w _ hx321_1)).trans hx321_1
     replace p321 := eq_true p321
     replace q321 := eq_true q321
     go_wp2_with (first | ((with_reducible refine gate_dst (N := 6) rfl ?_); refine box_event ?hg (N := 6) ?hd (cs := #[.int .i64 0, .int .i64 0]) (t := 32) ?hr ?_; (case hd => rfl); (case hg => rfl); (case hr => first | (go_simp; done) | (go_simp; rfl)); intro gb322 hg w26 hbox hb; have n0_ := Aside0.mk (blk_below (g := gb320) (o := .cells #[.string a0_0, .slice A0_1 l0_1.length c0_1, .slice A0_2 l0_2.length c0_2, .slice A0_3 l0_3.length c0_3, .int .i64 a0_4, .int .i64 a0_5] 45 (0, 0)) (rb BK320.out) hb); have n1_ := Aside0.mk (below_step (bs1 GE320.out) hb); have n2_ := Aside0.mk (hbox); have n3_ := Aside0.mk ((by rw [hg]; exact (below_size (bs1 GE320.out)) : w.heap.size ≤ gb322)); have n4_ := Aside0.mk ((by rw [hg]; exact (below_size (bs1 GE320.out)) : w.heap.size ≤ gb322)); have n5_ := Aside0.mk ((by rw [hg]; exact Nat.ne_of_lt (blk_lt (g := gb320) (o := .cells #[.string a0_0, .slice A0_1 l0_1.length c0_1, .slice A0_2 l0_2.length c0_2, .slice A0_3 l0_3.length c0_3, .int .i64 a0_4, .int .i64 a0_5] 45 (0, 0)) (rb BK320.out)) : gb320 ≠ gb322)); have n6_ := Aside0.mk ((by rw [hg]; exact Nat.ne_of_gt (blk_lt (g := gb320) (o := .cells #[.string a0_0, .slice A0_1 l0_1.length c0_1, .slice A0_2 l0_2.length c0_2, .slice A0_3 l0_3.length c0_3, .int .i64 a0_4, .int .i64 a0_5] 45 (0, 0)) (rb BK320.out)) : gb322 ≠ gb320)); revert n0_ n1_ n2_ n3_ n4_ n5_ n6_; clear BK320 HB; intro BK320 HB BK322 GW322 GE322 NB320_322 NB322_320; clear hb hbox hg; have hnb27 := NB322_320.out; have hnc27 := NB320_322.out; have hcz28_0 : w26.cell? ⟨gb322, 0, none⟩ = some (.int .i64 0) := (blk_cell BK322.out 0).trans rfl; have hcz28_1 : w26.cell? ⟨gb322, 1, none⟩ = some (.int .i64 0) := (blk_cell BK322.out 1).trans rfl; have hfz28_0 := blk_frozen BK322.out 0; have hfz28_1 := blk_frozen BK322.out 1; have hcz29_0 : w26.cell? ⟨gb320, 0, none⟩ = some (.string a0_0) := (blk_cell BK320.out 0).trans rfl; have hcz29_1 : w26.cell? ⟨gb320, 1, none⟩ = some (.slice A0_1 l0_1.length c0_1) := (blk_cell BK320.out 1).trans rfl; have hcz29_2 : w26.cell? ⟨gb320, 2, none⟩ = some (.slice A0_2 l0_2.length c0_2) := (blk_cell BK320.out 2).trans rfl; have hcz29_3 : w26.cell? ⟨gb320, 3, none⟩ = some (.slice A0_3 l0_3.length c0_3) := (blk_cell BK320.out 3).trans rfl; have hcz29_4 : w26.cell? ⟨gb320, 4, none⟩ = some (.int .i64 a0_4) := (blk_cell BK320.out 4).trans rfl; have hcz29_5 : w26.cell? ⟨gb320, 5, none⟩ = some (.int .i64 a0_5) := (blk_cell BK320.out 5).trans rfl; have hfz29_0 := blk_frozen BK320.out 0; have hfz29_1 := blk_frozen BK320.out 1; have hfz29_2 := blk_frozen BK320.out 2; have hfz29_3 := blk_frozen BK320.out 3; have hfz29_4 := blk_frozen BK320.out 4; have hfz29_5 := blk_frozen BK320.out 5; have p323 : 0 ≤ (x15_1 : Int) := ode; have q323 : x15_1 < (l0_2.length : Int) := ode; obtain ⟨ad323, e323, hx323_0, hx323_1⟩ := at_T69 HR0_2.out x15_1 p323 q323; cases e323; have hn323_0 : ad323.block ≠ gb322 := Nat.ne_of_lt (Nat.lt_of_lt_of_le (by have := World.block_lt_of_cell? _ _ hx323_0; first | rwa [add_block] at this | exact this) GW322.out); have hn323_1 : ad323.block ≠ gb322 := Nat.ne_of_lt (Nat.lt_of_lt_of_le (by have := World.block_lt_of_cell? _ _ hx323_0; first | rwa [add_block] at this | exact this) GW322.out); replace hx323_0 := (HB.out.cell (World.block_lt_of_cell? w _ hx323_0)).trans hx323_0; replace hx323_1 := (HB.out.cell (World.block_lt_of_cell? w _ hx323_1)).trans hx323_1; replace hx323_0 := (cell_far (p := ⟨gb322, 0, none⟩) (by first | (rw [add_block]; exact hn323_0) | (show (Addr.add _ _).block ≠ _; rw [add_block]; exact hn323_0) | exact hn323_0) (.int .i64 ((rd_T32 l1 x15_1).f0))).trans hx323_0; replace hx323_1 := (cell_far (p := ⟨gb322, 0, none⟩) (by first | (rw [add_block]; exact hn323_0) | (show (Addr.add _ _).block ≠ _; rw [add_block]; exact hn323_0) | exact hn323_0) (.int .i64 ((rd_T32 l1 x15_1).f0))).trans hx323_1; replace hx323_0 := (cell_far (p := ⟨gb322, 1, none⟩) (by first | (rw [add_block]; exact hn323_1) | (show (Addr.add _ _).block ≠ _; rw [add_block]; exact hn323_1) | exact hn323_1) (.int .i64 ((rd_T32 l1 x15_1).f1))).trans hx323_0; replace hx323_1 := (cell_far (p := ⟨gb322, 1, none⟩) (by first | (rw [add_block]; exact hn323_1) | (show (Addr.add _ _).block ≠ _; rw [add_block]; exact hn323_1) | exact hn323_1) (.int .i64 ((rd_T32 l1 x15_1).f1))).trans hx323_1; clear hn323_0; clear hn323_1; replace p323 := eq_true p323; replace q323 := eq_true q323))
     go_ret
     exact ⟨by first | rfl | (simp [errW_none, errW_some] <;> rfl) | (simp [*, errW_none, errW_some] <;> rfl), bs2 GE320.out GE322.out⟩
    rw [if_pos c11] at H
    have c11b0 : (((rd_T32 l1 x15_1).f0) == 2) = true := beq_iff_eq.mpr c11
    have c11b1 : (((rd_T32 l1 x15_1).f0) != 2) = false := bne_eq_false_iff_eq.mpr c11
    clear c11
    by_cases c12 : ((rd_T32 l1 x15_1).f1) = 0
    ·
     rw [if_pos c12] at H
     have c12b0 : (((rd_T32 l1 x15_1).f1) == 0) = true := beq_iff_eq.mpr c12
     have c12b1 : (((rd_T32 l1 x15_1).f1) != 0) = false := bne_eq_false_iff_eq.mpr c12
     clear c12
     have H' := Aside0.mk H
     clear H
     have p321 : 0 ≤ (x15_1 : Int) := ode
     have q321 : x15_1 < (l1.length : Int) := ode
     obtain ⟨ad321, e321, hx321_0, hx321_1⟩ := at_T32 HR1.out x15_1 p321 q321
     cases e321
     replace hx321_0 := (HB.out.cell (World.block_lt_of_cell? w _ hx321_0)).trans hx321_0
     replace hx321_1 := (HB.out.cell (World.block_lt_of_cell? w _ hx321_1)).trans hx321_1
     replace p321 := eq_true p321
     replace q321 := eq_true q321
     go_wp2_with (first | ((with_reducible refine gate_dst (N := 6) rfl ?_); refine box_event ?hg (N := 6) ?hd (cs := #[.int .i64 0, .int .i64 0]) (t := 32) ?hr ?_; (case hd => rfl); (case hg => rfl); (case hr => first | (go_simp; done) | (go_simp; rfl)); intro gb322 hg w13 hbox hb; have n0_ := Aside0.mk (blk_below (g := gb320) (o := .cells #[.string a0_0, .slice A0_1 l0_1.length c0_1, .slice A0_2 l0_2.length c0_2, .slice A0_3 l0_3.length c0_3, .int .i64 a0_4, .int .i64 a0_5] 45 (0, 0)) (rb BK320.out) hb); have n1_ := Aside0.mk (below_step (bs1 GE320.out) hb); have n2_ := Aside0.mk (hbox); have n3_ := Aside0.mk ((by rw [hg]; exact (below_size (bs1 GE320.out)) : w.heap.size ≤ gb322)); have n4_ := Aside0.mk ((by rw [hg]; exact (below_size (bs1 GE320.out)) : w.heap.size ≤ gb322)); have n5_ := Aside0.mk ((by rw [hg]; exact Nat.ne_of_lt (blk_lt (g := gb320) (o := .cells #[.string a0_0, .slice A0_1 l0_1.length c0_1, .slice A0_2 l0_2.length c0_2, .slice A0_3 l0_3.length c0_3, .int .i64 a0_4, .int .i64 a0_5] 45 (0, 0)) (rb BK320.out)) : gb320 ≠ gb322)); have n6_ := Aside0.mk ((by rw [hg]; exact Nat.ne_of_gt (blk_lt (g := gb320) (o := .cells #[.string a0_0, .slice A0_1 l0_1.length c0_1, .slice A0_2 l0_2.length c0_2, .slice A0_3 l0_3.length c0_3, .int .i64 a0_4, .int .i64 a0_5] 45 (0, 0)) (rb BK320.out)) : gb322 ≠ gb320)); revert n0_ n1_ n2_ n3_ n4_ n5_ n6_; clear BK320 HB; intro BK320 HB BK322 GW322 GE322 NB320_322 NB322_320; clear hb hbox hg; have hnb14 := NB322_320.out; have hnc14 := NB320_322.out; have hcz15_0 : w13.cell? ⟨gb322, 0, none⟩ = some (.int .i64 0) := (blk_cell BK322.out 0).trans rfl; have hcz15_1 : w13.cell? ⟨gb322, 1, none⟩ = some (.int .i64 0) := (blk_cell BK322.out 1).trans rfl; have hfz15_0 := blk_frozen BK322.out 0; have hfz15_1 := blk_frozen BK322.out 1; have hcz16_0 : w13.cell? ⟨gb320, 0, none⟩ = some (.string a0_0) := (blk_cell BK320.out 0).trans rfl; have hcz16_1 : w13.cell? ⟨gb320, 1, none⟩ = some (.slice A0_1 l0_1.length c0_1) := (blk_cell BK320.out 1).trans rfl; have hcz16_2 : w13.cell? ⟨gb320, 2, none⟩ = some (.slice A0_2 l0_2.length c0_2) := (blk_cell BK320.out 2).trans rfl; have hcz16_3 : w13.cell? ⟨gb320, 3, none⟩ = some (.slice A0_3 l0_3.length c0_3) := (blk_cell BK320.out 3).trans rfl; have hcz16_4 : w13.cell? ⟨gb320, 4, none⟩ = some (.int .i64 a0_4) := (blk_cell BK320.out 4).trans rfl; have hcz16_5 : w13.cell? ⟨gb320, 5, none⟩ = some (.int .i64 a0_5) := (blk_cell BK320.out 5).trans rfl; have hfz16_0 := blk_frozen BK320.out 0; have hfz16_1 := blk_frozen BK320.out 1; have hfz16_2 := blk_frozen BK320.out 2; have hfz16_3 := blk_frozen BK320.out 3; have hfz16_4 := blk_frozen BK320.out 4; have hfz16_5 := blk_frozen BK320.out 5; have p323 : 0 ≤ (x15_1 : Int) := ode; have q323 : x15_1 < (l0_2.length : Int) := ode; obtain ⟨ad323, e323, hx323_0, hx323_1⟩ := at_T69 HR0_2.out x15_1 p323 q323; cases e323; have hn323_0 : ad323.block ≠ gb322 := Nat.ne_of_lt (Nat.lt_of_lt_of_le (by have := World.block_lt_of_cell? _ _ hx323_0; first | rwa [add_block] at this | exact this) GW322.out); have hn323_1 : ad323.block ≠ gb322 := Nat.ne_of_lt (Nat.lt_of_lt_of_le (by have := World.block_lt_of_cell? _ _ hx323_0; first | rwa [add_block] at this | exact this) GW322.out); replace hx323_0 := (HB.out.cell (World.block_lt_of_cell? w _ hx323_0)).trans hx323_0; replace hx323_1 := (HB.out.cell (World.block_lt_of_cell? w _ hx323_1)).trans hx323_1; replace hx323_0 := (cell_far (p := ⟨gb322, 0, none⟩) (by first | (rw [add_block]; exact hn323_0) | (show (Addr.add _ _).block ≠ _; rw [add_block]; exact hn323_0) | exact hn323_0) (.int .i64 ((rd_T32 l1 x15_1).f0))).trans hx323_0; replace hx323_1 := (cell_far (p := ⟨gb322, 0, none⟩) (by first | (rw [add_block]; exact hn323_0) | (show (Addr.add _ _).block ≠ _; rw [add_block]; exact hn323_0) | exact hn323_0) (.int .i64 ((rd_T32 l1 x15_1).f0))).trans hx323_1; replace hx323_0 := (cell_far (p := ⟨gb322, 1, none⟩) (by first | (rw [add_block]; exact hn323_1) | (show (Addr.add _ _).block ≠ _; rw [add_block]; exact hn323_1) | exact hn323_1) (.int .i64 ((rd_T32 l1 x15_1).f1))).trans hx323_0; replace hx323_1 := (cell_far (p := ⟨gb322, 1, none⟩) (by first | (rw [add_block]; exact hn323_1) | (show (Addr.add _ _).block ≠ _; rw [add_block]; exact hn323_1) | exact hn323_1) (.int .i64 ((rd_T32 l1 x15_1).f1))).trans hx323_1; clear hn323_0; clear hn323_1; replace p323 := eq_true p323; replace q323 := eq_true q323))
     go_roundg k1
     case measure => have := HK1.out; omega
     case rel => exact ⟨(wrap64 (x15_1 + 1)), (by first | rfl | (simp; done) | (simp [*]; done)), H', ⟨by have := HK1.out; omega⟩, ⟨by (with_reducible repeat (first | apply blk_drewN | apply blk_drew | apply blk_alloc)); refine blk_far ?_ NB320_322.out _; (with_reducible repeat (first | apply blk_drewN | apply blk_drew | apply blk_alloc)); refine blk_far ?_ NB320_322.out _; (with_reducible repeat (first | apply blk_drewN | apply blk_drew | apply blk_alloc)); exact BK320.out⟩, ⟨bs2 GE320.out GE322.out⟩⟩
    rw [if_neg c12] at H
    have c12b0 : (((rd_T32 l1 x15_1).f1) == 0) = false := beq_eq_false_iff_ne.mpr c12
    have c12b1 : (((rd_T32 l1 x15_1).f1) != 0) = true := bne_iff_ne.mpr c12
    by_cases c17 : ((rd_T32 l1 x15_1).f1) = 1
    rotate_left
    ·
     rw [if_neg c17] at H
     have c17b0 : (((rd_T32 l1 x15_1).f1) == 1) = false := beq_eq_false_iff_ne.mpr c17
     have c17b1 : (((rd_T32 l1 x15_1).f1) != 1) = true := bne_iff_ne.mpr c17
     obtain rfl := Option.some.inj H
     have p321 : 0 ≤ (x15_1 : Int) := ode
     have q321 : x15_1 < (l1.length : Int) := ode
     obtain ⟨ad321, e321, hx321_0, hx321_1⟩ := at_T32 HR1.out x15_1 p321 q321
     cases e321
     replace hx321_0 := (HB.out.cell (World.block_lt_of_cell? w _ hx321_0)).trans hx321_0
     replace hx321_1 := (HB.out.cell (World.block_lt_of_cell? w _ hx321_1)).trans hx321_1
     replace p321 := eq_true p321
     replace q321 := eq_true q321
     go_wp2_with (first | ((with_reducible refine gate_dst (N := 6) rfl ?_); refine box_event ?hg (N := 6) ?hd (cs := #[.int .i64 0, .int .i64 0]) (t := 32) ?hr ?_; (case hd => rfl); (case hg => rfl); (case hr => first | (go_simp; done) | (go_simp; rfl)); intro gb322 hg w22 hbox hb; have n0_ := Aside0.mk (blk_below (g := gb320) (o := .cells #[.string a0_0, .slice A0_1 l0_1.length c0_1, .slice A0_2 l0_2.length c0_2, .slice A0_3 l0_3.length c0_3, .int .i64 a0_4, .int .i64 a0_5] 45 (0, 0)) (rb BK320.out) hb); have n1_ := Aside0.mk (below_step (bs1 GE320.out) hb); have n2_ := Aside0.mk (hbox); have n3_ := Aside0.mk ((by rw [hg]; exact (below_size (bs1 GE320.out)) : w.heap.size ≤ gb322)); have n4_ := Aside0.mk ((by rw [hg]; exact (below_size (bs1 GE320.out)) : w.heap.size ≤ gb322)); have n5_ := Aside0.mk ((by rw [hg]; exact Nat.ne_of_lt (blk_lt (g := gb320) (o := .cells #[.string a0_0, .slice A0_1 l0_1.length c0_1, .slice A0_2 l0_2.length c0_2, .slice A0_3 l0_3.length c0_3, .int .i64 a0_4, .int .i64 a0_5] 45 (0, 0)) (rb BK320.out)) : gb320 ≠ gb322)); have n6_ := Aside0.mk ((by rw [hg]; exact Nat.ne_of_gt (blk_lt (g := gb320) (o := .cells #[.string a0_0, .slice A0_1 l0_1.length c0_1, .slice A0_2 l0_2.length c0_2, .slice A0_3 l0_3.length c0_3, .int .i64 a0_4, .int .i64 a0_5] 45 (0, 0)) (rb BK320.out)) : gb322 ≠ gb320)); revert n0_ n1_ n2_ n3_ n4_ n5_ n6_; clear BK320 HB; intro BK320 HB BK322 GW322 GE322 NB320_322 NB322_320; clear hb hbox hg; have hnb23 := NB322_320.out; have hnc23 := NB320_322.out; have hcz24_0 : w22.cell? ⟨gb322, 0, none⟩ = some (.int .i64 0) := (blk_cell BK322.out 0).trans rfl; have hcz24_1 : w22.cell? ⟨gb322, 1, none⟩ = some (.int .i64 0) := (blk_cell BK322.out 1).trans rfl; have hfz24_0 := blk_frozen BK322.out 0; have hfz24_1 := blk_frozen BK322.out 1; have hcz25_0 : w22.cell? ⟨gb320, 0, none⟩ = some (.string a0_0) := (blk_cell BK320.out 0).trans rfl; have hcz25_1 : w22.cell? ⟨gb320, 1, none⟩ = some (.slice A0_1 l0_1.length c0_1) := (blk_cell BK320.out 1).trans rfl; have hcz25_2 : w22.cell? ⟨gb320, 2, none⟩ = some (.slice A0_2 l0_2.length c0_2) := (blk_cell BK320.out 2).trans rfl; have hcz25_3 : w22.cell? ⟨gb320, 3, none⟩ = some (.slice A0_3 l0_3.length c0_3) := (blk_cell BK320.out 3).trans rfl; have hcz25_4 : w22.cell? ⟨gb320, 4, none⟩ = some (.int .i64 a0_4) := (blk_cell BK320.out 4).trans rfl; have hcz25_5 : w22.cell? ⟨gb320, 5, none⟩ = some (.int .i64 a0_5) := (blk_cell BK320.out 5).trans rfl; have hfz25_0 := blk_frozen BK320.out 0; have hfz25_1 := blk_frozen BK320.out 1; have hfz25_2 := blk_frozen BK320.out 2; have hfz25_3 := blk_frozen BK320.out 3; have hfz25_4 := blk_frozen BK320.out 4; have hfz25_5 := blk_frozen BK320.out 5; have p323 : 0 ≤ (x15_1 : Int) := ode; have q323 : x15_1 < (l0_2.length : Int) := ode; obtain ⟨ad323, e323, hx323_0, hx323_1⟩ := at_T69 HR0_2.out x15_1 p323 q323; cases e323; have hn323_0 : ad323.block ≠ gb322 := Nat.ne_of_lt (Nat.lt_of_lt_of_le (by have := World.block_lt_of_cell? _ _ hx323_0; first | rwa [add_block] at this | exact this) GW322.out); have hn323_1 : ad323.block ≠ gb322 := Nat.ne_of_lt (Nat.lt_of_lt_of_le (by have := World.block_lt_of_cell? _ _ hx323_0; first | rwa [add_block] at this | exact this) GW322.out); replace hx323_0 := (HB.out.cell (World.block_lt_of_cell? w _ hx323_0)).trans hx323_0; replace hx323_1 := (HB.out.cell (World.block_lt_of_cell? w _ hx323_1)).trans hx323_1; replace hx323_0 := (cell_far (p := ⟨gb322, 0, none⟩) (by first | (rw [add_block]; exact hn323_0) | (show (Addr.add _ _).block ≠ _; rw [add_block]; exact hn323_0) | exact hn323_0) (.int .i64 ((rd_T32 l1 x15_1).f0))).trans hx323_0; replace hx323_1 := (cell_far (p := ⟨gb322, 0, none⟩) (by first | (rw [add_block]; exact hn323_0) | (show (Addr.add _ _).block ≠ _; rw [add_block]; exact hn323_0) | exact hn323_0) (.int .i64 ((rd_T32 l1 x15_1).f0))).trans hx323_1; replace hx323_0 := (cell_far (p := ⟨gb322, 1, none⟩) (by first | (rw [add_block]; exact hn323_1) | (show (Addr.add _ _).block ≠ _; rw [add_block]; exact hn323_1) | exact hn323_1) (.int .i64 ((rd_T32 l1 x15_1).f1))).trans hx323_0; replace hx323_1 := (cell_far (p := ⟨gb322, 1, none⟩) (by first | (rw [add_block]; exact hn323_1) | (show (Addr.add _ _).block ≠ _; rw [add_block]; exact hn323_1) | exact hn323_1) (.int .i64 ((rd_T32 l1 x15_1).f1))).trans hx323_1; clear hn323_0; clear hn323_1; replace p323 := eq_true p323; replace q323 := eq_true q323))
     go_ret
     exact ⟨by first | rfl | (simp [errW_none, errW_some] <;> rfl) | (simp [*, errW_none, errW_some] <;> rfl), bs2 GE320.out GE322.out⟩
    rw [if_pos c17] at H
    have c17b0 : (((rd_T32 l1 x15_1).f1) == 1) = true := beq_iff_eq.mpr c17
    have c17b1 : (((rd_T32 l1 x15_1).f1) != 1) = false := bne_eq_false_iff_eq.mpr c17
    clear c17
    have H' := Aside0.mk H
    clear H
    have p321 : 0 ≤ (x15_1 : Int) := ode
    have q321 : x15_1 < (l1.length : Int) := ode
    obtain ⟨ad321, e321, hx321_0, hx321_1⟩ := at_T32 HR1.out x15_1 p321 q321
    cases e321
    replace hx321_0 := (HB.out.cell (World.block_lt_of_cell? w _ hx321_0)).trans hx321_0
    replace hx321_1 := (HB.out.cell (World.block_lt_of_cell? w _ hx321_1)).trans hx321_1
    replace p321 := eq_true p321
    replace q321 := eq_true q321
    go_wp2_with (first | ((with_reducible refine gate_dst (N := 6) rfl ?_); refine box_event ?hg (N := 6) ?hd (cs := #[.int .i64 0, .int .i64 0]) (t := 32) ?hr ?_; (case hd => rfl); (case hg => rfl); (case hr => first | (go_simp; done) | (go_simp; rfl)); intro gb322 hg w18 hbox hb; have n0_ := Aside0.mk (blk_below (g := gb320) (o := .cells #[.string a0_0, .slice A0_1 l0_1.length c0_1, .slice A0_2 l0_2.length c0_2, .slice A0_3 l0_3.length c0_3, .int .i64 a0_4, .int .i64 a0_5] 45 (0, 0)) (rb BK320.out) hb); have n1_ := Aside0.mk (below_step (bs1 GE320.out) hb); have n2_ := Aside0.mk (hbox); have n3_ := Aside0.mk ((by rw [hg]; exact (below_size (bs1 GE320.out)) : w.heap.size ≤ gb322)); have n4_ := Aside0.mk ((by rw [hg]; exact (below_size (bs1 GE320.out)) : w.heap.size ≤ gb322)); have n5_ := Aside0.mk ((by rw [hg]; exact Nat.ne_of_lt (blk_lt (g := gb320) (o := .cells #[.string a0_0, .slice A0_1 l0_1.length c0_1, .slice A0_2 l0_2.length c0_2, .slice A0_3 l0_3.length c0_3, .int .i64 a0_4, .int .i64 a0_5] 45 (0, 0)) (rb BK320.out)) : gb320 ≠ gb322)); have n6_ := Aside0.mk ((by rw [hg]; exact Nat.ne_of_gt (blk_lt (g := gb320) (o := .cells #[.string a0_0, .slice A0_1 l0_1.length c0_1, .slice A0_2 l0_2.length c0_2, .slice A0_3 l0_3.length c0_3, .int .i64 a0_4, .int .i64 a0_5] 45 (0, 0)) (rb BK320.out)) : gb322 ≠ gb320)); revert n0_ n1_ n2_ n3_ n4_ n5_ n6_; clear BK320 HB; intro BK320 HB BK322 GW322 GE322 NB320_322 NB322_320; clear hb hbox hg; have hnb19 := NB322_320.out; have hnc19 := NB320_322.out; have hcz20_0 : w18.cell? ⟨gb322, 0, none⟩ = some (.int .i64 0) := (blk_cell BK322.out 0).trans rfl; have hcz20_1 : w18.cell? ⟨gb322, 1, none⟩ = some (.int .i64 0) := (blk_cell BK322.out 1).trans rfl; have hfz20_0 := blk_frozen BK322.out 0; have hfz20_1 := blk_frozen BK322.out 1; have hcz21_0 : w18.cell? ⟨gb320, 0, none⟩ = some (.string a0_0) := (blk_cell BK320.out 0).trans rfl; have hcz21_1 : w18.cell? ⟨gb320, 1, none⟩ = some (.slice A0_1 l0_1.length c0_1) := (blk_cell BK320.out 1).trans rfl; have hcz21_2 : w18.cell? ⟨gb320, 2, none⟩ = some (.slice A0_2 l0_2.length c0_2) := (blk_cell BK320.out 2).trans rfl; have hcz21_3 : w18.cell? ⟨gb320, 3, none⟩ = some (.slice A0_3 l0_3.length c0_3) := (blk_cell BK320.out 3).trans rfl; have hcz21_4 : w18.cell? ⟨gb320, 4, none⟩ = some (.int .i64 a0_4) := (blk_cell BK320.out 4).trans rfl; have hcz21_5 : w18.cell? ⟨gb320, 5, none⟩ = some (.int .i64 a0_5) := (blk_cell BK320.out 5).trans rfl; have hfz21_0 := blk_frozen BK320.out 0; have hfz21_1 := blk_frozen BK320.out 1; have hfz21_2 := blk_frozen BK320.out 2; have hfz21_3 := blk_frozen BK320.out 3; have hfz21_4 := blk_frozen BK320.out 4; have hfz21_5 := blk_frozen BK320.out 5; have p323 : 0 ≤ (x15_1 : Int) := ode; have q323 : x15_1 < (l0_2.length : Int) := ode; obtain ⟨ad323, e323, hx323_0, hx323_1⟩ := at_T69 HR0_2.out x15_1 p323 q323; cases e323; have hn323_0 : ad323.block ≠ gb322 := Nat.ne_of_lt (Nat.lt_of_lt_of_le (by have := World.block_lt_of_cell? _ _ hx323_0; first | rwa [add_block] at this | exact this) GW322.out); have hn323_1 : ad323.block ≠ gb322 := Nat.ne_of_lt (Nat.lt_of_lt_of_le (by have := World.block_lt_of_cell? _ _ hx323_0; first | rwa [add_block] at this | exact this) GW322.out); replace hx323_0 := (HB.out.cell (World.block_lt_of_cell? w _ hx323_0)).trans hx323_0; replace hx323_1 := (HB.out.cell (World.block_lt_of_cell? w _ hx323_1)).trans hx323_1; replace hx323_0 := (cell_far (p := ⟨gb322, 0, none⟩) (by first | (rw [add_block]; exact hn323_0) | (show (Addr.add _ _).block ≠ _; rw [add_block]; exact hn323_0) | exact hn323_0) (.int .i64 ((rd_T32 l1 x15_1).f0))).trans hx323_0; replace hx323_1 := (cell_far (p := ⟨gb322, 0, none⟩) (by first | (rw [add_block]; exact hn323_0) | (show (Addr.add _ _).block ≠ _; rw [add_block]; exact hn323_0) | exact hn323_0) (.int .i64 ((rd_T32 l1 x15_1).f0))).trans hx323_1; replace hx323_0 := (cell_far (p := ⟨gb322, 1, none⟩) (by first | (rw [add_block]; exact hn323_1) | (show (Addr.add _ _).block ≠ _; rw [add_block]; exact hn323_1) | exact hn323_1) (.int .i64 ((rd_T32 l1 x15_1).f1))).trans hx323_0; replace hx323_1 := (cell_far (p := ⟨gb322, 1, none⟩) (by first | (rw [add_block]; exact hn323_1) | (show (Addr.add _ _).block ≠ _; rw [add_block]; exact hn323_1) | exact hn323_1) (.int .i64 ((rd_T32 l1 x15_1).f1))).trans hx323_1; clear hn323_0; clear hn323_1; replace p323 := eq_true p323; replace q323 := eq_true q323))
    go_roundg k1
    case measure => have := HK1.out; omega
    case rel => exact ⟨(wrap64 (x15_1 + 1)), (by first | rfl | (simp; done) | (simp [*]; done)), H', ⟨by have := HK1.out; omega⟩, ⟨by (with_reducible repeat (first | apply blk_drewN | apply blk_drew | apply blk_alloc)); refine blk_far ?_ NB320_322.out _; (with_reducible repeat (first | apply blk_drewN | apply blk_drew | apply blk_alloc)); refine blk_far ?_ NB320_322.out _; (with_reducible repeat (first | apply blk_drewN | apply blk_drew | apply blk_alloc)); exact BK320.out⟩, ⟨bs2 GE320.out GE322.out⟩⟩
 ·
  rw [if_neg c3] at H
  have c3b0 : ((l1.length : Int) == (l0_2.length : Int)) = false := beq_eq_false_iff_ne.mpr c3
  have c3b1 : ((l1.length : Int) != (l0_2.length : Int)) = true := bne_iff_ne.mpr c3
  have c3b2 : (l1.length == l0_2.length) = false := by first | simpa using c3 | (simp at c3 ⊢; omega)
  obtain rfl := Option.some.inj H
  go_enter Tryd.func22, Tryd.ntmps22
  go_wp2_with (first | ((with_reducible refine gate_dst (N := 2) rfl ?_); refine box_event ?hg (N := 2) ?hd (cs := #[.string a0_0, .slice A0_1 l0_1.length c0_1, .slice A0_2 l0_2.length c0_2, .slice A0_3 l0_3.length c0_3, .int .i64 a0_4, .int .i64 a0_5]) (t := 45) ?hr ?_; (case hd => rfl); (case hg => rfl); (case hr => first | (go_simp; done) | (go_simp; rfl)); intro gb320 hg w39 hbox hb; have n0_ := Aside0.mk (below_step bl hb); have n1_ := Aside0.mk (hbox); have n2_ := Aside0.mk ((by rw [hg]; exact (below_size bl) : w.heap.size ≤ gb320)); have n3_ := Aside0.mk ((by rw [hg]; exact (below_size bl) : w.heap.size ≤ gb320)); revert n0_ n1_ n2_ n3_; clear HB; intro HB BK320 GW320 GE320; clear hb hbox hg; have hcz40_0 : w39.cell? ⟨gb320, 0, none⟩ = some (.string a0_0) := (blk_cell BK320.out 0).trans rfl; have hcz40_1 : w39.cell? ⟨gb320, 1, none⟩ = some (.slice A0_1 l0_1.length c0_1) := (blk_cell BK320.out 1).trans rfl; have hcz40_2 : w39.cell? ⟨gb320, 2, none⟩ = some (.slice A0_2 l0_2.length c0_2) := (blk_cell BK320.out 2).trans rfl; have hcz40_3 : w39.cell? ⟨gb320, 3, none⟩ = some (.slice A0_3 l0_3.length c0_3) := (blk_cell BK320.out 3).trans rfl; have hcz40_4 : w39.cell? ⟨gb320, 4, none⟩ = some (.int .i64 a0_4) := (blk_cell BK320.out 4).trans rfl; have hcz40_5 : w39.cell? ⟨gb320, 5, none⟩ = some (.int .i64 a0_5) := (blk_cell BK320.out 5).trans rfl; have hfz40_0 := blk_frozen BK320.out 0; have hfz40_1 := blk_frozen BK320.out 1; have hfz40_2 := blk_frozen BK320.out 2; have hfz40_3 := blk_frozen BK320.out 3; have hfz40_4 := blk_frozen BK320.out 4; have hfz40_5 := blk_frozen BK320.out 5))
  go_ret
  exact ⟨by first | rfl | (simp [errW_none, errW_some] <;> rfl) | (simp [*, errW_none, errW_some] <;> rfl), bs1 GE320.out⟩

end Go.Proofs.YtjjbdgngncgikaaDoor.R
