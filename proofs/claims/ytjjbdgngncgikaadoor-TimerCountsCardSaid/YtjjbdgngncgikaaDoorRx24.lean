-- Written by this claim's own program out of the translation; not trusted: Lean checks it.
import Derived.Test.YtjjbdgngncgikaaDoorRx0
import Derived.Test.YtjjbdgngncgikaaDoorRx1
import Derived.Test.YtjjbdgngncgikaaDoorRx15
import Derived.Test.YtjjbdgngncgikaaDoorRx18
import Derived.Test.YtjjbdgngncgikaaDoorRx22
import Derived.Test.YtjjbdgngncgikaaDoorRx23
namespace Go.Proofs.YtjjbdgngncgikaaDoor.R
open Go.RowKit Go.Proofs.YtjjbdgngncgikaaDoorW.PrintWords Go.Proofs.YtjjbdgngncgikaaDoorW.PrintLast Go.Proofs.YtjjbdgngncgikaaDoorW.PrintMore
attribute [local go_sem] max2_int min2_int max_two min_two max_three min_three max_four min_four   -- for this text's walks alone
set_option linter.unusedVariables false
set_option linter.unusedSimpArgs false

attribute [local go_sem high] eqA32
/-! ### timer_Settle: function 12 -/
def timer_Settle.l0 : Nat → ByteArray → List Int → List Int → List (S32) → List Int → Int → Int → Int → Int → Option (Int × Int × Int × Int)
 | 0, _, _, _, _, _, _, _, _, _ => none
 | k + 1, x0, x1, x2, x3, x11, x14, x15, x402000, x402001 => (slices_Equal_int64_int64.f k x11 x2).bind fun t402 => (if t402 = true then (some (x402000, x402001, x14, 0)) else ((slices_Clone_int64_int64.f x11).bind fun t403 => ((timer_step.f k x0 x1 x11 x3 1).bind fun bt406 => (if (!(bt406.1 == x402000) || (!(bt406.2.1 == x402001))) = true then (timer_Settle.l0 k x0 x1 t403 x3 bt406.2.2 x15 (wrap64 (x15 + 1)) bt406.1 bt406.2.1) else (timer_Settle.l0 k x0 x1 t403 x3 bt406.2.2 x14 (wrap64 (x15 + 1)) x402000 x402001)))))
def timer_Settle.f (k : Nat) (a0 : ByteArray) (l1 : List Int) (l2 : List Int) (l3 : List (S32)) : Option (Int × Int × Int × Int) := (timer_Step.f k a0 l1 l2 l3 1).bind fun bt395 => (if bt395.2.2.2 = 0 then (timer_Settle.l0 k a0 l1 l2 l3 bt395.1 1 2 bt395.2.1 bt395.2.2.1) else (some (0, 0, 0, bt395.2.2.2)))
theorem timer_Settle.mono_l : ∀ k, (∀ y0 y1 y2 y3 y4 y5 y6 y7 y8, LeO (timer_Settle.l0 k y0 y1 y2 y3 y4 y5 y6 y7 y8) (timer_Settle.l0 (k + 1) y0 y1 y2 y3 y4 y5 y6 y7 y8))
 | 0 => fun _ _ _ _ _ _ _ _ _ r h => by simp [timer_Settle.l0] at h
 | k + 1 => by
  have ih0 := timer_Settle.mono_l k
  ·
   intro y0 y1 y2 y3 y4 y5 y6 y7 y8
   unfold timer_Settle.l0
   repeat' first
   | (with_reducible exact ih0 _ _ _ _ _ _ _ _ _)
   | (with_reducible exact slices_Equal_int64_int64.mono _ _ _)
   | (with_reducible exact timer_Step.mono _ _ _ _ _ _)
   | (with_reducible exact timer_step.mono _ _ _ _ _ _)
   | (with_reducible exact LeO.refl _)
   | (with_reducible exact LeO.none _)
   | (with_reducible refine LeO.ite ?_ ?_)
   | (with_reducible refine LeO.bind ?_ (fun _ => ?_))
   | exact ih0 _ _ _ _ _ _ _ _ _
   | exact slices_Equal_int64_int64.mono _ _ _
   | exact timer_Step.mono _ _ _ _ _ _
   | exact timer_step.mono _ _ _ _ _ _
   | exact LeO.none _
   | refine LeO.ite ?_ ?_
   | refine LeO.bind ?_ (fun _ => ?_)
theorem timer_Settle.mono : ∀ a0 a1 a2 a3 k, LeO (timer_Settle.f k a0 a1 a2 a3) (timer_Settle.f (k + 1) a0 a1 a2 a3) := by
 intro a0 a1 a2 a3 k
 have ih0 := timer_Settle.mono_l k
 unfold timer_Settle.f
 repeat' first
   | (with_reducible exact ih0 _ _ _ _ _ _ _ _ _)
   | (with_reducible exact slices_Equal_int64_int64.mono _ _ _)
   | (with_reducible exact timer_Step.mono _ _ _ _ _ _)
   | (with_reducible exact timer_step.mono _ _ _ _ _ _)
   | (with_reducible exact LeO.refl _)
   | (with_reducible exact LeO.none _)
   | (with_reducible refine LeO.ite ?_ ?_)
   | (with_reducible refine LeO.bind ?_ (fun _ => ?_))
   | exact ih0 _ _ _ _ _ _ _ _ _
   | exact slices_Equal_int64_int64.mono _ _ _
   | exact timer_Step.mono _ _ _ _ _ _
   | exact timer_step.mono _ _ _ _ _ _
   | exact LeO.none _
   | refine LeO.ite ?_ ?_
   | refine LeO.bind ?_ (fun _ => ?_)
set_option maxHeartbeats 8000000 in
set_option maxRecDepth 100000 in
theorem timer_Settle.calls (k : Nat) (a0 : ByteArray) (A1 : Option Addr) (c1 : Nat) (l1 : List Int) (P2_ : Nat → Prop) (A2 : Option Addr) (c2 : Nat) (l2 : List Int) (A3 : Option Addr) (c3 : Nat) (l3 : List (S32)) (r1 : Int) (r2 : Int) (r3 : Int) (r4 : Int) (w : World) (hr1 : Kd.C (Kd.int .i64) w A1 l1.length l1) (hc1 : l1.length ≤ c1) (hs2 : Kd.V (Kd.int .i64) 2 w w.heap.size (fun k_ => P2_ k_) (.slice A2 l2.length c2) l2) (hr3 : Kd.C k32 w A3 l3.length l3) (hc3 : l3.length ≤ c3) (hG : GW w) (h : timer_Settle.f k a0 l1 l2 l3 = some (r1, r2, r3, r4)) :
  Calls Tryd.prog 12 #[.string a0, .slice A1 l1.length c1, .slice A2 l2.length c2, .slice A3 l3.length c3] w fun e w' => e = .returned (.tuple #[.agg #[.int .i64 r1, .int .i64 r2], .int .i64 r3, .int .i64 r4]) ∧ Below w.heap.size w w' := by
 have hu32 := Tryd.underlying32
 have HG := Aside0.mk hG
 clear hG
 have HR1 := Aside0.mk hr1
 have HC1 := Aside0.mk hc1
 clear hr1 hc1
 have HO2 := Aside0.mk (show Kd.V (Kd.int .i64) 2 w w.heap.size (fun k_ => (P2_ k_ ∨ w.heap.size ≤ k_)) (.slice A2 l2.length c2) l2 from Kd.V_mono hs2 (fun k_ hk => .inl hk))
 have HR3 := Aside0.mk hr3
 have HC3 := Aside0.mk hc3
 clear hr3 hc3
 have HB := Aside0.mk (Below.refl w.heap.size w)
 have H : ((timer_Step.f k a0 l1 l2 l3 1).bind fun bt395 => (if bt395.2.2.2 = 0 then (timer_Settle.l0 k a0 l1 l2 l3 bt395.1 1 2 bt395.2.1 bt395.2.2.1) else (some (0, 0, 0, bt395.2.2.2)))) = some (r1, r2, r3, r4) := h
 clear h
 replace H := Option.bind_eq_some_iff.mp H
 obtain ⟨⟨t395, t398, t399, t400⟩, A50, H⟩ := H
 (try dsimp only at H)
 have A5 := Aside0.mk A50
 clear A50
 by_cases c6 : t400 = 0
 ·
  rw [if_pos c6] at H
  have c6b0 : (t400 == 0) = true := beq_iff_eq.mpr c6
  have c6b1 : (t400 != 0) = false := bne_eq_false_iff_eq.mpr c6
  clear c6
  have H' := Aside0.mk H
  clear H
  go_enter Tryd.func12, Tryd.ntmps12
  go_wp2_with (first | ((with_reducible refine gate_dst (N := 8) rfl ?_); refine box_event ?hg (N := 8) ?hd (cs := #[.int .i64 0, .int .i64 0]) (t := 32) ?hr ?_; (case hd => rfl); (case hg => rfl); (case hr => first | (go_simp; done) | (go_simp; rfl)); intro gb394 hg w7 hbox hb; have n0_ := Aside0.mk (Kd.V_below (Kd.V_elderB (by (with_reducible repeat (first | apply Kd.V_alloc | apply Kd.V_drewN | apply Kd.V_drew)); exact HO2.out) gb394 (Nat.le_of_eq hg.symm)) hb); have n1_ := Aside0.mk (below_step bl hb); have n2_ := Aside0.mk (hbox); have n3_ := Aside0.mk ((by rw [hg]; exact (below_size bl) : w.heap.size ≤ gb394)); have n4_ := Aside0.mk ((by rw [hg]; exact (below_size bl) : w.heap.size ≤ gb394)); revert n0_ n1_ n2_ n3_ n4_; clear HO2 HB; intro HO2 HB BK394 GW394 GE394; clear hb hbox hg) | ((with_reducible refine gate_callee (f := 15) rfl ?_); refine goesL_ (some 22) rfl rfl Tryd.func15 (by kernel_rfl) rfl #[.string a0, .slice A1 l1.length c1, .slice A2 l2.length c2, .slice A3 l3.length c3, .int .i64 1] rfl aeq ?_; (with_reducible refine (timer_Step.calls k a0 _ _ l1 _ _ l2 _ _ l3 1 t395 t398 t399 t400 _ ?side1 ?side2 ?side3 ?side4 ?side5 ?side6 ?side7 A5.out).mono ?_); (case side1 => repeat (first | exact (Kd.C_below HR1.out HB.out) | (with_reducible refine Kd.C_alloc ?_ _) | (with_reducible refine Kd.C_drewN ?_ _) | (with_reducible refine Kd.C_drew ?_))); (case side2 => exact HC1.out); (case side3 => repeat (first | exact (Kd.V_reads' HO2.out).2.2 | (with_reducible refine Kd.C_alloc ?_ _) | (with_reducible refine Kd.C_drewN ?_ _) | (with_reducible refine Kd.C_drew ?_))); (case side4 => exact (Kd.V_reads' HO2.out).2.1); (case side5 => repeat (first | exact (Kd.C_below HR3.out HB.out) | (with_reducible refine Kd.C_alloc ?_ _) | (with_reducible refine Kd.C_drewN ?_ _) | (with_reducible refine Kd.C_drew ?_))); (case side6 => exact HC3.out); (case side7 => exact GW.below HG.out (bs1 GE394.out)); rintro e w8 ⟨v396, rfl, ho0, hb⟩; refine ⟨_, rfl, ?_⟩; have n0_ := Aside0.mk (Kd.V_elder' (by (with_reducible repeat (first | apply Kd.V_alloc | apply Kd.V_drewN | apply Kd.V_drew)); exact HO2.out) (Kd.R_base ho0) hb); have n1_ := Aside0.mk (Kd.R_lower (Kd.R_newM (M := fun k_ => (w.heap.size ≤ k_)) ho0 (below_size (bs1 GE394.out)) (fun k_ h_ => h_)) (below_size (bs1 GE394.out))); have n2_ := Aside0.mk (blk_below (g := gb394) (o := .cells #[.int .i64 0, .int .i64 0] 32 (0, 0)) (rb BK394.out) hb); have n3_ := Aside0.mk (below_step (bs1 GE394.out) hb); revert n0_ n1_ n2_ n3_; clear HO2 BK394 HB; intro HO2 HO397 BK394 HB; (try clear hb); (try clear hb2); (try clear hk); (try clear hi); (try clear ho0)) | ((with_reducible refine gate_dst (N := 12) rfl ?_); refine box_event ?hg (N := 12) ?hd (cs := #[.int .i64 0, .int .i64 0]) (t := 32) ?hr ?_; (case hd => rfl); (case hg => rfl); (case hr => first | (go_simp; done) | (go_simp; rfl)); intro gb401 hg w9 hbox hb; have n0_ := Aside0.mk (Kd.V_below (Kd.V_elderB (by (with_reducible repeat (first | apply Kd.V_alloc | apply Kd.V_drewN | apply Kd.V_drew)); exact HO2.out) gb401 (Nat.le_of_eq hg.symm)) hb); have n1_ := Aside0.mk (Kd.R_below (rr HO397.out) hb); have n2_ := Aside0.mk (blk_below (g := gb394) (o := .cells #[.int .i64 0, .int .i64 0] 32 (0, 0)) (rb BK394.out) hb); have n3_ := Aside0.mk (below_step (bs1 GE394.out) hb); have n4_ := Aside0.mk (hbox); have n5_ := Aside0.mk ((by rw [hg]; exact (below_size (bs1 GE394.out)) : w.heap.size ≤ gb401)); have n6_ := Aside0.mk ((by rw [hg]; exact (below_size (bs1 GE394.out)) : w.heap.size ≤ gb401)); have n7_ := Aside0.mk ((by rw [hg]; exact Nat.ne_of_lt (blk_lt (g := gb394) (o := .cells #[.int .i64 0, .int .i64 0] 32 (0, 0)) (rb BK394.out)) : gb394 ≠ gb401)); have n8_ := Aside0.mk ((by rw [hg]; exact Nat.ne_of_gt (blk_lt (g := gb394) (o := .cells #[.int .i64 0, .int .i64 0] 32 (0, 0)) (rb BK394.out)) : gb401 ≠ gb394)); revert n0_ n1_ n2_ n3_ n4_ n5_ n6_ n7_ n8_; clear HO2 HO397 BK394 HB; intro HO2 HO397 BK394 HB BK401 GW401 GE401 NB394_401 NB401_394; clear hb hbox hg; have hnb10 := NB401_394.out; have hnc10 := NB394_401.out; have hcz11_0 : w9.cell? ⟨gb401, 0, none⟩ = some (.int .i64 0) := (blk_cell BK401.out 0).trans rfl; have hcz11_1 : w9.cell? ⟨gb401, 1, none⟩ = some (.int .i64 0) := (blk_cell BK401.out 1).trans rfl; have hfz11_0 := blk_frozen BK401.out 0; have hfz11_1 := blk_frozen BK401.out 1))
  go_loopg [2, 14, 15] k (fun kq v2 v14 v15 w' => ∃ (x2_1 : List Int) (x11_1 : List Int) (x14_1 : Int) (x15_1 : Int) (x402000_1 : Int) (x402001_1 : Int), v14 = .int .i64 x14_1 ∧ v15 = .int .i64 x15_1 ∧ Aside0 (timer_Settle.l0 kq a0 l1 x2_1 l3 x11_1 x14_1 x15_1 x402000_1 x402001_1 = some (r1, r2, r3, r4)) ∧ Aside0 (kq ≤ k) ∧ Aside0 (Kd.V (Kd.int .i64) 2 w' w.heap.size (fun k_ => (P2_ k_ ∨ w.heap.size ≤ k_) ∧ some k_ ≠ (v396 : Value).ownBlock ∧ k_ ≠ gb394 ∧ k_ ≠ gb401) v2 x2_1) ∧ Aside0 (Kd.R (Kd.int .i64) 2 w' w.heap.size (fun k_ => (w.heap.size ≤ k_)) v396 x11_1) ∧ Aside0 (w'.heap[gb394]? = some (.cells #[.int .i64 0, .int .i64 0] 32 (0, 0))) ∧ Aside0 (w'.heap[gb401]? = some (.cells #[.int .i64 x402000_1, .int .i64 x402001_1] 32 (0, 0))) ∧ Aside0 (Below w.heap.size w w'))
  case atStart => exact ⟨(l2), (t395), (1), (2), (t398), (t399), (by first | rfl | (simp; done) | (simp [*]; done)), (by first | rfl | (simp; done) | (simp [*]; done)), H', ⟨Nat.le_refl _⟩, ⟨by (with_reducible repeat (first | apply Kd.V_alloc | apply Kd.V_drewN | apply Kd.V_drew)); exact Kd.V_mono (Kd.V_far (p := ⟨gb401, 1, none⟩) (Kd.V_far (p := ⟨gb401, 0, none⟩) (Kd.V_mono HO2.out (fun k_ hk => (⟨hk, hk.2⟩ : _ ∧ k_ ≠ gb401))) (fun _ hk => hk.2) (.int .i64 t398)) (fun _ hk => hk.2) (.int .i64 t399)) (fun _ hk => ⟨hk.1.1.1.1, ⟨hk.1.1.2, ⟨hk.1.1.1.2, hk.1.2⟩⟩⟩)⟩, ⟨rr (Kd.R_mono (Kd.R_far (p := ⟨gb401, 1, none⟩) (Kd.R_far (p := ⟨gb401, 0, none⟩) (Kd.R_types HO397.out BK401.out (by decide)) (fun _ hk => hk.2) (.int .i64 t398)) (fun _ hk => hk.2) (.int .i64 t399)) (fun _ hk => hk.1.1))⟩, ⟨by (with_reducible repeat (first | apply blk_drewN | apply blk_drew | apply blk_alloc)); refine blk_far ?_ NB394_401.out _; (with_reducible repeat (first | apply blk_drewN | apply blk_drew | apply blk_alloc)); refine blk_far ?_ NB394_401.out _; (with_reducible repeat (first | apply blk_drewN | apply blk_drew | apply blk_alloc)); exact BK394.out⟩, ⟨by (with_reducible repeat (first | apply blk_drewN | apply blk_drew | apply blk_alloc)); refine blk_put (cs := #[.int .i64 t398, .int .i64 0]) ?_ 1 _ rfl; (with_reducible repeat (first | apply blk_drewN | apply blk_drew | apply blk_alloc)); refine blk_put (cs := #[.int .i64 0, .int .i64 0]) ?_ 0 _ rfl; (with_reducible repeat (first | apply blk_drewN | apply blk_drew | apply blk_alloc)); exact BK401.out⟩, ⟨bs2 GE394.out GE401.out⟩⟩
  case round =>
   clear H'
   try clear c1
   try clear c2
   try clear p2
   try clear c3
   try clear c6
   try clear c6b0
   try clear c6b1
   try clear c10
   try clear hcz11_0
   try clear hcz11_1
   try clear hfz11_0
   try clear hfz11_1
   obtain ⟨x2_1, x11_1, x14_1, x15_1, x402000_1, x402001_1, rfl, rfl, HA, HK1, HO_2, HO_11, BK394, BK401, HB⟩ := hrel
   cases gk with
   | zero => exact absurd HA.out (by simp [timer_Settle.l0])
   | succ k1 =>
    have H := HA.out
    clear HA
    simp only [timer_Settle.l0] at H
    replace H := Option.bind_eq_some_iff.mp H
    obtain ⟨t402, A120, H⟩ := H
    (try dsimp only at H)
    have A12 := Aside0.mk A120
    clear A120
    by_cases c13 : t402 = true
    ·
     subst c13
     rw [if_pos rfl] at H
     simp only [Option.some.injEq, Prod.mk.injEq] at H
     obtain ⟨rfl, rfl, rfl, rfl⟩ := H
     obtain ⟨Ao14, co14, eo14⟩ := Kd.R_slice HO_11.out
     subst eo14
     obtain ⟨Ao15, co15, eo15⟩ := Kd.V_slice HO_2.out
     subst eo15
     go_wp2_with (first | ((with_reducible refine gate_callee (f := 16) rfl ?_); refine goesL_ (some 32) rfl rfl Tryd.func16 (by kernel_rfl) rfl #[.slice Ao14 x11_1.length co14, .slice Ao15 x2_1.length co15] rfl aeq ?_; (with_reducible refine (slices_Equal_int64_int64.calls k1 _ _ x11_1 _ _ x2_1 true _ ?side1 ?side2 ?side3 ?side4 A12.out).mono ?_); (case side1 => repeat (first | exact (Kd.R_reads' HO_11.out).2.2 | (with_reducible refine Kd.C_alloc ?_ _) | (with_reducible refine Kd.C_drewN ?_ _) | (with_reducible refine Kd.C_drew ?_))); (case side2 => exact (Kd.R_reads' HO_11.out).2.1); (case side3 => repeat (first | exact (Kd.V_reads' HO_2.out).2.2 | (with_reducible refine Kd.C_alloc ?_ _) | (with_reducible refine Kd.C_drewN ?_ _) | (with_reducible refine Kd.C_drew ?_))); (case side4 => exact (Kd.V_reads' HO_2.out).2.1); rintro e w' ⟨rfl, ⟨nd, rfl⟩⟩; refine ⟨_, rfl, ?_⟩; (try (rw [drewN_self wr]; generalize hq_ : World.drewN wr _ = wr; have n0_ : Aside0 (Kd.R (Kd.int .i64) 2 wr w.heap.size (fun k_ => (w.heap.size ≤ k_)) (.slice Ao14 x11_1.length co14) x11_1) := ⟨by rw [← hq_]; exact (rr HO_11.out)⟩; have n1_ : Aside0 (Kd.V (Kd.int .i64) 2 wr w.heap.size (fun k_ => (P2_ k_ ∨ w.heap.size ≤ k_) ∧ some k_ ≠ (.slice Ao14 x11_1.length co14 : Value).ownBlock ∧ k_ ≠ gb394 ∧ k_ ≠ gb401) (.slice Ao15 x2_1.length co15) x2_1) := ⟨by rw [← hq_]; exact (by (with_reducible repeat (first | apply Kd.V_alloc | apply Kd.V_drewN | apply Kd.V_drew)); exact HO_2.out)⟩; have n2_ : Aside0 (wr.heap[gb394]? = some (.cells #[.int .i64 0, .int .i64 0] 32 (0, 0))) := ⟨by rw [← hq_]; exact (rb BK394.out)⟩; have n3_ : Aside0 (wr.heap[gb401]? = some (.cells #[.int .i64 x402000_1, .int .i64 x402001_1] 32 (0, 0))) := ⟨by rw [← hq_]; exact (rb BK401.out)⟩; have n4_ : Aside0 (Below w.heap.size w wr) := ⟨by rw [← hq_]; exact (bs2 GE394.out GE401.out)⟩; clear HO_11 HO_2 BK394 BK401 HB hq_; have HO_11 := n0_; have HO_2 := n1_; have BK394 := n2_; have BK401 := n3_; have HB := n4_; clear n0_ n1_ n2_ n3_ n4_)); have hnb16 := NB401_394.out; have hnc16 := NB394_401.out; have hcz17_0 : wr.cell? ⟨gb401, 0, none⟩ = some (.int .i64 x402000_1) := (blk_cell BK401.out 0).trans rfl; have hcz17_1 : wr.cell? ⟨gb401, 1, none⟩ = some (.int .i64 x402001_1) := (blk_cell BK401.out 1).trans rfl; have hfz17_0 := blk_frozen BK401.out 0; have hfz17_1 := blk_frozen BK401.out 1; have hcz18_0 : wr.cell? ⟨gb394, 0, none⟩ = some (.int .i64 0) := (blk_cell BK394.out 0).trans rfl; have hcz18_1 : wr.cell? ⟨gb394, 1, none⟩ = some (.int .i64 0) := (blk_cell BK394.out 1).trans rfl; have hfz18_0 := blk_frozen BK394.out 0; have hfz18_1 := blk_frozen BK394.out 1))
     refine bodyPost_ret (results_ctt rfl _ _ gb394 32 #[.int .i64 x402000_1, .int .i64 x402001_1] (0, 0) _ rfl (by (with_reducible repeat (first | apply blk_drewN | apply blk_drew | apply blk_alloc)); refine blk_put (cs := #[.int .i64 x402000_1, .int .i64 0]) ?_ 1 _ rfl; (with_reducible repeat (first | apply blk_drewN | apply blk_drew | apply blk_alloc)); refine blk_put (cs := #[.int .i64 0, .int .i64 0]) ?_ 0 _ rfl; (with_reducible repeat (first | apply blk_drewN | apply blk_drew | apply blk_alloc)); exact BK394.out) Tryd.underlying32 rfl (by kernel_rfl)) rfl ?_
     exact ⟨by first | rfl | (simp [errW_none, errW_some] <;> rfl) | (simp [*, errW_none, errW_some] <;> rfl), bs2 GE394.out GE401.out⟩
    replace c13 := Bool.eq_false_iff.mpr c13
    subst c13
    rw [if_neg (show ¬ (false = true) by decide)] at H
    replace H := Option.bind_eq_some_iff.mp H
    obtain ⟨t403, A190, H⟩ := H
    (try dsimp only at H)
    have A19 := Aside0.mk A190
    clear A190
    replace H := Option.bind_eq_some_iff.mp H
    obtain ⟨⟨t406, t407, t408⟩, A200, H⟩ := H
    (try dsimp only at H)
    have A20 := Aside0.mk A200
    clear A200
    by_cases c21 : (!(t406 == x402000_1) || (!(t407 == x402001_1))) = true
    rotate_left
    ·
     rw [if_neg c21] at H
     have c21b0 : (!(t406 == x402000_1) || (!(t407 == x402001_1))) = false := by simpa using c21
     clear c21
     have H' := Aside0.mk H
     clear H
     obtain ⟨Ao36, co36, eo36⟩ := Kd.R_slice HO_11.out
     subst eo36
     obtain ⟨Ao37, co37, eo37⟩ := Kd.V_slice HO_2.out
     subst eo37
     go_wp2_with (first | ((with_reducible refine gate_callee (f := 16) rfl ?_); refine goesL_ (some 32) rfl rfl Tryd.func16 (by kernel_rfl) rfl #[.slice Ao36 x11_1.length co36, .slice Ao37 x2_1.length co37] rfl aeq ?_; (with_reducible refine (slices_Equal_int64_int64.calls k1 _ _ x11_1 _ _ x2_1 false _ ?side1 ?side2 ?side3 ?side4 A12.out).mono ?_); (case side1 => repeat (first | exact (Kd.R_reads' HO_11.out).2.2 | (with_reducible refine Kd.C_alloc ?_ _) | (with_reducible refine Kd.C_drewN ?_ _) | (with_reducible refine Kd.C_drew ?_))); (case side2 => exact (Kd.R_reads' HO_11.out).2.1); (case side3 => repeat (first | exact (Kd.V_reads' HO_2.out).2.2 | (with_reducible refine Kd.C_alloc ?_ _) | (with_reducible refine Kd.C_drewN ?_ _) | (with_reducible refine Kd.C_drew ?_))); (case side4 => exact (Kd.V_reads' HO_2.out).2.1); rintro e w' ⟨rfl, ⟨nd, rfl⟩⟩; refine ⟨_, rfl, ?_⟩; (try (rw [drewN_self wr]; generalize hq_ : World.drewN wr _ = wr; have n0_ : Aside0 (Kd.R (Kd.int .i64) 2 wr w.heap.size (fun k_ => (w.heap.size ≤ k_)) (.slice Ao36 x11_1.length co36) x11_1) := ⟨by rw [← hq_]; exact (rr HO_11.out)⟩; have n1_ : Aside0 (Kd.V (Kd.int .i64) 2 wr w.heap.size (fun k_ => (P2_ k_ ∨ w.heap.size ≤ k_) ∧ some k_ ≠ (.slice Ao36 x11_1.length co36 : Value).ownBlock ∧ k_ ≠ gb394 ∧ k_ ≠ gb401) (.slice Ao37 x2_1.length co37) x2_1) := ⟨by rw [← hq_]; exact (by (with_reducible repeat (first | apply Kd.V_alloc | apply Kd.V_drewN | apply Kd.V_drew)); exact HO_2.out)⟩; have n2_ : Aside0 (wr.heap[gb394]? = some (.cells #[.int .i64 0, .int .i64 0] 32 (0, 0))) := ⟨by rw [← hq_]; exact (rb BK394.out)⟩; have n3_ : Aside0 (wr.heap[gb401]? = some (.cells #[.int .i64 x402000_1, .int .i64 x402001_1] 32 (0, 0))) := ⟨by rw [← hq_]; exact (rb BK401.out)⟩; have n4_ : Aside0 (Below w.heap.size w wr) := ⟨by rw [← hq_]; exact (bs2 GE394.out GE401.out)⟩; clear HO_11 HO_2 BK394 BK401 HB hq_; have HO_11 := n0_; have HO_2 := n1_; have BK394 := n2_; have BK401 := n3_; have HB := n4_; clear n0_ n1_ n2_ n3_ n4_))) | ((with_reducible refine gate_callee (f := 17) rfl ?_); refine goesL_ (some 37) rfl rfl Tryd.func17 (by kernel_rfl) rfl #[.slice Ao36 x11_1.length co36] rfl aeq ?_; (with_reducible refine (slices_Clone_int64_int64.calls _ _ x11_1 t403 _ ?side1 ?side2 A19.out).mono ?_); (case side1 => repeat (first | exact (Kd.R_reads' HO_11.out).2.2 | (with_reducible refine Kd.C_alloc ?_ _) | (with_reducible refine Kd.C_drewN ?_ _) | (with_reducible refine Kd.C_drew ?_))); (case side2 => exact (Kd.R_reads' HO_11.out).2.1); rintro e w38 ⟨v404, rfl, ho0, hb⟩; refine ⟨_, rfl, ?_⟩; have n0_ := Aside0.mk (Kd.V_elder' (by (with_reducible repeat (first | apply Kd.V_alloc | apply Kd.V_drewN | apply Kd.V_drew)); exact HO_2.out) (Kd.R_base ho0) hb); have n1_ := Aside0.mk (Kd.R_elder' (rr HO_11.out) (Kd.R_base ho0) hb); have n2_ := Aside0.mk (Kd.R_lower (Kd.R_new' (Kd.R_newM (M := fun k_ => (w.heap.size ≤ k_)) ho0 (below_size (bs2 GE394.out GE401.out)) (fun k_ h_ => h_)) (Kd.R_lt (rr HO_11.out))) (below_size (bs2 GE394.out GE401.out))); have n3_ := Aside0.mk (blk_below (g := gb394) (o := .cells #[.int .i64 0, .int .i64 0] 32 (0, 0)) (rb BK394.out) hb); have n4_ := Aside0.mk (blk_below (g := gb401) (o := .cells #[.int .i64 x402000_1, .int .i64 x402001_1] 32 (0, 0)) (rb BK401.out) hb); have n5_ := Aside0.mk (below_step (bs2 GE394.out GE401.out) hb); revert n0_ n1_ n2_ n3_ n4_ n5_; clear HO_2 HO_11 BK394 BK401 HB; intro HO_2 HO_11 HO405 BK394 BK401 HB; (try clear hb); (try clear hb2); (try clear hk); (try clear hi); (try clear ho0)) | ((with_reducible refine gate_callee (f := 18) rfl ?_); refine goesL_ (some 42) rfl rfl Tryd.func18 (by kernel_rfl) rfl #[.string a0, .slice A1 l1.length c1, .slice Ao36 x11_1.length co36, .slice A3 l3.length c3, .int .i64 1] rfl aeq ?_; (with_reducible refine (timer_step.calls k1 a0 _ _ l1 (fun k_ => some k_ = (.slice Ao36 x11_1.length co36 : Value).ownBlock) (.slice Ao36 x11_1.length co36) x11_1 _ _ l3 1 t406 t407 t408 w _ ?side1 ?side2 ?side3 ?side4 ?side5 ?side6 A20.out).mono ?_); (case side1 => repeat (first | (with_reducible first | exact HB.out | apply below_alloc | apply pw_below_drewN | apply below_drew1 | refine below_set ?_ GE394.out | refine below_set ?_ GE401.out) | exact HB.out)); (case side2 => exact Kd.C_kept_came (Kd.heap_int .i64) HR1.out (bs2 GE394.out GE401.out) (fun k_ hs_ => (fun e_ => Kd.R_base HO_11.out k_ e_.symm) hs_)); (case side3 => exact HC1.out); (case side4 => exact Kd.R_tight rfl HO_11.out); (case side5 => exact Kd.C_kept_came k32_heap HR3.out (bs2 GE394.out GE401.out) (fun k_ hs_ => (fun e_ => Kd.R_base HO_11.out k_ e_.symm) hs_)); (case side6 => exact HC3.out); rintro e w39 ⟨rfl, hy0, hb, hkp⟩; refine ⟨_, rfl, ?_⟩; have n0_ := Aside0.mk (Kd.V_mono (ok' := fun k_ => (P2_ k_ ∨ w.heap.size ≤ k_) ∧ some k_ ≠ (.slice Ao36 x11_1.length co36 : Value).ownBlock ∧ some k_ ≠ (v404 : Value).ownBlock ∧ k_ ≠ gb394 ∧ k_ ≠ gb401) (Kd.V_keptB (HO_2.out) hkp (fun k_ hk_ hs_ => (hk_.1.2.1) hs_)) (fun k_ hk_ => ⟨hk_.1.1.1, hk_.1.1.2.1, hk_.1.2, hk_.1.1.2.2.1, hk_.1.1.2.2.2⟩)); have n1_ := Aside0.mk (Kd.R_reok rfl hy0 (fun k_ e_ => HO_11.out.1 k_ e_)); have n2_ := Aside0.mk (blk_kept (rb BK394.out) hkp (fun hs_ => (fun e_ => (Kd.R_ne HO_11.out BK394.out (by decide)) e_) hs_)); have n3_ := Aside0.mk (blk_kept (rb BK401.out) hkp (fun hs_ => (fun e_ => (Kd.R_ne HO_11.out BK401.out (by decide)) e_) hs_)); have n4_ := Aside0.mk (Kd.R_mono (ok' := fun k_ => (w.heap.size ≤ k_) ∧ some k_ ≠ (.slice Ao36 x11_1.length co36 : Value).ownBlock) (Kd.R_keptB (HO405.out) hkp (fun k_ hk_ hs_ => (hk_.2) hs_)) (fun k_ hk_ => ⟨hk_.1.1.1, hk_.1.2⟩)); have n5_ := Aside0.mk (hb); revert n0_ n1_ n2_ n3_ n4_ n5_; clear HO_2 HO_11 BK394 BK401 HO405 HB; intro HO_2 HO_11 BK394 BK401 HO405 HB; (try clear hb); (try clear hkp); (try clear hy0)) | ((with_reducible refine gate_dst (N := 16) rfl ?_); refine box_event ?hg (N := 16) ?hd (cs := #[.int .i64 0, .int .i64 0]) (t := 32) ?hr ?_; (case hd => rfl); (case hg => rfl); (case hr => first | (go_simp; done) | (go_simp; rfl)); intro gb409 hg w40 hbox hb; have n0_ := Aside0.mk (Kd.V_below (Kd.V_elderB (by (with_reducible repeat (first | apply Kd.V_alloc | apply Kd.V_drewN | apply Kd.V_drew)); exact HO_2.out) gb409 (Nat.le_of_eq hg.symm)) hb); have n1_ := Aside0.mk (Kd.R_below (rr HO_11.out) hb); have n2_ := Aside0.mk (Kd.R_below (rr HO405.out) hb); have n3_ := Aside0.mk (blk_below (g := gb394) (o := .cells #[.int .i64 0, .int .i64 0] 32 (0, 0)) (rb BK394.out) hb); have n4_ := Aside0.mk (blk_below (g := gb401) (o := .cells #[.int .i64 x402000_1, .int .i64 x402001_1] 32 (0, 0)) (rb BK401.out) hb); have n5_ := Aside0.mk (below_step (bs2 GE394.out GE401.out) hb); have n6_ := Aside0.mk (hbox); have n7_ := Aside0.mk ((by rw [hg]; exact (below_size (bs2 GE394.out GE401.out)) : w.heap.size ≤ gb409)); have n8_ := Aside0.mk ((by rw [hg]; exact (below_size (bs2 GE394.out GE401.out)) : w.heap.size ≤ gb409)); have n9_ := Aside0.mk ((by rw [hg]; exact Nat.ne_of_lt (blk_lt (g := gb394) (o := .cells #[.int .i64 0, .int .i64 0] 32 (0, 0)) (rb BK394.out)) : gb394 ≠ gb409)); have n10_ := Aside0.mk ((by rw [hg]; exact Nat.ne_of_gt (blk_lt (g := gb394) (o := .cells #[.int .i64 0, .int .i64 0] 32 (0, 0)) (rb BK394.out)) : gb409 ≠ gb394)); have n11_ := Aside0.mk ((by rw [hg]; exact Nat.ne_of_lt (blk_lt (g := gb401) (o := .cells #[.int .i64 x402000_1, .int .i64 x402001_1] 32 (0, 0)) (rb BK401.out)) : gb401 ≠ gb409)); have n12_ := Aside0.mk ((by rw [hg]; exact Nat.ne_of_gt (blk_lt (g := gb401) (o := .cells #[.int .i64 x402000_1, .int .i64 x402001_1] 32 (0, 0)) (rb BK401.out)) : gb409 ≠ gb401)); revert n0_ n1_ n2_ n3_ n4_ n5_ n6_ n7_ n8_ n9_ n10_ n11_ n12_; clear HO_2 HO_11 HO405 BK394 BK401 HB; intro HO_2 HO_11 HO405 BK394 BK401 HB BK409 GW409 GE409 NB394_409 NB409_394 NB401_409 NB409_401; clear hb hbox hg; have hnb41 := NB409_394.out; have hnc41 := NB394_409.out; have hnb42 := NB409_401.out; have hnc42 := NB401_409.out; have hcz43_0 : w40.cell? ⟨gb409, 0, none⟩ = some (.int .i64 0) := (blk_cell BK409.out 0).trans rfl; have hcz43_1 : w40.cell? ⟨gb409, 1, none⟩ = some (.int .i64 0) := (blk_cell BK409.out 1).trans rfl; have hfz43_0 := blk_frozen BK409.out 0; have hfz43_1 := blk_frozen BK409.out 1; have hnb44 := NB401_394.out; have hnc44 := NB394_401.out; have hcz45_0 : w40.cell? ⟨gb401, 0, none⟩ = some (.int .i64 x402000_1) := (blk_cell BK401.out 0).trans rfl; have hcz45_1 : w40.cell? ⟨gb401, 1, none⟩ = some (.int .i64 x402001_1) := (blk_cell BK401.out 1).trans rfl; have hfz45_0 := blk_frozen BK401.out 0; have hfz45_1 := blk_frozen BK401.out 1))
     go_roundg k1
     case measure => have := HK1.out; omega
     case rel => exact ⟨(t403), (t408), (x14_1), (wrap64 (x15_1 + 1)), (x402000_1), (x402001_1), (by first | rfl | (simp; done) | (simp [*]; done)), (by first | rfl | (simp; done) | (simp [*]; done)), H', ⟨by have := HK1.out; omega⟩, ⟨Kd.V_mono (Kd.R_V (by (with_reducible repeat (first | apply Kd.R_alloc | apply Kd.R_drewN | apply Kd.R_drew)); exact Kd.R_mono (Kd.R_far (p := ⟨gb409, 1, none⟩) (Kd.R_far (p := ⟨gb409, 0, none⟩) (Kd.R_types (Kd.R_types (Kd.R_types HO405.out BK394.out (by decide)) BK401.out (by decide)) BK409.out (by decide)) (fun _ hk => hk.2) (.int .i64 t406)) (fun _ hk => hk.2) (.int .i64 t407)) (fun _ hk => (And.intro hk.1.1.1.1 (And.intro hk.1.1.1.2 (And.intro hk.1.1.2 hk.1.2)))))) (fun k_ hk => by first | exact ⟨(.inr (hk.1)), hk.2⟩ | exact (.inr (hk)))⟩, ⟨rr (Kd.R_mono (Kd.R_far (p := ⟨gb409, 1, none⟩) (Kd.R_far (p := ⟨gb409, 0, none⟩) (Kd.R_types HO_11.out BK409.out (by decide)) (fun _ hk => hk.2) (.int .i64 t406)) (fun _ hk => hk.2) (.int .i64 t407)) (fun _ hk => hk.1.1))⟩, ⟨by (with_reducible repeat (first | apply blk_drewN | apply blk_drew | apply blk_alloc)); refine blk_far ?_ NB394_409.out _; (with_reducible repeat (first | apply blk_drewN | apply blk_drew | apply blk_alloc)); refine blk_far ?_ NB394_409.out _; (with_reducible repeat (first | apply blk_drewN | apply blk_drew | apply blk_alloc)); exact BK394.out⟩, ⟨by (with_reducible repeat (first | apply blk_drewN | apply blk_drew | apply blk_alloc)); refine blk_far ?_ NB401_409.out _; (with_reducible repeat (first | apply blk_drewN | apply blk_drew | apply blk_alloc)); refine blk_far ?_ NB401_409.out _; (with_reducible repeat (first | apply blk_drewN | apply blk_drew | apply blk_alloc)); exact BK401.out⟩, ⟨bs3 GE394.out GE401.out GE409.out⟩⟩
    rw [if_pos c21] at H
    have c21b0 : (!(t406 == x402000_1) || (!(t407 == x402001_1))) = true := c21
    clear c21
    have H' := Aside0.mk H
    clear H
    obtain ⟨Ao22, co22, eo22⟩ := Kd.R_slice HO_11.out
    subst eo22
    obtain ⟨Ao23, co23, eo23⟩ := Kd.V_slice HO_2.out
    subst eo23
    try go_wp2_with (first | ((with_reducible refine gate_callee (f := 16) rfl ?_); refine goesL_ (some 32) rfl rfl Tryd.func16 (by kernel_rfl) rfl #[.slice Ao22 x11_1.length co22, .slice Ao23 x2_1.length co23] rfl aeq ?_; (with_reducible refine (slices_Equal_int64_int64.calls k1 _ _ x11_1 _ _ x2_1 false _ ?side1 ?side2 ?side3 ?side4 A12.out).mono ?_); (case side1 => repeat (first | exact (Kd.R_reads' HO_11.out).2.2 | (with_reducible refine Kd.C_alloc ?_ _) | (with_reducible refine Kd.C_drewN ?_ _) | (with_reducible refine Kd.C_drew ?_))); (case side2 => exact (Kd.R_reads' HO_11.out).2.1); (case side3 => repeat (first | exact (Kd.V_reads' HO_2.out).2.2 | (with_reducible refine Kd.C_alloc ?_ _) | (with_reducible refine Kd.C_drewN ?_ _) | (with_reducible refine Kd.C_drew ?_))); (case side4 => exact (Kd.V_reads' HO_2.out).2.1); rintro e w' ⟨rfl, ⟨nd, rfl⟩⟩; refine ⟨_, rfl, ?_⟩; (try (rw [drewN_self wr]; generalize hq_ : World.drewN wr _ = wr; have n0_ : Aside0 (Kd.R (Kd.int .i64) 2 wr w.heap.size (fun k_ => (w.heap.size ≤ k_)) (.slice Ao22 x11_1.length co22) x11_1) := ⟨by rw [← hq_]; exact (rr HO_11.out)⟩; have n1_ : Aside0 (Kd.V (Kd.int .i64) 2 wr w.heap.size (fun k_ => (P2_ k_ ∨ w.heap.size ≤ k_) ∧ some k_ ≠ (.slice Ao22 x11_1.length co22 : Value).ownBlock ∧ k_ ≠ gb394 ∧ k_ ≠ gb401) (.slice Ao23 x2_1.length co23) x2_1) := ⟨by rw [← hq_]; exact (by (with_reducible repeat (first | apply Kd.V_alloc | apply Kd.V_drewN | apply Kd.V_drew)); exact HO_2.out)⟩; have n2_ : Aside0 (wr.heap[gb394]? = some (.cells #[.int .i64 0, .int .i64 0] 32 (0, 0))) := ⟨by rw [← hq_]; exact (rb BK394.out)⟩; have n3_ : Aside0 (wr.heap[gb401]? = some (.cells #[.int .i64 x402000_1, .int .i64 x402001_1] 32 (0, 0))) := ⟨by rw [← hq_]; exact (rb BK401.out)⟩; have n4_ : Aside0 (Below w.heap.size w wr) := ⟨by rw [← hq_]; exact (bs2 GE394.out GE401.out)⟩; clear HO_11 HO_2 BK394 BK401 HB hq_; have HO_11 := n0_; have HO_2 := n1_; have BK394 := n2_; have BK401 := n3_; have HB := n4_; clear n0_ n1_ n2_ n3_ n4_))) | ((with_reducible refine gate_callee (f := 17) rfl ?_); refine goesL_ (some 37) rfl rfl Tryd.func17 (by kernel_rfl) rfl #[.slice Ao22 x11_1.length co22] rfl aeq ?_; (with_reducible refine (slices_Clone_int64_int64.calls _ _ x11_1 t403 _ ?side1 ?side2 A19.out).mono ?_); (case side1 => repeat (first | exact (Kd.R_reads' HO_11.out).2.2 | (with_reducible refine Kd.C_alloc ?_ _) | (with_reducible refine Kd.C_drewN ?_ _) | (with_reducible refine Kd.C_drew ?_))); (case side2 => exact (Kd.R_reads' HO_11.out).2.1); rintro e w24 ⟨v404, rfl, ho0, hb⟩; refine ⟨_, rfl, ?_⟩; have n0_ := Aside0.mk (Kd.V_elder' (by (with_reducible repeat (first | apply Kd.V_alloc | apply Kd.V_drewN | apply Kd.V_drew)); exact HO_2.out) (Kd.R_base ho0) hb); have n1_ := Aside0.mk (Kd.R_elder' (rr HO_11.out) (Kd.R_base ho0) hb); have n2_ := Aside0.mk (Kd.R_lower (Kd.R_new' (Kd.R_newM (M := fun k_ => (w.heap.size ≤ k_)) ho0 (below_size (bs2 GE394.out GE401.out)) (fun k_ h_ => h_)) (Kd.R_lt (rr HO_11.out))) (below_size (bs2 GE394.out GE401.out))); have n3_ := Aside0.mk (blk_below (g := gb394) (o := .cells #[.int .i64 0, .int .i64 0] 32 (0, 0)) (rb BK394.out) hb); have n4_ := Aside0.mk (blk_below (g := gb401) (o := .cells #[.int .i64 x402000_1, .int .i64 x402001_1] 32 (0, 0)) (rb BK401.out) hb); have n5_ := Aside0.mk (below_step (bs2 GE394.out GE401.out) hb); revert n0_ n1_ n2_ n3_ n4_ n5_; clear HO_2 HO_11 BK394 BK401 HB; intro HO_2 HO_11 HO405 BK394 BK401 HB; (try clear hb); (try clear hb2); (try clear hk); (try clear hi); (try clear ho0)) | ((with_reducible refine gate_callee (f := 18) rfl ?_); refine goesL_ (some 42) rfl rfl Tryd.func18 (by kernel_rfl) rfl #[.string a0, .slice A1 l1.length c1, .slice Ao22 x11_1.length co22, .slice A3 l3.length c3, .int .i64 1] rfl aeq ?_; (with_reducible refine (timer_step.calls k1 a0 _ _ l1 (fun k_ => some k_ = (.slice Ao22 x11_1.length co22 : Value).ownBlock) (.slice Ao22 x11_1.length co22) x11_1 _ _ l3 1 t406 t407 t408 w _ ?side1 ?side2 ?side3 ?side4 ?side5 ?side6 A20.out).mono ?_); (case side1 => repeat (first | (with_reducible first | exact HB.out | apply below_alloc | apply pw_below_drewN | apply below_drew1 | refine below_set ?_ GE394.out | refine below_set ?_ GE401.out) | exact HB.out)); (case side2 => exact Kd.C_kept_came (Kd.heap_int .i64) HR1.out (bs2 GE394.out GE401.out) (fun k_ hs_ => (fun e_ => Kd.R_base HO_11.out k_ e_.symm) hs_)); (case side3 => exact HC1.out); (case side4 => exact Kd.R_tight rfl HO_11.out); (case side5 => exact Kd.C_kept_came k32_heap HR3.out (bs2 GE394.out GE401.out) (fun k_ hs_ => (fun e_ => Kd.R_base HO_11.out k_ e_.symm) hs_)); (case side6 => exact HC3.out); rintro e w25 ⟨rfl, hy0, hb, hkp⟩; refine ⟨_, rfl, ?_⟩; have n0_ := Aside0.mk (Kd.V_mono (ok' := fun k_ => (P2_ k_ ∨ w.heap.size ≤ k_) ∧ some k_ ≠ (.slice Ao22 x11_1.length co22 : Value).ownBlock ∧ some k_ ≠ (v404 : Value).ownBlock ∧ k_ ≠ gb394 ∧ k_ ≠ gb401) (Kd.V_keptB (HO_2.out) hkp (fun k_ hk_ hs_ => (hk_.1.2.1) hs_)) (fun k_ hk_ => ⟨hk_.1.1.1, hk_.1.1.2.1, hk_.1.2, hk_.1.1.2.2.1, hk_.1.1.2.2.2⟩)); have n1_ := Aside0.mk (Kd.R_reok rfl hy0 (fun k_ e_ => HO_11.out.1 k_ e_)); have n2_ := Aside0.mk (blk_kept (rb BK394.out) hkp (fun hs_ => (fun e_ => (Kd.R_ne HO_11.out BK394.out (by decide)) e_) hs_)); have n3_ := Aside0.mk (blk_kept (rb BK401.out) hkp (fun hs_ => (fun e_ => (Kd.R_ne HO_11.out BK401.out (by decide)) e_) hs_)); have n4_ := Aside0.mk (Kd.R_mono (ok' := fun k_ => (w.heap.size ≤ k_) ∧ some k_ ≠ (.slice Ao22 x11_1.length co22 : Value).ownBlock) (Kd.R_keptB (HO405.out) hkp (fun k_ hk_ hs_ => (hk_.2) hs_)) (fun k_ hk_ => ⟨hk_.1.1.1, hk_.1.2⟩)); have n5_ := Aside0.mk (hb); revert n0_ n1_ n2_ n3_ n4_ n5_; clear HO_2 HO_11 BK394 BK401 HO405 HB; intro HO_2 HO_11 BK394 BK401 HO405 HB; (try clear hb); (try clear hkp); (try clear hy0)) | ((with_reducible refine gate_dst (N := 16) rfl ?_); refine box_event ?hg (N := 16) ?hd (cs := #[.int .i64 0, .int .i64 0]) (t := 32) ?hr ?_; (case hd => rfl); (case hg => rfl); (case hr => first | (go_simp; done) | (go_simp; rfl)); intro gb409 hg w26 hbox hb; have n0_ := Aside0.mk (Kd.V_below (Kd.V_elderB (by (with_reducible repeat (first | apply Kd.V_alloc | apply Kd.V_drewN | apply Kd.V_drew)); exact HO_2.out) gb409 (Nat.le_of_eq hg.symm)) hb); have n1_ := Aside0.mk (Kd.R_below (rr HO_11.out) hb); have n2_ := Aside0.mk (Kd.R_below (rr HO405.out) hb); have n3_ := Aside0.mk (blk_below (g := gb394) (o := .cells #[.int .i64 0, .int .i64 0] 32 (0, 0)) (rb BK394.out) hb); have n4_ := Aside0.mk (blk_below (g := gb401) (o := .cells #[.int .i64 x402000_1, .int .i64 x402001_1] 32 (0, 0)) (rb BK401.out) hb); have n5_ := Aside0.mk (below_step (bs2 GE394.out GE401.out) hb); have n6_ := Aside0.mk (hbox); have n7_ := Aside0.mk ((by rw [hg]; exact (below_size (bs2 GE394.out GE401.out)) : w.heap.size ≤ gb409)); have n8_ := Aside0.mk ((by rw [hg]; exact (below_size (bs2 GE394.out GE401.out)) : w.heap.size ≤ gb409)); have n9_ := Aside0.mk ((by rw [hg]; exact Nat.ne_of_lt (blk_lt (g := gb394) (o := .cells #[.int .i64 0, .int .i64 0] 32 (0, 0)) (rb BK394.out)) : gb394 ≠ gb409)); have n10_ := Aside0.mk ((by rw [hg]; exact Nat.ne_of_gt (blk_lt (g := gb394) (o := .cells #[.int .i64 0, .int .i64 0] 32 (0, 0)) (rb BK394.out)) : gb409 ≠ gb394)); have n11_ := Aside0.mk ((by rw [hg]; exact Nat.ne_of_lt (blk_lt (g := gb401) (o := .cells #[.int .i64 x402000_1, .int .i64 x402001_1] 32 (0, 0)) (rb BK401.out)) : gb401 ≠ gb409)); have n12_ := Aside0.mk ((by rw [hg]; exact Nat.ne_of_gt (blk_lt (g := gb401) (o := .cells #[.int .i64 x402000_1, .int .i64 x402001_1] 32 (0, 0)) (rb BK401.out)) : gb409 ≠ gb401)); revert n0_ n1_ n2_ n3_ n4_ n5_ n6_ n7_ n8_ n9_ n10_ n11_ n12_; clear HO_2 HO_11 HO405 BK394 BK401 HB; intro HO_2 HO_11 HO405 BK394 BK401 HB BK409 GW409 GE409 NB394_409 NB409_394 NB401_409 NB409_401; clear hb hbox hg; have hnb27 := NB409_394.out; have hnc27 := NB394_409.out; have hnb28 := NB409_401.out; have hnc28 := NB401_409.out; have hcz29_0 : w26.cell? ⟨gb409, 0, none⟩ = some (.int .i64 0) := (blk_cell BK409.out 0).trans rfl; have hcz29_1 : w26.cell? ⟨gb409, 1, none⟩ = some (.int .i64 0) := (blk_cell BK409.out 1).trans rfl; have hfz29_0 := blk_frozen BK409.out 0; have hfz29_1 := blk_frozen BK409.out 1; have hnb30 := NB401_394.out; have hnc30 := NB394_401.out; have hcz31_0 : w26.cell? ⟨gb401, 0, none⟩ = some (.int .i64 x402000_1) := (blk_cell BK401.out 0).trans rfl; have hcz31_1 : w26.cell? ⟨gb401, 1, none⟩ = some (.int .i64 x402001_1) := (blk_cell BK401.out 1).trans rfl; have hfz31_0 := blk_frozen BK401.out 0; have hfz31_1 := blk_frozen BK401.out 1))
    have n0_ : Aside0 (Kd.V (Kd.int .i64) 2 ((w26.setCell ⟨gb409, 0, none⟩ (.int .i64 t406)).setCell ⟨gb409, 1, none⟩ (.int .i64 t407)) w.heap.size (fun k_ => (P2_ k_ ∨ w.heap.size ≤ k_) ∧ some k_ ≠ (.slice Ao22 x11_1.length co22 : Value).ownBlock ∧ some k_ ≠ (v404 : Value).ownBlock ∧ k_ ≠ gb394 ∧ k_ ≠ gb401 ∧ k_ ≠ gb409) (.slice Ao23 x2_1.length co23) x2_1) := ⟨by (with_reducible repeat (first | apply Kd.V_alloc | apply Kd.V_drewN | apply Kd.V_drew)); exact Kd.V_mono (Kd.V_far (p := ⟨gb409, 1, none⟩) (Kd.V_far (p := ⟨gb409, 0, none⟩) (Kd.V_mono HO_2.out (fun k_ hk => (⟨hk, hk.2⟩ : _ ∧ k_ ≠ gb409))) (fun _ hk => hk.2) (.int .i64 t406)) (fun _ hk => hk.2) (.int .i64 t407)) (fun _ hk => ⟨hk.1.1.1, ⟨hk.1.1.2.1, ⟨hk.1.1.2.2.1, ⟨hk.1.1.2.2.2.1, ⟨hk.1.1.2.2.2.2, hk.1.2⟩⟩⟩⟩⟩)⟩
    have n1_ : Aside0 (Kd.R (Kd.int .i64) 2 ((w26.setCell ⟨gb409, 0, none⟩ (.int .i64 t406)).setCell ⟨gb409, 1, none⟩ (.int .i64 t407)) w.heap.size (fun k_ => (w.heap.size ≤ k_) ∧ some k_ ≠ (v404 : Value).ownBlock) (.slice Ao22 x11_1.length co22) t408) := ⟨by (with_reducible repeat (first | apply Kd.R_alloc | apply Kd.R_drewN | apply Kd.R_drew)); exact Kd.R_mono (Kd.R_far (p := ⟨gb409, 1, none⟩) (Kd.R_far (p := ⟨gb409, 0, none⟩) (Kd.R_types HO_11.out BK409.out (by decide)) (fun _ hk => hk.2) (.int .i64 t406)) (fun _ hk => hk.2) (.int .i64 t407)) (fun _ hk => ⟨hk.1.1, hk.1.2⟩)⟩
    have n2_ : Aside0 (Kd.R (Kd.int .i64) 2 ((w26.setCell ⟨gb409, 0, none⟩ (.int .i64 t406)).setCell ⟨gb409, 1, none⟩ (.int .i64 t407)) w.heap.size (fun k_ => (w.heap.size ≤ k_) ∧ some k_ ≠ (.slice Ao22 x11_1.length co22 : Value).ownBlock) v404 t403) := ⟨by (with_reducible repeat (first | apply Kd.R_alloc | apply Kd.R_drewN | apply Kd.R_drew)); exact Kd.R_mono (Kd.R_far (p := ⟨gb409, 1, none⟩) (Kd.R_far (p := ⟨gb409, 0, none⟩) (Kd.R_types HO405.out BK409.out (by decide)) (fun _ hk => hk.2) (.int .i64 t406)) (fun _ hk => hk.2) (.int .i64 t407)) (fun _ hk => ⟨hk.1.1, hk.1.2⟩)⟩
    have n3_ : Aside0 (((w26.setCell ⟨gb409, 0, none⟩ (.int .i64 t406)).setCell ⟨gb409, 1, none⟩ (.int .i64 t407)).heap[gb394]? = some (.cells #[.int .i64 0, .int .i64 0] 32 (0, 0))) := ⟨by (with_reducible repeat (first | apply blk_drewN | apply blk_drew | apply blk_alloc)); refine blk_far ?_ NB394_409.out _; (with_reducible repeat (first | apply blk_drewN | apply blk_drew | apply blk_alloc)); refine blk_far ?_ NB394_409.out _; (with_reducible repeat (first | apply blk_drewN | apply blk_drew | apply blk_alloc)); exact BK394.out⟩
    have n4_ : Aside0 (((w26.setCell ⟨gb409, 0, none⟩ (.int .i64 t406)).setCell ⟨gb409, 1, none⟩ (.int .i64 t407)).heap[gb401]? = some (.cells #[.int .i64 x402000_1, .int .i64 x402001_1] 32 (0, 0))) := ⟨by (with_reducible repeat (first | apply blk_drewN | apply blk_drew | apply blk_alloc)); refine blk_far ?_ NB401_409.out _; (with_reducible repeat (first | apply blk_drewN | apply blk_drew | apply blk_alloc)); refine blk_far ?_ NB401_409.out _; (with_reducible repeat (first | apply blk_drewN | apply blk_drew | apply blk_alloc)); exact BK401.out⟩
    have n5_ : Aside0 (((w26.setCell ⟨gb409, 0, none⟩ (.int .i64 t406)).setCell ⟨gb409, 1, none⟩ (.int .i64 t407)).heap[gb409]? = some (.cells #[.int .i64 t406, .int .i64 t407] 32 (0, 0))) := ⟨by (with_reducible repeat (first | apply blk_drewN | apply blk_drew | apply blk_alloc)); refine blk_put (cs := #[.int .i64 t406, .int .i64 0]) ?_ 1 _ rfl; (with_reducible repeat (first | apply blk_drewN | apply blk_drew | apply blk_alloc)); refine blk_put (cs := #[.int .i64 0, .int .i64 0]) ?_ 0 _ rfl; (with_reducible repeat (first | apply blk_drewN | apply blk_drew | apply blk_alloc)); exact BK409.out⟩
    have n6_ : Aside0 (Below w.heap.size w ((w26.setCell ⟨gb409, 0, none⟩ (.int .i64 t406)).setCell ⟨gb409, 1, none⟩ (.int .i64 t407))) := ⟨bs3 GE394.out GE401.out GE409.out⟩
    (try clear HO_2)
    (try clear HO_11)
    (try clear HO405)
    (try clear BK394)
    (try clear BK401)
    (try clear BK409)
    (try clear HB)
    generalize ((w26.setCell ⟨gb409, 0, none⟩ (.int .i64 t406)).setCell ⟨gb409, 1, none⟩ (.int .i64 t407)) = w32 at n0_ n1_ n2_ n3_ n4_ n5_ n6_ ⊢
    have HO_2 := n0_
    have HO_11 := n1_
    have HO405 := n2_
    have BK394 := n3_
    have BK401 := n4_
    have BK409 := n5_
    have HB := n6_
    clear n0_ n1_ n2_ n3_ n4_ n5_ n6_
    have n0_ := Aside0.mk (Kd.V_drew HO_2.out)
    have n1_ := Aside0.mk (Kd.R_drew HO_11.out)
    have n2_ := Aside0.mk (Kd.R_drew HO405.out)
    have n3_ := Aside0.mk (blk_drew BK394.out)
    have n4_ := Aside0.mk (blk_drew BK401.out)
    have n5_ := Aside0.mk (blk_drew BK409.out)
    have n6_ := Aside0.mk (below_drew1 HB.out)
    revert n0_ n1_ n2_ n3_ n4_ n5_ n6_; clear HO_2 HO_11 HO405 BK394 BK401 BK409 HB; intro HO_2 HO_11 HO405 BK394 BK401 BK409 HB
    refine start_ (n := 4) (S := fun w' => w'.cell? ⟨gb409, 0, none⟩ = some (.int .i64 t406) ∧ w'.cell? ⟨gb409, 1, none⟩ = some (.int .i64 t407)) (ds := []) #[F, F, F, F] (by kernel_rfl) rfl rfl ⟨(blk_cell BK409.out 0).trans rfl, (blk_cell BK409.out 1).trans rfl⟩ (fun hHeld => ?_)
    generalize w32.drew = w33 at HO_2 HO_11 HO405 BK394 BK401 BK409 HB hHeld ⊢
    refine pure_ (i := 0) (N := some 46) (v := ?_) (a' := ?_) #[T, F, F, F] rfl rfl (by kernel_rfl) (fun _ _ _ h => h) (Or.inl ⟨by rfl, ?_⟩) ?_ ?_
    rotate_left
    ·
     intro w'
     go_simp
     with_reducible rfl
    rotate_left
    ·
     simp only [ap, sa, sb, sc, i64_w, i32_w]
     rfl
    refine pure_ (i := 2) (N := some 14) (v := ?_) (a' := ?_) #[T, F, T, F] rfl rfl (by kernel_rfl) (fun _ _ _ h => h) (Or.inl ⟨by rfl, ?_⟩) ?_ ?_
    rotate_left
    ·
     intro w'
     go_simp
     with_reducible rfl
    rotate_left
    ·
     simp only [ap, sa, sb, sc, i64_w, i32_w]
     rfl
    refine take_ (i := 1) (N := some 47) (v := ?_) (a' := ?_) #[T, T, T, F] rfl rfl (by kernel_rfl) (fun _ _ _ h => h) (Or.inl ⟨by rfl, ?_⟩) hHeld ?_ ?_
    rotate_left
    ·
     rintro w' ⟨s0, s1⟩
     go_simp
     with_reducible rfl
    rotate_left
    ·
     simp only [ap, sa, sb, sc, i64_w, i32_w]
     rfl
    refine one_ (i := 3) (N := none) #[T, T, T, T] rfl rfl (by kernel_rfl) (by decide) (fun K hK => ?_)
    have hs34 : w33.cell? ⟨gb401, 0, none⟩ = some (.int .i64 x402000_1) := (blk_cell BK401.out 0).trans rfl
    have hfs34 := blk_frozen BK401.out 0
    have hns34_0 := NB394_401.out
    have hns34_2 := NB409_401.out
    have hms34_0 := NB401_394.out
    have hms34_2 := NB401_409.out
    have hs35 : w33.cell? ⟨gb401, 1, none⟩ = some (.int .i64 x402001_1) := (blk_cell BK401.out 1).trans rfl
    have hfs35 := blk_frozen BK401.out 1
    have hns35_0 := NB394_401.out
    have hns35_2 := NB409_401.out
    have hms35_0 := NB401_394.out
    have hms35_2 := NB401_409.out
    refine skip_ (w1 := ?_) (by rfl) rfl ?_ ?_
    rotate_left
    ·
     go_simp
     rfl
    refine hK.out _ _ ⟨((cell_far (p := ⟨gb401, _, none⟩) NB409_401.out _).trans (((cell_far (p := ⟨gb401, _, none⟩) NB409_401.out _).trans (hHeld.1)))), ((cell_far (p := ⟨gb401, _, none⟩) NB409_401.out _).trans (((cell_far (p := ⟨gb401, _, none⟩) NB409_401.out _).trans (hHeld.2))))⟩ (fun hHeld => ?_)
    clear hK K
    refine done_ (by kernel_rfl) ?_
    try go_wp2
    go_roundg k1
    case measure => have := HK1.out; omega
    case rel => exact ⟨(t403), (t408), (x15_1), (wrap64 (x15_1 + 1)), (t406), (t407), (by first | rfl | (simp; done) | (simp [*]; done)), (by first | rfl | (simp; done) | (simp [*]; done)), H', ⟨by have := HK1.out; omega⟩, ⟨Kd.V_mono (Kd.R_V (by (with_reducible repeat (first | apply Kd.R_alloc | apply Kd.R_drewN | apply Kd.R_drew)); exact Kd.R_mono (Kd.R_far (p := ⟨gb401, 1, none⟩) (Kd.R_far (p := ⟨gb401, 0, none⟩) (Kd.R_types (Kd.R_types (Kd.R_types HO405.out BK394.out (by decide)) BK401.out (by decide)) BK401.out (by decide)) (fun _ hk => hk.2) (.int .i64 t406)) (fun _ hk => hk.2) (.int .i64 t407)) (fun _ hk => (And.intro hk.1.1.1.1 (And.intro hk.1.1.1.2 (And.intro hk.1.1.2 hk.1.2)))))) (fun k_ hk => by first | exact ⟨(.inr (hk.1)), hk.2⟩ | exact (.inr (hk)))⟩, ⟨rr (Kd.R_mono (Kd.R_far (p := ⟨gb401, 1, none⟩) (Kd.R_far (p := ⟨gb401, 0, none⟩) (Kd.R_types HO_11.out BK401.out (by decide)) (fun _ hk => hk.2) (.int .i64 t406)) (fun _ hk => hk.2) (.int .i64 t407)) (fun _ hk => hk.1.1))⟩, ⟨by (with_reducible repeat (first | apply blk_drewN | apply blk_drew | apply blk_alloc)); refine blk_far ?_ NB394_401.out _; (with_reducible repeat (first | apply blk_drewN | apply blk_drew | apply blk_alloc)); refine blk_far ?_ NB394_401.out _; (with_reducible repeat (first | apply blk_drewN | apply blk_drew | apply blk_alloc)); exact BK394.out⟩, ⟨by (with_reducible repeat (first | apply blk_drewN | apply blk_drew | apply blk_alloc)); refine blk_put (cs := #[.int .i64 t406, .int .i64 x402001_1]) ?_ 1 _ rfl; (with_reducible repeat (first | apply blk_drewN | apply blk_drew | apply blk_alloc)); refine blk_put (cs := #[.int .i64 x402000_1, .int .i64 x402001_1]) ?_ 0 _ rfl; (with_reducible repeat (first | apply blk_drewN | apply blk_drew | apply blk_alloc)); exact BK401.out⟩, ⟨bs3 GE394.out GE401.out GE409.out⟩⟩
 ·
  rw [if_neg c6] at H
  have c6b0 : (t400 == 0) = false := beq_eq_false_iff_ne.mpr c6
  have c6b1 : (t400 != 0) = true := bne_iff_ne.mpr c6
  simp only [Option.some.injEq, Prod.mk.injEq] at H
  obtain ⟨rfl, rfl, rfl, rfl⟩ := H
  go_enter Tryd.func12, Tryd.ntmps12
  go_wp2_with (first | ((with_reducible refine gate_dst (N := 8) rfl ?_); refine box_event ?hg (N := 8) ?hd (cs := #[.int .i64 0, .int .i64 0]) (t := 32) ?hr ?_; (case hd => rfl); (case hg => rfl); (case hr => first | (go_simp; done) | (go_simp; rfl)); intro gb394 hg w46 hbox hb; have n0_ := Aside0.mk (Kd.V_below (Kd.V_elderB (by (with_reducible repeat (first | apply Kd.V_alloc | apply Kd.V_drewN | apply Kd.V_drew)); exact HO2.out) gb394 (Nat.le_of_eq hg.symm)) hb); have n1_ := Aside0.mk (below_step bl hb); have n2_ := Aside0.mk (hbox); have n3_ := Aside0.mk ((by rw [hg]; exact (below_size bl) : w.heap.size ≤ gb394)); have n4_ := Aside0.mk ((by rw [hg]; exact (below_size bl) : w.heap.size ≤ gb394)); revert n0_ n1_ n2_ n3_ n4_; clear HO2 HB; intro HO2 HB BK394 GW394 GE394; clear hb hbox hg) | ((with_reducible refine gate_callee (f := 15) rfl ?_); refine goesL_ (some 22) rfl rfl Tryd.func15 (by kernel_rfl) rfl #[.string a0, .slice A1 l1.length c1, .slice A2 l2.length c2, .slice A3 l3.length c3, .int .i64 1] rfl aeq ?_; (with_reducible refine (timer_Step.calls k a0 _ _ l1 _ _ l2 _ _ l3 1 t395 t398 t399 t400 _ ?side1 ?side2 ?side3 ?side4 ?side5 ?side6 ?side7 A5.out).mono ?_); (case side1 => repeat (first | exact (Kd.C_below HR1.out HB.out) | (with_reducible refine Kd.C_alloc ?_ _) | (with_reducible refine Kd.C_drewN ?_ _) | (with_reducible refine Kd.C_drew ?_))); (case side2 => exact HC1.out); (case side3 => repeat (first | exact (Kd.V_reads' HO2.out).2.2 | (with_reducible refine Kd.C_alloc ?_ _) | (with_reducible refine Kd.C_drewN ?_ _) | (with_reducible refine Kd.C_drew ?_))); (case side4 => exact (Kd.V_reads' HO2.out).2.1); (case side5 => repeat (first | exact (Kd.C_below HR3.out HB.out) | (with_reducible refine Kd.C_alloc ?_ _) | (with_reducible refine Kd.C_drewN ?_ _) | (with_reducible refine Kd.C_drew ?_))); (case side6 => exact HC3.out); (case side7 => exact GW.below HG.out (bs1 GE394.out)); rintro e w47 ⟨v396, rfl, ho0, hb⟩; refine ⟨_, rfl, ?_⟩; have n0_ := Aside0.mk (Kd.V_elder' (by (with_reducible repeat (first | apply Kd.V_alloc | apply Kd.V_drewN | apply Kd.V_drew)); exact HO2.out) (Kd.R_base ho0) hb); have n1_ := Aside0.mk (Kd.R_lower (Kd.R_newM (M := fun k_ => (w.heap.size ≤ k_)) ho0 (below_size (bs1 GE394.out)) (fun k_ h_ => h_)) (below_size (bs1 GE394.out))); have n2_ := Aside0.mk (blk_below (g := gb394) (o := .cells #[.int .i64 0, .int .i64 0] 32 (0, 0)) (rb BK394.out) hb); have n3_ := Aside0.mk (below_step (bs1 GE394.out) hb); revert n0_ n1_ n2_ n3_; clear HO2 BK394 HB; intro HO2 HO397 BK394 HB; (try clear hb); (try clear hb2); (try clear hk); (try clear hi); (try clear ho0)) | ((with_reducible refine gate_dst (N := 12) rfl ?_); refine box_event ?hg (N := 12) ?hd (cs := #[.int .i64 0, .int .i64 0]) (t := 32) ?hr ?_; (case hd => rfl); (case hg => rfl); (case hr => first | (go_simp; done) | (go_simp; rfl)); intro gb401 hg w48 hbox hb; have n0_ := Aside0.mk (Kd.V_below (Kd.V_elderB (by (with_reducible repeat (first | apply Kd.V_alloc | apply Kd.V_drewN | apply Kd.V_drew)); exact HO2.out) gb401 (Nat.le_of_eq hg.symm)) hb); have n1_ := Aside0.mk (Kd.R_below (rr HO397.out) hb); have n2_ := Aside0.mk (blk_below (g := gb394) (o := .cells #[.int .i64 0, .int .i64 0] 32 (0, 0)) (rb BK394.out) hb); have n3_ := Aside0.mk (below_step (bs1 GE394.out) hb); have n4_ := Aside0.mk (hbox); have n5_ := Aside0.mk ((by rw [hg]; exact (below_size (bs1 GE394.out)) : w.heap.size ≤ gb401)); have n6_ := Aside0.mk ((by rw [hg]; exact (below_size (bs1 GE394.out)) : w.heap.size ≤ gb401)); have n7_ := Aside0.mk ((by rw [hg]; exact Nat.ne_of_lt (blk_lt (g := gb394) (o := .cells #[.int .i64 0, .int .i64 0] 32 (0, 0)) (rb BK394.out)) : gb394 ≠ gb401)); have n8_ := Aside0.mk ((by rw [hg]; exact Nat.ne_of_gt (blk_lt (g := gb394) (o := .cells #[.int .i64 0, .int .i64 0] 32 (0, 0)) (rb BK394.out)) : gb401 ≠ gb394)); revert n0_ n1_ n2_ n3_ n4_ n5_ n6_ n7_ n8_; clear HO2 HO397 BK394 HB; intro HO2 HO397 BK394 HB BK401 GW401 GE401 NB394_401 NB401_394; clear hb hbox hg; have hnb49 := NB401_394.out; have hnc49 := NB394_401.out; have hcz50_0 : w48.cell? ⟨gb401, 0, none⟩ = some (.int .i64 0) := (blk_cell BK401.out 0).trans rfl; have hcz50_1 : w48.cell? ⟨gb401, 1, none⟩ = some (.int .i64 0) := (blk_cell BK401.out 1).trans rfl; have hfz50_0 := blk_frozen BK401.out 0; have hfz50_1 := blk_frozen BK401.out 1; have hcz51_0 : w48.cell? ⟨gb394, 0, none⟩ = some (.int .i64 0) := (blk_cell BK394.out 0).trans rfl; have hcz51_1 : w48.cell? ⟨gb394, 1, none⟩ = some (.int .i64 0) := (blk_cell BK394.out 1).trans rfl; have hfz51_0 := blk_frozen BK394.out 0; have hfz51_1 := blk_frozen BK394.out 1))
  refine bodyPost_ret (results_ctt rfl _ _ gb394 32 #[.int .i64 0, .int .i64 0] (0, 0) _ rfl (by (with_reducible repeat (first | apply blk_drewN | apply blk_drew | apply blk_alloc)); refine blk_put (cs := #[.int .i64 0, .int .i64 0]) ?_ 1 _ rfl; (with_reducible repeat (first | apply blk_drewN | apply blk_drew | apply blk_alloc)); refine blk_put (cs := #[.int .i64 0, .int .i64 0]) ?_ 0 _ rfl; (with_reducible repeat (first | apply blk_drewN | apply blk_drew | apply blk_alloc)); refine blk_far ?_ NB394_401.out _; (with_reducible repeat (first | apply blk_drewN | apply blk_drew | apply blk_alloc)); refine blk_far ?_ NB394_401.out _; (with_reducible repeat (first | apply blk_drewN | apply blk_drew | apply blk_alloc)); exact BK394.out) Tryd.underlying32 rfl (by kernel_rfl)) rfl ?_
  exact ⟨by first | rfl | (simp [errW_none, errW_some] <;> rfl) | (simp [*, errW_none, errW_some] <;> rfl), bs2 GE394.out GE401.out⟩

end Go.Proofs.YtjjbdgngncgikaaDoor.R
