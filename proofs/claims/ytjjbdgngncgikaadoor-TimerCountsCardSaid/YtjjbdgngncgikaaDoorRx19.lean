-- Written by this claim's own program out of the translation; not trusted: Lean checks it.
import Derived.Test.YtjjbdgngncgikaaDoorRx0
import Derived.Test.YtjjbdgngncgikaaDoorRx8
import Derived.Test.YtjjbdgngncgikaaDoorRx18
namespace Go.Proofs.YtjjbdgngncgikaaDoor.R
open Go.RowKit Go.Proofs.YtjjbdgngncgikaaDoorW.PrintWords Go.Proofs.YtjjbdgngncgikaaDoorW.PrintLast Go.Proofs.YtjjbdgngncgikaaDoorW.PrintMore
attribute [local go_sem] max2_int min2_int max_two min_two max_three min_three max_four min_four   -- for this text's walks alone
set_option linter.unusedVariables false
set_option linter.unusedSimpArgs false

/-! ### timer_Run: function 9 -/
def timer_Run.l0 : Nat → ByteArray → List Int → Int → List Int → List (S32) → List (List (S32)) → Int → Int → Option ((List (S32)) × Int)
 | 0, _, _, _, _, _, _, _, _ => none
 | k + 1, x0, x1, x3, x12, x13, x31, x32, x33 => if x33 < x32 then (if 0 ≤ x33 then (if x33 < (x31.length : Int) then ((timer_Step.f k x0 x1 x12 (rd_L8 x31 x33) x3).bind fun bt369 => (if bt369.2.2.2 = 0 then (if x13.length < 8796093022208 then (timer_Run.l0 k x0 x1 x3 bt369.1 (x13 ++ [(⟨bt369.2.1, bt369.2.2.1⟩ : S32)]) x31 x32 (wrap64 (x33 + 1))) else (none)) else (some (([] : List (S32)), bt369.2.2.2)))) else (none)) else (none)) else (some (x13, 0))
def timer_Run.f (k : Nat) (a0 : ByteArray) (l1 : List Int) (l2 : List (List (S32))) (a3 : Int) : Option ((List (S32)) × Int) := (timer_find.f k a0 l1).bind fun bt351 => (if bt351.2.2.2.2.2.2 = 0 then (if 0 ≤ bt351.2.2.2.2.1 then (if (bt351.2.2.2.2.1 : Int).toNat ≤ 35184372088832 then (timer_Run.l0 k a0 l1 a3 (List.replicate (bt351.2.2.2.2.1 : Int).toNat 0) ([] : List (S32)) l2 (l2.length : Int) 0) else (none)) else (none)) else (some (([] : List (S32)), bt351.2.2.2.2.2.2)))
theorem timer_Run.mono_l : ∀ k, (∀ y0 y1 y2 y3 y4 y5 y6 y7, LeO (timer_Run.l0 k y0 y1 y2 y3 y4 y5 y6 y7) (timer_Run.l0 (k + 1) y0 y1 y2 y3 y4 y5 y6 y7))
 | 0 => fun _ _ _ _ _ _ _ _ r h => by simp [timer_Run.l0] at h
 | k + 1 => by
  have ih0 := timer_Run.mono_l k
  ·
   intro y0 y1 y2 y3 y4 y5 y6 y7
   unfold timer_Run.l0
   repeat' first
   | (with_reducible exact ih0 _ _ _ _ _ _ _ _)
   | (with_reducible exact timer_Step.mono _ _ _ _ _ _)
   | (with_reducible exact timer_find.mono _ _ _)
   | (with_reducible exact LeO.refl _)
   | (with_reducible exact LeO.none _)
   | (with_reducible refine LeO.ite ?_ ?_)
   | (with_reducible refine LeO.bind ?_ (fun _ => ?_))
   | exact ih0 _ _ _ _ _ _ _ _
   | exact timer_Step.mono _ _ _ _ _ _
   | exact timer_find.mono _ _ _
   | exact LeO.none _
   | refine LeO.ite ?_ ?_
   | refine LeO.bind ?_ (fun _ => ?_)
theorem timer_Run.mono : ∀ a0 a1 a2 a3 k, LeO (timer_Run.f k a0 a1 a2 a3) (timer_Run.f (k + 1) a0 a1 a2 a3) := by
 intro a0 a1 a2 a3 k
 have ih0 := timer_Run.mono_l k
 unfold timer_Run.f
 repeat' first
   | (with_reducible exact ih0 _ _ _ _ _ _ _ _)
   | (with_reducible exact timer_Step.mono _ _ _ _ _ _)
   | (with_reducible exact timer_find.mono _ _ _)
   | (with_reducible exact LeO.refl _)
   | (with_reducible exact LeO.none _)
   | (with_reducible refine LeO.ite ?_ ?_)
   | (with_reducible refine LeO.bind ?_ (fun _ => ?_))
   | exact ih0 _ _ _ _ _ _ _ _
   | exact timer_Step.mono _ _ _ _ _ _
   | exact timer_find.mono _ _ _
   | exact LeO.none _
   | refine LeO.ite ?_ ?_
   | refine LeO.bind ?_ (fun _ => ?_)
set_option maxHeartbeats 8000000 in
set_option maxRecDepth 100000 in
theorem timer_Run.calls (k : Nat) (a0 : ByteArray) (A1 : Option Addr) (c1 : Nat) (l1 : List Int) (A2 : Option Addr) (c2 : Nat) (l2 : List (List (S32))) (a3 : Int) (r1 : List (S32)) (r2 : Int) (w : World) (hr1 : Kd.C (Kd.int .i64) w A1 l1.length l1) (hc1 : l1.length ≤ c1) (hr2 : Kd.C (Kd.slice 32 k32) w A2 l2.length l2) (hc2 : l2.length ≤ c2) (hG : GW w) (h : timer_Run.f k a0 l1 l2 a3 = some (r1, r2)) :
  Calls Tryd.prog 9 #[.string a0, .slice A1 l1.length c1, .slice A2 l2.length c2, .int .i64 a3] w fun e w' => ∃ v0_ : Value, e = .returned (.tuple #[v0_, .int .i64 r2]) ∧ Kd.R k32 32 w' w.heap.size (fun _ => True) v0_ r1 ∧ Below w.heap.size w w' := by
 have hu45 := Tryd.underlying45
 have hu32 := Tryd.underlying32
 have HG := Aside0.mk hG
 clear hG
 have HR1 := Aside0.mk hr1
 have HC1 := Aside0.mk hc1
 clear hr1 hc1
 have HR2 := Aside0.mk hr2
 have HC2 := Aside0.mk hc2
 clear hr2 hc2
 have HB := Aside0.mk (Below.refl w.heap.size w)
 have H : ((timer_find.f k a0 l1).bind fun bt351 => (if bt351.2.2.2.2.2.2 = 0 then (if 0 ≤ bt351.2.2.2.2.1 then (if (bt351.2.2.2.2.1 : Int).toNat ≤ 35184372088832 then (timer_Run.l0 k a0 l1 a3 (List.replicate (bt351.2.2.2.2.1 : Int).toNat 0) ([] : List (S32)) l2 (l2.length : Int) 0) else (none)) else (none)) else (some (([] : List (S32)), bt351.2.2.2.2.2.2)))) = some (r1, r2) := h
 clear h
 replace H := Option.bind_eq_some_iff.mp H
 obtain ⟨⟨t351, t352, t355, t358, t361, t362, t363⟩, A50, H⟩ := H
 (try dsimp only at H)
 have A5 := Aside0.mk A50
 clear A50
 by_cases c6 : t363 = 0
 ·
  rw [if_pos c6] at H
  have c6b0 : (t363 == 0) = true := beq_iff_eq.mpr c6
  have c6b1 : (t363 != 0) = false := bne_eq_false_iff_eq.mpr c6
  clear c6
  by_cases c7 : 0 ≤ t361
  rotate_left
  ·
   rw [if_neg c7] at H
   exact absurd H (by simp)
  rw [if_pos c7] at H
  have c7b0 := eq_true c7
  have c7b1 : decide (0 ≤ t361) = true := decide_eq_true c7
  clear c7
  by_cases c8 : (t361 : Int).toNat ≤ 35184372088832
  rotate_left
  ·
   rw [if_neg c8] at H
   exact absurd H (by simp)
  rw [if_pos c8] at H
  have c8b0 := eq_true c8
  have c8b1 : decide ((t361 : Int).toNat ≤ 35184372088832) = true := decide_eq_true c8
  clear c8
  obtain ⟨y365, hy365⟩ : ∃ y_ : List Int, y_ = (List.replicate (t361 : Int).toNat 0) := ⟨_, rfl⟩
  replace H : (timer_Run.l0 k a0 l1 a3 y365 ([] : List (S32)) l2 (l2.length : Int) 0) = some (r1, r2) := by first | (rw [hy365]; with_reducible exact H) | (have H2_ := (Option.bind_some _ _).symm.trans H; rw [hy365]; with_reducible exact H2_) | (have H2_ := (Option.bind_some _ _).symm.trans H; with_reducible exact H2_) | with_reducible exact H | (rw [hy365]; exact H) | exact H
  have Ny365 := Aside0.mk hy365
  clear hy365
  have H' := Aside0.mk H
  clear H
  go_enter Tryd.func9, Tryd.ntmps9
  go_wp2_with (first | ((with_reducible refine gate_callee (f := 14) rfl ?_); refine goesL_ (some 22) rfl rfl Tryd.func14 (by kernel_rfl) rfl #[.string a0, .slice A1 l1.length c1] rfl aeq ?_; (with_reducible refine (timer_find.calls k a0 _ _ l1 t351 t352 t355 t358 t361 t362 t363 _ ?side1 ?side2 ?side3 A5.out).mono ?_); (case side1 => repeat (first | exact HR1.out | (with_reducible refine Kd.C_alloc ?_ _) | (with_reducible refine Kd.C_drewN ?_ _) | (with_reducible refine Kd.C_drew ?_))); (case side2 => exact HC1.out); (case side3 => exact GW.below HG.out bl); rintro e w9 ⟨v353, v356, v359, rfl, ho0, ho1, ho2, hb⟩; refine ⟨_, rfl, ?_⟩; have n0_ := Aside0.mk (Kd.R_lower ho0 (below_size bl)); have n1_ := Aside0.mk (Kd.R_lower ho1 (below_size bl)); have n2_ := Aside0.mk (Kd.R_lower ho2 (below_size bl)); have n3_ := Aside0.mk (below_step bl hb); revert n0_ n1_ n2_ n3_; clear HB; intro HO354 HO357 HO360 HB; (try clear hb); (try clear hb2); (try clear hk); (try clear hi); (try clear ho0); (try clear ho1); (try clear ho2)) | ((with_reducible refine gate_dst (N := 10) rfl ?_); refine box_event ?hg (N := 10) ?hd (cs := #[.string (⟨#[]⟩ : ByteArray), .slice none 0 0, .slice none 0 0, .slice none 0 0, .int .i64 0, .int .i64 0]) (t := 45) ?hr ?_; (case hd => rfl); (case hg => rfl); (case hr => first | (go_simp; done) | (go_simp; rfl)); intro gb364 hg w10 hbox hb; have n0_ := Aside0.mk (Kd.R_below (rr HO354.out) hb); have n1_ := Aside0.mk (Kd.R_below (rr HO357.out) hb); have n2_ := Aside0.mk (Kd.R_below (rr HO360.out) hb); have n3_ := Aside0.mk (below_step bl hb); have n4_ := Aside0.mk (hbox); have n5_ := Aside0.mk ((by rw [hg]; exact (below_size bl) : w.heap.size ≤ gb364)); have n6_ := Aside0.mk ((by rw [hg]; exact (below_size bl) : w.heap.size ≤ gb364)); revert n0_ n1_ n2_ n3_ n4_ n5_ n6_; clear HO354 HO357 HO360 HB; intro HO354 HO357 HO360 HB BK364 GW364 GE364; clear hb hbox hg; have hcz11_0 : w10.cell? ⟨gb364, 0, none⟩ = some (.string (⟨#[]⟩ : ByteArray)) := (blk_cell BK364.out 0).trans rfl; have hcz11_1 : w10.cell? ⟨gb364, 1, none⟩ = some (.slice none 0 0) := (blk_cell BK364.out 1).trans rfl; have hcz11_2 : w10.cell? ⟨gb364, 2, none⟩ = some (.slice none 0 0) := (blk_cell BK364.out 2).trans rfl; have hcz11_3 : w10.cell? ⟨gb364, 3, none⟩ = some (.slice none 0 0) := (blk_cell BK364.out 3).trans rfl; have hcz11_4 : w10.cell? ⟨gb364, 4, none⟩ = some (.int .i64 0) := (blk_cell BK364.out 4).trans rfl; have hcz11_5 : w10.cell? ⟨gb364, 5, none⟩ = some (.int .i64 0) := (blk_cell BK364.out 5).trans rfl; have hfz11_0 := blk_frozen BK364.out 0; have hfz11_1 := blk_frozen BK364.out 1; have hfz11_2 := blk_frozen BK364.out 2; have hfz11_3 := blk_frozen BK364.out 3; have hfz11_4 := blk_frozen BK364.out 4; have hfz11_5 := blk_frozen BK364.out 5; obtain ⟨Ao12, co12, eo12⟩ := Kd.R_slice HO354.out; subst eo12; obtain ⟨Ao13, co13, eo13⟩ := Kd.R_slice HO357.out; subst eo13; obtain ⟨Ao14, co14, eo14⟩ := Kd.R_slice HO360.out; subst eo14) | ((with_reducible refine gate_dst (N := 30) rfl ?_); refine Kd.R_make (Kd.int .i64) _ 2 rfl (N := 30) rfl 28 _ _ rfl t361 rfl rfl Tryd.underlying28 (.int .i64 0) 8 info2 rfl (by decide) (by omega) 0 (ok := fun _ => True) (okp := fun _ => True) rfl (fun _ hk => hk) trivial (ode) (Nat.le_trans (Nat.mul_le_mul_right _ (ode : t361.toNat ≤ 35184372088832)) (by omega)) (Below.refl _ _) (Nat.le_refl _) ?_; intro v366 w15 ho16 hb hg_ hnew_; clear hg_ hnew_; (first | rw [← Ny365.out] at ho16 | (simp only [Int.reduceToNat] at ho16; rw [← Ny365.out] at ho16)); have n0_ := Aside0.mk (Kd.R_below (rr ((Kd.R_mono (Kd.R_far (p := ⟨gb364, 5, none⟩) (Kd.R_far (p := ⟨gb364, 4, none⟩) (Kd.R_far (p := ⟨gb364, 3, none⟩) (Kd.R_far (p := ⟨gb364, 2, none⟩) (Kd.R_far (p := ⟨gb364, 1, none⟩) (Kd.R_far (p := ⟨gb364, 0, none⟩) (Kd.R_types HO354.out BK364.out (by decide)) (fun _ hk => hk.2) (.string t351)) (fun _ hk => hk.2) (.slice Ao12 t352.length co12)) (fun _ hk => hk.2) (.slice Ao13 t355.length co13)) (fun _ hk => hk.2) (.slice Ao14 t358.length co14)) (fun _ hk => hk.2) (.int .i64 t361)) (fun _ hk => hk.2) (.int .i64 t362)) (fun _ h_ => h_.1)))) hb); have n1_ := Aside0.mk (Kd.R_below (rr ((Kd.R_mono (Kd.R_far (p := ⟨gb364, 5, none⟩) (Kd.R_far (p := ⟨gb364, 4, none⟩) (Kd.R_far (p := ⟨gb364, 3, none⟩) (Kd.R_far (p := ⟨gb364, 2, none⟩) (Kd.R_far (p := ⟨gb364, 1, none⟩) (Kd.R_far (p := ⟨gb364, 0, none⟩) (Kd.R_types HO357.out BK364.out (by decide)) (fun _ hk => hk.2) (.string t351)) (fun _ hk => hk.2) (.slice Ao12 t352.length co12)) (fun _ hk => hk.2) (.slice Ao13 t355.length co13)) (fun _ hk => hk.2) (.slice Ao14 t358.length co14)) (fun _ hk => hk.2) (.int .i64 t361)) (fun _ hk => hk.2) (.int .i64 t362)) (fun _ h_ => h_.1)))) hb); have n2_ := Aside0.mk (Kd.R_below (rr ((Kd.R_mono (Kd.R_far (p := ⟨gb364, 5, none⟩) (Kd.R_far (p := ⟨gb364, 4, none⟩) (Kd.R_far (p := ⟨gb364, 3, none⟩) (Kd.R_far (p := ⟨gb364, 2, none⟩) (Kd.R_far (p := ⟨gb364, 1, none⟩) (Kd.R_far (p := ⟨gb364, 0, none⟩) (Kd.R_types HO360.out BK364.out (by decide)) (fun _ hk => hk.2) (.string t351)) (fun _ hk => hk.2) (.slice Ao12 t352.length co12)) (fun _ hk => hk.2) (.slice Ao13 t355.length co13)) (fun _ hk => hk.2) (.slice Ao14 t358.length co14)) (fun _ hk => hk.2) (.int .i64 t361)) (fun _ hk => hk.2) (.int .i64 t362)) (fun _ h_ => h_.1)))) hb); have n3_ := Aside0.mk (Kd.R_lower ho16 (below_size (bs1 GE364.out))); have n4_ := Aside0.mk (blk_below (g := gb364) (o := .cells #[.string t351, .slice Ao12 t352.length co12, .slice Ao13 t355.length co13, .slice Ao14 t358.length co14, .int .i64 t361, .int .i64 t362] 45 (0, 0)) (by (with_reducible repeat (first | apply blk_drewN | apply blk_drew | apply blk_alloc)); refine blk_put (cs := #[.string t351, .slice Ao12 t352.length co12, .slice Ao13 t355.length co13, .slice Ao14 t358.length co14, .int .i64 t361, .int .i64 0]) ?_ 5 _ rfl; (with_reducible repeat (first | apply blk_drewN | apply blk_drew | apply blk_alloc)); refine blk_put (cs := #[.string t351, .slice Ao12 t352.length co12, .slice Ao13 t355.length co13, .slice Ao14 t358.length co14, .int .i64 0, .int .i64 0]) ?_ 4 _ rfl; (with_reducible repeat (first | apply blk_drewN | apply blk_drew | apply blk_alloc)); refine blk_put (cs := #[.string t351, .slice Ao12 t352.length co12, .slice Ao13 t355.length co13, .slice none 0 0, .int .i64 0, .int .i64 0]) ?_ 3 _ rfl; (with_reducible repeat (first | apply blk_drewN | apply blk_drew | apply blk_alloc)); refine blk_put (cs := #[.string t351, .slice Ao12 t352.length co12, .slice none 0 0, .slice none 0 0, .int .i64 0, .int .i64 0]) ?_ 2 _ rfl; (with_reducible repeat (first | apply blk_drewN | apply blk_drew | apply blk_alloc)); refine blk_put (cs := #[.string t351, .slice none 0 0, .slice none 0 0, .slice none 0 0, .int .i64 0, .int .i64 0]) ?_ 1 _ rfl; (with_reducible repeat (first | apply blk_drewN | apply blk_drew | apply blk_alloc)); refine blk_put (cs := #[.string (⟨#[]⟩ : ByteArray), .slice none 0 0, .slice none 0 0, .slice none 0 0, .int .i64 0, .int .i64 0]) ?_ 0 _ rfl; (with_reducible repeat (first | apply blk_drewN | apply blk_drew | apply blk_alloc)); exact BK364.out) hb); have n5_ := Aside0.mk (below_step (bs1 GE364.out) hb); revert n0_ n1_ n2_ n3_ n4_ n5_; clear HO354 HO357 HO360 BK364 HB; intro HO354 HO357 HO360 HO367 BK364 HB; clear hb ho16))
  go_loopg [12, 13, 33] k (fun kq v12 v13 v33 w' => ∃ (x12_1 : List Int) (x13_1 : List (S32)) (x33_1 : Int), v33 = .int .i64 x33_1 ∧ Aside0 (timer_Run.l0 kq a0 l1 a3 x12_1 x13_1 l2 (l2.length : Int) x33_1 = some (r1, r2)) ∧ Aside0 (kq ≤ k) ∧ Aside0 (Kd.R (Kd.int .i64) 2 w' w.heap.size (fun _ => True) v12 x12_1) ∧ Aside0 (Kd.R k32 32 w' w.heap.size (fun _ => True) v13 x13_1) ∧ Aside0 (Kd.R k56 56 w' w.heap.size (fun _ => True) (.slice Ao12 t352.length co12) t352) ∧ Aside0 (Kd.R k69 69 w' w.heap.size (fun k_ => some k_ ≠ ((.slice Ao14 t358.length co14) : Value).ownBlock) (.slice Ao13 t355.length co13) t355) ∧ Aside0 (Kd.R k69 69 w' w.heap.size (fun k_ => some k_ ≠ ((.slice Ao13 t355.length co13) : Value).ownBlock) (.slice Ao14 t358.length co14) t358) ∧ Aside0 (w'.heap[gb364]? = some (.cells #[.string t351, (.slice Ao12 t352.length co12), (.slice Ao13 t355.length co13), (.slice Ao14 t358.length co14), .int .i64 t361, .int .i64 t362] 45 (0, 0))) ∧ Aside0 (Below w.heap.size w w'))
  case atStart => exact ⟨(y365), (([] : List (S32))), (0), (by first | rfl | (simp; done) | (simp [*]; done)), H', ⟨Nat.le_refl _⟩, ⟨rr HO367.out⟩, ⟨by first | exact Kd.R_nil _ _ _ _ _ | exact Kd.R_nil _ _ _ 0 _ | exact Kd.N_nil _ _ _ _ _ | exact Kd.V_nil _ _ _ _ _ | exact Kd.Q_nil _ _ _ _ _ | exact Kd.S_nil _ _ _ _ _⟩, ⟨rr HO354.out⟩, ⟨rr HO357.out⟩, ⟨rr HO360.out⟩, ⟨rb BK364.out⟩, ⟨bs1 GE364.out⟩⟩
  case round =>
   clear H'
   try clear c1
   try clear c2
   try clear p2
   try clear c6
   try clear c6b0
   try clear c6b1
   try clear c7
   try clear c7b0
   try clear c7b1
   try clear c8
   try clear c8b0
   try clear c8b1
   try clear c9
   try clear c14
   try clear hcz11_0
   try clear hcz11_1
   try clear hcz11_2
   try clear hcz11_3
   try clear hcz11_4
   try clear hcz11_5
   try clear hfz11_0
   try clear hfz11_1
   try clear hfz11_2
   try clear hfz11_3
   try clear hfz11_4
   try clear hfz11_5
   obtain ⟨x12_1, x13_1, x33_1, rfl, HA, HK1, HO_12, HO_13, HO_365001, HO_365002, HO_365003, BK364, HB⟩ := hrel
   cases gk with
   | zero => exact absurd HA.out (by simp [timer_Run.l0])
   | succ k1 =>
    have H := HA.out
    clear HA
    simp only [timer_Run.l0] at H
    by_cases c17 : x33_1 < (l2.length : Int)
    rotate_left
    ·
     rw [if_neg c17] at H
     have c17b0 : decide (x33_1 < (l2.length : Int)) = false := decide_eq_false c17
     clear c17
     simp only [Option.some.injEq, Prod.mk.injEq] at H
     obtain ⟨rfl, rfl⟩ := H
     go_wp2
     go_ret2
     exact ⟨_, by first | rfl | (simp [errW_none, errW_some] <;> rfl) | (simp [*, errW_none, errW_some] <;> rfl), rr HO_13.out, bs1 GE364.out⟩
    rw [if_pos c17] at H
    have c17b0 : decide (x33_1 < (l2.length : Int)) = true := decide_eq_true c17
    clear c17
    by_cases c18 : 0 ≤ x33_1
    rotate_left
    ·
     rw [if_neg c18] at H
     exact absurd H (by simp)
    rw [if_pos c18] at H
    have c18b0 : decide (0 ≤ x33_1) = true := decide_eq_true c18
    clear c18
    by_cases c19 : x33_1 < (l2.length : Int)
    rotate_left
    ·
     rw [if_neg c19] at H
     exact absurd H (by simp)
    rw [if_pos c19] at H
    have c19b0 : decide (x33_1 < (l2.length : Int)) = true := decide_eq_true c19
    clear c19
    replace H := Option.bind_eq_some_iff.mp H
    obtain ⟨⟨t369, t372, t373, t374⟩, A200, H⟩ := H
    (try dsimp only at H)
    have A20 := Aside0.mk A200
    clear A200
    by_cases c21 : t374 = 0
    rotate_left
    ·
     rw [if_neg c21] at H
     have c21b0 : (t374 == 0) = false := beq_eq_false_iff_ne.mpr c21
     have c21b1 : (t374 != 0) = true := bne_iff_ne.mpr c21
     simp only [Option.some.injEq, Prod.mk.injEq] at H
     obtain ⟨rfl, rfl⟩ := H
     have p368 : 0 ≤ (x33_1 : Int) := ode
     have q368 : x33_1 < (l2.length : Int) := ode
     obtain ⟨ad368, A368_0, c368_0, e368, hx368_0, hl368_0, hi368_0⟩ := at_L8 HR2.out x33_1 p368 q368
     cases e368
     replace hx368_0 := (HB.out.cell (World.block_lt_of_cell? w _ hx368_0)).trans hx368_0
     have HR368_0 := Aside0.mk hi368_0
     have HC368_0 := Aside0.mk hl368_0
     clear hi368_0 hl368_0
     replace p368 := eq_true p368
     replace q368 := eq_true q368
     obtain ⟨Ao29, co29, eo29⟩ := Kd.R_slice HO_12.out
     subst eo29
     go_wp2_with (first | ((with_reducible refine gate_callee (f := 15) rfl ?_); refine goesL_ (some 43) rfl rfl Tryd.func15 (by kernel_rfl) rfl #[.string a0, .slice A1 l1.length c1, .slice Ao29 x12_1.length co29, .slice A368_0 (rd_L8 l2 x33_1).length c368_0, .int .i64 a3] rfl aeq ?_; (with_reducible refine (timer_Step.calls k1 a0 _ _ l1 _ _ x12_1 _ _ (rd_L8 l2 x33_1) a3 t369 t372 t373 t374 _ ?side1 ?side2 ?side3 ?side4 ?side5 ?side6 ?side7 A20.out).mono ?_); (case side1 => repeat (first | exact (Kd.C_below HR1.out HB.out) | (with_reducible refine Kd.C_alloc ?_ _) | (with_reducible refine Kd.C_drewN ?_ _) | (with_reducible refine Kd.C_drew ?_))); (case side2 => exact HC1.out); (case side3 => repeat (first | exact (Kd.R_reads' HO_12.out).2.2 | (with_reducible refine Kd.C_alloc ?_ _) | (with_reducible refine Kd.C_drewN ?_ _) | (with_reducible refine Kd.C_drew ?_))); (case side4 => exact (Kd.R_reads' HO_12.out).2.1); (case side5 => repeat (first | exact (Kd.C_below HR368_0.out HB.out) | (with_reducible refine Kd.C_alloc ?_ _) | (with_reducible refine Kd.C_drewN ?_ _) | (with_reducible refine Kd.C_drew ?_))); (case side6 => exact HC368_0.out); (case side7 => exact GW.below HG.out (bs1 GE364.out)); rintro e w30 ⟨v370, rfl, ho0, hb⟩; refine ⟨_, rfl, ?_⟩; have n0_ := Aside0.mk (Kd.R_elder' (rr HO_12.out) (Kd.R_base ho0) hb); have n1_ := Aside0.mk (Kd.R_below (rr HO_13.out) hb); have n2_ := Aside0.mk (Kd.R_below (rr HO_365001.out) hb); have n3_ := Aside0.mk (Kd.R_below (rr HO_365002.out) hb); have n4_ := Aside0.mk (Kd.R_below (rr HO_365003.out) hb); have n5_ := Aside0.mk (Kd.R_lower (Kd.R_new' ho0 (Kd.R_lt (rr HO_12.out))) (below_size (bs1 GE364.out))); have n6_ := Aside0.mk (blk_below (g := gb364) (o := .cells #[.string t351, .slice Ao12 t352.length co12, .slice Ao13 t355.length co13, .slice Ao14 t358.length co14, .int .i64 t361, .int .i64 t362] 45 (0, 0)) (rb BK364.out) hb); have n7_ := Aside0.mk (below_step (bs1 GE364.out) hb); revert n0_ n1_ n2_ n3_ n4_ n5_ n6_ n7_; clear HO_12 HO_13 HO_365001 HO_365002 HO_365003 BK364 HB; intro HO_12 HO_13 HO_365001 HO_365002 HO_365003 HO371 BK364 HB; (try clear hb); (try clear hb2); (try clear hk); (try clear hi); (try clear ho0)) | ((with_reducible refine gate_dst (N := 17) rfl ?_); refine box_event ?hg (N := 17) ?hd (cs := #[.int .i64 0, .int .i64 0]) (t := 32) ?hr ?_; (case hd => rfl); (case hg => rfl); (case hr => first | (go_simp; done) | (go_simp; rfl)); intro gb375 hg w31 hbox hb; have n0_ := Aside0.mk (Kd.R_below (rr HO_12.out) hb); have n1_ := Aside0.mk (Kd.R_below (Kd.R_elderB (rr HO_13.out) gb375 (Nat.le_of_eq hg.symm)) hb); have n2_ := Aside0.mk (Kd.R_below (rr HO_365001.out) hb); have n3_ := Aside0.mk (Kd.R_below (rr HO_365002.out) hb); have n4_ := Aside0.mk (Kd.R_below (rr HO_365003.out) hb); have n5_ := Aside0.mk (Kd.R_below (rr HO371.out) hb); have n6_ := Aside0.mk (blk_below (g := gb364) (o := .cells #[.string t351, .slice Ao12 t352.length co12, .slice Ao13 t355.length co13, .slice Ao14 t358.length co14, .int .i64 t361, .int .i64 t362] 45 (0, 0)) (rb BK364.out) hb); have n7_ := Aside0.mk (below_step (bs1 GE364.out) hb); have n8_ := Aside0.mk (hbox); have n9_ := Aside0.mk ((by rw [hg]; exact (below_size (bs1 GE364.out)) : w.heap.size ≤ gb375)); have n10_ := Aside0.mk ((by rw [hg]; exact (below_size (bs1 GE364.out)) : w.heap.size ≤ gb375)); have n11_ := Aside0.mk ((by rw [hg]; exact Nat.ne_of_lt (blk_lt (g := gb364) (o := .cells #[.string t351, .slice Ao12 t352.length co12, .slice Ao13 t355.length co13, .slice Ao14 t358.length co14, .int .i64 t361, .int .i64 t362] 45 (0, 0)) (rb BK364.out)) : gb364 ≠ gb375)); have n12_ := Aside0.mk ((by rw [hg]; exact Nat.ne_of_gt (blk_lt (g := gb364) (o := .cells #[.string t351, .slice Ao12 t352.length co12, .slice Ao13 t355.length co13, .slice Ao14 t358.length co14, .int .i64 t361, .int .i64 t362] 45 (0, 0)) (rb BK364.out)) : gb375 ≠ gb364)); revert n0_ n1_ n2_ n3_ n4_ n5_ n6_ n7_ n8_ n9_ n10_ n11_ n12_; clear HO_12 HO_13 HO_365001 HO_365002 HO_365003 HO371 BK364 HB; intro HO_12 HO_13 HO_365001 HO_365002 HO_365003 HO371 BK364 HB BK375 GW375 GE375 NB364_375 NB375_364; clear hb hbox hg; have hnb32 := NB375_364.out; have hnc32 := NB364_375.out; have hcz33_0 : w31.cell? ⟨gb375, 0, none⟩ = some (.int .i64 0) := (blk_cell BK375.out 0).trans rfl; have hcz33_1 : w31.cell? ⟨gb375, 1, none⟩ = some (.int .i64 0) := (blk_cell BK375.out 1).trans rfl; have hfz33_0 := blk_frozen BK375.out 0; have hfz33_1 := blk_frozen BK375.out 1))
     go_ret2
     exact ⟨_, by first | rfl | (simp [errW_none, errW_some] <;> rfl) | (simp [*, errW_none, errW_some] <;> rfl), by first | exact Kd.R_nil _ _ _ _ _ | exact Kd.R_nil _ _ _ 0 _ | exact Kd.N_nil _ _ _ _ _ | exact Kd.V_nil _ _ _ _ _ | exact Kd.Q_nil _ _ _ _ _ | exact Kd.S_nil _ _ _ _ _, bs2 GE364.out GE375.out⟩
    rw [if_pos c21] at H
    have c21b0 : (t374 == 0) = true := beq_iff_eq.mpr c21
    have c21b1 : (t374 != 0) = false := bne_eq_false_iff_eq.mpr c21
    clear c21
    by_cases c22 : x13_1.length < 8796093022208
    rotate_left
    ·
     rw [if_neg c22] at H
     exact absurd H (by simp)
    rw [if_pos c22] at H
    have LMc22 := Aside0.mk c22
    clear c22
    obtain ⟨y376, hy376⟩ : ∃ y_ : List (S32), y_ = (x13_1 ++ [(⟨t372, t373⟩ : S32)]) := ⟨_, rfl⟩
    replace H : (timer_Run.l0 k1 a0 l1 a3 t369 y376 l2 (l2.length : Int) (wrap64 (x33_1 + 1))) = some (r1, r2) := by first | (rw [hy376]; with_reducible exact H) | (have H2_ := (Option.bind_some _ _).symm.trans H; rw [hy376]; with_reducible exact H2_) | (have H2_ := (Option.bind_some _ _).symm.trans H; with_reducible exact H2_) | with_reducible exact H | (rw [hy376]; exact H) | exact H
    have Ny376 := Aside0.mk hy376
    clear hy376
    have H' := Aside0.mk H
    clear H
    have p368 : 0 ≤ (x33_1 : Int) := ode
    have q368 : x33_1 < (l2.length : Int) := ode
    obtain ⟨ad368, A368_0, c368_0, e368, hx368_0, hl368_0, hi368_0⟩ := at_L8 HR2.out x33_1 p368 q368
    cases e368
    replace hx368_0 := (HB.out.cell (World.block_lt_of_cell? w _ hx368_0)).trans hx368_0
    have HR368_0 := Aside0.mk hi368_0
    have HC368_0 := Aside0.mk hl368_0
    clear hi368_0 hl368_0
    replace p368 := eq_true p368
    replace q368 := eq_true q368
    obtain ⟨Ao23, co23, eo23⟩ := Kd.R_slice HO_12.out
    subst eo23
    go_wp2_with (first | ((with_reducible refine gate_callee (f := 15) rfl ?_); refine goesL_ (some 43) rfl rfl Tryd.func15 (by kernel_rfl) rfl #[.string a0, .slice A1 l1.length c1, .slice Ao23 x12_1.length co23, .slice A368_0 (rd_L8 l2 x33_1).length c368_0, .int .i64 a3] rfl aeq ?_; (with_reducible refine (timer_Step.calls k1 a0 _ _ l1 _ _ x12_1 _ _ (rd_L8 l2 x33_1) a3 t369 t372 t373 t374 _ ?side1 ?side2 ?side3 ?side4 ?side5 ?side6 ?side7 A20.out).mono ?_); (case side1 => repeat (first | exact (Kd.C_below HR1.out HB.out) | (with_reducible refine Kd.C_alloc ?_ _) | (with_reducible refine Kd.C_drewN ?_ _) | (with_reducible refine Kd.C_drew ?_))); (case side2 => exact HC1.out); (case side3 => repeat (first | exact (Kd.R_reads' HO_12.out).2.2 | (with_reducible refine Kd.C_alloc ?_ _) | (with_reducible refine Kd.C_drewN ?_ _) | (with_reducible refine Kd.C_drew ?_))); (case side4 => exact (Kd.R_reads' HO_12.out).2.1); (case side5 => repeat (first | exact (Kd.C_below HR368_0.out HB.out) | (with_reducible refine Kd.C_alloc ?_ _) | (with_reducible refine Kd.C_drewN ?_ _) | (with_reducible refine Kd.C_drew ?_))); (case side6 => exact HC368_0.out); (case side7 => exact GW.below HG.out (bs1 GE364.out)); rintro e w24 ⟨v370, rfl, ho0, hb⟩; refine ⟨_, rfl, ?_⟩; have n0_ := Aside0.mk (Kd.R_elder' (rr HO_12.out) (Kd.R_base ho0) hb); have n1_ := Aside0.mk (Kd.R_below (rr HO_13.out) hb); have n2_ := Aside0.mk (Kd.R_below (rr HO_365001.out) hb); have n3_ := Aside0.mk (Kd.R_below (rr HO_365002.out) hb); have n4_ := Aside0.mk (Kd.R_below (rr HO_365003.out) hb); have n5_ := Aside0.mk (Kd.R_lower (Kd.R_new' ho0 (Kd.R_lt (rr HO_12.out))) (below_size (bs1 GE364.out))); have n6_ := Aside0.mk (blk_below (g := gb364) (o := .cells #[.string t351, .slice Ao12 t352.length co12, .slice Ao13 t355.length co13, .slice Ao14 t358.length co14, .int .i64 t361, .int .i64 t362] 45 (0, 0)) (rb BK364.out) hb); have n7_ := Aside0.mk (below_step (bs1 GE364.out) hb); revert n0_ n1_ n2_ n3_ n4_ n5_ n6_ n7_; clear HO_12 HO_13 HO_365001 HO_365002 HO_365003 BK364 HB; intro HO_12 HO_13 HO_365001 HO_365002 HO_365003 HO371 BK364 HB; (try clear hb); (try clear hb2); (try clear hk); (try clear hi); (try clear ho0)) | ((with_reducible refine gate_dst (N := 17) rfl ?_); refine box_event ?hg (N := 17) ?hd (cs := #[.int .i64 0, .int .i64 0]) (t := 32) ?hr ?_; (case hd => rfl); (case hg => rfl); (case hr => first | (go_simp; done) | (go_simp; rfl)); intro gb375 hg w25 hbox hb; have n0_ := Aside0.mk (Kd.R_below (rr HO_12.out) hb); have n1_ := Aside0.mk (Kd.R_below (Kd.R_elderB (rr HO_13.out) gb375 (Nat.le_of_eq hg.symm)) hb); have n2_ := Aside0.mk (Kd.R_below (rr HO_365001.out) hb); have n3_ := Aside0.mk (Kd.R_below (rr HO_365002.out) hb); have n4_ := Aside0.mk (Kd.R_below (rr HO_365003.out) hb); have n5_ := Aside0.mk (Kd.R_below (rr HO371.out) hb); have n6_ := Aside0.mk (blk_below (g := gb364) (o := .cells #[.string t351, .slice Ao12 t352.length co12, .slice Ao13 t355.length co13, .slice Ao14 t358.length co14, .int .i64 t361, .int .i64 t362] 45 (0, 0)) (rb BK364.out) hb); have n7_ := Aside0.mk (below_step (bs1 GE364.out) hb); have n8_ := Aside0.mk (hbox); have n9_ := Aside0.mk ((by rw [hg]; exact (below_size (bs1 GE364.out)) : w.heap.size ≤ gb375)); have n10_ := Aside0.mk ((by rw [hg]; exact (below_size (bs1 GE364.out)) : w.heap.size ≤ gb375)); have n11_ := Aside0.mk ((by rw [hg]; exact Nat.ne_of_lt (blk_lt (g := gb364) (o := .cells #[.string t351, .slice Ao12 t352.length co12, .slice Ao13 t355.length co13, .slice Ao14 t358.length co14, .int .i64 t361, .int .i64 t362] 45 (0, 0)) (rb BK364.out)) : gb364 ≠ gb375)); have n12_ := Aside0.mk ((by rw [hg]; exact Nat.ne_of_gt (blk_lt (g := gb364) (o := .cells #[.string t351, .slice Ao12 t352.length co12, .slice Ao13 t355.length co13, .slice Ao14 t358.length co14, .int .i64 t361, .int .i64 t362] 45 (0, 0)) (rb BK364.out)) : gb375 ≠ gb364)); revert n0_ n1_ n2_ n3_ n4_ n5_ n6_ n7_ n8_ n9_ n10_ n11_ n12_; clear HO_12 HO_13 HO_365001 HO_365002 HO_365003 HO371 BK364 HB; intro HO_12 HO_13 HO_365001 HO_365002 HO_365003 HO371 BK364 HB BK375 GW375 GE375 NB364_375 NB375_364; clear hb hbox hg; have hnb26 := NB375_364.out; have hnc26 := NB364_375.out; have hcz27_0 : w25.cell? ⟨gb375, 0, none⟩ = some (.int .i64 0) := (blk_cell BK375.out 0).trans rfl; have hcz27_1 : w25.cell? ⟨gb375, 1, none⟩ = some (.int .i64 0) := (blk_cell BK375.out 1).trans rfl; have hfz27_0 := blk_frozen BK375.out 0; have hfz27_1 := blk_frozen BK375.out 1) | ((with_reducible refine gate_builtin (b := .append) (xs := #[.tmp 51, .tmp 53]) rfl ?_); at_builtin; refine Kd.R_append k32 (w0 := w) w.heap.size rfl (.tmp 51) (.tmp 53) 24 32 (.agg #[(.int .i64 0), (.int .i64 0)]) 16 rfl Tryd.underlying24 info32 rfl (by decide) (by omega) u13 x13_1 (⟨t372, t373⟩ : S32) [.int .i64 t372, .int .i64 t373] (fun k_ => k_ ≠ gb375) (fun _ => False) rfl (by first | (go_simp; done) | (go_simp; rfl)) ?aP (fun _ hk => hk.elim) ?aF ?aO ?aB ?aS ?aL ?_; (case aP => exact k32_mkM _ _ _ (⟨t372, t373⟩ : S32)); (case aB => exact (bs2 GE364.out GE375.out)); (case aF => exact (fun k_ hk => Kd.freshB (g := gb375) (o := .cells #[.int .i64 t372, .int .i64 t373] 32 (0, 0)) (by (with_reducible repeat (first | apply blk_drewN | apply blk_drew | apply blk_alloc)); refine blk_put (cs := #[.int .i64 t372, .int .i64 0]) ?_ 1 _ rfl; (with_reducible repeat (first | apply blk_drewN | apply blk_drew | apply blk_alloc)); refine blk_put (cs := #[.int .i64 0, .int .i64 0]) ?_ 0 _ rfl; (with_reducible repeat (first | apply blk_drewN | apply blk_drew | apply blk_alloc)); exact BK375.out) k_ hk)); (case aO => exact (by (with_reducible repeat (first | apply Kd.R_alloc | apply Kd.R_drewN | apply Kd.R_drew)); exact Kd.R_mono (Kd.R_far (p := ⟨gb375, 1, none⟩) (Kd.R_far (p := ⟨gb375, 0, none⟩) (Kd.R_mono HO_13.out (fun k_ hk => (⟨hk, hk.2⟩ : _ ∧ k_ ≠ gb375))) (fun _ hk => hk.2) (.int .i64 t372)) (fun _ hk => hk.2) (.int .i64 t373)) (fun _ hk => hk.1.2))); (case aS => exact (below_size (bs2 GE364.out GE375.out))); (case aL => have := LMc22.out; omega); intro v377 w28 ho hb hg hat; rw [← Ny376.out] at ho; have n0_ := Aside0.mk (Kd.R_over' (rr ((Kd.R_mono (Kd.R_far (p := ⟨gb375, 1, none⟩) (Kd.R_far (p := ⟨gb375, 0, none⟩) (Kd.R_types HO_12.out BK375.out (by decide)) (fun _ hk => hk.2) (.int .i64 t372)) (fun _ hk => hk.2) (.int .i64 t373)) (fun _ h_ => h_.1)))) (Kd.R_typed (by (with_reducible repeat (first | apply Kd.R_alloc | apply Kd.R_drewN | apply Kd.R_drew)); exact (Kd.R_mono (Kd.R_far (p := ⟨gb375, 1, none⟩) (Kd.R_far (p := ⟨gb375, 0, none⟩) (Kd.R_mono HO_13.out (fun k_ hk => (⟨hk, hk.2⟩ : _ ∧ k_ ≠ gb375))) (fun _ hk => hk.2) (.int .i64 t372)) (fun _ hk => hk.2) (.int .i64 t373)) (fun _ h_ => h_.1)))) (by decide) hg); have n1_ := Aside0.mk (Kd.R_over' (rr ((Kd.R_mono (Kd.R_far (p := ⟨gb375, 1, none⟩) (Kd.R_far (p := ⟨gb375, 0, none⟩) (Kd.R_types HO_365001.out BK375.out (by decide)) (fun _ hk => hk.2) (.int .i64 t372)) (fun _ hk => hk.2) (.int .i64 t373)) (fun _ h_ => h_.1)))) (Kd.R_typed (by (with_reducible repeat (first | apply Kd.R_alloc | apply Kd.R_drewN | apply Kd.R_drew)); exact (Kd.R_mono (Kd.R_far (p := ⟨gb375, 1, none⟩) (Kd.R_far (p := ⟨gb375, 0, none⟩) (Kd.R_mono HO_13.out (fun k_ hk => (⟨hk, hk.2⟩ : _ ∧ k_ ≠ gb375))) (fun _ hk => hk.2) (.int .i64 t372)) (fun _ hk => hk.2) (.int .i64 t373)) (fun _ h_ => h_.1)))) (by decide) hg); have n2_ := Aside0.mk (Kd.R_over' (rr ((Kd.R_mono (Kd.R_far (p := ⟨gb375, 1, none⟩) (Kd.R_far (p := ⟨gb375, 0, none⟩) (Kd.R_types HO_365002.out BK375.out (by decide)) (fun _ hk => hk.2) (.int .i64 t372)) (fun _ hk => hk.2) (.int .i64 t373)) (fun _ h_ => h_.1)))) (Kd.R_typed (by (with_reducible repeat (first | apply Kd.R_alloc | apply Kd.R_drewN | apply Kd.R_drew)); exact (Kd.R_mono (Kd.R_far (p := ⟨gb375, 1, none⟩) (Kd.R_far (p := ⟨gb375, 0, none⟩) (Kd.R_mono HO_13.out (fun k_ hk => (⟨hk, hk.2⟩ : _ ∧ k_ ≠ gb375))) (fun _ hk => hk.2) (.int .i64 t372)) (fun _ hk => hk.2) (.int .i64 t373)) (fun _ h_ => h_.1)))) (by decide) hg); have n3_ := Aside0.mk (Kd.R_over' (rr ((Kd.R_mono (Kd.R_far (p := ⟨gb375, 1, none⟩) (Kd.R_far (p := ⟨gb375, 0, none⟩) (Kd.R_types HO_365003.out BK375.out (by decide)) (fun _ hk => hk.2) (.int .i64 t372)) (fun _ hk => hk.2) (.int .i64 t373)) (fun _ h_ => h_.1)))) (Kd.R_typed (by (with_reducible repeat (first | apply Kd.R_alloc | apply Kd.R_drewN | apply Kd.R_drew)); exact (Kd.R_mono (Kd.R_far (p := ⟨gb375, 1, none⟩) (Kd.R_far (p := ⟨gb375, 0, none⟩) (Kd.R_mono HO_13.out (fun k_ hk => (⟨hk, hk.2⟩ : _ ∧ k_ ≠ gb375))) (fun _ hk => hk.2) (.int .i64 t372)) (fun _ hk => hk.2) (.int .i64 t373)) (fun _ h_ => h_.1)))) (by decide) hg); have n4_ := Aside0.mk (blk_grown (g := gb364) (o := .cells #[.string t351, .slice Ao12 t352.length co12, .slice Ao13 t355.length co13, .slice Ao14 t358.length co14, .int .i64 t361, .int .i64 t362] 45 (0, 0)) (by (with_reducible repeat (first | apply blk_drewN | apply blk_drew | apply blk_alloc)); refine blk_far ?_ NB364_375.out _; (with_reducible repeat (first | apply blk_drewN | apply blk_drew | apply blk_alloc)); refine blk_far ?_ NB364_375.out _; (with_reducible repeat (first | apply blk_drewN | apply blk_drew | apply blk_alloc)); exact BK364.out) hg (Kd.R_ne HO_13.out BK364.out (by decide))); have n5_ := Aside0.mk (Kd.R_over' (rr ((Kd.R_mono (Kd.R_far (p := ⟨gb375, 1, none⟩) (Kd.R_far (p := ⟨gb375, 0, none⟩) (Kd.R_types HO371.out BK375.out (by decide)) (fun _ hk => hk.2) (.int .i64 t372)) (fun _ hk => hk.2) (.int .i64 t373)) (fun _ h_ => h_.1)))) (Kd.R_typed (by (with_reducible repeat (first | apply Kd.R_alloc | apply Kd.R_drewN | apply Kd.R_drew)); exact (Kd.R_mono (Kd.R_far (p := ⟨gb375, 1, none⟩) (Kd.R_far (p := ⟨gb375, 0, none⟩) (Kd.R_mono HO_13.out (fun k_ hk => (⟨hk, hk.2⟩ : _ ∧ k_ ≠ gb375))) (fun _ hk => hk.2) (.int .i64 t372)) (fun _ hk => hk.2) (.int .i64 t373)) (fun _ h_ => h_.1)))) (by decide) hg); have n6_ := Aside0.mk (blk_grown (g := gb375) (o := .cells #[.int .i64 t372, .int .i64 t373] 32 (0, 0)) (by (with_reducible repeat (first | apply blk_drewN | apply blk_drew | apply blk_alloc)); refine blk_put (cs := #[.int .i64 t372, .int .i64 0]) ?_ 1 _ rfl; (with_reducible repeat (first | apply blk_drewN | apply blk_drew | apply blk_alloc)); refine blk_put (cs := #[.int .i64 0, .int .i64 0]) ?_ 0 _ rfl; (with_reducible repeat (first | apply blk_drewN | apply blk_drew | apply blk_alloc)); exact BK375.out) hg (Kd.R_away HO_13.out (fun _ hk => hk.2))); have n7_ := Aside0.mk (hb); have n8_ := Aside0.mk (ho); revert n0_ n1_ n2_ n3_ n4_ n5_ n6_ n7_ n8_; clear HO_12 HO_365001 HO_365002 HO_365003 BK364 HO371 BK375 HB HO_13; intro HO_12 HO_365001 HO_365002 HO_365003 BK364 HO371 BK375 HB HO378; clear ho hb hg hat))
    go_roundg k1
    case measure => have := HK1.out; omega
    case rel => exact ⟨(t369), (y376), (wrap64 (x33_1 + 1)), (by first | rfl | (simp; done) | (simp [*]; done)), H', ⟨by have := HK1.out; omega⟩, ⟨rr (Kd.R_mono HO371.out (fun _ hk => trivial))⟩, ⟨rr (Kd.R_mono HO378.out (fun _ hk => trivial))⟩, ⟨rr HO_365001.out⟩, ⟨rr HO_365002.out⟩, ⟨rr HO_365003.out⟩, ⟨rb BK364.out⟩, ⟨bs2 GE364.out GE375.out⟩⟩
 ·
  rw [if_neg c6] at H
  have c6b0 : (t363 == 0) = false := beq_eq_false_iff_ne.mpr c6
  have c6b1 : (t363 != 0) = true := bne_iff_ne.mpr c6
  simp only [Option.some.injEq, Prod.mk.injEq] at H
  obtain ⟨rfl, rfl⟩ := H
  go_enter Tryd.func9, Tryd.ntmps9
  go_wp2_with (first | ((with_reducible refine gate_callee (f := 14) rfl ?_); refine goesL_ (some 22) rfl rfl Tryd.func14 (by kernel_rfl) rfl #[.string a0, .slice A1 l1.length c1] rfl aeq ?_; (with_reducible refine (timer_find.calls k a0 _ _ l1 t351 t352 t355 t358 t361 t362 t363 _ ?side1 ?side2 ?side3 A5.out).mono ?_); (case side1 => repeat (first | exact HR1.out | (with_reducible refine Kd.C_alloc ?_ _) | (with_reducible refine Kd.C_drewN ?_ _) | (with_reducible refine Kd.C_drew ?_))); (case side2 => exact HC1.out); (case side3 => exact GW.below HG.out bl); rintro e w34 ⟨v353, v356, v359, rfl, ho0, ho1, ho2, hb⟩; refine ⟨_, rfl, ?_⟩; have n0_ := Aside0.mk (Kd.R_lower ho0 (below_size bl)); have n1_ := Aside0.mk (Kd.R_lower ho1 (below_size bl)); have n2_ := Aside0.mk (Kd.R_lower ho2 (below_size bl)); have n3_ := Aside0.mk (below_step bl hb); revert n0_ n1_ n2_ n3_; clear HB; intro HO354 HO357 HO360 HB; (try clear hb); (try clear hb2); (try clear hk); (try clear hi); (try clear ho0); (try clear ho1); (try clear ho2)) | ((with_reducible refine gate_dst (N := 10) rfl ?_); refine box_event ?hg (N := 10) ?hd (cs := #[.string (⟨#[]⟩ : ByteArray), .slice none 0 0, .slice none 0 0, .slice none 0 0, .int .i64 0, .int .i64 0]) (t := 45) ?hr ?_; (case hd => rfl); (case hg => rfl); (case hr => first | (go_simp; done) | (go_simp; rfl)); intro gb364 hg w35 hbox hb; have n0_ := Aside0.mk (Kd.R_below (rr HO354.out) hb); have n1_ := Aside0.mk (Kd.R_below (rr HO357.out) hb); have n2_ := Aside0.mk (Kd.R_below (rr HO360.out) hb); have n3_ := Aside0.mk (below_step bl hb); have n4_ := Aside0.mk (hbox); have n5_ := Aside0.mk ((by rw [hg]; exact (below_size bl) : w.heap.size ≤ gb364)); have n6_ := Aside0.mk ((by rw [hg]; exact (below_size bl) : w.heap.size ≤ gb364)); revert n0_ n1_ n2_ n3_ n4_ n5_ n6_; clear HO354 HO357 HO360 HB; intro HO354 HO357 HO360 HB BK364 GW364 GE364; clear hb hbox hg; have hcz36_0 : w35.cell? ⟨gb364, 0, none⟩ = some (.string (⟨#[]⟩ : ByteArray)) := (blk_cell BK364.out 0).trans rfl; have hcz36_1 : w35.cell? ⟨gb364, 1, none⟩ = some (.slice none 0 0) := (blk_cell BK364.out 1).trans rfl; have hcz36_2 : w35.cell? ⟨gb364, 2, none⟩ = some (.slice none 0 0) := (blk_cell BK364.out 2).trans rfl; have hcz36_3 : w35.cell? ⟨gb364, 3, none⟩ = some (.slice none 0 0) := (blk_cell BK364.out 3).trans rfl; have hcz36_4 : w35.cell? ⟨gb364, 4, none⟩ = some (.int .i64 0) := (blk_cell BK364.out 4).trans rfl; have hcz36_5 : w35.cell? ⟨gb364, 5, none⟩ = some (.int .i64 0) := (blk_cell BK364.out 5).trans rfl; have hfz36_0 := blk_frozen BK364.out 0; have hfz36_1 := blk_frozen BK364.out 1; have hfz36_2 := blk_frozen BK364.out 2; have hfz36_3 := blk_frozen BK364.out 3; have hfz36_4 := blk_frozen BK364.out 4; have hfz36_5 := blk_frozen BK364.out 5; obtain ⟨Ao37, co37, eo37⟩ := Kd.R_slice HO354.out; subst eo37; obtain ⟨Ao38, co38, eo38⟩ := Kd.R_slice HO357.out; subst eo38; obtain ⟨Ao39, co39, eo39⟩ := Kd.R_slice HO360.out; subst eo39))
  go_ret2
  exact ⟨_, by first | rfl | (simp [errW_none, errW_some] <;> rfl) | (simp [*, errW_none, errW_some] <;> rfl), by first | exact Kd.R_nil _ _ _ _ _ | exact Kd.R_nil _ _ _ 0 _ | exact Kd.N_nil _ _ _ _ _ | exact Kd.V_nil _ _ _ _ _ | exact Kd.Q_nil _ _ _ _ _ | exact Kd.S_nil _ _ _ _ _, bs1 GE364.out⟩

end Go.Proofs.YtjjbdgngncgikaaDoor.R
