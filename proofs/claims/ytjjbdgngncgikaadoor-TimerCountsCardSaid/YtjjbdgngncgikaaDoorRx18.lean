-- Written by this claim's own program out of the translation; not trusted: Lean checks it.
import Derived.Test.YtjjbdgngncgikaaDoorRx0
import Derived.Test.YtjjbdgngncgikaaDoorRx8
import Derived.Test.YtjjbdgngncgikaaDoorRx15
import Derived.Test.YtjjbdgngncgikaaDoorRx16
import Derived.Test.YtjjbdgngncgikaaDoorRx17
namespace Go.Proofs.YtjjbdgngncgikaaDoor.R
open Go.RowKit Go.Proofs.YtjjbdgngncgikaaDoorW.PrintWords Go.Proofs.YtjjbdgngncgikaaDoorW.PrintLast Go.Proofs.YtjjbdgngncgikaaDoorW.PrintMore
attribute [local go_sem] max2_int min2_int max_two min_two max_three min_three max_four min_four   -- for this text's walks alone
set_option linter.unusedVariables false
set_option linter.unusedSimpArgs false

/-! ### timer_Step: function 15 -/
def timer_Step.j0 : Nat → ByteArray → List Int → List Int → List (S32) → Int → Bool → ByteArray → List (S56) → List (S69) → List (S69) → Int → Int → Option (List Int × Int × Int × Int)
 | 0, _, _, _, _, _, _, _, _, _, _, _, _ => none
 | k + 1, x0, x1, x2, x3, x4, x47, x339000, x339001, x339002, x339003, x339004, x339005 => if x47 = true then (some (([] : List Int), 0, 0, 1)) else ((timer_inputs.f k x339000 x339001 x339002 x339003 x339004 x339005 x3).bind fun t340 => (if t340 = 0 then (if 0 ≤ (x2.length : Int) then (if ((x2.length : Int) : Int).toNat ≤ 35184372088832 then (if List.length (α := Int) (List.replicate ((x2.length : Int) : Int).toNat 0) = x2.length then ((timer_step.f k x0 x1 (x2) x3 x4).bind fun bt347 => (some (bt347.2.2, bt347.1, bt347.2.1, 0))) else (none)) else (none)) else (none)) else (some (([] : List Int), 0, 0, t340))))
def timer_Step.f (k : Nat) (a0 : ByteArray) (l1 : List Int) (l2 : List Int) (l3 : List (S32)) (a4 : Int) : Option (List Int × Int × Int × Int) := (timer_find.f k a0 l1).bind fun bt325 => (if bt325.2.2.2.2.2.2 = 0 then (if (l2.length : Int) = bt325.2.2.2.2.1 then ((timer_possible.f a0 l1 l2).bind fun t339 => (if t339 = true then (if a4 < 1 then (timer_Step.j0 k a0 l1 l2 l3 a4 true bt325.1 bt325.2.1 bt325.2.2.1 bt325.2.2.2.1 bt325.2.2.2.2.1 bt325.2.2.2.2.2.1) else (timer_Step.j0 k a0 l1 l2 l3 a4 (decide (a4 > 86400)) bt325.1 bt325.2.1 bt325.2.2.1 bt325.2.2.2.1 bt325.2.2.2.2.1 bt325.2.2.2.2.2.1)) else (timer_Step.j0 k a0 l1 l2 l3 a4 true bt325.1 bt325.2.1 bt325.2.2.1 bt325.2.2.2.1 bt325.2.2.2.2.1 bt325.2.2.2.2.2.1))) else (timer_Step.j0 k a0 l1 l2 l3 a4 true bt325.1 bt325.2.1 bt325.2.2.1 bt325.2.2.2.1 bt325.2.2.2.2.1 bt325.2.2.2.2.2.1)) else (some (([] : List Int), 0, 0, bt325.2.2.2.2.2.2)))
theorem timer_Step.mono_l : ∀ k, (∀ y0 y1 y2 y3 y4 y5 y6 y7 y8 y9 y10 y11, LeO (timer_Step.j0 k y0 y1 y2 y3 y4 y5 y6 y7 y8 y9 y10 y11) (timer_Step.j0 (k + 1) y0 y1 y2 y3 y4 y5 y6 y7 y8 y9 y10 y11))
 | 0 => fun _ _ _ _ _ _ _ _ _ _ _ _ r h => by simp [timer_Step.j0] at h
 | k + 1 => by
  have ih0 := timer_Step.mono_l k
  ·
   intro y0 y1 y2 y3 y4 y5 y6 y7 y8 y9 y10 y11
   unfold timer_Step.j0
   repeat' first
   | (with_reducible exact ih0 _ _ _ _ _ _ _ _ _ _ _ _)
   | (with_reducible exact timer_find.mono _ _ _)
   | (with_reducible exact timer_inputs.mono _ _ _ _ _ _ _ _)
   | (with_reducible exact timer_step.mono _ _ _ _ _ _)
   | (with_reducible exact LeO.refl _)
   | (with_reducible exact LeO.none _)
   | (with_reducible refine LeO.ite ?_ ?_)
   | (with_reducible refine LeO.bind ?_ (fun _ => ?_))
   | exact ih0 _ _ _ _ _ _ _ _ _ _ _ _
   | exact timer_find.mono _ _ _
   | exact timer_inputs.mono _ _ _ _ _ _ _ _
   | exact timer_step.mono _ _ _ _ _ _
   | exact LeO.none _
   | refine LeO.ite ?_ ?_
   | refine LeO.bind ?_ (fun _ => ?_)
theorem timer_Step.mono : ∀ a0 a1 a2 a3 a4 k, LeO (timer_Step.f k a0 a1 a2 a3 a4) (timer_Step.f (k + 1) a0 a1 a2 a3 a4) := by
 intro a0 a1 a2 a3 a4 k
 have ih0 := timer_Step.mono_l k
 unfold timer_Step.f
 repeat' first
   | (with_reducible exact ih0 _ _ _ _ _ _ _ _ _ _ _ _)
   | (with_reducible exact timer_find.mono _ _ _)
   | (with_reducible exact timer_inputs.mono _ _ _ _ _ _ _ _)
   | (with_reducible exact timer_step.mono _ _ _ _ _ _)
   | (with_reducible exact LeO.refl _)
   | (with_reducible exact LeO.none _)
   | (with_reducible refine LeO.ite ?_ ?_)
   | (with_reducible refine LeO.bind ?_ (fun _ => ?_))
   | exact ih0 _ _ _ _ _ _ _ _ _ _ _ _
   | exact timer_find.mono _ _ _
   | exact timer_inputs.mono _ _ _ _ _ _ _ _
   | exact timer_step.mono _ _ _ _ _ _
   | exact LeO.none _
   | refine LeO.ite ?_ ?_
   | refine LeO.bind ?_ (fun _ => ?_)
set_option maxHeartbeats 8000000 in
set_option maxRecDepth 100000 in
theorem timer_Step.calls (k : Nat) (a0 : ByteArray) (A1 : Option Addr) (c1 : Nat) (l1 : List Int) (A2 : Option Addr) (c2 : Nat) (l2 : List Int) (A3 : Option Addr) (c3 : Nat) (l3 : List (S32)) (a4 : Int) (r1 : List Int) (r2 : Int) (r3 : Int) (r4 : Int) (w : World) (hr1 : Kd.C (Kd.int .i64) w A1 l1.length l1) (hc1 : l1.length ≤ c1) (hr2 : Kd.C (Kd.int .i64) w A2 l2.length l2) (hc2 : l2.length ≤ c2) (hr3 : Kd.C k32 w A3 l3.length l3) (hc3 : l3.length ≤ c3) (hG : GW w) (h : timer_Step.f k a0 l1 l2 l3 a4 = some (r1, r2, r3, r4)) :
  Calls Tryd.prog 15 #[.string a0, .slice A1 l1.length c1, .slice A2 l2.length c2, .slice A3 l3.length c3, .int .i64 a4] w fun e w' => ∃ v0_ : Value, e = .returned (.tuple #[v0_, .agg #[.int .i64 r2, .int .i64 r3], .int .i64 r4]) ∧ Kd.R (Kd.int .i64) 2 w' w.heap.size (fun _ => True) v0_ r1 ∧ Below w.heap.size w w' := by
 have hu32 := Tryd.underlying32
 have hu45 := Tryd.underlying45
 have HG := Aside0.mk hG
 clear hG
 have HR1 := Aside0.mk hr1
 have HC1 := Aside0.mk hc1
 clear hr1 hc1
 have HR2 := Aside0.mk hr2
 have HC2 := Aside0.mk hc2
 clear hr2 hc2
 have HR3 := Aside0.mk hr3
 have HC3 := Aside0.mk hc3
 clear hr3 hc3
 have HB := Aside0.mk (Below.refl w.heap.size w)
 have H : ((timer_find.f k a0 l1).bind fun bt325 => (if bt325.2.2.2.2.2.2 = 0 then (if (l2.length : Int) = bt325.2.2.2.2.1 then ((timer_possible.f a0 l1 l2).bind fun t339 => (if t339 = true then (if a4 < 1 then (timer_Step.j0 k a0 l1 l2 l3 a4 true bt325.1 bt325.2.1 bt325.2.2.1 bt325.2.2.2.1 bt325.2.2.2.2.1 bt325.2.2.2.2.2.1) else (timer_Step.j0 k a0 l1 l2 l3 a4 (decide (a4 > 86400)) bt325.1 bt325.2.1 bt325.2.2.1 bt325.2.2.2.1 bt325.2.2.2.2.1 bt325.2.2.2.2.2.1)) else (timer_Step.j0 k a0 l1 l2 l3 a4 true bt325.1 bt325.2.1 bt325.2.2.1 bt325.2.2.2.1 bt325.2.2.2.2.1 bt325.2.2.2.2.2.1))) else (timer_Step.j0 k a0 l1 l2 l3 a4 true bt325.1 bt325.2.1 bt325.2.2.1 bt325.2.2.2.1 bt325.2.2.2.2.1 bt325.2.2.2.2.2.1)) else (some (([] : List Int), 0, 0, bt325.2.2.2.2.2.2)))) = some (r1, r2, r3, r4) := h
 clear h
 replace H := Option.bind_eq_some_iff.mp H
 obtain ⟨⟨t325, t326, t329, t332, t335, t336, t337⟩, A60, H⟩ := H
 (try dsimp only at H)
 have A6 := Aside0.mk A60
 clear A60
 by_cases c7 : t337 = 0
 ·
  rw [if_pos c7] at H
  have c7b0 : (t337 == 0) = true := beq_iff_eq.mpr c7
  have c7b1 : (t337 != 0) = false := bne_eq_false_iff_eq.mpr c7
  clear c7
  have HC8 := Aside0.mk H
  clear H
  go_enter Tryd.func15, Tryd.ntmps15
  go_upto_region 4 with (first | ((with_reducible refine gate_dst (N := 11) rfl ?_); refine box_event ?hg (N := 11) ?hd (cs := #[.int .i64 0, .int .i64 0]) (t := 32) ?hr ?_; (case hd => rfl); (case hg => rfl); (case hr => first | (go_simp; done) | (go_simp; rfl)); intro gb324 hg w9 hbox hb; have n0_ := Aside0.mk (below_step bl hb); have n1_ := Aside0.mk (hbox); have n2_ := Aside0.mk ((by rw [hg]; exact (below_size bl) : w.heap.size ≤ gb324)); have n3_ := Aside0.mk ((by rw [hg]; exact (below_size bl) : w.heap.size ≤ gb324)); revert n0_ n1_ n2_ n3_; clear HB; intro HB BK324 GW324 GE324; clear hb hbox hg) | ((with_reducible refine gate_callee (f := 14) rfl ?_); refine goesL_ (some 21) rfl rfl Tryd.func14 (by kernel_rfl) rfl #[.string a0, .slice A1 l1.length c1] rfl aeq ?_; (with_reducible refine (timer_find.calls k a0 _ _ l1 t325 t326 t329 t332 t335 t336 t337 _ ?side1 ?side2 ?side3 A6.out).mono ?_); (case side1 => repeat (first | exact (Kd.C_below HR1.out HB.out) | (with_reducible refine Kd.C_alloc ?_ _) | (with_reducible refine Kd.C_drewN ?_ _) | (with_reducible refine Kd.C_drew ?_))); (case side2 => exact HC1.out); (case side3 => exact GW.below HG.out (bs1 GE324.out)); rintro e w10 ⟨v327, v330, v333, rfl, ho0, ho1, ho2, hb⟩; refine ⟨_, rfl, ?_⟩; have n0_ := Aside0.mk (Kd.R_lower ho0 (below_size (bs1 GE324.out))); have n1_ := Aside0.mk (Kd.R_lower ho1 (below_size (bs1 GE324.out))); have n2_ := Aside0.mk (Kd.R_lower ho2 (below_size (bs1 GE324.out))); have n3_ := Aside0.mk (blk_below (g := gb324) (o := .cells #[.int .i64 0, .int .i64 0] 32 (0, 0)) (rb BK324.out) hb); have n4_ := Aside0.mk (below_step (bs1 GE324.out) hb); revert n0_ n1_ n2_ n3_ n4_; clear BK324 HB; intro HO328 HO331 HO334 BK324 HB; (try clear hb); (try clear hb2); (try clear hk); (try clear hi); (try clear ho0); (try clear ho1); (try clear ho2)) | ((with_reducible refine gate_dst (N := 13) rfl ?_); refine box_event ?hg (N := 13) ?hd (cs := #[.string (⟨#[]⟩ : ByteArray), .slice none 0 0, .slice none 0 0, .slice none 0 0, .int .i64 0, .int .i64 0]) (t := 45) ?hr ?_; (case hd => rfl); (case hg => rfl); (case hr => first | (go_simp; done) | (go_simp; rfl)); intro gb338 hg w11 hbox hb; have n0_ := Aside0.mk (Kd.R_below (rr HO328.out) hb); have n1_ := Aside0.mk (Kd.R_below (rr HO331.out) hb); have n2_ := Aside0.mk (Kd.R_below (rr HO334.out) hb); have n3_ := Aside0.mk (blk_below (g := gb324) (o := .cells #[.int .i64 0, .int .i64 0] 32 (0, 0)) (rb BK324.out) hb); have n4_ := Aside0.mk (below_step (bs1 GE324.out) hb); have n5_ := Aside0.mk (hbox); have n6_ := Aside0.mk ((by rw [hg]; exact (below_size (bs1 GE324.out)) : w.heap.size ≤ gb338)); have n7_ := Aside0.mk ((by rw [hg]; exact (below_size (bs1 GE324.out)) : w.heap.size ≤ gb338)); have n8_ := Aside0.mk ((by rw [hg]; exact Nat.ne_of_lt (blk_lt (g := gb324) (o := .cells #[.int .i64 0, .int .i64 0] 32 (0, 0)) (rb BK324.out)) : gb324 ≠ gb338)); have n9_ := Aside0.mk ((by rw [hg]; exact Nat.ne_of_gt (blk_lt (g := gb324) (o := .cells #[.int .i64 0, .int .i64 0] 32 (0, 0)) (rb BK324.out)) : gb338 ≠ gb324)); revert n0_ n1_ n2_ n3_ n4_ n5_ n6_ n7_ n8_ n9_; clear HO328 HO331 HO334 BK324 HB; intro HO328 HO331 HO334 BK324 HB BK338 GW338 GE338 NB324_338 NB338_324; clear hb hbox hg; have hnb12 := NB338_324.out; have hnc12 := NB324_338.out; have hcz13_0 : w11.cell? ⟨gb338, 0, none⟩ = some (.string (⟨#[]⟩ : ByteArray)) := (blk_cell BK338.out 0).trans rfl; have hcz13_1 : w11.cell? ⟨gb338, 1, none⟩ = some (.slice none 0 0) := (blk_cell BK338.out 1).trans rfl; have hcz13_2 : w11.cell? ⟨gb338, 2, none⟩ = some (.slice none 0 0) := (blk_cell BK338.out 2).trans rfl; have hcz13_3 : w11.cell? ⟨gb338, 3, none⟩ = some (.slice none 0 0) := (blk_cell BK338.out 3).trans rfl; have hcz13_4 : w11.cell? ⟨gb338, 4, none⟩ = some (.int .i64 0) := (blk_cell BK338.out 4).trans rfl; have hcz13_5 : w11.cell? ⟨gb338, 5, none⟩ = some (.int .i64 0) := (blk_cell BK338.out 5).trans rfl; have hfz13_0 := blk_frozen BK338.out 0; have hfz13_1 := blk_frozen BK338.out 1; have hfz13_2 := blk_frozen BK338.out 2; have hfz13_3 := blk_frozen BK338.out 3; have hfz13_4 := blk_frozen BK338.out 4; have hfz13_5 := blk_frozen BK338.out 5; obtain ⟨Ao14, co14, eo14⟩ := Kd.R_slice HO328.out; subst eo14; obtain ⟨Ao15, co15, eo15⟩ := Kd.R_slice HO331.out; subst eo15; obtain ⟨Ao16, co16, eo16⟩ := Kd.R_slice HO334.out; subst eo16))
  (try simp only [ap, sa, sb, sc])
  go_cut [47] (fun v47 wc => ∃ (kq : Nat) (x47_7 : Bool), v47 = .bool x47_7 ∧ Aside0 (timer_Step.j0 kq a0 l1 l2 l3 a4 x47_7 t325 t326 t329 t332 t335 t336 = some (r1, r2, r3, r4)) ∧ Aside0 (kq ≤ k) ∧ Aside0 (Kd.R k56 56 wc w.heap.size (fun _ => True) (.slice Ao14 t326.length co14) t326) ∧ Aside0 (Kd.R k69 69 wc w.heap.size (fun k_ => some k_ ≠ ((.slice Ao16 t332.length co16) : Value).ownBlock) (.slice Ao15 t329.length co15) t329) ∧ Aside0 (Kd.R k69 69 wc w.heap.size (fun k_ => some k_ ≠ ((.slice Ao15 t329.length co15) : Value).ownBlock) (.slice Ao16 t332.length co16) t332) ∧ Aside0 (wc.heap[gb324]? = some (.cells #[.int .i64 0, .int .i64 0] 32 (0, 0))) ∧ Aside0 (wc.heap[gb338]? = some (.cells #[.string t325, (.slice Ao14 t326.length co14), (.slice Ao15 t329.length co15), (.slice Ao16 t332.length co16), .int .i64 t335, .int .i64 t336] 45 (0, 0))) ∧ Aside0 (Below w.heap.size w wc))
  case first =>
   have H := HC8.out
   clear HC8
   by_cases c17 : (l2.length : Int) = t335
   rotate_left
   ·
    rw [if_neg c17] at H
    have c17b0 : ((l2.length : Int) == t335) = false := beq_eq_false_iff_ne.mpr c17
    have c17b1 : ((l2.length : Int) != t335) = true := bne_iff_ne.mpr c17
    (first | rw [c17b0] | (simp only [i64_w, i32_w]; rw [c17b0]) | skip)
    have H' := Aside0.mk H
    clear H
    have hnb30 := NB338_324.out
    have hnc30 := NB324_338.out
    have hcz31_0 : w11.cell? ⟨gb338, 0, none⟩ = some (.string (⟨#[]⟩ : ByteArray)) := (blk_cell BK338.out 0).trans rfl
    have hcz31_1 : w11.cell? ⟨gb338, 1, none⟩ = some (.slice none 0 0) := (blk_cell BK338.out 1).trans rfl
    have hcz31_2 : w11.cell? ⟨gb338, 2, none⟩ = some (.slice none 0 0) := (blk_cell BK338.out 2).trans rfl
    have hcz31_3 : w11.cell? ⟨gb338, 3, none⟩ = some (.slice none 0 0) := (blk_cell BK338.out 3).trans rfl
    have hcz31_4 : w11.cell? ⟨gb338, 4, none⟩ = some (.int .i64 0) := (blk_cell BK338.out 4).trans rfl
    have hcz31_5 : w11.cell? ⟨gb338, 5, none⟩ = some (.int .i64 0) := (blk_cell BK338.out 5).trans rfl
    have hfz31_0 := blk_frozen BK338.out 0
    have hfz31_1 := blk_frozen BK338.out 1
    have hfz31_2 := blk_frozen BK338.out 2
    have hfz31_3 := blk_frozen BK338.out 3
    have hfz31_4 := blk_frozen BK338.out 4
    have hfz31_5 := blk_frozen BK338.out 5
    go_wp2
    go_meet
    case rel => exact ⟨_, (true), (by first | rfl | (simp; done) | (simp [*]; done)), H', ⟨by first | omega | exact Nat.le_refl _⟩, ⟨rr (Kd.R_mono (Kd.R_far (p := ⟨gb338, 5, none⟩) (Kd.R_far (p := ⟨gb338, 4, none⟩) (Kd.R_far (p := ⟨gb338, 3, none⟩) (Kd.R_far (p := ⟨gb338, 2, none⟩) (Kd.R_far (p := ⟨gb338, 1, none⟩) (Kd.R_far (p := ⟨gb338, 0, none⟩) (Kd.R_types HO328.out BK338.out (by decide)) (fun _ hk => hk.2) (.string t325)) (fun _ hk => hk.2) (.slice Ao14 t326.length co14)) (fun _ hk => hk.2) (.slice Ao15 t329.length co15)) (fun _ hk => hk.2) (.slice Ao16 t332.length co16)) (fun _ hk => hk.2) (.int .i64 t335)) (fun _ hk => hk.2) (.int .i64 t336)) (fun _ hk => trivial))⟩, ⟨rr (Kd.R_mono (Kd.R_far (p := ⟨gb338, 5, none⟩) (Kd.R_far (p := ⟨gb338, 4, none⟩) (Kd.R_far (p := ⟨gb338, 3, none⟩) (Kd.R_far (p := ⟨gb338, 2, none⟩) (Kd.R_far (p := ⟨gb338, 1, none⟩) (Kd.R_far (p := ⟨gb338, 0, none⟩) (Kd.R_types HO331.out BK338.out (by decide)) (fun _ hk => hk.2) (.string t325)) (fun _ hk => hk.2) (.slice Ao14 t326.length co14)) (fun _ hk => hk.2) (.slice Ao15 t329.length co15)) (fun _ hk => hk.2) (.slice Ao16 t332.length co16)) (fun _ hk => hk.2) (.int .i64 t335)) (fun _ hk => hk.2) (.int .i64 t336)) (fun _ hk => hk.1))⟩, ⟨rr (Kd.R_mono (Kd.R_far (p := ⟨gb338, 5, none⟩) (Kd.R_far (p := ⟨gb338, 4, none⟩) (Kd.R_far (p := ⟨gb338, 3, none⟩) (Kd.R_far (p := ⟨gb338, 2, none⟩) (Kd.R_far (p := ⟨gb338, 1, none⟩) (Kd.R_far (p := ⟨gb338, 0, none⟩) (Kd.R_types HO334.out BK338.out (by decide)) (fun _ hk => hk.2) (.string t325)) (fun _ hk => hk.2) (.slice Ao14 t326.length co14)) (fun _ hk => hk.2) (.slice Ao15 t329.length co15)) (fun _ hk => hk.2) (.slice Ao16 t332.length co16)) (fun _ hk => hk.2) (.int .i64 t335)) (fun _ hk => hk.2) (.int .i64 t336)) (fun _ hk => hk.1))⟩, ⟨by (with_reducible repeat (first | apply blk_drewN | apply blk_drew | apply blk_alloc)); refine blk_far ?_ NB324_338.out _; (with_reducible repeat (first | apply blk_drewN | apply blk_drew | apply blk_alloc)); refine blk_far ?_ NB324_338.out _; (with_reducible repeat (first | apply blk_drewN | apply blk_drew | apply blk_alloc)); refine blk_far ?_ NB324_338.out _; (with_reducible repeat (first | apply blk_drewN | apply blk_drew | apply blk_alloc)); refine blk_far ?_ NB324_338.out _; (with_reducible repeat (first | apply blk_drewN | apply blk_drew | apply blk_alloc)); refine blk_far ?_ NB324_338.out _; (with_reducible repeat (first | apply blk_drewN | apply blk_drew | apply blk_alloc)); refine blk_far ?_ NB324_338.out _; (with_reducible repeat (first | apply blk_drewN | apply blk_drew | apply blk_alloc)); exact BK324.out⟩, ⟨by (with_reducible repeat (first | apply blk_drewN | apply blk_drew | apply blk_alloc)); refine blk_put (cs := #[.string t325, .slice Ao14 t326.length co14, .slice Ao15 t329.length co15, .slice Ao16 t332.length co16, .int .i64 t335, .int .i64 0]) ?_ 5 _ rfl; (with_reducible repeat (first | apply blk_drewN | apply blk_drew | apply blk_alloc)); refine blk_put (cs := #[.string t325, .slice Ao14 t326.length co14, .slice Ao15 t329.length co15, .slice Ao16 t332.length co16, .int .i64 0, .int .i64 0]) ?_ 4 _ rfl; (with_reducible repeat (first | apply blk_drewN | apply blk_drew | apply blk_alloc)); refine blk_put (cs := #[.string t325, .slice Ao14 t326.length co14, .slice Ao15 t329.length co15, .slice none 0 0, .int .i64 0, .int .i64 0]) ?_ 3 _ rfl; (with_reducible repeat (first | apply blk_drewN | apply blk_drew | apply blk_alloc)); refine blk_put (cs := #[.string t325, .slice Ao14 t326.length co14, .slice none 0 0, .slice none 0 0, .int .i64 0, .int .i64 0]) ?_ 2 _ rfl; (with_reducible repeat (first | apply blk_drewN | apply blk_drew | apply blk_alloc)); refine blk_put (cs := #[.string t325, .slice none 0 0, .slice none 0 0, .slice none 0 0, .int .i64 0, .int .i64 0]) ?_ 1 _ rfl; (with_reducible repeat (first | apply blk_drewN | apply blk_drew | apply blk_alloc)); refine blk_put (cs := #[.string (⟨#[]⟩ : ByteArray), .slice none 0 0, .slice none 0 0, .slice none 0 0, .int .i64 0, .int .i64 0]) ?_ 0 _ rfl; (with_reducible repeat (first | apply blk_drewN | apply blk_drew | apply blk_alloc)); exact BK338.out⟩, ⟨bs2 GE324.out GE338.out⟩⟩
   rw [if_pos c17] at H
   have c17b0 : ((l2.length : Int) == t335) = true := beq_iff_eq.mpr c17
   have c17b1 : ((l2.length : Int) != t335) = false := bne_eq_false_iff_eq.mpr c17
   clear c17
   (first | rw [c17b0] | (simp only [i64_w, i32_w]; rw [c17b0]) | skip)
   replace H := Option.bind_eq_some_iff.mp H
   obtain ⟨t339, A180, H⟩ := H
   (try dsimp only at H)
   have A18 := Aside0.mk A180
   clear A180
   by_cases c19 : t339 = true
   rotate_left
   ·
    replace c19 := Bool.eq_false_iff.mpr c19
    subst c19
    rw [if_neg (show ¬ (false = true) by decide)] at H
    have H' := Aside0.mk H
    clear H
    have hnb27 := NB338_324.out
    have hnc27 := NB324_338.out
    have hcz28_0 : w11.cell? ⟨gb338, 0, none⟩ = some (.string (⟨#[]⟩ : ByteArray)) := (blk_cell BK338.out 0).trans rfl
    have hcz28_1 : w11.cell? ⟨gb338, 1, none⟩ = some (.slice none 0 0) := (blk_cell BK338.out 1).trans rfl
    have hcz28_2 : w11.cell? ⟨gb338, 2, none⟩ = some (.slice none 0 0) := (blk_cell BK338.out 2).trans rfl
    have hcz28_3 : w11.cell? ⟨gb338, 3, none⟩ = some (.slice none 0 0) := (blk_cell BK338.out 3).trans rfl
    have hcz28_4 : w11.cell? ⟨gb338, 4, none⟩ = some (.int .i64 0) := (blk_cell BK338.out 4).trans rfl
    have hcz28_5 : w11.cell? ⟨gb338, 5, none⟩ = some (.int .i64 0) := (blk_cell BK338.out 5).trans rfl
    have hfz28_0 := blk_frozen BK338.out 0
    have hfz28_1 := blk_frozen BK338.out 1
    have hfz28_2 := blk_frozen BK338.out 2
    have hfz28_3 := blk_frozen BK338.out 3
    have hfz28_4 := blk_frozen BK338.out 4
    have hfz28_5 := blk_frozen BK338.out 5
    go_wp2_with (first | (go_at_call 21; (with_reducible refine (timer_possible.calls a0 _ _ l1 _ _ l2 false _ ?side1 ?side2 ?side3 ?side4 A18.out).mono ?_); (case side1 => exact Kd.C_below HR1.out (bs2 GE324.out GE338.out)); (case side2 => exact HC1.out); (case side3 => exact Kd.C_below HR2.out (bs2 GE324.out GE338.out)); (case side4 => exact HC2.out); rintro e w29 ⟨rfl, hb⟩; have n0_ := Aside0.mk (Kd.R_below (rr ((Kd.R_mono (Kd.R_far (p := ⟨gb338, 5, none⟩) (Kd.R_far (p := ⟨gb338, 4, none⟩) (Kd.R_far (p := ⟨gb338, 3, none⟩) (Kd.R_far (p := ⟨gb338, 2, none⟩) (Kd.R_far (p := ⟨gb338, 1, none⟩) (Kd.R_far (p := ⟨gb338, 0, none⟩) (Kd.R_types HO328.out BK338.out (by decide)) (fun _ hk => hk.2) (.string t325)) (fun _ hk => hk.2) (.slice Ao14 t326.length co14)) (fun _ hk => hk.2) (.slice Ao15 t329.length co15)) (fun _ hk => hk.2) (.slice Ao16 t332.length co16)) (fun _ hk => hk.2) (.int .i64 t335)) (fun _ hk => hk.2) (.int .i64 t336)) (fun _ h_ => h_.1)))) hb); have n1_ := Aside0.mk (Kd.R_below (rr ((Kd.R_mono (Kd.R_far (p := ⟨gb338, 5, none⟩) (Kd.R_far (p := ⟨gb338, 4, none⟩) (Kd.R_far (p := ⟨gb338, 3, none⟩) (Kd.R_far (p := ⟨gb338, 2, none⟩) (Kd.R_far (p := ⟨gb338, 1, none⟩) (Kd.R_far (p := ⟨gb338, 0, none⟩) (Kd.R_types HO331.out BK338.out (by decide)) (fun _ hk => hk.2) (.string t325)) (fun _ hk => hk.2) (.slice Ao14 t326.length co14)) (fun _ hk => hk.2) (.slice Ao15 t329.length co15)) (fun _ hk => hk.2) (.slice Ao16 t332.length co16)) (fun _ hk => hk.2) (.int .i64 t335)) (fun _ hk => hk.2) (.int .i64 t336)) (fun _ h_ => h_.1)))) hb); have n2_ := Aside0.mk (Kd.R_below (rr ((Kd.R_mono (Kd.R_far (p := ⟨gb338, 5, none⟩) (Kd.R_far (p := ⟨gb338, 4, none⟩) (Kd.R_far (p := ⟨gb338, 3, none⟩) (Kd.R_far (p := ⟨gb338, 2, none⟩) (Kd.R_far (p := ⟨gb338, 1, none⟩) (Kd.R_far (p := ⟨gb338, 0, none⟩) (Kd.R_types HO334.out BK338.out (by decide)) (fun _ hk => hk.2) (.string t325)) (fun _ hk => hk.2) (.slice Ao14 t326.length co14)) (fun _ hk => hk.2) (.slice Ao15 t329.length co15)) (fun _ hk => hk.2) (.slice Ao16 t332.length co16)) (fun _ hk => hk.2) (.int .i64 t335)) (fun _ hk => hk.2) (.int .i64 t336)) (fun _ h_ => h_.1)))) hb); have n3_ := Aside0.mk (blk_below (g := gb324) (o := .cells #[.int .i64 0, .int .i64 0] 32 (0, 0)) (by (with_reducible repeat (first | apply blk_drewN | apply blk_drew | apply blk_alloc)); refine blk_far ?_ NB324_338.out _; (with_reducible repeat (first | apply blk_drewN | apply blk_drew | apply blk_alloc)); refine blk_far ?_ NB324_338.out _; (with_reducible repeat (first | apply blk_drewN | apply blk_drew | apply blk_alloc)); refine blk_far ?_ NB324_338.out _; (with_reducible repeat (first | apply blk_drewN | apply blk_drew | apply blk_alloc)); refine blk_far ?_ NB324_338.out _; (with_reducible repeat (first | apply blk_drewN | apply blk_drew | apply blk_alloc)); refine blk_far ?_ NB324_338.out _; (with_reducible repeat (first | apply blk_drewN | apply blk_drew | apply blk_alloc)); refine blk_far ?_ NB324_338.out _; (with_reducible repeat (first | apply blk_drewN | apply blk_drew | apply blk_alloc)); exact BK324.out) hb); have n4_ := Aside0.mk (blk_below (g := gb338) (o := .cells #[.string t325, .slice Ao14 t326.length co14, .slice Ao15 t329.length co15, .slice Ao16 t332.length co16, .int .i64 t335, .int .i64 t336] 45 (0, 0)) (by (with_reducible repeat (first | apply blk_drewN | apply blk_drew | apply blk_alloc)); refine blk_put (cs := #[.string t325, .slice Ao14 t326.length co14, .slice Ao15 t329.length co15, .slice Ao16 t332.length co16, .int .i64 t335, .int .i64 0]) ?_ 5 _ rfl; (with_reducible repeat (first | apply blk_drewN | apply blk_drew | apply blk_alloc)); refine blk_put (cs := #[.string t325, .slice Ao14 t326.length co14, .slice Ao15 t329.length co15, .slice Ao16 t332.length co16, .int .i64 0, .int .i64 0]) ?_ 4 _ rfl; (with_reducible repeat (first | apply blk_drewN | apply blk_drew | apply blk_alloc)); refine blk_put (cs := #[.string t325, .slice Ao14 t326.length co14, .slice Ao15 t329.length co15, .slice none 0 0, .int .i64 0, .int .i64 0]) ?_ 3 _ rfl; (with_reducible repeat (first | apply blk_drewN | apply blk_drew | apply blk_alloc)); refine blk_put (cs := #[.string t325, .slice Ao14 t326.length co14, .slice none 0 0, .slice none 0 0, .int .i64 0, .int .i64 0]) ?_ 2 _ rfl; (with_reducible repeat (first | apply blk_drewN | apply blk_drew | apply blk_alloc)); refine blk_put (cs := #[.string t325, .slice none 0 0, .slice none 0 0, .slice none 0 0, .int .i64 0, .int .i64 0]) ?_ 1 _ rfl; (with_reducible repeat (first | apply blk_drewN | apply blk_drew | apply blk_alloc)); refine blk_put (cs := #[.string (⟨#[]⟩ : ByteArray), .slice none 0 0, .slice none 0 0, .slice none 0 0, .int .i64 0, .int .i64 0]) ?_ 0 _ rfl; (with_reducible repeat (first | apply blk_drewN | apply blk_drew | apply blk_alloc)); exact BK338.out) hb); have n5_ := Aside0.mk (below_step (bs2 GE324.out GE338.out) hb); revert n0_ n1_ n2_ n3_ n4_ n5_; clear HO328 HO331 HO334 BK324 BK338 HB; intro HO328 HO331 HO334 BK324 BK338 HB; (try clear hb); (try clear hb2); (try clear hk); (try clear hi)))
    go_meet
    case rel => exact ⟨_, (true), (by first | rfl | (simp; done) | (simp [*]; done)), H', ⟨by first | omega | exact Nat.le_refl _⟩, ⟨rr HO328.out⟩, ⟨rr HO331.out⟩, ⟨rr HO334.out⟩, ⟨rb BK324.out⟩, ⟨rb BK338.out⟩, ⟨bs2 GE324.out GE338.out⟩⟩
   subst c19
   rw [if_pos rfl] at H
   by_cases c20 : a4 < 1
   ·
    rw [if_pos c20] at H
    have c20b0 : decide (a4 < 1) = true := decide_eq_true c20
    clear c20
    have H' := Aside0.mk H
    clear H
    have hnb21 := NB338_324.out
    have hnc21 := NB324_338.out
    have hcz22_0 : w11.cell? ⟨gb338, 0, none⟩ = some (.string (⟨#[]⟩ : ByteArray)) := (blk_cell BK338.out 0).trans rfl
    have hcz22_1 : w11.cell? ⟨gb338, 1, none⟩ = some (.slice none 0 0) := (blk_cell BK338.out 1).trans rfl
    have hcz22_2 : w11.cell? ⟨gb338, 2, none⟩ = some (.slice none 0 0) := (blk_cell BK338.out 2).trans rfl
    have hcz22_3 : w11.cell? ⟨gb338, 3, none⟩ = some (.slice none 0 0) := (blk_cell BK338.out 3).trans rfl
    have hcz22_4 : w11.cell? ⟨gb338, 4, none⟩ = some (.int .i64 0) := (blk_cell BK338.out 4).trans rfl
    have hcz22_5 : w11.cell? ⟨gb338, 5, none⟩ = some (.int .i64 0) := (blk_cell BK338.out 5).trans rfl
    have hfz22_0 := blk_frozen BK338.out 0
    have hfz22_1 := blk_frozen BK338.out 1
    have hfz22_2 := blk_frozen BK338.out 2
    have hfz22_3 := blk_frozen BK338.out 3
    have hfz22_4 := blk_frozen BK338.out 4
    have hfz22_5 := blk_frozen BK338.out 5
    go_wp2_with (first | (go_at_call 21; (with_reducible refine (timer_possible.calls a0 _ _ l1 _ _ l2 true _ ?side1 ?side2 ?side3 ?side4 A18.out).mono ?_); (case side1 => exact Kd.C_below HR1.out (bs2 GE324.out GE338.out)); (case side2 => exact HC1.out); (case side3 => exact Kd.C_below HR2.out (bs2 GE324.out GE338.out)); (case side4 => exact HC2.out); rintro e w23 ⟨rfl, hb⟩; have n0_ := Aside0.mk (Kd.R_below (rr ((Kd.R_mono (Kd.R_far (p := ⟨gb338, 5, none⟩) (Kd.R_far (p := ⟨gb338, 4, none⟩) (Kd.R_far (p := ⟨gb338, 3, none⟩) (Kd.R_far (p := ⟨gb338, 2, none⟩) (Kd.R_far (p := ⟨gb338, 1, none⟩) (Kd.R_far (p := ⟨gb338, 0, none⟩) (Kd.R_types HO328.out BK338.out (by decide)) (fun _ hk => hk.2) (.string t325)) (fun _ hk => hk.2) (.slice Ao14 t326.length co14)) (fun _ hk => hk.2) (.slice Ao15 t329.length co15)) (fun _ hk => hk.2) (.slice Ao16 t332.length co16)) (fun _ hk => hk.2) (.int .i64 t335)) (fun _ hk => hk.2) (.int .i64 t336)) (fun _ h_ => h_.1)))) hb); have n1_ := Aside0.mk (Kd.R_below (rr ((Kd.R_mono (Kd.R_far (p := ⟨gb338, 5, none⟩) (Kd.R_far (p := ⟨gb338, 4, none⟩) (Kd.R_far (p := ⟨gb338, 3, none⟩) (Kd.R_far (p := ⟨gb338, 2, none⟩) (Kd.R_far (p := ⟨gb338, 1, none⟩) (Kd.R_far (p := ⟨gb338, 0, none⟩) (Kd.R_types HO331.out BK338.out (by decide)) (fun _ hk => hk.2) (.string t325)) (fun _ hk => hk.2) (.slice Ao14 t326.length co14)) (fun _ hk => hk.2) (.slice Ao15 t329.length co15)) (fun _ hk => hk.2) (.slice Ao16 t332.length co16)) (fun _ hk => hk.2) (.int .i64 t335)) (fun _ hk => hk.2) (.int .i64 t336)) (fun _ h_ => h_.1)))) hb); have n2_ := Aside0.mk (Kd.R_below (rr ((Kd.R_mono (Kd.R_far (p := ⟨gb338, 5, none⟩) (Kd.R_far (p := ⟨gb338, 4, none⟩) (Kd.R_far (p := ⟨gb338, 3, none⟩) (Kd.R_far (p := ⟨gb338, 2, none⟩) (Kd.R_far (p := ⟨gb338, 1, none⟩) (Kd.R_far (p := ⟨gb338, 0, none⟩) (Kd.R_types HO334.out BK338.out (by decide)) (fun _ hk => hk.2) (.string t325)) (fun _ hk => hk.2) (.slice Ao14 t326.length co14)) (fun _ hk => hk.2) (.slice Ao15 t329.length co15)) (fun _ hk => hk.2) (.slice Ao16 t332.length co16)) (fun _ hk => hk.2) (.int .i64 t335)) (fun _ hk => hk.2) (.int .i64 t336)) (fun _ h_ => h_.1)))) hb); have n3_ := Aside0.mk (blk_below (g := gb324) (o := .cells #[.int .i64 0, .int .i64 0] 32 (0, 0)) (by (with_reducible repeat (first | apply blk_drewN | apply blk_drew | apply blk_alloc)); refine blk_far ?_ NB324_338.out _; (with_reducible repeat (first | apply blk_drewN | apply blk_drew | apply blk_alloc)); refine blk_far ?_ NB324_338.out _; (with_reducible repeat (first | apply blk_drewN | apply blk_drew | apply blk_alloc)); refine blk_far ?_ NB324_338.out _; (with_reducible repeat (first | apply blk_drewN | apply blk_drew | apply blk_alloc)); refine blk_far ?_ NB324_338.out _; (with_reducible repeat (first | apply blk_drewN | apply blk_drew | apply blk_alloc)); refine blk_far ?_ NB324_338.out _; (with_reducible repeat (first | apply blk_drewN | apply blk_drew | apply blk_alloc)); refine blk_far ?_ NB324_338.out _; (with_reducible repeat (first | apply blk_drewN | apply blk_drew | apply blk_alloc)); exact BK324.out) hb); have n4_ := Aside0.mk (blk_below (g := gb338) (o := .cells #[.string t325, .slice Ao14 t326.length co14, .slice Ao15 t329.length co15, .slice Ao16 t332.length co16, .int .i64 t335, .int .i64 t336] 45 (0, 0)) (by (with_reducible repeat (first | apply blk_drewN | apply blk_drew | apply blk_alloc)); refine blk_put (cs := #[.string t325, .slice Ao14 t326.length co14, .slice Ao15 t329.length co15, .slice Ao16 t332.length co16, .int .i64 t335, .int .i64 0]) ?_ 5 _ rfl; (with_reducible repeat (first | apply blk_drewN | apply blk_drew | apply blk_alloc)); refine blk_put (cs := #[.string t325, .slice Ao14 t326.length co14, .slice Ao15 t329.length co15, .slice Ao16 t332.length co16, .int .i64 0, .int .i64 0]) ?_ 4 _ rfl; (with_reducible repeat (first | apply blk_drewN | apply blk_drew | apply blk_alloc)); refine blk_put (cs := #[.string t325, .slice Ao14 t326.length co14, .slice Ao15 t329.length co15, .slice none 0 0, .int .i64 0, .int .i64 0]) ?_ 3 _ rfl; (with_reducible repeat (first | apply blk_drewN | apply blk_drew | apply blk_alloc)); refine blk_put (cs := #[.string t325, .slice Ao14 t326.length co14, .slice none 0 0, .slice none 0 0, .int .i64 0, .int .i64 0]) ?_ 2 _ rfl; (with_reducible repeat (first | apply blk_drewN | apply blk_drew | apply blk_alloc)); refine blk_put (cs := #[.string t325, .slice none 0 0, .slice none 0 0, .slice none 0 0, .int .i64 0, .int .i64 0]) ?_ 1 _ rfl; (with_reducible repeat (first | apply blk_drewN | apply blk_drew | apply blk_alloc)); refine blk_put (cs := #[.string (⟨#[]⟩ : ByteArray), .slice none 0 0, .slice none 0 0, .slice none 0 0, .int .i64 0, .int .i64 0]) ?_ 0 _ rfl; (with_reducible repeat (first | apply blk_drewN | apply blk_drew | apply blk_alloc)); exact BK338.out) hb); have n5_ := Aside0.mk (below_step (bs2 GE324.out GE338.out) hb); revert n0_ n1_ n2_ n3_ n4_ n5_; clear HO328 HO331 HO334 BK324 BK338 HB; intro HO328 HO331 HO334 BK324 BK338 HB; (try clear hb); (try clear hb2); (try clear hk); (try clear hi)))
    go_meet
    case rel => exact ⟨_, (true), (by first | rfl | (simp; done) | (simp [*]; done)), H', ⟨by first | omega | exact Nat.le_refl _⟩, ⟨rr HO328.out⟩, ⟨rr HO331.out⟩, ⟨rr HO334.out⟩, ⟨rb BK324.out⟩, ⟨rb BK338.out⟩, ⟨bs2 GE324.out GE338.out⟩⟩
   rw [if_neg c20] at H
   have c20b0 : decide (a4 < 1) = false := decide_eq_false c20
   clear c20
   have H' := Aside0.mk H
   clear H
   have hnb24 := NB338_324.out
   have hnc24 := NB324_338.out
   have hcz25_0 : w11.cell? ⟨gb338, 0, none⟩ = some (.string (⟨#[]⟩ : ByteArray)) := (blk_cell BK338.out 0).trans rfl
   have hcz25_1 : w11.cell? ⟨gb338, 1, none⟩ = some (.slice none 0 0) := (blk_cell BK338.out 1).trans rfl
   have hcz25_2 : w11.cell? ⟨gb338, 2, none⟩ = some (.slice none 0 0) := (blk_cell BK338.out 2).trans rfl
   have hcz25_3 : w11.cell? ⟨gb338, 3, none⟩ = some (.slice none 0 0) := (blk_cell BK338.out 3).trans rfl
   have hcz25_4 : w11.cell? ⟨gb338, 4, none⟩ = some (.int .i64 0) := (blk_cell BK338.out 4).trans rfl
   have hcz25_5 : w11.cell? ⟨gb338, 5, none⟩ = some (.int .i64 0) := (blk_cell BK338.out 5).trans rfl
   have hfz25_0 := blk_frozen BK338.out 0
   have hfz25_1 := blk_frozen BK338.out 1
   have hfz25_2 := blk_frozen BK338.out 2
   have hfz25_3 := blk_frozen BK338.out 3
   have hfz25_4 := blk_frozen BK338.out 4
   have hfz25_5 := blk_frozen BK338.out 5
   go_wp2_with (first | (go_at_call 21; (with_reducible refine (timer_possible.calls a0 _ _ l1 _ _ l2 true _ ?side1 ?side2 ?side3 ?side4 A18.out).mono ?_); (case side1 => exact Kd.C_below HR1.out (bs2 GE324.out GE338.out)); (case side2 => exact HC1.out); (case side3 => exact Kd.C_below HR2.out (bs2 GE324.out GE338.out)); (case side4 => exact HC2.out); rintro e w26 ⟨rfl, hb⟩; have n0_ := Aside0.mk (Kd.R_below (rr ((Kd.R_mono (Kd.R_far (p := ⟨gb338, 5, none⟩) (Kd.R_far (p := ⟨gb338, 4, none⟩) (Kd.R_far (p := ⟨gb338, 3, none⟩) (Kd.R_far (p := ⟨gb338, 2, none⟩) (Kd.R_far (p := ⟨gb338, 1, none⟩) (Kd.R_far (p := ⟨gb338, 0, none⟩) (Kd.R_types HO328.out BK338.out (by decide)) (fun _ hk => hk.2) (.string t325)) (fun _ hk => hk.2) (.slice Ao14 t326.length co14)) (fun _ hk => hk.2) (.slice Ao15 t329.length co15)) (fun _ hk => hk.2) (.slice Ao16 t332.length co16)) (fun _ hk => hk.2) (.int .i64 t335)) (fun _ hk => hk.2) (.int .i64 t336)) (fun _ h_ => h_.1)))) hb); have n1_ := Aside0.mk (Kd.R_below (rr ((Kd.R_mono (Kd.R_far (p := ⟨gb338, 5, none⟩) (Kd.R_far (p := ⟨gb338, 4, none⟩) (Kd.R_far (p := ⟨gb338, 3, none⟩) (Kd.R_far (p := ⟨gb338, 2, none⟩) (Kd.R_far (p := ⟨gb338, 1, none⟩) (Kd.R_far (p := ⟨gb338, 0, none⟩) (Kd.R_types HO331.out BK338.out (by decide)) (fun _ hk => hk.2) (.string t325)) (fun _ hk => hk.2) (.slice Ao14 t326.length co14)) (fun _ hk => hk.2) (.slice Ao15 t329.length co15)) (fun _ hk => hk.2) (.slice Ao16 t332.length co16)) (fun _ hk => hk.2) (.int .i64 t335)) (fun _ hk => hk.2) (.int .i64 t336)) (fun _ h_ => h_.1)))) hb); have n2_ := Aside0.mk (Kd.R_below (rr ((Kd.R_mono (Kd.R_far (p := ⟨gb338, 5, none⟩) (Kd.R_far (p := ⟨gb338, 4, none⟩) (Kd.R_far (p := ⟨gb338, 3, none⟩) (Kd.R_far (p := ⟨gb338, 2, none⟩) (Kd.R_far (p := ⟨gb338, 1, none⟩) (Kd.R_far (p := ⟨gb338, 0, none⟩) (Kd.R_types HO334.out BK338.out (by decide)) (fun _ hk => hk.2) (.string t325)) (fun _ hk => hk.2) (.slice Ao14 t326.length co14)) (fun _ hk => hk.2) (.slice Ao15 t329.length co15)) (fun _ hk => hk.2) (.slice Ao16 t332.length co16)) (fun _ hk => hk.2) (.int .i64 t335)) (fun _ hk => hk.2) (.int .i64 t336)) (fun _ h_ => h_.1)))) hb); have n3_ := Aside0.mk (blk_below (g := gb324) (o := .cells #[.int .i64 0, .int .i64 0] 32 (0, 0)) (by (with_reducible repeat (first | apply blk_drewN | apply blk_drew | apply blk_alloc)); refine blk_far ?_ NB324_338.out _; (with_reducible repeat (first | apply blk_drewN | apply blk_drew | apply blk_alloc)); refine blk_far ?_ NB324_338.out _; (with_reducible repeat (first | apply blk_drewN | apply blk_drew | apply blk_alloc)); refine blk_far ?_ NB324_338.out _; (with_reducible repeat (first | apply blk_drewN | apply blk_drew | apply blk_alloc)); refine blk_far ?_ NB324_338.out _; (with_reducible repeat (first | apply blk_drewN | apply blk_drew | apply blk_alloc)); refine blk_far ?_ NB324_338.out _; (with_reducible repeat (first | apply blk_drewN | apply blk_drew | apply blk_alloc)); refine blk_far ?_ NB324_338.out _; (with_reducible repeat (first | apply blk_drewN | apply blk_drew | apply blk_alloc)); exact BK324.out) hb); have n4_ := Aside0.mk (blk_below (g := gb338) (o := .cells #[.string t325, .slice Ao14 t326.length co14, .slice Ao15 t329.length co15, .slice Ao16 t332.length co16, .int .i64 t335, .int .i64 t336] 45 (0, 0)) (by (with_reducible repeat (first | apply blk_drewN | apply blk_drew | apply blk_alloc)); refine blk_put (cs := #[.string t325, .slice Ao14 t326.length co14, .slice Ao15 t329.length co15, .slice Ao16 t332.length co16, .int .i64 t335, .int .i64 0]) ?_ 5 _ rfl; (with_reducible repeat (first | apply blk_drewN | apply blk_drew | apply blk_alloc)); refine blk_put (cs := #[.string t325, .slice Ao14 t326.length co14, .slice Ao15 t329.length co15, .slice Ao16 t332.length co16, .int .i64 0, .int .i64 0]) ?_ 4 _ rfl; (with_reducible repeat (first | apply blk_drewN | apply blk_drew | apply blk_alloc)); refine blk_put (cs := #[.string t325, .slice Ao14 t326.length co14, .slice Ao15 t329.length co15, .slice none 0 0, .int .i64 0, .int .i64 0]) ?_ 3 _ rfl; (with_reducible repeat (first | apply blk_drewN | apply blk_drew | apply blk_alloc)); refine blk_put (cs := #[.string t325, .slice Ao14 t326.length co14, .slice none 0 0, .slice none 0 0, .int .i64 0, .int .i64 0]) ?_ 2 _ rfl; (with_reducible repeat (first | apply blk_drewN | apply blk_drew | apply blk_alloc)); refine blk_put (cs := #[.string t325, .slice none 0 0, .slice none 0 0, .slice none 0 0, .int .i64 0, .int .i64 0]) ?_ 1 _ rfl; (with_reducible repeat (first | apply blk_drewN | apply blk_drew | apply blk_alloc)); refine blk_put (cs := #[.string (⟨#[]⟩ : ByteArray), .slice none 0 0, .slice none 0 0, .slice none 0 0, .int .i64 0, .int .i64 0]) ?_ 0 _ rfl; (with_reducible repeat (first | apply blk_drewN | apply blk_drew | apply blk_alloc)); exact BK338.out) hb); have n5_ := Aside0.mk (below_step (bs2 GE324.out GE338.out) hb); revert n0_ n1_ n2_ n3_ n4_ n5_; clear HO328 HO331 HO334 BK324 BK338 HB; intro HO328 HO331 HO334 BK324 BK338 HB; (try clear hb); (try clear hb2); (try clear hk); (try clear hi)))
   go_meet
   case rel => exact ⟨_, (decide (a4 > 86400)), (by first | rfl | (simp; done) | (simp [*]; done)), H', ⟨by first | omega | exact Nat.le_refl _⟩, ⟨rr HO328.out⟩, ⟨rr HO331.out⟩, ⟨rr HO334.out⟩, ⟨rb BK324.out⟩, ⟨rb BK338.out⟩, ⟨bs2 GE324.out GE338.out⟩⟩
  clear HC8
  try clear c1
  try clear c2
  try clear p2
  try clear c3
  try clear c7
  try clear c7b0
  try clear c7b1
  try clear c12
  try clear c14
  try clear c15
  try clear c17
  try clear c17b0
  try clear c17b1
  try clear c19
  try clear c20
  try clear c20b0
  try clear c21
  try clear c24
  try clear c27
  try clear c30
  try clear hcz13_0
  try clear hcz13_1
  try clear hcz13_2
  try clear hcz13_3
  try clear hcz13_4
  try clear hcz13_5
  try clear hcz22_0
  try clear hcz22_1
  try clear hcz22_2
  try clear hcz22_3
  try clear hcz22_4
  try clear hcz22_5
  try clear hcz25_0
  try clear hcz25_1
  try clear hcz25_2
  try clear hcz25_3
  try clear hcz25_4
  try clear hcz25_5
  try clear hcz28_0
  try clear hcz28_1
  try clear hcz28_2
  try clear hcz28_3
  try clear hcz28_4
  try clear hcz28_5
  try clear hcz31_0
  try clear hcz31_1
  try clear hcz31_2
  try clear hcz31_3
  try clear hcz31_4
  try clear hcz31_5
  try clear hfz13_0
  try clear hfz13_1
  try clear hfz13_2
  try clear hfz13_3
  try clear hfz13_4
  try clear hfz13_5
  try clear hfz22_0
  try clear hfz22_1
  try clear hfz22_2
  try clear hfz22_3
  try clear hfz22_4
  try clear hfz22_5
  try clear hfz25_0
  try clear hfz25_1
  try clear hfz25_2
  try clear hfz25_3
  try clear hfz25_4
  try clear hfz25_5
  try clear hfz28_0
  try clear hfz28_1
  try clear hfz28_2
  try clear hfz28_3
  try clear hfz28_4
  try clear hfz28_5
  try clear hfz31_0
  try clear hfz31_1
  try clear hfz31_2
  try clear hfz31_3
  try clear hfz31_4
  try clear hfz31_5
  obtain ⟨kq, x47_7, rfl, HA, HJ7, HO_339001, HO_339002, HO_339003, BK324, BK338, HB⟩ := hcut
  cases kq with
  | zero => exact absurd HA.out (by simp [timer_Step.j0])
  | succ kj7 =>
   have H := HA.out
   clear HA
   simp only [timer_Step.j0] at H
   by_cases c32 : x47_7 = true
   ·
    subst c32
    rw [if_pos rfl] at H
    simp only [Option.some.injEq, Prod.mk.injEq] at H
    obtain ⟨rfl, rfl, rfl, rfl⟩ := H
    have hnb33 := NB324_338.out
    have hnc33 := NB338_324.out
    have hcz34_0 : wc.cell? ⟨gb324, 0, none⟩ = some (.int .i64 0) := (blk_cell BK324.out 0).trans rfl
    have hcz34_1 : wc.cell? ⟨gb324, 1, none⟩ = some (.int .i64 0) := (blk_cell BK324.out 1).trans rfl
    have hfz34_0 := blk_frozen BK324.out 0
    have hfz34_1 := blk_frozen BK324.out 1
    go_wp2
    refine bodyPost_ret (results_list (rs := [.tmp 10, .cell 11 32, .tmp 12]) rfl (by simp) (.tmp (.cell gb324 32 #[.int .i64 0, .int .i64 0] (0, 0) _ rfl (by (with_reducible repeat (first | apply blk_drewN | apply blk_drew | apply blk_alloc)); refine blk_put (cs := #[.int .i64 0, .int .i64 0]) ?_ 1 _ rfl; (with_reducible repeat (first | apply blk_drewN | apply blk_drew | apply blk_alloc)); refine blk_put (cs := #[.int .i64 0, .int .i64 0]) ?_ 0 _ rfl; (with_reducible repeat (first | apply blk_drewN | apply blk_drew | apply blk_alloc)); exact BK324.out) Tryd.underlying32 rfl (by kernel_rfl) (.tmp .nil)))) rfl ?_
    exact ⟨_, by first | rfl | (simp [errW_none, errW_some] <;> rfl) | (simp [*, errW_none, errW_some] <;> rfl), by first | exact Kd.R_nil _ _ _ _ _ | exact Kd.R_nil _ _ _ 0 _ | exact Kd.N_nil _ _ _ _ _ | exact Kd.V_nil _ _ _ _ _ | exact Kd.Q_nil _ _ _ _ _ | exact Kd.S_nil _ _ _ _ _, bs2 GE324.out GE338.out⟩
   replace c32 := Bool.eq_false_iff.mpr c32
   subst c32
   rw [if_neg (show ¬ (false = true) by decide)] at H
   replace H := Option.bind_eq_some_iff.mp H
   obtain ⟨t340, A350, H⟩ := H
   (try dsimp only at H)
   have A35 := Aside0.mk A350
   clear A350
   by_cases c36 : t340 = 0
   rotate_left
   ·
    rw [if_neg c36] at H
    have c36b0 : (t340 == 0) = false := beq_eq_false_iff_ne.mpr c36
    have c36b1 : (t340 != 0) = true := bne_iff_ne.mpr c36
    simp only [Option.some.injEq, Prod.mk.injEq] at H
    obtain ⟨rfl, rfl, rfl, rfl⟩ := H
    have hnb57 := NB338_324.out
    have hnc57 := NB324_338.out
    have hcz58_0 : wc.cell? ⟨gb338, 0, none⟩ = some (.string t325) := (blk_cell BK338.out 0).trans rfl
    have hcz58_1 : wc.cell? ⟨gb338, 1, none⟩ = some (.slice Ao14 t326.length co14) := (blk_cell BK338.out 1).trans rfl
    have hcz58_2 : wc.cell? ⟨gb338, 2, none⟩ = some (.slice Ao15 t329.length co15) := (blk_cell BK338.out 2).trans rfl
    have hcz58_3 : wc.cell? ⟨gb338, 3, none⟩ = some (.slice Ao16 t332.length co16) := (blk_cell BK338.out 3).trans rfl
    have hcz58_4 : wc.cell? ⟨gb338, 4, none⟩ = some (.int .i64 t335) := (blk_cell BK338.out 4).trans rfl
    have hcz58_5 : wc.cell? ⟨gb338, 5, none⟩ = some (.int .i64 t336) := (blk_cell BK338.out 5).trans rfl
    have hfz58_0 := blk_frozen BK338.out 0
    have hfz58_1 := blk_frozen BK338.out 1
    have hfz58_2 := blk_frozen BK338.out 2
    have hfz58_3 := blk_frozen BK338.out 3
    have hfz58_4 := blk_frozen BK338.out 4
    have hfz58_5 := blk_frozen BK338.out 5
    go_wp2_with (first | ((with_reducible refine gate_callee (f := 22) rfl ?_); refine goesL_ (some 51) rfl rfl Tryd.func22 (by kernel_rfl) rfl #[.agg #[.string t325, .slice Ao14 t326.length co14, .slice Ao15 t329.length co15, .slice Ao16 t332.length co16, .int .i64 t335, .int .i64 t336], .slice A3 l3.length c3] rfl aeq ?_; (with_reducible refine (timer_inputs.calls kj7 t325 _ _ t326 _ _ t329 _ _ t332 t335 t336 _ _ l3 t340 _ ?side1 ?side2 ?side3 ?side4 ?side5 ?side6 ?side7 ?side8 A35.out).mono ?_); (case side1 => repeat (first | exact (Kd.R_reads' HO_339001.out).2.2 | (with_reducible refine Kd.C_alloc ?_ _) | (with_reducible refine Kd.C_drewN ?_ _) | (with_reducible refine Kd.C_drew ?_))); (case side2 => exact (Kd.R_reads' HO_339001.out).2.1); (case side3 => repeat (first | exact (Kd.R_reads' HO_339002.out).2.2 | (with_reducible refine Kd.C_alloc ?_ _) | (with_reducible refine Kd.C_drewN ?_ _) | (with_reducible refine Kd.C_drew ?_))); (case side4 => exact (Kd.R_reads' HO_339002.out).2.1); (case side5 => repeat (first | exact (Kd.R_reads' HO_339003.out).2.2 | (with_reducible refine Kd.C_alloc ?_ _) | (with_reducible refine Kd.C_drewN ?_ _) | (with_reducible refine Kd.C_drew ?_))); (case side6 => exact (Kd.R_reads' HO_339003.out).2.1); (case side7 => repeat (first | exact (Kd.C_below HR3.out HB.out) | (with_reducible refine Kd.C_alloc ?_ _) | (with_reducible refine Kd.C_drewN ?_ _) | (with_reducible refine Kd.C_drew ?_))); (case side8 => exact HC3.out); rintro e w59 ⟨rfl, hb⟩; refine ⟨_, rfl, ?_⟩; have n0_ := Aside0.mk (Kd.R_below (rr HO_339001.out) hb); have n1_ := Aside0.mk (Kd.R_below (rr HO_339002.out) hb); have n2_ := Aside0.mk (Kd.R_below (rr HO_339003.out) hb); have n3_ := Aside0.mk (blk_below (g := gb324) (o := .cells #[.int .i64 0, .int .i64 0] 32 (0, 0)) (rb BK324.out) hb); have n4_ := Aside0.mk (blk_below (g := gb338) (o := .cells #[.string t325, .slice Ao14 t326.length co14, .slice Ao15 t329.length co15, .slice Ao16 t332.length co16, .int .i64 t335, .int .i64 t336] 45 (0, 0)) (rb BK338.out) hb); have n5_ := Aside0.mk (below_step (bs2 GE324.out GE338.out) hb); revert n0_ n1_ n2_ n3_ n4_ n5_; clear HO_339001 HO_339002 HO_339003 BK324 BK338 HB; intro HO_339001 HO_339002 HO_339003 BK324 BK338 HB; (try clear hb); (try clear hb2); (try clear hk); (try clear hi); have hcz60_0 : w59.cell? ⟨gb324, 0, none⟩ = some (.int .i64 0) := (blk_cell BK324.out 0).trans rfl; have hcz60_1 : w59.cell? ⟨gb324, 1, none⟩ = some (.int .i64 0) := (blk_cell BK324.out 1).trans rfl; have hfz60_0 := blk_frozen BK324.out 0; have hfz60_1 := blk_frozen BK324.out 1))
    refine bodyPost_ret (results_list (rs := [.tmp 10, .cell 11 32, .tmp 12]) rfl (by simp) (.tmp (.cell gb324 32 #[.int .i64 0, .int .i64 0] (0, 0) _ rfl (by (with_reducible repeat (first | apply blk_drewN | apply blk_drew | apply blk_alloc)); refine blk_put (cs := #[.int .i64 0, .int .i64 0]) ?_ 1 _ rfl; (with_reducible repeat (first | apply blk_drewN | apply blk_drew | apply blk_alloc)); refine blk_put (cs := #[.int .i64 0, .int .i64 0]) ?_ 0 _ rfl; (with_reducible repeat (first | apply blk_drewN | apply blk_drew | apply blk_alloc)); exact BK324.out) Tryd.underlying32 rfl (by kernel_rfl) (.tmp .nil)))) rfl ?_
    exact ⟨_, by first | rfl | (simp [errW_none, errW_some] <;> rfl) | (simp [*, errW_none, errW_some] <;> rfl), by first | exact Kd.R_nil _ _ _ _ _ | exact Kd.R_nil _ _ _ 0 _ | exact Kd.N_nil _ _ _ _ _ | exact Kd.V_nil _ _ _ _ _ | exact Kd.Q_nil _ _ _ _ _ | exact Kd.S_nil _ _ _ _ _, bs2 GE324.out GE338.out⟩
   rw [if_pos c36] at H
   have c36b0 : (t340 == 0) = true := beq_iff_eq.mpr c36
   have c36b1 : (t340 != 0) = false := bne_eq_false_iff_eq.mpr c36
   clear c36
   by_cases c37 : 0 ≤ (l2.length : Int)
   rotate_left
   ·
    rw [if_neg c37] at H
    exact absurd H (by simp)
   rw [if_pos c37] at H
   have c37b0 := eq_true c37
   have c37b1 : decide (0 ≤ (l2.length : Int)) = true := decide_eq_true c37
   clear c37
   by_cases c38 : ((l2.length : Int) : Int).toNat ≤ 35184372088832
   rotate_left
   ·
    rw [if_neg c38] at H
    exact absurd H (by simp)
   rw [if_pos c38] at H
   have c38b0 := eq_true c38
   have c38b1 : decide (((l2.length : Int) : Int).toNat ≤ 35184372088832) = true := decide_eq_true c38
   clear c38
   obtain ⟨y341, hy341⟩ : ∃ y_ : List Int, y_ = (List.replicate ((l2.length : Int) : Int).toNat 0) := ⟨_, rfl⟩
   replace H : (if List.length (α := Int) y341 = l2.length then ((timer_step.f kj7 a0 l1 (l2) l3 a4).bind fun bt347 => (some (bt347.2.2, bt347.1, bt347.2.1, 0))) else (none)) = some (r1, r2, r3, r4) := by first | (rw [hy341]; with_reducible exact H) | (have H2_ := (Option.bind_some _ _).symm.trans H; rw [hy341]; with_reducible exact H2_) | (have H2_ := (Option.bind_some _ _).symm.trans H; with_reducible exact H2_) | with_reducible exact H | (rw [hy341]; exact H) | exact H
   have Ny341 := Aside0.mk hy341
   clear hy341
   by_cases c39 : List.length (α := Int) y341 = l2.length
   rotate_left
   ·
    rw [if_neg c39] at H
    exact absurd H (by simp)
   rw [if_pos c39] at H
   have LMc39 := Aside0.mk c39
   clear c39
   obtain ⟨y344, hy344⟩ : ∃ y_ : List Int, y_ = (l2) := ⟨_, rfl⟩
   replace H : ((timer_step.f kj7 a0 l1 y344 l3 a4).bind fun bt347 => (some (bt347.2.2, bt347.1, bt347.2.1, 0))) = some (r1, r2, r3, r4) := by first | (rw [hy344]; with_reducible exact H) | (have H2_ := (Option.bind_some _ _).symm.trans H; rw [hy344]; with_reducible exact H2_) | (have H2_ := (Option.bind_some _ _).symm.trans H; with_reducible exact H2_) | with_reducible exact H | (rw [hy344]; exact H) | exact H
   have Ny344 := Aside0.mk hy344
   clear hy344
   replace H := Option.bind_eq_some_iff.mp H
   obtain ⟨⟨t347, t348, t349⟩, A400, H⟩ := H
   (try dsimp only at H)
   have A40 := Aside0.mk A400
   clear A400
   simp only [Option.some.injEq, Prod.mk.injEq] at H
   obtain ⟨rfl, rfl, rfl, rfl⟩ := H
   have hnb41 := NB338_324.out
   have hnc41 := NB324_338.out
   have hcz42_0 : wc.cell? ⟨gb338, 0, none⟩ = some (.string t325) := (blk_cell BK338.out 0).trans rfl
   have hcz42_1 : wc.cell? ⟨gb338, 1, none⟩ = some (.slice Ao14 t326.length co14) := (blk_cell BK338.out 1).trans rfl
   have hcz42_2 : wc.cell? ⟨gb338, 2, none⟩ = some (.slice Ao15 t329.length co15) := (blk_cell BK338.out 2).trans rfl
   have hcz42_3 : wc.cell? ⟨gb338, 3, none⟩ = some (.slice Ao16 t332.length co16) := (blk_cell BK338.out 3).trans rfl
   have hcz42_4 : wc.cell? ⟨gb338, 4, none⟩ = some (.int .i64 t335) := (blk_cell BK338.out 4).trans rfl
   have hcz42_5 : wc.cell? ⟨gb338, 5, none⟩ = some (.int .i64 t336) := (blk_cell BK338.out 5).trans rfl
   have hfz42_0 := blk_frozen BK338.out 0
   have hfz42_1 := blk_frozen BK338.out 1
   have hfz42_2 := blk_frozen BK338.out 2
   have hfz42_3 := blk_frozen BK338.out 3
   have hfz42_4 := blk_frozen BK338.out 4
   have hfz42_5 := blk_frozen BK338.out 5
   try go_wp2_with (first | ((with_reducible refine gate_callee (f := 22) rfl ?_); refine goesL_ (some 51) rfl rfl Tryd.func22 (by kernel_rfl) rfl #[.agg #[.string t325, .slice Ao14 t326.length co14, .slice Ao15 t329.length co15, .slice Ao16 t332.length co16, .int .i64 t335, .int .i64 t336], .slice A3 l3.length c3] rfl aeq ?_; (with_reducible refine (timer_inputs.calls kj7 t325 _ _ t326 _ _ t329 _ _ t332 t335 t336 _ _ l3 t340 _ ?side1 ?side2 ?side3 ?side4 ?side5 ?side6 ?side7 ?side8 A35.out).mono ?_); (case side1 => repeat (first | exact (Kd.R_reads' HO_339001.out).2.2 | (with_reducible refine Kd.C_alloc ?_ _) | (with_reducible refine Kd.C_drewN ?_ _) | (with_reducible refine Kd.C_drew ?_))); (case side2 => exact (Kd.R_reads' HO_339001.out).2.1); (case side3 => repeat (first | exact (Kd.R_reads' HO_339002.out).2.2 | (with_reducible refine Kd.C_alloc ?_ _) | (with_reducible refine Kd.C_drewN ?_ _) | (with_reducible refine Kd.C_drew ?_))); (case side4 => exact (Kd.R_reads' HO_339002.out).2.1); (case side5 => repeat (first | exact (Kd.R_reads' HO_339003.out).2.2 | (with_reducible refine Kd.C_alloc ?_ _) | (with_reducible refine Kd.C_drewN ?_ _) | (with_reducible refine Kd.C_drew ?_))); (case side6 => exact (Kd.R_reads' HO_339003.out).2.1); (case side7 => repeat (first | exact (Kd.C_below HR3.out HB.out) | (with_reducible refine Kd.C_alloc ?_ _) | (with_reducible refine Kd.C_drewN ?_ _) | (with_reducible refine Kd.C_drew ?_))); (case side8 => exact HC3.out); rintro e w43 ⟨rfl, hb⟩; refine ⟨_, rfl, ?_⟩; have n0_ := Aside0.mk (Kd.R_below (rr HO_339001.out) hb); have n1_ := Aside0.mk (Kd.R_below (rr HO_339002.out) hb); have n2_ := Aside0.mk (Kd.R_below (rr HO_339003.out) hb); have n3_ := Aside0.mk (blk_below (g := gb324) (o := .cells #[.int .i64 0, .int .i64 0] 32 (0, 0)) (rb BK324.out) hb); have n4_ := Aside0.mk (blk_below (g := gb338) (o := .cells #[.string t325, .slice Ao14 t326.length co14, .slice Ao15 t329.length co15, .slice Ao16 t332.length co16, .int .i64 t335, .int .i64 t336] 45 (0, 0)) (rb BK338.out) hb); have n5_ := Aside0.mk (below_step (bs2 GE324.out GE338.out) hb); revert n0_ n1_ n2_ n3_ n4_ n5_; clear HO_339001 HO_339002 HO_339003 BK324 BK338 HB; intro HO_339001 HO_339002 HO_339003 BK324 BK338 HB; (try clear hb); (try clear hb2); (try clear hk); (try clear hi)) | ((with_reducible refine gate_dst (N := 58) rfl ?_); refine Kd.R_make (Kd.int .i64) _ 2 rfl (N := 58) rfl 28 _ _ rfl (l2.length : Int) rfl rfl Tryd.underlying28 (.int .i64 0) 8 info2 rfl (by decide) (by omega) 0 (ok := fun _ => True) (okp := fun _ => True) rfl (fun _ hk => hk) trivial (ode) (Nat.le_trans (Nat.mul_le_mul_right _ (ode : (l2.length : Int).toNat ≤ 35184372088832)) (by omega)) (Below.refl _ _) (Nat.le_refl _) ?_; intro v342 w44 ho45 hb hg_ hnew_; clear hg_ hnew_; (first | rw [← Ny341.out] at ho45 | (simp only [Int.reduceToNat] at ho45; rw [← Ny341.out] at ho45)); have n0_ := Aside0.mk (Kd.R_below (rr HO_339001.out) hb); have n1_ := Aside0.mk (Kd.R_below (rr HO_339002.out) hb); have n2_ := Aside0.mk (Kd.R_below (rr HO_339003.out) hb); have n3_ := Aside0.mk (Kd.R_lower ho45 (below_size (bs2 GE324.out GE338.out))); have n4_ := Aside0.mk (blk_below (g := gb324) (o := .cells #[.int .i64 0, .int .i64 0] 32 (0, 0)) (rb BK324.out) hb); have n5_ := Aside0.mk (blk_below (g := gb338) (o := .cells #[.string t325, .slice Ao14 t326.length co14, .slice Ao15 t329.length co15, .slice Ao16 t332.length co16, .int .i64 t335, .int .i64 t336] 45 (0, 0)) (rb BK338.out) hb); have n6_ := Aside0.mk (below_step (bs2 GE324.out GE338.out) hb); revert n0_ n1_ n2_ n3_ n4_ n5_ n6_; clear HO_339001 HO_339002 HO_339003 BK324 BK338 HB; intro HO_339001 HO_339002 HO_339003 HO343 BK324 BK338 HB; clear hb ho45) | ((with_reducible refine gate_builtin (b := .copy) (xs := #[.tmp 59, .tmp 60]) rfl ?_); skip; refine copy_row (w0 := w) w.heap.size rfl (.tmp 59) (.tmp 60) 28 2 rfl Tryd.underlying28 info2 v342 y341 l2 _ _ _ (fun _ => True) rfl rfl ?aO ?aR ?aL ?aB ?aS ?_; (case aR => repeat (first | exact (Kd.C_below HR2.out HB.out) | (with_reducible refine Kd.C_alloc ?_ _) | (with_reducible refine Kd.C_drewN ?_ _) | (with_reducible refine Kd.C_drew ?_))); (case aB => exact (bs2 GE324.out GE338.out)); (case aO => exact (rr HO343.out)); (case aS => exact (below_size (bs2 GE324.out GE338.out))); (case aL => exact LMc39.out); intro v345 w46 hv_ ho hb hg hat; (first | subst hv_ | (cases hv_)); rw [← Ny344.out] at ho; have n0_ := Aside0.mk (Kd.R_over' (rr HO_339001.out) (Kd.R_typed (rr HO343.out)) (by decide) hg); have n1_ := Aside0.mk (Kd.R_over' (rr HO_339002.out) (Kd.R_typed (rr HO343.out)) (by decide) hg); have n2_ := Aside0.mk (Kd.R_over' (rr HO_339003.out) (Kd.R_typed (rr HO343.out)) (by decide) hg); have n3_ := Aside0.mk (blk_grown (g := gb324) (o := .cells #[.int .i64 0, .int .i64 0] 32 (0, 0)) (rb BK324.out) hg (Kd.R_ne HO343.out BK324.out (by decide))); have n4_ := Aside0.mk (blk_grown (g := gb338) (o := .cells #[.string t325, .slice Ao14 t326.length co14, .slice Ao15 t329.length co15, .slice Ao16 t332.length co16, .int .i64 t335, .int .i64 t336] 45 (0, 0)) (rb BK338.out) hg (Kd.R_ne HO343.out BK338.out (by decide))); have n5_ := Aside0.mk (hb); have n6_ := Aside0.mk (ho); revert n0_ n1_ n2_ n3_ n4_ n5_ n6_; clear HO_339001 HO_339002 HO_339003 BK324 BK338 HB HO343; intro HO_339001 HO_339002 HO_339003 BK324 BK338 HB HO346; clear ho hb hg hat; obtain ⟨Ao47, co47, eo47⟩ := Kd.R_slice HO346.out; subst eo47) | ((with_reducible refine gate_callee (f := 18) rfl ?_); refine goesL_ (some 67) rfl rfl Tryd.func18 (by kernel_rfl) rfl #[.string a0, .slice A1 l1.length c1, .slice Ao47 y344.length co47, .slice A3 l3.length c3, .int .i64 a4] rfl aeq ?_; (with_reducible refine (timer_step.calls kj7 a0 _ _ l1 (fun k_ => some k_ = (.slice Ao47 y344.length co47 : Value).ownBlock) (.slice Ao47 y344.length co47) y344 _ _ l3 a4 t347 t348 t349 w _ ?side1 ?side2 ?side3 ?side4 ?side5 ?side6 A40.out).mono ?_); (case side1 => repeat (first | (with_reducible first | exact HB.out | apply below_alloc | apply pw_below_drewN | apply below_drew1 | refine below_set ?_ GE324.out | refine below_set ?_ GE338.out) | exact HB.out)); (case side2 => exact Kd.C_kept_came (Kd.heap_int .i64) HR1.out (bs2 GE324.out GE338.out) (fun k_ hs_ => (fun e_ => Kd.R_base HO346.out k_ e_.symm) hs_)); (case side3 => exact HC1.out); (case side4 => exact Kd.R_tight rfl HO346.out); (case side5 => exact Kd.C_kept_came k32_heap HR3.out (bs2 GE324.out GE338.out) (fun k_ hs_ => (fun e_ => Kd.R_base HO346.out k_ e_.symm) hs_)); (case side6 => exact HC3.out); rintro e w48 ⟨rfl, hy0, hb, hkp⟩; refine ⟨_, rfl, ?_⟩; have n0_ := Aside0.mk (Kd.R_mono (ok' := fun k_ => True) (Kd.R_keptB ((Kd.R_apart' HO_339001.out (Kd.R_typed HO346.out) (by decide))) hkp (fun k_ hk_ hs_ => (hk_.2) hs_)) (fun k_ hk_ => trivial)); have n1_ := Aside0.mk (Kd.R_mono (ok' := fun k_ => some k_ ≠ (.slice Ao16 t332.length co16 : Value).ownBlock) (Kd.R_keptB ((Kd.R_apart' HO_339002.out (Kd.R_typed HO346.out) (by decide))) hkp (fun k_ hk_ hs_ => (hk_.2) hs_)) (fun k_ hk_ => hk_.1.1)); have n2_ := Aside0.mk (Kd.R_mono (ok' := fun k_ => some k_ ≠ (.slice Ao15 t329.length co15 : Value).ownBlock) (Kd.R_keptB ((Kd.R_apart' HO_339003.out (Kd.R_typed HO346.out) (by decide))) hkp (fun k_ hk_ hs_ => (hk_.2) hs_)) (fun k_ hk_ => hk_.1.1)); have n3_ := Aside0.mk (blk_kept (rb BK324.out) hkp (fun hs_ => (fun e_ => (Kd.R_ne HO346.out BK324.out (by decide)) e_) hs_)); have n4_ := Aside0.mk (blk_kept (rb BK338.out) hkp (fun hs_ => (fun e_ => (Kd.R_ne HO346.out BK338.out (by decide)) e_) hs_)); have n5_ := Aside0.mk (Kd.R_reok rfl hy0 (fun k_ e_ => HO346.out.1 k_ e_)); have n6_ := Aside0.mk (hb); revert n0_ n1_ n2_ n3_ n4_ n5_ n6_; clear HO_339001 HO_339002 HO_339003 BK324 BK338 HO346 HB; intro HO_339001 HO_339002 HO_339003 BK324 BK338 HO346 HB; (try clear hb); (try clear hkp); (try clear hy0)) | ((with_reducible refine gate_dst (N := 17) rfl ?_); refine box_event ?hg (N := 17) ?hd (cs := #[.int .i64 0, .int .i64 0]) (t := 32) ?hr ?_; (case hd => rfl); (case hg => rfl); (case hr => first | (go_simp; done) | (go_simp; rfl)); intro gb350 hg w49 hbox hb; have n0_ := Aside0.mk (Kd.R_below (rr HO_339001.out) hb); have n1_ := Aside0.mk (Kd.R_below (rr HO_339002.out) hb); have n2_ := Aside0.mk (Kd.R_below (rr HO_339003.out) hb); have n3_ := Aside0.mk (Kd.R_below (rr HO346.out) hb); have n4_ := Aside0.mk (blk_below (g := gb324) (o := .cells #[.int .i64 0, .int .i64 0] 32 (0, 0)) (rb BK324.out) hb); have n5_ := Aside0.mk (blk_below (g := gb338) (o := .cells #[.string t325, .slice Ao14 t326.length co14, .slice Ao15 t329.length co15, .slice Ao16 t332.length co16, .int .i64 t335, .int .i64 t336] 45 (0, 0)) (rb BK338.out) hb); have n6_ := Aside0.mk (below_step (bs2 GE324.out GE338.out) hb); have n7_ := Aside0.mk (hbox); have n8_ := Aside0.mk ((by rw [hg]; exact (below_size (bs2 GE324.out GE338.out)) : w.heap.size ≤ gb350)); have n9_ := Aside0.mk ((by rw [hg]; exact (below_size (bs2 GE324.out GE338.out)) : w.heap.size ≤ gb350)); have n10_ := Aside0.mk ((by rw [hg]; exact Nat.ne_of_lt (blk_lt (g := gb324) (o := .cells #[.int .i64 0, .int .i64 0] 32 (0, 0)) (rb BK324.out)) : gb324 ≠ gb350)); have n11_ := Aside0.mk ((by rw [hg]; exact Nat.ne_of_gt (blk_lt (g := gb324) (o := .cells #[.int .i64 0, .int .i64 0] 32 (0, 0)) (rb BK324.out)) : gb350 ≠ gb324)); have n12_ := Aside0.mk ((by rw [hg]; exact Nat.ne_of_lt (blk_lt (g := gb338) (o := .cells #[.string t325, .slice Ao14 t326.length co14, .slice Ao15 t329.length co15, .slice Ao16 t332.length co16, .int .i64 t335, .int .i64 t336] 45 (0, 0)) (rb BK338.out)) : gb338 ≠ gb350)); have n13_ := Aside0.mk ((by rw [hg]; exact Nat.ne_of_gt (blk_lt (g := gb338) (o := .cells #[.string t325, .slice Ao14 t326.length co14, .slice Ao15 t329.length co15, .slice Ao16 t332.length co16, .int .i64 t335, .int .i64 t336] 45 (0, 0)) (rb BK338.out)) : gb350 ≠ gb338)); revert n0_ n1_ n2_ n3_ n4_ n5_ n6_ n7_ n8_ n9_ n10_ n11_ n12_ n13_; clear HO_339001 HO_339002 HO_339003 HO346 BK324 BK338 HB; intro HO_339001 HO_339002 HO_339003 HO346 BK324 BK338 HB BK350 GW350 GE350 NB324_350 NB350_324 NB338_350 NB350_338; clear hb hbox hg; have hnb50 := NB350_324.out; have hnc50 := NB324_350.out; have hnb51 := NB350_338.out; have hnc51 := NB338_350.out; have hcz52_0 : w49.cell? ⟨gb350, 0, none⟩ = some (.int .i64 0) := (blk_cell BK350.out 0).trans rfl; have hcz52_1 : w49.cell? ⟨gb350, 1, none⟩ = some (.int .i64 0) := (blk_cell BK350.out 1).trans rfl; have hfz52_0 := blk_frozen BK350.out 0; have hfz52_1 := blk_frozen BK350.out 1))
   have n0_ : Aside0 (Kd.R k56 56 ((w49.setCell ⟨gb350, 0, none⟩ (.int .i64 t347)).setCell ⟨gb350, 1, none⟩ (.int .i64 t348)) w.heap.size (fun _ => True) (.slice Ao14 t326.length co14) t326) := ⟨rr (Kd.R_mono (Kd.R_far (p := ⟨gb350, 1, none⟩) (Kd.R_far (p := ⟨gb350, 0, none⟩) (Kd.R_types HO_339001.out BK350.out (by decide)) (fun _ hk => hk.2) (.int .i64 t347)) (fun _ hk => hk.2) (.int .i64 t348)) (fun _ hk => trivial))⟩
   have n1_ : Aside0 (Kd.R k69 69 ((w49.setCell ⟨gb350, 0, none⟩ (.int .i64 t347)).setCell ⟨gb350, 1, none⟩ (.int .i64 t348)) w.heap.size (fun k_ => some k_ ≠ (.slice Ao16 t332.length co16 : Value).ownBlock) (.slice Ao15 t329.length co15) t329) := ⟨rr (Kd.R_mono (Kd.R_far (p := ⟨gb350, 1, none⟩) (Kd.R_far (p := ⟨gb350, 0, none⟩) (Kd.R_types HO_339002.out BK350.out (by decide)) (fun _ hk => hk.2) (.int .i64 t347)) (fun _ hk => hk.2) (.int .i64 t348)) (fun _ hk => hk.1))⟩
   have n2_ : Aside0 (Kd.R k69 69 ((w49.setCell ⟨gb350, 0, none⟩ (.int .i64 t347)).setCell ⟨gb350, 1, none⟩ (.int .i64 t348)) w.heap.size (fun k_ => some k_ ≠ (.slice Ao15 t329.length co15 : Value).ownBlock) (.slice Ao16 t332.length co16) t332) := ⟨rr (Kd.R_mono (Kd.R_far (p := ⟨gb350, 1, none⟩) (Kd.R_far (p := ⟨gb350, 0, none⟩) (Kd.R_types HO_339003.out BK350.out (by decide)) (fun _ hk => hk.2) (.int .i64 t347)) (fun _ hk => hk.2) (.int .i64 t348)) (fun _ hk => hk.1))⟩
   have n3_ : Aside0 (Kd.R (Kd.int .i64) 2 ((w49.setCell ⟨gb350, 0, none⟩ (.int .i64 t347)).setCell ⟨gb350, 1, none⟩ (.int .i64 t348)) w.heap.size (fun _ => True) (.slice Ao47 y344.length co47) t349) := ⟨rr (Kd.R_mono (Kd.R_far (p := ⟨gb350, 1, none⟩) (Kd.R_far (p := ⟨gb350, 0, none⟩) (Kd.R_types HO346.out BK350.out (by decide)) (fun _ hk => hk.2) (.int .i64 t347)) (fun _ hk => hk.2) (.int .i64 t348)) (fun _ hk => trivial))⟩
   have n4_ : Aside0 (((w49.setCell ⟨gb350, 0, none⟩ (.int .i64 t347)).setCell ⟨gb350, 1, none⟩ (.int .i64 t348)).heap[gb324]? = some (.cells #[.int .i64 0, .int .i64 0] 32 (0, 0))) := ⟨by (with_reducible repeat (first | apply blk_drewN | apply blk_drew | apply blk_alloc)); refine blk_far ?_ NB324_350.out _; (with_reducible repeat (first | apply blk_drewN | apply blk_drew | apply blk_alloc)); refine blk_far ?_ NB324_350.out _; (with_reducible repeat (first | apply blk_drewN | apply blk_drew | apply blk_alloc)); exact BK324.out⟩
   have n5_ : Aside0 (((w49.setCell ⟨gb350, 0, none⟩ (.int .i64 t347)).setCell ⟨gb350, 1, none⟩ (.int .i64 t348)).heap[gb338]? = some (.cells #[.string t325, .slice Ao14 t326.length co14, .slice Ao15 t329.length co15, .slice Ao16 t332.length co16, .int .i64 t335, .int .i64 t336] 45 (0, 0))) := ⟨by (with_reducible repeat (first | apply blk_drewN | apply blk_drew | apply blk_alloc)); refine blk_far ?_ NB338_350.out _; (with_reducible repeat (first | apply blk_drewN | apply blk_drew | apply blk_alloc)); refine blk_far ?_ NB338_350.out _; (with_reducible repeat (first | apply blk_drewN | apply blk_drew | apply blk_alloc)); exact BK338.out⟩
   have n6_ : Aside0 (((w49.setCell ⟨gb350, 0, none⟩ (.int .i64 t347)).setCell ⟨gb350, 1, none⟩ (.int .i64 t348)).heap[gb350]? = some (.cells #[.int .i64 t347, .int .i64 t348] 32 (0, 0))) := ⟨by (with_reducible repeat (first | apply blk_drewN | apply blk_drew | apply blk_alloc)); refine blk_put (cs := #[.int .i64 t347, .int .i64 0]) ?_ 1 _ rfl; (with_reducible repeat (first | apply blk_drewN | apply blk_drew | apply blk_alloc)); refine blk_put (cs := #[.int .i64 0, .int .i64 0]) ?_ 0 _ rfl; (with_reducible repeat (first | apply blk_drewN | apply blk_drew | apply blk_alloc)); exact BK350.out⟩
   have n7_ : Aside0 (Below w.heap.size w ((w49.setCell ⟨gb350, 0, none⟩ (.int .i64 t347)).setCell ⟨gb350, 1, none⟩ (.int .i64 t348))) := ⟨bs3 GE324.out GE338.out GE350.out⟩
   (try clear HO_339001)
   (try clear HO_339002)
   (try clear HO_339003)
   (try clear HO346)
   (try clear BK324)
   (try clear BK338)
   (try clear BK350)
   (try clear HB)
   generalize ((w49.setCell ⟨gb350, 0, none⟩ (.int .i64 t347)).setCell ⟨gb350, 1, none⟩ (.int .i64 t348)) = w53 at n0_ n1_ n2_ n3_ n4_ n5_ n6_ n7_ ⊢
   have HO_339001 := n0_
   have HO_339002 := n1_
   have HO_339003 := n2_
   have HO346 := n3_
   have BK324 := n4_
   have BK338 := n5_
   have BK350 := n6_
   have HB := n7_
   clear n0_ n1_ n2_ n3_ n4_ n5_ n6_ n7_
   have n0_ := Aside0.mk (Kd.R_drew HO_339001.out)
   have n1_ := Aside0.mk (Kd.R_drew HO_339002.out)
   have n2_ := Aside0.mk (Kd.R_drew HO_339003.out)
   have n3_ := Aside0.mk (Kd.R_drew HO346.out)
   have n4_ := Aside0.mk (blk_drew BK324.out)
   have n5_ := Aside0.mk (blk_drew BK338.out)
   have n6_ := Aside0.mk (blk_drew BK350.out)
   have n7_ := Aside0.mk (below_drew1 HB.out)
   revert n0_ n1_ n2_ n3_ n4_ n5_ n6_ n7_; clear HO_339001 HO_339002 HO_339003 HO346 BK324 BK338 BK350 HB; intro HO_339001 HO_339002 HO_339003 HO346 BK324 BK338 BK350 HB
   refine start_ (n := 5) (S := fun w' => w'.cell? ⟨gb350, 0, none⟩ = some (.int .i64 t347) ∧ w'.cell? ⟨gb350, 1, none⟩ = some (.int .i64 t348)) (ds := []) #[F, F, F, F, F] (by kernel_rfl) rfl rfl ⟨(blk_cell BK350.out 0).trans rfl, (blk_cell BK350.out 1).trans rfl⟩ (fun hHeld => ?_)
   generalize w53.drew = w54 at HO_339001 HO_339002 HO_339003 HO346 BK324 BK338 BK350 HB hHeld ⊢
   refine pure_ (i := 0) (N := some 68) (v := ?_) (a' := ?_) #[T, F, F, F, F] rfl rfl (by kernel_rfl) (fun _ _ _ h => h) (Or.inl ⟨by rfl, ?_⟩) ?_ ?_
   rotate_left
   ·
    intro w'
    go_simp
    with_reducible rfl
   rotate_left
   ·
    simp only [ap, sa, sb, sc, i64_w, i32_w]
    rfl
   refine pure_ (i := 2) (N := some 10) (v := ?_) (a' := ?_) #[T, F, T, F, F] rfl rfl (by kernel_rfl) (fun _ _ _ h => h) (Or.inl ⟨by rfl, ?_⟩) ?_ ?_
   rotate_left
   ·
    intro w'
    go_simp
    with_reducible rfl
   rotate_left
   ·
    simp only [ap, sa, sb, sc, i64_w, i32_w]
    rfl
   refine take_ (i := 1) (N := some 69) (v := ?_) (a' := ?_) #[T, T, T, F, F] rfl rfl (by kernel_rfl) (fun _ _ _ h => h) (Or.inl ⟨by rfl, ?_⟩) hHeld ?_ ?_
   rotate_left
   ·
    rintro w' ⟨s0, s1⟩
    go_simp
    with_reducible rfl
   rotate_left
   ·
    simp only [ap, sa, sb, sc, i64_w, i32_w]
    rfl
   refine one_ (i := 3) (N := none) #[T, T, T, T, F] rfl rfl (by kernel_rfl) (by decide) (fun K hK => ?_)
   have hs55 : w54.cell? ⟨gb324, 0, none⟩ = some (.int .i64 0) := (blk_cell BK324.out 0).trans rfl
   have hfs55 := blk_frozen BK324.out 0
   have hns55_1 := NB338_324.out
   have hns55_2 := NB350_324.out
   have hms55_1 := NB324_338.out
   have hms55_2 := NB324_350.out
   have hs56 : w54.cell? ⟨gb324, 1, none⟩ = some (.int .i64 0) := (blk_cell BK324.out 1).trans rfl
   have hfs56 := blk_frozen BK324.out 1
   have hns56_1 := NB338_324.out
   have hns56_2 := NB350_324.out
   have hms56_1 := NB324_338.out
   have hms56_2 := NB324_350.out
   refine skip_ (w1 := ?_) (by rfl) rfl ?_ ?_
   rotate_left
   ·
    go_simp
    rfl
   refine hK.out _ _ ⟨((cell_far (p := ⟨gb324, _, none⟩) NB350_324.out _).trans (((cell_far (p := ⟨gb324, _, none⟩) NB350_324.out _).trans (hHeld.1)))), ((cell_far (p := ⟨gb324, _, none⟩) NB350_324.out _).trans (((cell_far (p := ⟨gb324, _, none⟩) NB350_324.out _).trans (hHeld.2))))⟩ (fun hHeld => ?_)
   clear hK K
   refine pure_ (i := 4) (N := some 12) (v := ?_) (a' := ?_) #[T, T, T, T, T] rfl rfl (by kernel_rfl) (fun _ _ _ h => h) (Or.inl ⟨by rfl, ?_⟩) ?_ ?_
   rotate_left
   ·
    intro w'
    go_simp
    with_reducible rfl
   rotate_left
   ·
    simp only [ap, sa, sb, sc, i64_w, i32_w]
    rfl
   refine done_ (by kernel_rfl) ?_
   try go_wp2
   refine bodyPost_ret (results_list (rs := [.tmp 10, .cell 11 32, .tmp 12]) rfl (by simp) (.tmp (.cell gb324 32 #[.int .i64 t347, .int .i64 t348] (0, 0) _ rfl (by (with_reducible repeat (first | apply blk_drewN | apply blk_drew | apply blk_alloc)); refine blk_put (cs := #[.int .i64 t347, .int .i64 0]) ?_ 1 _ rfl; (with_reducible repeat (first | apply blk_drewN | apply blk_drew | apply blk_alloc)); refine blk_put (cs := #[.int .i64 0, .int .i64 0]) ?_ 0 _ rfl; (with_reducible repeat (first | apply blk_drewN | apply blk_drew | apply blk_alloc)); exact BK324.out) Tryd.underlying32 rfl (by kernel_rfl) (.tmp .nil)))) rfl ?_
   exact ⟨_, by first | rfl | (simp [errW_none, errW_some] <;> rfl) | (simp [*, errW_none, errW_some] <;> rfl), rr (Kd.R_mono (Kd.R_far (p := ⟨gb324, 1, none⟩) (Kd.R_far (p := ⟨gb324, 0, none⟩) (Kd.R_types HO346.out BK324.out (by decide)) (fun _ hk => hk.2) (.int .i64 t347)) (fun _ hk => hk.2) (.int .i64 t348)) (fun _ hk => trivial)), bs3 GE324.out GE338.out GE350.out⟩
 ·
  rw [if_neg c7] at H
  have c7b0 : (t337 == 0) = false := beq_eq_false_iff_ne.mpr c7
  have c7b1 : (t337 != 0) = true := bne_iff_ne.mpr c7
  simp only [Option.some.injEq, Prod.mk.injEq] at H
  obtain ⟨rfl, rfl, rfl, rfl⟩ := H
  go_enter Tryd.func15, Tryd.ntmps15
  go_wp2_with (first | ((with_reducible refine gate_dst (N := 11) rfl ?_); refine box_event ?hg (N := 11) ?hd (cs := #[.int .i64 0, .int .i64 0]) (t := 32) ?hr ?_; (case hd => rfl); (case hg => rfl); (case hr => first | (go_simp; done) | (go_simp; rfl)); intro gb324 hg w61 hbox hb; have n0_ := Aside0.mk (below_step bl hb); have n1_ := Aside0.mk (hbox); have n2_ := Aside0.mk ((by rw [hg]; exact (below_size bl) : w.heap.size ≤ gb324)); have n3_ := Aside0.mk ((by rw [hg]; exact (below_size bl) : w.heap.size ≤ gb324)); revert n0_ n1_ n2_ n3_; clear HB; intro HB BK324 GW324 GE324; clear hb hbox hg) | ((with_reducible refine gate_callee (f := 14) rfl ?_); refine goesL_ (some 21) rfl rfl Tryd.func14 (by kernel_rfl) rfl #[.string a0, .slice A1 l1.length c1] rfl aeq ?_; (with_reducible refine (timer_find.calls k a0 _ _ l1 t325 t326 t329 t332 t335 t336 t337 _ ?side1 ?side2 ?side3 A6.out).mono ?_); (case side1 => repeat (first | exact (Kd.C_below HR1.out HB.out) | (with_reducible refine Kd.C_alloc ?_ _) | (with_reducible refine Kd.C_drewN ?_ _) | (with_reducible refine Kd.C_drew ?_))); (case side2 => exact HC1.out); (case side3 => exact GW.below HG.out (bs1 GE324.out)); rintro e w62 ⟨v327, v330, v333, rfl, ho0, ho1, ho2, hb⟩; refine ⟨_, rfl, ?_⟩; have n0_ := Aside0.mk (Kd.R_lower ho0 (below_size (bs1 GE324.out))); have n1_ := Aside0.mk (Kd.R_lower ho1 (below_size (bs1 GE324.out))); have n2_ := Aside0.mk (Kd.R_lower ho2 (below_size (bs1 GE324.out))); have n3_ := Aside0.mk (blk_below (g := gb324) (o := .cells #[.int .i64 0, .int .i64 0] 32 (0, 0)) (rb BK324.out) hb); have n4_ := Aside0.mk (below_step (bs1 GE324.out) hb); revert n0_ n1_ n2_ n3_ n4_; clear BK324 HB; intro HO328 HO331 HO334 BK324 HB; (try clear hb); (try clear hb2); (try clear hk); (try clear hi); (try clear ho0); (try clear ho1); (try clear ho2)) | ((with_reducible refine gate_dst (N := 13) rfl ?_); refine box_event ?hg (N := 13) ?hd (cs := #[.string (⟨#[]⟩ : ByteArray), .slice none 0 0, .slice none 0 0, .slice none 0 0, .int .i64 0, .int .i64 0]) (t := 45) ?hr ?_; (case hd => rfl); (case hg => rfl); (case hr => first | (go_simp; done) | (go_simp; rfl)); intro gb338 hg w63 hbox hb; have n0_ := Aside0.mk (Kd.R_below (rr HO328.out) hb); have n1_ := Aside0.mk (Kd.R_below (rr HO331.out) hb); have n2_ := Aside0.mk (Kd.R_below (rr HO334.out) hb); have n3_ := Aside0.mk (blk_below (g := gb324) (o := .cells #[.int .i64 0, .int .i64 0] 32 (0, 0)) (rb BK324.out) hb); have n4_ := Aside0.mk (below_step (bs1 GE324.out) hb); have n5_ := Aside0.mk (hbox); have n6_ := Aside0.mk ((by rw [hg]; exact (below_size (bs1 GE324.out)) : w.heap.size ≤ gb338)); have n7_ := Aside0.mk ((by rw [hg]; exact (below_size (bs1 GE324.out)) : w.heap.size ≤ gb338)); have n8_ := Aside0.mk ((by rw [hg]; exact Nat.ne_of_lt (blk_lt (g := gb324) (o := .cells #[.int .i64 0, .int .i64 0] 32 (0, 0)) (rb BK324.out)) : gb324 ≠ gb338)); have n9_ := Aside0.mk ((by rw [hg]; exact Nat.ne_of_gt (blk_lt (g := gb324) (o := .cells #[.int .i64 0, .int .i64 0] 32 (0, 0)) (rb BK324.out)) : gb338 ≠ gb324)); revert n0_ n1_ n2_ n3_ n4_ n5_ n6_ n7_ n8_ n9_; clear HO328 HO331 HO334 BK324 HB; intro HO328 HO331 HO334 BK324 HB BK338 GW338 GE338 NB324_338 NB338_324; clear hb hbox hg; have hnb64 := NB338_324.out; have hnc64 := NB324_338.out; have hcz65_0 : w63.cell? ⟨gb338, 0, none⟩ = some (.string (⟨#[]⟩ : ByteArray)) := (blk_cell BK338.out 0).trans rfl; have hcz65_1 : w63.cell? ⟨gb338, 1, none⟩ = some (.slice none 0 0) := (blk_cell BK338.out 1).trans rfl; have hcz65_2 : w63.cell? ⟨gb338, 2, none⟩ = some (.slice none 0 0) := (blk_cell BK338.out 2).trans rfl; have hcz65_3 : w63.cell? ⟨gb338, 3, none⟩ = some (.slice none 0 0) := (blk_cell BK338.out 3).trans rfl; have hcz65_4 : w63.cell? ⟨gb338, 4, none⟩ = some (.int .i64 0) := (blk_cell BK338.out 4).trans rfl; have hcz65_5 : w63.cell? ⟨gb338, 5, none⟩ = some (.int .i64 0) := (blk_cell BK338.out 5).trans rfl; have hfz65_0 := blk_frozen BK338.out 0; have hfz65_1 := blk_frozen BK338.out 1; have hfz65_2 := blk_frozen BK338.out 2; have hfz65_3 := blk_frozen BK338.out 3; have hfz65_4 := blk_frozen BK338.out 4; have hfz65_5 := blk_frozen BK338.out 5; obtain ⟨Ao66, co66, eo66⟩ := Kd.R_slice HO328.out; subst eo66; obtain ⟨Ao67, co67, eo67⟩ := Kd.R_slice HO331.out; subst eo67; obtain ⟨Ao68, co68, eo68⟩ := Kd.R_slice HO334.out; subst eo68; have hcz69_0 : w63.cell? ⟨gb324, 0, none⟩ = some (.int .i64 0) := (blk_cell BK324.out 0).trans rfl; have hcz69_1 : w63.cell? ⟨gb324, 1, none⟩ = some (.int .i64 0) := (blk_cell BK324.out 1).trans rfl; have hfz69_0 := blk_frozen BK324.out 0; have hfz69_1 := blk_frozen BK324.out 1))
  refine bodyPost_ret (results_list (rs := [.tmp 10, .cell 11 32, .tmp 12]) rfl (by simp) (.tmp (.cell gb324 32 #[.int .i64 0, .int .i64 0] (0, 0) _ rfl (by (with_reducible repeat (first | apply blk_drewN | apply blk_drew | apply blk_alloc)); refine blk_put (cs := #[.int .i64 0, .int .i64 0]) ?_ 1 _ rfl; (with_reducible repeat (first | apply blk_drewN | apply blk_drew | apply blk_alloc)); refine blk_put (cs := #[.int .i64 0, .int .i64 0]) ?_ 0 _ rfl; (with_reducible repeat (first | apply blk_drewN | apply blk_drew | apply blk_alloc)); refine blk_far ?_ NB324_338.out _; (with_reducible repeat (first | apply blk_drewN | apply blk_drew | apply blk_alloc)); refine blk_far ?_ NB324_338.out _; (with_reducible repeat (first | apply blk_drewN | apply blk_drew | apply blk_alloc)); refine blk_far ?_ NB324_338.out _; (with_reducible repeat (first | apply blk_drewN | apply blk_drew | apply blk_alloc)); refine blk_far ?_ NB324_338.out _; (with_reducible repeat (first | apply blk_drewN | apply blk_drew | apply blk_alloc)); refine blk_far ?_ NB324_338.out _; (with_reducible repeat (first | apply blk_drewN | apply blk_drew | apply blk_alloc)); refine blk_far ?_ NB324_338.out _; (with_reducible repeat (first | apply blk_drewN | apply blk_drew | apply blk_alloc)); exact BK324.out) Tryd.underlying32 rfl (by kernel_rfl) (.tmp .nil)))) rfl ?_
  exact ⟨_, by first | rfl | (simp [errW_none, errW_some] <;> rfl) | (simp [*, errW_none, errW_some] <;> rfl), by first | exact Kd.R_nil _ _ _ _ _ | exact Kd.R_nil _ _ _ 0 _ | exact Kd.N_nil _ _ _ _ _ | exact Kd.V_nil _ _ _ _ _ | exact Kd.Q_nil _ _ _ _ _ | exact Kd.S_nil _ _ _ _ _, bs2 GE324.out GE338.out⟩

end Go.Proofs.YtjjbdgngncgikaaDoor.R
