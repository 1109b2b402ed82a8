import Derived.Test.YtjjbdgngncgikaaGreatDoorRx0
import Derived.Test.YtjjbdgngncgikaaGreatDoorRx14
import Derived.Test.YtjjbdgngncgikaaGreatDoorRx15
namespace Go.Proofs.YtjjbdgngncgikaaGreatDoor.R
open Go.RowKit Go.Proofs.YtjjbdgngncgikaaGreatDoorW.PrintWords Go.Proofs.YtjjbdgngncgikaaGreatDoorW.PrintLast Go.Proofs.YtjjbdgngncgikaaGreatDoorW.PrintMore
attribute [local go_sem] max2_int min2_int max_two min_two max_three min_three max_four min_four
set_option linter.unusedVariables false
set_option linter.unusedSimpArgs false

def plenumref19_Step.f (k : Nat) (a0 : ByteArray) (l1 : List Int) (l2 : List Int) (l3 : List (S26)) (a4 : Int) : Option (List Int × Int × Int × Int) := (plenumref19_Check.f k a0 l1 l2 l3 a4).bind fun t673 => (if t673 = 0 then ((plenumref19_step.f k a0 l1 l2 l3 a4).bind fun bt674 => (some (bt674.1, bt674.2.1, bt674.2.2, 0))) else (some (([] : List Int), 0, 0, t673)))
theorem plenumref19_Step.mono : ∀ a0 a1 a2 a3 a4 k, LeO (plenumref19_Step.f k a0 a1 a2 a3 a4) (plenumref19_Step.f (k + 1) a0 a1 a2 a3 a4) := by
 intro a0 a1 a2 a3 a4 k
 unfold plenumref19_Step.f
 repeat' first
   | (with_reducible exact plenumref19_Check.mono _ _ _ _ _ _)
   | (with_reducible exact plenumref19_step.mono _ _ _ _ _ _)
   | (with_reducible exact LeO.refl _)
   | (with_reducible exact LeO.none _)
   | (with_reducible refine LeO.ite ?_ ?_)
   | (with_reducible refine LeO.bind ?_ (fun _ => ?_))
   | exact LeO.none _
   | refine LeO.ite ?_ ?_
   | refine LeO.bind ?_ (fun _ => ?_)
set_option maxHeartbeats 8000000 in
set_option maxRecDepth 100000 in
theorem plenumref19_Step.calls (k : Nat) (a0 : ByteArray) (A1 : Option Addr) (c1 : Nat) (l1 : List Int) (A2 : Option Addr) (c2 : Nat) (l2 : List Int) (A3 : Option Addr) (c3 : Nat) (l3 : List (S26)) (a4 : Int) (r1 : List Int) (r2 : Int) (r3 : Int) (r4 : Int) (w : World) (hr1 : Kd.C (Kd.int .i64) w A1 l1.length l1) (hc1 : l1.length ≤ c1) (hr2 : Kd.C (Kd.int .i64) w A2 l2.length l2) (hc2 : l2.length ≤ c2) (hr3 : Kd.C k26 w A3 l3.length l3) (hc3 : l3.length ≤ c3) (h : plenumref19_Step.f k a0 l1 l2 l3 a4 = some (r1, r2, r3, r4)) :
  Calls Tryz.prog 7 #[.string a0, .slice A1 l1.length c1, .slice A2 l2.length c2, .slice A3 l3.length c3, .int .i64 a4] w fun e w' => ∃ v0_ : Value, e = .returned (.tuple #[v0_, .agg #[.int .i64 r2, .int .i64 r3], .int .i64 r4]) ∧ Kd.R (Kd.int .i64) 2 w' w.heap.size (fun _ => True) v0_ r1 ∧ Below w.heap.size w w' := by
 have hu26 := Tryz.underlying26
 have HR1 := am hr1
 have HC1 := am hc1
 clear hr1 hc1
 have HR2 := am hr2
 have HC2 := am hc2
 clear hr2 hc2
 have HR3 := am hr3
 have HC3 := am hc3
 clear hr3 hc3
 have HB := am (Below.refl w.heap.size w)
 have H : ((plenumref19_Check.f k a0 l1 l2 l3 a4).bind fun t673 => (if t673 = 0 then ((plenumref19_step.f k a0 l1 l2 l3 a4).bind fun bt674 => (some (bt674.1, bt674.2.1, bt674.2.2, 0))) else (some (([] : List Int), 0, 0, t673)))) = some (r1, r2, r3, r4) := h
 clear h
 obtain ⟨t673, A6, H⟩ := Option.bind_eq_some_iff.mp H
 (try dsimp only at H)
 replace A6 := am A6
 by_cases c7 : t673 = 0
 rotate_left
 ·
  rw [if_neg c7] at H
  have c7b0 := beq_eq_false_iff_ne.mpr c7
  have c7b1 := bne_iff_ne.mpr c7
  simp only [Option.some.injEq, Prod.mk.injEq] at H
  obtain ⟨rfl, rfl, rfl, rfl⟩ := H
  go_enter Tryz.func7, Tryz.ntmps7
  go_wp2_with (first | ((refine gate_dst (N := 11) rfl ?_); refine bx (N := 11) (cs := #[.int .i64 0, .int .i64 0]) (t := 26) ?_; intro gb672 hg w19 hbox hb; have BK672 := am (hbox); have GW672 := am (gw hg (below_size bl)); have GE672 := am (gw hg (below_size bl)); replace HB := am (below_step bl hb); clear hb hbox hg) | ((refine gate_callee (f := 20) rfl ?_); refine gl (some 21) Tryz.func20 #[.string a0, .slice A1 l1.length c1, .slice A2 l2.length c2, .slice A3 l3.length c3, .int .i64 a4] ?_; (with_reducible refine (plenumref19_Check.calls k a0 _ _ l1 _ _ l2 _ _ l3 a4 t673 _ ?side1 ?side2 ?side3 ?side4 ?side5 ?side6 A6.out).mono ?_); (case side1 => exact cc (Kd.C_below HR1.out HB.out)); (case side2 => exact HC1.out); (case side3 => exact cc (Kd.C_below HR2.out HB.out)); (case side4 => exact HC2.out); (case side5 => exact cc (Kd.C_below HR3.out HB.out)); (case side6 => exact HC3.out); rintro e w20 ⟨rfl, hb⟩; refine ⟨_, rfl, ?_⟩; replace BK672 := am (blk_below (rb BK672.out) hb); replace HB := am (below_step (bs1 GE672.out) hb); (try clear hb); (try clear hb2); (try clear hk); (try clear hi); obtain ⟨hcz21_0, hcz21_1, hfz21_0, hfz21_1⟩ := bz2 BK672.out))
  refine bodyPost_ret (results_list (rs := [.tmp 10, .cell 11 26, .tmp 12]) rfl (by simp) (.tmp (.cell gb672 26 #[.int .i64 0, .int .i64 0] (0, 0) _ rfl (by refine rb ?_; refine blk_put (cs := #[.int .i64 0, .int .i64 0]) ?_ 1 _ rfl; refine rb ?_; refine blk_put (cs := #[.int .i64 0, .int .i64 0]) ?_ 0 _ rfl; exact rb BK672.out) Tryz.underlying26 rfl (by kernel_rfl) (.tmp .nil)))) rfl ?_
  exact ⟨_, ew, by first | exact Kd.R_nil _ _ _ _ _ | exact Kd.R_nil _ _ _ 0 _ | exact Kd.N_nil _ _ _ _ _ | exact Kd.V_nil _ _ _ _ _ | exact Kd.Q_nil _ _ _ _ _ | exact Kd.S_nil _ _ _ _ _, bs1 GE672.out⟩
 rw [if_pos c7] at H
 have c7b0 := beq_iff_eq.mpr c7
 have c7b1 := bne_eq_false_iff_eq.mpr c7
 clear c7
 obtain ⟨⟨t674, t677, t678⟩, A8, H⟩ := Option.bind_eq_some_iff.mp H
 (try dsimp only at H)
 replace A8 := am A8
 simp only [Option.some.injEq, Prod.mk.injEq] at H
 obtain ⟨rfl, rfl, rfl, rfl⟩ := H
 go_enter Tryz.func7, Tryz.ntmps7
 try go_wp2_with (first | ((refine gate_dst (N := 11) rfl ?_); refine bx (N := 11) (cs := #[.int .i64 0, .int .i64 0]) (t := 26) ?_; intro gb672 hg w9 hbox hb; have BK672 := am (hbox); have GW672 := am (gw hg (below_size bl)); have GE672 := am (gw hg (below_size bl)); replace HB := am (below_step bl hb); clear hb hbox hg) | ((refine gate_callee (f := 20) rfl ?_); refine gl (some 21) Tryz.func20 #[.string a0, .slice A1 l1.length c1, .slice A2 l2.length c2, .slice A3 l3.length c3, .int .i64 a4] ?_; (with_reducible refine (plenumref19_Check.calls k a0 _ _ l1 _ _ l2 _ _ l3 a4 t673 _ ?side1 ?side2 ?side3 ?side4 ?side5 ?side6 A6.out).mono ?_); (case side1 => exact cc (Kd.C_below HR1.out HB.out)); (case side2 => exact HC1.out); (case side3 => exact cc (Kd.C_below HR2.out HB.out)); (case side4 => exact HC2.out); (case side5 => exact cc (Kd.C_below HR3.out HB.out)); (case side6 => exact HC3.out); rintro e w10 ⟨rfl, hb⟩; refine ⟨_, rfl, ?_⟩; replace BK672 := am (blk_below (rb BK672.out) hb); replace HB := am (below_step (bs1 GE672.out) hb); (try clear hb); (try clear hb2); (try clear hk); (try clear hi)) | ((refine gate_callee (f := 21) rfl ?_); refine gl (some 32) Tryz.func21 #[.string a0, .slice A1 l1.length c1, .slice A2 l2.length c2, .slice A3 l3.length c3, .int .i64 a4] ?_; (with_reducible refine (plenumref19_step.calls k a0 _ _ l1 _ _ l2 _ _ l3 a4 t674 t677 t678 _ ?side1 ?side2 ?side3 ?side4 ?side5 ?side6 A8.out).mono ?_); (case side1 => exact cc (Kd.C_below HR1.out HB.out)); (case side2 => exact HC1.out); (case side3 => exact cc (Kd.C_below HR2.out HB.out)); (case side4 => exact HC2.out); (case side5 => exact cc (Kd.C_below HR3.out HB.out)); (case side6 => exact HC3.out); rintro e w11 ⟨v675, rfl, ho0, hb⟩; refine ⟨_, rfl, ?_⟩; have HO676 := am (Kd.R_lower ho0 (below_size (bs1 GE672.out))); replace BK672 := am (blk_below (rb BK672.out) hb); replace HB := am (below_step (bs1 GE672.out) hb); (try clear hb); (try clear hb2); (try clear hk); (try clear hi); (try clear ho0)) | ((refine gate_dst (N := 15) rfl ?_); refine bx (N := 15) (cs := #[.int .i64 0, .int .i64 0]) (t := 26) ?_; intro gb679 hg w12 hbox hb; replace HO676 := am (Kd.R_below (rr HO676.out) hb); have BK679 := am (hbox); have GW679 := am (gw hg (below_size (bs1 GE672.out))); have GE679 := am (gw hg (below_size (bs1 GE672.out))); replace HB := am (below_step (bs1 GE672.out) hb); have NB672_679 := am ((by rw [hg]; exact Nat.ne_of_lt (blk_lt (rb BK672.out)) : gb672 ≠ gb679)); have NB679_672 := am ((by rw [hg]; exact Nat.ne_of_gt (blk_lt (rb BK672.out)) : gb679 ≠ gb672)); replace BK672 := am (blk_below (rb BK672.out) hb); clear hb hbox hg; have hnb13 := NB679_672.out; have hnc13 := NB672_679.out; obtain ⟨hcz14_0, hcz14_1, hfz14_0, hfz14_1⟩ := bz2 BK679.out))
 have n0_ : Aside0 (Kd.R (Kd.int .i64) 2 ((w12.setCell ⟨gb679, 0, none⟩ (.int .i64 t677)).setCell ⟨gb679, 1, none⟩ (.int .i64 t678)) w.heap.size (fun _ => True) v675 t674) := ⟨rr (Kd.R_mono (Kd.R_far (p := ⟨gb679, 1, none⟩) (Kd.R_far (p := ⟨gb679, 0, none⟩) (Kd.R_types HO676.out BK679.out (by decide)) (fun _ hk => hk.2) (.int .i64 t677)) (fun _ hk => hk.2) (.int .i64 t678)) (fun _ hk => trivial))⟩
 have n1_ : Aside0 (((w12.setCell ⟨gb679, 0, none⟩ (.int .i64 t677)).setCell ⟨gb679, 1, none⟩ (.int .i64 t678)).heap[gb672]? = some (.cells #[.int .i64 0, .int .i64 0] 26 (0, 0))) := ⟨by (with_reducible repeat (first | apply blk_drewN | apply blk_drew | apply blk_alloc)); refine blk_far ?_ NB672_679.out _; (with_reducible repeat (first | apply blk_drewN | apply blk_drew | apply blk_alloc)); refine blk_far ?_ NB672_679.out _; exact rb BK672.out⟩
 have n2_ : Aside0 (((w12.setCell ⟨gb679, 0, none⟩ (.int .i64 t677)).setCell ⟨gb679, 1, none⟩ (.int .i64 t678)).heap[gb679]? = some (.cells #[.int .i64 t677, .int .i64 t678] 26 (0, 0))) := ⟨by refine rb ?_; refine blk_put (cs := #[.int .i64 t677, .int .i64 0]) ?_ 1 _ rfl; refine rb ?_; refine blk_put (cs := #[.int .i64 0, .int .i64 0]) ?_ 0 _ rfl; exact rb BK679.out⟩
 have n3_ : Aside0 (Below w.heap.size w ((w12.setCell ⟨gb679, 0, none⟩ (.int .i64 t677)).setCell ⟨gb679, 1, none⟩ (.int .i64 t678))) := ⟨bs2 GE672.out GE679.out⟩
 (try clear HO676)
 (try clear BK672)
 (try clear BK679)
 (try clear HB)
 generalize ((w12.setCell ⟨gb679, 0, none⟩ (.int .i64 t677)).setCell ⟨gb679, 1, none⟩ (.int .i64 t678)) = w15 at n0_ n1_ n2_ n3_ ⊢
 have HO676 := n0_
 have BK672 := n1_
 have BK679 := n2_
 have HB := n3_
 clear n0_ n1_ n2_ n3_
 have n0_ := am (Kd.R_drew HO676.out)
 have n1_ := am (blk_drew BK672.out)
 have n2_ := am (blk_drew BK679.out)
 have n3_ := am (below_drew1 HB.out)
 revert n0_ n1_ n2_ n3_; clear HO676 BK672 BK679 HB; intro HO676 BK672 BK679 HB
 refine start_ (n := 5) (S := fun w' => w'.cell? ⟨gb679, 0, none⟩ = some (.int .i64 t677) ∧ w'.cell? ⟨gb679, 1, none⟩ = some (.int .i64 t678)) (ds := []) #[F, F, F, F, F] (by kernel_rfl) rfl rfl ⟨(blk_cell BK679.out 0).trans rfl, (blk_cell BK679.out 1).trans rfl⟩ (fun hHeld => ?_)
 generalize w15.drew = w16 at HO676 BK672 BK679 HB hHeld ⊢
 refine pure_ (i := 0) (N := some 35) (v := ?_) (a' := ?_) #[T, F, F, F, F] rfl rfl (by kernel_rfl) (fun _ _ _ h => h) (Or.inl ⟨by rfl, ?_⟩) ?_ ?_
 rotate_left
 ·
  intro w'
  go_simp
  with_reducible rfl
 rotate_left
 ·
  simp only [ap, sa, sb, sc, i64_w, i32_w]
  rfl
 refine pure_ (i := 2) (N := some 10) (v := ?_) (a' := ?_) #[T, F, T, F, F] rfl rfl (by kernel_rfl) (fun _ _ _ h => h) (Or.inl ⟨by rfl, ?_⟩) ?_ ?_
 rotate_left
 ·
  intro w'
  go_simp
  with_reducible rfl
 rotate_left
 ·
  simp only [ap, sa, sb, sc, i64_w, i32_w]
  rfl
 refine take_ (i := 1) (N := some 36) (v := ?_) (a' := ?_) #[T, T, T, F, F] rfl rfl (by kernel_rfl) (fun _ _ _ h => h) (Or.inl ⟨by rfl, ?_⟩) hHeld ?_ ?_
 rotate_left
 ·
  rintro w' ⟨s0, s1⟩
  go_simp
  with_reducible rfl
 rotate_left
 ·
  simp only [ap, sa, sb, sc, i64_w, i32_w]
  rfl
 refine one_ (i := 3) (N := none) #[T, T, T, T, F] rfl rfl (by kernel_rfl) (by decide) (fun K hK => ?_)
 have hs17 : w16.cell? ⟨gb672, 0, none⟩ = some (.int .i64 0) := (blk_cell BK672.out 0).trans rfl
 have hfs17 := blk_frozen BK672.out 0
 have hns17_1 := NB679_672.out
 have hms17_1 := NB672_679.out
 have hs18 : w16.cell? ⟨gb672, 1, none⟩ = some (.int .i64 0) := (blk_cell BK672.out 1).trans rfl
 have hfs18 := blk_frozen BK672.out 1
 have hns18_1 := NB679_672.out
 have hms18_1 := NB672_679.out
 refine skip_ (w1 := ?_) (by rfl) rfl ?_ ?_
 rotate_left
 ·
  go_simp
  rfl
 refine hK.out _ _ ⟨((cell_far (p := ⟨gb672, _, none⟩) NB679_672.out _).trans (((cell_far (p := ⟨gb672, _, none⟩) NB679_672.out _).trans (hHeld.1)))), ((cell_far (p := ⟨gb672, _, none⟩) NB679_672.out _).trans (((cell_far (p := ⟨gb672, _, none⟩) NB679_672.out _).trans (hHeld.2))))⟩ (fun hHeld => ?_)
 clear hK K
 refine pure_ (i := 4) (N := some 12) (v := ?_) (a' := ?_) #[T, T, T, T, T] rfl rfl (by kernel_rfl) (fun _ _ _ h => h) (Or.inl ⟨by rfl, ?_⟩) ?_ ?_
 rotate_left
 ·
  intro w'
  go_simp
  with_reducible rfl
 rotate_left
 ·
  simp only [ap, sa, sb, sc, i64_w, i32_w]
  rfl
 refine done_ (by kernel_rfl) ?_
 try go_wp2
 refine bodyPost_ret (results_list (rs := [.tmp 10, .cell 11 26, .tmp 12]) rfl (by simp) (.tmp (.cell gb672 26 #[.int .i64 t677, .int .i64 t678] (0, 0) _ rfl (by refine rb ?_; refine blk_put (cs := #[.int .i64 t677, .int .i64 0]) ?_ 1 _ rfl; refine rb ?_; refine blk_put (cs := #[.int .i64 0, .int .i64 0]) ?_ 0 _ rfl; exact rb BK672.out) Tryz.underlying26 rfl (by kernel_rfl) (.tmp .nil)))) rfl ?_
 exact ⟨_, ew, rr (Kd.R_mono (Kd.R_far (p := ⟨gb672, 1, none⟩) (Kd.R_far (p := ⟨gb672, 0, none⟩) (Kd.R_types HO676.out BK672.out (by decide)) (fun _ hk => hk.2) (.int .i64 t677)) (fun _ hk => hk.2) (.int .i64 t678)) (fun _ hk => trivial)), bs2 GE672.out GE679.out⟩
end Go.Proofs.YtjjbdgngncgikaaGreatDoor.R
