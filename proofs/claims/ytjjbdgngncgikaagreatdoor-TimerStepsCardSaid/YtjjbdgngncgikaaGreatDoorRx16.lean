-- printed
import Derived.Test.YtjjbdgngncgikaaGreatDoorRx0
import Derived.Test.YtjjbdgngncgikaaGreatDoorRx1
import Derived.Test.YtjjbdgngncgikaaGreatDoorRx10
import Derived.Test.YtjjbdgngncgikaaGreatDoorRx12
import Derived.Test.YtjjbdgngncgikaaGreatDoorRx13
import Derived.Test.YtjjbdgngncgikaaGreatDoorRx14
import Derived.Test.YtjjbdgngncgikaaGreatDoorRx15
namespace Go.Proofs.YtjjbdgngncgikaaGreatDoor.R
open Go.RowKit Go.Proofs.YtjjbdgngncgikaaGreatDoorW.PrintWords Go.Proofs.YtjjbdgngncgikaaGreatDoorW.PrintLast Go.Proofs.YtjjbdgngncgikaaGreatDoorW.PrintMore
attribute [local go_sem] max2_int min2_int max_two min_two max_three min_three max_four min_four   -- for this text's walks alone
set_option linter.unusedVariables false
set_option linter.unusedSimpArgs false

attribute [local go_sem high] eqA26
/-! ### plenumref19_Step: function 7 -/
def plenumref19_Step.f (k : Nat) (a0 : ByteArray) (l1 : List Int) (l2 : List Int) (l3 : List (S26)) (a4 : Int) : Option (List Int × Int × Int × Int) := (plenumref19_Check.f k a0 l1 l2 l3 a4).bind fun t673 => (if t673 = 0 then ((plenumref19_step.f k a0 l1 l2 l3 a4).bind fun bt674 => (some (bt674.1, bt674.2.1, bt674.2.2, 0))) else (some (([] : List Int), 0, 0, t673)))
theorem plenumref19_Step.mono : ∀ a0 a1 a2 a3 a4 k, LeO (plenumref19_Step.f k a0 a1 a2 a3 a4) (plenumref19_Step.f (k + 1) a0 a1 a2 a3 a4) := by
 intro a0 a1 a2 a3 a4 k
 unfold plenumref19_Step.f
 repeat' first
   | (with_reducible exact plenumref19_Check.mono _ _ _ _ _ _)
   | (with_reducible exact plenumref19_step.mono _ _ _ _ _ _)
   | (with_reducible exact LeO.refl _)
   | (with_reducible exact LeO.none _)
   | (with_reducible refine LeO.ite ?_ ?_)
   | (with_reducible refine LeO.bind ?_ (fun _ => ?_))
   | exact LeO.none _
   | refine LeO.ite ?_ ?_
   | refine LeO.bind ?_ (fun _ => ?_)
set_option maxHeartbeats 8000000 in
set_option maxRecDepth 100000 in
theorem plenumref19_Step.calls (k : Nat) (a0 : ByteArray) (A1 : Option Addr) (c1 : Nat) (l1 : List Int) (A2 : Option Addr) (c2 : Nat) (l2 : List Int) (A3 : Option Addr) (c3 : Nat) (l3 : List (S26)) (a4 : Int) (r1 : List Int) (r2 : Int) (r3 : Int) (r4 : Int) (w : World) (hr1 : Kd.C (Kd.int .i64) w A1 l1.length l1) (hc1 : l1.length ≤ c1) (hr2 : Kd.C (Kd.int .i64) w A2 l2.length l2) (hc2 : l2.length ≤ c2) (hr3 : Kd.C k26 w A3 l3.length l3) (hc3 : l3.length ≤ c3) (h : plenumref19_Step.f k a0 l1 l2 l3 a4 = some (r1, r2, r3, r4)) :
  Calls Tryz.prog 7 #[.string a0, .slice A1 l1.length c1, .slice A2 l2.length c2, .slice A3 l3.length c3, .int .i64 a4] w fun e w' => ∃ v0_ : Value, e = .returned (.tuple #[v0_, .agg #[.int .i64 r2, .int .i64 r3], .int .i64 r4]) ∧ Kd.R (Kd.int .i64) 2 w' w.heap.size (fun _ => True) v0_ r1 ∧ Below w.heap.size w w' := by
 have hu26 := Tryz.underlying26
 have HR1 := am hr1
 have HC1 := am hc1
 clear hr1 hc1
 have HR2 := am hr2
 have HC2 := am hc2
 clear hr2 hc2
 have HR3 := am hr3
 have HC3 := am hc3
 clear hr3 hc3
 have HB := am (Below.refl w.heap.size w)
 have H : ((plenumref19_Check.f k a0 l1 l2 l3 a4).bind fun t673 => (if t673 = 0 then ((plenumref19_step.f k a0 l1 l2 l3 a4).bind fun bt674 => (some (bt674.1, bt674.2.1, bt674.2.2, 0))) else (some (([] : List Int), 0, 0, t673)))) = some (r1, r2, r3, r4) := h
 clear h
 replace H := Option.bind_eq_some_iff.mp H
 obtain ⟨t673, A60, H⟩ := H
 (try dsimp only at H)
 have A6 := am A60
 clear A60
 by_cases c7 : t673 = 0
 rotate_left
 ·
  rw [if_neg c7] at H
  have c7b0 := beq_eq_false_iff_ne.mpr c7
  have c7b1 := bne_iff_ne.mpr c7
  simp only [Option.some.injEq, Prod.mk.injEq] at H
  obtain ⟨rfl, rfl, rfl, rfl⟩ := H
  go_enter Tryz.func7, Tryz.ntmps7
  go_wp2_with (first | ((refine gate_dst (N := 11) rfl ?_); refine bx (N := 11) (cs := #[.int .i64 0, .int .i64 0]) (t := 26) ?_; intro gb672 hg w19 hbox hb; have BK672 := am (hbox); have GW672 := am (gw hg (below_size bl)); have GE672 := am (gw hg (below_size bl)); replace HB := am (below_step bl hb); clear hb hbox hg) | ((refine gate_callee (f := 20) rfl ?_); refine goesL_ (some 21) rfl rfl Tryz.func20 (by kernel_rfl) rfl #[.string a0, .slice A1 l1.length c1, .slice A2 l2.length c2, .slice A3 l3.length c3, .int .i64 a4] rfl aeq ?_; (with_reducible refine (plenumref19_Check.calls k a0 _ _ l1 _ _ l2 _ _ l3 a4 t673 _ ?side1 ?side2 ?side3 ?side4 ?side5 ?side6 A6.out).mono ?_); (case side1 => exact cc (Kd.C_below HR1.out HB.out)); (case side2 => exact HC1.out); (case side3 => exact cc (Kd.C_below HR2.out HB.out)); (case side4 => exact HC2.out); (case side5 => exact cc (Kd.C_below HR3.out HB.out)); (case side6 => exact HC3.out); rintro e w20 ⟨rfl, hb⟩; refine ⟨_, rfl, ?_⟩; replace BK672 := am (blk_below (rb BK672.out) hb); replace HB := am (below_step (bs1 GE672.out) hb); (try clear hb); (try clear hb2); (try clear hk); (try clear hi); obtain ⟨hcz21_0, hcz21_1, hfz21_0, hfz21_1⟩ := bz2 BK672.out))
  refine bodyPost_ret (results_list (rs := [.tmp 10, .cell 11 26, .tmp 12]) rfl (by simp) (.tmp (.cell gb672 26 #[.int .i64 0, .int .i64 0] (0, 0) _ rfl (by refine rb ?_; refine blk_put (cs := #[.int .i64 0, .int .i64 0]) ?_ 1 _ rfl; refine rb ?_; refine blk_put (cs := #[.int .i64 0, .int .i64 0]) ?_ 0 _ rfl; exact rb BK672.out) Tryz.underlying26 rfl (by kernel_rfl) (.tmp .nil)))) rfl ?_
  exact ⟨_, ew, by first | exact Kd.R_nil _ _ _ _ _ | exact Kd.R_nil _ _ _ 0 _ | exact Kd.N_nil _ _ _ _ _ | exact Kd.V_nil _ _ _ _ _ | exact Kd.Q_nil _ _ _ _ _ | exact Kd.S_nil _ _ _ _ _, bs1 GE672.out⟩
 rw [if_pos c7] at H
 have c7b0 := beq_iff_eq.mpr c7
 have c7b1 := bne_eq_false_iff_eq.mpr c7
 clear c7
 replace H := Option.bind_eq_some_iff.mp H
 obtain ⟨⟨t674, t677, t678⟩, A80, H⟩ := H
 (try dsimp only at H)
 have A8 := am A80
 clear A80
 simp only [Option.some.injEq, Prod.mk.injEq] at H
 obtain ⟨rfl, rfl, rfl, rfl⟩ := H
 go_enter Tryz.func7, Tryz.ntmps7
 try go_wp2_with (first | ((refine gate_dst (N := 11) rfl ?_); refine bx (N := 11) (cs := #[.int .i64 0, .int .i64 0]) (t := 26) ?_; intro gb672 hg w9 hbox hb; have BK672 := am (hbox); have GW672 := am (gw hg (below_size bl)); have GE672 := am (gw hg (below_size bl)); replace HB := am (below_step bl hb); clear hb hbox hg) | ((refine gate_callee (f := 20) rfl ?_); refine goesL_ (some 21) rfl rfl Tryz.func20 (by kernel_rfl) rfl #[.string a0, .slice A1 l1.length c1, .slice A2 l2.length c2, .slice A3 l3.length c3, .int .i64 a4] rfl aeq ?_; (with_reducible refine (plenumref19_Check.calls k a0 _ _ l1 _ _ l2 _ _ l3 a4 t673 _ ?side1 ?side2 ?side3 ?side4 ?side5 ?side6 A6.out).mono ?_); (case side1 => exact cc (Kd.C_below HR1.out HB.out)); (case side2 => exact HC1.out); (case side3 => exact cc (Kd.C_below HR2.out HB.out)); (case side4 => exact HC2.out); (case side5 => exact cc (Kd.C_below HR3.out HB.out)); (case side6 => exact HC3.out); rintro e w10 ⟨rfl, hb⟩; refine ⟨_, rfl, ?_⟩; replace BK672 := am (blk_below (rb BK672.out) hb); replace HB := am (below_step (bs1 GE672.out) hb); (try clear hb); (try clear hb2); (try clear hk); (try clear hi)) | ((refine gate_callee (f := 21) rfl ?_); refine goesL_ (some 32) rfl rfl Tryz.func21 (by kernel_rfl) rfl #[.string a0, .slice A1 l1.length c1, .slice A2 l2.length c2, .slice A3 l3.length c3, .int .i64 a4] rfl aeq ?_; (with_reducible refine (plenumref19_step.calls k a0 _ _ l1 _ _ l2 _ _ l3 a4 t674 t677 t678 _ ?side1 ?side2 ?side3 ?side4 ?side5 ?side6 A8.out).mono ?_); (case side1 => exact cc (Kd.C_below HR1.out HB.out)); (case side2 => exact HC1.out); (case side3 => exact cc (Kd.C_below HR2.out HB.out)); (case side4 => exact HC2.out); (case side5 => exact cc (Kd.C_below HR3.out HB.out)); (case side6 => exact HC3.out); rintro e w11 ⟨v675, rfl, ho0, hb⟩; refine ⟨_, rfl, ?_⟩; have HO676 := am (Kd.R_lower ho0 (below_size (bs1 GE672.out))); replace BK672 := am (blk_below (rb BK672.out) hb); replace HB := am (below_step (bs1 GE672.out) hb); (try clear hb); (try clear hb2); (try clear hk); (try clear hi); (try clear ho0)) | ((refine gate_dst (N := 15) rfl ?_); refine bx (N := 15) (cs := #[.int .i64 0, .int .i64 0]) (t := 26) ?_; intro gb679 hg w12 hbox hb; replace HO676 := am (Kd.R_below (rr HO676.out) hb); have BK679 := am (hbox); have GW679 := am (gw hg (below_size (bs1 GE672.out))); have GE679 := am (gw hg (below_size (bs1 GE672.out))); replace HB := am (below_step (bs1 GE672.out) hb); have NB672_679 := am ((by rw [hg]; exact Nat.ne_of_lt (blk_lt (rb BK672.out)) : gb672 ≠ gb679)); have NB679_672 := am ((by rw [hg]; exact Nat.ne_of_gt (blk_lt (rb BK672.out)) : gb679 ≠ gb672)); replace BK672 := am (blk_below (rb BK672.out) hb); clear hb hbox hg; have hnb13 := NB679_672.out; have hnc13 := NB672_679.out; obtain ⟨hcz14_0, hcz14_1, hfz14_0, hfz14_1⟩ := bz2 BK679.out))
 have n0_ : Aside0 (Kd.R (Kd.int .i64) 2 ((w12.setCell ⟨gb679, 0, none⟩ (.int .i64 t677)).setCell ⟨gb679, 1, none⟩ (.int .i64 t678)) w.heap.size (fun _ => True) v675 t674) := ⟨rr (Kd.R_mono (Kd.R_far (p := ⟨gb679, 1, none⟩) (Kd.R_far (p := ⟨gb679, 0, none⟩) (Kd.R_types HO676.out BK679.out (by decide)) (fun _ hk => hk.2) (.int .i64 t677)) (fun _ hk => hk.2) (.int .i64 t678)) (fun _ hk => trivial))⟩
 have n1_ : Aside0 (((w12.setCell ⟨gb679, 0, none⟩ (.int .i64 t677)).setCell ⟨gb679, 1, none⟩ (.int .i64 t678)).heap[gb672]? = some (.cells #[.int .i64 0, .int .i64 0] 26 (0, 0))) := ⟨by (with_reducible repeat (first | apply blk_drewN | apply blk_drew | apply blk_alloc)); refine blk_far ?_ NB672_679.out _; (with_reducible repeat (first | apply blk_drewN | apply blk_drew | apply blk_alloc)); refine blk_far ?_ NB672_679.out _; exact rb BK672.out⟩
 have n2_ : Aside0 (((w12.setCell ⟨gb679, 0, none⟩ (.int .i64 t677)).setCell ⟨gb679, 1, none⟩ (.int .i64 t678)).heap[gb679]? = some (.cells #[.int .i64 t677, .int .i64 t678] 26 (0, 0))) := ⟨by refine rb ?_; refine blk_put (cs := #[.int .i64 t677, .int .i64 0]) ?_ 1 _ rfl; refine rb ?_; refine blk_put (cs := #[.int .i64 0, .int .i64 0]) ?_ 0 _ rfl; exact rb BK679.out⟩
 have n3_ : Aside0 (Below w.heap.size w ((w12.setCell ⟨gb679, 0, none⟩ (.int .i64 t677)).setCell ⟨gb679, 1, none⟩ (.int .i64 t678))) := ⟨bs2 GE672.out GE679.out⟩
 (try clear HO676)
 (try clear BK672)
 (try clear BK679)
 (try clear HB)
 generalize ((w12.setCell ⟨gb679, 0, none⟩ (.int .i64 t677)).setCell ⟨gb679, 1, none⟩ (.int .i64 t678)) = w15 at n0_ n1_ n2_ n3_ ⊢
 have HO676 := n0_
 have BK672 := n1_
 have BK679 := n2_
 have HB := n3_
 clear n0_ n1_ n2_ n3_
 have n0_ := am (Kd.R_drew HO676.out)
 have n1_ := am (blk_drew BK672.out)
 have n2_ := am (blk_drew BK679.out)
 have n3_ := am (below_drew1 HB.out)
 revert n0_ n1_ n2_ n3_; clear HO676 BK672 BK679 HB; intro HO676 BK672 BK679 HB
 refine start_ (n := 5) (S := fun w' => w'.cell? ⟨gb679, 0, none⟩ = some (.int .i64 t677) ∧ w'.cell? ⟨gb679, 1, none⟩ = some (.int .i64 t678)) (ds := []) #[F, F, F, F, F] (by kernel_rfl) rfl rfl ⟨(blk_cell BK679.out 0).trans rfl, (blk_cell BK679.out 1).trans rfl⟩ (fun hHeld => ?_)
 generalize w15.drew = w16 at HO676 BK672 BK679 HB hHeld ⊢
 refine pure_ (i := 0) (N := some 35) (v := ?_) (a' := ?_) #[T, F, F, F, F] rfl rfl (by kernel_rfl) (fun _ _ _ h => h) (Or.inl ⟨by rfl, ?_⟩) ?_ ?_
 rotate_left
 ·
  intro w'
  go_simp
  with_reducible rfl
 rotate_left
 ·
  simp only [ap, sa, sb, sc, i64_w, i32_w]
  rfl
 refine pure_ (i := 2) (N := some 10) (v := ?_) (a' := ?_) #[T, F, T, F, F] rfl rfl (by kernel_rfl) (fun _ _ _ h => h) (Or.inl ⟨by rfl, ?_⟩) ?_ ?_
 rotate_left
 ·
  intro w'
  go_simp
  with_reducible rfl
 rotate_left
 ·
  simp only [ap, sa, sb, sc, i64_w, i32_w]
  rfl
 refine take_ (i := 1) (N := some 36) (v := ?_) (a' := ?_) #[T, T, T, F, F] rfl rfl (by kernel_rfl) (fun _ _ _ h => h) (Or.inl ⟨by rfl, ?_⟩) hHeld ?_ ?_
 rotate_left
 ·
  rintro w' ⟨s0, s1⟩
  go_simp
  with_reducible rfl
 rotate_left
 ·
  simp only [ap, sa, sb, sc, i64_w, i32_w]
  rfl
 refine one_ (i := 3) (N := none) #[T, T, T, T, F] rfl rfl (by kernel_rfl) (by decide) (fun K hK => ?_)
 have hs17 : w16.cell? ⟨gb672, 0, none⟩ = some (.int .i64 0) := (blk_cell BK672.out 0).trans rfl
 have hfs17 := blk_frozen BK672.out 0
 have hns17_1 := NB679_672.out
 have hms17_1 := NB672_679.out
 have hs18 : w16.cell? ⟨gb672, 1, none⟩ = some (.int .i64 0) := (blk_cell BK672.out 1).trans rfl
 have hfs18 := blk_frozen BK672.out 1
 have hns18_1 := NB679_672.out
 have hms18_1 := NB672_679.out
 refine skip_ (w1 := ?_) (by rfl) rfl ?_ ?_
 rotate_left
 ·
  go_simp
  rfl
 refine hK.out _ _ ⟨((cell_far (p := ⟨gb672, _, none⟩) NB679_672.out _).trans (((cell_far (p := ⟨gb672, _, none⟩) NB679_672.out _).trans (hHeld.1)))), ((cell_far (p := ⟨gb672, _, none⟩) NB679_672.out _).trans (((cell_far (p := ⟨gb672, _, none⟩) NB679_672.out _).trans (hHeld.2))))⟩ (fun hHeld => ?_)
 clear hK K
 refine pure_ (i := 4) (N := some 12) (v := ?_) (a' := ?_) #[T, T, T, T, T] rfl rfl (by kernel_rfl) (fun _ _ _ h => h) (Or.inl ⟨by rfl, ?_⟩) ?_ ?_
 rotate_left
 ·
  intro w'
  go_simp
  with_reducible rfl
 rotate_left
 ·
  simp only [ap, sa, sb, sc, i64_w, i32_w]
  rfl
 refine done_ (by kernel_rfl) ?_
 try go_wp2
 refine bodyPost_ret (results_list (rs := [.tmp 10, .cell 11 26, .tmp 12]) rfl (by simp) (.tmp (.cell gb672 26 #[.int .i64 t677, .int .i64 t678] (0, 0) _ rfl (by refine rb ?_; refine blk_put (cs := #[.int .i64 t677, .int .i64 0]) ?_ 1 _ rfl; refine rb ?_; refine blk_put (cs := #[.int .i64 0, .int .i64 0]) ?_ 0 _ rfl; exact rb BK672.out) Tryz.underlying26 rfl (by kernel_rfl) (.tmp .nil)))) rfl ?_
 exact ⟨_, ew, rr (Kd.R_mono (Kd.R_far (p := ⟨gb672, 1, none⟩) (Kd.R_far (p := ⟨gb672, 0, none⟩) (Kd.R_types HO676.out BK672.out (by decide)) (fun _ hk => hk.2) (.int .i64 t677)) (fun _ hk => hk.2) (.int .i64 t678)) (fun _ hk => trivial)), bs2 GE672.out GE679.out⟩
/-! ### plenumref19_Same: function 8 -/
def plenumref19_Same.l0 : Nat → List Int → List Int → Int → Option (Bool)
 | 0, _, _, _ => none
 | k + 1, x0, x1, x5 => if x5 < (x0.length : Int) then (if 0 ≤ x5 then (if x5 < (x1.length : Int) then (if (rd x0 x5) = (rd x1 x5) then (plenumref19_Same.l0 k x0 x1 (wrap64 (x5 + 1))) else (some false)) else (none)) else (none)) else (some true)
def plenumref19_Same.f (k : Nat) (l0 : List Int) (l1 : List Int) : Option (Bool) := if (l0.length : Int) = (l1.length : Int) then (plenumref19_Same.l0 k l0 l1 0) else (some false)
theorem plenumref19_Same.mono_l : ∀ k, (∀ y0 y1 y2, LeO (plenumref19_Same.l0 k y0 y1 y2) (plenumref19_Same.l0 (k + 1) y0 y1 y2))
 | 0 => fun _ _ _ r h => by simp [plenumref19_Same.l0] at h
 | k + 1 => by
  have ih0 := plenumref19_Same.mono_l k
  ·
   intro y0 y1 y2
   unfold plenumref19_Same.l0
   repeat' first
   | (with_reducible exact ih0 _ _ _)
   | (with_reducible exact LeO.refl _)
   | (with_reducible exact LeO.none _)
   | (with_reducible refine LeO.ite ?_ ?_)
   | (with_reducible refine LeO.bind ?_ (fun _ => ?_))
   | exact LeO.none _
   | refine LeO.ite ?_ ?_
   | refine LeO.bind ?_ (fun _ => ?_)
theorem plenumref19_Same.mono : ∀ a0 a1 k, LeO (plenumref19_Same.f k a0 a1) (plenumref19_Same.f (k + 1) a0 a1) := by
 intro a0 a1 k
 have ih0 := plenumref19_Same.mono_l k
 unfold plenumref19_Same.f
 repeat' first
   | (with_reducible exact ih0 _ _ _)
   | (with_reducible exact LeO.refl _)
   | (with_reducible exact LeO.none _)
   | (with_reducible refine LeO.ite ?_ ?_)
   | (with_reducible refine LeO.bind ?_ (fun _ => ?_))
   | exact LeO.none _
   | refine LeO.ite ?_ ?_
   | refine LeO.bind ?_ (fun _ => ?_)
set_option maxHeartbeats 8000000 in
set_option maxRecDepth 100000 in
theorem plenumref19_Same.calls (k : Nat) (A0 : Option Addr) (c0 : Nat) (l0 : List Int) (A1 : Option Addr) (c1 : Nat) (l1 : List Int) (r : Bool) (w : World) (hr0 : Kd.C (Kd.int .i64) w A0 l0.length l0) (hc0 : l0.length ≤ c0) (hr1 : Kd.C (Kd.int .i64) w A1 l1.length l1) (hc1 : l1.length ≤ c1) (h : plenumref19_Same.f k l0 l1 = some r) :
  Calls Tryz.prog 8 #[.slice A0 l0.length c0, .slice A1 l1.length c1] w fun e w' => e = .returned (.bool r) ∧ Drawn0 w w' := by
 have HR0 := am hr0
 have HC0 := am hc0
 clear hr0 hc0
 have HR1 := am hr1
 have HC1 := am hc1
 clear hr1 hc1
 have H : (if (l0.length : Int) = (l1.length : Int) then (plenumref19_Same.l0 k l0 l1 0) else (some false)) = some r := h
 clear h
 by_cases c3 : (l0.length : Int) = (l1.length : Int)
 rotate_left
 ·
  rw [if_neg c3] at H
  have c3b0 := beq_eq_false_iff_ne.mpr c3
  have c3b1 := bne_iff_ne.mpr c3
  have c3b2 : (l0.length == l1.length) = false := by first | simpa using c3 | (simp at c3 ⊢; omega)
  obtain rfl := Option.some.inj H
  go_enter Tryz.func8, Tryz.ntmps8
  go_wp2
  repeat (go_quiet (fail); try go_wp2)
  go_ret
  exact ⟨by first | rfl | (simp; done) | (simp [*]; done), by repeat (first | exact Drawn0.refl _ | apply Drawn0.step)⟩
 rw [if_pos c3] at H
 have c3b0 := beq_iff_eq.mpr c3
 have c3b1 := bne_eq_false_iff_eq.mpr c3
 have c3b2 : (l0.length == l1.length) = true := by first | simpa using c3 | (simp at c3 ⊢; omega)
 clear c3
 have H' := am H
 clear H
 go_enter Tryz.func8, Tryz.ntmps8
 go_wp2
 repeat (go_quiet (fail); try go_wp2)
 go_loopg [5] k (fun kq v5 w' => ∃ (x5_1 : Int), v5 = .int .i64 x5_1 ∧ Aside0 (plenumref19_Same.l0 kq l0 l1 x5_1 = some r) ∧ Aside0 (kq ≤ k) ∧ Drawn0 w w')
 case atStart => exact ⟨(0), (by first | rfl | (simp; done) | (simp [*]; done)), H', ⟨Nat.le_refl _⟩, by repeat (first | exact Drawn0.refl _ | apply Drawn0.step)⟩
 case round =>
  clear H'
  obtain ⟨x5_1, rfl, HA, HK1, ⟨m1, rfl⟩⟩ := hrel
  cases gk with
  | zero => exact absurd HA.out (by simp [plenumref19_Same.l0])
  | succ k1 =>
   have H := HA.out
   clear HA
   simp only [plenumref19_Same.l0] at H
   by_cases c4 : x5_1 < (l0.length : Int)
   rotate_left
   ·
    rw [if_neg c4] at H
    have c4b0 := decide_eq_false c4
    clear c4
    obtain rfl := Option.some.inj H
    go_wp2
    repeat (go_quiet (fail); try go_wp2)
    go_ret
    exact ⟨by first | rfl | (simp; done) | (simp [*]; done), by repeat (first | exact Drawn0.refl _ | apply Drawn0.step)⟩
   rw [if_pos c4] at H
   have c4b0 := decide_eq_true c4
   clear c4
   by_cases c5 : 0 ≤ x5_1
   rotate_left
   ·
    rw [if_neg c5] at H
    exact absurd H (by simp)
   rw [if_pos c5] at H
   have c5b0 := decide_eq_true c5
   clear c5
   by_cases c6 : x5_1 < (l1.length : Int)
   rotate_left
   ·
    rw [if_neg c6] at H
    exact absurd H (by simp)
   rw [if_pos c6] at H
   have c6b0 := decide_eq_true c6
   clear c6
   by_cases c7 : (rd l0 x5_1) = (rd l1 x5_1)
   rotate_left
   ·
    rw [if_neg c7] at H
    have c7b0 := beq_eq_false_iff_ne.mpr c7
    have c7b1 := bne_iff_ne.mpr c7
    obtain rfl := Option.some.inj H
    have p680 : 0 ≤ (x5_1 : Int) := ode; have q680 : x5_1 < (l0.length : Int) := ode; obtain ⟨ad680, e680, hx680_0⟩ := Kd.at_int HR0.out x5_1 p680 q680; cases e680; replace p680 := eq_true p680; replace q680 := eq_true q680; have p681 : 0 ≤ (x5_1 : Int) := ode; have q681 : x5_1 < (l1.length : Int) := ode; obtain ⟨ad681, e681, hx681_0⟩ := Kd.at_int HR1.out x5_1 p681 q681; cases e681; replace p681 := eq_true p681; replace q681 := eq_true q681
    go_wp2
    repeat (go_quiet (fail); try go_wp2)
    go_ret
    exact ⟨by first | rfl | (simp; done) | (simp [*]; done), by repeat (first | exact Drawn0.refl _ | apply Drawn0.step)⟩
   rw [if_pos c7] at H
   have c7b0 := beq_iff_eq.mpr c7
   have c7b1 := bne_eq_false_iff_eq.mpr c7
   clear c7
   have H' := am H
   clear H
   have p680 : 0 ≤ (x5_1 : Int) := ode; have q680 : x5_1 < (l0.length : Int) := ode; obtain ⟨ad680, e680, hx680_0⟩ := Kd.at_int HR0.out x5_1 p680 q680; cases e680; replace p680 := eq_true p680; replace q680 := eq_true q680; have p681 : 0 ≤ (x5_1 : Int) := ode; have q681 : x5_1 < (l1.length : Int) := ode; obtain ⟨ad681, e681, hx681_0⟩ := Kd.at_int HR1.out x5_1 p681 q681; cases e681; replace p681 := eq_true p681; replace q681 := eq_true q681
   go_wp2
   repeat (go_quiet (fail); try go_wp2)
   go_roundg k1
   case measure => have := HK1.out; omega
   case rel => exact ⟨(wrap64 (x5_1 + 1)), (by first | rfl | (simp; done) | (simp [*]; done)), H', ⟨by have := HK1.out; omega⟩, by repeat (first | exact Drawn0.refl _ | apply Drawn0.step)⟩
/-! ### plenumlaw19_TimerSteps: function 3 -/
def plenumlaw19_TimerSteps.j0 : Nat → ByteArray → List Int → List Int → List (S26) → Int → Bool → Option (Bool)
 | 0, _, _, _, _, _, _ => none
 | k + 1, x0, x1, x2, x3, x4, x36 => if x36 = true then (some true) else ((timer_Step.f k x0 x1 x2 x3 x4).bind fun bt683 => ((plenumref19_Step.f k x0 x1 x2 x3 x4).bind fun bt690 => ((plenumref19_Same.f k bt683.1 bt690.1).bind fun t697 => (if t697 = true then (if (bt683.2.1 == bt690.2.1 && (bt683.2.2.1 == bt690.2.2.1)) = true then (if bt683.2.2.2 = bt690.2.2.2 then (if bt683.2.2.2 = 0 then ((plenumref19_Possible.f k x0 x1 bt683.1).bind fun t698 => (some t698)) else (some true)) else (none)) else (none)) else (none)))))
def plenumlaw19_TimerSteps.f (k : Nat) (a0 : ByteArray) (l1 : List Int) (l2 : List Int) (l3 : List (S26)) (a4 : Int) : Option (Bool) := (plenumlaw19_awake.f k).bind fun t682 => (if t682 = true then (if (a0.size : Int) > 40 then (plenumlaw19_TimerSteps.j0 k a0 l1 l2 l3 a4 true) else (if (l1.length : Int) > 8 then (plenumlaw19_TimerSteps.j0 k a0 l1 l2 l3 a4 true) else (if (l2.length : Int) > 8 then (plenumlaw19_TimerSteps.j0 k a0 l1 l2 l3 a4 true) else (plenumlaw19_TimerSteps.j0 k a0 l1 l2 l3 a4 (decide ((l3.length : Int) > 8)))))) else (none))
theorem plenumlaw19_TimerSteps.mono_l : ∀ k, (∀ y0 y1 y2 y3 y4 y5, LeO (plenumlaw19_TimerSteps.j0 k y0 y1 y2 y3 y4 y5) (plenumlaw19_TimerSteps.j0 (k + 1) y0 y1 y2 y3 y4 y5))
 | 0 => fun _ _ _ _ _ _ r h => by simp [plenumlaw19_TimerSteps.j0] at h
 | k + 1 => by
  have ih0 := plenumlaw19_TimerSteps.mono_l k
  ·
   intro y0 y1 y2 y3 y4 y5
   unfold plenumlaw19_TimerSteps.j0
   repeat' first
   | (with_reducible exact ih0 _ _ _ _ _ _)
   | (with_reducible exact plenumlaw19_awake.mono _)
   | (with_reducible exact plenumref19_Possible.mono _ _ _ _)
   | (with_reducible exact plenumref19_Same.mono _ _ _)
   | (with_reducible exact plenumref19_Step.mono _ _ _ _ _ _)
   | (with_reducible exact timer_Step.mono _ _ _ _ _ _)
   | (with_reducible exact LeO.refl _)
   | (with_reducible exact LeO.none _)
   | (with_reducible refine LeO.ite ?_ ?_)
   | (with_reducible refine LeO.bind ?_ (fun _ => ?_))
   | exact LeO.none _
   | refine LeO.ite ?_ ?_
   | refine LeO.bind ?_ (fun _ => ?_)
theorem plenumlaw19_TimerSteps.mono : ∀ a0 a1 a2 a3 a4 k, LeO (plenumlaw19_TimerSteps.f k a0 a1 a2 a3 a4) (plenumlaw19_TimerSteps.f (k + 1) a0 a1 a2 a3 a4) := by
 intro a0 a1 a2 a3 a4 k
 have ih0 := plenumlaw19_TimerSteps.mono_l k
 unfold plenumlaw19_TimerSteps.f
 repeat' first
   | (with_reducible exact ih0 _ _ _ _ _ _)
   | (with_reducible exact plenumlaw19_awake.mono _)
   | (with_reducible exact plenumref19_Possible.mono _ _ _ _)
   | (with_reducible exact plenumref19_Same.mono _ _ _)
   | (with_reducible exact plenumref19_Step.mono _ _ _ _ _ _)
   | (with_reducible exact timer_Step.mono _ _ _ _ _ _)
   | (with_reducible exact LeO.refl _)
   | (with_reducible exact LeO.none _)
   | (with_reducible refine LeO.ite ?_ ?_)
   | (with_reducible refine LeO.bind ?_ (fun _ => ?_))
   | exact LeO.none _
   | refine LeO.ite ?_ ?_
   | refine LeO.bind ?_ (fun _ => ?_)
set_option maxHeartbeats 8000000 in
set_option maxRecDepth 100000 in
theorem plenumlaw19_TimerSteps.calls (k : Nat) (a0 : ByteArray) (A1 : Option Addr) (c1 : Nat) (l1 : List Int) (A2 : Option Addr) (c2 : Nat) (l2 : List Int) (A3 : Option Addr) (c3 : Nat) (l3 : List (S26)) (a4 : Int) (r : Bool) (w : World) (hr1 : Kd.C (Kd.int .i64) w A1 l1.length l1) (hc1 : l1.length ≤ c1) (hr2 : Kd.C (Kd.int .i64) w A2 l2.length l2) (hc2 : l2.length ≤ c2) (hr3 : Kd.C k26 w A3 l3.length l3) (hc3 : l3.length ≤ c3) (hG : GW w) (h : plenumlaw19_TimerSteps.f k a0 l1 l2 l3 a4 = some r) :
  Calls Tryz.prog 3 #[.string a0, .slice A1 l1.length c1, .slice A2 l2.length c2, .slice A3 l3.length c3, .int .i64 a4] w fun e w' => e = .returned (.bool r) ∧ Below w.heap.size w w' := by
 have hu26 := Tryz.underlying26
 have HG := am hG
 clear hG
 have HR1 := am hr1
 have HC1 := am hc1
 clear hr1 hc1
 have HR2 := am hr2
 have HC2 := am hc2
 clear hr2 hc2
 have HR3 := am hr3
 have HC3 := am hc3
 clear hr3 hc3
 have HB := am (Below.refl w.heap.size w)
 have H : ((plenumlaw19_awake.f k).bind fun t682 => (if t682 = true then (if (a0.size : Int) > 40 then (plenumlaw19_TimerSteps.j0 k a0 l1 l2 l3 a4 true) else (if (l1.length : Int) > 8 then (plenumlaw19_TimerSteps.j0 k a0 l1 l2 l3 a4 true) else (if (l2.length : Int) > 8 then (plenumlaw19_TimerSteps.j0 k a0 l1 l2 l3 a4 true) else (plenumlaw19_TimerSteps.j0 k a0 l1 l2 l3 a4 (decide ((l3.length : Int) > 8)))))) else (none))) = some r := h
 clear h
 replace H := Option.bind_eq_some_iff.mp H
 obtain ⟨t682, A60, H⟩ := H
 (try dsimp only at H)
 have A6 := am A60
 clear A60
 by_cases c7 : t682 = true
 rotate_left
 ·
  replace c7 := Bool.eq_false_iff.mpr c7
  subst c7
  rw [if_neg (show ¬ (false = true) by decide)] at H
  exact absurd H (by simp)
 subst c7
 rw [if_pos rfl] at H
 have HC8 := am H
 clear H
 go_enter Tryz.func3, Tryz.ntmps3
 go_upto_region 3 with (first | ((refine gate_callee (f := 5) rfl ?_); refine goesL_ (some 17) rfl rfl Tryz.func5 (by kernel_rfl) rfl #[] rfl aeq ?_; (with_reducible refine (plenumlaw19_awake.calls k  true _ ?side1 A6.out).mono ?_); (case side1 => exact GW.below HG.out bl); rintro e w9 ⟨rfl, hb⟩; refine ⟨_, rfl, ?_⟩; replace HB := am (below_step bl hb); (try clear hb); (try clear hb2); (try clear hk); (try clear hi)))
 (try simp only [ap, sa, sb, sc])
 go_cut [36] (fun v36 wc => ∃ (kq : Nat) (x36_7 : Bool), v36 = .bool x36_7 ∧ Aside0 (plenumlaw19_TimerSteps.j0 kq a0 l1 l2 l3 a4 x36_7 = some r) ∧ Aside0 (kq ≤ k) ∧ Aside0 (Below w.heap.size w wc))
 case first =>
  have H := HC8.out
  clear HC8
  by_cases c10 : (a0.size : Int) > 40
  ·
   rw [if_pos c10] at H
   have c10b0 : decide (40 < (a0.size : Int)) = true := decide_eq_true c10
   have c10b1 : decide (40 < a0.size) = true := decide_eq_true (by omega)
   clear c10
   (first | rw [c10b0] | (simp only [i64_w, i32_w]; rw [c10b0]) | skip)
   have H' := am H
   clear H
   go_wp2
   go_meet
   case rel => exact ⟨_, (true), (by first | rfl | (simp; done) | (simp [*]; done)), H', ⟨by first | omega | exact Nat.le_refl _⟩, ⟨bl⟩⟩
  rw [if_neg c10] at H
  have c10b0 : decide (40 < (a0.size : Int)) = false := decide_eq_false c10
  have c10b1 : decide (40 < a0.size) = false := decide_eq_false (by omega)
  clear c10
  (first | rw [c10b0] | (simp only [i64_w, i32_w]; rw [c10b0]) | skip)
  by_cases c11 : (l1.length : Int) > 8
  ·
   rw [if_pos c11] at H
   have c11b0 : decide (8 < (l1.length : Int)) = true := decide_eq_true c11
   have c11b1 : decide (8 < l1.length) = true := decide_eq_true (by omega)
   clear c11
   have H' := am H
   clear H
   go_wp2
   go_meet
   case rel => exact ⟨_, (true), (by first | rfl | (simp; done) | (simp [*]; done)), H', ⟨by first | omega | exact Nat.le_refl _⟩, ⟨bl⟩⟩
  rw [if_neg c11] at H
  have c11b0 : decide (8 < (l1.length : Int)) = false := decide_eq_false c11
  have c11b1 : decide (8 < l1.length) = false := decide_eq_false (by omega)
  clear c11
  by_cases c12 : (l2.length : Int) > 8
  ·
   rw [if_pos c12] at H
   have c12b0 : decide (8 < (l2.length : Int)) = true := decide_eq_true c12
   have c12b1 : decide (8 < l2.length) = true := decide_eq_true (by omega)
   clear c12
   have H' := am H
   clear H
   go_wp2
   go_meet
   case rel => exact ⟨_, (true), (by first | rfl | (simp; done) | (simp [*]; done)), H', ⟨by first | omega | exact Nat.le_refl _⟩, ⟨bl⟩⟩
  rw [if_neg c12] at H
  have c12b0 : decide (8 < (l2.length : Int)) = false := decide_eq_false c12
  have c12b1 : decide (8 < l2.length) = false := decide_eq_false (by omega)
  clear c12
  have H' := am H
  clear H
  go_wp2
  go_meet
  case rel => exact ⟨_, (decide ((l3.length : Int) > 8)), (by first | rfl | (simp; done) | (simp [*]; done)), H', ⟨by first | omega | exact Nat.le_refl _⟩, ⟨bl⟩⟩
 clear HC8
 obtain ⟨kq, x36_7, rfl, HA, HJ7, HB⟩ := hcut
 cases kq with
 | zero => exact absurd HA.out (by simp [plenumlaw19_TimerSteps.j0])
 | succ kj7 =>
  have H := HA.out
  clear HA
  simp only [plenumlaw19_TimerSteps.j0] at H
  by_cases c13 : x36_7 = true
  ·
   subst c13
   rw [if_pos rfl] at H
   obtain rfl := Option.some.inj H
   go_wp2
   go_ret
   exact ⟨ew, bl⟩
  replace c13 := Bool.eq_false_iff.mpr c13
  subst c13
  rw [if_neg (show ¬ (false = true) by decide)] at H
  replace H := Option.bind_eq_some_iff.mp H
  obtain ⟨⟨t683, t686, t687, t688⟩, A140, H⟩ := H
  (try dsimp only at H)
  have A14 := am A140
  clear A140
  replace H := Option.bind_eq_some_iff.mp H
  obtain ⟨⟨t690, t693, t694, t695⟩, A150, H⟩ := H
  (try dsimp only at H)
  have A15 := am A150
  clear A150
  replace H := Option.bind_eq_some_iff.mp H
  obtain ⟨t697, A160, H⟩ := H
  (try dsimp only at H)
  have A16 := am A160
  clear A160
  by_cases c17 : t697 = true
  rotate_left
  ·
   replace c17 := Bool.eq_false_iff.mpr c17
   subst c17
   rw [if_neg (show ¬ (false = true) by decide)] at H
   exact absurd H (by simp)
  subst c17
  rw [if_pos rfl] at H
  by_cases c18 : (t686 == t693 && (t687 == t694)) = true
  rotate_left
  ·
   rw [if_neg c18] at H
   exact absurd H (by simp)
  rw [if_pos c18] at H
  have c18b0 : (t686 == t693 && (t687 == t694)) = true := c18
  (try (have c18b1 : decide (t686 = t693 && (t687 == t694)) = true := by simpa using c18))
  (try (have c18b2 : (t686 == t693 && (t687 == t694)) = true := by simpa using c18))
  clear c18
  by_cases c19 : t688 = t695
  rotate_left
  ·
   rw [if_neg c19] at H
   exact absurd H (by simp)
  rw [if_pos c19] at H
  have c19b0 := beq_iff_eq.mpr c19
  have c19b1 := bne_eq_false_iff_eq.mpr c19
  clear c19
  by_cases c20 : t688 = 0
  rotate_left
  ·
   rw [if_neg c20] at H
   have c20b0 := beq_eq_false_iff_ne.mpr c20
   have c20b1 := bne_iff_ne.mpr c20
   obtain rfl := Option.some.inj H
   go_wp2_with (first | ((refine gate_callee (f := 6) rfl ?_); refine goesL_ (some 43) rfl rfl Tryz.func6 (by kernel_rfl) rfl #[.string a0, .slice A1 l1.length c1, .slice A2 l2.length c2, .slice A3 l3.length c3, .int .i64 a4] rfl aeq ?_; (with_reducible refine (timer_Step.calls kj7 a0 _ _ l1 _ _ l2 _ _ l3 a4 t683 t686 t687 t688 _ ?side1 ?side2 ?side3 ?side4 ?side5 ?side6 ?side7 A14.out).mono ?_); (case side1 => exact cc (Kd.C_below HR1.out HB.out)); (case side2 => exact HC1.out); (case side3 => exact cc (Kd.C_below HR2.out HB.out)); (case side4 => exact HC2.out); (case side5 => exact cc (Kd.C_below HR3.out HB.out)); (case side6 => exact HC3.out); (case side7 => exact GW.below HG.out bl); rintro e w32 ⟨v684, rfl, ho0, hb⟩; refine ⟨_, rfl, ?_⟩; have HO685 := am (Kd.R_lower ho0 (below_size bl)); replace HB := am (below_step bl hb); (try clear hb); (try clear hb2); (try clear hk); (try clear hi); (try clear ho0)) | ((refine gate_dst (N := 12) rfl ?_); (try (refine gate_guard (by rfl) ?_; dsimp only)); refine bx (N := 12) (cs := #[.int .i64 0, .int .i64 0]) (t := 26) ?_; intro gb689 hg w33 hbox hb; replace HO685 := am (Kd.R_below (rr HO685.out) hb); have BK689 := am (hbox); have GW689 := am (gw hg (below_size bl)); have GE689 := am (gw hg (below_size bl)); replace HB := am (below_step bl hb); clear hb hbox hg; obtain ⟨hcz34_0, hcz34_1, hfz34_0, hfz34_1⟩ := bz2 BK689.out) | ((refine gate_callee (f := 7) rfl ?_); refine goesL_ (some 53) rfl rfl Tryz.func7 (by kernel_rfl) rfl #[.string a0, .slice A1 l1.length c1, .slice A2 l2.length c2, .slice A3 l3.length c3, .int .i64 a4] rfl aeq ?_; (with_reducible refine (plenumref19_Step.calls kj7 a0 _ _ l1 _ _ l2 _ _ l3 a4 t690 t693 t694 t695 _ ?side1 ?side2 ?side3 ?side4 ?side5 ?side6 A15.out).mono ?_); (case side1 => exact Kd.C_below HR1.out (bs1 GE689.out)); (case side2 => exact HC1.out); (case side3 => exact Kd.C_below HR2.out (bs1 GE689.out)); (case side4 => exact HC2.out); (case side5 => exact Kd.C_below HR3.out (bs1 GE689.out)); (case side6 => exact HC3.out); rintro e w35 ⟨v691, rfl, ho0, hb⟩; refine ⟨_, rfl, ?_⟩; have HO692 := am (Kd.R_lower (Kd.R_new' ho0 (Kd.R_lt (rr ((Kd.R_mono (Kd.R_far (p := ⟨gb689, 1, none⟩) (Kd.R_far (p := ⟨gb689, 0, none⟩) (Kd.R_types HO685.out BK689.out (by decide)) (fun _ hk => hk.2) (.int .i64 t686)) (fun _ hk => hk.2) (.int .i64 t687)) (fun _ h_ => h_.1)))))) (below_size (bs1 GE689.out))); replace HO685 := am (Kd.R_elder' (rr ((Kd.R_mono (Kd.R_far (p := ⟨gb689, 1, none⟩) (Kd.R_far (p := ⟨gb689, 0, none⟩) (Kd.R_types HO685.out BK689.out (by decide)) (fun _ hk => hk.2) (.int .i64 t686)) (fun _ hk => hk.2) (.int .i64 t687)) (fun _ h_ => h_.1)))) (Kd.R_base ho0) hb); replace BK689 := am (blk_below (g := gb689) (o := .cells #[.int .i64 t686, .int .i64 t687] 26 (0, 0)) (by refine rb ?_; refine blk_put (cs := #[.int .i64 t686, .int .i64 0]) ?_ 1 _ rfl; refine rb ?_; refine blk_put (cs := #[.int .i64 0, .int .i64 0]) ?_ 0 _ rfl; exact rb BK689.out) hb); replace HB := am (below_step (bs1 GE689.out) hb); (try clear hb); (try clear hb2); (try clear hk); (try clear hi); (try clear ho0)) | ((refine gate_dst (N := 15) rfl ?_); (try (refine gate_guard (by rfl) ?_; dsimp only)); refine bx (N := 15) (cs := #[.int .i64 0, .int .i64 0]) (t := 26) ?_; intro gb696 hg w36 hbox hb; replace HO685 := am (Kd.R_below (rr HO685.out) hb); replace HO692 := am (Kd.R_below (rr HO692.out) hb); have BK696 := am (hbox); have GW696 := am (gw hg (below_size (bs1 GE689.out))); have GE696 := am (gw hg (below_size (bs1 GE689.out))); replace HB := am (below_step (bs1 GE689.out) hb); have NB689_696 := am ((by rw [hg]; exact Nat.ne_of_lt (blk_lt (rb BK689.out)) : gb689 ≠ gb696)); have NB696_689 := am ((by rw [hg]; exact Nat.ne_of_gt (blk_lt (rb BK689.out)) : gb696 ≠ gb689)); replace BK689 := am (blk_below (rb BK689.out) hb); clear hb hbox hg; have hnb37 := NB696_689.out; have hnc37 := NB689_696.out; obtain ⟨hcz38_0, hcz38_1, hfz38_0, hfz38_1⟩ := bz2 BK696.out; obtain ⟨Ao39, co39, eo39⟩ := Kd.R_slice HO685.out; subst eo39; obtain ⟨Ao40, co40, eo40⟩ := Kd.R_slice HO692.out; subst eo40) | ((refine gate_callee (f := 8) rfl ?_); refine goesL_ (some 59) rfl rfl Tryz.func8 (by kernel_rfl) rfl #[.slice Ao39 t683.length co39, .slice Ao40 t690.length co40] rfl aeq ?_; (with_reducible refine (plenumref19_Same.calls kj7 _ _ t683 _ _ t690 true _ ?side1 ?side2 ?side3 ?side4 A16.out).mono ?_); (case side1 => refine (Kd.R_reads' (e := 2) (base := w.heap.size) (ok := fun k_ => (True ∧ some k_ ≠ (.slice Ao40 t690.length co40 : Value).ownBlock)) (n := t683.length) (c := co39) ?_).2.2; exact (rr ((Kd.R_mono (Kd.R_far (p := ⟨gb696, 1, none⟩) (Kd.R_far (p := ⟨gb696, 0, none⟩) (Kd.R_types HO685.out BK696.out (by decide)) (fun _ hk => hk.2) (.int .i64 t693)) (fun _ hk => hk.2) (.int .i64 t694)) (fun _ h_ => h_.1))))); (case side2 => exact (Kd.R_reads' HO685.out).2.1); (case side3 => refine (Kd.R_reads' (e := 2) (base := w.heap.size) (ok := fun k_ => (True ∧ some k_ ≠ (.slice Ao39 t683.length co39 : Value).ownBlock)) (n := t690.length) (c := co40) ?_).2.2; exact (rr ((Kd.R_mono (Kd.R_far (p := ⟨gb696, 1, none⟩) (Kd.R_far (p := ⟨gb696, 0, none⟩) (Kd.R_types HO692.out BK696.out (by decide)) (fun _ hk => hk.2) (.int .i64 t693)) (fun _ hk => hk.2) (.int .i64 t694)) (fun _ h_ => h_.1))))); (case side4 => exact (Kd.R_reads' HO692.out).2.1); rintro e w' ⟨rfl, ⟨nd, rfl⟩⟩; refine ⟨_, rfl, ?_⟩; obtain ⟨hcz41_0, hcz41_1, hfz41_0, hfz41_1⟩ := bz2 BK689.out))
   go_ret
   exact ⟨ew, bs2 GE689.out GE696.out⟩
  rw [if_pos c20] at H
  have c20b0 := beq_iff_eq.mpr c20
  have c20b1 := bne_eq_false_iff_eq.mpr c20
  clear c20
  replace H := Option.bind_eq_some_iff.mp H
  obtain ⟨t698, A210, H⟩ := H
  (try dsimp only at H)
  have A21 := am A210
  clear A210
  obtain rfl := Option.some.inj H
  go_wp2_with (first | ((refine gate_callee (f := 6) rfl ?_); refine goesL_ (some 43) rfl rfl Tryz.func6 (by kernel_rfl) rfl #[.string a0, .slice A1 l1.length c1, .slice A2 l2.length c2, .slice A3 l3.length c3, .int .i64 a4] rfl aeq ?_; (with_reducible refine (timer_Step.calls kj7 a0 _ _ l1 _ _ l2 _ _ l3 a4 t683 t686 t687 t688 _ ?side1 ?side2 ?side3 ?side4 ?side5 ?side6 ?side7 A14.out).mono ?_); (case side1 => exact cc (Kd.C_below HR1.out HB.out)); (case side2 => exact HC1.out); (case side3 => exact cc (Kd.C_below HR2.out HB.out)); (case side4 => exact HC2.out); (case side5 => exact cc (Kd.C_below HR3.out HB.out)); (case side6 => exact HC3.out); (case side7 => exact GW.below HG.out bl); rintro e w22 ⟨v684, rfl, ho0, hb⟩; refine ⟨_, rfl, ?_⟩; have HO685 := am (Kd.R_lower ho0 (below_size bl)); replace HB := am (below_step bl hb); (try clear hb); (try clear hb2); (try clear hk); (try clear hi); (try clear ho0)) | ((refine gate_dst (N := 12) rfl ?_); (try (refine gate_guard (by rfl) ?_; dsimp only)); refine bx (N := 12) (cs := #[.int .i64 0, .int .i64 0]) (t := 26) ?_; intro gb689 hg w23 hbox hb; replace HO685 := am (Kd.R_below (rr HO685.out) hb); have BK689 := am (hbox); have GW689 := am (gw hg (below_size bl)); have GE689 := am (gw hg (below_size bl)); replace HB := am (below_step bl hb); clear hb hbox hg; obtain ⟨hcz24_0, hcz24_1, hfz24_0, hfz24_1⟩ := bz2 BK689.out) | ((refine gate_callee (f := 7) rfl ?_); refine goesL_ (some 53) rfl rfl Tryz.func7 (by kernel_rfl) rfl #[.string a0, .slice A1 l1.length c1, .slice A2 l2.length c2, .slice A3 l3.length c3, .int .i64 a4] rfl aeq ?_; (with_reducible refine (plenumref19_Step.calls kj7 a0 _ _ l1 _ _ l2 _ _ l3 a4 t690 t693 t694 t695 _ ?side1 ?side2 ?side3 ?side4 ?side5 ?side6 A15.out).mono ?_); (case side1 => exact Kd.C_below HR1.out (bs1 GE689.out)); (case side2 => exact HC1.out); (case side3 => exact Kd.C_below HR2.out (bs1 GE689.out)); (case side4 => exact HC2.out); (case side5 => exact Kd.C_below HR3.out (bs1 GE689.out)); (case side6 => exact HC3.out); rintro e w25 ⟨v691, rfl, ho0, hb⟩; refine ⟨_, rfl, ?_⟩; have HO692 := am (Kd.R_lower (Kd.R_new' ho0 (Kd.R_lt (rr ((Kd.R_mono (Kd.R_far (p := ⟨gb689, 1, none⟩) (Kd.R_far (p := ⟨gb689, 0, none⟩) (Kd.R_types HO685.out BK689.out (by decide)) (fun _ hk => hk.2) (.int .i64 t686)) (fun _ hk => hk.2) (.int .i64 t687)) (fun _ h_ => h_.1)))))) (below_size (bs1 GE689.out))); replace HO685 := am (Kd.R_elder' (rr ((Kd.R_mono (Kd.R_far (p := ⟨gb689, 1, none⟩) (Kd.R_far (p := ⟨gb689, 0, none⟩) (Kd.R_types HO685.out BK689.out (by decide)) (fun _ hk => hk.2) (.int .i64 t686)) (fun _ hk => hk.2) (.int .i64 t687)) (fun _ h_ => h_.1)))) (Kd.R_base ho0) hb); replace BK689 := am (blk_below (g := gb689) (o := .cells #[.int .i64 t686, .int .i64 t687] 26 (0, 0)) (by refine rb ?_; refine blk_put (cs := #[.int .i64 t686, .int .i64 0]) ?_ 1 _ rfl; refine rb ?_; refine blk_put (cs := #[.int .i64 0, .int .i64 0]) ?_ 0 _ rfl; exact rb BK689.out) hb); replace HB := am (below_step (bs1 GE689.out) hb); (try clear hb); (try clear hb2); (try clear hk); (try clear hi); (try clear ho0)) | ((refine gate_dst (N := 15) rfl ?_); (try (refine gate_guard (by rfl) ?_; dsimp only)); refine bx (N := 15) (cs := #[.int .i64 0, .int .i64 0]) (t := 26) ?_; intro gb696 hg w26 hbox hb; replace HO685 := am (Kd.R_below (rr HO685.out) hb); replace HO692 := am (Kd.R_below (rr HO692.out) hb); have BK696 := am (hbox); have GW696 := am (gw hg (below_size (bs1 GE689.out))); have GE696 := am (gw hg (below_size (bs1 GE689.out))); replace HB := am (below_step (bs1 GE689.out) hb); have NB689_696 := am ((by rw [hg]; exact Nat.ne_of_lt (blk_lt (rb BK689.out)) : gb689 ≠ gb696)); have NB696_689 := am ((by rw [hg]; exact Nat.ne_of_gt (blk_lt (rb BK689.out)) : gb696 ≠ gb689)); replace BK689 := am (blk_below (rb BK689.out) hb); clear hb hbox hg; have hnb27 := NB696_689.out; have hnc27 := NB689_696.out; obtain ⟨hcz28_0, hcz28_1, hfz28_0, hfz28_1⟩ := bz2 BK696.out; obtain ⟨Ao29, co29, eo29⟩ := Kd.R_slice HO685.out; subst eo29; obtain ⟨Ao30, co30, eo30⟩ := Kd.R_slice HO692.out; subst eo30) | ((refine gate_callee (f := 8) rfl ?_); refine goesL_ (some 59) rfl rfl Tryz.func8 (by kernel_rfl) rfl #[.slice Ao29 t683.length co29, .slice Ao30 t690.length co30] rfl aeq ?_; (with_reducible refine (plenumref19_Same.calls kj7 _ _ t683 _ _ t690 true _ ?side1 ?side2 ?side3 ?side4 A16.out).mono ?_); (case side1 => refine (Kd.R_reads' (e := 2) (base := w.heap.size) (ok := fun k_ => (True ∧ some k_ ≠ (.slice Ao30 t690.length co30 : Value).ownBlock)) (n := t683.length) (c := co29) ?_).2.2; exact (rr ((Kd.R_mono (Kd.R_far (p := ⟨gb696, 1, none⟩) (Kd.R_far (p := ⟨gb696, 0, none⟩) (Kd.R_types HO685.out BK696.out (by decide)) (fun _ hk => hk.2) (.int .i64 t693)) (fun _ hk => hk.2) (.int .i64 t694)) (fun _ h_ => h_.1))))); (case side2 => exact (Kd.R_reads' HO685.out).2.1); (case side3 => refine (Kd.R_reads' (e := 2) (base := w.heap.size) (ok := fun k_ => (True ∧ some k_ ≠ (.slice Ao29 t683.length co29 : Value).ownBlock)) (n := t690.length) (c := co30) ?_).2.2; exact (rr ((Kd.R_mono (Kd.R_far (p := ⟨gb696, 1, none⟩) (Kd.R_far (p := ⟨gb696, 0, none⟩) (Kd.R_types HO692.out BK696.out (by decide)) (fun _ hk => hk.2) (.int .i64 t693)) (fun _ hk => hk.2) (.int .i64 t694)) (fun _ h_ => h_.1))))); (case side4 => exact (Kd.R_reads' HO692.out).2.1); rintro e w' ⟨rfl, ⟨nd, rfl⟩⟩; refine ⟨_, rfl, ?_⟩; obtain ⟨hcz31_0, hcz31_1, hfz31_0, hfz31_1⟩ := bz2 BK689.out) | (go_at_call 9; (with_reducible refine (plenumref19_Possible.calls kj7 a0 _ _ l1 _ _ t683 t698 _ ?side1 ?side2 ?side3 ?side4 A21.out).mono ?_); (case side1 => exact Kd.C_below HR1.out (bs2 GE689.out GE696.out)); (case side2 => exact HC1.out); (case side3 => refine (Kd.R_reads' (e := 2) (base := w.heap.size) (ok := fun k_ => (True ∧ some k_ ≠ (.slice Ao30 t690.length co30 : Value).ownBlock)) (n := t683.length) (c := co29) ?_).2.2; exact (rr ((Kd.R_mono (Kd.R_far (p := ⟨gb696, 1, none⟩) (Kd.R_far (p := ⟨gb696, 0, none⟩) (Kd.R_types HO685.out BK696.out (by decide)) (fun _ hk => hk.2) (.int .i64 t693)) (fun _ hk => hk.2) (.int .i64 t694)) (fun _ h_ => h_.1))))); (case side4 => exact (Kd.R_reads' HO685.out).2.1); rintro e w' ⟨rfl, ⟨nd, rfl⟩⟩))
  go_ret
  exact ⟨ew, bs2 GE689.out GE696.out⟩
end Go.Proofs.YtjjbdgngncgikaaGreatDoor.R
