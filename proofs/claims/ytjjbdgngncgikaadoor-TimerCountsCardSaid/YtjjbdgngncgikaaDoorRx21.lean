-- Written by this claim's own program out of the translation; not trusted: Lean checks it.
import Derived.Test.YtjjbdgngncgikaaDoorRx0
import Derived.Test.YtjjbdgngncgikaaDoorRx20
namespace Go.Proofs.YtjjbdgngncgikaaDoor.R
open Go.RowKit Go.Proofs.YtjjbdgngncgikaaDoorW.PrintWords Go.Proofs.YtjjbdgngncgikaaDoorW.PrintLast Go.Proofs.YtjjbdgngncgikaaDoorW.PrintMore
attribute [local go_sem] max2_int min2_int max_two min_two max_three min_three max_four min_four   -- for this text's walks alone
set_option linter.unusedVariables false
set_option linter.unusedSimpArgs false

/-! ### plenumlaw19_on: function 10 -/
def plenumlaw19_on.l0 : Nat → List Bool → List (List (S32)) → Int → Option ((List (List (S32))))
 | 0, _, _, _ => none
 | k + 1, x0, x3, x4 => if x4 < (x0.length : Int) then (if 0 ≤ x4 then ((plenumlaw19_bit.f (rdOf false x0 x4)).bind fun bt384 => (if x3.length < 5864062014805 then (plenumlaw19_on.l0 k x0 (x3 ++ [(([(⟨bt384.1, bt384.2⟩ : S32)] : List (S32)))]) (wrap64 (x4 + 1))) else (none))) else (none)) else (some x3)
def plenumlaw19_on.f (k : Nat) (l0 : List Bool) : Option ((List (List (S32)))) := plenumlaw19_on.l0 k l0 (([] : List (List (S32)))) 0
theorem plenumlaw19_on.mono_l : ∀ k, (∀ y0 y1 y2, LeO (plenumlaw19_on.l0 k y0 y1 y2) (plenumlaw19_on.l0 (k + 1) y0 y1 y2))
 | 0 => fun _ _ _ r h => by simp [plenumlaw19_on.l0] at h
 | k + 1 => by
  have ih0 := plenumlaw19_on.mono_l k
  ·
   intro y0 y1 y2
   unfold plenumlaw19_on.l0
   repeat' first
   | (with_reducible exact ih0 _ _ _)
   | (with_reducible exact LeO.refl _)
   | (with_reducible exact LeO.none _)
   | (with_reducible refine LeO.ite ?_ ?_)
   | (with_reducible refine LeO.bind ?_ (fun _ => ?_))
   | exact ih0 _ _ _
   | exact LeO.none _
   | refine LeO.ite ?_ ?_
   | refine LeO.bind ?_ (fun _ => ?_)
theorem plenumlaw19_on.mono : ∀ a0 k, LeO (plenumlaw19_on.f k a0) (plenumlaw19_on.f (k + 1) a0) := by
 intro a0 k
 have ih0 := plenumlaw19_on.mono_l k
 unfold plenumlaw19_on.f
 repeat' first
   | (with_reducible exact ih0 _ _ _)
   | (with_reducible exact LeO.refl _)
   | (with_reducible exact LeO.none _)
   | (with_reducible refine LeO.ite ?_ ?_)
   | (with_reducible refine LeO.bind ?_ (fun _ => ?_))
   | exact ih0 _ _ _
   | exact LeO.none _
   | refine LeO.ite ?_ ?_
   | refine LeO.bind ?_ (fun _ => ?_)
set_option maxHeartbeats 8000000 in
set_option maxRecDepth 100000 in
theorem plenumlaw19_on.calls (k : Nat) (A0 : Option Addr) (c0 : Nat) (l0 : List Bool) (r : List (List (S32))) (w : World) (hr0 : Kd.C Kd.bool w A0 l0.length l0) (hc0 : l0.length ≤ c0) (h : plenumlaw19_on.f k l0 = some r) :
  Calls Tryd.prog 10 #[.slice A0 l0.length c0] w fun e w' => ∃ v0_ : Value, e = .returned (v0_) ∧ Kd.S (Kd.slice 32 k32) 24 w' w.heap.size (fun _ => True) v0_ r ∧ Below w.heap.size w w' := by
 have HR0 := Aside0.mk hr0
 have HC0 := Aside0.mk hc0
 clear hr0 hc0
 have HB := Aside0.mk (Below.refl w.heap.size w)
 have H : (plenumlaw19_on.l0 k l0 (([] : List (List (S32)))) 0) = some r := h
 clear h
 obtain ⟨y380, hy380⟩ : ∃ y_ : List (List (S32)), y_ = (([] : List (List (S32)))) := ⟨_, rfl⟩
 replace H : (plenumlaw19_on.l0 k l0 y380 0) = some r := by first | (rw [hy380]; with_reducible exact H) | (have H2_ := (Option.bind_some _ _).symm.trans H; rw [hy380]; with_reducible exact H2_) | (have H2_ := (Option.bind_some _ _).symm.trans H; with_reducible exact H2_) | with_reducible exact H | (rw [hy380]; exact H) | exact H
 have Ny380 := Aside0.mk hy380
 clear hy380
 have H' := Aside0.mk H
 clear H
 go_enter Tryd.func10, Tryd.ntmps10
 go_wp2_with (first | ((with_reducible refine gate_dst (N := 5) rfl ?_); refine Kd.S_lit (Kd.slice 32 k32) _ 24 ?hg (N := 5) ?hd (xs := ([] : List (List (S32)))) (inner := []) (ok := fun _ => True) (okp := fun _ => True) ?hr ?hp (fun _ hk => hk) trivial (Below.refl _ _) (Nat.le_refl _) (by simp) ?_; (case hd => rfl); (case hg => rfl); (case hr => first | (go_simp; done) | (go_simp; rfl)); (case hp => exact (Reps.none _ _)); intro v381 w2 ho3 hb hg_ hnew_; clear hg_ hnew_; (first | rw [← Ny380.out] at ho3 | (simp only [Int.reduceToNat] at ho3; rw [← Ny380.out] at ho3)); have n0_ := Aside0.mk (Kd.S_lower ho3 (below_size bl)); have n1_ := Aside0.mk (below_step bl hb); revert n0_ n1_; clear HB; intro HO382 HB; clear hb ho3))
 go_loopg [3, 4] k (fun kq v3 v4 w' => ∃ (x3_1 : List (List (S32))) (x4_1 : Int), v4 = .int .i64 x4_1 ∧ Aside0 (plenumlaw19_on.l0 kq l0 x3_1 x4_1 = some r) ∧ Aside0 (kq ≤ k) ∧ Aside0 (Kd.S (Kd.slice 32 k32) 24 w' w.heap.size (fun _ => True) v3 x3_1) ∧ Aside0 (Below w.heap.size w w'))
 case atStart => exact ⟨(y380), (0), (by first | rfl | (simp; done) | (simp [*]; done)), H', ⟨Nat.le_refl _⟩, ⟨rs HO382.out⟩, ⟨bl⟩⟩
 case round =>
  clear H'
  try clear c1
  try clear p2
  obtain ⟨x3_1, x4_1, rfl, HA, HK1, HO_3, HB⟩ := hrel
  cases gk with
  | zero => exact absurd HA.out (by simp [plenumlaw19_on.l0])
  | succ k1 =>
   have H := HA.out
   clear HA
   simp only [plenumlaw19_on.l0] at H
   by_cases c4 : x4_1 < (l0.length : Int)
   ·
    rw [if_pos c4] at H
    have c4b0 : decide (x4_1 < (l0.length : Int)) = true := decide_eq_true c4
    clear c4
    by_cases c5 : 0 ≤ x4_1
    rotate_left
    ·
     rw [if_neg c5] at H
     exact absurd H (by simp)
    rw [if_pos c5] at H
    have c5b0 : decide (0 ≤ x4_1) = true := decide_eq_true c5
    clear c5
    replace H := Option.bind_eq_some_iff.mp H
    obtain ⟨⟨t384, t385⟩, A60, H⟩ := H
    (try dsimp only at H)
    have A6 := Aside0.mk A60
    clear A60
    obtain ⟨y386, hy386⟩ : ∃ y_ : List (S32), y_ = (([(⟨t384, t385⟩ : S32)] : List (S32))) := ⟨_, rfl⟩
    replace H : (if x3_1.length < 5864062014805 then (plenumlaw19_on.l0 k1 l0 (x3_1 ++ [y386]) (wrap64 (x4_1 + 1))) else (none)) = some r := by first | (rw [hy386]; with_reducible exact H) | (have H2_ := (Option.bind_some _ _).symm.trans H; rw [hy386]; with_reducible exact H2_) | (have H2_ := (Option.bind_some _ _).symm.trans H; with_reducible exact H2_) | with_reducible exact H | (rw [hy386]; exact H) | exact H
    have Ny386 := Aside0.mk hy386
    clear hy386
    by_cases c7 : x3_1.length < 5864062014805
    rotate_left
    ·
     rw [if_neg c7] at H
     exact absurd H (by simp)
    rw [if_pos c7] at H
    have LMc7 := Aside0.mk c7
    clear c7
    obtain ⟨y389, hy389⟩ : ∃ y_ : List (List (S32)), y_ = (x3_1 ++ [y386]) := ⟨_, rfl⟩
    replace H : (plenumlaw19_on.l0 k1 l0 y389 (wrap64 (x4_1 + 1))) = some r := by first | (rw [hy389]; with_reducible exact H) | (have H2_ := (Option.bind_some _ _).symm.trans H; rw [hy389]; with_reducible exact H2_) | (have H2_ := (Option.bind_some _ _).symm.trans H; with_reducible exact H2_) | with_reducible exact H | (rw [hy389]; exact H) | exact H
    have Ny389 := Aside0.mk hy389
    clear hy389
    have H' := Aside0.mk H
    clear H
    have p383 : 0 ≤ (x4_1 : Int) := ode
    have q383 : x4_1 < (l0.length : Int) := ode
    obtain ⟨ad383, e383, hx383_0⟩ := Kd.at_bool HR0.out x4_1 p383 q383
    cases e383
    replace hx383_0 := (HB.out.cell (World.block_lt_of_cell? w _ hx383_0)).trans hx383_0
    replace p383 := eq_true p383
    replace q383 := eq_true q383
    go_wp2_with (first | ((with_reducible refine gate_callee (f := 11) rfl ?_); refine goesL_ (some 17) rfl rfl Tryd.func11 (by kernel_rfl) rfl #[.bool (rdOf false l0 x4_1)] rfl aeq ?_; (with_reducible refine (plenumlaw19_bit.calls (rdOf false l0 x4_1) t384 t385 _ A6.out).mono ?_); rintro e w8 ⟨rfl, hb⟩; refine ⟨_, rfl, ?_⟩; have n0_ := Aside0.mk (Kd.S_below (rs HO_3.out) hb); have n1_ := Aside0.mk (below_step bl hb); revert n0_ n1_; clear HO_3 HB; intro HO_3 HB; (try clear hb); (try clear hb2); (try clear hk); (try clear hi)) | ((with_reducible refine gate_dst (N := 18) rfl ?_); refine Kd.R_lit k32 _ 32 ?hg (N := 18) ?hd (xs := ([(⟨t384, t385⟩ : S32)] : List (S32))) (inner := [.int .i64 t384, .int .i64 t385]) (ok := fun _ => True) (okp := fun _ => True) ?hr ?hp (fun _ hk => hk) trivial (Below.refl _ _) (Nat.le_refl _) (by simp) ?_; (case hd => rfl); (case hg => rfl); (case hr => first | (go_simp; done) | (go_simp; rfl)); (case hp => exact (Reps.c2 (show Kd.M k32 _ _ _ (⟨t384, t385⟩ : S32) [.int .i64 t384, .int .i64 t385] from (k32_mkM _ _ _ (⟨t384, t385⟩ : S32) )) (Reps.none _ _))); intro v387 w9 ho10 hb hg_ hnew_; clear hg_ hnew_; (first | rw [← Ny386.out] at ho10 | (simp only [Int.reduceToNat] at ho10; rw [← Ny386.out] at ho10)); have n0_ := Aside0.mk (Kd.S_elder' (rs HO_3.out) (Kd.R_base ho10) hb); have n1_ := Aside0.mk (Kd.R_lower ho10 (below_size bl)); have n2_ := Aside0.mk (below_step bl hb); revert n0_ n1_ n2_; clear HO_3 HB; intro HO_3 HO388 HB; clear hb ho10; obtain ⟨Ao12, co12, eo12⟩ := Kd.R_slice HO388.out; subst eo12) | ((with_reducible refine gate_builtin (b := .append) (xs := #[.tmp 12, .tmp 19]) rfl ?_); at_builtin; refine Kd.S_append (Kd.slice 32 k32) (w0 := w) w.heap.size rfl (.tmp 12) (.tmp 19) 29 24 (.slice none 0 0) 24 rfl Tryd.underlying29 info24 rfl (by decide) (by omega) u3 x3_1 y386 [.slice Ao12 y386.length co12] (fun _ => True) (fun k_ => some k_ = (.slice Ao12 y386.length co12 : Value).ownBlock) rfl rfl ?aP (fun k_ hk_ => ((Kd.R_mono (ok' := fun k_ => ((fun _ => True)) k_ ∧ some k_ ≠ (u3 : Value).ownBlock) (Kd.R_apart' (HO388.out) (Kd.S_typed HO_3.out) (by decide)) (fun k_ hk => ⟨trivial, hk.2⟩))).1 k_ hk_.symm) ?aF ?aO ?aB ?aS ?aL ?_; (case aP => exact Kd.M_row (Kd.R_mono (Kd.R_tight rfl (Kd.R_mono (ok' := fun k_ => ((fun _ => True)) k_ ∧ some k_ ≠ (u3 : Value).ownBlock) (Kd.R_apart' (HO388.out) (Kd.S_typed HO_3.out) (by decide)) (fun k_ hk => ⟨trivial, hk.2⟩))) (fun _ h_ => h_))); (case aB => exact bl); (case aF => exact (fun _ _ => trivial)); (case aO => exact (by (with_reducible repeat (first | apply Kd.S_alloc | apply Kd.S_drewN | apply Kd.S_drew)); exact Kd.S_mono HO_3.out (fun k_ hk => ⟨trivial, fun e_ => hk.2 e_⟩))); (case aS => exact (below_size bl)); (case aL => have := LMc7.out; omega); intro v390 w11 ho hb hg hat; rw [← Ny389.out] at ho; have n0_ := Aside0.mk (hb); have n1_ := Aside0.mk (ho); revert n0_ n1_; clear HB HO_3 HO388; intro HB HO391; clear ho hb hg hat))
    go_roundg k1
    case measure => have := HK1.out; omega
    case rel => exact ⟨(y389), (wrap64 (x4_1 + 1)), (by first | rfl | (simp; done) | (simp [*]; done)), H', ⟨by have := HK1.out; omega⟩, ⟨rs HO391.out⟩, ⟨bl⟩⟩
   ·
    rw [if_neg c4] at H
    have c4b0 : decide (x4_1 < (l0.length : Int)) = false := decide_eq_false c4
    clear c4
    obtain rfl := Option.some.inj H
    go_wp2
    go_ret
    exact ⟨_, by first | rfl | (simp [errW_none, errW_some] <;> rfl) | (simp [*, errW_none, errW_some] <;> rfl), rs HO_3.out, bl⟩

end Go.Proofs.YtjjbdgngncgikaaDoor.R
