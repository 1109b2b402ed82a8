-- Written by this claim's own program out of the translation; not trusted: Lean checks it.
import Derived.Test.YtcpncmjjbfbdhaaDoorRx0
namespace Go.Proofs.YtcpncmjjbfbdhaaDoor.R
open Go.RowKit Go.Proofs.YtcpncmjjbfbdhaaDoorW.PrintWords Go.Proofs.YtcpncmjjbfbdhaaDoorW.PrintLast Go.Proofs.YtcpncmjjbfbdhaaDoorW.PrintMore
attribute [local go_sem] max2_int min2_int max_two min_two max_three min_three max_four min_four   -- for this text's walks alone
set_option linter.unusedVariables false
set_option linter.unusedSimpArgs false

/-! ### plenumref21_Steps: function 31 -/
def plenumref21_Steps.f (l0 : List Int) (l1 : List Int) (a2 : Bool) (a3 : Bool) (a4 : Int) : Option (List Int) := if a2 = true then (if 0 < (l1.length : Int) then (if (rd l1 0) = 0 then (some (([1, 0] : List Int))) else (if 1 < (l1.length : Int) then (if 0 < (l0.length : Int) then (if (rd l1 0) < (rd l0 0) then (if a3 = true then (if 1 < (l0.length : Int) then (if (mn (wrap64 ((rd l1 1) + a4)) 6311433599) ≥ (rd l0 1) then (some (([wrap64 ((rd l1 0) + 1), 0] : List Int))) else (some (([rd l1 0, mn (wrap64 ((rd l1 1) + a4)) 6311433599] : List Int)))) else (none)) else (some (([rd l1 0, mn (wrap64 ((rd l1 1) + a4)) 6311433599] : List Int)))) else (some (([rd l1 0, mn (wrap64 ((rd l1 1) + a4)) 6311433599] : List Int)))) else (none)) else (none))) else (none)) else (some (([0, 0] : List Int)))
set_option maxHeartbeats 8000000 in
set_option maxRecDepth 100000 in
theorem plenumref21_Steps.calls (A0 : Option Addr) (c0 : Nat) (l0 : List Int) (A1 : Option Addr) (c1 : Nat) (l1 : List Int) (a2 : Bool) (a3 : Bool) (a4 : Int) (r : List Int) (w : World) (hr0 : Kd.C (Kd.int .i64) w A0 l0.length l0) (hc0 : l0.length ≤ c0) (hr1 : Kd.C (Kd.int .i64) w A1 l1.length l1) (hc1 : l1.length ≤ c1) (h : plenumref21_Steps.f l0 l1 a2 a3 a4 = some r) :
  Calls Tryd.prog 31 #[.slice A0 l0.length c0, .slice A1 l1.length c1, .bool a2, .bool a3, .int .i64 a4] w fun e w' => ∃ v0_ : Value, e = .returned (v0_) ∧ Kd.R (Kd.int .i64) 2 w' w.heap.size (fun _ => True) v0_ r ∧ Below w.heap.size w w' := by
 have HR0 := Aside0.mk hr0
 have HC0 := Aside0.mk hc0
 clear hr0 hc0
 have HR1 := Aside0.mk hr1
 have HC1 := Aside0.mk hc1
 clear hr1 hc1
 have HB := Aside0.mk (Below.refl w.heap.size w)
 have H : (if a2 = true then (if 0 < (l1.length : Int) then (if (rd l1 0) = 0 then (some (([1, 0] : List Int))) else (if 1 < (l1.length : Int) then (if 0 < (l0.length : Int) then (if (rd l1 0) < (rd l0 0) then (if a3 = true then (if 1 < (l0.length : Int) then (if (mn (wrap64 ((rd l1 1) + a4)) 6311433599) ≥ (rd l0 1) then (some (([wrap64 ((rd l1 0) + 1), 0] : List Int))) else (some (([rd l1 0, mn (wrap64 ((rd l1 1) + a4)) 6311433599] : List Int)))) else (none)) else (some (([rd l1 0, mn (wrap64 ((rd l1 1) + a4)) 6311433599] : List Int)))) else (some (([rd l1 0, mn (wrap64 ((rd l1 1) + a4)) 6311433599] : List Int)))) else (none)) else (none))) else (none)) else (some (([0, 0] : List Int)))) = some r := h
 clear h
 by_cases c6 : a2 = true
 ·
  subst c6
  rw [if_pos rfl] at H
  by_cases c7 : 0 < (l1.length : Int)
  ·
   rw [if_pos c7] at H
   have c7b0 : decide (0 < (l1.length : Int)) = true := decide_eq_true c7
   have c7b1 : decide (0 < l1.length) = true := decide_eq_true (by omega)
   clear c7
   by_cases c8 : (rd l1 0) = 0
   ·
    rw [if_pos c8] at H
    have c8b0 : ((rd l1 0) == 0) = true := beq_iff_eq.mpr c8
    have c8b1 : ((rd l1 0) != 0) = false := bne_eq_false_iff_eq.mpr c8
    clear c8
    obtain ⟨y609, hy609⟩ : ∃ y_ : List Int, y_ = (([1, 0] : List Int)) := ⟨_, rfl⟩
    replace H : (some y609) = some r := by first | (rw [hy609]; with_reducible exact H) | (have H2_ := (Option.bind_some _ _).symm.trans H; rw [hy609]; with_reducible exact H2_) | (have H2_ := (Option.bind_some _ _).symm.trans H; with_reducible exact H2_) | with_reducible exact H | (rw [hy609]; exact H) | exact H
    have Ny609 := Aside0.mk hy609
    clear hy609
    obtain rfl := Option.some.inj H
    have p608 : 0 ≤ (0 : Int) := (by omega)
    have q608 : 0 < (l1.length : Int) := ode
    obtain ⟨ad608, e608, hx608_0⟩ := Kd.at_int HR1.out 0 p608 q608
    cases e608
    have qi608 : (0 < l1.length) = True := eq_true (by omega)
    (try rw [show ((0 : Int)).toNat = 0 from rfl] at hx608_0)
    (try rw [Addr.add_zero'] at hx608_0)
    replace p608 := eq_true p608
    replace q608 := eq_true q608
    go_enter Tryd.func31, Tryd.ntmps31
    go_wp2_with (first | ((with_reducible refine gate_dst (N := 19) rfl ?_); refine Kd.R_lit (Kd.int .i64) _ 2 ?hg (N := 19) ?hd (xs := ([1, 0] : List Int)) (inner := [.int .i64 1, .int .i64 0]) (ok := fun _ => True) (okp := fun _ => True) ?hr ?hp (fun _ hk => hk) trivial (Below.refl _ _) (Nat.le_refl _) (by simp) ?_; (case hd => rfl); (case hg => rfl); (case hr => first | (go_simp; done) | (go_simp; rfl)); (case hp => exact (Reps.one (show Kd.M (Kd.int .i64) _ _ _ 1 [.int .i64 1] from rfl) (Reps.one (show Kd.M (Kd.int .i64) _ _ _ 0 [.int .i64 0] from rfl) (Reps.none _ _)))); intro v610 w9 ho10 hb hg_ hnew_; clear hg_ hnew_; (first | rw [← Ny609.out] at ho10 | (simp only [Int.reduceToNat] at ho10; rw [← Ny609.out] at ho10)); have n0_ := Aside0.mk (Kd.R_lower ho10 (below_size bl)); have n1_ := Aside0.mk (below_step bl hb); clear HB; have HO611 := n0_; have HB := n1_; clear n0_ n1_; clear hb ho10))
    repeat (go_quiet (first | ((with_reducible refine gate_dst (N := 19) rfl ?_); refine Kd.R_lit (Kd.int .i64) _ 2 ?hg (N := 19) ?hd (xs := ([1, 0] : List Int)) (inner := [.int .i64 1, .int .i64 0]) (ok := fun _ => True) (okp := fun _ => True) ?hr ?hp (fun _ hk => hk) trivial (Below.refl _ _) (Nat.le_refl _) (by simp) ?_; (case hd => rfl); (case hg => rfl); (case hr => first | (go_simp; done) | (go_simp; rfl)); (case hp => exact (Reps.one (show Kd.M (Kd.int .i64) _ _ _ 1 [.int .i64 1] from rfl) (Reps.one (show Kd.M (Kd.int .i64) _ _ _ 0 [.int .i64 0] from rfl) (Reps.none _ _)))); intro v610 w9 ho10 hb hg_ hnew_; clear hg_ hnew_; (first | rw [← Ny609.out] at ho10 | (simp only [Int.reduceToNat] at ho10; rw [← Ny609.out] at ho10)); have n0_ := Aside0.mk (Kd.R_lower ho10 (below_size bl)); have n1_ := Aside0.mk (below_step bl hb); clear HB; have HO611 := n0_; have HB := n1_; clear n0_ n1_; clear hb ho10)); try go_wp2_with (first | ((with_reducible refine gate_dst (N := 19) rfl ?_); refine Kd.R_lit (Kd.int .i64) _ 2 ?hg (N := 19) ?hd (xs := ([1, 0] : List Int)) (inner := [.int .i64 1, .int .i64 0]) (ok := fun _ => True) (okp := fun _ => True) ?hr ?hp (fun _ hk => hk) trivial (Below.refl _ _) (Nat.le_refl _) (by simp) ?_; (case hd => rfl); (case hg => rfl); (case hr => first | (go_simp; done) | (go_simp; rfl)); (case hp => exact (Reps.one (show Kd.M (Kd.int .i64) _ _ _ 1 [.int .i64 1] from rfl) (Reps.one (show Kd.M (Kd.int .i64) _ _ _ 0 [.int .i64 0] from rfl) (Reps.none _ _)))); intro v610 w9 ho10 hb hg_ hnew_; clear hg_ hnew_; (first | rw [← Ny609.out] at ho10 | (simp only [Int.reduceToNat] at ho10; rw [← Ny609.out] at ho10)); have n0_ := Aside0.mk (Kd.R_lower ho10 (below_size bl)); have n1_ := Aside0.mk (below_step bl hb); clear HB; have HO611 := n0_; have HB := n1_; clear n0_ n1_; clear hb ho10)))
    go_ret
    exact ⟨_, by first | rfl | (simp [errW_none, errW_some] <;> rfl) | (simp [*, errW_none, errW_some] <;> rfl), by (with_reducible repeat (first | apply Kd.R_alloc | apply Kd.R_drewN | apply Kd.R_drew)); exact HO611.out, bl⟩
   ·
    rw [if_neg c8] at H
    have c8b0 : ((rd l1 0) == 0) = false := beq_eq_false_iff_ne.mpr c8
    have c8b1 : ((rd l1 0) != 0) = true := bne_iff_ne.mpr c8
    by_cases c11 : 1 < (l1.length : Int)
    ·
     rw [if_pos c11] at H
     have c11b0 : decide (1 < (l1.length : Int)) = true := decide_eq_true c11
     have c11b1 : decide (1 < l1.length) = true := decide_eq_true (by omega)
     clear c11
     obtain ⟨ji12, hji12⟩ : ∃ j_ : Int, (mn (wrap64 ((rd l1 1) + a4)) 6311433599) = j_ := ⟨_, rfl⟩
     replace H : (if 0 < (l0.length : Int) then (if (rd l1 0) < (rd l0 0) then (if a3 = true then (if 1 < (l0.length : Int) then (if (ji12) ≥ (rd l0 1) then (some (([wrap64 ((rd l1 0) + 1), 0] : List Int))) else (some (([rd l1 0, ji12] : List Int)))) else (none)) else (some (([rd l1 0, ji12] : List Int)))) else (some (([rd l1 0, ji12] : List Int)))) else (none)) = some r := by first | (rw [hji12] at H; exact H) | (simp only [hji12] at H ⊢; exact H)
     (try (have hji12h : ji12 ≤ 6311433599 := by (rw [← hji12]; unfold mn; (repeat' split) <;> omega)))
     (try (have hji12g : ji12 ≤ 64 := by omega))
     have hji12_ : (if 6311433599 < (wrap64 ((rd l1 1) + a4)) then 6311433599 else (wrap64 ((rd l1 1) + a4))) = ji12 := hji12
     by_cases c13 : 0 < (l0.length : Int)
     ·
      rw [if_pos c13] at H
      have c13b0 : decide (0 < (l0.length : Int)) = true := decide_eq_true c13
      have c13b1 : decide (0 < l0.length) = true := decide_eq_true (by omega)
      clear c13
      by_cases c14 : (rd l1 0) < (rd l0 0)
      ·
       rw [if_pos c14] at H
       have c14b0 : decide ((rd l1 0) < (rd l0 0)) = true := decide_eq_true c14
       clear c14
       by_cases c15 : a3 = true
       ·
        subst c15
        rw [if_pos rfl] at H
        by_cases c16 : 1 < (l0.length : Int)
        ·
         rw [if_pos c16] at H
         have c16b0 : decide (1 < (l0.length : Int)) = true := decide_eq_true c16
         have c16b1 : decide (1 < l0.length) = true := decide_eq_true (by omega)
         clear c16
         by_cases c17 : (ji12) ≥ (rd l0 1)
         ·
          rw [if_pos c17] at H
          have c17b0 : decide ((rd l0 1) ≤ (ji12)) = true := decide_eq_true c17
          clear c17
          obtain ⟨y617, hy617⟩ : ∃ y_ : List Int, y_ = (([wrap64 ((rd l1 0) + 1), 0] : List Int)) := ⟨_, rfl⟩
          replace H : (some y617) = some r := by first | (rw [hy617]; with_reducible exact H) | (have H2_ := (Option.bind_some _ _).symm.trans H; rw [hy617]; with_reducible exact H2_) | (have H2_ := (Option.bind_some _ _).symm.trans H; with_reducible exact H2_) | with_reducible exact H | (rw [hy617]; exact H) | exact H
          have Ny617 := Aside0.mk hy617
          clear hy617
          obtain rfl := Option.some.inj H
          have p608 : 0 ≤ (0 : Int) := (by omega)
          have q608 : 0 < (l1.length : Int) := ode
          obtain ⟨ad608, e608, hx608_0⟩ := Kd.at_int HR1.out 0 p608 q608
          cases e608
          have qi608 : (0 < l1.length) = True := eq_true (by omega)
          (try rw [show ((0 : Int)).toNat = 0 from rfl] at hx608_0)
          (try rw [Addr.add_zero'] at hx608_0)
          replace p608 := eq_true p608
          replace q608 := eq_true q608
          have p612 : 0 ≤ (1 : Int) := (by omega)
          have q612 : 1 < (l1.length : Int) := ode
          obtain ⟨ad612, e612, hx612_0⟩ := Kd.at_int HR1.out 1 p612 q612
          obtain rfl : ad608 = ad612 := (by injection e612)
          (try simp only [show (1 : Int).toNat = 1 from rfl, Nat.reduceMul, Nat.reduceEqDiff, Go.Addr.add, ↓reduceIte] at hx612_0)
          have qi612 : (1 < l1.length) = True := eq_true (by omega)
          (try rw [show ((1 : Int)).toNat = 1 from rfl] at hx612_0)
          replace p612 := eq_true p612
          replace q612 := eq_true q612
          have p613 : 0 ≤ (0 : Int) := (by omega)
          have q613 : 0 < (l1.length : Int) := ode
          obtain ⟨ad613, e613, hx613_0⟩ := Kd.at_int HR1.out 0 p613 q613
          obtain rfl : ad608 = ad613 := (by injection e613)
          have qi613 : (0 < l1.length) = True := eq_true (by omega)
          (try rw [show ((0 : Int)).toNat = 0 from rfl] at hx613_0)
          (try rw [Addr.add_zero'] at hx613_0)
          replace p613 := eq_true p613
          replace q613 := eq_true q613
          have p614 : 0 ≤ (0 : Int) := (by omega)
          have q614 : 0 < (l0.length : Int) := ode
          obtain ⟨ad614, e614, hx614_0⟩ := Kd.at_int HR0.out 0 p614 q614
          cases e614
          have qi614 : (0 < l0.length) = True := eq_true (by omega)
          (try rw [show ((0 : Int)).toNat = 0 from rfl] at hx614_0)
          (try rw [Addr.add_zero'] at hx614_0)
          replace p614 := eq_true p614
          replace q614 := eq_true q614
          have p615 : 0 ≤ (1 : Int) := (by omega)
          have q615 : 1 < (l0.length : Int) := ode
          obtain ⟨ad615, e615, hx615_0⟩ := Kd.at_int HR0.out 1 p615 q615
          obtain rfl : ad614 = ad615 := (by injection e615)
          (try simp only [show (1 : Int).toNat = 1 from rfl, Nat.reduceMul, Nat.reduceEqDiff, Go.Addr.add, ↓reduceIte] at hx615_0)
          have qi615 : (1 < l0.length) = True := eq_true (by omega)
          (try rw [show ((1 : Int)).toNat = 1 from rfl] at hx615_0)
          replace p615 := eq_true p615
          replace q615 := eq_true q615
          have p616 : 0 ≤ (0 : Int) := (by omega)
          have q616 : 0 < (l1.length : Int) := ode
          obtain ⟨ad616, e616, hx616_0⟩ := Kd.at_int HR1.out 0 p616 q616
          obtain rfl : ad608 = ad616 := (by injection e616)
          have qi616 : (0 < l1.length) = True := eq_true (by omega)
          (try rw [show ((0 : Int)).toNat = 0 from rfl] at hx616_0)
          (try rw [Addr.add_zero'] at hx616_0)
          replace p616 := eq_true p616
          replace q616 := eq_true q616
          go_enter Tryd.func31, Tryd.ntmps31
          go_wp2_with (first | ((with_reducible refine gate_dst (N := 47) rfl ?_); refine Kd.R_lit (Kd.int .i64) _ 2 ?hg (N := 47) ?hd (xs := ([wrap64 ((rd l1 0) + 1), 0] : List Int)) (inner := [.int .i64 (wrap64 ((rd l1 0) + 1)), .int .i64 0]) (ok := fun _ => True) (okp := fun _ => True) ?hr ?hp (fun _ hk => hk) trivial (Below.refl _ _) (Nat.le_refl _) (by simp) ?_; (case hd => rfl); (case hg => rfl); (case hr => first | (go_simp; done) | (go_simp; rfl)); (case hp => exact (Reps.one (show Kd.M (Kd.int .i64) _ _ _ (wrap64 ((rd l1 0) + 1)) [.int .i64 (wrap64 ((rd l1 0) + 1))] from rfl) (Reps.one (show Kd.M (Kd.int .i64) _ _ _ 0 [.int .i64 0] from rfl) (Reps.none _ _)))); intro v618 w18 ho19 hb hg_ hnew_; clear hg_ hnew_; (first | rw [← Ny617.out] at ho19 | (simp only [Int.reduceToNat] at ho19; rw [← Ny617.out] at ho19)); have n0_ := Aside0.mk (Kd.R_lower ho19 (below_size bl)); have n1_ := Aside0.mk (below_step bl hb); clear HB; have HO619 := n0_; have HB := n1_; clear n0_ n1_; clear hb ho19))
          repeat (go_quiet (first | ((with_reducible refine gate_dst (N := 47) rfl ?_); refine Kd.R_lit (Kd.int .i64) _ 2 ?hg (N := 47) ?hd (xs := ([wrap64 ((rd l1 0) + 1), 0] : List Int)) (inner := [.int .i64 (wrap64 ((rd l1 0) + 1)), .int .i64 0]) (ok := fun _ => True) (okp := fun _ => True) ?hr ?hp (fun _ hk => hk) trivial (Below.refl _ _) (Nat.le_refl _) (by simp) ?_; (case hd => rfl); (case hg => rfl); (case hr => first | (go_simp; done) | (go_simp; rfl)); (case hp => exact (Reps.one (show Kd.M (Kd.int .i64) _ _ _ (wrap64 ((rd l1 0) + 1)) [.int .i64 (wrap64 ((rd l1 0) + 1))] from rfl) (Reps.one (show Kd.M (Kd.int .i64) _ _ _ 0 [.int .i64 0] from rfl) (Reps.none _ _)))); intro v618 w18 ho19 hb hg_ hnew_; clear hg_ hnew_; (first | rw [← Ny617.out] at ho19 | (simp only [Int.reduceToNat] at ho19; rw [← Ny617.out] at ho19)); have n0_ := Aside0.mk (Kd.R_lower ho19 (below_size bl)); have n1_ := Aside0.mk (below_step bl hb); clear HB; have HO619 := n0_; have HB := n1_; clear n0_ n1_; clear hb ho19)); try go_wp2_with (first | ((with_reducible refine gate_dst (N := 47) rfl ?_); refine Kd.R_lit (Kd.int .i64) _ 2 ?hg (N := 47) ?hd (xs := ([wrap64 ((rd l1 0) + 1), 0] : List Int)) (inner := [.int .i64 (wrap64 ((rd l1 0) + 1)), .int .i64 0]) (ok := fun _ => True) (okp := fun _ => True) ?hr ?hp (fun _ hk => hk) trivial (Below.refl _ _) (Nat.le_refl _) (by simp) ?_; (case hd => rfl); (case hg => rfl); (case hr => first | (go_simp; done) | (go_simp; rfl)); (case hp => exact (Reps.one (show Kd.M (Kd.int .i64) _ _ _ (wrap64 ((rd l1 0) + 1)) [.int .i64 (wrap64 ((rd l1 0) + 1))] from rfl) (Reps.one (show Kd.M (Kd.int .i64) _ _ _ 0 [.int .i64 0] from rfl) (Reps.none _ _)))); intro v618 w18 ho19 hb hg_ hnew_; clear hg_ hnew_; (first | rw [← Ny617.out] at ho19 | (simp only [Int.reduceToNat] at ho19; rw [← Ny617.out] at ho19)); have n0_ := Aside0.mk (Kd.R_lower ho19 (below_size bl)); have n1_ := Aside0.mk (below_step bl hb); clear HB; have HO619 := n0_; have HB := n1_; clear n0_ n1_; clear hb ho19)))
          go_ret
          exact ⟨_, by first | rfl | (simp [errW_none, errW_some] <;> rfl) | (simp only [← hji12]; first | rfl | (simp [errW_none, errW_some] <;> rfl)) | (simp [*, errW_none, errW_some] <;> rfl), by (with_reducible repeat (first | apply Kd.R_alloc | apply Kd.R_drewN | apply Kd.R_drew)); exact HO619.out, bl⟩
         ·
          rw [if_neg c17] at H
          have c17b0 : decide ((rd l0 1) ≤ (ji12)) = false := decide_eq_false c17
          clear c17
          obtain ⟨y621, hy621⟩ : ∃ y_ : List Int, y_ = (([rd l1 0, ji12] : List Int)) := ⟨_, rfl⟩
          replace H : (some y621) = some r := by first | (rw [hy621]; with_reducible exact H) | (have H2_ := (Option.bind_some _ _).symm.trans H; rw [hy621]; with_reducible exact H2_) | (have H2_ := (Option.bind_some _ _).symm.trans H; with_reducible exact H2_) | with_reducible exact H | (rw [hy621]; exact H) | exact H
          have Ny621 := Aside0.mk hy621
          clear hy621
          obtain rfl := Option.some.inj H
          have p608 : 0 ≤ (0 : Int) := (by omega)
          have q608 : 0 < (l1.length : Int) := ode
          obtain ⟨ad608, e608, hx608_0⟩ := Kd.at_int HR1.out 0 p608 q608
          cases e608
          have qi608 : (0 < l1.length) = True := eq_true (by omega)
          (try rw [show ((0 : Int)).toNat = 0 from rfl] at hx608_0)
          (try rw [Addr.add_zero'] at hx608_0)
          replace p608 := eq_true p608
          replace q608 := eq_true q608
          have p612 : 0 ≤ (1 : Int) := (by omega)
          have q612 : 1 < (l1.length : Int) := ode
          obtain ⟨ad612, e612, hx612_0⟩ := Kd.at_int HR1.out 1 p612 q612
          obtain rfl : ad608 = ad612 := (by injection e612)
          (try simp only [show (1 : Int).toNat = 1 from rfl, Nat.reduceMul, Nat.reduceEqDiff, Go.Addr.add, ↓reduceIte] at hx612_0)
          have qi612 : (1 < l1.length) = True := eq_true (by omega)
          (try rw [show ((1 : Int)).toNat = 1 from rfl] at hx612_0)
          replace p612 := eq_true p612
          replace q612 := eq_true q612
          have p613 : 0 ≤ (0 : Int) := (by omega)
          have q613 : 0 < (l1.length : Int) := ode
          obtain ⟨ad613, e613, hx613_0⟩ := Kd.at_int HR1.out 0 p613 q613
          obtain rfl : ad608 = ad613 := (by injection e613)
          have qi613 : (0 < l1.length) = True := eq_true (by omega)
          (try rw [show ((0 : Int)).toNat = 0 from rfl] at hx613_0)
          (try rw [Addr.add_zero'] at hx613_0)
          replace p613 := eq_true p613
          replace q613 := eq_true q613
          have p614 : 0 ≤ (0 : Int) := (by omega)
          have q614 : 0 < (l0.length : Int) := ode
          obtain ⟨ad614, e614, hx614_0⟩ := Kd.at_int HR0.out 0 p614 q614
          cases e614
          have qi614 : (0 < l0.length) = True := eq_true (by omega)
          (try rw [show ((0 : Int)).toNat = 0 from rfl] at hx614_0)
          (try rw [Addr.add_zero'] at hx614_0)
          replace p614 := eq_true p614
          replace q614 := eq_true q614
          have p615 : 0 ≤ (1 : Int) := (by omega)
          have q615 : 1 < (l0.length : Int) := ode
          obtain ⟨ad615, e615, hx615_0⟩ := Kd.at_int HR0.out 1 p615 q615
          obtain rfl : ad614 = ad615 := (by injection e615)
          (try simp only [show (1 : Int).toNat = 1 from rfl, Nat.reduceMul, Nat.reduceEqDiff, Go.Addr.add, ↓reduceIte] at hx615_0)
          have qi615 : (1 < l0.length) = True := eq_true (by omega)
          (try rw [show ((1 : Int)).toNat = 1 from rfl] at hx615_0)
          replace p615 := eq_true p615
          replace q615 := eq_true q615
          have p620 : 0 ≤ (0 : Int) := (by omega)
          have q620 : 0 < (l1.length : Int) := ode
          obtain ⟨ad620, e620, hx620_0⟩ := Kd.at_int HR1.out 0 p620 q620
          obtain rfl : ad608 = ad620 := (by injection e620)
          have qi620 : (0 < l1.length) = True := eq_true (by omega)
          (try rw [show ((0 : Int)).toNat = 0 from rfl] at hx620_0)
          (try rw [Addr.add_zero'] at hx620_0)
          replace p620 := eq_true p620
          replace q620 := eq_true q620
          go_enter Tryd.func31, Tryd.ntmps31
          go_wp2_with (first | ((with_reducible refine gate_dst (N := 52) rfl ?_); refine Kd.R_lit (Kd.int .i64) _ 2 ?hg (N := 52) ?hd (xs := ([rd l1 0, ji12] : List Int)) (inner := [.int .i64 (rd l1 0), .int .i64 ji12]) (ok := fun _ => True) (okp := fun _ => True) ?hr ?hp (fun _ hk => hk) trivial (Below.refl _ _) (Nat.le_refl _) (by simp) ?_; (case hd => rfl); (case hg => rfl); (case hr => first | (go_simp; done) | (go_simp; rfl)); (case hp => exact (Reps.one (show Kd.M (Kd.int .i64) _ _ _ (rd l1 0) [.int .i64 (rd l1 0)] from rfl) (Reps.one (show Kd.M (Kd.int .i64) _ _ _ ji12 [.int .i64 ji12] from rfl) (Reps.none _ _)))); intro v622 w20 ho21 hb hg_ hnew_; clear hg_ hnew_; (first | rw [← Ny621.out] at ho21 | (simp only [Int.reduceToNat] at ho21; rw [← Ny621.out] at ho21)); have n0_ := Aside0.mk (Kd.R_lower ho21 (below_size bl)); have n1_ := Aside0.mk (below_step bl hb); clear HB; have HO623 := n0_; have HB := n1_; clear n0_ n1_; clear hb ho21))
          repeat (go_quiet (first | ((with_reducible refine gate_dst (N := 52) rfl ?_); refine Kd.R_lit (Kd.int .i64) _ 2 ?hg (N := 52) ?hd (xs := ([rd l1 0, ji12] : List Int)) (inner := [.int .i64 (rd l1 0), .int .i64 ji12]) (ok := fun _ => True) (okp := fun _ => True) ?hr ?hp (fun _ hk => hk) trivial (Below.refl _ _) (Nat.le_refl _) (by simp) ?_; (case hd => rfl); (case hg => rfl); (case hr => first | (go_simp; done) | (go_simp; rfl)); (case hp => exact (Reps.one (show Kd.M (Kd.int .i64) _ _ _ (rd l1 0) [.int .i64 (rd l1 0)] from rfl) (Reps.one (show Kd.M (Kd.int .i64) _ _ _ ji12 [.int .i64 ji12] from rfl) (Reps.none _ _)))); intro v622 w20 ho21 hb hg_ hnew_; clear hg_ hnew_; (first | rw [← Ny621.out] at ho21 | (simp only [Int.reduceToNat] at ho21; rw [← Ny621.out] at ho21)); have n0_ := Aside0.mk (Kd.R_lower ho21 (below_size bl)); have n1_ := Aside0.mk (below_step bl hb); clear HB; have HO623 := n0_; have HB := n1_; clear n0_ n1_; clear hb ho21)); try go_wp2_with (first | ((with_reducible refine gate_dst (N := 52) rfl ?_); refine Kd.R_lit (Kd.int .i64) _ 2 ?hg (N := 52) ?hd (xs := ([rd l1 0, ji12] : List Int)) (inner := [.int .i64 (rd l1 0), .int .i64 ji12]) (ok := fun _ => True) (okp := fun _ => True) ?hr ?hp (fun _ hk => hk) trivial (Below.refl _ _) (Nat.le_refl _) (by simp) ?_; (case hd => rfl); (case hg => rfl); (case hr => first | (go_simp; done) | (go_simp; rfl)); (case hp => exact (Reps.one (show Kd.M (Kd.int .i64) _ _ _ (rd l1 0) [.int .i64 (rd l1 0)] from rfl) (Reps.one (show Kd.M (Kd.int .i64) _ _ _ ji12 [.int .i64 ji12] from rfl) (Reps.none _ _)))); intro v622 w20 ho21 hb hg_ hnew_; clear hg_ hnew_; (first | rw [← Ny621.out] at ho21 | (simp only [Int.reduceToNat] at ho21; rw [← Ny621.out] at ho21)); have n0_ := Aside0.mk (Kd.R_lower ho21 (below_size bl)); have n1_ := Aside0.mk (below_step bl hb); clear HB; have HO623 := n0_; have HB := n1_; clear n0_ n1_; clear hb ho21)))
          go_ret
          exact ⟨_, by first | rfl | (simp [errW_none, errW_some] <;> rfl) | (simp only [← hji12]; first | rfl | (simp [errW_none, errW_some] <;> rfl)) | (simp [*, errW_none, errW_some] <;> rfl), by (with_reducible repeat (first | apply Kd.R_alloc | apply Kd.R_drewN | apply Kd.R_drew)); exact HO623.out, bl⟩
        ·
         rw [if_neg c16] at H
         exact absurd H (by simp)
       ·
        replace c15 := Bool.eq_false_iff.mpr c15
        subst c15
        rw [if_neg (show ¬ (false = true) by decide)] at H
        obtain ⟨y625, hy625⟩ : ∃ y_ : List Int, y_ = (([rd l1 0, ji12] : List Int)) := ⟨_, rfl⟩
        replace H : (some y625) = some r := by first | (rw [hy625]; with_reducible exact H) | (have H2_ := (Option.bind_some _ _).symm.trans H; rw [hy625]; with_reducible exact H2_) | (have H2_ := (Option.bind_some _ _).symm.trans H; with_reducible exact H2_) | with_reducible exact H | (rw [hy625]; exact H) | exact H
        have Ny625 := Aside0.mk hy625
        clear hy625
        obtain rfl := Option.some.inj H
        have p608 : 0 ≤ (0 : Int) := (by omega)
        have q608 : 0 < (l1.length : Int) := ode
        obtain ⟨ad608, e608, hx608_0⟩ := Kd.at_int HR1.out 0 p608 q608
        cases e608
        have qi608 : (0 < l1.length) = True := eq_true (by omega)
        (try rw [show ((0 : Int)).toNat = 0 from rfl] at hx608_0)
        (try rw [Addr.add_zero'] at hx608_0)
        replace p608 := eq_true p608
        replace q608 := eq_true q608
        have p612 : 0 ≤ (1 : Int) := (by omega)
        have q612 : 1 < (l1.length : Int) := ode
        obtain ⟨ad612, e612, hx612_0⟩ := Kd.at_int HR1.out 1 p612 q612
        obtain rfl : ad608 = ad612 := (by injection e612)
        (try simp only [show (1 : Int).toNat = 1 from rfl, Nat.reduceMul, Nat.reduceEqDiff, Go.Addr.add, ↓reduceIte] at hx612_0)
        have qi612 : (1 < l1.length) = True := eq_true (by omega)
        (try rw [show ((1 : Int)).toNat = 1 from rfl] at hx612_0)
        replace p612 := eq_true p612
        replace q612 := eq_true q612
        have p613 : 0 ≤ (0 : Int) := (by omega)
        have q613 : 0 < (l1.length : Int) := ode
        obtain ⟨ad613, e613, hx613_0⟩ := Kd.at_int HR1.out 0 p613 q613
        obtain rfl : ad608 = ad613 := (by injection e613)
        have qi613 : (0 < l1.length) = True := eq_true (by omega)
        (try rw [show ((0 : Int)).toNat = 0 from rfl] at hx613_0)
        (try rw [Addr.add_zero'] at hx613_0)
        replace p613 := eq_true p613
        replace q613 := eq_true q613
        have p614 : 0 ≤ (0 : Int) := (by omega)
        have q614 : 0 < (l0.length : Int) := ode
        obtain ⟨ad614, e614, hx614_0⟩ := Kd.at_int HR0.out 0 p614 q614
        cases e614
        have qi614 : (0 < l0.length) = True := eq_true (by omega)
        (try rw [show ((0 : Int)).toNat = 0 from rfl] at hx614_0)
        (try rw [Addr.add_zero'] at hx614_0)
        replace p614 := eq_true p614
        replace q614 := eq_true q614
        have p624 : 0 ≤ (0 : Int) := (by omega)
        have q624 : 0 < (l1.length : Int) := ode
        obtain ⟨ad624, e624, hx624_0⟩ := Kd.at_int HR1.out 0 p624 q624
        obtain rfl : ad608 = ad624 := (by injection e624)
        have qi624 : (0 < l1.length) = True := eq_true (by omega)
        (try rw [show ((0 : Int)).toNat = 0 from rfl] at hx624_0)
        (try rw [Addr.add_zero'] at hx624_0)
        replace p624 := eq_true p624
        replace q624 := eq_true q624
        go_enter Tryd.func31, Tryd.ntmps31
        go_wp2_with (first | ((with_reducible refine gate_dst (N := 52) rfl ?_); refine Kd.R_lit (Kd.int .i64) _ 2 ?hg (N := 52) ?hd (xs := ([rd l1 0, ji12] : List Int)) (inner := [.int .i64 (rd l1 0), .int .i64 ji12]) (ok := fun _ => True) (okp := fun _ => True) ?hr ?hp (fun _ hk => hk) trivial (Below.refl _ _) (Nat.le_refl _) (by simp) ?_; (case hd => rfl); (case hg => rfl); (case hr => first | (go_simp; done) | (go_simp; rfl)); (case hp => exact (Reps.one (show Kd.M (Kd.int .i64) _ _ _ (rd l1 0) [.int .i64 (rd l1 0)] from rfl) (Reps.one (show Kd.M (Kd.int .i64) _ _ _ ji12 [.int .i64 ji12] from rfl) (Reps.none _ _)))); intro v626 w22 ho23 hb hg_ hnew_; clear hg_ hnew_; (first | rw [← Ny625.out] at ho23 | (simp only [Int.reduceToNat] at ho23; rw [← Ny625.out] at ho23)); have n0_ := Aside0.mk (Kd.R_lower ho23 (below_size bl)); have n1_ := Aside0.mk (below_step bl hb); clear HB; have HO627 := n0_; have HB := n1_; clear n0_ n1_; clear hb ho23))
        repeat (go_quiet (first | ((with_reducible refine gate_dst (N := 52) rfl ?_); refine Kd.R_lit (Kd.int .i64) _ 2 ?hg (N := 52) ?hd (xs := ([rd l1 0, ji12] : List Int)) (inner := [.int .i64 (rd l1 0), .int .i64 ji12]) (ok := fun _ => True) (okp := fun _ => True) ?hr ?hp (fun _ hk => hk) trivial (Below.refl _ _) (Nat.le_refl _) (by simp) ?_; (case hd => rfl); (case hg => rfl); (case hr => first | (go_simp; done) | (go_simp; rfl)); (case hp => exact (Reps.one (show Kd.M (Kd.int .i64) _ _ _ (rd l1 0) [.int .i64 (rd l1 0)] from rfl) (Reps.one (show Kd.M (Kd.int .i64) _ _ _ ji12 [.int .i64 ji12] from rfl) (Reps.none _ _)))); intro v626 w22 ho23 hb hg_ hnew_; clear hg_ hnew_; (first | rw [← Ny625.out] at ho23 | (simp only [Int.reduceToNat] at ho23; rw [← Ny625.out] at ho23)); have n0_ := Aside0.mk (Kd.R_lower ho23 (below_size bl)); have n1_ := Aside0.mk (below_step bl hb); clear HB; have HO627 := n0_; have HB := n1_; clear n0_ n1_; clear hb ho23)); try go_wp2_with (first | ((with_reducible refine gate_dst (N := 52) rfl ?_); refine Kd.R_lit (Kd.int .i64) _ 2 ?hg (N := 52) ?hd (xs := ([rd l1 0, ji12] : List Int)) (inner := [.int .i64 (rd l1 0), .int .i64 ji12]) (ok := fun _ => True) (okp := fun _ => True) ?hr ?hp (fun _ hk => hk) trivial (Below.refl _ _) (Nat.le_refl _) (by simp) ?_; (case hd => rfl); (case hg => rfl); (case hr => first | (go_simp; done) | (go_simp; rfl)); (case hp => exact (Reps.one (show Kd.M (Kd.int .i64) _ _ _ (rd l1 0) [.int .i64 (rd l1 0)] from rfl) (Reps.one (show Kd.M (Kd.int .i64) _ _ _ ji12 [.int .i64 ji12] from rfl) (Reps.none _ _)))); intro v626 w22 ho23 hb hg_ hnew_; clear hg_ hnew_; (first | rw [← Ny625.out] at ho23 | (simp only [Int.reduceToNat] at ho23; rw [← Ny625.out] at ho23)); have n0_ := Aside0.mk (Kd.R_lower ho23 (below_size bl)); have n1_ := Aside0.mk (below_step bl hb); clear HB; have HO627 := n0_; have HB := n1_; clear n0_ n1_; clear hb ho23)))
        go_ret
        exact ⟨_, by first | rfl | (simp [errW_none, errW_some] <;> rfl) | (simp only [← hji12]; first | rfl | (simp [errW_none, errW_some] <;> rfl)) | (simp [*, errW_none, errW_some] <;> rfl), by (with_reducible repeat (first | apply Kd.R_alloc | apply Kd.R_drewN | apply Kd.R_drew)); exact HO627.out, bl⟩
      ·
       rw [if_neg c14] at H
       have c14b0 : decide ((rd l1 0) < (rd l0 0)) = false := decide_eq_false c14
       clear c14
       obtain ⟨y629, hy629⟩ : ∃ y_ : List Int, y_ = (([rd l1 0, ji12] : List Int)) := ⟨_, rfl⟩
       replace H : (some y629) = some r := by first | (rw [hy629]; with_reducible exact H) | (have H2_ := (Option.bind_some _ _).symm.trans H; rw [hy629]; with_reducible exact H2_) | (have H2_ := (Option.bind_some _ _).symm.trans H; with_reducible exact H2_) | with_reducible exact H | (rw [hy629]; exact H) | exact H
       have Ny629 := Aside0.mk hy629
       clear hy629
       obtain rfl := Option.some.inj H
       have p608 : 0 ≤ (0 : Int) := (by omega)
       have q608 : 0 < (l1.length : Int) := ode
       obtain ⟨ad608, e608, hx608_0⟩ := Kd.at_int HR1.out 0 p608 q608
       cases e608
       have qi608 : (0 < l1.length) = True := eq_true (by omega)
       (try rw [show ((0 : Int)).toNat = 0 from rfl] at hx608_0)
       (try rw [Addr.add_zero'] at hx608_0)
       replace p608 := eq_true p608
       replace q608 := eq_true q608
       have p612 : 0 ≤ (1 : Int) := (by omega)
       have q612 : 1 < (l1.length : Int) := ode
       obtain ⟨ad612, e612, hx612_0⟩ := Kd.at_int HR1.out 1 p612 q612
       obtain rfl : ad608 = ad612 := (by injection e612)
       (try simp only [show (1 : Int).toNat = 1 from rfl, Nat.reduceMul, Nat.reduceEqDiff, Go.Addr.add, ↓reduceIte] at hx612_0)
       have qi612 : (1 < l1.length) = True := eq_true (by omega)
       (try rw [show ((1 : Int)).toNat = 1 from rfl] at hx612_0)
       replace p612 := eq_true p612
       replace q612 := eq_true q612
       have p613 : 0 ≤ (0 : Int) := (by omega)
       have q613 : 0 < (l1.length : Int) := ode
       obtain ⟨ad613, e613, hx613_0⟩ := Kd.at_int HR1.out 0 p613 q613
       obtain rfl : ad608 = ad613 := (by injection e613)
       have qi613 : (0 < l1.length) = True := eq_true (by omega)
       (try rw [show ((0 : Int)).toNat = 0 from rfl] at hx613_0)
       (try rw [Addr.add_zero'] at hx613_0)
       replace p613 := eq_true p613
       replace q613 := eq_true q613
       have p614 : 0 ≤ (0 : Int) := (by omega)
       have q614 : 0 < (l0.length : Int) := ode
       obtain ⟨ad614, e614, hx614_0⟩ := Kd.at_int HR0.out 0 p614 q614
       cases e614
       have qi614 : (0 < l0.length) = True := eq_true (by omega)
       (try rw [show ((0 : Int)).toNat = 0 from rfl] at hx614_0)
       (try rw [Addr.add_zero'] at hx614_0)
       replace p614 := eq_true p614
       replace q614 := eq_true q614
       have p628 : 0 ≤ (0 : Int) := (by omega)
       have q628 : 0 < (l1.length : Int) := ode
       obtain ⟨ad628, e628, hx628_0⟩ := Kd.at_int HR1.out 0 p628 q628
       obtain rfl : ad608 = ad628 := (by injection e628)
       have qi628 : (0 < l1.length) = True := eq_true (by omega)
       (try rw [show ((0 : Int)).toNat = 0 from rfl] at hx628_0)
       (try rw [Addr.add_zero'] at hx628_0)
       replace p628 := eq_true p628
       replace q628 := eq_true q628
       go_enter Tryd.func31, Tryd.ntmps31
       go_wp2_with (first | ((with_reducible refine gate_dst (N := 52) rfl ?_); refine Kd.R_lit (Kd.int .i64) _ 2 ?hg (N := 52) ?hd (xs := ([rd l1 0, ji12] : List Int)) (inner := [.int .i64 (rd l1 0), .int .i64 ji12]) (ok := fun _ => True) (okp := fun _ => True) ?hr ?hp (fun _ hk => hk) trivial (Below.refl _ _) (Nat.le_refl _) (by simp) ?_; (case hd => rfl); (case hg => rfl); (case hr => first | (go_simp; done) | (go_simp; rfl)); (case hp => exact (Reps.one (show Kd.M (Kd.int .i64) _ _ _ (rd l1 0) [.int .i64 (rd l1 0)] from rfl) (Reps.one (show Kd.M (Kd.int .i64) _ _ _ ji12 [.int .i64 ji12] from rfl) (Reps.none _ _)))); intro v630 w24 ho25 hb hg_ hnew_; clear hg_ hnew_; (first | rw [← Ny629.out] at ho25 | (simp only [Int.reduceToNat] at ho25; rw [← Ny629.out] at ho25)); have n0_ := Aside0.mk (Kd.R_lower ho25 (below_size bl)); have n1_ := Aside0.mk (below_step bl hb); clear HB; have HO631 := n0_; have HB := n1_; clear n0_ n1_; clear hb ho25))
       repeat (go_quiet (first | ((with_reducible refine gate_dst (N := 52) rfl ?_); refine Kd.R_lit (Kd.int .i64) _ 2 ?hg (N := 52) ?hd (xs := ([rd l1 0, ji12] : List Int)) (inner := [.int .i64 (rd l1 0), .int .i64 ji12]) (ok := fun _ => True) (okp := fun _ => True) ?hr ?hp (fun _ hk => hk) trivial (Below.refl _ _) (Nat.le_refl _) (by simp) ?_; (case hd => rfl); (case hg => rfl); (case hr => first | (go_simp; done) | (go_simp; rfl)); (case hp => exact (Reps.one (show Kd.M (Kd.int .i64) _ _ _ (rd l1 0) [.int .i64 (rd l1 0)] from rfl) (Reps.one (show Kd.M (Kd.int .i64) _ _ _ ji12 [.int .i64 ji12] from rfl) (Reps.none _ _)))); intro v630 w24 ho25 hb hg_ hnew_; clear hg_ hnew_; (first | rw [← Ny629.out] at ho25 | (simp only [Int.reduceToNat] at ho25; rw [← Ny629.out] at ho25)); have n0_ := Aside0.mk (Kd.R_lower ho25 (below_size bl)); have n1_ := Aside0.mk (below_step bl hb); clear HB; have HO631 := n0_; have HB := n1_; clear n0_ n1_; clear hb ho25)); try go_wp2_with (first | ((with_reducible refine gate_dst (N := 52) rfl ?_); refine Kd.R_lit (Kd.int .i64) _ 2 ?hg (N := 52) ?hd (xs := ([rd l1 0, ji12] : List Int)) (inner := [.int .i64 (rd l1 0), .int .i64 ji12]) (ok := fun _ => True) (okp := fun _ => True) ?hr ?hp (fun _ hk => hk) trivial (Below.refl _ _) (Nat.le_refl _) (by simp) ?_; (case hd => rfl); (case hg => rfl); (case hr => first | (go_simp; done) | (go_simp; rfl)); (case hp => exact (Reps.one (show Kd.M (Kd.int .i64) _ _ _ (rd l1 0) [.int .i64 (rd l1 0)] from rfl) (Reps.one (show Kd.M (Kd.int .i64) _ _ _ ji12 [.int .i64 ji12] from rfl) (Reps.none _ _)))); intro v630 w24 ho25 hb hg_ hnew_; clear hg_ hnew_; (first | rw [← Ny629.out] at ho25 | (simp only [Int.reduceToNat] at ho25; rw [← Ny629.out] at ho25)); have n0_ := Aside0.mk (Kd.R_lower ho25 (below_size bl)); have n1_ := Aside0.mk (below_step bl hb); clear HB; have HO631 := n0_; have HB := n1_; clear n0_ n1_; clear hb ho25)))
       go_ret
       exact ⟨_, by first | rfl | (simp [errW_none, errW_some] <;> rfl) | (simp only [← hji12]; first | rfl | (simp [errW_none, errW_some] <;> rfl)) | (simp [*, errW_none, errW_some] <;> rfl), by (with_reducible repeat (first | apply Kd.R_alloc | apply Kd.R_drewN | apply Kd.R_drew)); exact HO631.out, bl⟩
     ·
      rw [if_neg c13] at H
      exact absurd H (by simp)
    ·
     rw [if_neg c11] at H
     exact absurd H (by simp)
  ·
   rw [if_neg c7] at H
   exact absurd H (by simp)
 ·
  replace c6 := Bool.eq_false_iff.mpr c6
  subst c6
  rw [if_neg (show ¬ (false = true) by decide)] at H
  obtain ⟨y605, hy605⟩ : ∃ y_ : List Int, y_ = (([0, 0] : List Int)) := ⟨_, rfl⟩
  replace H : (some y605) = some r := by first | (rw [hy605]; with_reducible exact H) | (have H2_ := (Option.bind_some _ _).symm.trans H; rw [hy605]; with_reducible exact H2_) | (have H2_ := (Option.bind_some _ _).symm.trans H; with_reducible exact H2_) | with_reducible exact H | (rw [hy605]; exact H) | exact H
  have Ny605 := Aside0.mk hy605
  clear hy605
  obtain rfl := Option.some.inj H
  go_enter Tryd.func31, Tryd.ntmps31
  go_wp2_with (first | ((with_reducible refine gate_dst (N := 14) rfl ?_); refine Kd.R_lit (Kd.int .i64) _ 2 ?hg (N := 14) ?hd (xs := ([0, 0] : List Int)) (inner := [.int .i64 0, .int .i64 0]) (ok := fun _ => True) (okp := fun _ => True) ?hr ?hp (fun _ hk => hk) trivial (Below.refl _ _) (Nat.le_refl _) (by simp) ?_; (case hd => rfl); (case hg => rfl); (case hr => first | (go_simp; done) | (go_simp; rfl)); (case hp => exact (Reps.one (show Kd.M (Kd.int .i64) _ _ _ 0 [.int .i64 0] from rfl) (Reps.one (show Kd.M (Kd.int .i64) _ _ _ 0 [.int .i64 0] from rfl) (Reps.none _ _)))); intro v606 w26 ho27 hb hg_ hnew_; clear hg_ hnew_; (first | rw [← Ny605.out] at ho27 | (simp only [Int.reduceToNat] at ho27; rw [← Ny605.out] at ho27)); have n0_ := Aside0.mk (Kd.R_lower ho27 (below_size bl)); have n1_ := Aside0.mk (below_step bl hb); clear HB; have HO607 := n0_; have HB := n1_; clear n0_ n1_; clear hb ho27))
  repeat (go_quiet (first | ((with_reducible refine gate_dst (N := 14) rfl ?_); refine Kd.R_lit (Kd.int .i64) _ 2 ?hg (N := 14) ?hd (xs := ([0, 0] : List Int)) (inner := [.int .i64 0, .int .i64 0]) (ok := fun _ => True) (okp := fun _ => True) ?hr ?hp (fun _ hk => hk) trivial (Below.refl _ _) (Nat.le_refl _) (by simp) ?_; (case hd => rfl); (case hg => rfl); (case hr => first | (go_simp; done) | (go_simp; rfl)); (case hp => exact (Reps.one (show Kd.M (Kd.int .i64) _ _ _ 0 [.int .i64 0] from rfl) (Reps.one (show Kd.M (Kd.int .i64) _ _ _ 0 [.int .i64 0] from rfl) (Reps.none _ _)))); intro v606 w26 ho27 hb hg_ hnew_; clear hg_ hnew_; (first | rw [← Ny605.out] at ho27 | (simp only [Int.reduceToNat] at ho27; rw [← Ny605.out] at ho27)); have n0_ := Aside0.mk (Kd.R_lower ho27 (below_size bl)); have n1_ := Aside0.mk (below_step bl hb); clear HB; have HO607 := n0_; have HB := n1_; clear n0_ n1_; clear hb ho27)); try go_wp2_with (first | ((with_reducible refine gate_dst (N := 14) rfl ?_); refine Kd.R_lit (Kd.int .i64) _ 2 ?hg (N := 14) ?hd (xs := ([0, 0] : List Int)) (inner := [.int .i64 0, .int .i64 0]) (ok := fun _ => True) (okp := fun _ => True) ?hr ?hp (fun _ hk => hk) trivial (Below.refl _ _) (Nat.le_refl _) (by simp) ?_; (case hd => rfl); (case hg => rfl); (case hr => first | (go_simp; done) | (go_simp; rfl)); (case hp => exact (Reps.one (show Kd.M (Kd.int .i64) _ _ _ 0 [.int .i64 0] from rfl) (Reps.one (show Kd.M (Kd.int .i64) _ _ _ 0 [.int .i64 0] from rfl) (Reps.none _ _)))); intro v606 w26 ho27 hb hg_ hnew_; clear hg_ hnew_; (first | rw [← Ny605.out] at ho27 | (simp only [Int.reduceToNat] at ho27; rw [← Ny605.out] at ho27)); have n0_ := Aside0.mk (Kd.R_lower ho27 (below_size bl)); have n1_ := Aside0.mk (below_step bl hb); clear HB; have HO607 := n0_; have HB := n1_; clear n0_ n1_; clear hb ho27)))
  go_ret
  exact ⟨_, by first | rfl | (simp [errW_none, errW_some] <;> rfl) | (simp [*, errW_none, errW_some] <;> rfl), by (with_reducible repeat (first | apply Kd.R_alloc | apply Kd.R_drewN | apply Kd.R_drew)); exact HO607.out, bl⟩

/-! ### plenumref21_Duration: function 21 -/
def plenumref21_Duration.l0 : Nat → List Int → Int → List Int → Int → Option (Int)
 | 0, _, _, _, _ => none
 | k + 1, x0, x1, x5, x6 => if 0 < (x5.length : Int) then (if 0 < (x0.length : Int) then (if (rd x5 0) < (rd x0 0) then ((plenumref21_Steps.f x0 x5 true true x1).bind fun t712 => (plenumref21_Duration.l0 k x0 x1 t712 (wrap64 (x6 + 1)))) else (some x6)) else (none)) else (none)
def plenumref21_Duration.f (k : Nat) (l0 : List Int) (a1 : Int) : Option (Int) := plenumref21_Duration.l0 k l0 a1 (([0, 0] : List Int)) 0
theorem plenumref21_Duration.mono_l : ∀ k, (∀ y0 y1 y2 y3, LeO (plenumref21_Duration.l0 k y0 y1 y2 y3) (plenumref21_Duration.l0 (k + 1) y0 y1 y2 y3))
 | 0 => fun _ _ _ _ r h => by simp [plenumref21_Duration.l0] at h
 | k + 1 => by
  have ih0 := plenumref21_Duration.mono_l k
  ·
   intro y0 y1 y2 y3
   unfold plenumref21_Duration.l0
   repeat' first
   | (with_reducible exact ih0 _ _ _ _)
   | (with_reducible exact LeO.refl _)
   | (with_reducible exact LeO.none _)
   | (with_reducible refine LeO.ite ?_ ?_)
   | (with_reducible refine LeO.bind ?_ (fun _ => ?_))
   | exact ih0 _ _ _ _
   | exact LeO.none _
   | refine LeO.ite ?_ ?_
   | refine LeO.bind ?_ (fun _ => ?_)
theorem plenumref21_Duration.mono : ∀ a0 a1 k, LeO (plenumref21_Duration.f k a0 a1) (plenumref21_Duration.f (k + 1) a0 a1) := by
 intro a0 a1 k
 have ih0 := plenumref21_Duration.mono_l k
 unfold plenumref21_Duration.f
 repeat' first
   | (with_reducible exact ih0 _ _ _ _)
   | (with_reducible exact LeO.refl _)
   | (with_reducible exact LeO.none _)
   | (with_reducible refine LeO.ite ?_ ?_)
   | (with_reducible refine LeO.bind ?_ (fun _ => ?_))
   | exact ih0 _ _ _ _
   | exact LeO.none _
   | refine LeO.ite ?_ ?_
   | refine LeO.bind ?_ (fun _ => ?_)
set_option maxHeartbeats 8000000 in
set_option maxRecDepth 100000 in
theorem plenumref21_Duration.calls (k : Nat) (A0 : Option Addr) (c0 : Nat) (l0 : List Int) (a1 : Int) (r : Int) (w : World) (hr0 : Kd.C (Kd.int .i64) w A0 l0.length l0) (hc0 : l0.length ≤ c0) (h : plenumref21_Duration.f k l0 a1 = some r) :
  Calls Tryd.prog 21 #[.slice A0 l0.length c0, .int .i64 a1] w fun e w' => e = .returned (.int .i64 r) ∧ Below w.heap.size w w' := by
 have HR0 := Aside0.mk hr0
 have HC0 := Aside0.mk hc0
 clear hr0 hc0
 have HB := Aside0.mk (Below.refl w.heap.size w)
 have H : (plenumref21_Duration.l0 k l0 a1 (([0, 0] : List Int)) 0) = some r := h
 clear h
 obtain ⟨y707, hy707⟩ : ∃ y_ : List Int, y_ = (([0, 0] : List Int)) := ⟨_, rfl⟩
 replace H : (plenumref21_Duration.l0 k l0 a1 y707 0) = some r := by first | (rw [hy707]; with_reducible exact H) | (have H2_ := (Option.bind_some _ _).symm.trans H; rw [hy707]; with_reducible exact H2_) | (have H2_ := (Option.bind_some _ _).symm.trans H; with_reducible exact H2_) | with_reducible exact H | (rw [hy707]; exact H) | exact H
 have Ny707 := Aside0.mk hy707
 clear hy707
 have H' := Aside0.mk H
 clear H
 go_enter Tryd.func21, Tryd.ntmps21
 go_wp2_with (first | ((with_reducible refine gate_dst (N := 7) rfl ?_); refine Kd.R_lit (Kd.int .i64) _ 2 ?hg (N := 7) ?hd (xs := ([0, 0] : List Int)) (inner := [.int .i64 0, .int .i64 0]) (ok := fun _ => True) (okp := fun _ => True) ?hr ?hp (fun _ hk => hk) trivial (Below.refl _ _) (Nat.le_refl _) (by simp) ?_; (case hd => rfl); (case hg => rfl); (case hr => first | (go_simp; done) | (go_simp; rfl)); (case hp => exact (Reps.one (show Kd.M (Kd.int .i64) _ _ _ 0 [.int .i64 0] from rfl) (Reps.one (show Kd.M (Kd.int .i64) _ _ _ 0 [.int .i64 0] from rfl) (Reps.none _ _)))); intro v708 w3 ho4 hb hg_ hnew_; clear hg_ hnew_; (first | rw [← Ny707.out] at ho4 | (simp only [Int.reduceToNat] at ho4; rw [← Ny707.out] at ho4)); have n0_ := Aside0.mk (Kd.R_lower ho4 (below_size bl)); have n1_ := Aside0.mk (below_step bl hb); clear HB; have HO709 := n0_; have HB := n1_; clear n0_ n1_; clear hb ho4))
 repeat (go_quiet (first | ((with_reducible refine gate_dst (N := 7) rfl ?_); refine Kd.R_lit (Kd.int .i64) _ 2 ?hg (N := 7) ?hd (xs := ([0, 0] : List Int)) (inner := [.int .i64 0, .int .i64 0]) (ok := fun _ => True) (okp := fun _ => True) ?hr ?hp (fun _ hk => hk) trivial (Below.refl _ _) (Nat.le_refl _) (by simp) ?_; (case hd => rfl); (case hg => rfl); (case hr => first | (go_simp; done) | (go_simp; rfl)); (case hp => exact (Reps.one (show Kd.M (Kd.int .i64) _ _ _ 0 [.int .i64 0] from rfl) (Reps.one (show Kd.M (Kd.int .i64) _ _ _ 0 [.int .i64 0] from rfl) (Reps.none _ _)))); intro v708 w3 ho4 hb hg_ hnew_; clear hg_ hnew_; (first | rw [← Ny707.out] at ho4 | (simp only [Int.reduceToNat] at ho4; rw [← Ny707.out] at ho4)); have n0_ := Aside0.mk (Kd.R_lower ho4 (below_size bl)); have n1_ := Aside0.mk (below_step bl hb); clear HB; have HO709 := n0_; have HB := n1_; clear n0_ n1_; clear hb ho4)); try go_wp2_with (first | ((with_reducible refine gate_dst (N := 7) rfl ?_); refine Kd.R_lit (Kd.int .i64) _ 2 ?hg (N := 7) ?hd (xs := ([0, 0] : List Int)) (inner := [.int .i64 0, .int .i64 0]) (ok := fun _ => True) (okp := fun _ => True) ?hr ?hp (fun _ hk => hk) trivial (Below.refl _ _) (Nat.le_refl _) (by simp) ?_; (case hd => rfl); (case hg => rfl); (case hr => first | (go_simp; done) | (go_simp; rfl)); (case hp => exact (Reps.one (show Kd.M (Kd.int .i64) _ _ _ 0 [.int .i64 0] from rfl) (Reps.one (show Kd.M (Kd.int .i64) _ _ _ 0 [.int .i64 0] from rfl) (Reps.none _ _)))); intro v708 w3 ho4 hb hg_ hnew_; clear hg_ hnew_; (first | rw [← Ny707.out] at ho4 | (simp only [Int.reduceToNat] at ho4; rw [← Ny707.out] at ho4)); have n0_ := Aside0.mk (Kd.R_lower ho4 (below_size bl)); have n1_ := Aside0.mk (below_step bl hb); clear HB; have HO709 := n0_; have HB := n1_; clear n0_ n1_; clear hb ho4)))
 go_loopg [5, 6] k (fun kq v5 v6 w' => ∃ (x5_1 : List Int) (x6_1 : Int), v6 = .int .i64 x6_1 ∧ Aside0 (plenumref21_Duration.l0 kq l0 a1 x5_1 x6_1 = some r) ∧ Aside0 (kq ≤ k) ∧ Aside0 (Kd.R (Kd.int .i64) 2 w' w.heap.size (fun _ => True) v5 x5_1) ∧ Aside0 (Below w.heap.size w w'))
 case atStart => exact ⟨(y707), (0), (by first | rfl | (simp; done) | (simp [*]; done)), H', ⟨Nat.le_refl _⟩, ⟨by (with_reducible repeat (first | apply Kd.R_alloc | apply Kd.R_drewN | apply Kd.R_drew)); exact HO709.out⟩, ⟨bl⟩⟩
 case round =>
  clear H'
  try clear c2
  try clear p2
  obtain ⟨x5_1, x6_1, rfl, HA, HK1, HO_5, HB⟩ := hrel
  cases gk with
  | zero => exact absurd HA.out (by simp [plenumref21_Duration.l0])
  | succ k1 =>
   have H := HA.out
   clear HA
   simp only [plenumref21_Duration.l0] at H
   by_cases c5 : 0 < (x5_1.length : Int)
   ·
    rw [if_pos c5] at H
    have c5b0 : decide (0 < (x5_1.length : Int)) = true := decide_eq_true c5
    have c5b1 : decide (0 < x5_1.length) = true := decide_eq_true (by omega)
    clear c5
    by_cases c6 : 0 < (l0.length : Int)
    ·
     rw [if_pos c6] at H
     have c6b0 : decide (0 < (l0.length : Int)) = true := decide_eq_true c6
     have c6b1 : decide (0 < l0.length) = true := decide_eq_true (by omega)
     clear c6
     by_cases c7 : (rd x5_1 0) < (rd l0 0)
     ·
      rw [if_pos c7] at H
      have c7b0 : decide ((rd x5_1 0) < (rd l0 0)) = true := decide_eq_true c7
      clear c7
      replace H := Option.bind_eq_some_iff.mp H
      obtain ⟨t712, A80, H⟩ := H
      replace H : (plenumref21_Duration.l0 k1 l0 a1 t712 (wrap64 (x6_1 + 1))) = some r := H
      have A8 := Aside0.mk A80
      clear A80
      have H' := Aside0.mk H
      clear H
      obtain ⟨Ao9, co9, eo9⟩ := Kd.R_slice HO_5.out
      subst eo9
      have p710 : 0 ≤ (0 : Int) := (by omega)
      have q710 : 0 < (x5_1.length : Int) := ode
      obtain ⟨ad710, e710, hx710_0⟩ := Kd.at_int (Kd.R_reads' HO_5.out).2.2 0 p710 q710
      cases e710
      have qi710 : (0 < x5_1.length) = True := eq_true (by omega)
      (try rw [show ((0 : Int)).toNat = 0 from rfl] at hx710_0)
      (try rw [Addr.add_zero'] at hx710_0)
      replace p710 := eq_true p710
      replace q710 := eq_true q710
      have p711 : 0 ≤ (0 : Int) := (by omega)
      have q711 : 0 < (l0.length : Int) := ode
      obtain ⟨ad711, e711, hx711_0⟩ := Kd.at_int HR0.out 0 p711 q711
      cases e711
      have qi711 : (0 < l0.length) = True := eq_true (by omega)
      (try rw [show ((0 : Int)).toNat = 0 from rfl] at hx711_0)
      (try rw [Addr.add_zero'] at hx711_0)
      replace hx711_0 := (HB.out.cell (World.block_lt_of_cell? w _ hx711_0)).trans hx711_0
      replace p711 := eq_true p711
      replace q711 := eq_true q711
      go_wp2_with (first | (go_at_call 31; (with_reducible refine (plenumref21_Steps.calls _ _ l0 _ _ x5_1 true true a1 t712 _ ?side1 ?side2 ?side3 ?side4 A8.out).mono ?_); (case side1 => repeat (first | exact (Kd.C_below HR0.out HB.out) | (with_reducible refine Kd.C_alloc ?_ _) | (with_reducible refine Kd.C_drewN ?_ _) | (with_reducible refine Kd.C_drew ?_))); (case side2 => exact HC0.out); (case side3 => repeat (first | exact (Kd.R_reads' HO_5.out).2.2 | (with_reducible refine Kd.C_alloc ?_ _) | (with_reducible refine Kd.C_drewN ?_ _) | (with_reducible refine Kd.C_drew ?_))); (case side4 => exact (Kd.R_reads' HO_5.out).2.1); rintro e w10 ⟨v713, rfl, ho0, hb⟩; have n0_ := Aside0.mk (Kd.R_elder' (by (with_reducible repeat (first | apply Kd.R_alloc | apply Kd.R_drewN | apply Kd.R_drew)); exact HO_5.out) (Kd.R_base ho0) hb); have n1_ := Aside0.mk (Kd.R_lower (Kd.R_new' ho0 (Kd.R_lt (by (with_reducible repeat (first | apply Kd.R_alloc | apply Kd.R_drewN | apply Kd.R_drew)); exact HO_5.out))) (below_size bl)); have n2_ := Aside0.mk (below_step bl hb); clear HO_5; clear HB; have HO_5 := n0_; have HO714 := n1_; have HB := n2_; clear n0_ n1_ n2_; (try clear hb); (try clear hb2); (try clear hk); (try clear hi); (try clear ho0)))
      repeat (go_quiet (first | (go_at_call 31; (with_reducible refine (plenumref21_Steps.calls _ _ l0 _ _ x5_1 true true a1 t712 _ ?side1 ?side2 ?side3 ?side4 A8.out).mono ?_); (case side1 => repeat (first | exact (Kd.C_below HR0.out HB.out) | (with_reducible refine Kd.C_alloc ?_ _) | (with_reducible refine Kd.C_drewN ?_ _) | (with_reducible refine Kd.C_drew ?_))); (case side2 => exact HC0.out); (case side3 => repeat (first | exact (Kd.R_reads' HO_5.out).2.2 | (with_reducible refine Kd.C_alloc ?_ _) | (with_reducible refine Kd.C_drewN ?_ _) | (with_reducible refine Kd.C_drew ?_))); (case side4 => exact (Kd.R_reads' HO_5.out).2.1); rintro e w10 ⟨v713, rfl, ho0, hb⟩; have n0_ := Aside0.mk (Kd.R_elder' (by (with_reducible repeat (first | apply Kd.R_alloc | apply Kd.R_drewN | apply Kd.R_drew)); exact HO_5.out) (Kd.R_base ho0) hb); have n1_ := Aside0.mk (Kd.R_lower (Kd.R_new' ho0 (Kd.R_lt (by (with_reducible repeat (first | apply Kd.R_alloc | apply Kd.R_drewN | apply Kd.R_drew)); exact HO_5.out))) (below_size bl)); have n2_ := Aside0.mk (below_step bl hb); clear HO_5; clear HB; have HO_5 := n0_; have HO714 := n1_; have HB := n2_; clear n0_ n1_ n2_; (try clear hb); (try clear hb2); (try clear hk); (try clear hi); (try clear ho0))); try go_wp2_with (first | (go_at_call 31; (with_reducible refine (plenumref21_Steps.calls _ _ l0 _ _ x5_1 true true a1 t712 _ ?side1 ?side2 ?side3 ?side4 A8.out).mono ?_); (case side1 => repeat (first | exact (Kd.C_below HR0.out HB.out) | (with_reducible refine Kd.C_alloc ?_ _) | (with_reducible refine Kd.C_drewN ?_ _) | (with_reducible refine Kd.C_drew ?_))); (case side2 => exact HC0.out); (case side3 => repeat (first | exact (Kd.R_reads' HO_5.out).2.2 | (with_reducible refine Kd.C_alloc ?_ _) | (with_reducible refine Kd.C_drewN ?_ _) | (with_reducible refine Kd.C_drew ?_))); (case side4 => exact (Kd.R_reads' HO_5.out).2.1); rintro e w10 ⟨v713, rfl, ho0, hb⟩; have n0_ := Aside0.mk (Kd.R_elder' (by (with_reducible repeat (first | apply Kd.R_alloc | apply Kd.R_drewN | apply Kd.R_drew)); exact HO_5.out) (Kd.R_base ho0) hb); have n1_ := Aside0.mk (Kd.R_lower (Kd.R_new' ho0 (Kd.R_lt (by (with_reducible repeat (first | apply Kd.R_alloc | apply Kd.R_drewN | apply Kd.R_drew)); exact HO_5.out))) (below_size bl)); have n2_ := Aside0.mk (below_step bl hb); clear HO_5; clear HB; have HO_5 := n0_; have HO714 := n1_; have HB := n2_; clear n0_ n1_ n2_; (try clear hb); (try clear hb2); (try clear hk); (try clear hi); (try clear ho0))))
      go_roundg k1
      case measure => have := HK1.out; omega
      case rel => exact ⟨(t712), (wrap64 (x6_1 + 1)), (by first | rfl | (simp; done) | (simp [*]; done)), H', ⟨by have := HK1.out; omega⟩, ⟨by (with_reducible repeat (first | apply Kd.R_alloc | apply Kd.R_drewN | apply Kd.R_drew)); exact Kd.R_mono HO714.out (fun _ hk => trivial)⟩, ⟨bl⟩⟩
     ·
      rw [if_neg c7] at H
      have c7b0 : decide ((rd x5_1 0) < (rd l0 0)) = false := decide_eq_false c7
      clear c7
      obtain rfl := Option.some.inj H
      obtain ⟨Ao11, co11, eo11⟩ := Kd.R_slice HO_5.out
      subst eo11
      have p710 : 0 ≤ (0 : Int) := (by omega)
      have q710 : 0 < (x5_1.length : Int) := ode
      obtain ⟨ad710, e710, hx710_0⟩ := Kd.at_int (Kd.R_reads' HO_5.out).2.2 0 p710 q710
      cases e710
      have qi710 : (0 < x5_1.length) = True := eq_true (by omega)
      (try rw [show ((0 : Int)).toNat = 0 from rfl] at hx710_0)
      (try rw [Addr.add_zero'] at hx710_0)
      replace p710 := eq_true p710
      replace q710 := eq_true q710
      have p711 : 0 ≤ (0 : Int) := (by omega)
      have q711 : 0 < (l0.length : Int) := ode
      obtain ⟨ad711, e711, hx711_0⟩ := Kd.at_int HR0.out 0 p711 q711
      cases e711
      have qi711 : (0 < l0.length) = True := eq_true (by omega)
      (try rw [show ((0 : Int)).toNat = 0 from rfl] at hx711_0)
      (try rw [Addr.add_zero'] at hx711_0)
      replace hx711_0 := (HB.out.cell (World.block_lt_of_cell? w _ hx711_0)).trans hx711_0
      replace p711 := eq_true p711
      replace q711 := eq_true q711
      go_wp2
      repeat (go_quiet (fail); try go_wp2)
      go_ret
      exact ⟨by first | rfl | (simp [errW_none, errW_some] <;> rfl) | (simp [*, errW_none, errW_some] <;> rfl), bl⟩
    ·
     rw [if_neg c6] at H
     exact absurd H (by simp)
   ·
    rw [if_neg c5] at H
    exact absurd H (by simp)

end Go.Proofs.YtcpncmjjbfbdhaaDoor.R
