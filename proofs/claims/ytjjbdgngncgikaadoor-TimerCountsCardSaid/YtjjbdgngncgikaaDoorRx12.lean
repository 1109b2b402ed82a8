-- Written by this claim's own program out of the translation; not trusted: Lean checks it.
import Derived.Test.YtjjbdgngncgikaaDoorRx0
namespace Go.Proofs.YtjjbdgngncgikaaDoor.R
open Go.RowKit Go.Proofs.YtjjbdgngncgikaaDoorW.PrintWords Go.Proofs.YtjjbdgngncgikaaDoorW.PrintLast Go.Proofs.YtjjbdgngncgikaaDoorW.PrintMore
attribute [local go_sem] max2_int min2_int max_two min_two max_three min_three max_four min_four   -- for this text's walks alone
set_option linter.unusedVariables false
set_option linter.unusedSimpArgs false

/-! ### timer_offdelay: function 25 -/
def timer_offdelay.f (a0 : Int) (l1 : List Int) (a2 : Bool) (a3 : Int) : Option (Bool × List Int) := if a2 = true then (if 0 < (l1.length : Int) then (some (true, (l1.set (0 : Int).toNat (-1)))) else (none)) else (if 0 < (l1.length : Int) then (if (rd l1 0) = 0 then (some (false, l1)) else (if (rd l1 0) = (-1) then (if 0 < a0 then (some (true, (l1.set (0 : Int).toNat (0 + 1)))) else (some (false, (l1.set (0 : Int).toNat 0)))) else (if (wrap64 ((wrap64 ((rd l1 0) - 1)) + a3)) < a0 then (some (true, (l1.set (0 : Int).toNat (wrap64 ((wrap64 ((wrap64 ((rd l1 0) - 1)) + a3)) + 1))))) else (some (false, (l1.set (0 : Int).toNat 0)))))) else (none))
set_option maxHeartbeats 8000000 in
set_option maxRecDepth 100000 in
theorem timer_offdelay.calls (a0 : Int) (P1_ : Nat → Prop) (u9000_ : Value) (l1 : List Int) (a2 : Bool) (a3 : Int) (r1 : Bool) (r2 : List Int) (w0 w : World) (hB : Below w0.heap.size w0 w) (ho1 : Kd.R (Kd.int .i64) 2 w w0.heap.size P1_ u9000_ l1) (h : timer_offdelay.f a0 l1 a2 a3 = some (r1, r2)) :
  Calls Tryd.prog 25 #[.int .i64 a0, u9000_, .bool a2, .int .i64 a3] w fun e w' => e = .returned (.bool r1) ∧ Kd.R (Kd.int .i64) 2 w' w0.heap.size (fun k_ => (P1_ k_ ∨ w.heap.size ≤ k_)) u9000_ r2 ∧ Below w0.heap.size w0 w' ∧ Kept w w' (fun k_ => P1_ k_) := by
 have HO1 := Aside0.mk (show Kd.R (Kd.int .i64) 2 w w0.heap.size (fun k_ => (P1_ k_ ∨ w.heap.size ≤ k_)) u9000_ l1 from Kd.R_mono ho1 (fun k_ hk => (.inl hk)))
 have HK := Aside0.mk (Kept.refl w (fun k_ => P1_ k_))
 have HW0 := Aside0.mk hB.size
 have HB := Aside0.mk hB
 clear hB
 have H : (if a2 = true then (if 0 < (l1.length : Int) then (some (true, (l1.set (0 : Int).toNat (-1)))) else (none)) else (if 0 < (l1.length : Int) then (if (rd l1 0) = 0 then (some (false, l1)) else (if (rd l1 0) = (-1) then (if 0 < a0 then (some (true, (l1.set (0 : Int).toNat (0 + 1)))) else (some (false, (l1.set (0 : Int).toNat 0)))) else (if (wrap64 ((wrap64 ((rd l1 0) - 1)) + a3)) < a0 then (some (true, (l1.set (0 : Int).toNat (wrap64 ((wrap64 ((wrap64 ((rd l1 0) - 1)) + a3)) + 1))))) else (some (false, (l1.set (0 : Int).toNat 0)))))) else (none))) = some (r1, r2) := h
 clear h
 by_cases c5 : a2 = true
 ·
  subst c5
  rw [if_pos rfl] at H
  by_cases c6 : 0 < (l1.length : Int)
  rotate_left
  ·
   rw [if_neg c6] at H
   exact absurd H (by simp)
  rw [if_pos c6] at H
  have c6b0 : decide (0 < (l1.length : Int)) = true := decide_eq_true c6
  have c6b1 : decide (0 < l1.length) = true := decide_eq_true (by omega)
  clear c6
  obtain ⟨y220, hy220⟩ : ∃ y_ : List Int, y_ = (l1.set (0 : Int).toNat (-1)) := ⟨_, rfl⟩
  replace H : (some (true, y220)) = some (r1, r2) := by first | (rw [hy220]; with_reducible exact H) | (have H2_ := (Option.bind_some _ _).symm.trans H; rw [hy220]; with_reducible exact H2_) | (have H2_ := (Option.bind_some _ _).symm.trans H; with_reducible exact H2_) | with_reducible exact H | (rw [hy220]; exact H) | exact H
  have Ny220 := Aside0.mk hy220
  clear hy220
  simp only [Option.some.injEq, Prod.mk.injEq] at H
  obtain ⟨rfl, rfl⟩ := H
  have p7 : 0 ≤ (0 : Int) := (by omega)
  have q7 : (0 : Int) < ((l1.length : Int) : Int) := ode
  have qi7 : (0 < l1.length) = True := eq_true (by omega)
  obtain ⟨go7, co7, eo7, gb7, gl7, cl7, HG7⟩ := Kd.R_form HO1.out (by omega)
  (first | cases eo7 | (injection eo7 with ea_ en_ ec_; (first | subst ea_ | (injection ea_ with ea_; subst ea_)); subst ec_; clear en_))
  have GB7 := Aside0.mk gb7
  have GG7 := Aside0.mk HG7
  clear gb7 gl7 HG7
  have HMgo7 := Aside0.mk (show (P1_ go7 ∨ w.heap.size ≤ go7) from (HO1.out.1 _ rfl))
  obtain ⟨hx7_0, hf7_0⟩ := Kd.R_celln 0 HO1.out (0 : Int) p7 q7
  (try rw [t0] at hx7_0)
  (try simp only [Nat.reduceMul, Nat.zero_mul, Nat.zero_add, Nat.reduceAdd] at hx7_0)
  (try rw [t0] at hf7_0)
  (try simp only [Nat.reduceMul, Nat.zero_mul, Nat.zero_add, Nat.reduceAdd] at hf7_0)
  replace p7 := eq_true p7
  replace q7 := eq_true q7
  have HP8 := Kd.R_putg HO1.out (0 : Int) (-1)
  go_enter Tryd.func25, Tryd.ntmps25
  go_wp2_with (first | ((with_reducible refine gate_store (t := 2) (p := 12) rfl ?_); refine store_event (t := 2) (p := 12) (v := ?vo_w9) (w1 := (w.setCell ⟨go7, (0 : Int).toNat, none⟩ (.int .i64 (-1)))) ?hg ?ho ?hn ?hr ?_; (case ho => rfl); (case hg => rfl); (case hn => rfl); (case hr => first | (go_simp; done) | (go_simp; rfl)); intro w9 hw; have hg : w.grownBy w9 (some go7) := (by rw [hw]; exact HP8.2); have hp_ : Kd.R (Kd.int .i64) 2 w9 w0.heap.size (fun k_ => (P1_ k_ ∨ w.heap.size ≤ k_)) (.slice (some ⟨go7, 0, none⟩) l1.length co7) y220 := (by rw [hw, Ny220.out]; exact HP8.1); clear HP8; have n0_ := Aside0.mk (hp_); have n1_ := Aside0.mk ((by rw [hw]; exact below_set (HB.out) GB7.out : Below w0.heap.size w0 w9)); have n2_ := Aside0.mk (Kept.of_grown (S := (fun k_ => P1_ k_)) hg kk (fun k_ e_ => (HO1.out.1 k_ e_))); revert n0_ n1_ n2_; clear HO1 HB HK; intro HO1 HB HK; clear hg hw hp_))
  go_ret
  exact ⟨by first | rfl | (simp [errW_none, errW_some] <;> rfl) | (simp [*, errW_none, errW_some] <;> rfl), rr HO1.out, bl, kk⟩
 ·
  replace c5 := Bool.eq_false_iff.mpr c5
  subst c5
  rw [if_neg (show ¬ (false = true) by decide)] at H
  by_cases c10 : 0 < (l1.length : Int)
  ·
   rw [if_pos c10] at H
   have c10b0 : decide (0 < (l1.length : Int)) = true := decide_eq_true c10
   have c10b1 : decide (0 < l1.length) = true := decide_eq_true (by omega)
   clear c10
   by_cases c11 : (rd l1 0) = 0
   ·
    rw [if_pos c11] at H
    have c11b0 : ((rd l1 0) == 0) = true := beq_iff_eq.mpr c11
    have c11b1 : ((rd l1 0) != 0) = false := bne_eq_false_iff_eq.mpr c11
    clear c11
    simp only [Option.some.injEq, Prod.mk.injEq] at H
    obtain ⟨rfl, rfl⟩ := H
    obtain ⟨Ao12, co12, eo12⟩ := Kd.R_slice HO1.out
    subst eo12
    have p221 : 0 ≤ (0 : Int) := (by omega)
    have q221 : 0 < (l1.length : Int) := ode
    obtain ⟨ad221, e221, hx221_0⟩ := Kd.at_int (Kd.R_reads' HO1.out).2.2 0 p221 q221
    cases e221
    have qi221 : (0 < l1.length) = True := eq_true (by omega)
    (try rw [t0] at hx221_0)
    (try rw [Addr.add_zero'] at hx221_0)
    replace p221 := eq_true p221
    replace q221 := eq_true q221
    go_enter Tryd.func25, Tryd.ntmps25
    go_wp2
    go_ret
    exact ⟨by first | rfl | (simp [errW_none, errW_some] <;> rfl) | (simp [*, errW_none, errW_some] <;> rfl), rr HO1.out, bl, kk⟩
   rw [if_neg c11] at H
   have c11b0 : ((rd l1 0) == 0) = false := beq_eq_false_iff_ne.mpr c11
   have c11b1 : ((rd l1 0) != 0) = true := bne_iff_ne.mpr c11
   by_cases c13 : (rd l1 0) = (-1)
   ·
    rw [if_pos c13] at H
    have c13b0 : ((rd l1 0) == (-1)) = true := beq_iff_eq.mpr c13
    have c13b1 : ((rd l1 0) != (-1)) = false := bne_eq_false_iff_eq.mpr c13
    clear c13
    by_cases c14 : 0 < a0
    ·
     rw [if_pos c14] at H
     have c14b0 : decide (0 < a0) = true := decide_eq_true c14
     clear c14
     obtain ⟨y223, hy223⟩ : ∃ y_ : List Int, y_ = (l1.set (0 : Int).toNat (0 + 1)) := ⟨_, rfl⟩
     replace H : (some (true, y223)) = some (r1, r2) := by first | (rw [hy223]; with_reducible exact H) | (have H2_ := (Option.bind_some _ _).symm.trans H; rw [hy223]; with_reducible exact H2_) | (have H2_ := (Option.bind_some _ _).symm.trans H; with_reducible exact H2_) | with_reducible exact H | (rw [hy223]; exact H) | exact H
     have Ny223 := Aside0.mk hy223
     clear hy223
     simp only [Option.some.injEq, Prod.mk.injEq] at H
     obtain ⟨rfl, rfl⟩ := H
     obtain ⟨Ao16, co16, eo16⟩ := Kd.R_slice HO1.out
     subst eo16
     have p221 : 0 ≤ (0 : Int) := (by omega)
     have q221 : 0 < (l1.length : Int) := ode
     obtain ⟨ad221, e221, hx221_0⟩ := Kd.at_int (Kd.R_reads' HO1.out).2.2 0 p221 q221
     cases e221
     have qi221 : (0 < l1.length) = True := eq_true (by omega)
     (try rw [t0] at hx221_0)
     (try rw [Addr.add_zero'] at hx221_0)
     replace p221 := eq_true p221
     replace q221 := eq_true q221
     have p222 : 0 ≤ (0 : Int) := (by omega)
     have q222 : 0 < (l1.length : Int) := ode
     obtain ⟨ad222, e222, hx222_0⟩ := Kd.at_int (Kd.R_reads' HO1.out).2.2 0 p222 q222
     obtain rfl : ad221 = ad222 := (by injection e222)
     have qi222 : (0 < l1.length) = True := eq_true (by omega)
     (try rw [t0] at hx222_0)
     (try rw [Addr.add_zero'] at hx222_0)
     replace p222 := eq_true p222
     replace q222 := eq_true q222
     have p15 : 0 ≤ (0 : Int) := (by omega)
     have q15 : (0 : Int) < ((l1.length : Int) : Int) := ode
     have qi15 : (0 < l1.length) = True := eq_true (by omega)
     obtain ⟨go15, co15, eo15, gb15, gl15, cl15, HG15⟩ := Kd.R_form HO1.out (by omega)
     (first | cases eo15 | (injection eo15 with ea_ en_ ec_; (first | subst ea_ | (injection ea_ with ea_; subst ea_)); subst ec_; clear en_))
     have GB15 := Aside0.mk gb15
     have GG15 := Aside0.mk HG15
     clear gb15 gl15 HG15
     have HMgo15 := Aside0.mk (show (P1_ go15 ∨ w.heap.size ≤ go15) from (HO1.out.1 _ rfl))
     (first | simp only [add_plain] at hx221_0 | skip)
     (first | simp only [add_plain] at hx222_0 | skip)
     obtain ⟨hx15_0, hf15_0⟩ := Kd.R_celln 0 HO1.out (0 : Int) p15 q15
     (try rw [t0] at hx15_0)
     (try simp only [Nat.reduceMul, Nat.zero_mul, Nat.zero_add, Nat.reduceAdd] at hx15_0)
     (try rw [t0] at hf15_0)
     (try simp only [Nat.reduceMul, Nat.zero_mul, Nat.zero_add, Nat.reduceAdd] at hf15_0)
     replace p15 := eq_true p15
     replace q15 := eq_true q15
     have HP17 := Kd.R_putg HO1.out (0 : Int) (0 + 1)
     go_enter Tryd.func25, Tryd.ntmps25
     go_wp2_with (first | ((with_reducible refine gate_store (t := 2) (p := 33) rfl ?_); refine store_event (t := 2) (p := 33) (v := ?vo_w18) (w1 := (w.setCell ⟨go15, (0 : Int).toNat, none⟩ (.int .i64 (0 + 1)))) ?hg ?ho ?hn ?hr ?_; (case ho => rfl); (case hg => rfl); (case hn => rfl); (case hr => first | (go_simp; done) | (go_simp; rfl)); intro w18 hw; have hg : w.grownBy w18 (some go15) := (by rw [hw]; exact HP17.2); have hp_ : Kd.R (Kd.int .i64) 2 w18 w0.heap.size (fun k_ => (P1_ k_ ∨ w.heap.size ≤ k_)) (.slice (some ⟨go15, 0, none⟩) l1.length co16) y223 := (by rw [hw, Ny223.out]; exact HP17.1); clear HP17; have n0_ := Aside0.mk (hp_); have n1_ := Aside0.mk ((by rw [hw]; exact below_set (HB.out) GB15.out : Below w0.heap.size w0 w18)); have n2_ := Aside0.mk (Kept.of_grown (S := (fun k_ => P1_ k_)) hg kk (fun k_ e_ => (HO1.out.1 k_ e_))); revert n0_ n1_ n2_; clear HO1 HB HK; intro HO1 HB HK; clear hg hw hp_))
     go_ret
     exact ⟨by first | rfl | (simp [errW_none, errW_some] <;> rfl) | (simp [*, errW_none, errW_some] <;> rfl), rr HO1.out, bl, kk⟩
    rw [if_neg c14] at H
    have c14b0 : decide (0 < a0) = false := decide_eq_false c14
    clear c14
    obtain ⟨y224, hy224⟩ : ∃ y_ : List Int, y_ = (l1.set (0 : Int).toNat 0) := ⟨_, rfl⟩
    replace H : (some (false, y224)) = some (r1, r2) := by first | (rw [hy224]; with_reducible exact H) | (have H2_ := (Option.bind_some _ _).symm.trans H; rw [hy224]; with_reducible exact H2_) | (have H2_ := (Option.bind_some _ _).symm.trans H; with_reducible exact H2_) | with_reducible exact H | (rw [hy224]; exact H) | exact H
    have Ny224 := Aside0.mk hy224
    clear hy224
    simp only [Option.some.injEq, Prod.mk.injEq] at H
    obtain ⟨rfl, rfl⟩ := H
    obtain ⟨Ao20, co20, eo20⟩ := Kd.R_slice HO1.out
    subst eo20
    have p221 : 0 ≤ (0 : Int) := (by omega)
    have q221 : 0 < (l1.length : Int) := ode
    obtain ⟨ad221, e221, hx221_0⟩ := Kd.at_int (Kd.R_reads' HO1.out).2.2 0 p221 q221
    cases e221
    have qi221 : (0 < l1.length) = True := eq_true (by omega)
    (try rw [t0] at hx221_0)
    (try rw [Addr.add_zero'] at hx221_0)
    replace p221 := eq_true p221
    replace q221 := eq_true q221
    have p222 : 0 ≤ (0 : Int) := (by omega)
    have q222 : 0 < (l1.length : Int) := ode
    obtain ⟨ad222, e222, hx222_0⟩ := Kd.at_int (Kd.R_reads' HO1.out).2.2 0 p222 q222
    obtain rfl : ad221 = ad222 := (by injection e222)
    have qi222 : (0 < l1.length) = True := eq_true (by omega)
    (try rw [t0] at hx222_0)
    (try rw [Addr.add_zero'] at hx222_0)
    replace p222 := eq_true p222
    replace q222 := eq_true q222
    have p19 : 0 ≤ (0 : Int) := (by omega)
    have q19 : (0 : Int) < ((l1.length : Int) : Int) := ode
    have qi19 : (0 < l1.length) = True := eq_true (by omega)
    obtain ⟨go19, co19, eo19, gb19, gl19, cl19, HG19⟩ := Kd.R_form HO1.out (by omega)
    (first | cases eo19 | (injection eo19 with ea_ en_ ec_; (first | subst ea_ | (injection ea_ with ea_; subst ea_)); subst ec_; clear en_))
    have GB19 := Aside0.mk gb19
    have GG19 := Aside0.mk HG19
    clear gb19 gl19 HG19
    have HMgo19 := Aside0.mk (show (P1_ go19 ∨ w.heap.size ≤ go19) from (HO1.out.1 _ rfl))
    (first | simp only [add_plain] at hx221_0 | skip)
    (first | simp only [add_plain] at hx222_0 | skip)
    obtain ⟨hx19_0, hf19_0⟩ := Kd.R_celln 0 HO1.out (0 : Int) p19 q19
    (try rw [t0] at hx19_0)
    (try simp only [Nat.reduceMul, Nat.zero_mul, Nat.zero_add, Nat.reduceAdd] at hx19_0)
    (try rw [t0] at hf19_0)
    (try simp only [Nat.reduceMul, Nat.zero_mul, Nat.zero_add, Nat.reduceAdd] at hf19_0)
    replace p19 := eq_true p19
    replace q19 := eq_true q19
    have HP21 := Kd.R_putg HO1.out (0 : Int) 0
    go_enter Tryd.func25, Tryd.ntmps25
    go_wp2_with (first | ((with_reducible refine gate_store (t := 2) (p := 35) rfl ?_); refine store_event (t := 2) (p := 35) (v := ?vo_w22) (w1 := (w.setCell ⟨go19, (0 : Int).toNat, none⟩ (.int .i64 0))) ?hg ?ho ?hn ?hr ?_; (case ho => rfl); (case hg => rfl); (case hn => rfl); (case hr => first | (go_simp; done) | (go_simp; rfl)); intro w22 hw; have hg : w.grownBy w22 (some go19) := (by rw [hw]; exact HP21.2); have hp_ : Kd.R (Kd.int .i64) 2 w22 w0.heap.size (fun k_ => (P1_ k_ ∨ w.heap.size ≤ k_)) (.slice (some ⟨go19, 0, none⟩) l1.length co20) y224 := (by rw [hw, Ny224.out]; exact HP21.1); clear HP21; have n0_ := Aside0.mk (hp_); have n1_ := Aside0.mk ((by rw [hw]; exact below_set (HB.out) GB19.out : Below w0.heap.size w0 w22)); have n2_ := Aside0.mk (Kept.of_grown (S := (fun k_ => P1_ k_)) hg kk (fun k_ e_ => (HO1.out.1 k_ e_))); revert n0_ n1_ n2_; clear HO1 HB HK; intro HO1 HB HK; clear hg hw hp_))
    go_ret
    exact ⟨by first | rfl | (simp [errW_none, errW_some] <;> rfl) | (simp [*, errW_none, errW_some] <;> rfl), rr HO1.out, bl, kk⟩
   rw [if_neg c13] at H
   have c13b0 : ((rd l1 0) == (-1)) = false := beq_eq_false_iff_ne.mpr c13
   have c13b1 : ((rd l1 0) != (-1)) = true := bne_iff_ne.mpr c13
   by_cases c23 : (wrap64 ((wrap64 ((rd l1 0) - 1)) + a3)) < a0
   ·
    rw [if_pos c23] at H
    have c23b0 : decide ((wrap64 ((wrap64 ((rd l1 0) - 1)) + a3)) < a0) = true := decide_eq_true c23
    clear c23
    obtain ⟨y226, hy226⟩ : ∃ y_ : List Int, y_ = (l1.set (0 : Int).toNat (wrap64 ((wrap64 ((wrap64 ((rd l1 0) - 1)) + a3)) + 1))) := ⟨_, rfl⟩
    replace H : (some (true, y226)) = some (r1, r2) := by first | (rw [hy226]; with_reducible exact H) | (have H2_ := (Option.bind_some _ _).symm.trans H; rw [hy226]; with_reducible exact H2_) | (have H2_ := (Option.bind_some _ _).symm.trans H; with_reducible exact H2_) | with_reducible exact H | (rw [hy226]; exact H) | exact H
    have Ny226 := Aside0.mk hy226
    clear hy226
    simp only [Option.some.injEq, Prod.mk.injEq] at H
    obtain ⟨rfl, rfl⟩ := H
    obtain ⟨Ao25, co25, eo25⟩ := Kd.R_slice HO1.out
    subst eo25
    have p221 : 0 ≤ (0 : Int) := (by omega)
    have q221 : 0 < (l1.length : Int) := ode
    obtain ⟨ad221, e221, hx221_0⟩ := Kd.at_int (Kd.R_reads' HO1.out).2.2 0 p221 q221
    cases e221
    have qi221 : (0 < l1.length) = True := eq_true (by omega)
    (try rw [t0] at hx221_0)
    (try rw [Addr.add_zero'] at hx221_0)
    replace p221 := eq_true p221
    replace q221 := eq_true q221
    have p222 : 0 ≤ (0 : Int) := (by omega)
    have q222 : 0 < (l1.length : Int) := ode
    obtain ⟨ad222, e222, hx222_0⟩ := Kd.at_int (Kd.R_reads' HO1.out).2.2 0 p222 q222
    obtain rfl : ad221 = ad222 := (by injection e222)
    have qi222 : (0 < l1.length) = True := eq_true (by omega)
    (try rw [t0] at hx222_0)
    (try rw [Addr.add_zero'] at hx222_0)
    replace p222 := eq_true p222
    replace q222 := eq_true q222
    have p225 : 0 ≤ (0 : Int) := (by omega)
    have q225 : 0 < (l1.length : Int) := ode
    obtain ⟨ad225, e225, hx225_0⟩ := Kd.at_int (Kd.R_reads' HO1.out).2.2 0 p225 q225
    obtain rfl : ad221 = ad225 := (by injection e225)
    have qi225 : (0 < l1.length) = True := eq_true (by omega)
    (try rw [t0] at hx225_0)
    (try rw [Addr.add_zero'] at hx225_0)
    replace p225 := eq_true p225
    replace q225 := eq_true q225
    have p24 : 0 ≤ (0 : Int) := (by omega)
    have q24 : (0 : Int) < ((l1.length : Int) : Int) := ode
    have qi24 : (0 < l1.length) = True := eq_true (by omega)
    obtain ⟨go24, co24, eo24, gb24, gl24, cl24, HG24⟩ := Kd.R_form HO1.out (by omega)
    (first | cases eo24 | (injection eo24 with ea_ en_ ec_; (first | subst ea_ | (injection ea_ with ea_; subst ea_)); subst ec_; clear en_))
    have GB24 := Aside0.mk gb24
    have GG24 := Aside0.mk HG24
    clear gb24 gl24 HG24
    have HMgo24 := Aside0.mk (show (P1_ go24 ∨ w.heap.size ≤ go24) from (HO1.out.1 _ rfl))
    (first | simp only [add_plain] at hx221_0 | skip)
    (first | simp only [add_plain] at hx222_0 | skip)
    (first | simp only [add_plain] at hx225_0 | skip)
    obtain ⟨hx24_0, hf24_0⟩ := Kd.R_celln 0 HO1.out (0 : Int) p24 q24
    (try rw [t0] at hx24_0)
    (try simp only [Nat.reduceMul, Nat.zero_mul, Nat.zero_add, Nat.reduceAdd] at hx24_0)
    (try rw [t0] at hf24_0)
    (try simp only [Nat.reduceMul, Nat.zero_mul, Nat.zero_add, Nat.reduceAdd] at hf24_0)
    replace p24 := eq_true p24
    replace q24 := eq_true q24
    have HP26 := Kd.R_putg HO1.out (0 : Int) (wrap64 ((wrap64 ((wrap64 ((rd l1 0) - 1)) + a3)) + 1))
    go_enter Tryd.func25, Tryd.ntmps25
    go_wp2_with (first | ((with_reducible refine gate_store (t := 2) (p := 33) rfl ?_); refine store_event (t := 2) (p := 33) (v := ?vo_w27) (w1 := (w.setCell ⟨go24, (0 : Int).toNat, none⟩ (.int .i64 (wrap64 ((wrap64 ((wrap64 ((rd l1 0) - 1)) + a3)) + 1))))) ?hg ?ho ?hn ?hr ?_; (case ho => rfl); (case hg => rfl); (case hn => rfl); (case hr => first | (go_simp; done) | (go_simp; rfl)); intro w27 hw; have hg : w.grownBy w27 (some go24) := (by rw [hw]; exact HP26.2); have hp_ : Kd.R (Kd.int .i64) 2 w27 w0.heap.size (fun k_ => (P1_ k_ ∨ w.heap.size ≤ k_)) (.slice (some ⟨go24, 0, none⟩) l1.length co25) y226 := (by rw [hw, Ny226.out]; exact HP26.1); clear HP26; have n0_ := Aside0.mk (hp_); have n1_ := Aside0.mk ((by rw [hw]; exact below_set (HB.out) GB24.out : Below w0.heap.size w0 w27)); have n2_ := Aside0.mk (Kept.of_grown (S := (fun k_ => P1_ k_)) hg kk (fun k_ e_ => (HO1.out.1 k_ e_))); revert n0_ n1_ n2_; clear HO1 HB HK; intro HO1 HB HK; clear hg hw hp_))
    go_ret
    exact ⟨by first | rfl | (simp [errW_none, errW_some] <;> rfl) | (simp [*, errW_none, errW_some] <;> rfl), rr HO1.out, bl, kk⟩
   rw [if_neg c23] at H
   have c23b0 : decide ((wrap64 ((wrap64 ((rd l1 0) - 1)) + a3)) < a0) = false := decide_eq_false c23
   clear c23
   obtain ⟨y227, hy227⟩ : ∃ y_ : List Int, y_ = (l1.set (0 : Int).toNat 0) := ⟨_, rfl⟩
   replace H : (some (false, y227)) = some (r1, r2) := by first | (rw [hy227]; with_reducible exact H) | (have H2_ := (Option.bind_some _ _).symm.trans H; rw [hy227]; with_reducible exact H2_) | (have H2_ := (Option.bind_some _ _).symm.trans H; with_reducible exact H2_) | with_reducible exact H | (rw [hy227]; exact H) | exact H
   have Ny227 := Aside0.mk hy227
   clear hy227
   simp only [Option.some.injEq, Prod.mk.injEq] at H
   obtain ⟨rfl, rfl⟩ := H
   obtain ⟨Ao29, co29, eo29⟩ := Kd.R_slice HO1.out
   subst eo29
   have p221 : 0 ≤ (0 : Int) := (by omega)
   have q221 : 0 < (l1.length : Int) := ode
   obtain ⟨ad221, e221, hx221_0⟩ := Kd.at_int (Kd.R_reads' HO1.out).2.2 0 p221 q221
   cases e221
   have qi221 : (0 < l1.length) = True := eq_true (by omega)
   (try rw [t0] at hx221_0)
   (try rw [Addr.add_zero'] at hx221_0)
   replace p221 := eq_true p221
   replace q221 := eq_true q221
   have p222 : 0 ≤ (0 : Int) := (by omega)
   have q222 : 0 < (l1.length : Int) := ode
   obtain ⟨ad222, e222, hx222_0⟩ := Kd.at_int (Kd.R_reads' HO1.out).2.2 0 p222 q222
   obtain rfl : ad221 = ad222 := (by injection e222)
   have qi222 : (0 < l1.length) = True := eq_true (by omega)
   (try rw [t0] at hx222_0)
   (try rw [Addr.add_zero'] at hx222_0)
   replace p222 := eq_true p222
   replace q222 := eq_true q222
   have p225 : 0 ≤ (0 : Int) := (by omega)
   have q225 : 0 < (l1.length : Int) := ode
   obtain ⟨ad225, e225, hx225_0⟩ := Kd.at_int (Kd.R_reads' HO1.out).2.2 0 p225 q225
   obtain rfl : ad221 = ad225 := (by injection e225)
   have qi225 : (0 < l1.length) = True := eq_true (by omega)
   (try rw [t0] at hx225_0)
   (try rw [Addr.add_zero'] at hx225_0)
   replace p225 := eq_true p225
   replace q225 := eq_true q225
   have p28 : 0 ≤ (0 : Int) := (by omega)
   have q28 : (0 : Int) < ((l1.length : Int) : Int) := ode
   have qi28 : (0 < l1.length) = True := eq_true (by omega)
   obtain ⟨go28, co28, eo28, gb28, gl28, cl28, HG28⟩ := Kd.R_form HO1.out (by omega)
   (first | cases eo28 | (injection eo28 with ea_ en_ ec_; (first | subst ea_ | (injection ea_ with ea_; subst ea_)); subst ec_; clear en_))
   have GB28 := Aside0.mk gb28
   have GG28 := Aside0.mk HG28
   clear gb28 gl28 HG28
   have HMgo28 := Aside0.mk (show (P1_ go28 ∨ w.heap.size ≤ go28) from (HO1.out.1 _ rfl))
   (first | simp only [add_plain] at hx221_0 | skip)
   (first | simp only [add_plain] at hx222_0 | skip)
   (first | simp only [add_plain] at hx225_0 | skip)
   obtain ⟨hx28_0, hf28_0⟩ := Kd.R_celln 0 HO1.out (0 : Int) p28 q28
   (try rw [t0] at hx28_0)
   (try simp only [Nat.reduceMul, Nat.zero_mul, Nat.zero_add, Nat.reduceAdd] at hx28_0)
   (try rw [t0] at hf28_0)
   (try simp only [Nat.reduceMul, Nat.zero_mul, Nat.zero_add, Nat.reduceAdd] at hf28_0)
   replace p28 := eq_true p28
   replace q28 := eq_true q28
   have HP30 := Kd.R_putg HO1.out (0 : Int) 0
   go_enter Tryd.func25, Tryd.ntmps25
   go_wp2_with (first | ((with_reducible refine gate_store (t := 2) (p := 35) rfl ?_); refine store_event (t := 2) (p := 35) (v := ?vo_w31) (w1 := (w.setCell ⟨go28, (0 : Int).toNat, none⟩ (.int .i64 0))) ?hg ?ho ?hn ?hr ?_; (case ho => rfl); (case hg => rfl); (case hn => rfl); (case hr => first | (go_simp; done) | (go_simp; rfl)); intro w31 hw; have hg : w.grownBy w31 (some go28) := (by rw [hw]; exact HP30.2); have hp_ : Kd.R (Kd.int .i64) 2 w31 w0.heap.size (fun k_ => (P1_ k_ ∨ w.heap.size ≤ k_)) (.slice (some ⟨go28, 0, none⟩) l1.length co29) y227 := (by rw [hw, Ny227.out]; exact HP30.1); clear HP30; have n0_ := Aside0.mk (hp_); have n1_ := Aside0.mk ((by rw [hw]; exact below_set (HB.out) GB28.out : Below w0.heap.size w0 w31)); have n2_ := Aside0.mk (Kept.of_grown (S := (fun k_ => P1_ k_)) hg kk (fun k_ e_ => (HO1.out.1 k_ e_))); revert n0_ n1_ n2_; clear HO1 HB HK; intro HO1 HB HK; clear hg hw hp_))
   go_ret
   exact ⟨by first | rfl | (simp [errW_none, errW_some] <;> rfl) | (simp [*, errW_none, errW_some] <;> rfl), rr HO1.out, bl, kk⟩
  ·
   rw [if_neg c10] at H
   exact absurd H (by simp)

end Go.Proofs.YtjjbdgngncgikaaDoor.R
