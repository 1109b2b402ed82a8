-- Written by this claim's own program out of the translation; not trusted: Lean checks it.
import Derived.Test.YtjjbdgngncgikaaDoorRx0
namespace Go.Proofs.YtjjbdgngncgikaaDoor.R
open Go.RowKit Go.Proofs.YtjjbdgngncgikaaDoorW.PrintWords Go.Proofs.YtjjbdgngncgikaaDoorW.PrintLast Go.Proofs.YtjjbdgngncgikaaDoorW.PrintMore
attribute [local go_sem] max2_int min2_int max_two min_two max_three min_three max_four min_four   -- for this text's walks alone
set_option linter.unusedVariables false
set_option linter.unusedSimpArgs false

/-! ### timer_ondelay: function 26 -/
def timer_ondelay.f (a0 : Int) (l1 : List Int) (a2 : Bool) (a3 : Int) : Option (Bool × List Int) := if a2 = true then (if 0 < (l1.length : Int) then (if (rd l1 0) = 0 then (some ((0 == a0), (l1.set (0 : Int).toNat (0 + 1)))) else (some (((mn (wrap64 ((wrap64 ((rd l1 0) - 1)) + a3)) a0) == a0), (l1.set (0 : Int).toNat (wrap64 ((mn (wrap64 ((wrap64 ((rd l1 0) - 1)) + a3)) a0) + 1)))))) else (none)) else (if 0 < (l1.length : Int) then (some (false, (l1.set (0 : Int).toNat 0))) else (none))
set_option maxHeartbeats 8000000 in
set_option maxRecDepth 100000 in
theorem timer_ondelay.calls (a0 : Int) (P1_ : Nat → Prop) (u9000_ : Value) (l1 : List Int) (a2 : Bool) (a3 : Int) (r1 : Bool) (r2 : List Int) (w0 w : World) (hB : Below w0.heap.size w0 w) (ho1 : Kd.R (Kd.int .i64) 2 w w0.heap.size P1_ u9000_ l1) (h : timer_ondelay.f a0 l1 a2 a3 = some (r1, r2)) :
  Calls Tryd.prog 26 #[.int .i64 a0, u9000_, .bool a2, .int .i64 a3] w fun e w' => e = .returned (.bool r1) ∧ Kd.R (Kd.int .i64) 2 w' w0.heap.size (fun k_ => (P1_ k_ ∨ w.heap.size ≤ k_)) u9000_ r2 ∧ Below w0.heap.size w0 w' ∧ Kept w w' (fun k_ => P1_ k_) := by
 have HO1 := Aside0.mk (show Kd.R (Kd.int .i64) 2 w w0.heap.size (fun k_ => (P1_ k_ ∨ w.heap.size ≤ k_)) u9000_ l1 from Kd.R_mono ho1 (fun k_ hk => (.inl hk)))
 have HK := Aside0.mk (Kept.refl w (fun k_ => P1_ k_))
 have HW0 := Aside0.mk hB.size
 have HB := Aside0.mk hB
 clear hB
 have H : (if a2 = true then (if 0 < (l1.length : Int) then (if (rd l1 0) = 0 then (some ((0 == a0), (l1.set (0 : Int).toNat (0 + 1)))) else (some (((mn (wrap64 ((wrap64 ((rd l1 0) - 1)) + a3)) a0) == a0), (l1.set (0 : Int).toNat (wrap64 ((mn (wrap64 ((wrap64 ((rd l1 0) - 1)) + a3)) a0) + 1)))))) else (none)) else (if 0 < (l1.length : Int) then (some (false, (l1.set (0 : Int).toNat 0))) else (none))) = some (r1, r2) := h
 clear h
 by_cases c5 : a2 = true
 ·
  subst c5
  rw [if_pos rfl] at H
  by_cases c6 : 0 < (l1.length : Int)
  rotate_left
  ·
   rw [if_neg c6] at H
   exact absurd H (by simp)
  rw [if_pos c6] at H
  have c6b0 : decide (0 < (l1.length : Int)) = true := decide_eq_true c6
  have c6b1 : decide (0 < l1.length) = true := decide_eq_true (by omega)
  clear c6
  by_cases c7 : (rd l1 0) = 0
  ·
   rw [if_pos c7] at H
   have c7b0 : ((rd l1 0) == 0) = true := beq_iff_eq.mpr c7
   have c7b1 : ((rd l1 0) != 0) = false := bne_eq_false_iff_eq.mpr c7
   clear c7
   obtain ⟨y229, hy229⟩ : ∃ y_ : List Int, y_ = (l1.set (0 : Int).toNat (0 + 1)) := ⟨_, rfl⟩
   replace H : (some ((0 == a0), y229)) = some (r1, r2) := by first | (rw [hy229]; with_reducible exact H) | (have H2_ := (Option.bind_some _ _).symm.trans H; rw [hy229]; with_reducible exact H2_) | (have H2_ := (Option.bind_some _ _).symm.trans H; with_reducible exact H2_) | with_reducible exact H | (rw [hy229]; exact H) | exact H
   have Ny229 := Aside0.mk hy229
   clear hy229
   simp only [Option.some.injEq, Prod.mk.injEq] at H
   obtain ⟨rfl, rfl⟩ := H
   obtain ⟨Ao9, co9, eo9⟩ := Kd.R_slice HO1.out
   subst eo9
   have p228 : 0 ≤ (0 : Int) := (by omega)
   have q228 : 0 < (l1.length : Int) := ode
   obtain ⟨ad228, e228, hx228_0⟩ := Kd.at_int (Kd.R_reads' HO1.out).2.2 0 p228 q228
   cases e228
   have qi228 : (0 < l1.length) = True := eq_true (by omega)
   (try rw [t0] at hx228_0)
   (try rw [Addr.add_zero'] at hx228_0)
   replace p228 := eq_true p228
   replace q228 := eq_true q228
   have p8 : 0 ≤ (0 : Int) := (by omega)
   have q8 : (0 : Int) < ((l1.length : Int) : Int) := ode
   have qi8 : (0 < l1.length) = True := eq_true (by omega)
   obtain ⟨go8, co8, eo8, gb8, gl8, cl8, HG8⟩ := Kd.R_form HO1.out (by omega)
   (first | cases eo8 | (injection eo8 with ea_ en_ ec_; (first | subst ea_ | (injection ea_ with ea_; subst ea_)); subst ec_; clear en_))
   have GB8 := Aside0.mk gb8
   have GG8 := Aside0.mk HG8
   clear gb8 gl8 HG8
   have HMgo8 := Aside0.mk (show (P1_ go8 ∨ w.heap.size ≤ go8) from (HO1.out.1 _ rfl))
   (first | simp only [add_plain] at hx228_0 | skip)
   obtain ⟨hx8_0, hf8_0⟩ := Kd.R_celln 0 HO1.out (0 : Int) p8 q8
   (try rw [t0] at hx8_0)
   (try simp only [Nat.reduceMul, Nat.zero_mul, Nat.zero_add, Nat.reduceAdd] at hx8_0)
   (try rw [t0] at hf8_0)
   (try simp only [Nat.reduceMul, Nat.zero_mul, Nat.zero_add, Nat.reduceAdd] at hf8_0)
   replace p8 := eq_true p8
   replace q8 := eq_true q8
   have HP10 := Kd.R_putg HO1.out (0 : Int) (0 + 1)
   go_enter Tryd.func26, Tryd.ntmps26
   go_wp2_with (first | ((with_reducible refine gate_store (t := 2) (p := 29) rfl ?_); refine store_event (t := 2) (p := 29) (v := ?vo_w11) (w1 := (w.setCell ⟨go8, (0 : Int).toNat, none⟩ (.int .i64 (0 + 1)))) ?hg ?ho ?hn ?hr ?_; (case ho => rfl); (case hg => rfl); (case hn => rfl); (case hr => first | (go_simp; done) | (go_simp; rfl)); intro w11 hw; have hg : w.grownBy w11 (some go8) := (by rw [hw]; exact HP10.2); have hp_ : Kd.R (Kd.int .i64) 2 w11 w0.heap.size (fun k_ => (P1_ k_ ∨ w.heap.size ≤ k_)) (.slice (some ⟨go8, 0, none⟩) l1.length co9) y229 := (by rw [hw, Ny229.out]; exact HP10.1); clear HP10; have n0_ := Aside0.mk (hp_); have n1_ := Aside0.mk ((by rw [hw]; exact below_set (HB.out) GB8.out : Below w0.heap.size w0 w11)); have n2_ := Aside0.mk (Kept.of_grown (S := (fun k_ => P1_ k_)) hg kk (fun k_ e_ => (HO1.out.1 k_ e_))); revert n0_ n1_ n2_; clear HO1 HB HK; intro HO1 HB HK; clear hg hw hp_))
   go_ret
   exact ⟨by first | rfl | (simp [errW_none, errW_some] <;> rfl) | (simp [*, errW_none, errW_some] <;> rfl), rr HO1.out, bl, kk⟩
  rw [if_neg c7] at H
  have c7b0 : ((rd l1 0) == 0) = false := beq_eq_false_iff_ne.mpr c7
  have c7b1 : ((rd l1 0) != 0) = true := bne_iff_ne.mpr c7
  obtain ⟨ji12, hji12⟩ : ∃ j_ : Int, (mn (wrap64 ((wrap64 ((rd l1 0) - 1)) + a3)) a0) = j_ := ⟨_, rfl⟩
  replace H : (some (((ji12) == a0), (l1.set (0 : Int).toNat (wrap64 ((ji12) + 1))))) = some (r1, r2) := by first | (rw [hji12] at H; exact H) | (simp only [hji12] at H ⊢; exact H)
  have hji12_ : (if a0 < (wrap64 ((wrap64 ((rd l1 0) - 1)) + a3)) then a0 else (wrap64 ((wrap64 ((rd l1 0) - 1)) + a3))) = ji12 := hji12
  obtain ⟨y231, hy231⟩ : ∃ y_ : List Int, y_ = (l1.set (0 : Int).toNat (wrap64 ((ji12) + 1))) := ⟨_, rfl⟩
  replace H : (some (((ji12) == a0), y231)) = some (r1, r2) := by first | (rw [hy231]; with_reducible exact H) | (have H2_ := (Option.bind_some _ _).symm.trans H; rw [hy231]; with_reducible exact H2_) | (have H2_ := (Option.bind_some _ _).symm.trans H; with_reducible exact H2_) | with_reducible exact H | (rw [hy231]; exact H) | exact H
  have Ny231 := Aside0.mk hy231
  clear hy231
  simp only [Option.some.injEq, Prod.mk.injEq] at H
  obtain ⟨rfl, rfl⟩ := H
  obtain ⟨Ao14, co14, eo14⟩ := Kd.R_slice HO1.out
  subst eo14
  have p228 : 0 ≤ (0 : Int) := (by omega)
  have q228 : 0 < (l1.length : Int) := ode
  obtain ⟨ad228, e228, hx228_0⟩ := Kd.at_int (Kd.R_reads' HO1.out).2.2 0 p228 q228
  cases e228
  have qi228 : (0 < l1.length) = True := eq_true (by omega)
  (try rw [t0] at hx228_0)
  (try rw [Addr.add_zero'] at hx228_0)
  replace p228 := eq_true p228
  replace q228 := eq_true q228
  have p230 : 0 ≤ (0 : Int) := (by omega)
  have q230 : 0 < (l1.length : Int) := ode
  obtain ⟨ad230, e230, hx230_0⟩ := Kd.at_int (Kd.R_reads' HO1.out).2.2 0 p230 q230
  obtain rfl : ad228 = ad230 := (by injection e230)
  have qi230 : (0 < l1.length) = True := eq_true (by omega)
  (try rw [t0] at hx230_0)
  (try rw [Addr.add_zero'] at hx230_0)
  replace p230 := eq_true p230
  replace q230 := eq_true q230
  have p13 : 0 ≤ (0 : Int) := (by omega)
  have q13 : (0 : Int) < ((l1.length : Int) : Int) := ode
  have qi13 : (0 < l1.length) = True := eq_true (by omega)
  obtain ⟨go13, co13, eo13, gb13, gl13, cl13, HG13⟩ := Kd.R_form HO1.out (by omega)
  (first | cases eo13 | (injection eo13 with ea_ en_ ec_; (first | subst ea_ | (injection ea_ with ea_; subst ea_)); subst ec_; clear en_))
  have GB13 := Aside0.mk gb13
  have GG13 := Aside0.mk HG13
  clear gb13 gl13 HG13
  have HMgo13 := Aside0.mk (show (P1_ go13 ∨ w.heap.size ≤ go13) from (HO1.out.1 _ rfl))
  (first | simp only [add_plain] at hx228_0 | skip)
  (first | simp only [add_plain] at hx230_0 | skip)
  obtain ⟨hx13_0, hf13_0⟩ := Kd.R_celln 0 HO1.out (0 : Int) p13 q13
  (try rw [t0] at hx13_0)
  (try simp only [Nat.reduceMul, Nat.zero_mul, Nat.zero_add, Nat.reduceAdd] at hx13_0)
  (try rw [t0] at hf13_0)
  (try simp only [Nat.reduceMul, Nat.zero_mul, Nat.zero_add, Nat.reduceAdd] at hf13_0)
  replace p13 := eq_true p13
  replace q13 := eq_true q13
  have HP15 := Kd.R_putg HO1.out (0 : Int) (wrap64 ((ji12) + 1))
  go_enter Tryd.func26, Tryd.ntmps26
  go_wp2_with (first | ((with_reducible refine gate_store (t := 2) (p := 29) rfl ?_); refine store_event (t := 2) (p := 29) (v := ?vo_w16) (w1 := (w.setCell ⟨go13, (0 : Int).toNat, none⟩ (.int .i64 (wrap64 ((ji12) + 1))))) ?hg ?ho ?hn ?hr ?_; (case ho => rfl); (case hg => rfl); (case hn => rfl); (case hr => first | (go_simp; done) | (go_simp; rfl)); intro w16 hw; have hg : w.grownBy w16 (some go13) := (by rw [hw]; exact HP15.2); have hp_ : Kd.R (Kd.int .i64) 2 w16 w0.heap.size (fun k_ => (P1_ k_ ∨ w.heap.size ≤ k_)) (.slice (some ⟨go13, 0, none⟩) l1.length co14) y231 := (by rw [hw, Ny231.out]; exact HP15.1); clear HP15; have n0_ := Aside0.mk (hp_); have n1_ := Aside0.mk ((by rw [hw]; exact below_set (HB.out) GB13.out : Below w0.heap.size w0 w16)); have n2_ := Aside0.mk (Kept.of_grown (S := (fun k_ => P1_ k_)) hg kk (fun k_ e_ => (HO1.out.1 k_ e_))); revert n0_ n1_ n2_; clear HO1 HB HK; intro HO1 HB HK; clear hg hw hp_))
  go_ret
  exact ⟨by first | rfl | (simp [errW_none, errW_some] <;> rfl) | (simp only [← hji12]; first | rfl | (simp [errW_none, errW_some] <;> rfl)) | (simp [*, errW_none, errW_some] <;> rfl), rr HO1.out, bl, kk⟩
 ·
  replace c5 := Bool.eq_false_iff.mpr c5
  subst c5
  rw [if_neg (show ¬ (false = true) by decide)] at H
  by_cases c17 : 0 < (l1.length : Int)
  ·
   rw [if_pos c17] at H
   have c17b0 : decide (0 < (l1.length : Int)) = true := decide_eq_true c17
   have c17b1 : decide (0 < l1.length) = true := decide_eq_true (by omega)
   clear c17
   obtain ⟨y232, hy232⟩ : ∃ y_ : List Int, y_ = (l1.set (0 : Int).toNat 0) := ⟨_, rfl⟩
   replace H : (some (false, y232)) = some (r1, r2) := by first | (rw [hy232]; with_reducible exact H) | (have H2_ := (Option.bind_some _ _).symm.trans H; rw [hy232]; with_reducible exact H2_) | (have H2_ := (Option.bind_some _ _).symm.trans H; with_reducible exact H2_) | with_reducible exact H | (rw [hy232]; exact H) | exact H
   have Ny232 := Aside0.mk hy232
   clear hy232
   simp only [Option.some.injEq, Prod.mk.injEq] at H
   obtain ⟨rfl, rfl⟩ := H
   have p18 : 0 ≤ (0 : Int) := (by omega)
   have q18 : (0 : Int) < ((l1.length : Int) : Int) := ode
   have qi18 : (0 < l1.length) = True := eq_true (by omega)
   obtain ⟨go18, co18, eo18, gb18, gl18, cl18, HG18⟩ := Kd.R_form HO1.out (by omega)
   (first | cases eo18 | (injection eo18 with ea_ en_ ec_; (first | subst ea_ | (injection ea_ with ea_; subst ea_)); subst ec_; clear en_))
   have GB18 := Aside0.mk gb18
   have GG18 := Aside0.mk HG18
   clear gb18 gl18 HG18
   have HMgo18 := Aside0.mk (show (P1_ go18 ∨ w.heap.size ≤ go18) from (HO1.out.1 _ rfl))
   obtain ⟨hx18_0, hf18_0⟩ := Kd.R_celln 0 HO1.out (0 : Int) p18 q18
   (try rw [t0] at hx18_0)
   (try simp only [Nat.reduceMul, Nat.zero_mul, Nat.zero_add, Nat.reduceAdd] at hx18_0)
   (try rw [t0] at hf18_0)
   (try simp only [Nat.reduceMul, Nat.zero_mul, Nat.zero_add, Nat.reduceAdd] at hf18_0)
   replace p18 := eq_true p18
   replace q18 := eq_true q18
   have HP19 := Kd.R_putg HO1.out (0 : Int) 0
   go_enter Tryd.func26, Tryd.ntmps26
   go_wp2_with (first | ((with_reducible refine gate_store (t := 2) (p := 13) rfl ?_); refine store_event (t := 2) (p := 13) (v := ?vo_w20) (w1 := (w.setCell ⟨go18, (0 : Int).toNat, none⟩ (.int .i64 0))) ?hg ?ho ?hn ?hr ?_; (case ho => rfl); (case hg => rfl); (case hn => rfl); (case hr => first | (go_simp; done) | (go_simp; rfl)); intro w20 hw; have hg : w.grownBy w20 (some go18) := (by rw [hw]; exact HP19.2); have hp_ : Kd.R (Kd.int .i64) 2 w20 w0.heap.size (fun k_ => (P1_ k_ ∨ w.heap.size ≤ k_)) (.slice (some ⟨go18, 0, none⟩) l1.length co18) y232 := (by rw [hw, Ny232.out]; exact HP19.1); clear HP19; have n0_ := Aside0.mk (hp_); have n1_ := Aside0.mk ((by rw [hw]; exact below_set (HB.out) GB18.out : Below w0.heap.size w0 w20)); have n2_ := Aside0.mk (Kept.of_grown (S := (fun k_ => P1_ k_)) hg kk (fun k_ e_ => (HO1.out.1 k_ e_))); revert n0_ n1_ n2_; clear HO1 HB HK; intro HO1 HB HK; clear hg hw hp_))
   go_ret
   exact ⟨by first | rfl | (simp [errW_none, errW_some] <;> rfl) | (simp [*, errW_none, errW_some] <;> rfl), rr HO1.out, bl, kk⟩
  ·
   rw [if_neg c17] at H
   exact absurd H (by simp)

end Go.Proofs.YtjjbdgngncgikaaDoor.R
