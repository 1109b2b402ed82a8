import Derived.Test.YtjjbdgngncgikaaGreatDoorRx0
import Derived.Test.YtjjbdgngncgikaaGreatDoorRx7
namespace Go.Proofs.YtjjbdgngncgikaaGreatDoor.R
open Go.RowKit Go.Proofs.YtjjbdgngncgikaaGreatDoorW.PrintWords Go.Proofs.YtjjbdgngncgikaaGreatDoorW.PrintLast Go.Proofs.YtjjbdgngncgikaaGreatDoorW.PrintMore
attribute [local go_sem] max2_int min2_int max_two min_two max_three min_three max_four min_four
set_option linter.unusedVariables false
set_option linter.unusedSimpArgs false

def timer_pulse.j0 : Nat → Int → List Int → Bool → Int → Int → Bool → Option (Bool × List Int)
 | 0, _, _, _, _, _, _ => none
 | k + 1, x0, x1, x2, x3, x9, x17 => if x17 = true then (if 1 < (x1.length : Int) then ((some (x1.set (1 : Int).toNat 0 : List Int)).bind fun y238 => (if 0 < x0 then ((timer_bit.f x2).bind fun t240 => (if 0 < (x1.length : Int) then (some (decide (0 < x0), ((y238.set (1 : Int).toNat (0 + 1)).set (0 : Int).toNat t240))) else (none))) else ((timer_bit.f x2).bind fun t242 => (if 0 < (x1.length : Int) then (some (decide (0 < x0), (y238.set (0 : Int).toNat t242))) else (none))))) else (none)) else (if 1 < (x1.length : Int) then (if (rd x1 1) = 0 then (if x9 ≥ 0 then ((some (x1.set (1 : Int).toNat 0 : List Int)).bind fun y245 => (if x9 < x0 then ((timer_bit.f x2).bind fun t247 => (if 0 < (x1.length : Int) then (some (decide (x9 < x0), ((y245.set (1 : Int).toNat (wrap64 (x9 + 1))).set (0 : Int).toNat t247))) else (none))) else ((timer_bit.f x2).bind fun t249 => (if 0 < (x1.length : Int) then (some (decide (x9 < x0), (y245.set (0 : Int).toNat t249))) else (none))))) else ((timer_bit.f x2).bind fun t252 => (if 0 < (x1.length : Int) then (some (false, ((x1.set (1 : Int).toNat 0).set (0 : Int).toNat t252))) else (none)))) else (if (wrap64 ((wrap64 ((rd x1 1) - 1)) + x3)) ≥ 0 then ((some (x1.set (1 : Int).toNat 0 : List Int)).bind fun y255 => (if (wrap64 ((wrap64 ((rd x1 1) - 1)) + x3)) < x0 then ((timer_bit.f x2).bind fun t257 => (if 0 < (x1.length : Int) then (some (decide ((wrap64 ((wrap64 ((rd x1 1) - 1)) + x3)) < x0), ((y255.set (1 : Int).toNat (wrap64 ((wrap64 ((wrap64 ((rd x1 1) - 1)) + x3)) + 1))).set (0 : Int).toNat t257))) else (none))) else ((timer_bit.f x2).bind fun t259 => (if 0 < (x1.length : Int) then (some (decide ((wrap64 ((wrap64 ((rd x1 1) - 1)) + x3)) < x0), (y255.set (0 : Int).toNat t259))) else (none))))) else ((timer_bit.f x2).bind fun t262 => (if 0 < (x1.length : Int) then (some (false, ((x1.set (1 : Int).toNat 0).set (0 : Int).toNat t262))) else (none))))) else (none))
def timer_pulse.f (k : Nat) (a0 : Int) (l1 : List Int) (a2 : Bool) (a3 : Int) : Option (Bool × List Int) := if a2 = true then (if 0 < (l1.length : Int) then (timer_pulse.j0 k a0 l1 a2 a3 (-1) ((rd l1 0) == 0)) else (none)) else (timer_pulse.j0 k a0 l1 a2 a3 (-1) false)
theorem timer_pulse.mono_l : ∀ k, (∀ y0 y1 y2 y3 y4 y5, LeO (timer_pulse.j0 k y0 y1 y2 y3 y4 y5) (timer_pulse.j0 (k + 1) y0 y1 y2 y3 y4 y5))
 | 0 => fun _ _ _ _ _ _ r h => by simp [timer_pulse.j0] at h
 | k + 1 => by
  have ih0 := timer_pulse.mono_l k
  ·
   intro y0 y1 y2 y3 y4 y5
   unfold timer_pulse.j0
   repeat' first
   | (with_reducible exact ih0 _ _ _ _ _ _)
   | (with_reducible exact LeO.refl _)
   | (with_reducible exact LeO.none _)
   | (with_reducible refine LeO.ite ?_ ?_)
   | (with_reducible refine LeO.bind ?_ (fun _ => ?_))
   | exact LeO.none _
   | refine LeO.ite ?_ ?_
   | refine LeO.bind ?_ (fun _ => ?_)
theorem timer_pulse.mono : ∀ a0 a1 a2 a3 k, LeO (timer_pulse.f k a0 a1 a2 a3) (timer_pulse.f (k + 1) a0 a1 a2 a3) := by
 intro a0 a1 a2 a3 k
 have ih0 := timer_pulse.mono_l k
 unfold timer_pulse.f
 repeat' first
   | (with_reducible exact ih0 _ _ _ _ _ _)
   | (with_reducible exact LeO.refl _)
   | (with_reducible exact LeO.none _)
   | (with_reducible refine LeO.ite ?_ ?_)
   | (with_reducible refine LeO.bind ?_ (fun _ => ?_))
   | exact LeO.none _
   | refine LeO.ite ?_ ?_
   | refine LeO.bind ?_ (fun _ => ?_)
set_option maxHeartbeats 8000000 in
set_option maxRecDepth 100000 in
theorem timer_pulse.calls (k : Nat) (a0 : Int) (P1_ : Nat → Prop) (u9000_ : Value) (l1 : List Int) (a2 : Bool) (a3 : Int) (r1 : Bool) (r2 : List Int) (w0 w : World) (hB : Below w0.heap.size w0 w) (ho1 : Kd.R (Kd.int .i64) 2 w w0.heap.size P1_ u9000_ l1) (h : timer_pulse.f k a0 l1 a2 a3 = some (r1, r2)) :
  Calls Tryz.prog 34 #[.int .i64 a0, u9000_, .bool a2, .int .i64 a3] w fun e w' => e = .returned (.bool r1) ∧ Kd.R (Kd.int .i64) 2 w' w0.heap.size (fun k_ => (P1_ k_ ∨ w.heap.size ≤ k_)) u9000_ r2 ∧ Below w0.heap.size w0 w' ∧ Kept w w' (fun k_ => P1_ k_) := by
 have HO1 := am (show Kd.R (Kd.int .i64) 2 w w0.heap.size (fun k_ => (P1_ k_ ∨ w.heap.size ≤ k_)) u9000_ l1 from Kd.R_mono ho1 (fun k_ hk => (.inl hk)))
 have HK := am (Kept.refl w (fun k_ => P1_ k_))
 have HW0 := am hB.size
 have HB := am hB
 clear hB
 have H : (if a2 = true then (if 0 < (l1.length : Int) then (timer_pulse.j0 k a0 l1 a2 a3 (-1) ((rd l1 0) == 0)) else (none)) else (timer_pulse.j0 k a0 l1 a2 a3 (-1) false)) = some (r1, r2) := h
 clear h
 have HC5 := am H
 clear H
 go_enter Tryz.func34, Tryz.ntmps34
 go_upto_region 2 with (fail)
 go_cut [17] (fun v17 wc => ∃ (kq : Nat) (x17_4 : Bool), v17 = .bool x17_4 ∧ Aside0 (timer_pulse.j0 kq a0 l1 a2 a3 (-1) x17_4 = some (r1, r2)) ∧ Aside0 (kq ≤ k) ∧ Aside0 (Kd.R (Kd.int .i64) 2 wc w0.heap.size (fun k_ => (P1_ k_ ∨ w.heap.size ≤ k_)) u9000_ l1) ∧ Aside0 (Kept w wc (fun k_ => P1_ k_)) ∧ Aside0 (Below w0.heap.size w0 wc))
 case first =>
  have H := HC5.out
  clear HC5
  by_cases c6 : a2 = true
  rotate_left
  ·
   replace c6 := Bool.eq_false_iff.mpr c6
   subst c6
   rw [if_neg (show ¬ (false = true) by decide)] at H
   have H' := am H
   clear H
   go_wp2
   go_meet
   case rel => exact ⟨_, (false), (by first | rfl | (simp; done) | (simp [*]; done)), H', ⟨by first | omega | exact Nat.le_refl _⟩, ⟨rr HO1.out⟩, ⟨kk⟩, ⟨bl⟩⟩
  subst c6
  rw [if_pos rfl] at H
  have c7 := oi H; rw [if_pos c7] at H
  have c7b0 := decide_eq_true c7
  have c7b1 : decide (0 < l1.length) = true := decide_eq_true (by omega)
  clear c7
  (first | rw [c7b0] | (simp only [i64_w, i32_w]; rw [c7b0]) | skip)
  have H' := am H
  clear H
  obtain ⟨Ao8, co8, eo8⟩ := Kd.R_slice HO1.out
  subst eo8
  have q237 := ix0 (n := l1.length) ode; obtain ⟨ad237, e237, hx237_0⟩ := Kd.at_int (Kd.R_reads' HO1.out).2.2 0 (by omega) (of_eq_true q237.2.2); cases e237; (try rw [t0] at hx237_0); (try rw [Addr.add_zero'] at hx237_0); obtain ⟨qi237, p237, q237⟩ := q237
  go_wp2
  go_meet
  case rel => exact ⟨_, (((rd l1 0) == 0)), (by first | rfl | (simp; done) | (simp [*]; done)), H', ⟨by first | omega | exact Nat.le_refl _⟩, ⟨rr HO1.out⟩, ⟨kk⟩, ⟨bl⟩⟩
 clear HC5
 obtain ⟨kq, x17_4, rfl, HA, HJ4, HO_1, HK, HB⟩ := hcut
 cases kq with
 | zero => exact absurd HA.out (by simp [timer_pulse.j0])
 | succ kj4 =>
  have H := HA.out
  clear HA
  simp only [timer_pulse.j0] at H
  by_cases c9 : x17_4 = true
  ·
   subst c9
   rw [if_pos rfl] at H
   have c10 := oi H; rw [if_pos c10] at H
   have c10b0 := decide_eq_true c10
   have c10b1 : decide (1 < l1.length) = true := decide_eq_true (by omega)
   clear c10
   obtain ⟨y238, hy238⟩ : ∃ y_ : List Int, y_ = (l1.set (1 : Int).toNat 0) := ⟨_, rfl⟩
   (try rw [← hy238] at H); (try rw [Option.bind_some] at H); (try dsimp only at H)
   have Ny238 := am hy238
   clear hy238
   by_cases c12 : 0 < a0
   rotate_left
   ·
    rw [if_neg c12] at H
    have c12b0 := decide_eq_false c12
    clear c12
    obtain ⟨t242, A23, H⟩ := Option.bind_eq_some_iff.mp H
    (try dsimp only at H)
    replace A23 := am A23
    have c24 := oi H; rw [if_pos c24] at H
    have c24b0 := decide_eq_true c24
    have c24b1 : decide (0 < l1.length) = true := decide_eq_true (by omega)
    clear c24
    obtain ⟨y243, hy243⟩ : ∃ y_ : List Int, y_ = (y238.set (0 : Int).toNat t242) := ⟨_, rfl⟩
    (try rw [← hy243] at H); (try rw [Option.bind_some] at H); (try dsimp only at H)
    have Ny243 := am hy243
    clear hy243
    simp only [Option.some.injEq, Prod.mk.injEq] at H
    obtain ⟨rfl, rfl⟩ := H
    have p11 : 0 ≤ (1 : Int) := (by omega); have q11 : (1 : Int) < ((l1.length : Int) : Int) := ode; have qi11 : (1 < l1.length) = True := eq_true (by omega)
    obtain ⟨go11, co11, eo11, gb11, gl11, cl11, HG11⟩ := Kd.R_form HO_1.out (by omega)
    (first | cases eo11 | (injection eo11 with ea_ en_ ec_; (first | subst ea_ | (injection ea_ with ea_; subst ea_)); subst ec_; clear en_))
    have GB11 := am gb11
    have GG11 := am HG11
    clear gb11 gl11 HG11
    have HMgo11 := am (show (P1_ go11 ∨ w.heap.size ≤ go11) from (HO_1.out.1 _ rfl))
    obtain ⟨hx11_0, hf11_0⟩ := Kd.R_celln 0 HO_1.out (1 : Int) p11 q11
    (try rw [t1] at hx11_0); (try simp only [Nat.reduceMul, Nat.zero_mul, Nat.zero_add, Nat.reduceAdd] at hx11_0); (try rw [t1] at hf11_0)
    (try simp only [Nat.reduceMul, Nat.zero_mul, Nat.zero_add, Nat.reduceAdd] at hf11_0)
    replace p11 := eq_true p11; replace q11 := eq_true q11
    have HP26 := Kd.R_putg HO_1.out (1 : Int) 0
    go_wp2_with (first | ((refine gate_store (t := 2) (p := 36) rfl ?_); refine store_event (t := 2) (p := 36) (v := ?vo_w27) (w1 := (wc.setCell ⟨go11, (1 : Int).toNat, none⟩ (.int .i64 0))) ?hg ?ho ?hn ?hr ?_; (case ho => rfl); (case hg => rfl); (case hn => rfl); (case hr => first | (go_simp; done) | (go_simp; rfl)); intro w27 hw; have hg : wc.grownBy w27 (some go11) := (by rw [hw]; exact HP26.2); have hp_ : Kd.R (Kd.int .i64) 2 w27 w0.heap.size (fun k_ => (P1_ k_ ∨ w.heap.size ≤ k_)) (.slice (some ⟨go11, 0, none⟩) l1.length co11) y238 := (by rw [hw, Ny238.out]; exact HP26.1); clear HP26; replace HB := am ((by rw [hw]; exact below_set (HB.out) GB11.out : Below w0.heap.size w0 w27)); replace HK := am (Kept.of_grown (S := (fun k_ => P1_ k_)) hg kk (fun k_ e_ => (HO_1.out.1 k_ e_))); replace HO_1 := am (hp_); clear hg hw hp_) | ((refine gate_callee (f := 30) rfl ?_); refine gl (some 44) Tryz.func30 #[.bool a2] ?_; (with_reducible refine (timer_bit.calls a2 t242 _ A23.out).mono ?_); rintro e w' ⟨rfl, ⟨nd, rfl⟩⟩; refine ⟨_, rfl, ?_⟩; (try (rw [drewN_self w27]; generalize hq_ : World.drewN w27 _ = w27; have n0_ : Aside0 (Kd.R (Kd.int .i64) 2 w27 w0.heap.size (fun k_ => (P1_ k_ ∨ w.heap.size ≤ k_)) (.slice (some ⟨go11, 0, none⟩) l1.length co11) y238) := ⟨by rw [← hq_]; exact (rr HO_1.out)⟩; have n1_ : Aside0 (Kept w w27 (fun k_ => P1_ k_)) := ⟨by rw [← hq_]; exact kk⟩; have n2_ : Aside0 (Below w0.heap.size w0 w27) := ⟨by rw [← hq_]; exact bl⟩; clear HO_1 HK HB hq_; have HO_1 := n0_; have HK := n1_; have HB := n2_; clear n0_ n1_ n2_)); have p25 : 0 ≤ (0 : Int) := (by omega); have q25 : (0 : Int) < ((l1.length : Int) : Int) := ode; have qi25 : (0 < l1.length) = True := eq_true (by omega); obtain ⟨hx25_0, hf25_0⟩ := Kd.R_celln 0 HO_1.out (0 : Int) p25 q25; (try rw [t0] at hx25_0); (try simp only [Nat.reduceMul, Nat.zero_mul, Nat.zero_add, Nat.reduceAdd] at hx25_0); (try rw [t0] at hf25_0); (try simp only [Nat.reduceMul, Nat.zero_mul, Nat.zero_add, Nat.reduceAdd] at hf25_0); replace p25 := eq_true p25; replace q25 := eq_true q25; obtain ⟨hy28_, hz28_⟩ := Kd.R_celln 0 HO_1.out (0 : Int) (by omega) (ode); (try simp only [Int.reduceToNat, Int.toNat_zero, Int.toNat_ofNat, Nat.reduceMul, Nat.zero_mul, Nat.zero_add] at hy28_ hz28_); (try rw [t0] at hy28_); (try rw [t0] at hz28_); have HP28 := Kd.R_putg HO_1.out (0 : Int) t242) | ((refine gate_store (t := 2) (p := 45) rfl ?_); refine store_event (t := 2) (p := 45) (v := ?vo_w29) (w1 := (w27.setCell ⟨go11, (0 : Int).toNat, none⟩ (.int .i64 t242))) ?hg ?ho ?hn ?hr ?_; (case ho => rfl); (case hg => rfl); (case hn => rfl); (case hr => first | (go_simp; done) | (go_simp; rfl)); intro w29 hw; have hg : w27.grownBy w29 (some go11) := (by rw [hw]; exact HP28.2); have hp_ : Kd.R (Kd.int .i64) 2 w29 w0.heap.size (fun k_ => (P1_ k_ ∨ w.heap.size ≤ k_)) (.slice (some ⟨go11, 0, none⟩) l1.length co11) y243 := (by rw [hw, Ny243.out]; exact HP28.1); clear HP28; replace HB := am ((by rw [hw]; exact below_set (HB.out) GB11.out : Below w0.heap.size w0 w29)); replace HK := am (Kept.of_grown (S := (fun k_ => P1_ k_)) hg kk (fun k_ e_ => (HO_1.out.1 k_ e_))); replace HO_1 := am (hp_); clear hg hw hp_))
    go_ret
    exact ⟨ew, rr HO_1.out, bl, kk⟩
   rw [if_pos c12] at H
   have c12b0 := decide_eq_true c12
   clear c12
   obtain ⟨y239, hy239⟩ : ∃ y_ : List Int, y_ = (y238.set (1 : Int).toNat (0 + 1)) := ⟨_, rfl⟩
   (try rw [← hy239] at H); (try rw [Option.bind_some] at H); (try dsimp only at H)
   have Ny239 := am hy239
   clear hy239
   obtain ⟨t240, A14, H⟩ := Option.bind_eq_some_iff.mp H
   (try dsimp only at H)
   replace A14 := am A14
   have c15 := oi H; rw [if_pos c15] at H
   have c15b0 := decide_eq_true c15
   have c15b1 : decide (0 < l1.length) = true := decide_eq_true (by omega)
   clear c15
   obtain ⟨y241, hy241⟩ : ∃ y_ : List Int, y_ = (y239.set (0 : Int).toNat t240) := ⟨_, rfl⟩
   (try rw [← hy241] at H); (try rw [Option.bind_some] at H); (try dsimp only at H)
   have Ny241 := am hy241
   clear hy241
   simp only [Option.some.injEq, Prod.mk.injEq] at H
   obtain ⟨rfl, rfl⟩ := H
   have p11 : 0 ≤ (1 : Int) := (by omega); have q11 : (1 : Int) < ((l1.length : Int) : Int) := ode; have qi11 : (1 < l1.length) = True := eq_true (by omega)
   obtain ⟨go11, co11, eo11, gb11, gl11, cl11, HG11⟩ := Kd.R_form HO_1.out (by omega)
   (first | cases eo11 | (injection eo11 with ea_ en_ ec_; (first | subst ea_ | (injection ea_ with ea_; subst ea_)); subst ec_; clear en_))
   have GB11 := am gb11
   have GG11 := am HG11
   clear gb11 gl11 HG11
   have HMgo11 := am (show (P1_ go11 ∨ w.heap.size ≤ go11) from (HO_1.out.1 _ rfl))
   obtain ⟨hx11_0, hf11_0⟩ := Kd.R_celln 0 HO_1.out (1 : Int) p11 q11
   (try rw [t1] at hx11_0); (try simp only [Nat.reduceMul, Nat.zero_mul, Nat.zero_add, Nat.reduceAdd] at hx11_0); (try rw [t1] at hf11_0)
   (try simp only [Nat.reduceMul, Nat.zero_mul, Nat.zero_add, Nat.reduceAdd] at hf11_0)
   replace p11 := eq_true p11; replace q11 := eq_true q11
   have HP17 := Kd.R_putg HO_1.out (1 : Int) 0
   go_wp2_with (first | ((refine gate_store (t := 2) (p := 36) rfl ?_); refine store_event (t := 2) (p := 36) (v := ?vo_w18) (w1 := (wc.setCell ⟨go11, (1 : Int).toNat, none⟩ (.int .i64 0))) ?hg ?ho ?hn ?hr ?_; (case ho => rfl); (case hg => rfl); (case hn => rfl); (case hr => first | (go_simp; done) | (go_simp; rfl)); intro w18 hw; have hg : wc.grownBy w18 (some go11) := (by rw [hw]; exact HP17.2); have hp_ : Kd.R (Kd.int .i64) 2 w18 w0.heap.size (fun k_ => (P1_ k_ ∨ w.heap.size ≤ k_)) (.slice (some ⟨go11, 0, none⟩) l1.length co11) y238 := (by rw [hw, Ny238.out]; exact HP17.1); clear HP17; replace HB := am ((by rw [hw]; exact below_set (HB.out) GB11.out : Below w0.heap.size w0 w18)); replace HK := am (Kept.of_grown (S := (fun k_ => P1_ k_)) hg kk (fun k_ e_ => (HO_1.out.1 k_ e_))); replace HO_1 := am (hp_); clear hg hw hp_; have p13 : 0 ≤ (1 : Int) := (by omega); have q13 : (1 : Int) < ((l1.length : Int) : Int) := ode; have qi13 : (1 < l1.length) = True := eq_true (by omega); obtain ⟨hx13_0, hf13_0⟩ := Kd.R_celln 0 HO_1.out (1 : Int) p13 q13; (try rw [t1] at hx13_0); (try simp only [Nat.reduceMul, Nat.zero_mul, Nat.zero_add, Nat.reduceAdd] at hx13_0); (try rw [t1] at hf13_0); (try simp only [Nat.reduceMul, Nat.zero_mul, Nat.zero_add, Nat.reduceAdd] at hf13_0); replace p13 := eq_true p13; replace q13 := eq_true q13; obtain ⟨hy19_, hz19_⟩ := Kd.R_celln 0 HO_1.out (1 : Int) (by omega) (ode); (try simp only [Int.reduceToNat, Int.toNat_zero, Int.toNat_ofNat, Nat.reduceMul, Nat.zero_mul, Nat.zero_add] at hy19_ hz19_); (try rw [t1] at hy19_); (try rw [t1] at hz19_); have HP19 := Kd.R_putg HO_1.out (1 : Int) (0 + 1)) | ((refine gate_store (t := 2) (p := 41) rfl ?_); refine store_event (t := 2) (p := 41) (v := ?vo_w20) (w1 := (w18.setCell ⟨go11, (1 : Int).toNat, none⟩ (.int .i64 (0 + 1)))) ?hg ?ho ?hn ?hr ?_; (case ho => rfl); (case hg => rfl); (case hn => rfl); (case hr => first | (go_simp; done) | (go_simp; rfl)); intro w20 hw; have hg : w18.grownBy w20 (some go11) := (by rw [hw]; exact HP19.2); have hp_ : Kd.R (Kd.int .i64) 2 w20 w0.heap.size (fun k_ => (P1_ k_ ∨ w.heap.size ≤ k_)) (.slice (some ⟨go11, 0, none⟩) l1.length co11) y239 := (by rw [hw, Ny239.out]; exact HP19.1); clear HP19; replace HB := am ((by rw [hw]; exact below_set (HB.out) GB11.out : Below w0.heap.size w0 w20)); replace HK := am (Kept.of_grown (S := (fun k_ => P1_ k_)) hg kk (fun k_ e_ => (HO_1.out.1 k_ e_))); replace HO_1 := am (hp_); clear hg hw hp_) | ((refine gate_callee (f := 30) rfl ?_); refine gl (some 44) Tryz.func30 #[.bool a2] ?_; (with_reducible refine (timer_bit.calls a2 t240 _ A14.out).mono ?_); rintro e w' ⟨rfl, ⟨nd, rfl⟩⟩; refine ⟨_, rfl, ?_⟩; (try (rw [drewN_self w20]; generalize hq_ : World.drewN w20 _ = w20; have n0_ : Aside0 (Kd.R (Kd.int .i64) 2 w20 w0.heap.size (fun k_ => (P1_ k_ ∨ w.heap.size ≤ k_)) (.slice (some ⟨go11, 0, none⟩) l1.length co11) y239) := ⟨by rw [← hq_]; exact (rr HO_1.out)⟩; have n1_ : Aside0 (Kept w w20 (fun k_ => P1_ k_)) := ⟨by rw [← hq_]; exact kk⟩; have n2_ : Aside0 (Below w0.heap.size w0 w20) := ⟨by rw [← hq_]; exact bl⟩; clear HO_1 HK HB hq_; have HO_1 := n0_; have HK := n1_; have HB := n2_; clear n0_ n1_ n2_)); have p16 : 0 ≤ (0 : Int) := (by omega); have q16 : (0 : Int) < ((l1.length : Int) : Int) := ode; have qi16 : (0 < l1.length) = True := eq_true (by omega); obtain ⟨hx16_0, hf16_0⟩ := Kd.R_celln 0 HO_1.out (0 : Int) p16 q16; (try rw [t0] at hx16_0); (try simp only [Nat.reduceMul, Nat.zero_mul, Nat.zero_add, Nat.reduceAdd] at hx16_0); (try rw [t0] at hf16_0); (try simp only [Nat.reduceMul, Nat.zero_mul, Nat.zero_add, Nat.reduceAdd] at hf16_0); replace p16 := eq_true p16; replace q16 := eq_true q16; obtain ⟨hy21_, hz21_⟩ := Kd.R_celln 0 HO_1.out (0 : Int) (by omega) (ode); (try simp only [Int.reduceToNat, Int.toNat_zero, Int.toNat_ofNat, Nat.reduceMul, Nat.zero_mul, Nat.zero_add] at hy21_ hz21_); (try rw [t0] at hy21_); (try rw [t0] at hz21_); have HP21 := Kd.R_putg HO_1.out (0 : Int) t240) | ((refine gate_store (t := 2) (p := 45) rfl ?_); refine store_event (t := 2) (p := 45) (v := ?vo_w22) (w1 := (w20.setCell ⟨go11, (0 : Int).toNat, none⟩ (.int .i64 t240))) ?hg ?ho ?hn ?hr ?_; (case ho => rfl); (case hg => rfl); (case hn => rfl); (case hr => first | (go_simp; done) | (go_simp; rfl)); intro w22 hw; have hg : w20.grownBy w22 (some go11) := (by rw [hw]; exact HP21.2); have hp_ : Kd.R (Kd.int .i64) 2 w22 w0.heap.size (fun k_ => (P1_ k_ ∨ w.heap.size ≤ k_)) (.slice (some ⟨go11, 0, none⟩) l1.length co11) y241 := (by rw [hw, Ny241.out]; exact HP21.1); clear HP21; replace HB := am ((by rw [hw]; exact below_set (HB.out) GB11.out : Below w0.heap.size w0 w22)); replace HK := am (Kept.of_grown (S := (fun k_ => P1_ k_)) hg kk (fun k_ e_ => (HO_1.out.1 k_ e_))); replace HO_1 := am (hp_); clear hg hw hp_))
   go_ret
   exact ⟨ew, rr HO_1.out, bl, kk⟩
  replace c9 := Bool.eq_false_iff.mpr c9
  subst c9
  rw [if_neg (show ¬ (false = true) by decide)] at H
  have c30 := oi H; rw [if_pos c30] at H
  have c30b0 := decide_eq_true c30
  have c30b1 : decide (1 < l1.length) = true := decide_eq_true (by omega)
  clear c30
  by_cases c31 : (rd l1 1) = 0
  ·
   rw [if_pos c31] at H
   have c31b0 := beq_iff_eq.mpr c31
   have c31b1 := bne_eq_false_iff_eq.mpr c31
   clear c31
   by_cases c32 : (-1) ≥ 0
   ·
    exact absurd (show ((-1) : Int) ≥ 0 from c32) (by decide)
   rw [if_neg c32] at H
   have c32b0 : decide (0 ≤ (-1)) = false := decide_eq_false c32
   clear c32
   obtain ⟨y251, hy251⟩ : ∃ y_ : List Int, y_ = (l1.set (1 : Int).toNat 0) := ⟨_, rfl⟩
   (try rw [← hy251] at H); (try rw [Option.bind_some] at H); (try dsimp only at H)
   have Ny251 := am hy251
   clear hy251
   obtain ⟨t252, A55, H⟩ := Option.bind_eq_some_iff.mp H
   (try dsimp only at H)
   replace A55 := am A55
   have c56 := oi H; rw [if_pos c56] at H
   have c56b0 := decide_eq_true c56
   have c56b1 : decide (0 < l1.length) = true := decide_eq_true (by omega)
   clear c56
   obtain ⟨y253, hy253⟩ : ∃ y_ : List Int, y_ = (y251.set (0 : Int).toNat t252) := ⟨_, rfl⟩
   (try rw [← hy253] at H); (try rw [Option.bind_some] at H); (try dsimp only at H)
   have Ny253 := am hy253
   clear hy253
   simp only [Option.some.injEq, Prod.mk.injEq] at H
   obtain ⟨rfl, rfl⟩ := H
   obtain ⟨Ao58, co58, eo58⟩ := Kd.R_slice HO_1.out
   subst eo58
   have q244 := ix1 (n := l1.length) ode; obtain ⟨ad244, e244, hx244_0⟩ := Kd.at_int (Kd.R_reads' HO_1.out).2.2 1 (by omega) (of_eq_true q244.2.2); cases e244; (try simp only [t1, Nat.reduceMul, Nat.reduceEqDiff, Go.Addr.add, ↓reduceIte] at hx244_0); obtain ⟨qi244, p244, q244⟩ := q244; have p54 : 0 ≤ (1 : Int) := (by omega); have q54 : (1 : Int) < ((l1.length : Int) : Int) := ode; have qi54 : (1 < l1.length) = True := eq_true (by omega)
   obtain ⟨go54, co54, eo54, gb54, gl54, cl54, HG54⟩ := Kd.R_form HO_1.out (by omega)
   (first | cases eo54 | (injection eo54 with ea_ en_ ec_; (first | subst ea_ | (injection ea_ with ea_; subst ea_)); subst ec_; clear en_))
   have GB54 := am gb54
   have GG54 := am HG54
   clear gb54 gl54 HG54
   have HMgo54 := am (show (P1_ go54 ∨ w.heap.size ≤ go54) from (HO_1.out.1 _ rfl))
   (first | simp only [add_plain] at hx244_0 | skip)
   obtain ⟨hx54_0, hf54_0⟩ := Kd.R_celln 0 HO_1.out (1 : Int) p54 q54
   (try rw [t1] at hx54_0); (try simp only [Nat.reduceMul, Nat.zero_mul, Nat.zero_add, Nat.reduceAdd] at hx54_0); (try rw [t1] at hf54_0)
   (try simp only [Nat.reduceMul, Nat.zero_mul, Nat.zero_add, Nat.reduceAdd] at hf54_0)
   replace p54 := eq_true p54; replace q54 := eq_true q54
   have HP59 := Kd.R_putg HO_1.out (1 : Int) 0
   go_wp2_with (first | ((refine gate_store (t := 2) (p := 36) rfl ?_); refine store_event (t := 2) (p := 36) (v := ?vo_w60) (w1 := (wc.setCell ⟨go54, (1 : Int).toNat, none⟩ (.int .i64 0))) ?hg ?ho ?hn ?hr ?_; (case ho => rfl); (case hg => rfl); (case hn => rfl); (case hr => first | (go_simp; done) | (go_simp; rfl)); intro w60 hw; have hg : wc.grownBy w60 (some go54) := (by rw [hw]; exact HP59.2); have hp_ : Kd.R (Kd.int .i64) 2 w60 w0.heap.size (fun k_ => (P1_ k_ ∨ w.heap.size ≤ k_)) (.slice (some ⟨go54, 0, none⟩) l1.length co58) y251 := (by rw [hw, Ny251.out]; exact HP59.1); clear HP59; replace HB := am ((by rw [hw]; exact below_set (HB.out) GB54.out : Below w0.heap.size w0 w60)); replace HK := am (Kept.of_grown (S := (fun k_ => P1_ k_)) hg kk (fun k_ e_ => (HO_1.out.1 k_ e_))); replace HO_1 := am (hp_); clear hg hw hp_) | ((refine gate_callee (f := 30) rfl ?_); refine gl (some 44) Tryz.func30 #[.bool a2] ?_; (with_reducible refine (timer_bit.calls a2 t252 _ A55.out).mono ?_); rintro e w' ⟨rfl, ⟨nd, rfl⟩⟩; refine ⟨_, rfl, ?_⟩; (try (rw [drewN_self w60]; generalize hq_ : World.drewN w60 _ = w60; have n0_ : Aside0 (Kd.R (Kd.int .i64) 2 w60 w0.heap.size (fun k_ => (P1_ k_ ∨ w.heap.size ≤ k_)) (.slice (some ⟨go54, 0, none⟩) l1.length co58) y251) := ⟨by rw [← hq_]; exact (rr HO_1.out)⟩; have n1_ : Aside0 (Kept w w60 (fun k_ => P1_ k_)) := ⟨by rw [← hq_]; exact kk⟩; have n2_ : Aside0 (Below w0.heap.size w0 w60) := ⟨by rw [← hq_]; exact bl⟩; clear HO_1 HK HB hq_; have HO_1 := n0_; have HK := n1_; have HB := n2_; clear n0_ n1_ n2_)); have p57 : 0 ≤ (0 : Int) := (by omega); have q57 : (0 : Int) < ((l1.length : Int) : Int) := ode; have qi57 : (0 < l1.length) = True := eq_true (by omega); obtain ⟨hx57_0, hf57_0⟩ := Kd.R_celln 0 HO_1.out (0 : Int) p57 q57; (try rw [t0] at hx57_0); (try simp only [Nat.reduceMul, Nat.zero_mul, Nat.zero_add, Nat.reduceAdd] at hx57_0); (try rw [t0] at hf57_0); (try simp only [Nat.reduceMul, Nat.zero_mul, Nat.zero_add, Nat.reduceAdd] at hf57_0); replace p57 := eq_true p57; replace q57 := eq_true q57; obtain ⟨hy61_, hz61_⟩ := Kd.R_celln 0 HO_1.out (0 : Int) (by omega) (ode); (try simp only [Int.reduceToNat, Int.toNat_zero, Int.toNat_ofNat, Nat.reduceMul, Nat.zero_mul, Nat.zero_add] at hy61_ hz61_); (try rw [t0] at hy61_); (try rw [t0] at hz61_); have HP61 := Kd.R_putg HO_1.out (0 : Int) t252) | ((refine gate_store (t := 2) (p := 45) rfl ?_); refine store_event (t := 2) (p := 45) (v := ?vo_w62) (w1 := (w60.setCell ⟨go54, (0 : Int).toNat, none⟩ (.int .i64 t252))) ?hg ?ho ?hn ?hr ?_; (case ho => rfl); (case hg => rfl); (case hn => rfl); (case hr => first | (go_simp; done) | (go_simp; rfl)); intro w62 hw; have hg : w60.grownBy w62 (some go54) := (by rw [hw]; exact HP61.2); have hp_ : Kd.R (Kd.int .i64) 2 w62 w0.heap.size (fun k_ => (P1_ k_ ∨ w.heap.size ≤ k_)) (.slice (some ⟨go54, 0, none⟩) l1.length co58) y253 := (by rw [hw, Ny253.out]; exact HP61.1); clear HP61; replace HB := am ((by rw [hw]; exact below_set (HB.out) GB54.out : Below w0.heap.size w0 w62)); replace HK := am (Kept.of_grown (S := (fun k_ => P1_ k_)) hg kk (fun k_ e_ => (HO_1.out.1 k_ e_))); replace HO_1 := am (hp_); clear hg hw hp_))
   go_ret
   exact ⟨ew, rr HO_1.out, bl, kk⟩
  rw [if_neg c31] at H
  have c31b0 := beq_eq_false_iff_ne.mpr c31
  have c31b1 := bne_iff_ne.mpr c31
  by_cases c63 : (wrap64 ((wrap64 ((rd l1 1) - 1)) + a3)) ≥ 0
  rotate_left
  ·
   rw [if_neg c63] at H
   have c63b0 : decide (0 ≤ (wrap64 ((wrap64 ((rd l1 1) - 1)) + a3))) = false := decide_eq_false c63
   clear c63
   obtain ⟨y261, hy261⟩ : ∃ y_ : List Int, y_ = (l1.set (1 : Int).toNat 0) := ⟨_, rfl⟩
   (try rw [← hy261] at H); (try rw [Option.bind_some] at H); (try dsimp only at H)
   have Ny261 := am hy261
   clear hy261
   obtain ⟨t262, A86, H⟩ := Option.bind_eq_some_iff.mp H
   (try dsimp only at H)
   replace A86 := am A86
   have c87 := oi H; rw [if_pos c87] at H
   have c87b0 := decide_eq_true c87
   have c87b1 : decide (0 < l1.length) = true := decide_eq_true (by omega)
   clear c87
   obtain ⟨y263, hy263⟩ : ∃ y_ : List Int, y_ = (y261.set (0 : Int).toNat t262) := ⟨_, rfl⟩
   (try rw [← hy263] at H); (try rw [Option.bind_some] at H); (try dsimp only at H)
   have Ny263 := am hy263
   clear hy263
   simp only [Option.some.injEq, Prod.mk.injEq] at H
   obtain ⟨rfl, rfl⟩ := H
   obtain ⟨Ao89, co89, eo89⟩ := Kd.R_slice HO_1.out
   subst eo89
   have q244 := ix1 (n := l1.length) ode; obtain ⟨ad244, e244, hx244_0⟩ := Kd.at_int (Kd.R_reads' HO_1.out).2.2 1 (by omega) (of_eq_true q244.2.2); cases e244; (try simp only [t1, Nat.reduceMul, Nat.reduceEqDiff, Go.Addr.add, ↓reduceIte] at hx244_0); obtain ⟨qi244, p244, q244⟩ := q244; have q254 := ix1 (n := l1.length) ode; obtain ⟨ad254, e254, hx254_0⟩ := Kd.at_int (Kd.R_reads' HO_1.out).2.2 1 (by omega) (of_eq_true q254.2.2); obtain rfl : ad244 = ad254 := (by injection e254); (try simp only [t1, Nat.reduceMul, Nat.reduceEqDiff, Go.Addr.add, ↓reduceIte] at hx254_0); obtain ⟨qi254, p254, q254⟩ := q254; have p85 : 0 ≤ (1 : Int) := (by omega); have q85 : (1 : Int) < ((l1.length : Int) : Int) := ode; have qi85 : (1 < l1.length) = True := eq_true (by omega)
   obtain ⟨go85, co85, eo85, gb85, gl85, cl85, HG85⟩ := Kd.R_form HO_1.out (by omega)
   (first | cases eo85 | (injection eo85 with ea_ en_ ec_; (first | subst ea_ | (injection ea_ with ea_; subst ea_)); subst ec_; clear en_))
   have GB85 := am gb85
   have GG85 := am HG85
   clear gb85 gl85 HG85
   have HMgo85 := am (show (P1_ go85 ∨ w.heap.size ≤ go85) from (HO_1.out.1 _ rfl))
   (first | simp only [add_plain] at hx244_0 | skip)
   (first | simp only [add_plain] at hx254_0 | skip)
   obtain ⟨hx85_0, hf85_0⟩ := Kd.R_celln 0 HO_1.out (1 : Int) p85 q85
   (try rw [t1] at hx85_0); (try simp only [Nat.reduceMul, Nat.zero_mul, Nat.zero_add, Nat.reduceAdd] at hx85_0); (try rw [t1] at hf85_0)
   (try simp only [Nat.reduceMul, Nat.zero_mul, Nat.zero_add, Nat.reduceAdd] at hf85_0)
   replace p85 := eq_true p85; replace q85 := eq_true q85
   have HP90 := Kd.R_putg HO_1.out (1 : Int) 0
   go_wp2_with (first | ((refine gate_store (t := 2) (p := 36) rfl ?_); refine store_event (t := 2) (p := 36) (v := ?vo_w91) (w1 := (wc.setCell ⟨go85, (1 : Int).toNat, none⟩ (.int .i64 0))) ?hg ?ho ?hn ?hr ?_; (case ho => rfl); (case hg => rfl); (case hn => rfl); (case hr => first | (go_simp; done) | (go_simp; rfl)); intro w91 hw; have hg : wc.grownBy w91 (some go85) := (by rw [hw]; exact HP90.2); have hp_ : Kd.R (Kd.int .i64) 2 w91 w0.heap.size (fun k_ => (P1_ k_ ∨ w.heap.size ≤ k_)) (.slice (some ⟨go85, 0, none⟩) l1.length co89) y261 := (by rw [hw, Ny261.out]; exact HP90.1); clear HP90; replace HB := am ((by rw [hw]; exact below_set (HB.out) GB85.out : Below w0.heap.size w0 w91)); replace HK := am (Kept.of_grown (S := (fun k_ => P1_ k_)) hg kk (fun k_ e_ => (HO_1.out.1 k_ e_))); replace HO_1 := am (hp_); clear hg hw hp_) | ((refine gate_callee (f := 30) rfl ?_); refine gl (some 44) Tryz.func30 #[.bool a2] ?_; (with_reducible refine (timer_bit.calls a2 t262 _ A86.out).mono ?_); rintro e w' ⟨rfl, ⟨nd, rfl⟩⟩; refine ⟨_, rfl, ?_⟩; (try (rw [drewN_self w91]; generalize hq_ : World.drewN w91 _ = w91; have n0_ : Aside0 (Kd.R (Kd.int .i64) 2 w91 w0.heap.size (fun k_ => (P1_ k_ ∨ w.heap.size ≤ k_)) (.slice (some ⟨go85, 0, none⟩) l1.length co89) y261) := ⟨by rw [← hq_]; exact (rr HO_1.out)⟩; have n1_ : Aside0 (Kept w w91 (fun k_ => P1_ k_)) := ⟨by rw [← hq_]; exact kk⟩; have n2_ : Aside0 (Below w0.heap.size w0 w91) := ⟨by rw [← hq_]; exact bl⟩; clear HO_1 HK HB hq_; have HO_1 := n0_; have HK := n1_; have HB := n2_; clear n0_ n1_ n2_)); have p88 : 0 ≤ (0 : Int) := (by omega); have q88 : (0 : Int) < ((l1.length : Int) : Int) := ode; have qi88 : (0 < l1.length) = True := eq_true (by omega); obtain ⟨hx88_0, hf88_0⟩ := Kd.R_celln 0 HO_1.out (0 : Int) p88 q88; (try rw [t0] at hx88_0); (try simp only [Nat.reduceMul, Nat.zero_mul, Nat.zero_add, Nat.reduceAdd] at hx88_0); (try rw [t0] at hf88_0); (try simp only [Nat.reduceMul, Nat.zero_mul, Nat.zero_add, Nat.reduceAdd] at hf88_0); replace p88 := eq_true p88; replace q88 := eq_true q88; obtain ⟨hy92_, hz92_⟩ := Kd.R_celln 0 HO_1.out (0 : Int) (by omega) (ode); (try simp only [Int.reduceToNat, Int.toNat_zero, Int.toNat_ofNat, Nat.reduceMul, Nat.zero_mul, Nat.zero_add] at hy92_ hz92_); (try rw [t0] at hy92_); (try rw [t0] at hz92_); have HP92 := Kd.R_putg HO_1.out (0 : Int) t262) | ((refine gate_store (t := 2) (p := 45) rfl ?_); refine store_event (t := 2) (p := 45) (v := ?vo_w93) (w1 := (w91.setCell ⟨go85, (0 : Int).toNat, none⟩ (.int .i64 t262))) ?hg ?ho ?hn ?hr ?_; (case ho => rfl); (case hg => rfl); (case hn => rfl); (case hr => first | (go_simp; done) | (go_simp; rfl)); intro w93 hw; have hg : w91.grownBy w93 (some go85) := (by rw [hw]; exact HP92.2); have hp_ : Kd.R (Kd.int .i64) 2 w93 w0.heap.size (fun k_ => (P1_ k_ ∨ w.heap.size ≤ k_)) (.slice (some ⟨go85, 0, none⟩) l1.length co89) y263 := (by rw [hw, Ny263.out]; exact HP92.1); clear HP92; replace HB := am ((by rw [hw]; exact below_set (HB.out) GB85.out : Below w0.heap.size w0 w93)); replace HK := am (Kept.of_grown (S := (fun k_ => P1_ k_)) hg kk (fun k_ e_ => (HO_1.out.1 k_ e_))); replace HO_1 := am (hp_); clear hg hw hp_))
   go_ret
   exact ⟨ew, rr HO_1.out, bl, kk⟩
  rw [if_pos c63] at H
  have c63b0 : decide (0 ≤ (wrap64 ((wrap64 ((rd l1 1) - 1)) + a3))) = true := decide_eq_true c63
  clear c63
  obtain ⟨y255, hy255⟩ : ∃ y_ : List Int, y_ = (l1.set (1 : Int).toNat 0) := ⟨_, rfl⟩
  (try rw [← hy255] at H); (try rw [Option.bind_some] at H); (try dsimp only at H)
  have Ny255 := am hy255
  clear hy255
  by_cases c65 : (wrap64 ((wrap64 ((rd l1 1) - 1)) + a3)) < a0
  rotate_left
  ·
   rw [if_neg c65] at H
   have c65b0 := decide_eq_false c65
   clear c65
   obtain ⟨t259, A77, H⟩ := Option.bind_eq_some_iff.mp H
   (try dsimp only at H)
   replace A77 := am A77
   have c78 := oi H; rw [if_pos c78] at H
   have c78b0 := decide_eq_true c78
   have c78b1 : decide (0 < l1.length) = true := decide_eq_true (by omega)
   clear c78
   obtain ⟨y260, hy260⟩ : ∃ y_ : List Int, y_ = (y255.set (0 : Int).toNat t259) := ⟨_, rfl⟩
   (try rw [← hy260] at H); (try rw [Option.bind_some] at H); (try dsimp only at H)
   have Ny260 := am hy260
   clear hy260
   simp only [Option.some.injEq, Prod.mk.injEq] at H
   obtain ⟨rfl, rfl⟩ := H
   obtain ⟨Ao80, co80, eo80⟩ := Kd.R_slice HO_1.out
   subst eo80
   have q244 := ix1 (n := l1.length) ode; obtain ⟨ad244, e244, hx244_0⟩ := Kd.at_int (Kd.R_reads' HO_1.out).2.2 1 (by omega) (of_eq_true q244.2.2); cases e244; (try simp only [t1, Nat.reduceMul, Nat.reduceEqDiff, Go.Addr.add, ↓reduceIte] at hx244_0); obtain ⟨qi244, p244, q244⟩ := q244; have q254 := ix1 (n := l1.length) ode; obtain ⟨ad254, e254, hx254_0⟩ := Kd.at_int (Kd.R_reads' HO_1.out).2.2 1 (by omega) (of_eq_true q254.2.2); obtain rfl : ad244 = ad254 := (by injection e254); (try simp only [t1, Nat.reduceMul, Nat.reduceEqDiff, Go.Addr.add, ↓reduceIte] at hx254_0); obtain ⟨qi254, p254, q254⟩ := q254; have p64 : 0 ≤ (1 : Int) := (by omega); have q64 : (1 : Int) < ((l1.length : Int) : Int) := ode; have qi64 : (1 < l1.length) = True := eq_true (by omega)
   obtain ⟨go64, co64, eo64, gb64, gl64, cl64, HG64⟩ := Kd.R_form HO_1.out (by omega)
   (first | cases eo64 | (injection eo64 with ea_ en_ ec_; (first | subst ea_ | (injection ea_ with ea_; subst ea_)); subst ec_; clear en_))
   have GB64 := am gb64
   have GG64 := am HG64
   clear gb64 gl64 HG64
   have HMgo64 := am (show (P1_ go64 ∨ w.heap.size ≤ go64) from (HO_1.out.1 _ rfl))
   (first | simp only [add_plain] at hx244_0 | skip)
   (first | simp only [add_plain] at hx254_0 | skip)
   obtain ⟨hx64_0, hf64_0⟩ := Kd.R_celln 0 HO_1.out (1 : Int) p64 q64
   (try rw [t1] at hx64_0); (try simp only [Nat.reduceMul, Nat.zero_mul, Nat.zero_add, Nat.reduceAdd] at hx64_0); (try rw [t1] at hf64_0)
   (try simp only [Nat.reduceMul, Nat.zero_mul, Nat.zero_add, Nat.reduceAdd] at hf64_0)
   replace p64 := eq_true p64; replace q64 := eq_true q64
   have HP81 := Kd.R_putg HO_1.out (1 : Int) 0
   go_wp2_with (first | ((refine gate_store (t := 2) (p := 36) rfl ?_); refine store_event (t := 2) (p := 36) (v := ?vo_w82) (w1 := (wc.setCell ⟨go64, (1 : Int).toNat, none⟩ (.int .i64 0))) ?hg ?ho ?hn ?hr ?_; (case ho => rfl); (case hg => rfl); (case hn => rfl); (case hr => first | (go_simp; done) | (go_simp; rfl)); intro w82 hw; have hg : wc.grownBy w82 (some go64) := (by rw [hw]; exact HP81.2); have hp_ : Kd.R (Kd.int .i64) 2 w82 w0.heap.size (fun k_ => (P1_ k_ ∨ w.heap.size ≤ k_)) (.slice (some ⟨go64, 0, none⟩) l1.length co80) y255 := (by rw [hw, Ny255.out]; exact HP81.1); clear HP81; replace HB := am ((by rw [hw]; exact below_set (HB.out) GB64.out : Below w0.heap.size w0 w82)); replace HK := am (Kept.of_grown (S := (fun k_ => P1_ k_)) hg kk (fun k_ e_ => (HO_1.out.1 k_ e_))); replace HO_1 := am (hp_); clear hg hw hp_) | ((refine gate_callee (f := 30) rfl ?_); refine gl (some 44) Tryz.func30 #[.bool a2] ?_; (with_reducible refine (timer_bit.calls a2 t259 _ A77.out).mono ?_); rintro e w' ⟨rfl, ⟨nd, rfl⟩⟩; refine ⟨_, rfl, ?_⟩; (try (rw [drewN_self w82]; generalize hq_ : World.drewN w82 _ = w82; have n0_ : Aside0 (Kd.R (Kd.int .i64) 2 w82 w0.heap.size (fun k_ => (P1_ k_ ∨ w.heap.size ≤ k_)) (.slice (some ⟨go64, 0, none⟩) l1.length co80) y255) := ⟨by rw [← hq_]; exact (rr HO_1.out)⟩; have n1_ : Aside0 (Kept w w82 (fun k_ => P1_ k_)) := ⟨by rw [← hq_]; exact kk⟩; have n2_ : Aside0 (Below w0.heap.size w0 w82) := ⟨by rw [← hq_]; exact bl⟩; clear HO_1 HK HB hq_; have HO_1 := n0_; have HK := n1_; have HB := n2_; clear n0_ n1_ n2_)); have p79 : 0 ≤ (0 : Int) := (by omega); have q79 : (0 : Int) < ((l1.length : Int) : Int) := ode; have qi79 : (0 < l1.length) = True := eq_true (by omega); obtain ⟨hx79_0, hf79_0⟩ := Kd.R_celln 0 HO_1.out (0 : Int) p79 q79; (try rw [t0] at hx79_0); (try simp only [Nat.reduceMul, Nat.zero_mul, Nat.zero_add, Nat.reduceAdd] at hx79_0); (try rw [t0] at hf79_0); (try simp only [Nat.reduceMul, Nat.zero_mul, Nat.zero_add, Nat.reduceAdd] at hf79_0); replace p79 := eq_true p79; replace q79 := eq_true q79; obtain ⟨hy83_, hz83_⟩ := Kd.R_celln 0 HO_1.out (0 : Int) (by omega) (ode); (try simp only [Int.reduceToNat, Int.toNat_zero, Int.toNat_ofNat, Nat.reduceMul, Nat.zero_mul, Nat.zero_add] at hy83_ hz83_); (try rw [t0] at hy83_); (try rw [t0] at hz83_); have HP83 := Kd.R_putg HO_1.out (0 : Int) t259) | ((refine gate_store (t := 2) (p := 45) rfl ?_); refine store_event (t := 2) (p := 45) (v := ?vo_w84) (w1 := (w82.setCell ⟨go64, (0 : Int).toNat, none⟩ (.int .i64 t259))) ?hg ?ho ?hn ?hr ?_; (case ho => rfl); (case hg => rfl); (case hn => rfl); (case hr => first | (go_simp; done) | (go_simp; rfl)); intro w84 hw; have hg : w82.grownBy w84 (some go64) := (by rw [hw]; exact HP83.2); have hp_ : Kd.R (Kd.int .i64) 2 w84 w0.heap.size (fun k_ => (P1_ k_ ∨ w.heap.size ≤ k_)) (.slice (some ⟨go64, 0, none⟩) l1.length co80) y260 := (by rw [hw, Ny260.out]; exact HP83.1); clear HP83; replace HB := am ((by rw [hw]; exact below_set (HB.out) GB64.out : Below w0.heap.size w0 w84)); replace HK := am (Kept.of_grown (S := (fun k_ => P1_ k_)) hg kk (fun k_ e_ => (HO_1.out.1 k_ e_))); replace HO_1 := am (hp_); clear hg hw hp_))
   go_ret
   exact ⟨ew, rr HO_1.out, bl, kk⟩
  rw [if_pos c65] at H
  have c65b0 := decide_eq_true c65
  clear c65
  obtain ⟨y256, hy256⟩ : ∃ y_ : List Int, y_ = (y255.set (1 : Int).toNat (wrap64 ((wrap64 ((wrap64 ((rd l1 1) - 1)) + a3)) + 1))) := ⟨_, rfl⟩
  (try rw [← hy256] at H); (try rw [Option.bind_some] at H); (try dsimp only at H)
  have Ny256 := am hy256
  clear hy256
  obtain ⟨t257, A67, H⟩ := Option.bind_eq_some_iff.mp H
  (try dsimp only at H)
  replace A67 := am A67
  have c68 := oi H; rw [if_pos c68] at H
  have c68b0 := decide_eq_true c68
  have c68b1 : decide (0 < l1.length) = true := decide_eq_true (by omega)
  clear c68
  obtain ⟨y258, hy258⟩ : ∃ y_ : List Int, y_ = (y256.set (0 : Int).toNat t257) := ⟨_, rfl⟩
  (try rw [← hy258] at H); (try rw [Option.bind_some] at H); (try dsimp only at H)
  have Ny258 := am hy258
  clear hy258
  simp only [Option.some.injEq, Prod.mk.injEq] at H
  obtain ⟨rfl, rfl⟩ := H
  obtain ⟨Ao70, co70, eo70⟩ := Kd.R_slice HO_1.out
  subst eo70
  have q244 := ix1 (n := l1.length) ode; obtain ⟨ad244, e244, hx244_0⟩ := Kd.at_int (Kd.R_reads' HO_1.out).2.2 1 (by omega) (of_eq_true q244.2.2); cases e244; (try simp only [t1, Nat.reduceMul, Nat.reduceEqDiff, Go.Addr.add, ↓reduceIte] at hx244_0); obtain ⟨qi244, p244, q244⟩ := q244; have q254 := ix1 (n := l1.length) ode; obtain ⟨ad254, e254, hx254_0⟩ := Kd.at_int (Kd.R_reads' HO_1.out).2.2 1 (by omega) (of_eq_true q254.2.2); obtain rfl : ad244 = ad254 := (by injection e254); (try simp only [t1, Nat.reduceMul, Nat.reduceEqDiff, Go.Addr.add, ↓reduceIte] at hx254_0); obtain ⟨qi254, p254, q254⟩ := q254; have p64 : 0 ≤ (1 : Int) := (by omega); have q64 : (1 : Int) < ((l1.length : Int) : Int) := ode; have qi64 : (1 < l1.length) = True := eq_true (by omega)
  obtain ⟨go64, co64, eo64, gb64, gl64, cl64, HG64⟩ := Kd.R_form HO_1.out (by omega)
  (first | cases eo64 | (injection eo64 with ea_ en_ ec_; (first | subst ea_ | (injection ea_ with ea_; subst ea_)); subst ec_; clear en_))
  have GB64 := am gb64
  have GG64 := am HG64
  clear gb64 gl64 HG64
  have HMgo64 := am (show (P1_ go64 ∨ w.heap.size ≤ go64) from (HO_1.out.1 _ rfl))
  (first | simp only [add_plain] at hx244_0 | skip)
  (first | simp only [add_plain] at hx254_0 | skip)
  obtain ⟨hx64_0, hf64_0⟩ := Kd.R_celln 0 HO_1.out (1 : Int) p64 q64
  (try rw [t1] at hx64_0); (try simp only [Nat.reduceMul, Nat.zero_mul, Nat.zero_add, Nat.reduceAdd] at hx64_0); (try rw [t1] at hf64_0)
  (try simp only [Nat.reduceMul, Nat.zero_mul, Nat.zero_add, Nat.reduceAdd] at hf64_0)
  replace p64 := eq_true p64; replace q64 := eq_true q64
  have HP71 := Kd.R_putg HO_1.out (1 : Int) 0
  go_wp2_with (first | ((refine gate_store (t := 2) (p := 36) rfl ?_); refine store_event (t := 2) (p := 36) (v := ?vo_w72) (w1 := (wc.setCell ⟨go64, (1 : Int).toNat, none⟩ (.int .i64 0))) ?hg ?ho ?hn ?hr ?_; (case ho => rfl); (case hg => rfl); (case hn => rfl); (case hr => first | (go_simp; done) | (go_simp; rfl)); intro w72 hw; have hg : wc.grownBy w72 (some go64) := (by rw [hw]; exact HP71.2); have hp_ : Kd.R (Kd.int .i64) 2 w72 w0.heap.size (fun k_ => (P1_ k_ ∨ w.heap.size ≤ k_)) (.slice (some ⟨go64, 0, none⟩) l1.length co70) y255 := (by rw [hw, Ny255.out]; exact HP71.1); clear HP71; replace HB := am ((by rw [hw]; exact below_set (HB.out) GB64.out : Below w0.heap.size w0 w72)); replace HK := am (Kept.of_grown (S := (fun k_ => P1_ k_)) hg kk (fun k_ e_ => (HO_1.out.1 k_ e_))); replace HO_1 := am (hp_); clear hg hw hp_; have p66 : 0 ≤ (1 : Int) := (by omega); have q66 : (1 : Int) < ((l1.length : Int) : Int) := ode; have qi66 : (1 < l1.length) = True := eq_true (by omega); obtain ⟨hx66_0, hf66_0⟩ := Kd.R_celln 0 HO_1.out (1 : Int) p66 q66; (try rw [t1] at hx66_0); (try simp only [Nat.reduceMul, Nat.zero_mul, Nat.zero_add, Nat.reduceAdd] at hx66_0); (try rw [t1] at hf66_0); (try simp only [Nat.reduceMul, Nat.zero_mul, Nat.zero_add, Nat.reduceAdd] at hf66_0); replace p66 := eq_true p66; replace q66 := eq_true q66; obtain ⟨hy73_, hz73_⟩ := Kd.R_celln 0 HO_1.out (1 : Int) (by omega) (ode); (try simp only [Int.reduceToNat, Int.toNat_zero, Int.toNat_ofNat, Nat.reduceMul, Nat.zero_mul, Nat.zero_add] at hy73_ hz73_); (try rw [t1] at hy73_); (try rw [t1] at hz73_); have HP73 := Kd.R_putg HO_1.out (1 : Int) (wrap64 ((wrap64 ((wrap64 ((rd l1 1) - 1)) + a3)) + 1))) | ((refine gate_store (t := 2) (p := 41) rfl ?_); refine store_event (t := 2) (p := 41) (v := ?vo_w74) (w1 := (w72.setCell ⟨go64, (1 : Int).toNat, none⟩ (.int .i64 (wrap64 ((wrap64 ((wrap64 ((rd l1 1) - 1)) + a3)) + 1))))) ?hg ?ho ?hn ?hr ?_; (case ho => rfl); (case hg => rfl); (case hn => rfl); (case hr => first | (go_simp; done) | (go_simp; rfl)); intro w74 hw; have hg : w72.grownBy w74 (some go64) := (by rw [hw]; exact HP73.2); have hp_ : Kd.R (Kd.int .i64) 2 w74 w0.heap.size (fun k_ => (P1_ k_ ∨ w.heap.size ≤ k_)) (.slice (some ⟨go64, 0, none⟩) l1.length co70) y256 := (by rw [hw, Ny256.out]; exact HP73.1); clear HP73; replace HB := am ((by rw [hw]; exact below_set (HB.out) GB64.out : Below w0.heap.size w0 w74)); replace HK := am (Kept.of_grown (S := (fun k_ => P1_ k_)) hg kk (fun k_ e_ => (HO_1.out.1 k_ e_))); replace HO_1 := am (hp_); clear hg hw hp_) | ((refine gate_callee (f := 30) rfl ?_); refine gl (some 44) Tryz.func30 #[.bool a2] ?_; (with_reducible refine (timer_bit.calls a2 t257 _ A67.out).mono ?_); rintro e w' ⟨rfl, ⟨nd, rfl⟩⟩; refine ⟨_, rfl, ?_⟩; (try (rw [drewN_self w74]; generalize hq_ : World.drewN w74 _ = w74; have n0_ : Aside0 (Kd.R (Kd.int .i64) 2 w74 w0.heap.size (fun k_ => (P1_ k_ ∨ w.heap.size ≤ k_)) (.slice (some ⟨go64, 0, none⟩) l1.length co70) y256) := ⟨by rw [← hq_]; exact (rr HO_1.out)⟩; have n1_ : Aside0 (Kept w w74 (fun k_ => P1_ k_)) := ⟨by rw [← hq_]; exact kk⟩; have n2_ : Aside0 (Below w0.heap.size w0 w74) := ⟨by rw [← hq_]; exact bl⟩; clear HO_1 HK HB hq_; have HO_1 := n0_; have HK := n1_; have HB := n2_; clear n0_ n1_ n2_)); have p69 : 0 ≤ (0 : Int) := (by omega); have q69 : (0 : Int) < ((l1.length : Int) : Int) := ode; have qi69 : (0 < l1.length) = True := eq_true (by omega); obtain ⟨hx69_0, hf69_0⟩ := Kd.R_celln 0 HO_1.out (0 : Int) p69 q69; (try rw [t0] at hx69_0); (try simp only [Nat.reduceMul, Nat.zero_mul, Nat.zero_add, Nat.reduceAdd] at hx69_0); (try rw [t0] at hf69_0); (try simp only [Nat.reduceMul, Nat.zero_mul, Nat.zero_add, Nat.reduceAdd] at hf69_0); replace p69 := eq_true p69; replace q69 := eq_true q69; obtain ⟨hy75_, hz75_⟩ := Kd.R_celln 0 HO_1.out (0 : Int) (by omega) (ode); (try simp only [Int.reduceToNat, Int.toNat_zero, Int.toNat_ofNat, Nat.reduceMul, Nat.zero_mul, Nat.zero_add] at hy75_ hz75_); (try rw [t0] at hy75_); (try rw [t0] at hz75_); have HP75 := Kd.R_putg HO_1.out (0 : Int) t257) | ((refine gate_store (t := 2) (p := 45) rfl ?_); refine store_event (t := 2) (p := 45) (v := ?vo_w76) (w1 := (w74.setCell ⟨go64, (0 : Int).toNat, none⟩ (.int .i64 t257))) ?hg ?ho ?hn ?hr ?_; (case ho => rfl); (case hg => rfl); (case hn => rfl); (case hr => first | (go_simp; done) | (go_simp; rfl)); intro w76 hw; have hg : w74.grownBy w76 (some go64) := (by rw [hw]; exact HP75.2); have hp_ : Kd.R (Kd.int .i64) 2 w76 w0.heap.size (fun k_ => (P1_ k_ ∨ w.heap.size ≤ k_)) (.slice (some ⟨go64, 0, none⟩) l1.length co70) y258 := (by rw [hw, Ny258.out]; exact HP75.1); clear HP75; replace HB := am ((by rw [hw]; exact below_set (HB.out) GB64.out : Below w0.heap.size w0 w76)); replace HK := am (Kept.of_grown (S := (fun k_ => P1_ k_)) hg kk (fun k_ e_ => (HO_1.out.1 k_ e_))); replace HO_1 := am (hp_); clear hg hw hp_))
  go_ret
  exact ⟨ew, rr HO_1.out, bl, kk⟩
end Go.Proofs.YtjjbdgngncgikaaGreatDoor.R
