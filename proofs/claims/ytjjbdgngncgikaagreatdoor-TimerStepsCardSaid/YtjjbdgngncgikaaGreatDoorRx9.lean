-- printed
import Derived.Test.YtjjbdgngncgikaaGreatDoorRx0
import Derived.Test.YtjjbdgngncgikaaGreatDoorRx7
import Derived.Test.YtjjbdgngncgikaaGreatDoorRx8
namespace Go.Proofs.YtjjbdgngncgikaaGreatDoor.R
open Go.RowKit Go.Proofs.YtjjbdgngncgikaaGreatDoorW.PrintWords Go.Proofs.YtjjbdgngncgikaaGreatDoorW.PrintLast Go.Proofs.YtjjbdgngncgikaaGreatDoorW.PrintMore
attribute [local go_sem] max2_int min2_int max_two min_two max_three min_three max_four min_four   -- for this text's walks alone
set_option linter.unusedVariables false
set_option linter.unusedSimpArgs false

/-! ### timer_step: function 19 -/
def timer_step.j0 : Nat → List Int → Bool → Bool → Option (Int × Int × List Int)
 | 0, _, _, _ => none
 | k + 1, x2, x11, x34 => if x34 = true then (if 1 < (x2.length : Int) then ((timer_bit.f x11).bind fun t274 => (if 0 < (x2.length : Int) then ((some ((x2.set (1 : Int).toNat (mn (wrap64 ((rd x2 1) + 1)) 1000000000)).set (0 : Int).toNat t274 : List Int)).bind fun y275 => (some (1, wrap64 (1000 * (rd y275 1)), y275))) else (none))) else (none)) else ((timer_bit.f x11).bind fun t277 => (if 0 < (x2.length : Int) then ((some (x2.set (0 : Int).toNat t277 : List Int)).bind fun y278 => (if 1 < (x2.length : Int) then (some (1, wrap64 (1000 * (rd y278 1)), y278)) else (none))) else (none)))
def timer_step.f (k : Nat) (a0 : ByteArray) (l1 : List Int) (l2 : List Int) (l3 : List (S26)) (a4 : Int) : Option (Int × Int × List Int) := if 0 < (l3.length : Int) then (if a0.toList = ([99, 111, 117, 110, 116] : List UInt8) then (if 1 < (l3.length : Int) then (if ((rd_T26 l3 1).f1) = 1 then (if 1 < (l2.length : Int) then ((timer_bit.f (((rd_T26 l3 0).f1) == 1)).bind fun t268 => (if 0 < (l2.length : Int) then ((some ((l2.set (1 : Int).toNat 0).set (0 : Int).toNat t268 : List Int)).bind fun y269 => (some (1, wrap64 (1000 * (rd y269 1)), y269))) else (none))) else (none)) else (if ((rd_T26 l3 0).f1) = 1 then (if 0 < (l2.length : Int) then (timer_step.j0 k l2 true ((rd l2 0) == 0)) else (none)) else (timer_step.j0 k l2 false false))) else (none)) else (if a0.toList = ([101, 100, 103, 101] : List UInt8) then (if ((rd_T26 l3 0).f1) = 1 then (if 0 < (l2.length : Int) then ((timer_bit.f true).bind fun t281 => ((timer_bit.f ((rd l2 0) == 0)).bind fun t283 => (some (2, t283, (l2.set (0 : Int).toNat t281))))) else (none)) else ((timer_bit.f false).bind fun t284 => (if 0 < (l2.length : Int) then ((timer_bit.f false).bind fun t286 => (some (2, t286, (l2.set (0 : Int).toNat t284)))) else (none)))) else (if a0.toList = ([104, 121, 115, 116] : List UInt8) then (if 0 < (l1.length : Int) then (if ((rd_T26 l3 0).f1) > (rd l1 0) then (if 0 < (l2.length : Int) then ((some (l2.set (0 : Int).toNat 1 : List Int)).bind fun y289 => ((timer_bit.f ((rd y289 0) == 1)).bind fun t291 => (some (2, t291, y289)))) else (none)) else (if 1 < (l1.length : Int) then (if ((rd_T26 l3 0).f1) < (rd l1 1) then (if 0 < (l2.length : Int) then ((some (l2.set (0 : Int).toNat 0 : List Int)).bind fun y294 => ((timer_bit.f ((rd y294 0) == 1)).bind fun t296 => (some (2, t296, y294)))) else (none)) else (if 0 < (l2.length : Int) then ((timer_bit.f ((rd l2 0) == 1)).bind fun t298 => (some (2, t298, l2))) else (none))) else (none))) else (none)) else (if a0.toList = ([108, 97, 116, 99, 104] : List UInt8) then (if 1 < (l3.length : Int) then (if ((rd_T26 l3 1).f1) = 1 then (if 0 < (l2.length : Int) then ((some (l2.set (0 : Int).toNat 0 : List Int)).bind fun y300 => ((timer_bit.f ((rd y300 0) == 1)).bind fun t302 => (some (2, t302, y300)))) else (none)) else (if ((rd_T26 l3 0).f1) = 1 then (if 0 < (l2.length : Int) then ((some (l2.set (0 : Int).toNat 1 : List Int)).bind fun y303 => ((timer_bit.f ((rd y303 0) == 1)).bind fun t305 => (some (2, t305, y303)))) else (none)) else (if 0 < (l2.length : Int) then ((timer_bit.f ((rd l2 0) == 1)).bind fun t307 => (some (2, t307, l2))) else (none)))) else (none)) else (if a0.toList = ([109, 105, 110, 114, 117, 110] : List UInt8) then ((timer_minrun.f k l1 l2 (((rd_T26 l3 0).f1) == 1) a4).bind fun bt308 => ((timer_bit.f bt308.1).bind fun t310 => (some (2, t310, bt308.2)))) else (if a0.toList = ([111, 102, 102, 100, 101, 108, 97, 121] : List UInt8) then (if 0 < (l1.length : Int) then ((timer_offdelay.f (rd l1 0) l2 (((rd_T26 l3 0).f1) == 1) a4).bind fun bt312 => ((timer_bit.f bt312.1).bind fun t314 => (some (2, t314, bt312.2)))) else (none)) else (if a0.toList = ([111, 110, 100, 101, 108, 97, 121] : List UInt8) then (if 0 < (l1.length : Int) then ((timer_ondelay.f (rd l1 0) l2 (((rd_T26 l3 0).f1) == 1) a4).bind fun bt316 => ((timer_bit.f bt316.1).bind fun t318 => (some (2, t318, bt316.2)))) else (none)) else (if a0.toList = ([112, 117, 108, 115, 101] : List UInt8) then (if 0 < (l1.length : Int) then ((timer_pulse.f k (rd l1 0) l2 (((rd_T26 l3 0).f1) == 1) a4).bind fun bt320 => ((timer_bit.f bt320.1).bind fun t322 => (some (2, t322, bt320.2)))) else (none)) else ((timer_bit.f false).bind fun t323 => (some (2, t323, l2))))))))))) else (none)
theorem timer_step.mono_l : ∀ k, (∀ y0 y1 y2, LeO (timer_step.j0 k y0 y1 y2) (timer_step.j0 (k + 1) y0 y1 y2))
 | 0 => fun _ _ _ r h => by simp [timer_step.j0] at h
 | k + 1 => by
  have ih0 := timer_step.mono_l k
  ·
   intro y0 y1 y2
   unfold timer_step.j0
   repeat' first
   | (with_reducible exact ih0 _ _ _)
   | (with_reducible exact timer_minrun.mono _ _ _ _ _)
   | (with_reducible exact timer_pulse.mono _ _ _ _ _)
   | (with_reducible exact LeO.refl _)
   | (with_reducible exact LeO.none _)
   | (with_reducible refine LeO.ite ?_ ?_)
   | (with_reducible refine LeO.bind ?_ (fun _ => ?_))
   | exact LeO.none _
   | refine LeO.ite ?_ ?_
   | refine LeO.bind ?_ (fun _ => ?_)
theorem timer_step.mono : ∀ a0 a1 a2 a3 a4 k, LeO (timer_step.f k a0 a1 a2 a3 a4) (timer_step.f (k + 1) a0 a1 a2 a3 a4) := by
 intro a0 a1 a2 a3 a4 k
 have ih0 := timer_step.mono_l k
 unfold timer_step.f
 repeat' first
   | (with_reducible exact ih0 _ _ _)
   | (with_reducible exact timer_minrun.mono _ _ _ _ _)
   | (with_reducible exact timer_pulse.mono _ _ _ _ _)
   | (with_reducible exact LeO.refl _)
   | (with_reducible exact LeO.none _)
   | (with_reducible refine LeO.ite ?_ ?_)
   | (with_reducible refine LeO.bind ?_ (fun _ => ?_))
   | exact LeO.none _
   | refine LeO.ite ?_ ?_
   | refine LeO.bind ?_ (fun _ => ?_)
set_option maxHeartbeats 8000000 in
set_option maxRecDepth 100000 in
theorem timer_step.calls (k : Nat) (a0 : ByteArray) (A1 : Option Addr) (c1 : Nat) (l1 : List Int) (P2_ : Nat → Prop) (u9000_ : Value) (l2 : List Int) (A3 : Option Addr) (c3 : Nat) (l3 : List (S26)) (a4 : Int) (r1 : Int) (r2 : Int) (r3 : List Int) (w0 w : World) (hB : Below w0.heap.size w0 w) (hr1 : ∀ W_, Kept w W_ (fun k_ => P2_ k_) → Kd.C (Kd.int .i64) W_ A1 l1.length l1) (hc1 : l1.length ≤ c1) (ho2 : Kd.R (Kd.int .i64) 2 w w0.heap.size P2_ u9000_ l2) (hr3 : ∀ W_, Kept w W_ (fun k_ => P2_ k_) → Kd.C k26 W_ A3 l3.length l3) (hc3 : l3.length ≤ c3) (h : timer_step.f k a0 l1 l2 l3 a4 = some (r1, r2, r3)) :
  Calls Tryz.prog 19 #[.string a0, .slice A1 l1.length c1, u9000_, .slice A3 l3.length c3, .int .i64 a4] w fun e w' => e = .returned (.agg #[.int .i64 r1, .int .i64 r2]) ∧ Kd.R (Kd.int .i64) 2 w' w0.heap.size (fun k_ => (P2_ k_ ∨ w.heap.size ≤ k_)) u9000_ r3 ∧ Below w0.heap.size w0 w' ∧ Kept w w' (fun k_ => P2_ k_) := by
 have hu26 := Tryz.underlying26
 have HR1 := am hr1
 have HC1 := am hc1
 clear hr1 hc1
 have HO2 := am (show Kd.R (Kd.int .i64) 2 w w0.heap.size (fun k_ => (P2_ k_ ∨ w.heap.size ≤ k_)) u9000_ l2 from Kd.R_mono ho2 (fun k_ hk => (.inl hk)))
 have HR3 := am hr3
 have HC3 := am hc3
 clear hr3 hc3
 have HK := am (Kept.refl w (fun k_ => P2_ k_))
 have HW0 := am hB.size
 have HB := am hB
 clear hB
 have H : (if 0 < (l3.length : Int) then (if a0.toList = ([99, 111, 117, 110, 116] : List UInt8) then (if 1 < (l3.length : Int) then (if ((rd_T26 l3 1).f1) = 1 then (if 1 < (l2.length : Int) then ((timer_bit.f (((rd_T26 l3 0).f1) == 1)).bind fun t268 => (if 0 < (l2.length : Int) then ((some ((l2.set (1 : Int).toNat 0).set (0 : Int).toNat t268 : List Int)).bind fun y269 => (some (1, wrap64 (1000 * (rd y269 1)), y269))) else (none))) else (none)) else (if ((rd_T26 l3 0).f1) = 1 then (if 0 < (l2.length : Int) then (timer_step.j0 k l2 true ((rd l2 0) == 0)) else (none)) else (timer_step.j0 k l2 false false))) else (none)) else (if a0.toList = ([101, 100, 103, 101] : List UInt8) then (if ((rd_T26 l3 0).f1) = 1 then (if 0 < (l2.length : Int) then ((timer_bit.f true).bind fun t281 => ((timer_bit.f ((rd l2 0) == 0)).bind fun t283 => (some (2, t283, (l2.set (0 : Int).toNat t281))))) else (none)) else ((timer_bit.f false).bind fun t284 => (if 0 < (l2.length : Int) then ((timer_bit.f false).bind fun t286 => (some (2, t286, (l2.set (0 : Int).toNat t284)))) else (none)))) else (if a0.toList = ([104, 121, 115, 116] : List UInt8) then (if 0 < (l1.length : Int) then (if ((rd_T26 l3 0).f1) > (rd l1 0) then (if 0 < (l2.length : Int) then ((some (l2.set (0 : Int).toNat 1 : List Int)).bind fun y289 => ((timer_bit.f ((rd y289 0) == 1)).bind fun t291 => (some (2, t291, y289)))) else (none)) else (if 1 < (l1.length : Int) then (if ((rd_T26 l3 0).f1) < (rd l1 1) then (if 0 < (l2.length : Int) then ((some (l2.set (0 : Int).toNat 0 : List Int)).bind fun y294 => ((timer_bit.f ((rd y294 0) == 1)).bind fun t296 => (some (2, t296, y294)))) else (none)) else (if 0 < (l2.length : Int) then ((timer_bit.f ((rd l2 0) == 1)).bind fun t298 => (some (2, t298, l2))) else (none))) else (none))) else (none)) else (if a0.toList = ([108, 97, 116, 99, 104] : List UInt8) then (if 1 < (l3.length : Int) then (if ((rd_T26 l3 1).f1) = 1 then (if 0 < (l2.length : Int) then ((some (l2.set (0 : Int).toNat 0 : List Int)).bind fun y300 => ((timer_bit.f ((rd y300 0) == 1)).bind fun t302 => (some (2, t302, y300)))) else (none)) else (if ((rd_T26 l3 0).f1) = 1 then (if 0 < (l2.length : Int) then ((some (l2.set (0 : Int).toNat 1 : List Int)).bind fun y303 => ((timer_bit.f ((rd y303 0) == 1)).bind fun t305 => (some (2, t305, y303)))) else (none)) else (if 0 < (l2.length : Int) then ((timer_bit.f ((rd l2 0) == 1)).bind fun t307 => (some (2, t307, l2))) else (none)))) else (none)) else (if a0.toList = ([109, 105, 110, 114, 117, 110] : List UInt8) then ((timer_minrun.f k l1 l2 (((rd_T26 l3 0).f1) == 1) a4).bind fun bt308 => ((timer_bit.f bt308.1).bind fun t310 => (some (2, t310, bt308.2)))) else (if a0.toList = ([111, 102, 102, 100, 101, 108, 97, 121] : List UInt8) then (if 0 < (l1.length : Int) then ((timer_offdelay.f (rd l1 0) l2 (((rd_T26 l3 0).f1) == 1) a4).bind fun bt312 => ((timer_bit.f bt312.1).bind fun t314 => (some (2, t314, bt312.2)))) else (none)) else (if a0.toList = ([111, 110, 100, 101, 108, 97, 121] : List UInt8) then (if 0 < (l1.length : Int) then ((timer_ondelay.f (rd l1 0) l2 (((rd_T26 l3 0).f1) == 1) a4).bind fun bt316 => ((timer_bit.f bt316.1).bind fun t318 => (some (2, t318, bt316.2)))) else (none)) else (if a0.toList = ([112, 117, 108, 115, 101] : List UInt8) then (if 0 < (l1.length : Int) then ((timer_pulse.f k (rd l1 0) l2 (((rd_T26 l3 0).f1) == 1) a4).bind fun bt320 => ((timer_bit.f bt320.1).bind fun t322 => (some (2, t322, bt320.2)))) else (none)) else ((timer_bit.f false).bind fun t323 => (some (2, t323, l2))))))))))) else (none)) = some (r1, r2, r3) := h
 clear h
 by_cases c6 : 0 < (l3.length : Int)
 rotate_left
 ·
  rw [if_neg c6] at H
  exact absurd H (by simp)
 rw [if_pos c6] at H
 have c6b0 := decide_eq_true c6
 have c6b1 : decide (0 < l3.length) = true := decide_eq_true (by omega)
 clear c6
 by_cases c7 : a0.toList = ([99, 111, 117, 110, 116] : List UInt8)
 ·
  rw [if_pos c7] at H
  have c7b0 := beq_iff_eq.mpr c7
  have c7b1 := bne_eq_false_iff_eq.mpr c7
  clear c7
  by_cases c8 : 1 < (l3.length : Int)
  rotate_left
  ·
   rw [if_neg c8] at H
   exact absurd H (by simp)
  rw [if_pos c8] at H
  have c8b0 := decide_eq_true c8
  have c8b1 : decide (1 < l3.length) = true := decide_eq_true (by omega)
  clear c8
  by_cases c9 : ((rd_T26 l3 1).f1) = 1
  ·
   rw [if_pos c9] at H
   have c9b0 := beq_iff_eq.mpr c9
   have c9b1 := bne_eq_false_iff_eq.mpr c9
   clear c9
   by_cases c10 : 1 < (l2.length : Int)
   rotate_left
   ·
    rw [if_neg c10] at H
    exact absurd H (by simp)
   rw [if_pos c10] at H
   have c10b0 := decide_eq_true c10
   have c10b1 : decide (1 < l2.length) = true := decide_eq_true (by omega)
   clear c10
   obtain ⟨y267, hy267⟩ : ∃ y_ : List Int, y_ = (l2.set (1 : Int).toNat 0) := ⟨_, rfl⟩
   (try rw [← hy267] at H); (try rw [Option.bind_some] at H); (try dsimp only at H)
   have Ny267 := am hy267
   clear hy267
   replace H := Option.bind_eq_some_iff.mp H
   obtain ⟨t268, A120, H⟩ := H
   (try dsimp only at H)
   have A12 := am A120
   clear A120
   by_cases c13 : 0 < (l2.length : Int)
   rotate_left
   ·
    rw [if_neg c13] at H
    exact absurd H (by simp)
   rw [if_pos c13] at H
   have c13b0 := decide_eq_true c13
   have c13b1 : decide (0 < l2.length) = true := decide_eq_true (by omega)
   clear c13
   obtain ⟨y269, hy269⟩ : ∃ y_ : List Int, y_ = (y267.set (0 : Int).toNat t268) := ⟨_, rfl⟩
   (try rw [← hy269] at H); (try rw [Option.bind_some] at H); (try dsimp only at H)
   have Ny269 := am hy269
   clear hy269
   simp only [Option.some.injEq, Prod.mk.injEq] at H
   obtain ⟨rfl, rfl, rfl⟩ := H
   go_enter Tryz.func19, Tryz.ntmps19
   go_wp2_with (first | ((refine gate_dst (N := 10) rfl ?_); refine bx (N := 10) (cs := #[.int .i64 0, .int .i64 0]) (t := 26) ?_; intro gb264 hg w15 hbox hb; replace HO2 := am (Kd.R_below (rr HO2.out) hb); have BK264 := am (hbox); have GW264 := am ((by rw [hg]; exact (by first | exact HK.out.1 | exact (show Kept w _ (fun k_ => P2_ k_) from kk).1) : w.heap.size ≤ gb264)); replace HK := am (Kept.below (S := (fun k_ => P2_ k_)) kk hb); have GE264 := am (gw hg (below_size bl)); replace HB := am (below_step bl hb); clear hb hbox hg; have q265 := ix0 (n := l3.length) ode; obtain ⟨ad265, e265, hx265_0, hx265_1⟩ := at_T26 (Kd.C_kept_now HR3.out HK.out) 0 (by omega) (of_eq_true q265.2.2); cases e265; (try rw [t0] at hx265_0); (try rw [show 0 * 2 = 0 from rfl] at hx265_0); (try rw [Addr.add_zero'] at hx265_0); (try rw [t0] at hx265_1); (try rw [show 0 * 2 = 0 from rfl] at hx265_1); (try rw [Addr.add_zero'] at hx265_1); obtain ⟨qi265, p265, q265⟩ := q265; have q266 := ix1 (n := l3.length) ode; obtain ⟨ad266, e266, hx266_0, hx266_1⟩ := at_T26 (Kd.C_kept_now HR3.out HK.out) 1 (by omega) (of_eq_true q266.2.2); obtain rfl : ad265 = ad266 := (by injection e266); (try simp only [t1, Nat.reduceMul, Nat.reduceEqDiff, Go.Addr.add, ↓reduceIte] at hx266_0); (try simp only [t1, Nat.reduceMul, Nat.reduceEqDiff, Go.Addr.add, ↓reduceIte] at hx266_1); obtain ⟨qi266, p266, q266⟩ := q266; have p11 : 0 ≤ (1 : Int) := (by omega); have q11 : (1 : Int) < ((l2.length : Int) : Int) := ode; have qi11 : (1 < l2.length) = True := eq_true (by omega); obtain ⟨go11, co11, eo11, gb11, gl11, cl11, HG11⟩ := Kd.R_form HO2.out (by omega); (first | cases eo11 | (injection eo11 with ea_ en_ ec_; (first | subst ea_ | (injection ea_ with ea_; subst ea_)); subst ec_; clear en_)); have GB11 := am gb11; have GG11 := am HG11; clear gb11 gl11 HG11; have HMgo11 := am (show (P2_ go11 ∨ w.heap.size ≤ go11) from (HO2.out.1 _ rfl)); obtain ⟨hx11_0, hf11_0⟩ := Kd.R_celln 0 HO2.out (1 : Int) p11 q11; (try rw [t1] at hx11_0); (try simp only [Nat.reduceMul, Nat.zero_mul, Nat.zero_add, Nat.reduceAdd] at hx11_0); (try rw [t1] at hf11_0); (try simp only [Nat.reduceMul, Nat.zero_mul, Nat.zero_add, Nat.reduceAdd] at hf11_0); replace p11 := eq_true p11; replace q11 := eq_true q11; obtain ⟨hy16_, hz16_⟩ := Kd.R_celln 0 HO2.out (1 : Int) (by omega) (ode); (try simp only [Int.reduceToNat, Int.toNat_zero, Int.toNat_ofNat, Nat.reduceMul, Nat.zero_mul, Nat.zero_add] at hy16_ hz16_); (try rw [t1] at hy16_); (try rw [t1] at hz16_); have HP16 := Kd.R_putg HO2.out (1 : Int) 0) | ((refine gate_store (t := 2) (p := 27) rfl ?_); (try (rw [drewN_self w15]; generalize hq_ : World.drewN w15 _ = w15; have n0_ := am (Kd.R_at hq_ HO2.out); have n1_ := am (blk_at hq_ BK264.out); have n2_ := am (kept_at hq_ HK.out); have n3_ := am (below_at hq_ HB.out); clear hq_ HO2 BK264 HK HB; have HO2 := n0_; have BK264 := n1_; have HK := n2_; have HB := n3_; clear n0_ n1_ n2_ n3_; (try (obtain ⟨hy16_, hz16_⟩ := Kd.R_celln 0 HO2.out (1 : Int) (by omega) (ode))); (try (try simp only [Int.reduceToNat, Int.toNat_zero, Int.toNat_ofNat, Nat.reduceMul, Nat.zero_mul, Nat.zero_add] at hy16_ hz16_)); (try (try rw [t1] at hy16_)); (try (try rw [t1] at hz16_)); (try (have HP16 := Kd.R_putg HO2.out (1 : Int) 0)))); refine store_event (t := 2) (p := 27) (v := ?vo_w17) (w1 := (w15.setCell ⟨go11, (1 : Int).toNat, none⟩ (.int .i64 0))) ?hg ?ho ?hn ?hr ?_; (case ho => rfl); (case hg => rfl); (case hn => rfl); (case hr => first | (go_simp; done) | (go_simp; rfl)); intro w17 hw; have hg : w15.grownBy w17 (some go11) := (by rw [hw]; exact HP16.2); have hp_ : Kd.R (Kd.int .i64) 2 w17 w0.heap.size (fun k_ => (P2_ k_ ∨ w.heap.size ≤ k_)) (.slice (some ⟨go11, 0, none⟩) l2.length co11) y267 := (by rw [hw, Ny267.out]; exact HP16.1); clear HP16; have n0_ := am (hp_); have n1_ := am (blk_grown (rb BK264.out) hg (Kd.R_ne HO2.out BK264.out (by decide))); have n2_ := am ((by rw [hw]; exact below_set (HB.out) GB11.out : Below w0.heap.size w0 w17)); have n3_ := am (Kept.of_grown (S := (fun k_ => P2_ k_)) hg (ks1 GW264.out) (fun k_ e_ => (HO2.out.1 k_ e_))); revert n0_ n1_ n2_ n3_; clear HO2 BK264 HB HK; intro HO2 BK264 HB HK; clear hg hw hp_) | (go_at_call 30; (with_reducible refine (timer_bit.calls (((rd_T26 l3 0).f1) == 1) t268 _ A12.out).mono ?_); rintro e w' ⟨rfl, ⟨nd, rfl⟩⟩; (try exact dd); have p14 : 0 ≤ (0 : Int) := (by omega); have q14 : (0 : Int) < ((l2.length : Int) : Int) := ode; have qi14 : (0 < l2.length) = True := eq_true (by omega); obtain ⟨hx14_0, hf14_0⟩ := Kd.R_celln 0 HO2.out (0 : Int) p14 q14; (try rw [t0] at hx14_0); (try simp only [Nat.reduceMul, Nat.zero_mul, Nat.zero_add, Nat.reduceAdd] at hx14_0); (try rw [t0] at hf14_0); (try simp only [Nat.reduceMul, Nat.zero_mul, Nat.zero_add, Nat.reduceAdd] at hf14_0); replace p14 := eq_true p14; replace q14 := eq_true q14; obtain ⟨hy18_, hz18_⟩ := Kd.R_celln 0 HO2.out (0 : Int) (by omega) (ode); (try simp only [Int.reduceToNat, Int.toNat_zero, Int.toNat_ofNat, Nat.reduceMul, Nat.zero_mul, Nat.zero_add] at hy18_ hz18_); (try rw [t0] at hy18_); (try rw [t0] at hz18_); have HP18 := Kd.R_putg HO2.out (0 : Int) t268) | ((refine gate_store (t := 2) (p := 45) rfl ?_); (try (rw [drewN_self w17]; generalize hq_ : World.drewN w17 _ = w17; have n0_ := am (Kd.R_at hq_ HO2.out); have n1_ := am (blk_at hq_ BK264.out); have n2_ := am (kept_at hq_ HK.out); have n3_ := am (below_at hq_ HB.out); clear hq_ HO2 BK264 HK HB; have HO2 := n0_; have BK264 := n1_; have HK := n2_; have HB := n3_; clear n0_ n1_ n2_ n3_; (try (obtain ⟨hy18_, hz18_⟩ := Kd.R_celln 0 HO2.out (0 : Int) (by omega) (ode))); (try (try simp only [Int.reduceToNat, Int.toNat_zero, Int.toNat_ofNat, Nat.reduceMul, Nat.zero_mul, Nat.zero_add] at hy18_ hz18_)); (try (try rw [t0] at hy18_)); (try (try rw [t0] at hz18_)); (try (have HP18 := Kd.R_putg HO2.out (0 : Int) t268)))); refine store_event (t := 2) (p := 45) (v := ?vo_w19) (w1 := (w17.setCell ⟨go11, (0 : Int).toNat, none⟩ (.int .i64 t268))) ?hg ?ho ?hn ?hr ?_; (case ho => rfl); (case hg => rfl); (case hn => rfl); (case hr => first | (go_simp; done) | (go_simp; rfl)); intro w19 hw; have hg : w17.grownBy w19 (some go11) := (by rw [hw]; exact HP18.2); have hp_ : Kd.R (Kd.int .i64) 2 w19 w0.heap.size (fun k_ => (P2_ k_ ∨ w.heap.size ≤ k_)) (.slice (some ⟨go11, 0, none⟩) l2.length co11) y269 := (by rw [hw, Ny269.out]; exact HP18.1); clear HP18; have n0_ := am (hp_); have n1_ := am (blk_grown (rb BK264.out) hg (Kd.R_ne HO2.out BK264.out (by decide))); have n2_ := am ((by rw [hw]; exact below_set (HB.out) GB11.out : Below w0.heap.size w0 w19)); have n3_ := am (Kept.of_grown (S := (fun k_ => P2_ k_)) hg (ks1 GW264.out) (fun k_ e_ => (HO2.out.1 k_ e_))); revert n0_ n1_ n2_ n3_; clear HO2 BK264 HB HK; intro HO2 BK264 HB HK; clear hg hw hp_; have p270 : 0 ≤ (1 : Int) := (by omega); have q270 : 1 < (y269.length : Int) := (by have h_ : (1 : Int) < ((l2.length : Int) : Int) := ode; first | (have e_ := (Kd.R_reads' HO2.out).1; omega) | simpa only [Ny267.out, Ny269.out, List.length_set] using h_); have ql270 : ((1 : Int) < ((l2.length : Int) : Int)) = True := eq_true (ode); (try have qn270 : (1 < l2.length) = True := eq_true (by have h_ : (1 : Int) < ((l2.length : Int) : Int) := ode; omega)); obtain ⟨ad270, e270, hx270_0⟩ := Kd.at_int (Kd.R_reads' HO2.out).2.2 1 p270 q270; obtain rfl : (⟨go11, 0, none⟩ : Addr) = ad270 := (by injection e270); (first | simp only [add_plain] at hx270_0 | simp only [add_at] at hx270_0 | simp only [Addr.add, Nat.zero_add] at hx270_0 | skip); have qi270 : (1 < y269.length) = True := eq_true (by omega); (try rw [t1] at hx270_0); replace p270 := eq_true p270; replace q270 := eq_true q270; obtain ⟨hcz20_0, hcz20_1, hfz20_0, hfz20_1⟩ := bz2 BK264.out))
   refine bodyPost_ret (results_cell_row rfl _ _ gb264 26 #[.int .i64 1, .int .i64 (wrap64 (1000 * (rd y269 1)))] (0, 0) _ rfl (by refine rb ?_; refine blk_put (cs := #[.int .i64 1, .int .i64 0]) ?_ 1 _ rfl; refine rb ?_; refine blk_put (cs := #[.int .i64 0, .int .i64 0]) ?_ 0 _ rfl; exact rb BK264.out) Tryz.underlying26 rfl (by kernel_rfl)) rfl ?_
   exact ⟨ew, rr (Kd.R_mono (Kd.R_far (p := ⟨gb264, 1, none⟩) (Kd.R_far (p := ⟨gb264, 0, none⟩) (Kd.R_types HO2.out BK264.out (by decide)) (fun _ hk => hk.2) (.int .i64 1)) (fun _ hk => hk.2) (.int .i64 (wrap64 (1000 * (rd y269 1))))) (fun _ hk => hk.1)), bs1 GE264.out, ks1 GW264.out⟩
  rw [if_neg c9] at H
  have c9b0 := beq_eq_false_iff_ne.mpr c9
  have c9b1 := bne_iff_ne.mpr c9
  have HC21 := am H
  clear H
  go_enter Tryz.func19, Tryz.ntmps19
  go_upto_region 7 with (first | ((refine gate_dst (N := 10) rfl ?_); refine bx (N := 10) (cs := #[.int .i64 0, .int .i64 0]) (t := 26) ?_; intro gb264 hg w22 hbox hb; replace HO2 := am (Kd.R_below (rr HO2.out) hb); have BK264 := am (hbox); have GW264 := am ((by rw [hg]; exact (by first | exact HK.out.1 | exact (show Kept w _ (fun k_ => P2_ k_) from kk).1) : w.heap.size ≤ gb264)); replace HK := am (Kept.below (S := (fun k_ => P2_ k_)) kk hb); have GE264 := am (gw hg (below_size bl)); replace HB := am (below_step bl hb); clear hb hbox hg; have q265 := ix0 (n := l3.length) ode; obtain ⟨ad265, e265, hx265_0, hx265_1⟩ := at_T26 (Kd.C_kept_now HR3.out HK.out) 0 (by omega) (of_eq_true q265.2.2); cases e265; (try rw [t0] at hx265_0); (try rw [show 0 * 2 = 0 from rfl] at hx265_0); (try rw [Addr.add_zero'] at hx265_0); (try rw [t0] at hx265_1); (try rw [show 0 * 2 = 0 from rfl] at hx265_1); (try rw [Addr.add_zero'] at hx265_1); obtain ⟨qi265, p265, q265⟩ := q265; have q266 := ix1 (n := l3.length) ode; obtain ⟨ad266, e266, hx266_0, hx266_1⟩ := at_T26 (Kd.C_kept_now HR3.out HK.out) 1 (by omega) (of_eq_true q266.2.2); obtain rfl : ad265 = ad266 := (by injection e266); (try simp only [t1, Nat.reduceMul, Nat.reduceEqDiff, Go.Addr.add, ↓reduceIte] at hx266_0); (try simp only [t1, Nat.reduceMul, Nat.reduceEqDiff, Go.Addr.add, ↓reduceIte] at hx266_1); obtain ⟨qi266, p266, q266⟩ := q266))
  (try simp only [ap, sa, sb, sc])
  go_cut [11, 34] (fun v11 v34 wc => ∃ (kq : Nat) (x11_20 : Bool) (x34_20 : Bool), v11 = .bool x11_20 ∧ v34 = .bool x34_20 ∧ Aside0 (timer_step.j0 kq l2 x11_20 x34_20 = some (r1, r2, r3)) ∧ Aside0 (kq ≤ k) ∧ Aside0 (Kd.R (Kd.int .i64) 2 wc w0.heap.size (fun k_ => (P2_ k_ ∨ w.heap.size ≤ k_)) u9000_ l2) ∧ Aside0 (wc.heap[gb264]? = some (.cells #[.int .i64 0, .int .i64 0] 26 (0, 0))) ∧ Aside0 (Kept w wc (fun k_ => P2_ k_)) ∧ Aside0 (Below w0.heap.size w0 wc))
  case first =>
   have H := HC21.out
   clear HC21
   by_cases c23 : ((rd_T26 l3 0).f1) = 1
   rotate_left
   ·
    rw [if_neg c23] at H
    have c23b0 := beq_eq_false_iff_ne.mpr c23
    have c23b1 := bne_iff_ne.mpr c23
    (first | rw [c23b0] | (simp only [i64_w, i32_w]; rw [c23b0]) | skip)
    have H' := am H
    clear H
    go_wp2
    repeat (go_quiet (fail); try go_wp2)
    go_meet
    case rel => exact ⟨_, (false), (false), (by first | rfl | (simp; done) | (simp [*]; done)), (by first | rfl | (simp; done) | (simp [*]; done)), H', ⟨by first | omega | exact Nat.le_refl _⟩, ⟨rr HO2.out⟩, ⟨rb BK264.out⟩, ⟨ks1 GW264.out⟩, ⟨bs1 GE264.out⟩⟩
   rw [if_pos c23] at H
   have c23b0 := beq_iff_eq.mpr c23
   have c23b1 := bne_eq_false_iff_eq.mpr c23
   clear c23
   (first | rw [c23b0] | (simp only [i64_w, i32_w]; rw [c23b0]) | skip)
   by_cases c24 : 0 < (l2.length : Int)
   rotate_left
   ·
    rw [if_neg c24] at H
    exact absurd H (by simp)
   rw [if_pos c24] at H
   have c24b0 := decide_eq_true c24
   have c24b1 : decide (0 < l2.length) = true := decide_eq_true (by omega)
   clear c24
   have H' := am H
   clear H
   obtain ⟨Ao25, co25, eo25⟩ := Kd.R_slice HO2.out
   subst eo25
   have q271 := ix0 (n := l2.length) ode; obtain ⟨ad271, e271, hx271_0⟩ := Kd.at_int (Kd.R_reads' HO2.out).2.2 0 (by omega) (of_eq_true q271.2.2); cases e271; (try rw [t0] at hx271_0); (try rw [Addr.add_zero'] at hx271_0); obtain ⟨qi271, p271, q271⟩ := q271
   go_wp2
   repeat (go_quiet (fail); try go_wp2)
   go_meet
   case rel => exact ⟨_, (true), (((rd l2 0) == 0)), (by first | rfl | (simp; done) | (simp [*]; done)), (by first | rfl | (simp; done) | (simp [*]; done)), H', ⟨by first | omega | exact Nat.le_refl _⟩, ⟨rr HO2.out⟩, ⟨rb BK264.out⟩, ⟨ks1 GW264.out⟩, ⟨bs1 GE264.out⟩⟩
  clear HC21
  obtain ⟨kq, x11_20, x34_20, rfl, rfl, HA, HJ20, HO_2, BK264, HK, HB⟩ := hcut
  cases kq with
  | zero => exact absurd HA.out (by simp [timer_step.j0])
  | succ kj20 =>
   have H := HA.out
   clear HA
   simp only [timer_step.j0] at H
   by_cases c26 : x34_20 = true
   rotate_left
   ·
    replace c26 := Bool.eq_false_iff.mpr c26
    subst c26
    rw [if_neg (show ¬ (false = true) by decide)] at H
    replace H := Option.bind_eq_some_iff.mp H
    obtain ⟨t277, A390, H⟩ := H
    (try dsimp only at H)
    have A39 := am A390
    clear A390
    by_cases c40 : 0 < (l2.length : Int)
    rotate_left
    ·
     rw [if_neg c40] at H
     exact absurd H (by simp)
    rw [if_pos c40] at H
    have c40b0 := decide_eq_true c40
    have c40b1 : decide (0 < l2.length) = true := decide_eq_true (by omega)
    clear c40
    obtain ⟨y278, hy278⟩ : ∃ y_ : List Int, y_ = (l2.set (0 : Int).toNat t277) := ⟨_, rfl⟩
    (try rw [← hy278] at H); (try rw [Option.bind_some] at H); (try dsimp only at H)
    have Ny278 := am hy278
    clear hy278
    by_cases c42 : 1 < (l2.length : Int)
    rotate_left
    ·
     rw [if_neg c42] at H
     exact absurd H (by simp)
    rw [if_pos c42] at H
    have c42b0 := decide_eq_true c42
    have c42b1 : decide (1 < l2.length) = true := decide_eq_true (by omega)
    clear c42
    simp only [Option.some.injEq, Prod.mk.injEq] at H
    obtain ⟨rfl, rfl, rfl⟩ := H
    go_wp2_with (first | (go_at_call 30; (with_reducible refine (timer_bit.calls x11_20 t277 _ A39.out).mono ?_); rintro e w' ⟨rfl, ⟨nd, rfl⟩⟩; (try exact dd); have p41 : 0 ≤ (0 : Int) := (by omega); have q41 : (0 : Int) < ((l2.length : Int) : Int) := ode; have qi41 : (0 < l2.length) = True := eq_true (by omega); obtain ⟨go41, co41, eo41, gb41, gl41, cl41, HG41⟩ := Kd.R_form HO_2.out (by omega); (first | cases eo41 | (injection eo41 with ea_ en_ ec_; (first | subst ea_ | (injection ea_ with ea_; subst ea_)); subst ec_; clear en_)); have GB41 := am gb41; have GG41 := am HG41; clear gb41 gl41 HG41; have HMgo41 := am (show (P2_ go41 ∨ w.heap.size ≤ go41) from (HO_2.out.1 _ rfl)); obtain ⟨hx41_0, hf41_0⟩ := Kd.R_celln 0 HO_2.out (0 : Int) p41 q41; (try rw [t0] at hx41_0); (try simp only [Nat.reduceMul, Nat.zero_mul, Nat.zero_add, Nat.reduceAdd] at hx41_0); (try rw [t0] at hf41_0); (try simp only [Nat.reduceMul, Nat.zero_mul, Nat.zero_add, Nat.reduceAdd] at hf41_0); replace p41 := eq_true p41; replace q41 := eq_true q41; obtain ⟨hy43_, hz43_⟩ := Kd.R_celln 0 HO_2.out (0 : Int) (by omega) (ode); (try simp only [Int.reduceToNat, Int.toNat_zero, Int.toNat_ofNat, Nat.reduceMul, Nat.zero_mul, Nat.zero_add] at hy43_ hz43_); (try rw [t0] at hy43_); (try rw [t0] at hz43_); have HP43 := Kd.R_putg HO_2.out (0 : Int) t277) | ((refine gate_store (t := 2) (p := 45) rfl ?_); (try (rw [drewN_self wc]; generalize hq_ : World.drewN wc _ = wc; have n0_ := am (Kd.R_at hq_ HO_2.out); have n1_ := am (blk_at hq_ BK264.out); have n2_ := am (kept_at hq_ HK.out); have n3_ := am (below_at hq_ HB.out); clear hq_ HO_2 BK264 HK HB; have HO_2 := n0_; have BK264 := n1_; have HK := n2_; have HB := n3_; clear n0_ n1_ n2_ n3_; (try (obtain ⟨hy43_, hz43_⟩ := Kd.R_celln 0 HO_2.out (0 : Int) (by omega) (ode))); (try (try simp only [Int.reduceToNat, Int.toNat_zero, Int.toNat_ofNat, Nat.reduceMul, Nat.zero_mul, Nat.zero_add] at hy43_ hz43_)); (try (try rw [t0] at hy43_)); (try (try rw [t0] at hz43_)); (try (have HP43 := Kd.R_putg HO_2.out (0 : Int) t277)))); refine store_event (t := 2) (p := 45) (v := ?vo_w44) (w1 := (wc.setCell ⟨go41, (0 : Int).toNat, none⟩ (.int .i64 t277))) ?hg ?ho ?hn ?hr ?_; (case ho => rfl); (case hg => rfl); (case hn => rfl); (case hr => first | (go_simp; done) | (go_simp; rfl)); intro w44 hw; have hg : wc.grownBy w44 (some go41) := (by rw [hw]; exact HP43.2); have hp_ : Kd.R (Kd.int .i64) 2 w44 w0.heap.size (fun k_ => (P2_ k_ ∨ w.heap.size ≤ k_)) (.slice (some ⟨go41, 0, none⟩) l2.length co41) y278 := (by rw [hw, Ny278.out]; exact HP43.1); clear HP43; have n0_ := am (hp_); have n1_ := am (blk_grown (rb BK264.out) hg (Kd.R_ne HO_2.out BK264.out (by decide))); have n2_ := am ((by rw [hw]; exact below_set (HB.out) GB41.out : Below w0.heap.size w0 w44)); have n3_ := am (Kept.of_grown (S := (fun k_ => P2_ k_)) hg (ks1 GW264.out) (fun k_ e_ => (HO_2.out.1 k_ e_))); revert n0_ n1_ n2_ n3_; clear HO_2 BK264 HB HK; intro HO_2 BK264 HB HK; clear hg hw hp_; have p279 : 0 ≤ (1 : Int) := (by omega); have q279 : 1 < (y278.length : Int) := (by have h_ : (1 : Int) < ((l2.length : Int) : Int) := ode; first | (have e_ := (Kd.R_reads' HO_2.out).1; omega) | simpa only [Ny278.out, List.length_set] using h_); have ql279 : ((1 : Int) < ((l2.length : Int) : Int)) = True := eq_true (ode); (try have qn279 : (1 < l2.length) = True := eq_true (by have h_ : (1 : Int) < ((l2.length : Int) : Int) := ode; omega)); obtain ⟨ad279, e279, hx279_0⟩ := Kd.at_int (Kd.R_reads' HO_2.out).2.2 1 p279 q279; obtain rfl : (⟨go41, 0, none⟩ : Addr) = ad279 := (by injection e279); (first | simp only [add_plain] at hx279_0 | simp only [add_at] at hx279_0 | simp only [Addr.add, Nat.zero_add] at hx279_0 | skip); have qi279 : (1 < y278.length) = True := eq_true (by omega); (try rw [t1] at hx279_0); replace p279 := eq_true p279; replace q279 := eq_true q279; obtain ⟨hcz45_0, hcz45_1, hfz45_0, hfz45_1⟩ := bz2 BK264.out))
    refine bodyPost_ret (results_cell_row rfl _ _ gb264 26 #[.int .i64 1, .int .i64 (wrap64 (1000 * (rd y278 1)))] (0, 0) _ rfl (by refine rb ?_; refine blk_put (cs := #[.int .i64 1, .int .i64 0]) ?_ 1 _ rfl; refine rb ?_; refine blk_put (cs := #[.int .i64 0, .int .i64 0]) ?_ 0 _ rfl; exact rb BK264.out) Tryz.underlying26 rfl (by kernel_rfl)) rfl ?_
    exact ⟨ew, rr (Kd.R_mono (Kd.R_far (p := ⟨gb264, 1, none⟩) (Kd.R_far (p := ⟨gb264, 0, none⟩) (Kd.R_types HO_2.out BK264.out (by decide)) (fun _ hk => hk.2) (.int .i64 1)) (fun _ hk => hk.2) (.int .i64 (wrap64 (1000 * (rd y278 1))))) (fun _ hk => hk.1)), bs1 GE264.out, ks1 GW264.out⟩
   subst c26
   rw [if_pos rfl] at H
   by_cases c27 : 1 < (l2.length : Int)
   rotate_left
   ·
    rw [if_neg c27] at H
    exact absurd H (by simp)
   rw [if_pos c27] at H
   have c27b0 := decide_eq_true c27
   have c27b1 : decide (1 < l2.length) = true := decide_eq_true (by omega)
   clear c27
   obtain ⟨ji28, hji28⟩ : ∃ j_ : Int, (mn (wrap64 ((rd l2 1) + 1)) 1000000000) = j_ := ⟨_, rfl⟩
   replace H : ((timer_bit.f x11_20).bind fun t274 => (if 0 < (l2.length : Int) then ((some ((l2.set (1 : Int).toNat (ji28)).set (0 : Int).toNat t274 : List Int)).bind fun y275 => (some (1, wrap64 (1000 * (rd y275 1)), y275))) else (none))) = some (r1, r2, r3) := by first | (rw [hji28] at H; exact H) | (simp only [hji28] at H ⊢; exact H)
   have hji28_ : (if 1000000000 < (wrap64 ((rd l2 1) + 1)) then 1000000000 else (wrap64 ((rd l2 1) + 1))) = ji28 := hji28
   obtain ⟨y273, hy273⟩ : ∃ y_ : List Int, y_ = (l2.set (1 : Int).toNat (ji28)) := ⟨_, rfl⟩
   (try rw [← hy273] at H); (try rw [Option.bind_some] at H); (try dsimp only at H)
   have Ny273 := am hy273
   clear hy273
   replace H := Option.bind_eq_some_iff.mp H
   obtain ⟨t274, A300, H⟩ := H
   (try dsimp only at H)
   have A30 := am A300
   clear A300
   by_cases c31 : 0 < (l2.length : Int)
   rotate_left
   ·
    rw [if_neg c31] at H
    exact absurd H (by simp)
   rw [if_pos c31] at H
   have c31b0 := decide_eq_true c31
   have c31b1 : decide (0 < l2.length) = true := decide_eq_true (by omega)
   clear c31
   obtain ⟨y275, hy275⟩ : ∃ y_ : List Int, y_ = (y273.set (0 : Int).toNat t274) := ⟨_, rfl⟩
   (try rw [← hy275] at H); (try rw [Option.bind_some] at H); (try dsimp only at H)
   have Ny275 := am hy275
   clear hy275
   simp only [Option.some.injEq, Prod.mk.injEq] at H
   obtain ⟨rfl, rfl, rfl⟩ := H
   obtain ⟨Ao33, co33, eo33⟩ := Kd.R_slice HO_2.out
   subst eo33
   have p272 : 0 ≤ (1 : Int) := (by omega); have q272 : 1 < (l2.length : Int) := ode; obtain ⟨ad272, e272, hx272_0⟩ := Kd.at_int (Kd.R_reads' HO_2.out).2.2 1 p272 q272; cases e272
   (try simp only [t1, Nat.reduceMul, Nat.reduceEqDiff, Go.Addr.add, ↓reduceIte] at hx272_0)
   have qi272 : (1 < l2.length) = True := eq_true (by omega); (try rw [t1] at hx272_0); replace p272 := eq_true p272; replace q272 := eq_true q272; have p29 : 0 ≤ (1 : Int) := (by omega); have q29 : (1 : Int) < ((l2.length : Int) : Int) := ode; have qi29 : (1 < l2.length) = True := eq_true (by omega)
   obtain ⟨go29, co29, eo29, gb29, gl29, cl29, HG29⟩ := Kd.R_form HO_2.out (by omega)
   (first | cases eo29 | (injection eo29 with ea_ en_ ec_; (first | subst ea_ | (injection ea_ with ea_; subst ea_)); subst ec_; clear en_))
   have GB29 := am gb29
   have GG29 := am HG29
   clear gb29 gl29 HG29
   have HMgo29 := am (show (P2_ go29 ∨ w.heap.size ≤ go29) from (HO_2.out.1 _ rfl))
   (first | simp only [add_plain] at hx272_0 | skip)
   obtain ⟨hx29_0, hf29_0⟩ := Kd.R_celln 0 HO_2.out (1 : Int) p29 q29
   (try rw [t1] at hx29_0)
   (try simp only [Nat.reduceMul, Nat.zero_mul, Nat.zero_add, Nat.reduceAdd] at hx29_0)
   (try rw [t1] at hf29_0)
   (try simp only [Nat.reduceMul, Nat.zero_mul, Nat.zero_add, Nat.reduceAdd] at hf29_0)
   replace p29 := eq_true p29; replace q29 := eq_true q29
   have HP34 := Kd.R_putg HO_2.out (1 : Int) ji28
   go_wp2_with (first | ((refine gate_store (t := 2) (p := 41) rfl ?_); (try (rw [drewN_self wc]; generalize hq_ : World.drewN wc _ = wc; have n0_ := am (Kd.R_at hq_ HO_2.out); have n1_ := am (blk_at hq_ BK264.out); have n2_ := am (kept_at hq_ HK.out); have n3_ := am (below_at hq_ HB.out); clear hq_ HO_2 BK264 HK HB; have HO_2 := n0_; have BK264 := n1_; have HK := n2_; have HB := n3_; clear n0_ n1_ n2_ n3_; (try (have HP34 := Kd.R_putg HO_2.out (1 : Int) ji28)))); refine store_event (t := 2) (p := 41) (v := ?vo_w35) (w1 := (wc.setCell ⟨go29, (1 : Int).toNat, none⟩ (.int .i64 ji28))) ?hg ?ho ?hn ?hr ?_; (case ho => rfl); (case hg => rfl); (case hn => rfl); (case hr => first | (go_simp; done) | (go_simp; rfl)); intro w35 hw; have hg : wc.grownBy w35 (some go29) := (by rw [hw]; exact HP34.2); have hp_ : Kd.R (Kd.int .i64) 2 w35 w0.heap.size (fun k_ => (P2_ k_ ∨ w.heap.size ≤ k_)) (.slice (some ⟨go29, 0, none⟩) l2.length co33) y273 := (by rw [hw, Ny273.out]; exact HP34.1); clear HP34; have n0_ := am (hp_); have n1_ := am (blk_grown (rb BK264.out) hg (Kd.R_ne HO_2.out BK264.out (by decide))); have n2_ := am ((by rw [hw]; exact below_set (HB.out) GB29.out : Below w0.heap.size w0 w35)); have n3_ := am (Kept.of_grown (S := (fun k_ => P2_ k_)) hg (ks1 GW264.out) (fun k_ e_ => (HO_2.out.1 k_ e_))); revert n0_ n1_ n2_ n3_; clear HO_2 BK264 HB HK; intro HO_2 BK264 HB HK; clear hg hw hp_) | (go_at_call 30; (with_reducible refine (timer_bit.calls x11_20 t274 _ A30.out).mono ?_); rintro e w' ⟨rfl, ⟨nd, rfl⟩⟩; (try exact dd); have p32 : 0 ≤ (0 : Int) := (by omega); have q32 : (0 : Int) < ((l2.length : Int) : Int) := ode; have qi32 : (0 < l2.length) = True := eq_true (by omega); obtain ⟨hx32_0, hf32_0⟩ := Kd.R_celln 0 HO_2.out (0 : Int) p32 q32; (try rw [t0] at hx32_0); (try simp only [Nat.reduceMul, Nat.zero_mul, Nat.zero_add, Nat.reduceAdd] at hx32_0); (try rw [t0] at hf32_0); (try simp only [Nat.reduceMul, Nat.zero_mul, Nat.zero_add, Nat.reduceAdd] at hf32_0); replace p32 := eq_true p32; replace q32 := eq_true q32; obtain ⟨hy36_, hz36_⟩ := Kd.R_celln 0 HO_2.out (0 : Int) (by omega) (ode); (try simp only [Int.reduceToNat, Int.toNat_zero, Int.toNat_ofNat, Nat.reduceMul, Nat.zero_mul, Nat.zero_add] at hy36_ hz36_); (try rw [t0] at hy36_); (try rw [t0] at hz36_); have HP36 := Kd.R_putg HO_2.out (0 : Int) t274) | ((refine gate_store (t := 2) (p := 45) rfl ?_); (try (rw [drewN_self w35]; generalize hq_ : World.drewN w35 _ = w35; have n0_ := am (Kd.R_at hq_ HO_2.out); have n1_ := am (blk_at hq_ BK264.out); have n2_ := am (kept_at hq_ HK.out); have n3_ := am (below_at hq_ HB.out); clear hq_ HO_2 BK264 HK HB; have HO_2 := n0_; have BK264 := n1_; have HK := n2_; have HB := n3_; clear n0_ n1_ n2_ n3_; (try (obtain ⟨hy36_, hz36_⟩ := Kd.R_celln 0 HO_2.out (0 : Int) (by omega) (ode))); (try (try simp only [Int.reduceToNat, Int.toNat_zero, Int.toNat_ofNat, Nat.reduceMul, Nat.zero_mul, Nat.zero_add] at hy36_ hz36_)); (try (try rw [t0] at hy36_)); (try (try rw [t0] at hz36_)); (try (have HP36 := Kd.R_putg HO_2.out (0 : Int) t274)))); refine store_event (t := 2) (p := 45) (v := ?vo_w37) (w1 := (w35.setCell ⟨go29, (0 : Int).toNat, none⟩ (.int .i64 t274))) ?hg ?ho ?hn ?hr ?_; (case ho => rfl); (case hg => rfl); (case hn => rfl); (case hr => first | (go_simp; done) | (go_simp; rfl)); intro w37 hw; have hg : w35.grownBy w37 (some go29) := (by rw [hw]; exact HP36.2); have hp_ : Kd.R (Kd.int .i64) 2 w37 w0.heap.size (fun k_ => (P2_ k_ ∨ w.heap.size ≤ k_)) (.slice (some ⟨go29, 0, none⟩) l2.length co33) y275 := (by rw [hw, Ny275.out]; exact HP36.1); clear HP36; have n0_ := am (hp_); have n1_ := am (blk_grown (rb BK264.out) hg (Kd.R_ne HO_2.out BK264.out (by decide))); have n2_ := am ((by rw [hw]; exact below_set (HB.out) GB29.out : Below w0.heap.size w0 w37)); have n3_ := am (Kept.of_grown (S := (fun k_ => P2_ k_)) hg (ks1 GW264.out) (fun k_ e_ => (HO_2.out.1 k_ e_))); revert n0_ n1_ n2_ n3_; clear HO_2 BK264 HB HK; intro HO_2 BK264 HB HK; clear hg hw hp_; have p276 : 0 ≤ (1 : Int) := (by omega); have q276 : 1 < (y275.length : Int) := (by have h_ : (1 : Int) < ((l2.length : Int) : Int) := ode; first | (have e_ := (Kd.R_reads' HO_2.out).1; omega) | simpa only [Ny273.out, Ny275.out, List.length_set] using h_); have ql276 : ((1 : Int) < ((l2.length : Int) : Int)) = True := eq_true (ode); (try have qn276 : (1 < l2.length) = True := eq_true (by have h_ : (1 : Int) < ((l2.length : Int) : Int) := ode; omega)); obtain ⟨ad276, e276, hx276_0⟩ := Kd.at_int (Kd.R_reads' HO_2.out).2.2 1 p276 q276; obtain rfl : (⟨go29, 0, none⟩ : Addr) = ad276 := (by injection e276); (first | simp only [add_plain] at hx276_0 | simp only [add_at] at hx276_0 | simp only [Addr.add, Nat.zero_add] at hx276_0 | skip); have qi276 : (1 < y275.length) = True := eq_true (by omega); (try rw [t1] at hx276_0); replace p276 := eq_true p276; replace q276 := eq_true q276; obtain ⟨hcz38_0, hcz38_1, hfz38_0, hfz38_1⟩ := bz2 BK264.out))
   refine bodyPost_ret (results_cell_row rfl _ _ gb264 26 #[.int .i64 1, .int .i64 (wrap64 (1000 * (rd y275 1)))] (0, 0) _ rfl (by refine rb ?_; refine blk_put (cs := #[.int .i64 1, .int .i64 0]) ?_ 1 _ rfl; refine rb ?_; refine blk_put (cs := #[.int .i64 0, .int .i64 0]) ?_ 0 _ rfl; exact rb BK264.out) Tryz.underlying26 rfl (by kernel_rfl)) rfl ?_
   exact ⟨by first | rfl | (simp [errW_none, errW_some] <;> rfl) | (simp only [← hji28]; first | rfl | (simp [errW_none, errW_some] <;> rfl)) | (simp [*, errW_none, errW_some] <;> rfl), rr (Kd.R_mono (Kd.R_far (p := ⟨gb264, 1, none⟩) (Kd.R_far (p := ⟨gb264, 0, none⟩) (Kd.R_types HO_2.out BK264.out (by decide)) (fun _ hk => hk.2) (.int .i64 1)) (fun _ hk => hk.2) (.int .i64 (wrap64 (1000 * (rd y275 1))))) (fun _ hk => hk.1)), bs1 GE264.out, ks1 GW264.out⟩
 rw [if_neg c7] at H
 have c7b0 := beq_eq_false_iff_ne.mpr c7
 have c7b1 := bne_iff_ne.mpr c7
 by_cases c46 : a0.toList = ([101, 100, 103, 101] : List UInt8)
 ·
  rw [if_pos c46] at H
  have c46b0 := beq_iff_eq.mpr c46
  have c46b1 := bne_eq_false_iff_eq.mpr c46
  clear c46
  by_cases c47 : ((rd_T26 l3 0).f1) = 1
  rotate_left
  ·
   rw [if_neg c47] at H
   have c47b0 := beq_eq_false_iff_ne.mpr c47
   have c47b1 := bne_iff_ne.mpr c47
   replace H := Option.bind_eq_some_iff.mp H
   obtain ⟨t284, A570, H⟩ := H
   (try dsimp only at H)
   have A57 := am A570
   clear A570
   by_cases c58 : 0 < (l2.length : Int)
   rotate_left
   ·
    rw [if_neg c58] at H
    exact absurd H (by simp)
   rw [if_pos c58] at H
   have c58b0 := decide_eq_true c58
   have c58b1 : decide (0 < l2.length) = true := decide_eq_true (by omega)
   clear c58
   obtain ⟨y285, hy285⟩ : ∃ y_ : List Int, y_ = (l2.set (0 : Int).toNat t284) := ⟨_, rfl⟩
   (try rw [← hy285] at H); (try rw [Option.bind_some] at H); (try dsimp only at H)
   have Ny285 := am hy285
   clear hy285
   replace H := Option.bind_eq_some_iff.mp H
   obtain ⟨t286, A600, H⟩ := H
   (try dsimp only at H)
   have A60 := am A600
   clear A600
   simp only [Option.some.injEq, Prod.mk.injEq] at H
   obtain ⟨rfl, rfl, rfl⟩ := H
   go_enter Tryz.func19, Tryz.ntmps19
   go_wp2_with (first | ((refine gate_dst (N := 10) rfl ?_); refine bx (N := 10) (cs := #[.int .i64 0, .int .i64 0]) (t := 26) ?_; intro gb264 hg w61 hbox hb; replace HO2 := am (Kd.R_below (rr HO2.out) hb); have BK264 := am (hbox); have GW264 := am ((by rw [hg]; exact (by first | exact HK.out.1 | exact (show Kept w _ (fun k_ => P2_ k_) from kk).1) : w.heap.size ≤ gb264)); replace HK := am (Kept.below (S := (fun k_ => P2_ k_)) kk hb); have GE264 := am (gw hg (below_size bl)); replace HB := am (below_step bl hb); clear hb hbox hg; have q265 := ix0 (n := l3.length) ode; obtain ⟨ad265, e265, hx265_0, hx265_1⟩ := at_T26 (Kd.C_kept_now HR3.out HK.out) 0 (by omega) (of_eq_true q265.2.2); cases e265; (try rw [t0] at hx265_0); (try rw [show 0 * 2 = 0 from rfl] at hx265_0); (try rw [Addr.add_zero'] at hx265_0); (try rw [t0] at hx265_1); (try rw [show 0 * 2 = 0 from rfl] at hx265_1); (try rw [Addr.add_zero'] at hx265_1); obtain ⟨qi265, p265, q265⟩ := q265) | (go_at_call 30; (with_reducible refine (timer_bit.calls false t284 _ A57.out).mono ?_); rintro e w' ⟨rfl, ⟨nd, rfl⟩⟩; (try exact dd); have p59 : 0 ≤ (0 : Int) := (by omega); have q59 : (0 : Int) < ((l2.length : Int) : Int) := ode; have qi59 : (0 < l2.length) = True := eq_true (by omega); obtain ⟨go59, co59, eo59, gb59, gl59, cl59, HG59⟩ := Kd.R_form HO2.out (by omega); (first | cases eo59 | (injection eo59 with ea_ en_ ec_; (first | subst ea_ | (injection ea_ with ea_; subst ea_)); subst ec_; clear en_)); have GB59 := am gb59; have GG59 := am HG59; clear gb59 gl59 HG59; have HMgo59 := am (show (P2_ go59 ∨ w.heap.size ≤ go59) from (HO2.out.1 _ rfl)); obtain ⟨hx59_0, hf59_0⟩ := Kd.R_celln 0 HO2.out (0 : Int) p59 q59; (try rw [t0] at hx59_0); (try simp only [Nat.reduceMul, Nat.zero_mul, Nat.zero_add, Nat.reduceAdd] at hx59_0); (try rw [t0] at hf59_0); (try simp only [Nat.reduceMul, Nat.zero_mul, Nat.zero_add, Nat.reduceAdd] at hf59_0); replace p59 := eq_true p59; replace q59 := eq_true q59; obtain ⟨hy62_, hz62_⟩ := Kd.R_celln 0 HO2.out (0 : Int) (by omega) (ode); (try simp only [Int.reduceToNat, Int.toNat_zero, Int.toNat_ofNat, Nat.reduceMul, Nat.zero_mul, Nat.zero_add] at hy62_ hz62_); (try rw [t0] at hy62_); (try rw [t0] at hz62_); have HP62 := Kd.R_putg HO2.out (0 : Int) t284) | ((refine gate_store (t := 2) (p := 63) rfl ?_); (try (rw [drewN_self w61]; generalize hq_ : World.drewN w61 _ = w61; have n0_ := am (Kd.R_at hq_ HO2.out); have n1_ := am (blk_at hq_ BK264.out); have n2_ := am (kept_at hq_ HK.out); have n3_ := am (below_at hq_ HB.out); clear hq_ HO2 BK264 HK HB; have HO2 := n0_; have BK264 := n1_; have HK := n2_; have HB := n3_; clear n0_ n1_ n2_ n3_; (try (obtain ⟨hy62_, hz62_⟩ := Kd.R_celln 0 HO2.out (0 : Int) (by omega) (ode))); (try (try simp only [Int.reduceToNat, Int.toNat_zero, Int.toNat_ofNat, Nat.reduceMul, Nat.zero_mul, Nat.zero_add] at hy62_ hz62_)); (try (try rw [t0] at hy62_)); (try (try rw [t0] at hz62_)); (try (have HP62 := Kd.R_putg HO2.out (0 : Int) t284)))); refine store_event (t := 2) (p := 63) (v := ?vo_w63) (w1 := (w61.setCell ⟨go59, (0 : Int).toNat, none⟩ (.int .i64 t284))) ?hg ?ho ?hn ?hr ?_; (case ho => rfl); (case hg => rfl); (case hn => rfl); (case hr => first | (go_simp; done) | (go_simp; rfl)); intro w63 hw; have hg : w61.grownBy w63 (some go59) := (by rw [hw]; exact HP62.2); have hp_ : Kd.R (Kd.int .i64) 2 w63 w0.heap.size (fun k_ => (P2_ k_ ∨ w.heap.size ≤ k_)) (.slice (some ⟨go59, 0, none⟩) l2.length co59) y285 := (by rw [hw, Ny285.out]; exact HP62.1); clear HP62; have n0_ := am (hp_); have n1_ := am (blk_grown (rb BK264.out) hg (Kd.R_ne HO2.out BK264.out (by decide))); have n2_ := am ((by rw [hw]; exact below_set (HB.out) GB59.out : Below w0.heap.size w0 w63)); have n3_ := am (Kept.of_grown (S := (fun k_ => P2_ k_)) hg (ks1 GW264.out) (fun k_ e_ => (HO2.out.1 k_ e_))); revert n0_ n1_ n2_ n3_; clear HO2 BK264 HB HK; intro HO2 BK264 HB HK; clear hg hw hp_) | (go_at_call 30; (with_reducible refine (timer_bit.calls false t286 _ A60.out).mono ?_); rintro e w' ⟨rfl, ⟨nd, rfl⟩⟩; (try exact dd); obtain ⟨hcz64_0, hcz64_1, hfz64_0, hfz64_1⟩ := bz2 BK264.out))
   refine bodyPost_ret (results_cell_row rfl _ _ gb264 26 #[.int .i64 2, .int .i64 t286] (0, 0) _ rfl (by refine rb ?_; refine blk_put (cs := #[.int .i64 2, .int .i64 0]) ?_ 1 _ rfl; refine rb ?_; refine blk_put (cs := #[.int .i64 0, .int .i64 0]) ?_ 0 _ rfl; exact rb BK264.out) Tryz.underlying26 rfl (by kernel_rfl)) rfl ?_
   exact ⟨ew, rr (Kd.R_mono (Kd.R_far (p := ⟨gb264, 1, none⟩) (Kd.R_far (p := ⟨gb264, 0, none⟩) (Kd.R_types HO2.out BK264.out (by decide)) (fun _ hk => hk.2) (.int .i64 2)) (fun _ hk => hk.2) (.int .i64 t286)) (fun _ hk => hk.1)), bs1 GE264.out, ks1 GW264.out⟩
  rw [if_pos c47] at H
  have c47b0 := beq_iff_eq.mpr c47
  have c47b1 := bne_eq_false_iff_eq.mpr c47
  clear c47
  by_cases c48 : 0 < (l2.length : Int)
  rotate_left
  ·
   rw [if_neg c48] at H
   exact absurd H (by simp)
  rw [if_pos c48] at H
  have c48b0 := decide_eq_true c48
  have c48b1 : decide (0 < l2.length) = true := decide_eq_true (by omega)
  clear c48
  replace H := Option.bind_eq_some_iff.mp H
  obtain ⟨t281, A490, H⟩ := H
  (try dsimp only at H)
  have A49 := am A490
  clear A490
  obtain ⟨y282, hy282⟩ : ∃ y_ : List Int, y_ = (l2.set (0 : Int).toNat t281) := ⟨_, rfl⟩
  (try rw [← hy282] at H); (try rw [Option.bind_some] at H); (try dsimp only at H)
  have Ny282 := am hy282
  clear hy282
  replace H := Option.bind_eq_some_iff.mp H
  obtain ⟨t283, A510, H⟩ := H
  (try dsimp only at H)
  have A51 := am A510
  clear A510
  simp only [Option.some.injEq, Prod.mk.injEq] at H
  obtain ⟨rfl, rfl, rfl⟩ := H
  go_enter Tryz.func19, Tryz.ntmps19
  go_wp2_with (first | ((refine gate_dst (N := 10) rfl ?_); refine bx (N := 10) (cs := #[.int .i64 0, .int .i64 0]) (t := 26) ?_; intro gb264 hg w52 hbox hb; replace HO2 := am (Kd.R_below (rr HO2.out) hb); have BK264 := am (hbox); have GW264 := am ((by rw [hg]; exact (by first | exact HK.out.1 | exact (show Kept w _ (fun k_ => P2_ k_) from kk).1) : w.heap.size ≤ gb264)); replace HK := am (Kept.below (S := (fun k_ => P2_ k_)) kk hb); have GE264 := am (gw hg (below_size bl)); replace HB := am (below_step bl hb); clear hb hbox hg; have q265 := ix0 (n := l3.length) ode; obtain ⟨ad265, e265, hx265_0, hx265_1⟩ := at_T26 (Kd.C_kept_now HR3.out HK.out) 0 (by omega) (of_eq_true q265.2.2); cases e265; (try rw [t0] at hx265_0); (try rw [show 0 * 2 = 0 from rfl] at hx265_0); (try rw [Addr.add_zero'] at hx265_0); (try rw [t0] at hx265_1); (try rw [show 0 * 2 = 0 from rfl] at hx265_1); (try rw [Addr.add_zero'] at hx265_1); obtain ⟨qi265, p265, q265⟩ := q265; obtain ⟨Ao53, co53, eo53⟩ := Kd.R_slice HO2.out; subst eo53; have q280 := ix0 (n := l2.length) ode; obtain ⟨ad280, e280, hx280_0⟩ := Kd.at_int (Kd.R_reads' HO2.out).2.2 0 (by omega) (of_eq_true q280.2.2); cases e280; (try rw [t0] at hx280_0); (try rw [Addr.add_zero'] at hx280_0); obtain ⟨qi280, p280, q280⟩ := q280) | (go_at_call 30; (with_reducible refine (timer_bit.calls true t281 _ A49.out).mono ?_); rintro e w' ⟨rfl, ⟨nd, rfl⟩⟩; (try exact dd); have p50 : 0 ≤ (0 : Int) := (by omega); have q50 : (0 : Int) < ((l2.length : Int) : Int) := ode; have qi50 : (0 < l2.length) = True := eq_true (by omega); obtain ⟨go50, co50, eo50, gb50, gl50, cl50, HG50⟩ := Kd.R_form HO2.out (by omega); (first | cases eo50 | (injection eo50 with ea_ en_ ec_; (first | subst ea_ | (injection ea_ with ea_; subst ea_)); subst ec_; clear en_)); have GB50 := am gb50; have GG50 := am HG50; clear gb50 gl50 HG50; have HMgo50 := am (show (P2_ go50 ∨ w.heap.size ≤ go50) from (HO2.out.1 _ rfl)); (first | simp only [add_plain] at hx280_0 | skip); obtain ⟨hx50_0, hf50_0⟩ := Kd.R_celln 0 HO2.out (0 : Int) p50 q50; (try rw [t0] at hx50_0); (try simp only [Nat.reduceMul, Nat.zero_mul, Nat.zero_add, Nat.reduceAdd] at hx50_0); (try rw [t0] at hf50_0); (try simp only [Nat.reduceMul, Nat.zero_mul, Nat.zero_add, Nat.reduceAdd] at hf50_0); replace p50 := eq_true p50; replace q50 := eq_true q50; obtain ⟨hy54_, hz54_⟩ := Kd.R_celln 0 HO2.out (0 : Int) (by omega) (ode); (try simp only [Int.reduceToNat, Int.toNat_zero, Int.toNat_ofNat, Nat.reduceMul, Nat.zero_mul, Nat.zero_add] at hy54_ hz54_); (try rw [t0] at hy54_); (try rw [t0] at hz54_); have HP54 := Kd.R_putg HO2.out (0 : Int) t281) | ((refine gate_store (t := 2) (p := 63) rfl ?_); (try (rw [drewN_self w52]; generalize hq_ : World.drewN w52 _ = w52; have n0_ := am (Kd.R_at hq_ HO2.out); have n1_ := am (blk_at hq_ BK264.out); have n2_ := am (kept_at hq_ HK.out); have n3_ := am (below_at hq_ HB.out); clear hq_ HO2 BK264 HK HB; have HO2 := n0_; have BK264 := n1_; have HK := n2_; have HB := n3_; clear n0_ n1_ n2_ n3_; (try (obtain ⟨hy54_, hz54_⟩ := Kd.R_celln 0 HO2.out (0 : Int) (by omega) (ode))); (try (try simp only [Int.reduceToNat, Int.toNat_zero, Int.toNat_ofNat, Nat.reduceMul, Nat.zero_mul, Nat.zero_add] at hy54_ hz54_)); (try (try rw [t0] at hy54_)); (try (try rw [t0] at hz54_)); (try (have HP54 := Kd.R_putg HO2.out (0 : Int) t281)))); refine store_event (t := 2) (p := 63) (v := ?vo_w55) (w1 := (w52.setCell ⟨go50, (0 : Int).toNat, none⟩ (.int .i64 t281))) ?hg ?ho ?hn ?hr ?_; (case ho => rfl); (case hg => rfl); (case hn => rfl); (case hr => first | (go_simp; done) | (go_simp; rfl)); intro w55 hw; have hg : w52.grownBy w55 (some go50) := (by rw [hw]; exact HP54.2); have hp_ : Kd.R (Kd.int .i64) 2 w55 w0.heap.size (fun k_ => (P2_ k_ ∨ w.heap.size ≤ k_)) (.slice (some ⟨go50, 0, none⟩) l2.length co53) y282 := (by rw [hw, Ny282.out]; exact HP54.1); clear HP54; have n0_ := am (hp_); have n1_ := am (blk_grown (rb BK264.out) hg (Kd.R_ne HO2.out BK264.out (by decide))); have n2_ := am ((by rw [hw]; exact below_set (HB.out) GB50.out : Below w0.heap.size w0 w55)); have n3_ := am (Kept.of_grown (S := (fun k_ => P2_ k_)) hg (ks1 GW264.out) (fun k_ e_ => (HO2.out.1 k_ e_))); revert n0_ n1_ n2_ n3_; clear HO2 BK264 HB HK; intro HO2 BK264 HB HK; clear hg hw hp_) | (go_at_call 30; (with_reducible refine (timer_bit.calls ((rd l2 0) == 0) t283 _ A51.out).mono ?_); rintro e w' ⟨rfl, ⟨nd, rfl⟩⟩; (try exact dd); obtain ⟨hcz56_0, hcz56_1, hfz56_0, hfz56_1⟩ := bz2 BK264.out))
  refine bodyPost_ret (results_cell_row rfl _ _ gb264 26 #[.int .i64 2, .int .i64 t283] (0, 0) _ rfl (by refine rb ?_; refine blk_put (cs := #[.int .i64 2, .int .i64 0]) ?_ 1 _ rfl; refine rb ?_; refine blk_put (cs := #[.int .i64 0, .int .i64 0]) ?_ 0 _ rfl; exact rb BK264.out) Tryz.underlying26 rfl (by kernel_rfl)) rfl ?_
  exact ⟨ew, rr (Kd.R_mono (Kd.R_far (p := ⟨gb264, 1, none⟩) (Kd.R_far (p := ⟨gb264, 0, none⟩) (Kd.R_types HO2.out BK264.out (by decide)) (fun _ hk => hk.2) (.int .i64 2)) (fun _ hk => hk.2) (.int .i64 t283)) (fun _ hk => hk.1)), bs1 GE264.out, ks1 GW264.out⟩
 rw [if_neg c46] at H
 have c46b0 := beq_eq_false_iff_ne.mpr c46
 have c46b1 := bne_iff_ne.mpr c46
 by_cases c65 : a0.toList = ([104, 121, 115, 116] : List UInt8)
 ·
  rw [if_pos c65] at H
  have c65b0 := beq_iff_eq.mpr c65
  have c65b1 := bne_eq_false_iff_eq.mpr c65
  clear c65
  by_cases c66 : 0 < (l1.length : Int)
  rotate_left
  ·
   rw [if_neg c66] at H
   exact absurd H (by simp)
  rw [if_pos c66] at H
  have c66b0 := decide_eq_true c66
  have c66b1 : decide (0 < l1.length) = true := decide_eq_true (by omega)
  clear c66
  by_cases c67 : ((rd_T26 l3 0).f1) > (rd l1 0)
  ·
   rw [if_pos c67] at H
   have c67b0 : decide ((rd l1 0) < ((rd_T26 l3 0).f1)) = true := decide_eq_true c67
   clear c67
   by_cases c68 : 0 < (l2.length : Int)
   rotate_left
   ·
    rw [if_neg c68] at H
    exact absurd H (by simp)
   rw [if_pos c68] at H
   have c68b0 := decide_eq_true c68
   have c68b1 : decide (0 < l2.length) = true := decide_eq_true (by omega)
   clear c68
   obtain ⟨y289, hy289⟩ : ∃ y_ : List Int, y_ = (l2.set (0 : Int).toNat 1) := ⟨_, rfl⟩
   (try rw [← hy289] at H); (try rw [Option.bind_some] at H); (try dsimp only at H)
   have Ny289 := am hy289
   clear hy289
   replace H := Option.bind_eq_some_iff.mp H
   obtain ⟨t291, A700, H⟩ := H
   (try dsimp only at H)
   have A70 := am A700
   clear A700
   simp only [Option.some.injEq, Prod.mk.injEq] at H
   obtain ⟨rfl, rfl, rfl⟩ := H
   go_enter Tryz.func19, Tryz.ntmps19
   go_wp2_with (first | ((refine gate_dst (N := 10) rfl ?_); refine bx (N := 10) (cs := #[.int .i64 0, .int .i64 0]) (t := 26) ?_; intro gb264 hg w71 hbox hb; replace HO2 := am (Kd.R_below (rr HO2.out) hb); have BK264 := am (hbox); have GW264 := am ((by rw [hg]; exact (by first | exact HK.out.1 | exact (show Kept w _ (fun k_ => P2_ k_) from kk).1) : w.heap.size ≤ gb264)); replace HK := am (Kept.below (S := (fun k_ => P2_ k_)) kk hb); have GE264 := am (gw hg (below_size bl)); replace HB := am (below_step bl hb); clear hb hbox hg; have q265 := ix0 (n := l3.length) ode; obtain ⟨ad265, e265, hx265_0, hx265_1⟩ := at_T26 (Kd.C_kept_now HR3.out HK.out) 0 (by omega) (of_eq_true q265.2.2); cases e265; (try rw [t0] at hx265_0); (try rw [show 0 * 2 = 0 from rfl] at hx265_0); (try rw [Addr.add_zero'] at hx265_0); (try rw [t0] at hx265_1); (try rw [show 0 * 2 = 0 from rfl] at hx265_1); (try rw [Addr.add_zero'] at hx265_1); obtain ⟨qi265, p265, q265⟩ := q265; have q287 := ix0 (n := l3.length) ode; obtain ⟨ad287, e287, hx287_0, hx287_1⟩ := at_T26 (Kd.C_kept_now HR3.out HK.out) 0 (by omega) (of_eq_true q287.2.2); obtain rfl : ad265 = ad287 := (by injection e287); (try rw [t0] at hx287_0); (try rw [show 0 * 2 = 0 from rfl] at hx287_0); (try rw [Addr.add_zero'] at hx287_0); (try rw [t0] at hx287_1); (try rw [show 0 * 2 = 0 from rfl] at hx287_1); (try rw [Addr.add_zero'] at hx287_1); obtain ⟨qi287, p287, q287⟩ := q287; have q288 := ix0 (n := l1.length) ode; obtain ⟨ad288, e288, hx288_0⟩ := Kd.at_int (Kd.C_kept_now HR1.out HK.out) 0 (by omega) (of_eq_true q288.2.2); cases e288; (try rw [t0] at hx288_0); (try rw [Addr.add_zero'] at hx288_0); obtain ⟨qi288, p288, q288⟩ := q288; have p69 : 0 ≤ (0 : Int) := (by omega); have q69 : (0 : Int) < ((l2.length : Int) : Int) := ode; have qi69 : (0 < l2.length) = True := eq_true (by omega); obtain ⟨go69, co69, eo69, gb69, gl69, cl69, HG69⟩ := Kd.R_form HO2.out (by omega); (first | cases eo69 | (injection eo69 with ea_ en_ ec_; (first | subst ea_ | (injection ea_ with ea_; subst ea_)); subst ec_; clear en_)); have GB69 := am gb69; have GG69 := am HG69; clear gb69 gl69 HG69; have HMgo69 := am (show (P2_ go69 ∨ w.heap.size ≤ go69) from (HO2.out.1 _ rfl)); obtain ⟨hx69_0, hf69_0⟩ := Kd.R_celln 0 HO2.out (0 : Int) p69 q69; (try rw [t0] at hx69_0); (try simp only [Nat.reduceMul, Nat.zero_mul, Nat.zero_add, Nat.reduceAdd] at hx69_0); (try rw [t0] at hf69_0); (try simp only [Nat.reduceMul, Nat.zero_mul, Nat.zero_add, Nat.reduceAdd] at hf69_0); replace p69 := eq_true p69; replace q69 := eq_true q69; obtain ⟨hy72_, hz72_⟩ := Kd.R_celln 0 HO2.out (0 : Int) (by omega) (ode); (try simp only [Int.reduceToNat, Int.toNat_zero, Int.toNat_ofNat, Nat.reduceMul, Nat.zero_mul, Nat.zero_add] at hy72_ hz72_); (try rw [t0] at hy72_); (try rw [t0] at hz72_); have HP72 := Kd.R_putg HO2.out (0 : Int) 1) | ((refine gate_store (t := 2) (p := 75) rfl ?_); (try (rw [drewN_self w71]; generalize hq_ : World.drewN w71 _ = w71; have n0_ := am (Kd.R_at hq_ HO2.out); have n1_ := am (blk_at hq_ BK264.out); have n2_ := am (kept_at hq_ HK.out); have n3_ := am (below_at hq_ HB.out); clear hq_ HO2 BK264 HK HB; have HO2 := n0_; have BK264 := n1_; have HK := n2_; have HB := n3_; clear n0_ n1_ n2_ n3_; (try (obtain ⟨hy72_, hz72_⟩ := Kd.R_celln 0 HO2.out (0 : Int) (by omega) (ode))); (try (try simp only [Int.reduceToNat, Int.toNat_zero, Int.toNat_ofNat, Nat.reduceMul, Nat.zero_mul, Nat.zero_add] at hy72_ hz72_)); (try (try rw [t0] at hy72_)); (try (try rw [t0] at hz72_)); (try (have HP72 := Kd.R_putg HO2.out (0 : Int) 1)))); refine store_event (t := 2) (p := 75) (v := ?vo_w73) (w1 := (w71.setCell ⟨go69, (0 : Int).toNat, none⟩ (.int .i64 1))) ?hg ?ho ?hn ?hr ?_; (case ho => rfl); (case hg => rfl); (case hn => rfl); (case hr => first | (go_simp; done) | (go_simp; rfl)); intro w73 hw; have hg : w71.grownBy w73 (some go69) := (by rw [hw]; exact HP72.2); have hp_ : Kd.R (Kd.int .i64) 2 w73 w0.heap.size (fun k_ => (P2_ k_ ∨ w.heap.size ≤ k_)) (.slice (some ⟨go69, 0, none⟩) l2.length co69) y289 := (by rw [hw, Ny289.out]; exact HP72.1); clear HP72; have n0_ := am (hp_); have n1_ := am (blk_grown (rb BK264.out) hg (Kd.R_ne HO2.out BK264.out (by decide))); have n2_ := am ((by rw [hw]; exact below_set (HB.out) GB69.out : Below w0.heap.size w0 w73)); have n3_ := am (Kept.of_grown (S := (fun k_ => P2_ k_)) hg (ks1 GW264.out) (fun k_ e_ => (HO2.out.1 k_ e_))); revert n0_ n1_ n2_ n3_; clear HO2 BK264 HB HK; intro HO2 BK264 HB HK; clear hg hw hp_; have p290 : 0 ≤ (0 : Int) := (by omega); have q290 : 0 < (y289.length : Int) := (by have h_ : (0 : Int) < ((l2.length : Int) : Int) := ode; first | (have e_ := (Kd.R_reads' HO2.out).1; omega) | simpa only [Ny289.out, List.length_set] using h_); have ql290 : ((0 : Int) < ((l2.length : Int) : Int)) = True := eq_true (ode); (try have qn290 : (0 < l2.length) = True := eq_true (by have h_ : (0 : Int) < ((l2.length : Int) : Int) := ode; omega)); obtain ⟨ad290, e290, hx290_0⟩ := Kd.at_int (Kd.R_reads' HO2.out).2.2 0 p290 q290; obtain rfl : (⟨go69, 0, none⟩ : Addr) = ad290 := (by injection e290); (first | simp only [add_plain] at hx290_0 | simp only [add_at] at hx290_0 | simp only [Addr.add, Nat.zero_add] at hx290_0 | skip); have qi290 : (0 < y289.length) = True := eq_true (by omega); (try rw [t0] at hx290_0); (try rw [Addr.add_zero'] at hx290_0); replace p290 := eq_true p290; replace q290 := eq_true q290) | (go_at_call 30; (with_reducible refine (timer_bit.calls ((rd y289 0) == 1) t291 _ A70.out).mono ?_); rintro e w' ⟨rfl, ⟨nd, rfl⟩⟩; (try exact dd); obtain ⟨hcz74_0, hcz74_1, hfz74_0, hfz74_1⟩ := bz2 BK264.out) | (go_quiet (first | ((refine gate_dst (N := 10) rfl ?_); refine bx (N := 10) (cs := #[.int .i64 0, .int .i64 0]) (t := 26) ?_; intro gb264 hg w71 hbox hb; replace HO2 := am (Kd.R_below (rr HO2.out) hb); have BK264 := am (hbox); have GW264 := am ((by rw [hg]; exact (by first | exact HK.out.1 | exact (show Kept w _ (fun k_ => P2_ k_) from kk).1) : w.heap.size ≤ gb264)); replace HK := am (Kept.below (S := (fun k_ => P2_ k_)) kk hb); have GE264 := am (gw hg (below_size bl)); replace HB := am (below_step bl hb); clear hb hbox hg; have q265 := ix0 (n := l3.length) ode; obtain ⟨ad265, e265, hx265_0, hx265_1⟩ := at_T26 (Kd.C_kept_now HR3.out HK.out) 0 (by omega) (of_eq_true q265.2.2); cases e265; (try rw [t0] at hx265_0); (try rw [show 0 * 2 = 0 from rfl] at hx265_0); (try rw [Addr.add_zero'] at hx265_0); (try rw [t0] at hx265_1); (try rw [show 0 * 2 = 0 from rfl] at hx265_1); (try rw [Addr.add_zero'] at hx265_1); obtain ⟨qi265, p265, q265⟩ := q265; have q287 := ix0 (n := l3.length) ode; obtain ⟨ad287, e287, hx287_0, hx287_1⟩ := at_T26 (Kd.C_kept_now HR3.out HK.out) 0 (by omega) (of_eq_true q287.2.2); obtain rfl : ad265 = ad287 := (by injection e287); (try rw [t0] at hx287_0); (try rw [show 0 * 2 = 0 from rfl] at hx287_0); (try rw [Addr.add_zero'] at hx287_0); (try rw [t0] at hx287_1); (try rw [show 0 * 2 = 0 from rfl] at hx287_1); (try rw [Addr.add_zero'] at hx287_1); obtain ⟨qi287, p287, q287⟩ := q287; have q288 := ix0 (n := l1.length) ode; obtain ⟨ad288, e288, hx288_0⟩ := Kd.at_int (Kd.C_kept_now HR1.out HK.out) 0 (by omega) (of_eq_true q288.2.2); cases e288; (try rw [t0] at hx288_0); (try rw [Addr.add_zero'] at hx288_0); obtain ⟨qi288, p288, q288⟩ := q288; have p69 : 0 ≤ (0 : Int) := (by omega); have q69 : (0 : Int) < ((l2.length : Int) : Int) := ode; have qi69 : (0 < l2.length) = True := eq_true (by omega); obtain ⟨go69, co69, eo69, gb69, gl69, cl69, HG69⟩ := Kd.R_form HO2.out (by omega); (first | cases eo69 | (injection eo69 with ea_ en_ ec_; (first | subst ea_ | (injection ea_ with ea_; subst ea_)); subst ec_; clear en_)); have GB69 := am gb69; have GG69 := am HG69; clear gb69 gl69 HG69; have HMgo69 := am (show (P2_ go69 ∨ w.heap.size ≤ go69) from (HO2.out.1 _ rfl)); obtain ⟨hx69_0, hf69_0⟩ := Kd.R_celln 0 HO2.out (0 : Int) p69 q69; (try rw [t0] at hx69_0); (try simp only [Nat.reduceMul, Nat.zero_mul, Nat.zero_add, Nat.reduceAdd] at hx69_0); (try rw [t0] at hf69_0); (try simp only [Nat.reduceMul, Nat.zero_mul, Nat.zero_add, Nat.reduceAdd] at hf69_0); replace p69 := eq_true p69; replace q69 := eq_true q69; obtain ⟨hy72_, hz72_⟩ := Kd.R_celln 0 HO2.out (0 : Int) (by omega) (ode); (try simp only [Int.reduceToNat, Int.toNat_zero, Int.toNat_ofNat, Nat.reduceMul, Nat.zero_mul, Nat.zero_add] at hy72_ hz72_); (try rw [t0] at hy72_); (try rw [t0] at hz72_); have HP72 := Kd.R_putg HO2.out (0 : Int) 1) | ((refine gate_store (t := 2) (p := 75) rfl ?_); (try (rw [drewN_self w71]; generalize hq_ : World.drewN w71 _ = w71; have n0_ := am (Kd.R_at hq_ HO2.out); have n1_ := am (blk_at hq_ BK264.out); have n2_ := am (kept_at hq_ HK.out); have n3_ := am (below_at hq_ HB.out); clear hq_ HO2 BK264 HK HB; have HO2 := n0_; have BK264 := n1_; have HK := n2_; have HB := n3_; clear n0_ n1_ n2_ n3_; (try (obtain ⟨hy72_, hz72_⟩ := Kd.R_celln 0 HO2.out (0 : Int) (by omega) (ode))); (try (try simp only [Int.reduceToNat, Int.toNat_zero, Int.toNat_ofNat, Nat.reduceMul, Nat.zero_mul, Nat.zero_add] at hy72_ hz72_)); (try (try rw [t0] at hy72_)); (try (try rw [t0] at hz72_)); (try (have HP72 := Kd.R_putg HO2.out (0 : Int) 1)))); refine store_event (t := 2) (p := 75) (v := ?vo_w73) (w1 := (w71.setCell ⟨go69, (0 : Int).toNat, none⟩ (.int .i64 1))) ?hg ?ho ?hn ?hr ?_; (case ho => rfl); (case hg => rfl); (case hn => rfl); (case hr => first | (go_simp; done) | (go_simp; rfl)); intro w73 hw; have hg : w71.grownBy w73 (some go69) := (by rw [hw]; exact HP72.2); have hp_ : Kd.R (Kd.int .i64) 2 w73 w0.heap.size (fun k_ => (P2_ k_ ∨ w.heap.size ≤ k_)) (.slice (some ⟨go69, 0, none⟩) l2.length co69) y289 := (by rw [hw, Ny289.out]; exact HP72.1); clear HP72; have n0_ := am (hp_); have n1_ := am (blk_grown (rb BK264.out) hg (Kd.R_ne HO2.out BK264.out (by decide))); have n2_ := am ((by rw [hw]; exact below_set (HB.out) GB69.out : Below w0.heap.size w0 w73)); have n3_ := am (Kept.of_grown (S := (fun k_ => P2_ k_)) hg (ks1 GW264.out) (fun k_ e_ => (HO2.out.1 k_ e_))); revert n0_ n1_ n2_ n3_; clear HO2 BK264 HB HK; intro HO2 BK264 HB HK; clear hg hw hp_; have p290 : 0 ≤ (0 : Int) := (by omega); have q290 : 0 < (y289.length : Int) := (by have h_ : (0 : Int) < ((l2.length : Int) : Int) := ode; first | (have e_ := (Kd.R_reads' HO2.out).1; omega) | simpa only [Ny289.out, List.length_set] using h_); have ql290 : ((0 : Int) < ((l2.length : Int) : Int)) = True := eq_true (ode); (try have qn290 : (0 < l2.length) = True := eq_true (by have h_ : (0 : Int) < ((l2.length : Int) : Int) := ode; omega)); obtain ⟨ad290, e290, hx290_0⟩ := Kd.at_int (Kd.R_reads' HO2.out).2.2 0 p290 q290; obtain rfl : (⟨go69, 0, none⟩ : Addr) = ad290 := (by injection e290); (first | simp only [add_plain] at hx290_0 | simp only [add_at] at hx290_0 | simp only [Addr.add, Nat.zero_add] at hx290_0 | skip); have qi290 : (0 < y289.length) = True := eq_true (by omega); (try rw [t0] at hx290_0); (try rw [Addr.add_zero'] at hx290_0); replace p290 := eq_true p290; replace q290 := eq_true q290) | (go_at_call 30; (with_reducible refine (timer_bit.calls ((rd y289 0) == 1) t291 _ A70.out).mono ?_); rintro e w' ⟨rfl, ⟨nd, rfl⟩⟩; (try exact dd); obtain ⟨hcz74_0, hcz74_1, hfz74_0, hfz74_1⟩ := bz2 BK264.out))))
   refine bodyPost_ret (results_cell_row rfl _ _ gb264 26 #[.int .i64 2, .int .i64 t291] (0, 0) _ rfl (by refine rb ?_; refine blk_put (cs := #[.int .i64 2, .int .i64 0]) ?_ 1 _ rfl; refine rb ?_; refine blk_put (cs := #[.int .i64 0, .int .i64 0]) ?_ 0 _ rfl; exact rb BK264.out) Tryz.underlying26 rfl (by kernel_rfl)) rfl ?_
   exact ⟨ew, rr (Kd.R_mono (Kd.R_far (p := ⟨gb264, 1, none⟩) (Kd.R_far (p := ⟨gb264, 0, none⟩) (Kd.R_types HO2.out BK264.out (by decide)) (fun _ hk => hk.2) (.int .i64 2)) (fun _ hk => hk.2) (.int .i64 t291)) (fun _ hk => hk.1)), bs1 GE264.out, ks1 GW264.out⟩
  rw [if_neg c67] at H
  have c67b0 : decide ((rd l1 0) < ((rd_T26 l3 0).f1)) = false := decide_eq_false c67
  clear c67
  by_cases c75 : 1 < (l1.length : Int)
  rotate_left
  ·
   rw [if_neg c75] at H
   exact absurd H (by simp)
  rw [if_pos c75] at H
  have c75b0 := decide_eq_true c75
  have c75b1 : decide (1 < l1.length) = true := decide_eq_true (by omega)
  clear c75
  by_cases c76 : ((rd_T26 l3 0).f1) < (rd l1 1)
  rotate_left
  ·
   rw [if_neg c76] at H
   have c76b0 := decide_eq_false c76
   clear c76
   by_cases c84 : 0 < (l2.length : Int)
   rotate_left
   ·
    rw [if_neg c84] at H
    exact absurd H (by simp)
   rw [if_pos c84] at H
   have c84b0 := decide_eq_true c84
   have c84b1 : decide (0 < l2.length) = true := decide_eq_true (by omega)
   clear c84
   replace H := Option.bind_eq_some_iff.mp H
   obtain ⟨t298, A850, H⟩ := H
   (try dsimp only at H)
   have A85 := am A850
   clear A850
   simp only [Option.some.injEq, Prod.mk.injEq] at H
   obtain ⟨rfl, rfl, rfl⟩ := H
   go_enter Tryz.func19, Tryz.ntmps19
   go_wp2_with (first | ((refine gate_dst (N := 10) rfl ?_); refine bx (N := 10) (cs := #[.int .i64 0, .int .i64 0]) (t := 26) ?_; intro gb264 hg w86 hbox hb; replace HO2 := am (Kd.R_below (rr HO2.out) hb); have BK264 := am (hbox); have GW264 := am ((by rw [hg]; exact (by first | exact HK.out.1 | exact (show Kept w _ (fun k_ => P2_ k_) from kk).1) : w.heap.size ≤ gb264)); replace HK := am (Kept.below (S := (fun k_ => P2_ k_)) kk hb); have GE264 := am (gw hg (below_size bl)); replace HB := am (below_step bl hb); clear hb hbox hg; have q265 := ix0 (n := l3.length) ode; obtain ⟨ad265, e265, hx265_0, hx265_1⟩ := at_T26 (Kd.C_kept_now HR3.out HK.out) 0 (by omega) (of_eq_true q265.2.2); cases e265; (try rw [t0] at hx265_0); (try rw [show 0 * 2 = 0 from rfl] at hx265_0); (try rw [Addr.add_zero'] at hx265_0); (try rw [t0] at hx265_1); (try rw [show 0 * 2 = 0 from rfl] at hx265_1); (try rw [Addr.add_zero'] at hx265_1); obtain ⟨qi265, p265, q265⟩ := q265; have q287 := ix0 (n := l3.length) ode; obtain ⟨ad287, e287, hx287_0, hx287_1⟩ := at_T26 (Kd.C_kept_now HR3.out HK.out) 0 (by omega) (of_eq_true q287.2.2); obtain rfl : ad265 = ad287 := (by injection e287); (try rw [t0] at hx287_0); (try rw [show 0 * 2 = 0 from rfl] at hx287_0); (try rw [Addr.add_zero'] at hx287_0); (try rw [t0] at hx287_1); (try rw [show 0 * 2 = 0 from rfl] at hx287_1); (try rw [Addr.add_zero'] at hx287_1); obtain ⟨qi287, p287, q287⟩ := q287; have q288 := ix0 (n := l1.length) ode; obtain ⟨ad288, e288, hx288_0⟩ := Kd.at_int (Kd.C_kept_now HR1.out HK.out) 0 (by omega) (of_eq_true q288.2.2); cases e288; (try rw [t0] at hx288_0); (try rw [Addr.add_zero'] at hx288_0); obtain ⟨qi288, p288, q288⟩ := q288; have q292 := ix0 (n := l3.length) ode; obtain ⟨ad292, e292, hx292_0, hx292_1⟩ := at_T26 (Kd.C_kept_now HR3.out HK.out) 0 (by omega) (of_eq_true q292.2.2); obtain rfl : ad265 = ad292 := (by injection e292); (try rw [t0] at hx292_0); (try rw [show 0 * 2 = 0 from rfl] at hx292_0); (try rw [Addr.add_zero'] at hx292_0); (try rw [t0] at hx292_1); (try rw [show 0 * 2 = 0 from rfl] at hx292_1); (try rw [Addr.add_zero'] at hx292_1); obtain ⟨qi292, p292, q292⟩ := q292; have q293 := ix1 (n := l1.length) ode; obtain ⟨ad293, e293, hx293_0⟩ := Kd.at_int (Kd.C_kept_now HR1.out HK.out) 1 (by omega) (of_eq_true q293.2.2); obtain rfl : ad288 = ad293 := (by injection e293); (try simp only [t1, Nat.reduceMul, Nat.reduceEqDiff, Go.Addr.add, ↓reduceIte] at hx293_0); obtain ⟨qi293, p293, q293⟩ := q293; obtain ⟨Ao87, co87, eo87⟩ := Kd.R_slice HO2.out; subst eo87; have q297 := ix0 (n := l2.length) ode; obtain ⟨ad297, e297, hx297_0⟩ := Kd.at_int (Kd.R_reads' HO2.out).2.2 0 (by omega) (of_eq_true q297.2.2); cases e297; (try rw [t0] at hx297_0); (try rw [Addr.add_zero'] at hx297_0); obtain ⟨qi297, p297, q297⟩ := q297) | (go_at_call 30; (with_reducible refine (timer_bit.calls ((rd l2 0) == 1) t298 _ A85.out).mono ?_); rintro e w' ⟨rfl, ⟨nd, rfl⟩⟩; (try exact dd); obtain ⟨hcz88_0, hcz88_1, hfz88_0, hfz88_1⟩ := bz2 BK264.out) | (go_quiet (first | ((refine gate_dst (N := 10) rfl ?_); refine bx (N := 10) (cs := #[.int .i64 0, .int .i64 0]) (t := 26) ?_; intro gb264 hg w86 hbox hb; replace HO2 := am (Kd.R_below (rr HO2.out) hb); have BK264 := am (hbox); have GW264 := am ((by rw [hg]; exact (by first | exact HK.out.1 | exact (show Kept w _ (fun k_ => P2_ k_) from kk).1) : w.heap.size ≤ gb264)); replace HK := am (Kept.below (S := (fun k_ => P2_ k_)) kk hb); have GE264 := am (gw hg (below_size bl)); replace HB := am (below_step bl hb); clear hb hbox hg; have q265 := ix0 (n := l3.length) ode; obtain ⟨ad265, e265, hx265_0, hx265_1⟩ := at_T26 (Kd.C_kept_now HR3.out HK.out) 0 (by omega) (of_eq_true q265.2.2); cases e265; (try rw [t0] at hx265_0); (try rw [show 0 * 2 = 0 from rfl] at hx265_0); (try rw [Addr.add_zero'] at hx265_0); (try rw [t0] at hx265_1); (try rw [show 0 * 2 = 0 from rfl] at hx265_1); (try rw [Addr.add_zero'] at hx265_1); obtain ⟨qi265, p265, q265⟩ := q265; have q287 := ix0 (n := l3.length) ode; obtain ⟨ad287, e287, hx287_0, hx287_1⟩ := at_T26 (Kd.C_kept_now HR3.out HK.out) 0 (by omega) (of_eq_true q287.2.2); obtain rfl : ad265 = ad287 := (by injection e287); (try rw [t0] at hx287_0); (try rw [show 0 * 2 = 0 from rfl] at hx287_0); (try rw [Addr.add_zero'] at hx287_0); (try rw [t0] at hx287_1); (try rw [show 0 * 2 = 0 from rfl] at hx287_1); (try rw [Addr.add_zero'] at hx287_1); obtain ⟨qi287, p287, q287⟩ := q287; have q288 := ix0 (n := l1.length) ode; obtain ⟨ad288, e288, hx288_0⟩ := Kd.at_int (Kd.C_kept_now HR1.out HK.out) 0 (by omega) (of_eq_true q288.2.2); cases e288; (try rw [t0] at hx288_0); (try rw [Addr.add_zero'] at hx288_0); obtain ⟨qi288, p288, q288⟩ := q288; have q292 := ix0 (n := l3.length) ode; obtain ⟨ad292, e292, hx292_0, hx292_1⟩ := at_T26 (Kd.C_kept_now HR3.out HK.out) 0 (by omega) (of_eq_true q292.2.2); obtain rfl : ad265 = ad292 := (by injection e292); (try rw [t0] at hx292_0); (try rw [show 0 * 2 = 0 from rfl] at hx292_0); (try rw [Addr.add_zero'] at hx292_0); (try rw [t0] at hx292_1); (try rw [show 0 * 2 = 0 from rfl] at hx292_1); (try rw [Addr.add_zero'] at hx292_1); obtain ⟨qi292, p292, q292⟩ := q292; have q293 := ix1 (n := l1.length) ode; obtain ⟨ad293, e293, hx293_0⟩ := Kd.at_int (Kd.C_kept_now HR1.out HK.out) 1 (by omega) (of_eq_true q293.2.2); obtain rfl : ad288 = ad293 := (by injection e293); (try simp only [t1, Nat.reduceMul, Nat.reduceEqDiff, Go.Addr.add, ↓reduceIte] at hx293_0); obtain ⟨qi293, p293, q293⟩ := q293; obtain ⟨Ao87, co87, eo87⟩ := Kd.R_slice HO2.out; subst eo87; have q297 := ix0 (n := l2.length) ode; obtain ⟨ad297, e297, hx297_0⟩ := Kd.at_int (Kd.R_reads' HO2.out).2.2 0 (by omega) (of_eq_true q297.2.2); cases e297; (try rw [t0] at hx297_0); (try rw [Addr.add_zero'] at hx297_0); obtain ⟨qi297, p297, q297⟩ := q297) | (go_at_call 30; (with_reducible refine (timer_bit.calls ((rd l2 0) == 1) t298 _ A85.out).mono ?_); rintro e w' ⟨rfl, ⟨nd, rfl⟩⟩; (try exact dd); obtain ⟨hcz88_0, hcz88_1, hfz88_0, hfz88_1⟩ := bz2 BK264.out))))
   refine bodyPost_ret (results_cell_row rfl _ _ gb264 26 #[.int .i64 2, .int .i64 t298] (0, 0) _ rfl (by refine rb ?_; refine blk_put (cs := #[.int .i64 2, .int .i64 0]) ?_ 1 _ rfl; refine rb ?_; refine blk_put (cs := #[.int .i64 0, .int .i64 0]) ?_ 0 _ rfl; exact rb BK264.out) Tryz.underlying26 rfl (by kernel_rfl)) rfl ?_
   exact ⟨ew, rr (Kd.R_mono (Kd.R_far (p := ⟨gb264, 1, none⟩) (Kd.R_far (p := ⟨gb264, 0, none⟩) (Kd.R_types HO2.out BK264.out (by decide)) (fun _ hk => hk.2) (.int .i64 2)) (fun _ hk => hk.2) (.int .i64 t298)) (fun _ hk => hk.1)), bs1 GE264.out, ks1 GW264.out⟩
  rw [if_pos c76] at H
  have c76b0 := decide_eq_true c76
  clear c76
  by_cases c77 : 0 < (l2.length : Int)
  rotate_left
  ·
   rw [if_neg c77] at H
   exact absurd H (by simp)
  rw [if_pos c77] at H
  have c77b0 := decide_eq_true c77
  have c77b1 : decide (0 < l2.length) = true := decide_eq_true (by omega)
  clear c77
  obtain ⟨y294, hy294⟩ : ∃ y_ : List Int, y_ = (l2.set (0 : Int).toNat 0) := ⟨_, rfl⟩
  (try rw [← hy294] at H); (try rw [Option.bind_some] at H); (try dsimp only at H)
  have Ny294 := am hy294
  clear hy294
  replace H := Option.bind_eq_some_iff.mp H
  obtain ⟨t296, A790, H⟩ := H
  (try dsimp only at H)
  have A79 := am A790
  clear A790
  simp only [Option.some.injEq, Prod.mk.injEq] at H
  obtain ⟨rfl, rfl, rfl⟩ := H
  go_enter Tryz.func19, Tryz.ntmps19
  go_wp2_with (first | ((refine gate_dst (N := 10) rfl ?_); refine bx (N := 10) (cs := #[.int .i64 0, .int .i64 0]) (t := 26) ?_; intro gb264 hg w80 hbox hb; replace HO2 := am (Kd.R_below (rr HO2.out) hb); have BK264 := am (hbox); have GW264 := am ((by rw [hg]; exact (by first | exact HK.out.1 | exact (show Kept w _ (fun k_ => P2_ k_) from kk).1) : w.heap.size ≤ gb264)); replace HK := am (Kept.below (S := (fun k_ => P2_ k_)) kk hb); have GE264 := am (gw hg (below_size bl)); replace HB := am (below_step bl hb); clear hb hbox hg; have q265 := ix0 (n := l3.length) ode; obtain ⟨ad265, e265, hx265_0, hx265_1⟩ := at_T26 (Kd.C_kept_now HR3.out HK.out) 0 (by omega) (of_eq_true q265.2.2); cases e265; (try rw [t0] at hx265_0); (try rw [show 0 * 2 = 0 from rfl] at hx265_0); (try rw [Addr.add_zero'] at hx265_0); (try rw [t0] at hx265_1); (try rw [show 0 * 2 = 0 from rfl] at hx265_1); (try rw [Addr.add_zero'] at hx265_1); obtain ⟨qi265, p265, q265⟩ := q265; have q287 := ix0 (n := l3.length) ode; obtain ⟨ad287, e287, hx287_0, hx287_1⟩ := at_T26 (Kd.C_kept_now HR3.out HK.out) 0 (by omega) (of_eq_true q287.2.2); obtain rfl : ad265 = ad287 := (by injection e287); (try rw [t0] at hx287_0); (try rw [show 0 * 2 = 0 from rfl] at hx287_0); (try rw [Addr.add_zero'] at hx287_0); (try rw [t0] at hx287_1); (try rw [show 0 * 2 = 0 from rfl] at hx287_1); (try rw [Addr.add_zero'] at hx287_1); obtain ⟨qi287, p287, q287⟩ := q287; have q288 := ix0 (n := l1.length) ode; obtain ⟨ad288, e288, hx288_0⟩ := Kd.at_int (Kd.C_kept_now HR1.out HK.out) 0 (by omega) (of_eq_true q288.2.2); cases e288; (try rw [t0] at hx288_0); (try rw [Addr.add_zero'] at hx288_0); obtain ⟨qi288, p288, q288⟩ := q288; have q292 := ix0 (n := l3.length) ode; obtain ⟨ad292, e292, hx292_0, hx292_1⟩ := at_T26 (Kd.C_kept_now HR3.out HK.out) 0 (by omega) (of_eq_true q292.2.2); obtain rfl : ad265 = ad292 := (by injection e292); (try rw [t0] at hx292_0); (try rw [show 0 * 2 = 0 from rfl] at hx292_0); (try rw [Addr.add_zero'] at hx292_0); (try rw [t0] at hx292_1); (try rw [show 0 * 2 = 0 from rfl] at hx292_1); (try rw [Addr.add_zero'] at hx292_1); obtain ⟨qi292, p292, q292⟩ := q292; have q293 := ix1 (n := l1.length) ode; obtain ⟨ad293, e293, hx293_0⟩ := Kd.at_int (Kd.C_kept_now HR1.out HK.out) 1 (by omega) (of_eq_true q293.2.2); obtain rfl : ad288 = ad293 := (by injection e293); (try simp only [t1, Nat.reduceMul, Nat.reduceEqDiff, Go.Addr.add, ↓reduceIte] at hx293_0); obtain ⟨qi293, p293, q293⟩ := q293; have p78 : 0 ≤ (0 : Int) := (by omega); have q78 : (0 : Int) < ((l2.length : Int) : Int) := ode; have qi78 : (0 < l2.length) = True := eq_true (by omega); obtain ⟨go78, co78, eo78, gb78, gl78, cl78, HG78⟩ := Kd.R_form HO2.out (by omega); (first | cases eo78 | (injection eo78 with ea_ en_ ec_; (first | subst ea_ | (injection ea_ with ea_; subst ea_)); subst ec_; clear en_)); have GB78 := am gb78; have GG78 := am HG78; clear gb78 gl78 HG78; have HMgo78 := am (show (P2_ go78 ∨ w.heap.size ≤ go78) from (HO2.out.1 _ rfl)); obtain ⟨hx78_0, hf78_0⟩ := Kd.R_celln 0 HO2.out (0 : Int) p78 q78; (try rw [t0] at hx78_0); (try simp only [Nat.reduceMul, Nat.zero_mul, Nat.zero_add, Nat.reduceAdd] at hx78_0); (try rw [t0] at hf78_0); (try simp only [Nat.reduceMul, Nat.zero_mul, Nat.zero_add, Nat.reduceAdd] at hf78_0); replace p78 := eq_true p78; replace q78 := eq_true q78; obtain ⟨hy81_, hz81_⟩ := Kd.R_celln 0 HO2.out (0 : Int) (by omega) (ode); (try simp only [Int.reduceToNat, Int.toNat_zero, Int.toNat_ofNat, Nat.reduceMul, Nat.zero_mul, Nat.zero_add] at hy81_ hz81_); (try rw [t0] at hy81_); (try rw [t0] at hz81_); have HP81 := Kd.R_putg HO2.out (0 : Int) 0) | ((refine gate_store (t := 2) (p := 85) rfl ?_); (try (rw [drewN_self w80]; generalize hq_ : World.drewN w80 _ = w80; have n0_ := am (Kd.R_at hq_ HO2.out); have n1_ := am (blk_at hq_ BK264.out); have n2_ := am (kept_at hq_ HK.out); have n3_ := am (below_at hq_ HB.out); clear hq_ HO2 BK264 HK HB; have HO2 := n0_; have BK264 := n1_; have HK := n2_; have HB := n3_; clear n0_ n1_ n2_ n3_; (try (obtain ⟨hy81_, hz81_⟩ := Kd.R_celln 0 HO2.out (0 : Int) (by omega) (ode))); (try (try simp only [Int.reduceToNat, Int.toNat_zero, Int.toNat_ofNat, Nat.reduceMul, Nat.zero_mul, Nat.zero_add] at hy81_ hz81_)); (try (try rw [t0] at hy81_)); (try (try rw [t0] at hz81_)); (try (have HP81 := Kd.R_putg HO2.out (0 : Int) 0)))); refine store_event (t := 2) (p := 85) (v := ?vo_w82) (w1 := (w80.setCell ⟨go78, (0 : Int).toNat, none⟩ (.int .i64 0))) ?hg ?ho ?hn ?hr ?_; (case ho => rfl); (case hg => rfl); (case hn => rfl); (case hr => first | (go_simp; done) | (go_simp; rfl)); intro w82 hw; have hg : w80.grownBy w82 (some go78) := (by rw [hw]; exact HP81.2); have hp_ : Kd.R (Kd.int .i64) 2 w82 w0.heap.size (fun k_ => (P2_ k_ ∨ w.heap.size ≤ k_)) (.slice (some ⟨go78, 0, none⟩) l2.length co78) y294 := (by rw [hw, Ny294.out]; exact HP81.1); clear HP81; have n0_ := am (hp_); have n1_ := am (blk_grown (rb BK264.out) hg (Kd.R_ne HO2.out BK264.out (by decide))); have n2_ := am ((by rw [hw]; exact below_set (HB.out) GB78.out : Below w0.heap.size w0 w82)); have n3_ := am (Kept.of_grown (S := (fun k_ => P2_ k_)) hg (ks1 GW264.out) (fun k_ e_ => (HO2.out.1 k_ e_))); revert n0_ n1_ n2_ n3_; clear HO2 BK264 HB HK; intro HO2 BK264 HB HK; clear hg hw hp_; have p295 : 0 ≤ (0 : Int) := (by omega); have q295 : 0 < (y294.length : Int) := (by have h_ : (0 : Int) < ((l2.length : Int) : Int) := ode; first | (have e_ := (Kd.R_reads' HO2.out).1; omega) | simpa only [Ny294.out, List.length_set] using h_); have ql295 : ((0 : Int) < ((l2.length : Int) : Int)) = True := eq_true (ode); (try have qn295 : (0 < l2.length) = True := eq_true (by have h_ : (0 : Int) < ((l2.length : Int) : Int) := ode; omega)); obtain ⟨ad295, e295, hx295_0⟩ := Kd.at_int (Kd.R_reads' HO2.out).2.2 0 p295 q295; obtain rfl : (⟨go78, 0, none⟩ : Addr) = ad295 := (by injection e295); (first | simp only [add_plain] at hx295_0 | simp only [add_at] at hx295_0 | simp only [Addr.add, Nat.zero_add] at hx295_0 | skip); have qi295 : (0 < y294.length) = True := eq_true (by omega); (try rw [t0] at hx295_0); (try rw [Addr.add_zero'] at hx295_0); replace p295 := eq_true p295; replace q295 := eq_true q295) | (go_at_call 30; (with_reducible refine (timer_bit.calls ((rd y294 0) == 1) t296 _ A79.out).mono ?_); rintro e w' ⟨rfl, ⟨nd, rfl⟩⟩; (try exact dd); obtain ⟨hcz83_0, hcz83_1, hfz83_0, hfz83_1⟩ := bz2 BK264.out) | (go_quiet (first | ((refine gate_dst (N := 10) rfl ?_); refine bx (N := 10) (cs := #[.int .i64 0, .int .i64 0]) (t := 26) ?_; intro gb264 hg w80 hbox hb; replace HO2 := am (Kd.R_below (rr HO2.out) hb); have BK264 := am (hbox); have GW264 := am ((by rw [hg]; exact (by first | exact HK.out.1 | exact (show Kept w _ (fun k_ => P2_ k_) from kk).1) : w.heap.size ≤ gb264)); replace HK := am (Kept.below (S := (fun k_ => P2_ k_)) kk hb); have GE264 := am (gw hg (below_size bl)); replace HB := am (below_step bl hb); clear hb hbox hg; have q265 := ix0 (n := l3.length) ode; obtain ⟨ad265, e265, hx265_0, hx265_1⟩ := at_T26 (Kd.C_kept_now HR3.out HK.out) 0 (by omega) (of_eq_true q265.2.2); cases e265; (try rw [t0] at hx265_0); (try rw [show 0 * 2 = 0 from rfl] at hx265_0); (try rw [Addr.add_zero'] at hx265_0); (try rw [t0] at hx265_1); (try rw [show 0 * 2 = 0 from rfl] at hx265_1); (try rw [Addr.add_zero'] at hx265_1); obtain ⟨qi265, p265, q265⟩ := q265; have q287 := ix0 (n := l3.length) ode; obtain ⟨ad287, e287, hx287_0, hx287_1⟩ := at_T26 (Kd.C_kept_now HR3.out HK.out) 0 (by omega) (of_eq_true q287.2.2); obtain rfl : ad265 = ad287 := (by injection e287); (try rw [t0] at hx287_0); (try rw [show 0 * 2 = 0 from rfl] at hx287_0); (try rw [Addr.add_zero'] at hx287_0); (try rw [t0] at hx287_1); (try rw [show 0 * 2 = 0 from rfl] at hx287_1); (try rw [Addr.add_zero'] at hx287_1); obtain ⟨qi287, p287, q287⟩ := q287; have q288 := ix0 (n := l1.length) ode; obtain ⟨ad288, e288, hx288_0⟩ := Kd.at_int (Kd.C_kept_now HR1.out HK.out) 0 (by omega) (of_eq_true q288.2.2); cases e288; (try rw [t0] at hx288_0); (try rw [Addr.add_zero'] at hx288_0); obtain ⟨qi288, p288, q288⟩ := q288; have q292 := ix0 (n := l3.length) ode; obtain ⟨ad292, e292, hx292_0, hx292_1⟩ := at_T26 (Kd.C_kept_now HR3.out HK.out) 0 (by omega) (of_eq_true q292.2.2); obtain rfl : ad265 = ad292 := (by injection e292); (try rw [t0] at hx292_0); (try rw [show 0 * 2 = 0 from rfl] at hx292_0); (try rw [Addr.add_zero'] at hx292_0); (try rw [t0] at hx292_1); (try rw [show 0 * 2 = 0 from rfl] at hx292_1); (try rw [Addr.add_zero'] at hx292_1); obtain ⟨qi292, p292, q292⟩ := q292; have q293 := ix1 (n := l1.length) ode; obtain ⟨ad293, e293, hx293_0⟩ := Kd.at_int (Kd.C_kept_now HR1.out HK.out) 1 (by omega) (of_eq_true q293.2.2); obtain rfl : ad288 = ad293 := (by injection e293); (try simp only [t1, Nat.reduceMul, Nat.reduceEqDiff, Go.Addr.add, ↓reduceIte] at hx293_0); obtain ⟨qi293, p293, q293⟩ := q293; have p78 : 0 ≤ (0 : Int) := (by omega); have q78 : (0 : Int) < ((l2.length : Int) : Int) := ode; have qi78 : (0 < l2.length) = True := eq_true (by omega); obtain ⟨go78, co78, eo78, gb78, gl78, cl78, HG78⟩ := Kd.R_form HO2.out (by omega); (first | cases eo78 | (injection eo78 with ea_ en_ ec_; (first | subst ea_ | (injection ea_ with ea_; subst ea_)); subst ec_; clear en_)); have GB78 := am gb78; have GG78 := am HG78; clear gb78 gl78 HG78; have HMgo78 := am (show (P2_ go78 ∨ w.heap.size ≤ go78) from (HO2.out.1 _ rfl)); obtain ⟨hx78_0, hf78_0⟩ := Kd.R_celln 0 HO2.out (0 : Int) p78 q78; (try rw [t0] at hx78_0); (try simp only [Nat.reduceMul, Nat.zero_mul, Nat.zero_add, Nat.reduceAdd] at hx78_0); (try rw [t0] at hf78_0); (try simp only [Nat.reduceMul, Nat.zero_mul, Nat.zero_add, Nat.reduceAdd] at hf78_0); replace p78 := eq_true p78; replace q78 := eq_true q78; obtain ⟨hy81_, hz81_⟩ := Kd.R_celln 0 HO2.out (0 : Int) (by omega) (ode); (try simp only [Int.reduceToNat, Int.toNat_zero, Int.toNat_ofNat, Nat.reduceMul, Nat.zero_mul, Nat.zero_add] at hy81_ hz81_); (try rw [t0] at hy81_); (try rw [t0] at hz81_); have HP81 := Kd.R_putg HO2.out (0 : Int) 0) | ((refine gate_store (t := 2) (p := 85) rfl ?_); (try (rw [drewN_self w80]; generalize hq_ : World.drewN w80 _ = w80; have n0_ := am (Kd.R_at hq_ HO2.out); have n1_ := am (blk_at hq_ BK264.out); have n2_ := am (kept_at hq_ HK.out); have n3_ := am (below_at hq_ HB.out); clear hq_ HO2 BK264 HK HB; have HO2 := n0_; have BK264 := n1_; have HK := n2_; have HB := n3_; clear n0_ n1_ n2_ n3_; (try (obtain ⟨hy81_, hz81_⟩ := Kd.R_celln 0 HO2.out (0 : Int) (by omega) (ode))); (try (try simp only [Int.reduceToNat, Int.toNat_zero, Int.toNat_ofNat, Nat.reduceMul, Nat.zero_mul, Nat.zero_add] at hy81_ hz81_)); (try (try rw [t0] at hy81_)); (try (try rw [t0] at hz81_)); (try (have HP81 := Kd.R_putg HO2.out (0 : Int) 0)))); refine store_event (t := 2) (p := 85) (v := ?vo_w82) (w1 := (w80.setCell ⟨go78, (0 : Int).toNat, none⟩ (.int .i64 0))) ?hg ?ho ?hn ?hr ?_; (case ho => rfl); (case hg => rfl); (case hn => rfl); (case hr => first | (go_simp; done) | (go_simp; rfl)); intro w82 hw; have hg : w80.grownBy w82 (some go78) := (by rw [hw]; exact HP81.2); have hp_ : Kd.R (Kd.int .i64) 2 w82 w0.heap.size (fun k_ => (P2_ k_ ∨ w.heap.size ≤ k_)) (.slice (some ⟨go78, 0, none⟩) l2.length co78) y294 := (by rw [hw, Ny294.out]; exact HP81.1); clear HP81; have n0_ := am (hp_); have n1_ := am (blk_grown (rb BK264.out) hg (Kd.R_ne HO2.out BK264.out (by decide))); have n2_ := am ((by rw [hw]; exact below_set (HB.out) GB78.out : Below w0.heap.size w0 w82)); have n3_ := am (Kept.of_grown (S := (fun k_ => P2_ k_)) hg (ks1 GW264.out) (fun k_ e_ => (HO2.out.1 k_ e_))); revert n0_ n1_ n2_ n3_; clear HO2 BK264 HB HK; intro HO2 BK264 HB HK; clear hg hw hp_; have p295 : 0 ≤ (0 : Int) := (by omega); have q295 : 0 < (y294.length : Int) := (by have h_ : (0 : Int) < ((l2.length : Int) : Int) := ode; first | (have e_ := (Kd.R_reads' HO2.out).1; omega) | simpa only [Ny294.out, List.length_set] using h_); have ql295 : ((0 : Int) < ((l2.length : Int) : Int)) = True := eq_true (ode); (try have qn295 : (0 < l2.length) = True := eq_true (by have h_ : (0 : Int) < ((l2.length : Int) : Int) := ode; omega)); obtain ⟨ad295, e295, hx295_0⟩ := Kd.at_int (Kd.R_reads' HO2.out).2.2 0 p295 q295; obtain rfl : (⟨go78, 0, none⟩ : Addr) = ad295 := (by injection e295); (first | simp only [add_plain] at hx295_0 | simp only [add_at] at hx295_0 | simp only [Addr.add, Nat.zero_add] at hx295_0 | skip); have qi295 : (0 < y294.length) = True := eq_true (by omega); (try rw [t0] at hx295_0); (try rw [Addr.add_zero'] at hx295_0); replace p295 := eq_true p295; replace q295 := eq_true q295) | (go_at_call 30; (with_reducible refine (timer_bit.calls ((rd y294 0) == 1) t296 _ A79.out).mono ?_); rintro e w' ⟨rfl, ⟨nd, rfl⟩⟩; (try exact dd); obtain ⟨hcz83_0, hcz83_1, hfz83_0, hfz83_1⟩ := bz2 BK264.out))))
  refine bodyPost_ret (results_cell_row rfl _ _ gb264 26 #[.int .i64 2, .int .i64 t296] (0, 0) _ rfl (by refine rb ?_; refine blk_put (cs := #[.int .i64 2, .int .i64 0]) ?_ 1 _ rfl; refine rb ?_; refine blk_put (cs := #[.int .i64 0, .int .i64 0]) ?_ 0 _ rfl; exact rb BK264.out) Tryz.underlying26 rfl (by kernel_rfl)) rfl ?_
  exact ⟨ew, rr (Kd.R_mono (Kd.R_far (p := ⟨gb264, 1, none⟩) (Kd.R_far (p := ⟨gb264, 0, none⟩) (Kd.R_types HO2.out BK264.out (by decide)) (fun _ hk => hk.2) (.int .i64 2)) (fun _ hk => hk.2) (.int .i64 t296)) (fun _ hk => hk.1)), bs1 GE264.out, ks1 GW264.out⟩
 rw [if_neg c65] at H
 have c65b0 := beq_eq_false_iff_ne.mpr c65
 have c65b1 := bne_iff_ne.mpr c65
 by_cases c89 : a0.toList = ([108, 97, 116, 99, 104] : List UInt8)
 ·
  rw [if_pos c89] at H
  have c89b0 := beq_iff_eq.mpr c89
  have c89b1 := bne_eq_false_iff_eq.mpr c89
  clear c89
  by_cases c90 : 1 < (l3.length : Int)
  rotate_left
  ·
   rw [if_neg c90] at H
   exact absurd H (by simp)
  rw [if_pos c90] at H
  have c90b0 := decide_eq_true c90
  have c90b1 : decide (1 < l3.length) = true := decide_eq_true (by omega)
  clear c90
  by_cases c91 : ((rd_T26 l3 1).f1) = 1
  ·
   rw [if_pos c91] at H
   have c91b0 := beq_iff_eq.mpr c91
   have c91b1 := bne_eq_false_iff_eq.mpr c91
   clear c91
   by_cases c92 : 0 < (l2.length : Int)
   rotate_left
   ·
    rw [if_neg c92] at H
    exact absurd H (by simp)
   rw [if_pos c92] at H
   have c92b0 := decide_eq_true c92
   have c92b1 : decide (0 < l2.length) = true := decide_eq_true (by omega)
   clear c92
   obtain ⟨y300, hy300⟩ : ∃ y_ : List Int, y_ = (l2.set (0 : Int).toNat 0) := ⟨_, rfl⟩
   (try rw [← hy300] at H); (try rw [Option.bind_some] at H); (try dsimp only at H)
   have Ny300 := am hy300
   clear hy300
   replace H := Option.bind_eq_some_iff.mp H
   obtain ⟨t302, A940, H⟩ := H
   (try dsimp only at H)
   have A94 := am A940
   clear A940
   simp only [Option.some.injEq, Prod.mk.injEq] at H
   obtain ⟨rfl, rfl, rfl⟩ := H
   go_enter Tryz.func19, Tryz.ntmps19
   go_wp2_with (first | ((refine gate_dst (N := 10) rfl ?_); refine bx (N := 10) (cs := #[.int .i64 0, .int .i64 0]) (t := 26) ?_; intro gb264 hg w95 hbox hb; replace HO2 := am (Kd.R_below (rr HO2.out) hb); have BK264 := am (hbox); have GW264 := am ((by rw [hg]; exact (by first | exact HK.out.1 | exact (show Kept w _ (fun k_ => P2_ k_) from kk).1) : w.heap.size ≤ gb264)); replace HK := am (Kept.below (S := (fun k_ => P2_ k_)) kk hb); have GE264 := am (gw hg (below_size bl)); replace HB := am (below_step bl hb); clear hb hbox hg; have q265 := ix0 (n := l3.length) ode; obtain ⟨ad265, e265, hx265_0, hx265_1⟩ := at_T26 (Kd.C_kept_now HR3.out HK.out) 0 (by omega) (of_eq_true q265.2.2); cases e265; (try rw [t0] at hx265_0); (try rw [show 0 * 2 = 0 from rfl] at hx265_0); (try rw [Addr.add_zero'] at hx265_0); (try rw [t0] at hx265_1); (try rw [show 0 * 2 = 0 from rfl] at hx265_1); (try rw [Addr.add_zero'] at hx265_1); obtain ⟨qi265, p265, q265⟩ := q265; have q299 := ix1 (n := l3.length) ode; obtain ⟨ad299, e299, hx299_0, hx299_1⟩ := at_T26 (Kd.C_kept_now HR3.out HK.out) 1 (by omega) (of_eq_true q299.2.2); obtain rfl : ad265 = ad299 := (by injection e299); (try simp only [t1, Nat.reduceMul, Nat.reduceEqDiff, Go.Addr.add, ↓reduceIte] at hx299_0); (try simp only [t1, Nat.reduceMul, Nat.reduceEqDiff, Go.Addr.add, ↓reduceIte] at hx299_1); obtain ⟨qi299, p299, q299⟩ := q299; have p93 : 0 ≤ (0 : Int) := (by omega); have q93 : (0 : Int) < ((l2.length : Int) : Int) := ode; have qi93 : (0 < l2.length) = True := eq_true (by omega); obtain ⟨go93, co93, eo93, gb93, gl93, cl93, HG93⟩ := Kd.R_form HO2.out (by omega); (first | cases eo93 | (injection eo93 with ea_ en_ ec_; (first | subst ea_ | (injection ea_ with ea_; subst ea_)); subst ec_; clear en_)); have GB93 := am gb93; have GG93 := am HG93; clear gb93 gl93 HG93; have HMgo93 := am (show (P2_ go93 ∨ w.heap.size ≤ go93) from (HO2.out.1 _ rfl)); obtain ⟨hx93_0, hf93_0⟩ := Kd.R_celln 0 HO2.out (0 : Int) p93 q93; (try rw [t0] at hx93_0); (try simp only [Nat.reduceMul, Nat.zero_mul, Nat.zero_add, Nat.reduceAdd] at hx93_0); (try rw [t0] at hf93_0); (try simp only [Nat.reduceMul, Nat.zero_mul, Nat.zero_add, Nat.reduceAdd] at hf93_0); replace p93 := eq_true p93; replace q93 := eq_true q93; obtain ⟨hy96_, hz96_⟩ := Kd.R_celln 0 HO2.out (0 : Int) (by omega) (ode); (try simp only [Int.reduceToNat, Int.toNat_zero, Int.toNat_ofNat, Nat.reduceMul, Nat.zero_mul, Nat.zero_add] at hy96_ hz96_); (try rw [t0] at hy96_); (try rw [t0] at hz96_); have HP96 := Kd.R_putg HO2.out (0 : Int) 0) | ((refine gate_store (t := 2) (p := 98) rfl ?_); (try (rw [drewN_self w95]; generalize hq_ : World.drewN w95 _ = w95; have n0_ := am (Kd.R_at hq_ HO2.out); have n1_ := am (blk_at hq_ BK264.out); have n2_ := am (kept_at hq_ HK.out); have n3_ := am (below_at hq_ HB.out); clear hq_ HO2 BK264 HK HB; have HO2 := n0_; have BK264 := n1_; have HK := n2_; have HB := n3_; clear n0_ n1_ n2_ n3_; (try (obtain ⟨hy96_, hz96_⟩ := Kd.R_celln 0 HO2.out (0 : Int) (by omega) (ode))); (try (try simp only [Int.reduceToNat, Int.toNat_zero, Int.toNat_ofNat, Nat.reduceMul, Nat.zero_mul, Nat.zero_add] at hy96_ hz96_)); (try (try rw [t0] at hy96_)); (try (try rw [t0] at hz96_)); (try (have HP96 := Kd.R_putg HO2.out (0 : Int) 0)))); refine store_event (t := 2) (p := 98) (v := ?vo_w97) (w1 := (w95.setCell ⟨go93, (0 : Int).toNat, none⟩ (.int .i64 0))) ?hg ?ho ?hn ?hr ?_; (case ho => rfl); (case hg => rfl); (case hn => rfl); (case hr => first | (go_simp; done) | (go_simp; rfl)); intro w97 hw; have hg : w95.grownBy w97 (some go93) := (by rw [hw]; exact HP96.2); have hp_ : Kd.R (Kd.int .i64) 2 w97 w0.heap.size (fun k_ => (P2_ k_ ∨ w.heap.size ≤ k_)) (.slice (some ⟨go93, 0, none⟩) l2.length co93) y300 := (by rw [hw, Ny300.out]; exact HP96.1); clear HP96; have n0_ := am (hp_); have n1_ := am (blk_grown (rb BK264.out) hg (Kd.R_ne HO2.out BK264.out (by decide))); have n2_ := am ((by rw [hw]; exact below_set (HB.out) GB93.out : Below w0.heap.size w0 w97)); have n3_ := am (Kept.of_grown (S := (fun k_ => P2_ k_)) hg (ks1 GW264.out) (fun k_ e_ => (HO2.out.1 k_ e_))); revert n0_ n1_ n2_ n3_; clear HO2 BK264 HB HK; intro HO2 BK264 HB HK; clear hg hw hp_; have p301 : 0 ≤ (0 : Int) := (by omega); have q301 : 0 < (y300.length : Int) := (by have h_ : (0 : Int) < ((l2.length : Int) : Int) := ode; first | (have e_ := (Kd.R_reads' HO2.out).1; omega) | simpa only [Ny300.out, List.length_set] using h_); have ql301 : ((0 : Int) < ((l2.length : Int) : Int)) = True := eq_true (ode); (try have qn301 : (0 < l2.length) = True := eq_true (by have h_ : (0 : Int) < ((l2.length : Int) : Int) := ode; omega)); obtain ⟨ad301, e301, hx301_0⟩ := Kd.at_int (Kd.R_reads' HO2.out).2.2 0 p301 q301; obtain rfl : (⟨go93, 0, none⟩ : Addr) = ad301 := (by injection e301); (first | simp only [add_plain] at hx301_0 | simp only [add_at] at hx301_0 | simp only [Addr.add, Nat.zero_add] at hx301_0 | skip); have qi301 : (0 < y300.length) = True := eq_true (by omega); (try rw [t0] at hx301_0); (try rw [Addr.add_zero'] at hx301_0); replace p301 := eq_true p301; replace q301 := eq_true q301) | (go_at_call 30; (with_reducible refine (timer_bit.calls ((rd y300 0) == 1) t302 _ A94.out).mono ?_); rintro e w' ⟨rfl, ⟨nd, rfl⟩⟩; (try exact dd); obtain ⟨hcz98_0, hcz98_1, hfz98_0, hfz98_1⟩ := bz2 BK264.out))
   refine bodyPost_ret (results_cell_row rfl _ _ gb264 26 #[.int .i64 2, .int .i64 t302] (0, 0) _ rfl (by refine rb ?_; refine blk_put (cs := #[.int .i64 2, .int .i64 0]) ?_ 1 _ rfl; refine rb ?_; refine blk_put (cs := #[.int .i64 0, .int .i64 0]) ?_ 0 _ rfl; exact rb BK264.out) Tryz.underlying26 rfl (by kernel_rfl)) rfl ?_
   exact ⟨ew, rr (Kd.R_mono (Kd.R_far (p := ⟨gb264, 1, none⟩) (Kd.R_far (p := ⟨gb264, 0, none⟩) (Kd.R_types HO2.out BK264.out (by decide)) (fun _ hk => hk.2) (.int .i64 2)) (fun _ hk => hk.2) (.int .i64 t302)) (fun _ hk => hk.1)), bs1 GE264.out, ks1 GW264.out⟩
  rw [if_neg c91] at H
  have c91b0 := beq_eq_false_iff_ne.mpr c91
  have c91b1 := bne_iff_ne.mpr c91
  by_cases c99 : ((rd_T26 l3 0).f1) = 1
  rotate_left
  ·
   rw [if_neg c99] at H
   have c99b0 := beq_eq_false_iff_ne.mpr c99
   have c99b1 := bne_iff_ne.mpr c99
   by_cases c107 : 0 < (l2.length : Int)
   rotate_left
   ·
    rw [if_neg c107] at H
    exact absurd H (by simp)
   rw [if_pos c107] at H
   have c107b0 := decide_eq_true c107
   have c107b1 : decide (0 < l2.length) = true := decide_eq_true (by omega)
   clear c107
   replace H := Option.bind_eq_some_iff.mp H
   obtain ⟨t307, A1080, H⟩ := H
   (try dsimp only at H)
   have A108 := am A1080
   clear A1080
   simp only [Option.some.injEq, Prod.mk.injEq] at H
   obtain ⟨rfl, rfl, rfl⟩ := H
   go_enter Tryz.func19, Tryz.ntmps19
   go_wp2_with (first | ((refine gate_dst (N := 10) rfl ?_); refine bx (N := 10) (cs := #[.int .i64 0, .int .i64 0]) (t := 26) ?_; intro gb264 hg w109 hbox hb; replace HO2 := am (Kd.R_below (rr HO2.out) hb); have BK264 := am (hbox); have GW264 := am ((by rw [hg]; exact (by first | exact HK.out.1 | exact (show Kept w _ (fun k_ => P2_ k_) from kk).1) : w.heap.size ≤ gb264)); replace HK := am (Kept.below (S := (fun k_ => P2_ k_)) kk hb); have GE264 := am (gw hg (below_size bl)); replace HB := am (below_step bl hb); clear hb hbox hg; have q265 := ix0 (n := l3.length) ode; obtain ⟨ad265, e265, hx265_0, hx265_1⟩ := at_T26 (Kd.C_kept_now HR3.out HK.out) 0 (by omega) (of_eq_true q265.2.2); cases e265; (try rw [t0] at hx265_0); (try rw [show 0 * 2 = 0 from rfl] at hx265_0); (try rw [Addr.add_zero'] at hx265_0); (try rw [t0] at hx265_1); (try rw [show 0 * 2 = 0 from rfl] at hx265_1); (try rw [Addr.add_zero'] at hx265_1); obtain ⟨qi265, p265, q265⟩ := q265; have q299 := ix1 (n := l3.length) ode; obtain ⟨ad299, e299, hx299_0, hx299_1⟩ := at_T26 (Kd.C_kept_now HR3.out HK.out) 1 (by omega) (of_eq_true q299.2.2); obtain rfl : ad265 = ad299 := (by injection e299); (try simp only [t1, Nat.reduceMul, Nat.reduceEqDiff, Go.Addr.add, ↓reduceIte] at hx299_0); (try simp only [t1, Nat.reduceMul, Nat.reduceEqDiff, Go.Addr.add, ↓reduceIte] at hx299_1); obtain ⟨qi299, p299, q299⟩ := q299; obtain ⟨Ao110, co110, eo110⟩ := Kd.R_slice HO2.out; subst eo110; have q306 := ix0 (n := l2.length) ode; obtain ⟨ad306, e306, hx306_0⟩ := Kd.at_int (Kd.R_reads' HO2.out).2.2 0 (by omega) (of_eq_true q306.2.2); cases e306; (try rw [t0] at hx306_0); (try rw [Addr.add_zero'] at hx306_0); obtain ⟨qi306, p306, q306⟩ := q306) | (go_at_call 30; (with_reducible refine (timer_bit.calls ((rd l2 0) == 1) t307 _ A108.out).mono ?_); rintro e w' ⟨rfl, ⟨nd, rfl⟩⟩; (try exact dd); obtain ⟨hcz111_0, hcz111_1, hfz111_0, hfz111_1⟩ := bz2 BK264.out))
   refine bodyPost_ret (results_cell_row rfl _ _ gb264 26 #[.int .i64 2, .int .i64 t307] (0, 0) _ rfl (by refine rb ?_; refine blk_put (cs := #[.int .i64 2, .int .i64 0]) ?_ 1 _ rfl; refine rb ?_; refine blk_put (cs := #[.int .i64 0, .int .i64 0]) ?_ 0 _ rfl; exact rb BK264.out) Tryz.underlying26 rfl (by kernel_rfl)) rfl ?_
   exact ⟨ew, rr (Kd.R_mono (Kd.R_far (p := ⟨gb264, 1, none⟩) (Kd.R_far (p := ⟨gb264, 0, none⟩) (Kd.R_types HO2.out BK264.out (by decide)) (fun _ hk => hk.2) (.int .i64 2)) (fun _ hk => hk.2) (.int .i64 t307)) (fun _ hk => hk.1)), bs1 GE264.out, ks1 GW264.out⟩
  rw [if_pos c99] at H
  have c99b0 := beq_iff_eq.mpr c99
  have c99b1 := bne_eq_false_iff_eq.mpr c99
  clear c99
  by_cases c100 : 0 < (l2.length : Int)
  rotate_left
  ·
   rw [if_neg c100] at H
   exact absurd H (by simp)
  rw [if_pos c100] at H
  have c100b0 := decide_eq_true c100
  have c100b1 : decide (0 < l2.length) = true := decide_eq_true (by omega)
  clear c100
  obtain ⟨y303, hy303⟩ : ∃ y_ : List Int, y_ = (l2.set (0 : Int).toNat 1) := ⟨_, rfl⟩
  (try rw [← hy303] at H); (try rw [Option.bind_some] at H); (try dsimp only at H)
  have Ny303 := am hy303
  clear hy303
  replace H := Option.bind_eq_some_iff.mp H
  obtain ⟨t305, A1020, H⟩ := H
  (try dsimp only at H)
  have A102 := am A1020
  clear A1020
  simp only [Option.some.injEq, Prod.mk.injEq] at H
  obtain ⟨rfl, rfl, rfl⟩ := H
  go_enter Tryz.func19, Tryz.ntmps19
  go_wp2_with (first | ((refine gate_dst (N := 10) rfl ?_); refine bx (N := 10) (cs := #[.int .i64 0, .int .i64 0]) (t := 26) ?_; intro gb264 hg w103 hbox hb; replace HO2 := am (Kd.R_below (rr HO2.out) hb); have BK264 := am (hbox); have GW264 := am ((by rw [hg]; exact (by first | exact HK.out.1 | exact (show Kept w _ (fun k_ => P2_ k_) from kk).1) : w.heap.size ≤ gb264)); replace HK := am (Kept.below (S := (fun k_ => P2_ k_)) kk hb); have GE264 := am (gw hg (below_size bl)); replace HB := am (below_step bl hb); clear hb hbox hg; have q265 := ix0 (n := l3.length) ode; obtain ⟨ad265, e265, hx265_0, hx265_1⟩ := at_T26 (Kd.C_kept_now HR3.out HK.out) 0 (by omega) (of_eq_true q265.2.2); cases e265; (try rw [t0] at hx265_0); (try rw [show 0 * 2 = 0 from rfl] at hx265_0); (try rw [Addr.add_zero'] at hx265_0); (try rw [t0] at hx265_1); (try rw [show 0 * 2 = 0 from rfl] at hx265_1); (try rw [Addr.add_zero'] at hx265_1); obtain ⟨qi265, p265, q265⟩ := q265; have q299 := ix1 (n := l3.length) ode; obtain ⟨ad299, e299, hx299_0, hx299_1⟩ := at_T26 (Kd.C_kept_now HR3.out HK.out) 1 (by omega) (of_eq_true q299.2.2); obtain rfl : ad265 = ad299 := (by injection e299); (try simp only [t1, Nat.reduceMul, Nat.reduceEqDiff, Go.Addr.add, ↓reduceIte] at hx299_0); (try simp only [t1, Nat.reduceMul, Nat.reduceEqDiff, Go.Addr.add, ↓reduceIte] at hx299_1); obtain ⟨qi299, p299, q299⟩ := q299; have p101 : 0 ≤ (0 : Int) := (by omega); have q101 : (0 : Int) < ((l2.length : Int) : Int) := ode; have qi101 : (0 < l2.length) = True := eq_true (by omega); obtain ⟨go101, co101, eo101, gb101, gl101, cl101, HG101⟩ := Kd.R_form HO2.out (by omega); (first | cases eo101 | (injection eo101 with ea_ en_ ec_; (first | subst ea_ | (injection ea_ with ea_; subst ea_)); subst ec_; clear en_)); have GB101 := am gb101; have GG101 := am HG101; clear gb101 gl101 HG101; have HMgo101 := am (show (P2_ go101 ∨ w.heap.size ≤ go101) from (HO2.out.1 _ rfl)); obtain ⟨hx101_0, hf101_0⟩ := Kd.R_celln 0 HO2.out (0 : Int) p101 q101; (try rw [t0] at hx101_0); (try simp only [Nat.reduceMul, Nat.zero_mul, Nat.zero_add, Nat.reduceAdd] at hx101_0); (try rw [t0] at hf101_0); (try simp only [Nat.reduceMul, Nat.zero_mul, Nat.zero_add, Nat.reduceAdd] at hf101_0); replace p101 := eq_true p101; replace q101 := eq_true q101; obtain ⟨hy104_, hz104_⟩ := Kd.R_celln 0 HO2.out (0 : Int) (by omega) (ode); (try simp only [Int.reduceToNat, Int.toNat_zero, Int.toNat_ofNat, Nat.reduceMul, Nat.zero_mul, Nat.zero_add] at hy104_ hz104_); (try rw [t0] at hy104_); (try rw [t0] at hz104_); have HP104 := Kd.R_putg HO2.out (0 : Int) 1) | ((refine gate_store (t := 2) (p := 101) rfl ?_); (try (rw [drewN_self w103]; generalize hq_ : World.drewN w103 _ = w103; have n0_ := am (Kd.R_at hq_ HO2.out); have n1_ := am (blk_at hq_ BK264.out); have n2_ := am (kept_at hq_ HK.out); have n3_ := am (below_at hq_ HB.out); clear hq_ HO2 BK264 HK HB; have HO2 := n0_; have BK264 := n1_; have HK := n2_; have HB := n3_; clear n0_ n1_ n2_ n3_; (try (obtain ⟨hy104_, hz104_⟩ := Kd.R_celln 0 HO2.out (0 : Int) (by omega) (ode))); (try (try simp only [Int.reduceToNat, Int.toNat_zero, Int.toNat_ofNat, Nat.reduceMul, Nat.zero_mul, Nat.zero_add] at hy104_ hz104_)); (try (try rw [t0] at hy104_)); (try (try rw [t0] at hz104_)); (try (have HP104 := Kd.R_putg HO2.out (0 : Int) 1)))); refine store_event (t := 2) (p := 101) (v := ?vo_w105) (w1 := (w103.setCell ⟨go101, (0 : Int).toNat, none⟩ (.int .i64 1))) ?hg ?ho ?hn ?hr ?_; (case ho => rfl); (case hg => rfl); (case hn => rfl); (case hr => first | (go_simp; done) | (go_simp; rfl)); intro w105 hw; have hg : w103.grownBy w105 (some go101) := (by rw [hw]; exact HP104.2); have hp_ : Kd.R (Kd.int .i64) 2 w105 w0.heap.size (fun k_ => (P2_ k_ ∨ w.heap.size ≤ k_)) (.slice (some ⟨go101, 0, none⟩) l2.length co101) y303 := (by rw [hw, Ny303.out]; exact HP104.1); clear HP104; have n0_ := am (hp_); have n1_ := am (blk_grown (rb BK264.out) hg (Kd.R_ne HO2.out BK264.out (by decide))); have n2_ := am ((by rw [hw]; exact below_set (HB.out) GB101.out : Below w0.heap.size w0 w105)); have n3_ := am (Kept.of_grown (S := (fun k_ => P2_ k_)) hg (ks1 GW264.out) (fun k_ e_ => (HO2.out.1 k_ e_))); revert n0_ n1_ n2_ n3_; clear HO2 BK264 HB HK; intro HO2 BK264 HB HK; clear hg hw hp_; have p304 : 0 ≤ (0 : Int) := (by omega); have q304 : 0 < (y303.length : Int) := (by have h_ : (0 : Int) < ((l2.length : Int) : Int) := ode; first | (have e_ := (Kd.R_reads' HO2.out).1; omega) | simpa only [Ny303.out, List.length_set] using h_); have ql304 : ((0 : Int) < ((l2.length : Int) : Int)) = True := eq_true (ode); (try have qn304 : (0 < l2.length) = True := eq_true (by have h_ : (0 : Int) < ((l2.length : Int) : Int) := ode; omega)); obtain ⟨ad304, e304, hx304_0⟩ := Kd.at_int (Kd.R_reads' HO2.out).2.2 0 p304 q304; obtain rfl : (⟨go101, 0, none⟩ : Addr) = ad304 := (by injection e304); (first | simp only [add_plain] at hx304_0 | simp only [add_at] at hx304_0 | simp only [Addr.add, Nat.zero_add] at hx304_0 | skip); have qi304 : (0 < y303.length) = True := eq_true (by omega); (try rw [t0] at hx304_0); (try rw [Addr.add_zero'] at hx304_0); replace p304 := eq_true p304; replace q304 := eq_true q304) | (go_at_call 30; (with_reducible refine (timer_bit.calls ((rd y303 0) == 1) t305 _ A102.out).mono ?_); rintro e w' ⟨rfl, ⟨nd, rfl⟩⟩; (try exact dd); obtain ⟨hcz106_0, hcz106_1, hfz106_0, hfz106_1⟩ := bz2 BK264.out))
  refine bodyPost_ret (results_cell_row rfl _ _ gb264 26 #[.int .i64 2, .int .i64 t305] (0, 0) _ rfl (by refine rb ?_; refine blk_put (cs := #[.int .i64 2, .int .i64 0]) ?_ 1 _ rfl; refine rb ?_; refine blk_put (cs := #[.int .i64 0, .int .i64 0]) ?_ 0 _ rfl; exact rb BK264.out) Tryz.underlying26 rfl (by kernel_rfl)) rfl ?_
  exact ⟨ew, rr (Kd.R_mono (Kd.R_far (p := ⟨gb264, 1, none⟩) (Kd.R_far (p := ⟨gb264, 0, none⟩) (Kd.R_types HO2.out BK264.out (by decide)) (fun _ hk => hk.2) (.int .i64 2)) (fun _ hk => hk.2) (.int .i64 t305)) (fun _ hk => hk.1)), bs1 GE264.out, ks1 GW264.out⟩
 rw [if_neg c89] at H
 have c89b0 := beq_eq_false_iff_ne.mpr c89
 have c89b1 := bne_iff_ne.mpr c89
 by_cases c112 : a0.toList = ([109, 105, 110, 114, 117, 110] : List UInt8)
 ·
  rw [if_pos c112] at H
  have c112b0 := beq_iff_eq.mpr c112
  have c112b1 := bne_eq_false_iff_eq.mpr c112
  clear c112
  replace H := Option.bind_eq_some_iff.mp H
  obtain ⟨⟨t308, t309⟩, A1130, H⟩ := H
  (try dsimp only at H)
  have A113 := am A1130
  clear A1130
  replace H := Option.bind_eq_some_iff.mp H
  obtain ⟨t310, A1140, H⟩ := H
  (try dsimp only at H)
  have A114 := am A1140
  clear A1140
  simp only [Option.some.injEq, Prod.mk.injEq] at H
  obtain ⟨rfl, rfl, rfl⟩ := H
  go_enter Tryz.func19, Tryz.ntmps19
  go_wp2_with (first | ((refine gate_dst (N := 10) rfl ?_); refine bx (N := 10) (cs := #[.int .i64 0, .int .i64 0]) (t := 26) ?_; intro gb264 hg w115 hbox hb; replace HO2 := am (Kd.R_below (rr HO2.out) hb); have BK264 := am (hbox); have GW264 := am ((by rw [hg]; exact (by first | exact HK.out.1 | exact (show Kept w _ (fun k_ => P2_ k_) from kk).1) : w.heap.size ≤ gb264)); replace HK := am (Kept.below (S := (fun k_ => P2_ k_)) kk hb); have GE264 := am (gw hg (below_size bl)); replace HB := am (below_step bl hb); clear hb hbox hg; have q265 := ix0 (n := l3.length) ode; obtain ⟨ad265, e265, hx265_0, hx265_1⟩ := at_T26 (Kd.C_kept_now HR3.out HK.out) 0 (by omega) (of_eq_true q265.2.2); cases e265; (try rw [t0] at hx265_0); (try rw [show 0 * 2 = 0 from rfl] at hx265_0); (try rw [Addr.add_zero'] at hx265_0); (try rw [t0] at hx265_1); (try rw [show 0 * 2 = 0 from rfl] at hx265_1); (try rw [Addr.add_zero'] at hx265_1); obtain ⟨qi265, p265, q265⟩ := q265; obtain ⟨Ao116, co116, eo116⟩ := Kd.R_slice HO2.out; subst eo116) | (go_at_call 31; (with_reducible refine (timer_minrun.calls k _ _ l1 (fun k_ => some k_ = (.slice Ao116 l2.length co116 : Value).ownBlock) (.slice Ao116 l2.length co116) l2 (((rd_T26 l3 0).f1) == 1) a4 t308 t309 w0 _ ?side1 ?side2 ?side3 ?side4 A113.out).mono ?_); (case side1 => repeat (first | (with_reducible first | exact HB.out | apply below_alloc | apply pw_below_drewN | apply below_drew1 | refine below_set ?_ GE264.out) | exact HB.out)); (case side2 => exact Kd.C_kept_call HR1.out (ks1 GW264.out) (fun k_ hs_ => (fun e_ => (HO2.out.1 k_ e_.symm)) hs_)); (case side3 => exact HC1.out); (case side4 => exact Kd.R_tight rfl HO2.out); rintro e w117 ⟨rfl, hy0, hb, hkp⟩; replace BK264 := am (blk_kept (rb BK264.out) hkp (fun hs_ => (fun e_ => (Kd.R_ne HO2.out BK264.out (by decide)) e_) hs_)); replace HK := am (Kept.then_ (S := (fun k_ => P2_ k_)) (ks1 GW264.out) hkp (fun k_ hs_ => (fun e_ => (HO2.out.1 k_ e_.symm)) hs_)); replace HO2 := am (Kd.R_reok rfl hy0 (fun k_ e_ => HO2.out.1 k_ e_)); replace HB := am (hb); (try clear hb); (try clear hkp); (try clear hy0)) | (go_at_call 30; (with_reducible refine (timer_bit.calls t308 t310 _ A114.out).mono ?_); rintro e w' ⟨rfl, ⟨nd, rfl⟩⟩; (try exact dd); obtain ⟨hcz118_0, hcz118_1, hfz118_0, hfz118_1⟩ := bz2 BK264.out))
  refine bodyPost_ret (results_cell_row rfl _ _ gb264 26 #[.int .i64 2, .int .i64 t310] (0, 0) _ rfl (by refine rb ?_; refine blk_put (cs := #[.int .i64 2, .int .i64 0]) ?_ 1 _ rfl; refine rb ?_; refine blk_put (cs := #[.int .i64 0, .int .i64 0]) ?_ 0 _ rfl; exact rb BK264.out) Tryz.underlying26 rfl (by kernel_rfl)) rfl ?_
  exact ⟨ew, rr (Kd.R_mono (Kd.R_far (p := ⟨gb264, 1, none⟩) (Kd.R_far (p := ⟨gb264, 0, none⟩) (Kd.R_types HO2.out BK264.out (by decide)) (fun _ hk => hk.2) (.int .i64 2)) (fun _ hk => hk.2) (.int .i64 t310)) (fun _ hk => hk.1)), bs1 GE264.out, ks1 GW264.out⟩
 rw [if_neg c112] at H
 have c112b0 := beq_eq_false_iff_ne.mpr c112
 have c112b1 := bne_iff_ne.mpr c112
 by_cases c119 : a0.toList = ([111, 102, 102, 100, 101, 108, 97, 121] : List UInt8)
 ·
  rw [if_pos c119] at H
  have c119b0 := beq_iff_eq.mpr c119
  have c119b1 := bne_eq_false_iff_eq.mpr c119
  clear c119
  by_cases c120 : 0 < (l1.length : Int)
  rotate_left
  ·
   rw [if_neg c120] at H
   exact absurd H (by simp)
  rw [if_pos c120] at H
  have c120b0 := decide_eq_true c120
  have c120b1 : decide (0 < l1.length) = true := decide_eq_true (by omega)
  clear c120
  replace H := Option.bind_eq_some_iff.mp H
  obtain ⟨⟨t312, t313⟩, A1210, H⟩ := H
  (try dsimp only at H)
  have A121 := am A1210
  clear A1210
  replace H := Option.bind_eq_some_iff.mp H
  obtain ⟨t314, A1220, H⟩ := H
  (try dsimp only at H)
  have A122 := am A1220
  clear A1220
  simp only [Option.some.injEq, Prod.mk.injEq] at H
  obtain ⟨rfl, rfl, rfl⟩ := H
  go_enter Tryz.func19, Tryz.ntmps19
  go_wp2_with (first | ((refine gate_dst (N := 10) rfl ?_); refine bx (N := 10) (cs := #[.int .i64 0, .int .i64 0]) (t := 26) ?_; intro gb264 hg w123 hbox hb; replace HO2 := am (Kd.R_below (rr HO2.out) hb); have BK264 := am (hbox); have GW264 := am ((by rw [hg]; exact (by first | exact HK.out.1 | exact (show Kept w _ (fun k_ => P2_ k_) from kk).1) : w.heap.size ≤ gb264)); replace HK := am (Kept.below (S := (fun k_ => P2_ k_)) kk hb); have GE264 := am (gw hg (below_size bl)); replace HB := am (below_step bl hb); clear hb hbox hg; have q265 := ix0 (n := l3.length) ode; obtain ⟨ad265, e265, hx265_0, hx265_1⟩ := at_T26 (Kd.C_kept_now HR3.out HK.out) 0 (by omega) (of_eq_true q265.2.2); cases e265; (try rw [t0] at hx265_0); (try rw [show 0 * 2 = 0 from rfl] at hx265_0); (try rw [Addr.add_zero'] at hx265_0); (try rw [t0] at hx265_1); (try rw [show 0 * 2 = 0 from rfl] at hx265_1); (try rw [Addr.add_zero'] at hx265_1); obtain ⟨qi265, p265, q265⟩ := q265; have q311 := ix0 (n := l1.length) ode; obtain ⟨ad311, e311, hx311_0⟩ := Kd.at_int (Kd.C_kept_now HR1.out HK.out) 0 (by omega) (of_eq_true q311.2.2); cases e311; (try rw [t0] at hx311_0); (try rw [Addr.add_zero'] at hx311_0); obtain ⟨qi311, p311, q311⟩ := q311; obtain ⟨Ao124, co124, eo124⟩ := Kd.R_slice HO2.out; subst eo124) | (go_at_call 32; (with_reducible refine (timer_offdelay.calls (rd l1 0) (fun k_ => some k_ = (.slice Ao124 l2.length co124 : Value).ownBlock) (.slice Ao124 l2.length co124) l2 (((rd_T26 l3 0).f1) == 1) a4 t312 t313 w0 _ ?side1 ?side2 A121.out).mono ?_); (case side1 => repeat (first | (with_reducible first | exact HB.out | apply below_alloc | apply pw_below_drewN | apply below_drew1 | refine below_set ?_ GE264.out) | exact HB.out)); (case side2 => exact Kd.R_tight rfl HO2.out); rintro e w125 ⟨rfl, hy0, hb, hkp⟩; replace BK264 := am (blk_kept (rb BK264.out) hkp (fun hs_ => (fun e_ => (Kd.R_ne HO2.out BK264.out (by decide)) e_) hs_)); replace HK := am (Kept.then_ (S := (fun k_ => P2_ k_)) (ks1 GW264.out) hkp (fun k_ hs_ => (fun e_ => (HO2.out.1 k_ e_.symm)) hs_)); replace HO2 := am (Kd.R_reok rfl hy0 (fun k_ e_ => HO2.out.1 k_ e_)); replace HB := am (hb); (try clear hb); (try clear hkp); (try clear hy0)) | (go_at_call 30; (with_reducible refine (timer_bit.calls t312 t314 _ A122.out).mono ?_); rintro e w' ⟨rfl, ⟨nd, rfl⟩⟩; (try exact dd); obtain ⟨hcz126_0, hcz126_1, hfz126_0, hfz126_1⟩ := bz2 BK264.out))
  refine bodyPost_ret (results_cell_row rfl _ _ gb264 26 #[.int .i64 2, .int .i64 t314] (0, 0) _ rfl (by refine rb ?_; refine blk_put (cs := #[.int .i64 2, .int .i64 0]) ?_ 1 _ rfl; refine rb ?_; refine blk_put (cs := #[.int .i64 0, .int .i64 0]) ?_ 0 _ rfl; exact rb BK264.out) Tryz.underlying26 rfl (by kernel_rfl)) rfl ?_
  exact ⟨ew, rr (Kd.R_mono (Kd.R_far (p := ⟨gb264, 1, none⟩) (Kd.R_far (p := ⟨gb264, 0, none⟩) (Kd.R_types HO2.out BK264.out (by decide)) (fun _ hk => hk.2) (.int .i64 2)) (fun _ hk => hk.2) (.int .i64 t314)) (fun _ hk => hk.1)), bs1 GE264.out, ks1 GW264.out⟩
 rw [if_neg c119] at H
 have c119b0 := beq_eq_false_iff_ne.mpr c119
 have c119b1 := bne_iff_ne.mpr c119
 by_cases c127 : a0.toList = ([111, 110, 100, 101, 108, 97, 121] : List UInt8)
 ·
  rw [if_pos c127] at H
  have c127b0 := beq_iff_eq.mpr c127
  have c127b1 := bne_eq_false_iff_eq.mpr c127
  clear c127
  by_cases c128 : 0 < (l1.length : Int)
  rotate_left
  ·
   rw [if_neg c128] at H
   exact absurd H (by simp)
  rw [if_pos c128] at H
  have c128b0 := decide_eq_true c128
  have c128b1 : decide (0 < l1.length) = true := decide_eq_true (by omega)
  clear c128
  replace H := Option.bind_eq_some_iff.mp H
  obtain ⟨⟨t316, t317⟩, A1290, H⟩ := H
  (try dsimp only at H)
  have A129 := am A1290
  clear A1290
  replace H := Option.bind_eq_some_iff.mp H
  obtain ⟨t318, A1300, H⟩ := H
  (try dsimp only at H)
  have A130 := am A1300
  clear A1300
  simp only [Option.some.injEq, Prod.mk.injEq] at H
  obtain ⟨rfl, rfl, rfl⟩ := H
  go_enter Tryz.func19, Tryz.ntmps19
  go_wp2_with (first | ((refine gate_dst (N := 10) rfl ?_); refine bx (N := 10) (cs := #[.int .i64 0, .int .i64 0]) (t := 26) ?_; intro gb264 hg w131 hbox hb; replace HO2 := am (Kd.R_below (rr HO2.out) hb); have BK264 := am (hbox); have GW264 := am ((by rw [hg]; exact (by first | exact HK.out.1 | exact (show Kept w _ (fun k_ => P2_ k_) from kk).1) : w.heap.size ≤ gb264)); replace HK := am (Kept.below (S := (fun k_ => P2_ k_)) kk hb); have GE264 := am (gw hg (below_size bl)); replace HB := am (below_step bl hb); clear hb hbox hg; have q265 := ix0 (n := l3.length) ode; obtain ⟨ad265, e265, hx265_0, hx265_1⟩ := at_T26 (Kd.C_kept_now HR3.out HK.out) 0 (by omega) (of_eq_true q265.2.2); cases e265; (try rw [t0] at hx265_0); (try rw [show 0 * 2 = 0 from rfl] at hx265_0); (try rw [Addr.add_zero'] at hx265_0); (try rw [t0] at hx265_1); (try rw [show 0 * 2 = 0 from rfl] at hx265_1); (try rw [Addr.add_zero'] at hx265_1); obtain ⟨qi265, p265, q265⟩ := q265; have q315 := ix0 (n := l1.length) ode; obtain ⟨ad315, e315, hx315_0⟩ := Kd.at_int (Kd.C_kept_now HR1.out HK.out) 0 (by omega) (of_eq_true q315.2.2); cases e315; (try rw [t0] at hx315_0); (try rw [Addr.add_zero'] at hx315_0); obtain ⟨qi315, p315, q315⟩ := q315; obtain ⟨Ao132, co132, eo132⟩ := Kd.R_slice HO2.out; subst eo132) | (go_at_call 33; (with_reducible refine (timer_ondelay.calls (rd l1 0) (fun k_ => some k_ = (.slice Ao132 l2.length co132 : Value).ownBlock) (.slice Ao132 l2.length co132) l2 (((rd_T26 l3 0).f1) == 1) a4 t316 t317 w0 _ ?side1 ?side2 A129.out).mono ?_); (case side1 => repeat (first | (with_reducible first | exact HB.out | apply below_alloc | apply pw_below_drewN | apply below_drew1 | refine below_set ?_ GE264.out) | exact HB.out)); (case side2 => exact Kd.R_tight rfl HO2.out); rintro e w133 ⟨rfl, hy0, hb, hkp⟩; replace BK264 := am (blk_kept (rb BK264.out) hkp (fun hs_ => (fun e_ => (Kd.R_ne HO2.out BK264.out (by decide)) e_) hs_)); replace HK := am (Kept.then_ (S := (fun k_ => P2_ k_)) (ks1 GW264.out) hkp (fun k_ hs_ => (fun e_ => (HO2.out.1 k_ e_.symm)) hs_)); replace HO2 := am (Kd.R_reok rfl hy0 (fun k_ e_ => HO2.out.1 k_ e_)); replace HB := am (hb); (try clear hb); (try clear hkp); (try clear hy0)) | (go_at_call 30; (with_reducible refine (timer_bit.calls t316 t318 _ A130.out).mono ?_); rintro e w' ⟨rfl, ⟨nd, rfl⟩⟩; (try exact dd); obtain ⟨hcz134_0, hcz134_1, hfz134_0, hfz134_1⟩ := bz2 BK264.out))
  refine bodyPost_ret (results_cell_row rfl _ _ gb264 26 #[.int .i64 2, .int .i64 t318] (0, 0) _ rfl (by refine rb ?_; refine blk_put (cs := #[.int .i64 2, .int .i64 0]) ?_ 1 _ rfl; refine rb ?_; refine blk_put (cs := #[.int .i64 0, .int .i64 0]) ?_ 0 _ rfl; exact rb BK264.out) Tryz.underlying26 rfl (by kernel_rfl)) rfl ?_
  exact ⟨ew, rr (Kd.R_mono (Kd.R_far (p := ⟨gb264, 1, none⟩) (Kd.R_far (p := ⟨gb264, 0, none⟩) (Kd.R_types HO2.out BK264.out (by decide)) (fun _ hk => hk.2) (.int .i64 2)) (fun _ hk => hk.2) (.int .i64 t318)) (fun _ hk => hk.1)), bs1 GE264.out, ks1 GW264.out⟩
 rw [if_neg c127] at H
 have c127b0 := beq_eq_false_iff_ne.mpr c127
 have c127b1 := bne_iff_ne.mpr c127
 by_cases c135 : a0.toList = ([112, 117, 108, 115, 101] : List UInt8)
 rotate_left
 ·
  rw [if_neg c135] at H
  have c135b0 := beq_eq_false_iff_ne.mpr c135
  have c135b1 := bne_iff_ne.mpr c135
  replace H := Option.bind_eq_some_iff.mp H
  obtain ⟨t323, A1430, H⟩ := H
  (try dsimp only at H)
  have A143 := am A1430
  clear A1430
  simp only [Option.some.injEq, Prod.mk.injEq] at H
  obtain ⟨rfl, rfl, rfl⟩ := H
  go_enter Tryz.func19, Tryz.ntmps19
  go_wp2_with (first | ((refine gate_dst (N := 10) rfl ?_); refine bx (N := 10) (cs := #[.int .i64 0, .int .i64 0]) (t := 26) ?_; intro gb264 hg w144 hbox hb; replace HO2 := am (Kd.R_below (rr HO2.out) hb); have BK264 := am (hbox); have GW264 := am ((by rw [hg]; exact (by first | exact HK.out.1 | exact (show Kept w _ (fun k_ => P2_ k_) from kk).1) : w.heap.size ≤ gb264)); replace HK := am (Kept.below (S := (fun k_ => P2_ k_)) kk hb); have GE264 := am (gw hg (below_size bl)); replace HB := am (below_step bl hb); clear hb hbox hg; have q265 := ix0 (n := l3.length) ode; obtain ⟨ad265, e265, hx265_0, hx265_1⟩ := at_T26 (Kd.C_kept_now HR3.out HK.out) 0 (by omega) (of_eq_true q265.2.2); cases e265; (try rw [t0] at hx265_0); (try rw [show 0 * 2 = 0 from rfl] at hx265_0); (try rw [Addr.add_zero'] at hx265_0); (try rw [t0] at hx265_1); (try rw [show 0 * 2 = 0 from rfl] at hx265_1); (try rw [Addr.add_zero'] at hx265_1); obtain ⟨qi265, p265, q265⟩ := q265) | (go_at_call 30; (with_reducible refine (timer_bit.calls false t323 _ A143.out).mono ?_); rintro e w' ⟨rfl, ⟨nd, rfl⟩⟩; (try exact dd); obtain ⟨hcz145_0, hcz145_1, hfz145_0, hfz145_1⟩ := bz2 BK264.out))
  refine bodyPost_ret (results_cell_row rfl _ _ gb264 26 #[.int .i64 2, .int .i64 t323] (0, 0) _ rfl (by refine rb ?_; refine blk_put (cs := #[.int .i64 2, .int .i64 0]) ?_ 1 _ rfl; refine rb ?_; refine blk_put (cs := #[.int .i64 0, .int .i64 0]) ?_ 0 _ rfl; exact rb BK264.out) Tryz.underlying26 rfl (by kernel_rfl)) rfl ?_
  exact ⟨ew, rr (Kd.R_mono (Kd.R_far (p := ⟨gb264, 1, none⟩) (Kd.R_far (p := ⟨gb264, 0, none⟩) (Kd.R_types HO2.out BK264.out (by decide)) (fun _ hk => hk.2) (.int .i64 2)) (fun _ hk => hk.2) (.int .i64 t323)) (fun _ hk => hk.1)), bs1 GE264.out, ks1 GW264.out⟩
 rw [if_pos c135] at H
 have c135b0 := beq_iff_eq.mpr c135
 have c135b1 := bne_eq_false_iff_eq.mpr c135
 clear c135
 by_cases c136 : 0 < (l1.length : Int)
 rotate_left
 ·
  rw [if_neg c136] at H
  exact absurd H (by simp)
 rw [if_pos c136] at H
 have c136b0 := decide_eq_true c136
 have c136b1 : decide (0 < l1.length) = true := decide_eq_true (by omega)
 clear c136
 replace H := Option.bind_eq_some_iff.mp H
 obtain ⟨⟨t320, t321⟩, A1370, H⟩ := H
 (try dsimp only at H)
 have A137 := am A1370
 clear A1370
 replace H := Option.bind_eq_some_iff.mp H
 obtain ⟨t322, A1380, H⟩ := H
 (try dsimp only at H)
 have A138 := am A1380
 clear A1380
 simp only [Option.some.injEq, Prod.mk.injEq] at H
 obtain ⟨rfl, rfl, rfl⟩ := H
 go_enter Tryz.func19, Tryz.ntmps19
 go_wp2_with (first | ((refine gate_dst (N := 10) rfl ?_); refine bx (N := 10) (cs := #[.int .i64 0, .int .i64 0]) (t := 26) ?_; intro gb264 hg w139 hbox hb; replace HO2 := am (Kd.R_below (rr HO2.out) hb); have BK264 := am (hbox); have GW264 := am ((by rw [hg]; exact (by first | exact HK.out.1 | exact (show Kept w _ (fun k_ => P2_ k_) from kk).1) : w.heap.size ≤ gb264)); replace HK := am (Kept.below (S := (fun k_ => P2_ k_)) kk hb); have GE264 := am (gw hg (below_size bl)); replace HB := am (below_step bl hb); clear hb hbox hg; have q265 := ix0 (n := l3.length) ode; obtain ⟨ad265, e265, hx265_0, hx265_1⟩ := at_T26 (Kd.C_kept_now HR3.out HK.out) 0 (by omega) (of_eq_true q265.2.2); cases e265; (try rw [t0] at hx265_0); (try rw [show 0 * 2 = 0 from rfl] at hx265_0); (try rw [Addr.add_zero'] at hx265_0); (try rw [t0] at hx265_1); (try rw [show 0 * 2 = 0 from rfl] at hx265_1); (try rw [Addr.add_zero'] at hx265_1); obtain ⟨qi265, p265, q265⟩ := q265; have q319 := ix0 (n := l1.length) ode; obtain ⟨ad319, e319, hx319_0⟩ := Kd.at_int (Kd.C_kept_now HR1.out HK.out) 0 (by omega) (of_eq_true q319.2.2); cases e319; (try rw [t0] at hx319_0); (try rw [Addr.add_zero'] at hx319_0); obtain ⟨qi319, p319, q319⟩ := q319; obtain ⟨Ao140, co140, eo140⟩ := Kd.R_slice HO2.out; subst eo140) | (go_at_call 34; (with_reducible refine (timer_pulse.calls k (rd l1 0) (fun k_ => some k_ = (.slice Ao140 l2.length co140 : Value).ownBlock) (.slice Ao140 l2.length co140) l2 (((rd_T26 l3 0).f1) == 1) a4 t320 t321 w0 _ ?side1 ?side2 A137.out).mono ?_); (case side1 => repeat (first | (with_reducible first | exact HB.out | apply below_alloc | apply pw_below_drewN | apply below_drew1 | refine below_set ?_ GE264.out) | exact HB.out)); (case side2 => exact Kd.R_tight rfl HO2.out); rintro e w141 ⟨rfl, hy0, hb, hkp⟩; replace BK264 := am (blk_kept (rb BK264.out) hkp (fun hs_ => (fun e_ => (Kd.R_ne HO2.out BK264.out (by decide)) e_) hs_)); replace HK := am (Kept.then_ (S := (fun k_ => P2_ k_)) (ks1 GW264.out) hkp (fun k_ hs_ => (fun e_ => (HO2.out.1 k_ e_.symm)) hs_)); replace HO2 := am (Kd.R_reok rfl hy0 (fun k_ e_ => HO2.out.1 k_ e_)); replace HB := am (hb); (try clear hb); (try clear hkp); (try clear hy0)) | (go_at_call 30; (with_reducible refine (timer_bit.calls t320 t322 _ A138.out).mono ?_); rintro e w' ⟨rfl, ⟨nd, rfl⟩⟩; (try exact dd); obtain ⟨hcz142_0, hcz142_1, hfz142_0, hfz142_1⟩ := bz2 BK264.out))
 refine bodyPost_ret (results_cell_row rfl _ _ gb264 26 #[.int .i64 2, .int .i64 t322] (0, 0) _ rfl (by refine rb ?_; refine blk_put (cs := #[.int .i64 2, .int .i64 0]) ?_ 1 _ rfl; refine rb ?_; refine blk_put (cs := #[.int .i64 0, .int .i64 0]) ?_ 0 _ rfl; exact rb BK264.out) Tryz.underlying26 rfl (by kernel_rfl)) rfl ?_
 exact ⟨ew, rr (Kd.R_mono (Kd.R_far (p := ⟨gb264, 1, none⟩) (Kd.R_far (p := ⟨gb264, 0, none⟩) (Kd.R_types HO2.out BK264.out (by decide)) (fun _ hk => hk.2) (.int .i64 2)) (fun _ hk => hk.2) (.int .i64 t322)) (fun _ hk => hk.1)), bs1 GE264.out, ks1 GW264.out⟩
end Go.Proofs.YtjjbdgngncgikaaGreatDoor.R
