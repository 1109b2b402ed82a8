-- printed
import Derived.Test.YtjjbdgngncgikaaGreatDoorRx0
import Derived.Test.YtjjbdgngncgikaaGreatDoorRx2
import Derived.Test.YtjjbdgngncgikaaGreatDoorRx11
namespace Go.Proofs.YtjjbdgngncgikaaGreatDoor.R
open Go.RowKit Go.Proofs.YtjjbdgngncgikaaGreatDoorW.PrintWords Go.Proofs.YtjjbdgngncgikaaGreatDoorW.PrintLast Go.Proofs.YtjjbdgngncgikaaGreatDoorW.PrintMore
attribute [local go_sem] max2_int min2_int max_two min_two max_three min_three max_four min_four   -- for this text's walks alone
set_option linter.unusedVariables false
set_option linter.unusedSimpArgs false

/-! ### plenumlaw19_awake: function 5 -/
def plenumlaw19_awake.f (k : Nat)  : Option (Bool) := (plenumlaw19_on.f k (([false, true, true, true, false] : List Bool))).bind fun t416 => ((timer_Run.f k (⟨#[111, 110, 100, 101, 108, 97, 121]⟩ : ByteArray) (([2] : List Int)) t416 1).bind fun bt419 => ((plenumlaw19_on.f k (([true, false, false, false] : List Bool))).bind fun t429 => ((timer_Run.f k (⟨#[111, 102, 102, 100, 101, 108, 97, 121]⟩ : ByteArray) (([2] : List Int)) t429 1).bind fun bt432 => ((plenumlaw19_on.f k (([true, true, true, false, true] : List Bool))).bind fun t442 => ((timer_Run.f k (⟨#[112, 117, 108, 115, 101]⟩ : ByteArray) (([2] : List Int)) t442 1).bind fun bt445 => ((plenumlaw19_bit.f true).bind fun bt455 => ((timer_Settle.f k (⟨#[111, 110, 100, 101, 108, 97, 121]⟩ : ByteArray) (([5] : List Int)) (([0] : List Int)) (([(⟨bt455.1, bt455.2⟩ : S26)] : List (S26)))).bind fun bt460 => (if bt419.2 = 0 then (if bt432.2 = 0 then (if bt445.2 = 0 then (if bt460.2.2.2 = 0 then (if (bt419.1.length : Int) = 5 then (if (bt432.1.length : Int) = 4 then (if (bt445.1.length : Int) = 5 then (if 2 < (bt419.1.length : Int) then (if ((rd_T26 bt419.1 2).f1) = 0 then (if 3 < (bt419.1.length : Int) then (if ((rd_T26 bt419.1 3).f1) = 1 then (if 4 < (bt419.1.length : Int) then (if ((rd_T26 bt419.1 4).f1) = 0 then (if 2 < (bt432.1.length : Int) then (if ((rd_T26 bt432.1 2).f1) = 1 then (if 3 < (bt432.1.length : Int) then (if ((rd_T26 bt432.1 3).f1) = 0 then (if 1 < (bt445.1.length : Int) then (if ((rd_T26 bt445.1 1).f1) = 1 then (if 2 < (bt445.1.length : Int) then (if ((rd_T26 bt445.1 2).f1) = 0 then (if 4 < (bt445.1.length : Int) then (if ((rd_T26 bt445.1 4).f1) = 1 then (if bt460.2.1 = 1 then (if bt460.2.2.1 = 6 then ((timer_Names.f).bind fun t473 => (some ((t473.length : Int) == 8))) else (none)) else (none)) else (none)) else (none)) else (none)) else (none)) else (none)) else (none)) else (none)) else (none)) else (none)) else (none)) else (none)) else (none)) else (none)) else (none)) else (none)) else (none)) else (none)) else (none)) else (none)) else (none)) else (none)) else (none)) else (none)))))))))
theorem plenumlaw19_awake.mono : ∀ k, LeO (plenumlaw19_awake.f k ) (plenumlaw19_awake.f (k + 1) ) := by
 intro  k
 unfold plenumlaw19_awake.f
 repeat' first
   | (with_reducible exact plenumlaw19_on.mono _ _)
   | (with_reducible exact timer_Run.mono _ _ _ _ _)
   | (with_reducible exact timer_Settle.mono _ _ _ _ _)
   | (with_reducible exact LeO.refl _)
   | (with_reducible exact LeO.none _)
   | (with_reducible refine LeO.ite ?_ ?_)
   | (with_reducible refine LeO.bind ?_ (fun _ => ?_))
   | exact LeO.none _
   | refine LeO.ite ?_ ?_
   | refine LeO.bind ?_ (fun _ => ?_)
set_option maxHeartbeats 8000000 in
set_option maxRecDepth 100000 in
theorem plenumlaw19_awake.calls (k : Nat)  (r : Bool) (w : World) (hG : GW w) (h : plenumlaw19_awake.f k  = some r) :
  Calls Tryz.prog 5 #[] w fun e w' => e = .returned (.bool r) ∧ Below w.heap.size w w' := by
 have hu26 := Tryz.underlying26
 have HG := am hG
 clear hG
 have HB := am (Below.refl w.heap.size w)
 have H : ((plenumlaw19_on.f k (([false, true, true, true, false] : List Bool))).bind fun t416 => ((timer_Run.f k (⟨#[111, 110, 100, 101, 108, 97, 121]⟩ : ByteArray) (([2] : List Int)) t416 1).bind fun bt419 => ((plenumlaw19_on.f k (([true, false, false, false] : List Bool))).bind fun t429 => ((timer_Run.f k (⟨#[111, 102, 102, 100, 101, 108, 97, 121]⟩ : ByteArray) (([2] : List Int)) t429 1).bind fun bt432 => ((plenumlaw19_on.f k (([true, true, true, false, true] : List Bool))).bind fun t442 => ((timer_Run.f k (⟨#[112, 117, 108, 115, 101]⟩ : ByteArray) (([2] : List Int)) t442 1).bind fun bt445 => ((plenumlaw19_bit.f true).bind fun bt455 => ((timer_Settle.f k (⟨#[111, 110, 100, 101, 108, 97, 121]⟩ : ByteArray) (([5] : List Int)) (([0] : List Int)) (([(⟨bt455.1, bt455.2⟩ : S26)] : List (S26)))).bind fun bt460 => (if bt419.2 = 0 then (if bt432.2 = 0 then (if bt445.2 = 0 then (if bt460.2.2.2 = 0 then (if (bt419.1.length : Int) = 5 then (if (bt432.1.length : Int) = 4 then (if (bt445.1.length : Int) = 5 then (if 2 < (bt419.1.length : Int) then (if ((rd_T26 bt419.1 2).f1) = 0 then (if 3 < (bt419.1.length : Int) then (if ((rd_T26 bt419.1 3).f1) = 1 then (if 4 < (bt419.1.length : Int) then (if ((rd_T26 bt419.1 4).f1) = 0 then (if 2 < (bt432.1.length : Int) then (if ((rd_T26 bt432.1 2).f1) = 1 then (if 3 < (bt432.1.length : Int) then (if ((rd_T26 bt432.1 3).f1) = 0 then (if 1 < (bt445.1.length : Int) then (if ((rd_T26 bt445.1 1).f1) = 1 then (if 2 < (bt445.1.length : Int) then (if ((rd_T26 bt445.1 2).f1) = 0 then (if 4 < (bt445.1.length : Int) then (if ((rd_T26 bt445.1 4).f1) = 1 then (if bt460.2.1 = 1 then (if bt460.2.2.1 = 6 then ((timer_Names.f).bind fun t473 => (some ((t473.length : Int) == 8))) else (none)) else (none)) else (none)) else (none)) else (none)) else (none)) else (none)) else (none)) else (none)) else (none)) else (none)) else (none)) else (none)) else (none)) else (none)) else (none)) else (none)) else (none)) else (none)) else (none)) else (none)) else (none)) else (none)) else (none)) else (none)))))))))) = some r := h
 clear h
 obtain ⟨y410, hy410⟩ : ∃ y_ : List Int, y_ = (([2] : List Int)) := ⟨_, rfl⟩
 replace H : ((plenumlaw19_on.f k (([false, true, true, true, false] : List Bool))).bind fun t416 => ((timer_Run.f k (⟨#[111, 110, 100, 101, 108, 97, 121]⟩ : ByteArray) y410 t416 1).bind fun bt419 => ((plenumlaw19_on.f k (([true, false, false, false] : List Bool))).bind fun t429 => ((timer_Run.f k (⟨#[111, 102, 102, 100, 101, 108, 97, 121]⟩ : ByteArray) (([2] : List Int)) t429 1).bind fun bt432 => ((plenumlaw19_on.f k (([true, true, true, false, true] : List Bool))).bind fun t442 => ((timer_Run.f k (⟨#[112, 117, 108, 115, 101]⟩ : ByteArray) (([2] : List Int)) t442 1).bind fun bt445 => ((plenumlaw19_bit.f true).bind fun bt455 => ((timer_Settle.f k (⟨#[111, 110, 100, 101, 108, 97, 121]⟩ : ByteArray) (([5] : List Int)) (([0] : List Int)) (([(⟨bt455.1, bt455.2⟩ : S26)] : List (S26)))).bind fun bt460 => (if bt419.2 = 0 then (if bt432.2 = 0 then (if bt445.2 = 0 then (if bt460.2.2.2 = 0 then (if (bt419.1.length : Int) = 5 then (if (bt432.1.length : Int) = 4 then (if (bt445.1.length : Int) = 5 then (if 2 < (bt419.1.length : Int) then (if ((rd_T26 bt419.1 2).f1) = 0 then (if 3 < (bt419.1.length : Int) then (if ((rd_T26 bt419.1 3).f1) = 1 then (if 4 < (bt419.1.length : Int) then (if ((rd_T26 bt419.1 4).f1) = 0 then (if 2 < (bt432.1.length : Int) then (if ((rd_T26 bt432.1 2).f1) = 1 then (if 3 < (bt432.1.length : Int) then (if ((rd_T26 bt432.1 3).f1) = 0 then (if 1 < (bt445.1.length : Int) then (if ((rd_T26 bt445.1 1).f1) = 1 then (if 2 < (bt445.1.length : Int) then (if ((rd_T26 bt445.1 2).f1) = 0 then (if 4 < (bt445.1.length : Int) then (if ((rd_T26 bt445.1 4).f1) = 1 then (if bt460.2.1 = 1 then (if bt460.2.2.1 = 6 then ((timer_Names.f).bind fun t473 => (some ((t473.length : Int) == 8))) else (none)) else (none)) else (none)) else (none)) else (none)) else (none)) else (none)) else (none)) else (none)) else (none)) else (none)) else (none)) else (none)) else (none)) else (none)) else (none)) else (none)) else (none)) else (none)) else (none)) else (none)) else (none)) else (none)) else (none)) else (none)))))))))) = some r := by first | (rw [hy410]; with_reducible exact H) | (have H2_ := (Option.bind_some _ _).symm.trans H; rw [hy410]; with_reducible exact H2_) | (have H2_ := (Option.bind_some _ _).symm.trans H; with_reducible exact H2_) | with_reducible exact H | (rw [hy410]; exact H) | exact H
 have Ny410 := am hy410
 clear hy410
 obtain ⟨y413, hy413⟩ : ∃ y_ : List Bool, y_ = (([false, true, true, true, false] : List Bool)) := ⟨_, rfl⟩
 (try rw [← hy413] at H); (try rw [Option.bind_some] at H); (try dsimp only at H)
 have Ny413 := am hy413
 clear hy413
 replace H := Option.bind_eq_some_iff.mp H
 obtain ⟨t416, A10, H⟩ := H
 (try dsimp only at H)
 have A1 := am A10
 clear A10
 replace H := Option.bind_eq_some_iff.mp H
 obtain ⟨⟨t419, t420⟩, A20, H⟩ := H
 (try dsimp only at H)
 have A2 := am A20
 clear A20
 obtain ⟨y423, hy423⟩ : ∃ y_ : List Int, y_ = (([2] : List Int)) := ⟨_, rfl⟩
 replace H : ((plenumlaw19_on.f k (([true, false, false, false] : List Bool))).bind fun t429 => ((timer_Run.f k (⟨#[111, 102, 102, 100, 101, 108, 97, 121]⟩ : ByteArray) y423 t429 1).bind fun bt432 => ((plenumlaw19_on.f k (([true, true, true, false, true] : List Bool))).bind fun t442 => ((timer_Run.f k (⟨#[112, 117, 108, 115, 101]⟩ : ByteArray) (([2] : List Int)) t442 1).bind fun bt445 => ((plenumlaw19_bit.f true).bind fun bt455 => ((timer_Settle.f k (⟨#[111, 110, 100, 101, 108, 97, 121]⟩ : ByteArray) (([5] : List Int)) (([0] : List Int)) (([(⟨bt455.1, bt455.2⟩ : S26)] : List (S26)))).bind fun bt460 => (if t420 = 0 then (if bt432.2 = 0 then (if bt445.2 = 0 then (if bt460.2.2.2 = 0 then (if (t419.length : Int) = 5 then (if (bt432.1.length : Int) = 4 then (if (bt445.1.length : Int) = 5 then (if 2 < (t419.length : Int) then (if ((rd_T26 t419 2).f1) = 0 then (if 3 < (t419.length : Int) then (if ((rd_T26 t419 3).f1) = 1 then (if 4 < (t419.length : Int) then (if ((rd_T26 t419 4).f1) = 0 then (if 2 < (bt432.1.length : Int) then (if ((rd_T26 bt432.1 2).f1) = 1 then (if 3 < (bt432.1.length : Int) then (if ((rd_T26 bt432.1 3).f1) = 0 then (if 1 < (bt445.1.length : Int) then (if ((rd_T26 bt445.1 1).f1) = 1 then (if 2 < (bt445.1.length : Int) then (if ((rd_T26 bt445.1 2).f1) = 0 then (if 4 < (bt445.1.length : Int) then (if ((rd_T26 bt445.1 4).f1) = 1 then (if bt460.2.1 = 1 then (if bt460.2.2.1 = 6 then ((timer_Names.f).bind fun t473 => (some ((t473.length : Int) == 8))) else (none)) else (none)) else (none)) else (none)) else (none)) else (none)) else (none)) else (none)) else (none)) else (none)) else (none)) else (none)) else (none)) else (none)) else (none)) else (none)) else (none)) else (none)) else (none)) else (none)) else (none)) else (none)) else (none)) else (none)) else (none)))))))) = some r := by first | (rw [hy423]; with_reducible exact H) | (have H2_ := (Option.bind_some _ _).symm.trans H; rw [hy423]; with_reducible exact H2_) | (have H2_ := (Option.bind_some _ _).symm.trans H; with_reducible exact H2_) | with_reducible exact H | (rw [hy423]; exact H) | exact H
 have Ny423 := am hy423
 clear hy423
 obtain ⟨y426, hy426⟩ : ∃ y_ : List Bool, y_ = (([true, false, false, false] : List Bool)) := ⟨_, rfl⟩
 (try rw [← hy426] at H); (try rw [Option.bind_some] at H); (try dsimp only at H)
 have Ny426 := am hy426
 clear hy426
 replace H := Option.bind_eq_some_iff.mp H
 obtain ⟨t429, A30, H⟩ := H
 (try dsimp only at H)
 have A3 := am A30
 clear A30
 replace H := Option.bind_eq_some_iff.mp H
 obtain ⟨⟨t432, t433⟩, A40, H⟩ := H
 (try dsimp only at H)
 have A4 := am A40
 clear A40
 obtain ⟨y436, hy436⟩ : ∃ y_ : List Int, y_ = (([2] : List Int)) := ⟨_, rfl⟩
 (try rw [← hy436] at H); (try rw [Option.bind_some] at H); (try dsimp only at H)
 have Ny436 := am hy436
 clear hy436
 obtain ⟨y439, hy439⟩ : ∃ y_ : List Bool, y_ = (([true, true, true, false, true] : List Bool)) := ⟨_, rfl⟩
 (try rw [← hy439] at H); (try rw [Option.bind_some] at H); (try dsimp only at H)
 have Ny439 := am hy439
 clear hy439
 replace H := Option.bind_eq_some_iff.mp H
 obtain ⟨t442, A50, H⟩ := H
 (try dsimp only at H)
 have A5 := am A50
 clear A50
 replace H := Option.bind_eq_some_iff.mp H
 obtain ⟨⟨t445, t446⟩, A60, H⟩ := H
 (try dsimp only at H)
 have A6 := am A60
 clear A60
 obtain ⟨y449, hy449⟩ : ∃ y_ : List Int, y_ = (([5] : List Int)) := ⟨_, rfl⟩
 (try rw [← hy449] at H); (try rw [Option.bind_some] at H); (try dsimp only at H)
 have Ny449 := am hy449
 clear hy449
 obtain ⟨y452, hy452⟩ : ∃ y_ : List Int, y_ = (([0] : List Int)) := ⟨_, rfl⟩
 (try rw [← hy452] at H); (try rw [Option.bind_some] at H); (try dsimp only at H)
 have Ny452 := am hy452
 clear hy452
 replace H := Option.bind_eq_some_iff.mp H
 obtain ⟨⟨t455, t456⟩, A70, H⟩ := H
 (try dsimp only at H)
 have A7 := am A70
 clear A70
 obtain ⟨y457, hy457⟩ : ∃ y_ : List (S26), y_ = (([(⟨t455, t456⟩ : S26)] : List (S26))) := ⟨_, rfl⟩
 (try rw [← hy457] at H); (try rw [Option.bind_some] at H); (try dsimp only at H)
 have Ny457 := am hy457
 clear hy457
 replace H := Option.bind_eq_some_iff.mp H
 obtain ⟨⟨t460, t461, t462, t463⟩, A80, H⟩ := H
 (try dsimp only at H)
 have A8 := am A80
 clear A80
 by_cases c9 : t420 = 0
 rotate_left
 ·
  rw [if_neg c9] at H
  exact absurd H (by simp)
 rw [if_pos c9] at H
 have c9b0 := beq_iff_eq.mpr c9
 have c9b1 := bne_eq_false_iff_eq.mpr c9
 clear c9
 by_cases c10 : t433 = 0
 rotate_left
 ·
  rw [if_neg c10] at H
  exact absurd H (by simp)
 rw [if_pos c10] at H
 have c10b0 := beq_iff_eq.mpr c10
 have c10b1 := bne_eq_false_iff_eq.mpr c10
 clear c10
 by_cases c11 : t446 = 0
 rotate_left
 ·
  rw [if_neg c11] at H
  exact absurd H (by simp)
 rw [if_pos c11] at H
 have c11b0 := beq_iff_eq.mpr c11
 have c11b1 := bne_eq_false_iff_eq.mpr c11
 clear c11
 by_cases c12 : t463 = 0
 rotate_left
 ·
  rw [if_neg c12] at H
  exact absurd H (by simp)
 rw [if_pos c12] at H
 have c12b0 := beq_iff_eq.mpr c12
 have c12b1 := bne_eq_false_iff_eq.mpr c12
 clear c12
 by_cases c13 : (t419.length : Int) = 5
 rotate_left
 ·
  rw [if_neg c13] at H
  exact absurd H (by simp)
 rw [if_pos c13] at H
 have c13b0 := beq_iff_eq.mpr c13
 have c13b1 := bne_eq_false_iff_eq.mpr c13
 clear c13
 by_cases c14 : (t432.length : Int) = 4
 rotate_left
 ·
  rw [if_neg c14] at H
  exact absurd H (by simp)
 rw [if_pos c14] at H
 have c14b0 := beq_iff_eq.mpr c14
 have c14b1 := bne_eq_false_iff_eq.mpr c14
 clear c14
 by_cases c15 : (t445.length : Int) = 5
 rotate_left
 ·
  rw [if_neg c15] at H
  exact absurd H (by simp)
 rw [if_pos c15] at H
 have c15b0 := beq_iff_eq.mpr c15
 have c15b1 := bne_eq_false_iff_eq.mpr c15
 clear c15
 by_cases c16 : 2 < (t419.length : Int)
 rotate_left
 ·
  rw [if_neg c16] at H
  exact absurd H (by simp)
 rw [if_pos c16] at H
 have c16b0 := decide_eq_true c16
 have c16b1 : decide (2 < t419.length) = true := decide_eq_true (by omega)
 clear c16
 by_cases c17 : ((rd_T26 t419 2).f1) = 0
 rotate_left
 ·
  rw [if_neg c17] at H
  exact absurd H (by simp)
 rw [if_pos c17] at H
 have c17b0 := beq_iff_eq.mpr c17
 have c17b1 := bne_eq_false_iff_eq.mpr c17
 clear c17
 by_cases c18 : 3 < (t419.length : Int)
 rotate_left
 ·
  rw [if_neg c18] at H
  exact absurd H (by simp)
 rw [if_pos c18] at H
 have c18b0 := decide_eq_true c18
 have c18b1 : decide (3 < t419.length) = true := decide_eq_true (by omega)
 clear c18
 by_cases c19 : ((rd_T26 t419 3).f1) = 1
 rotate_left
 ·
  rw [if_neg c19] at H
  exact absurd H (by simp)
 rw [if_pos c19] at H
 have c19b0 := beq_iff_eq.mpr c19
 have c19b1 := bne_eq_false_iff_eq.mpr c19
 clear c19
 by_cases c20 : 4 < (t419.length : Int)
 rotate_left
 ·
  rw [if_neg c20] at H
  exact absurd H (by simp)
 rw [if_pos c20] at H
 have c20b0 := decide_eq_true c20
 have c20b1 : decide (4 < t419.length) = true := decide_eq_true (by omega)
 clear c20
 by_cases c21 : ((rd_T26 t419 4).f1) = 0
 rotate_left
 ·
  rw [if_neg c21] at H
  exact absurd H (by simp)
 rw [if_pos c21] at H
 have c21b0 := beq_iff_eq.mpr c21
 have c21b1 := bne_eq_false_iff_eq.mpr c21
 clear c21
 by_cases c22 : 2 < (t432.length : Int)
 rotate_left
 ·
  rw [if_neg c22] at H
  exact absurd H (by simp)
 rw [if_pos c22] at H
 have c22b0 := decide_eq_true c22
 have c22b1 : decide (2 < t432.length) = true := decide_eq_true (by omega)
 clear c22
 by_cases c23 : ((rd_T26 t432 2).f1) = 1
 rotate_left
 ·
  rw [if_neg c23] at H
  exact absurd H (by simp)
 rw [if_pos c23] at H
 have c23b0 := beq_iff_eq.mpr c23
 have c23b1 := bne_eq_false_iff_eq.mpr c23
 clear c23
 by_cases c24 : 3 < (t432.length : Int)
 rotate_left
 ·
  rw [if_neg c24] at H
  exact absurd H (by simp)
 rw [if_pos c24] at H
 have c24b0 := decide_eq_true c24
 have c24b1 : decide (3 < t432.length) = true := decide_eq_true (by omega)
 clear c24
 by_cases c25 : ((rd_T26 t432 3).f1) = 0
 rotate_left
 ·
  rw [if_neg c25] at H
  exact absurd H (by simp)
 rw [if_pos c25] at H
 have c25b0 := beq_iff_eq.mpr c25
 have c25b1 := bne_eq_false_iff_eq.mpr c25
 clear c25
 by_cases c26 : 1 < (t445.length : Int)
 rotate_left
 ·
  rw [if_neg c26] at H
  exact absurd H (by simp)
 rw [if_pos c26] at H
 have c26b0 := decide_eq_true c26
 have c26b1 : decide (1 < t445.length) = true := decide_eq_true (by omega)
 clear c26
 by_cases c27 : ((rd_T26 t445 1).f1) = 1
 rotate_left
 ·
  rw [if_neg c27] at H
  exact absurd H (by simp)
 rw [if_pos c27] at H
 have c27b0 := beq_iff_eq.mpr c27
 have c27b1 := bne_eq_false_iff_eq.mpr c27
 clear c27
 by_cases c28 : 2 < (t445.length : Int)
 rotate_left
 ·
  rw [if_neg c28] at H
  exact absurd H (by simp)
 rw [if_pos c28] at H
 have c28b0 := decide_eq_true c28
 have c28b1 : decide (2 < t445.length) = true := decide_eq_true (by omega)
 clear c28
 by_cases c29 : ((rd_T26 t445 2).f1) = 0
 rotate_left
 ·
  rw [if_neg c29] at H
  exact absurd H (by simp)
 rw [if_pos c29] at H
 have c29b0 := beq_iff_eq.mpr c29
 have c29b1 := bne_eq_false_iff_eq.mpr c29
 clear c29
 by_cases c30 : 4 < (t445.length : Int)
 rotate_left
 ·
  rw [if_neg c30] at H
  exact absurd H (by simp)
 rw [if_pos c30] at H
 have c30b0 := decide_eq_true c30
 have c30b1 : decide (4 < t445.length) = true := decide_eq_true (by omega)
 clear c30
 by_cases c31 : ((rd_T26 t445 4).f1) = 1
 rotate_left
 ·
  rw [if_neg c31] at H
  exact absurd H (by simp)
 rw [if_pos c31] at H
 have c31b0 := beq_iff_eq.mpr c31
 have c31b1 := bne_eq_false_iff_eq.mpr c31
 clear c31
 by_cases c32 : t461 = 1
 rotate_left
 ·
  rw [if_neg c32] at H
  exact absurd H (by simp)
 rw [if_pos c32] at H
 have c32b0 := beq_iff_eq.mpr c32
 have c32b1 := bne_eq_false_iff_eq.mpr c32
 clear c32
 by_cases c33 : t462 = 6
 rotate_left
 ·
  rw [if_neg c33] at H
  exact absurd H (by simp)
 rw [if_pos c33] at H
 have c33b0 := beq_iff_eq.mpr c33
 have c33b1 := bne_eq_false_iff_eq.mpr c33
 clear c33
 replace H := Option.bind_eq_some_iff.mp H
 obtain ⟨t473, A340, H⟩ := H
 (try dsimp only at H)
 have A34 := am A340
 clear A340
 obtain rfl := Option.some.inj H
 go_enter Tryz.func5, Tryz.ntmps5
 go_wp2_with (first | ((refine gate_dst (N := 11) rfl ?_); (try (refine gate_guard (by rfl) ?_; dsimp only)); refine Kd.R_lit (Kd.int .i64) _ 2 ?hg (N := 11) ?hd (xs := ([2] : List Int)) (inner := [.int .i64 2]) (ok := fun _ => True) (okp := fun _ => True) ?hr ?hp (fun _ hk => hk) trivial (Below.refl _ _) (Nat.le_refl _) (by simp) ?_; (case hd => rfl); (case hg => rfl); (case hr => first | (go_simp; done) | (go_simp; rfl)); (case hp => exact (Reps.one (show Kd.M (Kd.int .i64) _ _ _ 2 [.int .i64 2] from rfl) (Reps.none _ _))); intro v411 w35 ho36 hb hg_ hnew_; clear hg_ hnew_; (first | rw [← Ny410.out] at ho36 | (simp only [Int.reduceToNat] at ho36; rw [← Ny410.out] at ho36)); have HO412 := am (Kd.R_lower ho36 (below_size bl)); replace HB := am (below_step bl hb); clear hb ho36) | ((refine gate_dst (N := 12) rfl ?_); (try (refine gate_guard (by rfl) ?_; dsimp only)); refine Kd.R_lit Kd.bool _ 4 ?hg (N := 12) ?hd (xs := ([false, true, true, true, false] : List Bool)) (inner := [.bool false, .bool true, .bool true, .bool true, .bool false]) (ok := fun _ => True) (okp := fun _ => True) ?hr ?hp (fun _ hk => hk) trivial (Below.refl _ _) (Nat.le_refl _) (by simp) ?_; (case hd => rfl); (case hg => rfl); (case hr => first | (go_simp; done) | (go_simp; rfl)); (case hp => exact (Reps.one (show Kd.M Kd.bool _ _ _ false [.bool false] from rfl) (Reps.one (show Kd.M Kd.bool _ _ _ true [.bool true] from rfl) (Reps.one (show Kd.M Kd.bool _ _ _ true [.bool true] from rfl) (Reps.one (show Kd.M Kd.bool _ _ _ true [.bool true] from rfl) (Reps.one (show Kd.M Kd.bool _ _ _ false [.bool false] from rfl) (Reps.none _ _))))))); intro v414 w37 ho38 hb hg_ hnew_; clear hg_ hnew_; (first | rw [← Ny413.out] at ho38 | (simp only [Int.reduceToNat] at ho38; rw [← Ny413.out] at ho38)); replace HO412 := am (Kd.R_below (rr HO412.out) hb); have HO415 := am (Kd.R_lower ho38 (below_size bl)); replace HB := am (below_step bl hb); clear hb ho38; obtain ⟨Ao39, co39, eo39⟩ := Kd.R_slice HO415.out; subst eo39) | ((refine gate_callee (f := 13) rfl ?_); refine goesL_ (some 13) rfl rfl Tryz.func13 (by kernel_rfl) rfl #[.slice Ao39 y413.length co39] rfl aeq ?_; (with_reducible refine (plenumlaw19_on.calls k _ _ y413 t416 _ ?side1 ?side2 A1.out).mono ?_); (case side1 => repeat (first | exact (Kd.R_reads' HO415.out).2.2 | (with_reducible refine Kd.C_alloc ?_ _) | (with_reducible refine Kd.C_drewN ?_ _) | (with_reducible refine Kd.C_drew ?_))); (case side2 => exact (Kd.R_reads' HO415.out).2.1); rintro e w40 ⟨v417, rfl, ho0, hb⟩; refine ⟨_, rfl, ?_⟩; replace HO412 := am (Kd.R_below (rr HO412.out) hb); replace HO415 := am (Kd.R_below (rr HO415.out) hb); have HO418 := am (Kd.S_lower ho0 (below_size bl)); replace HB := am (below_step bl hb); (try clear hb); (try clear hb2); (try clear hk); (try clear hi); (try clear ho0); obtain ⟨Ao41, co41, eo41⟩ := Kd.R_slice HO412.out; subst eo41; obtain ⟨Ao42, co42, eo42⟩ := Kd.S_slice HO418.out; subst eo42) | ((refine gate_callee (f := 12) rfl ?_); refine goesL_ (some 14) rfl rfl Tryz.func12 (by kernel_rfl) rfl #[.string (⟨#[111, 110, 100, 101, 108, 97, 121]⟩ : ByteArray), .slice Ao41 y410.length co41, .slice Ao42 t416.length co42, .int .i64 1] rfl aeq ?_; (with_reducible refine (timer_Run.calls k (⟨#[111, 110, 100, 101, 108, 97, 121]⟩ : ByteArray) _ _ y410 _ _ t416 1 t419 t420 _ ?side1 ?side2 ?side3 ?side4 ?side5 A2.out).mono ?_); (case side1 => repeat (first | exact (Kd.R_reads' HO412.out).2.2 | (with_reducible refine Kd.C_alloc ?_ _) | (with_reducible refine Kd.C_drewN ?_ _) | (with_reducible refine Kd.C_drew ?_))); (case side2 => exact (Kd.R_reads' HO412.out).2.1); (case side3 => repeat (first | exact (Kd.S_reads' HO418.out).2.2 | (with_reducible refine Kd.C_alloc ?_ _) | (with_reducible refine Kd.C_drewN ?_ _) | (with_reducible refine Kd.C_drew ?_))); (case side4 => exact (Kd.S_reads' HO418.out).2.1); (case side5 => exact GW.below HG.out bl); rintro e w43 ⟨v421, rfl, ho0, hb⟩; refine ⟨_, rfl, ?_⟩; replace HO412 := am (Kd.R_below (rr HO412.out) hb); replace HO415 := am (Kd.R_below (rr HO415.out) hb); replace HO418 := am (Kd.S_elder' (rs HO418.out) (Kd.R_base ho0) hb); have HO422 := am (Kd.R_lower ho0 (below_size bl)); replace HB := am (below_step bl hb); (try clear hb); (try clear hb2); (try clear hk); (try clear hi); (try clear ho0)) | ((refine gate_dst (N := 18) rfl ?_); (try (refine gate_guard (by rfl) ?_; dsimp only)); refine Kd.R_lit (Kd.int .i64) _ 2 ?hg (N := 18) ?hd (xs := ([2] : List Int)) (inner := [.int .i64 2]) (ok := fun _ => True) (okp := fun _ => True) ?hr ?hp (fun _ hk => hk) trivial (Below.refl _ _) (Nat.le_refl _) (by simp) ?_; (case hd => rfl); (case hg => rfl); (case hr => first | (go_simp; done) | (go_simp; rfl)); (case hp => exact (Reps.one (show Kd.M (Kd.int .i64) _ _ _ 2 [.int .i64 2] from rfl) (Reps.none _ _))); intro v424 w44 ho45 hb hg_ hnew_; clear hg_ hnew_; (first | rw [← Ny423.out] at ho45 | (simp only [Int.reduceToNat] at ho45; rw [← Ny423.out] at ho45)); replace HO415 := am (Kd.R_below (rr HO415.out) hb); replace HO418 := am (Kd.S_below (rs HO418.out) hb); replace HO422 := am (Kd.R_below (rr HO422.out) hb); have HO425 := am (Kd.R_lower (Kd.R_new' ho45 (Kd.R_lt (rr HO412.out))) (below_size bl)); replace HO412 := am (Kd.R_elder' (rr HO412.out) (Kd.R_base ho45) hb); replace HB := am (below_step bl hb); clear hb ho45) | ((refine gate_dst (N := 19) rfl ?_); (try (refine gate_guard (by rfl) ?_; dsimp only)); refine Kd.R_lit Kd.bool _ 4 ?hg (N := 19) ?hd (xs := ([true, false, false, false] : List Bool)) (inner := [.bool true, .bool false, .bool false, .bool false]) (ok := fun _ => True) (okp := fun _ => True) ?hr ?hp (fun _ hk => hk) trivial (Below.refl _ _) (Nat.le_refl _) (by simp) ?_; (case hd => rfl); (case hg => rfl); (case hr => first | (go_simp; done) | (go_simp; rfl)); (case hp => exact (Reps.one (show Kd.M Kd.bool _ _ _ true [.bool true] from rfl) (Reps.one (show Kd.M Kd.bool _ _ _ false [.bool false] from rfl) (Reps.one (show Kd.M Kd.bool _ _ _ false [.bool false] from rfl) (Reps.one (show Kd.M Kd.bool _ _ _ false [.bool false] from rfl) (Reps.none _ _)))))); intro v427 w46 ho47 hb hg_ hnew_; clear hg_ hnew_; (first | rw [← Ny426.out] at ho47 | (simp only [Int.reduceToNat] at ho47; rw [← Ny426.out] at ho47)); replace HO412 := am (Kd.R_below (rr HO412.out) hb); replace HO418 := am (Kd.S_below (rs HO418.out) hb); replace HO422 := am (Kd.R_below (rr HO422.out) hb); replace HO425 := am (Kd.R_below (rr HO425.out) hb); have HO428 := am (Kd.R_lower (Kd.R_new' ho47 (Kd.R_lt (rr HO415.out))) (below_size bl)); replace HO415 := am (Kd.R_elder' (rr HO415.out) (Kd.R_base ho47) hb); replace HB := am (below_step bl hb); clear hb ho47; obtain ⟨Ao48, co48, eo48⟩ := Kd.R_slice HO428.out; subst eo48) | ((refine gate_callee (f := 13) rfl ?_); refine goesL_ (some 20) rfl rfl Tryz.func13 (by kernel_rfl) rfl #[.slice Ao48 y426.length co48] rfl aeq ?_; (with_reducible refine (plenumlaw19_on.calls k _ _ y426 t429 _ ?side1 ?side2 A3.out).mono ?_); (case side1 => repeat (first | exact (Kd.R_reads' HO428.out).2.2 | (with_reducible refine Kd.C_alloc ?_ _) | (with_reducible refine Kd.C_drewN ?_ _) | (with_reducible refine Kd.C_drew ?_))); (case side2 => exact (Kd.R_reads' HO428.out).2.1); rintro e w49 ⟨v430, rfl, ho0, hb⟩; refine ⟨_, rfl, ?_⟩; replace HO412 := am (Kd.R_below (rr HO412.out) hb); replace HO415 := am (Kd.R_below (rr HO415.out) hb); replace HO425 := am (Kd.R_below (rr HO425.out) hb); replace HO428 := am (Kd.R_below (rr HO428.out) hb); have HO431 := am (Kd.S_lower (Kd.S_new' (Kd.S_new' ho0 (Kd.S_lt (rs HO418.out))) (Kd.R_lt (rr HO422.out))) (below_size bl)); replace HO418 := am (Kd.S_elder' (rs HO418.out) (Kd.S_base ho0) hb); replace HO422 := am (Kd.R_below (rr HO422.out) hb); replace HB := am (below_step bl hb); (try clear hb); (try clear hb2); (try clear hk); (try clear hi); (try clear ho0); obtain ⟨Ao50, co50, eo50⟩ := Kd.R_slice HO425.out; subst eo50; obtain ⟨Ao51, co51, eo51⟩ := Kd.S_slice HO431.out; subst eo51) | ((refine gate_callee (f := 12) rfl ?_); refine goesL_ (some 21) rfl rfl Tryz.func12 (by kernel_rfl) rfl #[.string (⟨#[111, 102, 102, 100, 101, 108, 97, 121]⟩ : ByteArray), .slice Ao50 y423.length co50, .slice Ao51 t429.length co51, .int .i64 1] rfl aeq ?_; (with_reducible refine (timer_Run.calls k (⟨#[111, 102, 102, 100, 101, 108, 97, 121]⟩ : ByteArray) _ _ y423 _ _ t429 1 t432 t433 _ ?side1 ?side2 ?side3 ?side4 ?side5 A4.out).mono ?_); (case side1 => repeat (first | exact (Kd.R_reads' HO425.out).2.2 | (with_reducible refine Kd.C_alloc ?_ _) | (with_reducible refine Kd.C_drewN ?_ _) | (with_reducible refine Kd.C_drew ?_))); (case side2 => exact (Kd.R_reads' HO425.out).2.1); (case side3 => repeat (first | exact (Kd.S_reads' HO431.out).2.2 | (with_reducible refine Kd.C_alloc ?_ _) | (with_reducible refine Kd.C_drewN ?_ _) | (with_reducible refine Kd.C_drew ?_))); (case side4 => exact (Kd.S_reads' HO431.out).2.1); (case side5 => exact GW.below HG.out bl); rintro e w52 ⟨v434, rfl, ho0, hb⟩; refine ⟨_, rfl, ?_⟩; replace HO412 := am (Kd.R_below (rr HO412.out) hb); replace HO415 := am (Kd.R_below (rr HO415.out) hb); replace HO418 := am (Kd.S_elder' (rs HO418.out) (Kd.R_base ho0) hb); replace HO425 := am (Kd.R_below (rr HO425.out) hb); replace HO428 := am (Kd.R_below (rr HO428.out) hb); replace HO431 := am (Kd.S_elder' (rs HO431.out) (Kd.R_base ho0) hb); have HO435 := am (Kd.R_lower (Kd.R_new' ho0 (Kd.R_lt (rr HO422.out))) (below_size bl)); replace HO422 := am (Kd.R_elder' (rr HO422.out) (Kd.R_base ho0) hb); replace HB := am (below_step bl hb); (try clear hb); (try clear hb2); (try clear hk); (try clear hi); (try clear ho0)) | ((refine gate_dst (N := 25) rfl ?_); (try (refine gate_guard (by rfl) ?_; dsimp only)); refine Kd.R_lit (Kd.int .i64) _ 2 ?hg (N := 25) ?hd (xs := ([2] : List Int)) (inner := [.int .i64 2]) (ok := fun _ => True) (okp := fun _ => True) ?hr ?hp (fun _ hk => hk) trivial (Below.refl _ _) (Nat.le_refl _) (by simp) ?_; (case hd => rfl); (case hg => rfl); (case hr => first | (go_simp; done) | (go_simp; rfl)); (case hp => exact (Reps.one (show Kd.M (Kd.int .i64) _ _ _ 2 [.int .i64 2] from rfl) (Reps.none _ _))); intro v437 w53 ho54 hb hg_ hnew_; clear hg_ hnew_; (first | rw [← Ny436.out] at ho54 | (simp only [Int.reduceToNat] at ho54; rw [← Ny436.out] at ho54)); replace HO415 := am (Kd.R_below (rr HO415.out) hb); replace HO418 := am (Kd.S_below (rs HO418.out) hb); replace HO422 := am (Kd.R_below (rr HO422.out) hb); replace HO428 := am (Kd.R_below (rr HO428.out) hb); replace HO431 := am (Kd.S_below (rs HO431.out) hb); replace HO435 := am (Kd.R_below (rr HO435.out) hb); have HO438 := am (Kd.R_lower (Kd.R_new' (Kd.R_new' ho54 (Kd.R_lt (rr HO412.out))) (Kd.R_lt (rr HO425.out))) (below_size bl)); replace HO412 := am (Kd.R_elder' (rr HO412.out) (Kd.R_base ho54) hb); replace HO425 := am (Kd.R_elder' (rr HO425.out) (Kd.R_base ho54) hb); replace HB := am (below_step bl hb); clear hb ho54) | ((refine gate_dst (N := 26) rfl ?_); (try (refine gate_guard (by rfl) ?_; dsimp only)); refine Kd.R_lit Kd.bool _ 4 ?hg (N := 26) ?hd (xs := ([true, true, true, false, true] : List Bool)) (inner := [.bool true, .bool true, .bool true, .bool false, .bool true]) (ok := fun _ => True) (okp := fun _ => True) ?hr ?hp (fun _ hk => hk) trivial (Below.refl _ _) (Nat.le_refl _) (by simp) ?_; (case hd => rfl); (case hg => rfl); (case hr => first | (go_simp; done) | (go_simp; rfl)); (case hp => exact (Reps.one (show Kd.M Kd.bool _ _ _ true [.bool true] from rfl) (Reps.one (show Kd.M Kd.bool _ _ _ true [.bool true] from rfl) (Reps.one (show Kd.M Kd.bool _ _ _ true [.bool true] from rfl) (Reps.one (show Kd.M Kd.bool _ _ _ false [.bool false] from rfl) (Reps.one (show Kd.M Kd.bool _ _ _ true [.bool true] from rfl) (Reps.none _ _))))))); intro v440 w55 ho56 hb hg_ hnew_; clear hg_ hnew_; (first | rw [← Ny439.out] at ho56 | (simp only [Int.reduceToNat] at ho56; rw [← Ny439.out] at ho56)); replace HO412 := am (Kd.R_below (rr HO412.out) hb); replace HO418 := am (Kd.S_below (rs HO418.out) hb); replace HO422 := am (Kd.R_below (rr HO422.out) hb); replace HO425 := am (Kd.R_below (rr HO425.out) hb); replace HO431 := am (Kd.S_below (rs HO431.out) hb); replace HO435 := am (Kd.R_below (rr HO435.out) hb); replace HO438 := am (Kd.R_below (rr HO438.out) hb); have HO441 := am (Kd.R_lower (Kd.R_new' (Kd.R_new' ho56 (Kd.R_lt (rr HO415.out))) (Kd.R_lt (rr HO428.out))) (below_size bl)); replace HO415 := am (Kd.R_elder' (rr HO415.out) (Kd.R_base ho56) hb); replace HO428 := am (Kd.R_elder' (rr HO428.out) (Kd.R_base ho56) hb); replace HB := am (below_step bl hb); clear hb ho56; obtain ⟨Ao57, co57, eo57⟩ := Kd.R_slice HO441.out; subst eo57) | ((refine gate_callee (f := 13) rfl ?_); refine goesL_ (some 27) rfl rfl Tryz.func13 (by kernel_rfl) rfl #[.slice Ao57 y439.length co57] rfl aeq ?_; (with_reducible refine (plenumlaw19_on.calls k _ _ y439 t442 _ ?side1 ?side2 A5.out).mono ?_); (case side1 => repeat (first | exact (Kd.R_reads' HO441.out).2.2 | (with_reducible refine Kd.C_alloc ?_ _) | (with_reducible refine Kd.C_drewN ?_ _) | (with_reducible refine Kd.C_drew ?_))); (case side2 => exact (Kd.R_reads' HO441.out).2.1); rintro e w58 ⟨v443, rfl, ho0, hb⟩; refine ⟨_, rfl, ?_⟩; replace HO412 := am (Kd.R_below (rr HO412.out) hb); replace HO415 := am (Kd.R_below (rr HO415.out) hb); replace HO425 := am (Kd.R_below (rr HO425.out) hb); replace HO428 := am (Kd.R_below (rr HO428.out) hb); replace HO438 := am (Kd.R_below (rr HO438.out) hb); replace HO441 := am (Kd.R_below (rr HO441.out) hb); have HO444 := am (Kd.S_lower (Kd.S_new' (Kd.S_new' (Kd.S_new' (Kd.S_new' ho0 (Kd.S_lt (rs HO418.out))) (Kd.R_lt (rr HO422.out))) (Kd.S_lt (rs HO431.out))) (Kd.R_lt (rr HO435.out))) (below_size bl)); replace HO418 := am (Kd.S_elder' (rs HO418.out) (Kd.S_base ho0) hb); replace HO422 := am (Kd.R_below (rr HO422.out) hb); replace HO431 := am (Kd.S_elder' (rs HO431.out) (Kd.S_base ho0) hb); replace HO435 := am (Kd.R_below (rr HO435.out) hb); replace HB := am (below_step bl hb); (try clear hb); (try clear hb2); (try clear hk); (try clear hi); (try clear ho0); obtain ⟨Ao59, co59, eo59⟩ := Kd.R_slice HO438.out; subst eo59; obtain ⟨Ao60, co60, eo60⟩ := Kd.S_slice HO444.out; subst eo60) | ((refine gate_callee (f := 12) rfl ?_); refine goesL_ (some 28) rfl rfl Tryz.func12 (by kernel_rfl) rfl #[.string (⟨#[112, 117, 108, 115, 101]⟩ : ByteArray), .slice Ao59 y436.length co59, .slice Ao60 t442.length co60, .int .i64 1] rfl aeq ?_; (with_reducible refine (timer_Run.calls k (⟨#[112, 117, 108, 115, 101]⟩ : ByteArray) _ _ y436 _ _ t442 1 t445 t446 _ ?side1 ?side2 ?side3 ?side4 ?side5 A6.out).mono ?_); (case side1 => repeat (first | exact (Kd.R_reads' HO438.out).2.2 | (with_reducible refine Kd.C_alloc ?_ _) | (with_reducible refine Kd.C_drewN ?_ _) | (with_reducible refine Kd.C_drew ?_))); (case side2 => exact (Kd.R_reads' HO438.out).2.1); (case side3 => repeat (first | exact (Kd.S_reads' HO444.out).2.2 | (with_reducible refine Kd.C_alloc ?_ _) | (with_reducible refine Kd.C_drewN ?_ _) | (with_reducible refine Kd.C_drew ?_))); (case side4 => exact (Kd.S_reads' HO444.out).2.1); (case side5 => exact GW.below HG.out bl); rintro e w61 ⟨v447, rfl, ho0, hb⟩; refine ⟨_, rfl, ?_⟩; replace HO412 := am (Kd.R_below (rr HO412.out) hb); replace HO415 := am (Kd.R_below (rr HO415.out) hb); replace HO418 := am (Kd.S_elder' (rs HO418.out) (Kd.R_base ho0) hb); replace HO425 := am (Kd.R_below (rr HO425.out) hb); replace HO428 := am (Kd.R_below (rr HO428.out) hb); replace HO431 := am (Kd.S_elder' (rs HO431.out) (Kd.R_base ho0) hb); replace HO438 := am (Kd.R_below (rr HO438.out) hb); replace HO441 := am (Kd.R_below (rr HO441.out) hb); replace HO444 := am (Kd.S_elder' (rs HO444.out) (Kd.R_base ho0) hb); have HO448 := am (Kd.R_lower (Kd.R_new' (Kd.R_new' ho0 (Kd.R_lt (rr HO422.out))) (Kd.R_lt (rr HO435.out))) (below_size bl)); replace HO422 := am (Kd.R_elder' (rr HO422.out) (Kd.R_base ho0) hb); replace HO435 := am (Kd.R_elder' (rr HO435.out) (Kd.R_base ho0) hb); replace HB := am (below_step bl hb); (try clear hb); (try clear hb2); (try clear hk); (try clear hi); (try clear ho0)) | ((refine gate_dst (N := 32) rfl ?_); (try (refine gate_guard (by rfl) ?_; dsimp only)); refine Kd.R_lit (Kd.int .i64) _ 2 ?hg (N := 32) ?hd (xs := ([5] : List Int)) (inner := [.int .i64 5]) (ok := fun _ => True) (okp := fun _ => True) ?hr ?hp (fun _ hk => hk) trivial (Below.refl _ _) (Nat.le_refl _) (by simp) ?_; (case hd => rfl); (case hg => rfl); (case hr => first | (go_simp; done) | (go_simp; rfl)); (case hp => exact (Reps.one (show Kd.M (Kd.int .i64) _ _ _ 5 [.int .i64 5] from rfl) (Reps.none _ _))); intro v450 w62 ho63 hb hg_ hnew_; clear hg_ hnew_; (first | rw [← Ny449.out] at ho63 | (simp only [Int.reduceToNat] at ho63; rw [← Ny449.out] at ho63)); replace HO415 := am (Kd.R_below (rr HO415.out) hb); replace HO418 := am (Kd.S_below (rs HO418.out) hb); replace HO422 := am (Kd.R_below (rr HO422.out) hb); replace HO428 := am (Kd.R_below (rr HO428.out) hb); replace HO431 := am (Kd.S_below (rs HO431.out) hb); replace HO435 := am (Kd.R_below (rr HO435.out) hb); replace HO441 := am (Kd.R_below (rr HO441.out) hb); replace HO444 := am (Kd.S_below (rs HO444.out) hb); replace HO448 := am (Kd.R_below (rr HO448.out) hb); have HO451 := am (Kd.R_lower (Kd.R_new' (Kd.R_new' (Kd.R_new' ho63 (Kd.R_lt (rr HO412.out))) (Kd.R_lt (rr HO425.out))) (Kd.R_lt (rr HO438.out))) (below_size bl)); replace HO412 := am (Kd.R_elder' (rr HO412.out) (Kd.R_base ho63) hb); replace HO425 := am (Kd.R_elder' (rr HO425.out) (Kd.R_base ho63) hb); replace HO438 := am (Kd.R_elder' (rr HO438.out) (Kd.R_base ho63) hb); replace HB := am (below_step bl hb); clear hb ho63) | ((refine gate_dst (N := 33) rfl ?_); (try (refine gate_guard (by rfl) ?_; dsimp only)); refine Kd.R_lit (Kd.int .i64) _ 2 ?hg (N := 33) ?hd (xs := ([0] : List Int)) (inner := [.int .i64 0]) (ok := fun _ => True) (okp := fun _ => True) ?hr ?hp (fun _ hk => hk) trivial (Below.refl _ _) (Nat.le_refl _) (by simp) ?_; (case hd => rfl); (case hg => rfl); (case hr => first | (go_simp; done) | (go_simp; rfl)); (case hp => exact (Reps.one (show Kd.M (Kd.int .i64) _ _ _ 0 [.int .i64 0] from rfl) (Reps.none _ _))); intro v453 w64 ho65 hb hg_ hnew_; clear hg_ hnew_; (first | rw [← Ny452.out] at ho65 | (simp only [Int.reduceToNat] at ho65; rw [← Ny452.out] at ho65)); replace HO415 := am (Kd.R_below (rr HO415.out) hb); replace HO418 := am (Kd.S_below (rs HO418.out) hb); replace HO422 := am (Kd.R_below (rr HO422.out) hb); replace HO428 := am (Kd.R_below (rr HO428.out) hb); replace HO431 := am (Kd.S_below (rs HO431.out) hb); replace HO435 := am (Kd.R_below (rr HO435.out) hb); replace HO441 := am (Kd.R_below (rr HO441.out) hb); replace HO444 := am (Kd.S_below (rs HO444.out) hb); replace HO448 := am (Kd.R_below (rr HO448.out) hb); have HO454 := am (Kd.R_lower (Kd.R_new' (Kd.R_new' (Kd.R_new' (Kd.R_new' ho65 (Kd.R_lt (rr HO412.out))) (Kd.R_lt (rr HO425.out))) (Kd.R_lt (rr HO438.out))) (Kd.R_lt (rr HO451.out))) (below_size bl)); replace HO412 := am (Kd.R_elder' (rr HO412.out) (Kd.R_base ho65) hb); replace HO425 := am (Kd.R_elder' (rr HO425.out) (Kd.R_base ho65) hb); replace HO438 := am (Kd.R_elder' (rr HO438.out) (Kd.R_base ho65) hb); replace HO451 := am (Kd.R_elder' (rr HO451.out) (Kd.R_base ho65) hb); replace HB := am (below_step bl hb); clear hb ho65) | ((refine gate_callee (f := 14) rfl ?_); refine goesL_ (some 34) rfl rfl Tryz.func14 (by kernel_rfl) rfl #[.bool true] rfl aeq ?_; (with_reducible refine (plenumlaw19_bit.calls true t455 t456 _ A7.out).mono ?_); rintro e w66 ⟨rfl, hb⟩; refine ⟨_, rfl, ?_⟩; replace HO412 := am (Kd.R_below (rr HO412.out) hb); replace HO415 := am (Kd.R_below (rr HO415.out) hb); replace HO418 := am (Kd.S_below (rs HO418.out) hb); replace HO422 := am (Kd.R_below (rr HO422.out) hb); replace HO425 := am (Kd.R_below (rr HO425.out) hb); replace HO428 := am (Kd.R_below (rr HO428.out) hb); replace HO431 := am (Kd.S_below (rs HO431.out) hb); replace HO435 := am (Kd.R_below (rr HO435.out) hb); replace HO438 := am (Kd.R_below (rr HO438.out) hb); replace HO441 := am (Kd.R_below (rr HO441.out) hb); replace HO444 := am (Kd.S_below (rs HO444.out) hb); replace HO448 := am (Kd.R_below (rr HO448.out) hb); replace HO451 := am (Kd.R_below (rr HO451.out) hb); replace HO454 := am (Kd.R_below (rr HO454.out) hb); replace HB := am (below_step bl hb); (try clear hb); (try clear hb2); (try clear hk); (try clear hi)) | ((refine gate_dst (N := 35) rfl ?_); (try (refine gate_guard (by rfl) ?_; dsimp only)); refine Kd.R_lit k26 _ 26 ?hg (N := 35) ?hd (xs := ([(⟨t455, t456⟩ : S26)] : List (S26))) (inner := [.int .i64 t455, .int .i64 t456]) (ok := fun _ => True) (okp := fun _ => True) ?hr ?hp (fun _ hk => hk) trivial (Below.refl _ _) (Nat.le_refl _) (by simp) ?_; (case hd => rfl); (case hg => rfl); (case hr => first | (go_simp; done) | (go_simp; rfl)); (case hp => exact (Reps.c2 (show Kd.M k26 _ _ _ (⟨t455, t456⟩ : S26) [.int .i64 t455, .int .i64 t456] from (k26_mkM _ _ _ (⟨t455, t456⟩ : S26) )) (Reps.none _ _))); intro v458 w67 ho68 hb hg_ hnew_; clear hg_ hnew_; (first | rw [← Ny457.out] at ho68 | (simp only [Int.reduceToNat] at ho68; rw [← Ny457.out] at ho68)); replace HO412 := am (Kd.R_below (rr HO412.out) hb); replace HO415 := am (Kd.R_below (rr HO415.out) hb); replace HO418 := am (Kd.S_elder' (rs HO418.out) (Kd.R_base ho68) hb); replace HO425 := am (Kd.R_below (rr HO425.out) hb); replace HO428 := am (Kd.R_below (rr HO428.out) hb); replace HO431 := am (Kd.S_elder' (rs HO431.out) (Kd.R_base ho68) hb); replace HO438 := am (Kd.R_below (rr HO438.out) hb); replace HO441 := am (Kd.R_below (rr HO441.out) hb); replace HO444 := am (Kd.S_elder' (rs HO444.out) (Kd.R_base ho68) hb); replace HO451 := am (Kd.R_below (rr HO451.out) hb); replace HO454 := am (Kd.R_below (rr HO454.out) hb); have HO459 := am (Kd.R_lower (Kd.R_new' (Kd.R_new' (Kd.R_new' ho68 (Kd.R_lt (rr HO422.out))) (Kd.R_lt (rr HO435.out))) (Kd.R_lt (rr HO448.out))) (below_size bl)); replace HO422 := am (Kd.R_elder' (rr HO422.out) (Kd.R_base ho68) hb); replace HO435 := am (Kd.R_elder' (rr HO435.out) (Kd.R_base ho68) hb); replace HO448 := am (Kd.R_elder' (rr HO448.out) (Kd.R_base ho68) hb); replace HB := am (below_step bl hb); clear hb ho68; obtain ⟨Ao69, co69, eo69⟩ := Kd.R_slice HO451.out; subst eo69; obtain ⟨Ao70, co70, eo70⟩ := Kd.R_slice HO454.out; subst eo70; obtain ⟨Ao71, co71, eo71⟩ := Kd.R_slice HO459.out; subst eo71) | ((refine gate_callee (f := 10) rfl ?_); refine goesL_ (some 36) rfl rfl Tryz.func10 (by kernel_rfl) rfl #[.string (⟨#[111, 110, 100, 101, 108, 97, 121]⟩ : ByteArray), .slice Ao69 y449.length co69, .slice Ao70 y452.length co70, .slice Ao71 y457.length co71] rfl aeq ?_; (with_reducible refine (timer_Settle.calls k (⟨#[111, 110, 100, 101, 108, 97, 121]⟩ : ByteArray) _ _ y449 (fun k_ => some k_ = (.slice Ao70 y452.length co70 : Value).ownBlock) _ _ y452 _ _ y457 t460 t461 t462 t463 _ ?side1 ?side2 ?side3 ?side4 ?side5 ?side6 A8.out).mono ?_); (case side1 => repeat (first | exact (Kd.R_reads' HO451.out).2.2 | (with_reducible refine Kd.C_alloc ?_ _) | (with_reducible refine Kd.C_drewN ?_ _) | (with_reducible refine Kd.C_drew ?_))); (case side2 => exact (Kd.R_reads' HO451.out).2.1); (case side3 => exact Kd.R_V (Kd.R_tight rfl (Kd.R_apart' (Kd.R_apart' (Kd.R_apart' (Kd.R_apart' (Kd.R_apart' (Kd.R_apart' (Kd.R_apart' (Kd.R_apart' (Kd.R_apart' (Kd.R_apart' (HO454.out) (Kd.R_typed HO415.out) (by decide)) (Kd.S_typed HO418.out) (by decide)) (Kd.R_typed HO422.out) (by decide)) (Kd.R_typed HO428.out) (by decide)) (Kd.S_typed HO431.out) (by decide)) (Kd.R_typed HO435.out) (by decide)) (Kd.R_typed HO441.out) (by decide)) (Kd.S_typed HO444.out) (by decide)) (Kd.R_typed HO448.out) (by decide)) (Kd.R_typed HO459.out) (by decide)))); (case side4 => repeat (first | exact (Kd.R_reads' HO459.out).2.2 | (with_reducible refine Kd.C_alloc ?_ _) | (with_reducible refine Kd.C_drewN ?_ _) | (with_reducible refine Kd.C_drew ?_))); (case side5 => exact (Kd.R_reads' HO459.out).2.1); (case side6 => exact GW.below HG.out bl); rintro e w72 ⟨rfl, hb⟩; refine ⟨_, rfl, ?_⟩; replace HO412 := am (Kd.R_below (rr HO412.out) hb); replace HO415 := am (Kd.R_below (rr HO415.out) hb); replace HO418 := am (Kd.S_below (rs HO418.out) hb); replace HO422 := am (Kd.R_below (rr HO422.out) hb); replace HO425 := am (Kd.R_below (rr HO425.out) hb); replace HO428 := am (Kd.R_below (rr HO428.out) hb); replace HO431 := am (Kd.S_below (rs HO431.out) hb); replace HO435 := am (Kd.R_below (rr HO435.out) hb); replace HO438 := am (Kd.R_below (rr HO438.out) hb); replace HO441 := am (Kd.R_below (rr HO441.out) hb); replace HO444 := am (Kd.S_below (rs HO444.out) hb); replace HO448 := am (Kd.R_below (rr HO448.out) hb); replace HO451 := am (Kd.R_below (rr HO451.out) hb); replace HO454 := am (Kd.R_below (rr HO454.out) hb); replace HO459 := am (Kd.R_below (rr HO459.out) hb); replace HB := am (below_step bl hb); (try clear hb); (try clear hb2); (try clear hk); (try clear hi)) | ((refine gate_dst (N := 7) rfl ?_); (try (refine gate_guard (by rfl) ?_; dsimp only)); refine bx (N := 7) (cs := #[.int .i64 0, .int .i64 0]) (t := 26) ?_; intro gb464 hg w73 hbox hb; replace HO412 := am (Kd.R_below (rr HO412.out) hb); replace HO415 := am (Kd.R_below (rr HO415.out) hb); replace HO418 := am (Kd.S_below (Kd.S_elderB (rs HO418.out) gb464 (Nat.le_of_eq hg.symm)) hb); replace HO422 := am (Kd.R_below (Kd.R_elderB (rr HO422.out) gb464 (Nat.le_of_eq hg.symm)) hb); replace HO425 := am (Kd.R_below (rr HO425.out) hb); replace HO428 := am (Kd.R_below (rr HO428.out) hb); replace HO431 := am (Kd.S_below (Kd.S_elderB (rs HO431.out) gb464 (Nat.le_of_eq hg.symm)) hb); replace HO435 := am (Kd.R_below (Kd.R_elderB (rr HO435.out) gb464 (Nat.le_of_eq hg.symm)) hb); replace HO438 := am (Kd.R_below (rr HO438.out) hb); replace HO441 := am (Kd.R_below (rr HO441.out) hb); replace HO444 := am (Kd.S_below (Kd.S_elderB (rs HO444.out) gb464 (Nat.le_of_eq hg.symm)) hb); replace HO448 := am (Kd.R_below (Kd.R_elderB (rr HO448.out) gb464 (Nat.le_of_eq hg.symm)) hb); replace HO451 := am (Kd.R_below (rr HO451.out) hb); replace HO454 := am (Kd.R_below (rr HO454.out) hb); replace HO459 := am (Kd.R_below (Kd.R_elderB (rr HO459.out) gb464 (Nat.le_of_eq hg.symm)) hb); have BK464 := am (hbox); have GW464 := am (gw hg (below_size bl)); have GE464 := am (gw hg (below_size bl)); replace HB := am (below_step bl hb); clear hb hbox hg; obtain ⟨hcz74_0, hcz74_1, hfz74_0, hfz74_1⟩ := bz2 BK464.out; obtain ⟨Ao75, co75, eo75⟩ := Kd.R_slice HO422.out; subst eo75; obtain ⟨Ao76, co76, eo76⟩ := Kd.R_slice HO435.out; subst eo76; obtain ⟨Ao77, co77, eo77⟩ := Kd.R_slice HO448.out; subst eo77; have p465 : 0 ≤ (2 : Int) := (by omega); have q465 : 2 < (t419.length : Int) := ode; obtain ⟨ad465, e465, hx465_0, hx465_1⟩ := at_T26 (Kd.R_reads' HO422.out).2.2 2 p465 q465; cases e465; (try simp only [t2, Nat.reduceMul, Nat.reduceEqDiff, Go.Addr.add, ↓reduceIte] at hx465_0); (try simp only [t2, Nat.reduceMul, Nat.reduceEqDiff, Go.Addr.add, ↓reduceIte] at hx465_1); have qi465 : (2 < t419.length) = True := eq_true (by omega); have hn465_0 : ad465.block ≠ gb464 := Kd.own_blk (Kd.R_away HO422.out (fun _ hk => hk.2)); have hn465_1 : ad465.block ≠ gb464 := Kd.own_blk (Kd.R_away HO422.out (fun _ hk => hk.2)); replace hx465_0 := (cell_far (p := ⟨gb464, 0, none⟩) (an hn465_0) (.int .i64 t460)).trans hx465_0; replace hx465_1 := (cell_far (p := ⟨gb464, 0, none⟩) (an hn465_0) (.int .i64 t460)).trans hx465_1; replace hx465_0 := (cell_far (p := ⟨gb464, 1, none⟩) (an hn465_1) (.int .i64 t461)).trans hx465_0; replace hx465_1 := (cell_far (p := ⟨gb464, 1, none⟩) (an hn465_1) (.int .i64 t461)).trans hx465_1; clear hn465_0; clear hn465_1; replace p465 := eq_true p465; replace q465 := eq_true q465; have p466 : 0 ≤ (3 : Int) := (by omega); have q466 : 3 < (t419.length : Int) := ode; obtain ⟨ad466, e466, hx466_0, hx466_1⟩ := at_T26 (Kd.R_reads' HO422.out).2.2 3 p466 q466; obtain rfl : ad465 = ad466 := (by injection e466); (try simp only [t3, Nat.reduceMul, Nat.reduceEqDiff, Go.Addr.add, ↓reduceIte] at hx466_0); (try simp only [t3, Nat.reduceMul, Nat.reduceEqDiff, Go.Addr.add, ↓reduceIte] at hx466_1); have qi466 : (3 < t419.length) = True := eq_true (by omega); have hn466_0 : ad465.block ≠ gb464 := Kd.own_blk (Kd.R_away HO422.out (fun _ hk => hk.2)); have hn466_1 : ad465.block ≠ gb464 := Kd.own_blk (Kd.R_away HO422.out (fun _ hk => hk.2)); replace hx466_0 := (cell_far (p := ⟨gb464, 0, none⟩) (an hn466_0) (.int .i64 t460)).trans hx466_0; replace hx466_1 := (cell_far (p := ⟨gb464, 0, none⟩) (an hn466_0) (.int .i64 t460)).trans hx466_1; replace hx466_0 := (cell_far (p := ⟨gb464, 1, none⟩) (an hn466_1) (.int .i64 t461)).trans hx466_0; replace hx466_1 := (cell_far (p := ⟨gb464, 1, none⟩) (an hn466_1) (.int .i64 t461)).trans hx466_1; clear hn466_0; clear hn466_1; replace p466 := eq_true p466; replace q466 := eq_true q466; have p467 : 0 ≤ (4 : Int) := (by omega); have q467 : 4 < (t419.length : Int) := ode; obtain ⟨ad467, e467, hx467_0, hx467_1⟩ := at_T26 (Kd.R_reads' HO422.out).2.2 4 p467 q467; obtain rfl : ad465 = ad467 := (by injection e467); (try simp only [t4, Nat.reduceMul, Nat.reduceEqDiff, Go.Addr.add, ↓reduceIte] at hx467_0); (try simp only [t4, Nat.reduceMul, Nat.reduceEqDiff, Go.Addr.add, ↓reduceIte] at hx467_1); have qi467 : (4 < t419.length) = True := eq_true (by omega); have hn467_0 : ad465.block ≠ gb464 := Kd.own_blk (Kd.R_away HO422.out (fun _ hk => hk.2)); have hn467_1 : ad465.block ≠ gb464 := Kd.own_blk (Kd.R_away HO422.out (fun _ hk => hk.2)); replace hx467_0 := (cell_far (p := ⟨gb464, 0, none⟩) (an hn467_0) (.int .i64 t460)).trans hx467_0; replace hx467_1 := (cell_far (p := ⟨gb464, 0, none⟩) (an hn467_0) (.int .i64 t460)).trans hx467_1; replace hx467_0 := (cell_far (p := ⟨gb464, 1, none⟩) (an hn467_1) (.int .i64 t461)).trans hx467_0; replace hx467_1 := (cell_far (p := ⟨gb464, 1, none⟩) (an hn467_1) (.int .i64 t461)).trans hx467_1; clear hn467_0; clear hn467_1; replace p467 := eq_true p467; replace q467 := eq_true q467; have p468 : 0 ≤ (2 : Int) := (by omega); have q468 : 2 < (t432.length : Int) := ode; obtain ⟨ad468, e468, hx468_0, hx468_1⟩ := at_T26 (Kd.R_reads' HO435.out).2.2 2 p468 q468; cases e468; (try simp only [t2, Nat.reduceMul, Nat.reduceEqDiff, Go.Addr.add, ↓reduceIte] at hx468_0); (try simp only [t2, Nat.reduceMul, Nat.reduceEqDiff, Go.Addr.add, ↓reduceIte] at hx468_1); have qi468 : (2 < t432.length) = True := eq_true (by omega); have hn468_0 : ad468.block ≠ gb464 := Kd.own_blk (Kd.R_away HO435.out (fun _ hk => hk.2)); have hn468_1 : ad468.block ≠ gb464 := Kd.own_blk (Kd.R_away HO435.out (fun _ hk => hk.2)); replace hx468_0 := (cell_far (p := ⟨gb464, 0, none⟩) (an hn468_0) (.int .i64 t460)).trans hx468_0; replace hx468_1 := (cell_far (p := ⟨gb464, 0, none⟩) (an hn468_0) (.int .i64 t460)).trans hx468_1; replace hx468_0 := (cell_far (p := ⟨gb464, 1, none⟩) (an hn468_1) (.int .i64 t461)).trans hx468_0; replace hx468_1 := (cell_far (p := ⟨gb464, 1, none⟩) (an hn468_1) (.int .i64 t461)).trans hx468_1; clear hn468_0; clear hn468_1; replace p468 := eq_true p468; replace q468 := eq_true q468; have p469 : 0 ≤ (3 : Int) := (by omega); have q469 : 3 < (t432.length : Int) := ode; obtain ⟨ad469, e469, hx469_0, hx469_1⟩ := at_T26 (Kd.R_reads' HO435.out).2.2 3 p469 q469; obtain rfl : ad468 = ad469 := (by injection e469); (try simp only [t3, Nat.reduceMul, Nat.reduceEqDiff, Go.Addr.add, ↓reduceIte] at hx469_0); (try simp only [t3, Nat.reduceMul, Nat.reduceEqDiff, Go.Addr.add, ↓reduceIte] at hx469_1); have qi469 : (3 < t432.length) = True := eq_true (by omega); have hn469_0 : ad468.block ≠ gb464 := Kd.own_blk (Kd.R_away HO435.out (fun _ hk => hk.2)); have hn469_1 : ad468.block ≠ gb464 := Kd.own_blk (Kd.R_away HO435.out (fun _ hk => hk.2)); replace hx469_0 := (cell_far (p := ⟨gb464, 0, none⟩) (an hn469_0) (.int .i64 t460)).trans hx469_0; replace hx469_1 := (cell_far (p := ⟨gb464, 0, none⟩) (an hn469_0) (.int .i64 t460)).trans hx469_1; replace hx469_0 := (cell_far (p := ⟨gb464, 1, none⟩) (an hn469_1) (.int .i64 t461)).trans hx469_0; replace hx469_1 := (cell_far (p := ⟨gb464, 1, none⟩) (an hn469_1) (.int .i64 t461)).trans hx469_1; clear hn469_0; clear hn469_1; replace p469 := eq_true p469; replace q469 := eq_true q469; have p470 : 0 ≤ (1 : Int) := (by omega); have q470 : 1 < (t445.length : Int) := ode; obtain ⟨ad470, e470, hx470_0, hx470_1⟩ := at_T26 (Kd.R_reads' HO448.out).2.2 1 p470 q470; cases e470; (try simp only [t1, Nat.reduceMul, Nat.reduceEqDiff, Go.Addr.add, ↓reduceIte] at hx470_0); (try simp only [t1, Nat.reduceMul, Nat.reduceEqDiff, Go.Addr.add, ↓reduceIte] at hx470_1); have qi470 : (1 < t445.length) = True := eq_true (by omega); have hn470_0 : ad470.block ≠ gb464 := Kd.own_blk (Kd.R_away HO448.out (fun _ hk => hk.2)); have hn470_1 : ad470.block ≠ gb464 := Kd.own_blk (Kd.R_away HO448.out (fun _ hk => hk.2)); replace hx470_0 := (cell_far (p := ⟨gb464, 0, none⟩) (an hn470_0) (.int .i64 t460)).trans hx470_0; replace hx470_1 := (cell_far (p := ⟨gb464, 0, none⟩) (an hn470_0) (.int .i64 t460)).trans hx470_1; replace hx470_0 := (cell_far (p := ⟨gb464, 1, none⟩) (an hn470_1) (.int .i64 t461)).trans hx470_0; replace hx470_1 := (cell_far (p := ⟨gb464, 1, none⟩) (an hn470_1) (.int .i64 t461)).trans hx470_1; clear hn470_0; clear hn470_1; replace p470 := eq_true p470; replace q470 := eq_true q470; have p471 : 0 ≤ (2 : Int) := (by omega); have q471 : 2 < (t445.length : Int) := ode; obtain ⟨ad471, e471, hx471_0, hx471_1⟩ := at_T26 (Kd.R_reads' HO448.out).2.2 2 p471 q471; obtain rfl : ad470 = ad471 := (by injection e471); (try simp only [t2, Nat.reduceMul, Nat.reduceEqDiff, Go.Addr.add, ↓reduceIte] at hx471_0); (try simp only [t2, Nat.reduceMul, Nat.reduceEqDiff, Go.Addr.add, ↓reduceIte] at hx471_1); have qi471 : (2 < t445.length) = True := eq_true (by omega); have hn471_0 : ad470.block ≠ gb464 := Kd.own_blk (Kd.R_away HO448.out (fun _ hk => hk.2)); have hn471_1 : ad470.block ≠ gb464 := Kd.own_blk (Kd.R_away HO448.out (fun _ hk => hk.2)); replace hx471_0 := (cell_far (p := ⟨gb464, 0, none⟩) (an hn471_0) (.int .i64 t460)).trans hx471_0; replace hx471_1 := (cell_far (p := ⟨gb464, 0, none⟩) (an hn471_0) (.int .i64 t460)).trans hx471_1; replace hx471_0 := (cell_far (p := ⟨gb464, 1, none⟩) (an hn471_1) (.int .i64 t461)).trans hx471_0; replace hx471_1 := (cell_far (p := ⟨gb464, 1, none⟩) (an hn471_1) (.int .i64 t461)).trans hx471_1; clear hn471_0; clear hn471_1; replace p471 := eq_true p471; replace q471 := eq_true q471; have p472 : 0 ≤ (4 : Int) := (by omega); have q472 : 4 < (t445.length : Int) := ode; obtain ⟨ad472, e472, hx472_0, hx472_1⟩ := at_T26 (Kd.R_reads' HO448.out).2.2 4 p472 q472; obtain rfl : ad470 = ad472 := (by injection e472); (try simp only [t4, Nat.reduceMul, Nat.reduceEqDiff, Go.Addr.add, ↓reduceIte] at hx472_0); (try simp only [t4, Nat.reduceMul, Nat.reduceEqDiff, Go.Addr.add, ↓reduceIte] at hx472_1); have qi472 : (4 < t445.length) = True := eq_true (by omega); have hn472_0 : ad470.block ≠ gb464 := Kd.own_blk (Kd.R_away HO448.out (fun _ hk => hk.2)); have hn472_1 : ad470.block ≠ gb464 := Kd.own_blk (Kd.R_away HO448.out (fun _ hk => hk.2)); replace hx472_0 := (cell_far (p := ⟨gb464, 0, none⟩) (an hn472_0) (.int .i64 t460)).trans hx472_0; replace hx472_1 := (cell_far (p := ⟨gb464, 0, none⟩) (an hn472_0) (.int .i64 t460)).trans hx472_1; replace hx472_0 := (cell_far (p := ⟨gb464, 1, none⟩) (an hn472_1) (.int .i64 t461)).trans hx472_0; replace hx472_1 := (cell_far (p := ⟨gb464, 1, none⟩) (an hn472_1) (.int .i64 t461)).trans hx472_1; clear hn472_0; clear hn472_1; replace p472 := eq_true p472; replace q472 := eq_true q472) | (go_at_call 15; (with_reducible refine (timer_Names.calls  t473 _ A34.out).mono ?_); rintro e w78 ⟨v474, rfl, ho0, hb⟩; replace HO412 := am (Kd.R_below (rr ((Kd.R_mono (Kd.R_far (p := ⟨gb464, 1, none⟩) (Kd.R_far (p := ⟨gb464, 0, none⟩) (Kd.R_types HO412.out BK464.out (by decide)) (fun _ hk => hk.2) (.int .i64 t460)) (fun _ hk => hk.2) (.int .i64 t461)) (fun _ h_ => h_.1)))) hb); replace HO415 := am (Kd.R_below (rr ((Kd.R_mono (Kd.R_far (p := ⟨gb464, 1, none⟩) (Kd.R_far (p := ⟨gb464, 0, none⟩) (Kd.R_types HO415.out BK464.out (by decide)) (fun _ hk => hk.2) (.int .i64 t460)) (fun _ hk => hk.2) (.int .i64 t461)) (fun _ h_ => h_.1)))) hb); replace HO418 := am (Kd.S_below (by (with_reducible repeat (first | apply Kd.S_alloc | apply Kd.S_drewN | apply Kd.S_drew)); exact (Kd.S_mono (Kd.S_far (p := ⟨gb464, 1, none⟩) (Kd.S_far (p := ⟨gb464, 0, none⟩) (Kd.S_mono HO418.out (fun k_ hk => (⟨hk, hk.2⟩ : _ ∧ k_ ≠ gb464))) (fun _ hk => hk.2) (.int .i64 t460)) (fun _ hk => hk.2) (.int .i64 t461)) (fun _ h_ => h_.1))) hb); replace HO422 := am (Kd.R_below (by (with_reducible repeat (first | apply Kd.R_alloc | apply Kd.R_drewN | apply Kd.R_drew)); exact (Kd.R_mono (Kd.R_far (p := ⟨gb464, 1, none⟩) (Kd.R_far (p := ⟨gb464, 0, none⟩) (Kd.R_mono HO422.out (fun k_ hk => (⟨hk, hk.2⟩ : _ ∧ k_ ≠ gb464))) (fun _ hk => hk.2) (.int .i64 t460)) (fun _ hk => hk.2) (.int .i64 t461)) (fun _ h_ => h_.1))) hb); replace HO425 := am (Kd.R_below (rr ((Kd.R_mono (Kd.R_far (p := ⟨gb464, 1, none⟩) (Kd.R_far (p := ⟨gb464, 0, none⟩) (Kd.R_types HO425.out BK464.out (by decide)) (fun _ hk => hk.2) (.int .i64 t460)) (fun _ hk => hk.2) (.int .i64 t461)) (fun _ h_ => h_.1)))) hb); replace HO428 := am (Kd.R_below (rr ((Kd.R_mono (Kd.R_far (p := ⟨gb464, 1, none⟩) (Kd.R_far (p := ⟨gb464, 0, none⟩) (Kd.R_types HO428.out BK464.out (by decide)) (fun _ hk => hk.2) (.int .i64 t460)) (fun _ hk => hk.2) (.int .i64 t461)) (fun _ h_ => h_.1)))) hb); replace HO431 := am (Kd.S_below (by (with_reducible repeat (first | apply Kd.S_alloc | apply Kd.S_drewN | apply Kd.S_drew)); exact (Kd.S_mono (Kd.S_far (p := ⟨gb464, 1, none⟩) (Kd.S_far (p := ⟨gb464, 0, none⟩) (Kd.S_mono HO431.out (fun k_ hk => (⟨hk, hk.2⟩ : _ ∧ k_ ≠ gb464))) (fun _ hk => hk.2) (.int .i64 t460)) (fun _ hk => hk.2) (.int .i64 t461)) (fun _ h_ => h_.1))) hb); replace HO435 := am (Kd.R_below (by (with_reducible repeat (first | apply Kd.R_alloc | apply Kd.R_drewN | apply Kd.R_drew)); exact (Kd.R_mono (Kd.R_far (p := ⟨gb464, 1, none⟩) (Kd.R_far (p := ⟨gb464, 0, none⟩) (Kd.R_mono HO435.out (fun k_ hk => (⟨hk, hk.2⟩ : _ ∧ k_ ≠ gb464))) (fun _ hk => hk.2) (.int .i64 t460)) (fun _ hk => hk.2) (.int .i64 t461)) (fun _ h_ => h_.1))) hb); replace HO438 := am (Kd.R_below (rr ((Kd.R_mono (Kd.R_far (p := ⟨gb464, 1, none⟩) (Kd.R_far (p := ⟨gb464, 0, none⟩) (Kd.R_types HO438.out BK464.out (by decide)) (fun _ hk => hk.2) (.int .i64 t460)) (fun _ hk => hk.2) (.int .i64 t461)) (fun _ h_ => h_.1)))) hb); replace HO441 := am (Kd.R_below (rr ((Kd.R_mono (Kd.R_far (p := ⟨gb464, 1, none⟩) (Kd.R_far (p := ⟨gb464, 0, none⟩) (Kd.R_types HO441.out BK464.out (by decide)) (fun _ hk => hk.2) (.int .i64 t460)) (fun _ hk => hk.2) (.int .i64 t461)) (fun _ h_ => h_.1)))) hb); replace HO444 := am (Kd.S_below (by (with_reducible repeat (first | apply Kd.S_alloc | apply Kd.S_drewN | apply Kd.S_drew)); exact (Kd.S_mono (Kd.S_far (p := ⟨gb464, 1, none⟩) (Kd.S_far (p := ⟨gb464, 0, none⟩) (Kd.S_mono HO444.out (fun k_ hk => (⟨hk, hk.2⟩ : _ ∧ k_ ≠ gb464))) (fun _ hk => hk.2) (.int .i64 t460)) (fun _ hk => hk.2) (.int .i64 t461)) (fun _ h_ => h_.1))) hb); replace HO448 := am (Kd.R_below (by (with_reducible repeat (first | apply Kd.R_alloc | apply Kd.R_drewN | apply Kd.R_drew)); exact (Kd.R_mono (Kd.R_far (p := ⟨gb464, 1, none⟩) (Kd.R_far (p := ⟨gb464, 0, none⟩) (Kd.R_mono HO448.out (fun k_ hk => (⟨hk, hk.2⟩ : _ ∧ k_ ≠ gb464))) (fun _ hk => hk.2) (.int .i64 t460)) (fun _ hk => hk.2) (.int .i64 t461)) (fun _ h_ => h_.1))) hb); replace HO451 := am (Kd.R_below (rr ((Kd.R_mono (Kd.R_far (p := ⟨gb464, 1, none⟩) (Kd.R_far (p := ⟨gb464, 0, none⟩) (Kd.R_types HO451.out BK464.out (by decide)) (fun _ hk => hk.2) (.int .i64 t460)) (fun _ hk => hk.2) (.int .i64 t461)) (fun _ h_ => h_.1)))) hb); replace HO454 := am (Kd.R_below (rr ((Kd.R_mono (Kd.R_far (p := ⟨gb464, 1, none⟩) (Kd.R_far (p := ⟨gb464, 0, none⟩) (Kd.R_types HO454.out BK464.out (by decide)) (fun _ hk => hk.2) (.int .i64 t460)) (fun _ hk => hk.2) (.int .i64 t461)) (fun _ h_ => h_.1)))) hb); replace HO459 := am (Kd.R_below (by (with_reducible repeat (first | apply Kd.R_alloc | apply Kd.R_drewN | apply Kd.R_drew)); exact (Kd.R_mono (Kd.R_far (p := ⟨gb464, 1, none⟩) (Kd.R_far (p := ⟨gb464, 0, none⟩) (Kd.R_mono HO459.out (fun k_ hk => (⟨hk, hk.2⟩ : _ ∧ k_ ≠ gb464))) (fun _ hk => hk.2) (.int .i64 t460)) (fun _ hk => hk.2) (.int .i64 t461)) (fun _ h_ => h_.1))) hb); have HO475 := am (Kd.R_lower ho0 (below_size (bs1 GE464.out))); replace BK464 := am (blk_below (g := gb464) (o := .cells #[.int .i64 t460, .int .i64 t461] 26 (0, 0)) (by refine rb ?_; refine blk_put (cs := #[.int .i64 t460, .int .i64 0]) ?_ 1 _ rfl; refine rb ?_; refine blk_put (cs := #[.int .i64 0, .int .i64 0]) ?_ 0 _ rfl; exact rb BK464.out) hb); replace HB := am (below_step (bs1 GE464.out) hb); (try clear hb); (try clear hb2); (try clear hk); (try clear hi); (try clear ho0); obtain ⟨Ao79, co79, eo79⟩ := Kd.R_slice HO475.out; subst eo79))
 go_ret
 exact ⟨ew, bs1 GE464.out⟩
end Go.Proofs.YtjjbdgngncgikaaGreatDoor.R
