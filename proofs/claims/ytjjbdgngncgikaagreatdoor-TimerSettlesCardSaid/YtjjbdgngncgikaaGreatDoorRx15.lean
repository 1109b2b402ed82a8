import Derived.Test.YtjjbdgngncgikaaGreatDoorRx0
import Derived.Test.YtjjbdgngncgikaaGreatDoorRx13
import Derived.Test.YtjjbdgngncgikaaGreatDoorRx14
namespace Go.Proofs.YtjjbdgngncgikaaGreatDoor.R
open Go.RowKit Go.Proofs.YtjjbdgngncgikaaGreatDoorW.PrintWords Go.Proofs.YtjjbdgngncgikaaGreatDoorW.PrintLast Go.Proofs.YtjjbdgngncgikaaGreatDoorW.PrintMore
attribute [local go_sem] max2_int min2_int max_two min_two max_three min_three max_four min_four
set_option linter.unusedVariables false
set_option linter.unusedSimpArgs false

mutual
def plenumref19_step.j0 : Nat → Int → Bool → Option (List Int × Int × Int)
 | 0, _, _ => none
 | k + 1, x12, x37 => if x37 = true then ((plenumref19_binary.f 1).bind fun bt529 => (some ((([1] : List Int)), bt529.1, bt529.2))) else ((plenumref19_binary.f 0).bind fun bt534 => (some ((([x12] : List Int)), bt534.1, bt534.2)))
def plenumref19_step.j1 : Nat → List Int → Int → Option (List Int × Int × Int)
 | 0, _, _ => none
 | k + 1, x1, x17 => if 0 < (x1.length : Int) then (if x17 = (rd x1 0) then ((plenumref19_binary.f 1).bind fun bt601 => (some ((([wrap64 (x17 + 1)] : List Int)), bt601.1, bt601.2))) else ((plenumref19_binary.f 0).bind fun bt606 => (some ((([wrap64 (x17 + 1)] : List Int)), bt606.1, bt606.2)))) else (none)
def plenumref19_step.j2 : Nat → List Int → List Int → Int → Option (List Int × Int × Int)
 | 0, _, _, _ => none
 | k + 1, x1, x2, x18 => if 0 < (x2.length : Int) then (if (rd x2 0) = 0 then (plenumref19_step.j3 k x18 true) else (if 0 < (x1.length : Int) then (plenumref19_step.j3 k x18 (decide (x18 ≥ (rd x1 0)))) else (none))) else (none)
def plenumref19_step.j3 : Nat → Int → Bool → Option (List Int × Int × Int)
 | 0, _, _ => none
 | k + 1, x18, x167 => if x167 = true then ((plenumref19_binary.f 0).bind fun bt620 => (some ((([0] : List Int)), bt620.1, bt620.2))) else ((plenumref19_binary.f 1).bind fun bt625 => (some ((([wrap64 (x18 + 1)] : List Int)), bt625.1, bt625.2)))
def plenumref19_step.j4 : Nat → List Int → List Int → Int → Int → Int → Bool → Option (List Int × Int × Int)
 | 0, _, _, _, _, _, _ => none
 | k + 1, x1, x2, x12, x13, x19, x186 => if x186 = true then (plenumref19_step.j5 k x1 x12 0) else (if 1 < (x2.length : Int) then (if (rd x2 1) > 0 then (plenumref19_step.j5 k x1 x12 (wrap64 ((wrap64 ((rd x2 1) - 1)) + x13))) else (plenumref19_step.j5 k x1 x12 x19)) else (none))
def plenumref19_step.j5 : Nat → List Int → Int → Int → Option (List Int × Int × Int)
 | 0, _, _, _ => none
 | k + 1, x1, x12, x19 => if 0 < (x1.length : Int) then (if x19 < (rd x1 0) then ((plenumref19_binary.f 1).bind fun bt635 => (some ((([x12, wrap64 (x19 + 1)] : List Int)), bt635.1, bt635.2))) else ((plenumref19_binary.f 0).bind fun bt640 => (some ((([x12, 0] : List Int)), bt640.1, bt640.2)))) else (none)
def plenumref19_step.j6 : Nat → List Int → List Int → Int → Int → Bool → Option (List Int × Int × Int)
 | 0, _, _, _, _, _ => none
 | k + 1, x1, x2, x12, x20, x21 => if 0 < (x2.length : Int) then (if x12 = (rd x2 0) then (plenumref19_step.j7 k x1 x2 x12 x20 x21 true) else (plenumref19_step.j7 k x1 x2 x12 x20 x21 x21)) else (none)
def plenumref19_step.j7 : Nat → List Int → List Int → Int → Int → Bool → Bool → Option (List Int × Int × Int)
 | 0, _, _, _, _, _, _ => none
 | k + 1, x1, x2, x12, x20, x21, x236 => if x236 = true then (if x21 = true then (if 0 < (x2.length : Int) then ((plenumref19_binary.f (rd x2 0)).bind fun bt652 => (some ((([rd x2 0, wrap64 (x20 + 1)] : List Int)), bt652.1, bt652.2))) else (none)) else (if 0 < (x2.length : Int) then ((plenumref19_binary.f (rd x2 0)).bind fun bt659 => (some ((([rd x2 0, 0] : List Int)), bt659.1, bt659.2))) else (none))) else ((plenumref19_least.f x1 x12).bind fun t661 => (if t661 = 0 then ((plenumref19_binary.f x12).bind fun bt665 => (some ((([x12, 0] : List Int)), bt665.1, bt665.2))) else ((plenumref19_binary.f x12).bind fun bt670 => (some ((([x12, 1] : List Int)), bt670.1, bt670.2)))))
end
def plenumref19_step.f (k : Nat) (a0 : ByteArray) (l1 : List Int) (l2 : List Int) (l3 : List (S26)) (a4 : Int) : Option (List Int × Int × Int) := if 0 < (l3.length : Int) then (if a0.toList = ([101, 100, 103, 101] : List UInt8) then (if ((rd_T26 l3 0).f1) = 1 then (if 0 < (l2.length : Int) then (plenumref19_step.j0 k ((rd_T26 l3 0).f1) ((rd l2 0) == 0)) else (none)) else (plenumref19_step.j0 k ((rd_T26 l3 0).f1) false)) else (if a0.toList = ([108, 97, 116, 99, 104] : List UInt8) then (if 0 < (l2.length : Int) then (if 1 < (l3.length : Int) then (if ((rd_T26 l3 1).f1) = 1 then ((plenumref19_binary.f 0).bind fun bt541 => (some ((([0] : List Int)), bt541.1, bt541.2))) else (if ((rd_T26 l3 0).f1) = 1 then ((plenumref19_binary.f 1).bind fun bt546 => (some ((([1] : List Int)), bt546.1, bt546.2))) else ((plenumref19_binary.f (rd l2 0)).bind fun bt551 => (some ((([rd l2 0] : List Int)), bt551.1, bt551.2))))) else (none)) else (none)) else (if a0.toList = ([99, 111, 117, 110, 116] : List UInt8) then (if 1 < (l2.length : Int) then (if 1 < (l3.length : Int) then (if ((rd_T26 l3 1).f1) = 1 then (some ((([(rd_T26 l3 0).f1, 0] : List Int)), 1, 1000 * 0)) else (if ((rd_T26 l3 0).f1) = 1 then (if 0 < (l2.length : Int) then (if (rd l2 0) = 0 then (if (rd l2 1) < 1000000000 then (some ((([(rd_T26 l3 0).f1, wrap64 ((rd l2 1) + 1)] : List Int)), 1, wrap64 (1000 * (wrap64 ((rd l2 1) + 1))))) else (some ((([(rd_T26 l3 0).f1, rd l2 1] : List Int)), 1, wrap64 (1000 * (rd l2 1))))) else (some ((([(rd_T26 l3 0).f1, rd l2 1] : List Int)), 1, wrap64 (1000 * (rd l2 1))))) else (none)) else (some ((([(rd_T26 l3 0).f1, rd l2 1] : List Int)), 1, wrap64 (1000 * (rd l2 1)))))) else (none)) else (none)) else (if a0.toList = ([104, 121, 115, 116] : List UInt8) then (if 0 < (l2.length : Int) then (if 0 < (l1.length : Int) then (if ((rd_T26 l3 0).f1) > (rd l1 0) then ((plenumref19_binary.f 1).bind fun bt576 => (some ((([1] : List Int)), bt576.1, bt576.2))) else (if 1 < (l1.length : Int) then (if ((rd_T26 l3 0).f1) < (rd l1 1) then ((plenumref19_binary.f 0).bind fun bt582 => (some ((([0] : List Int)), bt582.1, bt582.2))) else ((plenumref19_binary.f (rd l2 0)).bind fun bt587 => (some ((([rd l2 0] : List Int)), bt587.1, bt587.2)))) else (none))) else (none)) else (none)) else (if a0.toList = ([111, 110, 100, 101, 108, 97, 121] : List UInt8) then (if ((rd_T26 l3 0).f1) = 0 then ((plenumref19_binary.f 0).bind fun bt592 => (some ((([0] : List Int)), bt592.1, bt592.2))) else (if 0 < (l2.length : Int) then (if (rd l2 0) > 0 then (if 0 < (l1.length : Int) then (plenumref19_step.j1 k l1 (mn (wrap64 ((wrap64 ((rd l2 0) - 1)) + a4)) (rd l1 0))) else (none)) else (plenumref19_step.j1 k l1 0)) else (none))) else (if a0.toList = ([111, 102, 102, 100, 101, 108, 97, 121] : List UInt8) then (if ((rd_T26 l3 0).f1) = 1 then ((plenumref19_binary.f 1).bind fun bt611 => (some ((([(-1)] : List Int)), bt611.1, bt611.2))) else (if 0 < (l2.length : Int) then (if (rd l2 0) > 0 then (plenumref19_step.j2 k l1 l2 (wrap64 ((wrap64 ((rd l2 0) - 1)) + a4))) else (plenumref19_step.j2 k l1 l2 0)) else (none))) else (if a0.toList = ([112, 117, 108, 115, 101] : List UInt8) then (if 0 < (l1.length : Int) then (if ((rd_T26 l3 0).f1) = 1 then (if 0 < (l2.length : Int) then (plenumref19_step.j4 k l1 l2 ((rd_T26 l3 0).f1) a4 (rd l1 0) ((rd l2 0) == 0)) else (none)) else (plenumref19_step.j4 k l1 l2 ((rd_T26 l3 0).f1) a4 (rd l1 0) false)) else (none)) else (if 1 < (l2.length : Int) then (if (rd l2 1) > 0 then (if 0 < (l2.length : Int) then ((plenumref19_least.f l1 (rd l2 0)).bind fun t645 => (plenumref19_step.j6 k l1 l2 ((rd_T26 l3 0).f1) (wrap64 ((wrap64 ((rd l2 1) - 1)) + a4)) (decide ((wrap64 ((wrap64 ((rd l2 1) - 1)) + a4)) < t645)))) else (none)) else (plenumref19_step.j6 k l1 l2 ((rd_T26 l3 0).f1) (wrap64 ((wrap64 ((rd l2 1) - 1)) + a4)) false)) else (none))))))))) else (none)
theorem plenumref19_step.mono_l : ∀ k, (∀ y0 y1, LeO (plenumref19_step.j0 k y0 y1) (plenumref19_step.j0 (k + 1) y0 y1)) ∧ (∀ y0 y1, LeO (plenumref19_step.j1 k y0 y1) (plenumref19_step.j1 (k + 1) y0 y1)) ∧ (∀ y0 y1 y2, LeO (plenumref19_step.j2 k y0 y1 y2) (plenumref19_step.j2 (k + 1) y0 y1 y2)) ∧ (∀ y0 y1, LeO (plenumref19_step.j3 k y0 y1) (plenumref19_step.j3 (k + 1) y0 y1)) ∧ (∀ y0 y1 y2 y3 y4 y5, LeO (plenumref19_step.j4 k y0 y1 y2 y3 y4 y5) (plenumref19_step.j4 (k + 1) y0 y1 y2 y3 y4 y5)) ∧ (∀ y0 y1 y2, LeO (plenumref19_step.j5 k y0 y1 y2) (plenumref19_step.j5 (k + 1) y0 y1 y2)) ∧ (∀ y0 y1 y2 y3 y4, LeO (plenumref19_step.j6 k y0 y1 y2 y3 y4) (plenumref19_step.j6 (k + 1) y0 y1 y2 y3 y4)) ∧ (∀ y0 y1 y2 y3 y4 y5, LeO (plenumref19_step.j7 k y0 y1 y2 y3 y4 y5) (plenumref19_step.j7 (k + 1) y0 y1 y2 y3 y4 y5))
 | 0 => ⟨fun _ _ r h => by simp [plenumref19_step.j0] at h, fun _ _ r h => by simp [plenumref19_step.j1] at h, fun _ _ _ r h => by simp [plenumref19_step.j2] at h, fun _ _ r h => by simp [plenumref19_step.j3] at h, fun _ _ _ _ _ _ r h => by simp [plenumref19_step.j4] at h, fun _ _ _ r h => by simp [plenumref19_step.j5] at h, fun _ _ _ _ _ r h => by simp [plenumref19_step.j6] at h, fun _ _ _ _ _ _ r h => by simp [plenumref19_step.j7] at h⟩
 | k + 1 => by
  obtain ⟨ih0, ih1, ih2, ih3, ih4, ih5, ih6, ih7⟩ := plenumref19_step.mono_l k
  refine ⟨?_, ?_, ?_, ?_, ?_, ?_, ?_, ?_⟩
  ·
   intro y0 y1
   unfold plenumref19_step.j0
   repeat' first
   | (with_reducible exact ih0 _ _)
   | (with_reducible exact ih1 _ _)
   | (with_reducible exact ih2 _ _ _)
   | (with_reducible exact ih3 _ _)
   | (with_reducible exact ih4 _ _ _ _ _ _)
   | (with_reducible exact ih5 _ _ _)
   | (with_reducible exact ih6 _ _ _ _ _)
   | (with_reducible exact ih7 _ _ _ _ _ _)
   | (with_reducible exact LeO.refl _)
   | (with_reducible exact LeO.none _)
   | (with_reducible refine LeO.ite ?_ ?_)
   | (with_reducible refine LeO.bind ?_ (fun _ => ?_))
   | exact LeO.none _
   | refine LeO.ite ?_ ?_
   | refine LeO.bind ?_ (fun _ => ?_)
  ·
   intro y0 y1
   unfold plenumref19_step.j1
   repeat' first
   | (with_reducible exact ih0 _ _)
   | (with_reducible exact ih1 _ _)
   | (with_reducible exact ih2 _ _ _)
   | (with_reducible exact ih3 _ _)
   | (with_reducible exact ih4 _ _ _ _ _ _)
   | (with_reducible exact ih5 _ _ _)
   | (with_reducible exact ih6 _ _ _ _ _)
   | (with_reducible exact ih7 _ _ _ _ _ _)
   | (with_reducible exact LeO.refl _)
   | (with_reducible exact LeO.none _)
   | (with_reducible refine LeO.ite ?_ ?_)
   | (with_reducible refine LeO.bind ?_ (fun _ => ?_))
   | exact LeO.none _
   | refine LeO.ite ?_ ?_
   | refine LeO.bind ?_ (fun _ => ?_)
  ·
   intro y0 y1 y2
   unfold plenumref19_step.j2
   repeat' first
   | (with_reducible exact ih0 _ _)
   | (with_reducible exact ih1 _ _)
   | (with_reducible exact ih2 _ _ _)
   | (with_reducible exact ih3 _ _)
   | (with_reducible exact ih4 _ _ _ _ _ _)
   | (with_reducible exact ih5 _ _ _)
   | (with_reducible exact ih6 _ _ _ _ _)
   | (with_reducible exact ih7 _ _ _ _ _ _)
   | (with_reducible exact LeO.refl _)
   | (with_reducible exact LeO.none _)
   | (with_reducible refine LeO.ite ?_ ?_)
   | (with_reducible refine LeO.bind ?_ (fun _ => ?_))
   | exact LeO.none _
   | refine LeO.ite ?_ ?_
   | refine LeO.bind ?_ (fun _ => ?_)
  ·
   intro y0 y1
   unfold plenumref19_step.j3
   repeat' first
   | (with_reducible exact ih0 _ _)
   | (with_reducible exact ih1 _ _)
   | (with_reducible exact ih2 _ _ _)
   | (with_reducible exact ih3 _ _)
   | (with_reducible exact ih4 _ _ _ _ _ _)
   | (with_reducible exact ih5 _ _ _)
   | (with_reducible exact ih6 _ _ _ _ _)
   | (with_reducible exact ih7 _ _ _ _ _ _)
   | (with_reducible exact LeO.refl _)
   | (with_reducible exact LeO.none _)
   | (with_reducible refine LeO.ite ?_ ?_)
   | (with_reducible refine LeO.bind ?_ (fun _ => ?_))
   | exact LeO.none _
   | refine LeO.ite ?_ ?_
   | refine LeO.bind ?_ (fun _ => ?_)
  ·
   intro y0 y1 y2 y3 y4 y5
   unfold plenumref19_step.j4
   repeat' first
   | (with_reducible exact ih0 _ _)
   | (with_reducible exact ih1 _ _)
   | (with_reducible exact ih2 _ _ _)
   | (with_reducible exact ih3 _ _)
   | (with_reducible exact ih4 _ _ _ _ _ _)
   | (with_reducible exact ih5 _ _ _)
   | (with_reducible exact ih6 _ _ _ _ _)
   | (with_reducible exact ih7 _ _ _ _ _ _)
   | (with_reducible exact LeO.refl _)
   | (with_reducible exact LeO.none _)
   | (with_reducible refine LeO.ite ?_ ?_)
   | (with_reducible refine LeO.bind ?_ (fun _ => ?_))
   | exact LeO.none _
   | refine LeO.ite ?_ ?_
   | refine LeO.bind ?_ (fun _ => ?_)
  ·
   intro y0 y1 y2
   unfold plenumref19_step.j5
   repeat' first
   | (with_reducible exact ih0 _ _)
   | (with_reducible exact ih1 _ _)
   | (with_reducible exact ih2 _ _ _)
   | (with_reducible exact ih3 _ _)
   | (with_reducible exact ih4 _ _ _ _ _ _)
   | (with_reducible exact ih5 _ _ _)
   | (with_reducible exact ih6 _ _ _ _ _)
   | (with_reducible exact ih7 _ _ _ _ _ _)
   | (with_reducible exact LeO.refl _)
   | (with_reducible exact LeO.none _)
   | (with_reducible refine LeO.ite ?_ ?_)
   | (with_reducible refine LeO.bind ?_ (fun _ => ?_))
   | exact LeO.none _
   | refine LeO.ite ?_ ?_
   | refine LeO.bind ?_ (fun _ => ?_)
  ·
   intro y0 y1 y2 y3 y4
   unfold plenumref19_step.j6
   repeat' first
   | (with_reducible exact ih0 _ _)
   | (with_reducible exact ih1 _ _)
   | (with_reducible exact ih2 _ _ _)
   | (with_reducible exact ih3 _ _)
   | (with_reducible exact ih4 _ _ _ _ _ _)
   | (with_reducible exact ih5 _ _ _)
   | (with_reducible exact ih6 _ _ _ _ _)
   | (with_reducible exact ih7 _ _ _ _ _ _)
   | (with_reducible exact LeO.refl _)
   | (with_reducible exact LeO.none _)
   | (with_reducible refine LeO.ite ?_ ?_)
   | (with_reducible refine LeO.bind ?_ (fun _ => ?_))
   | exact LeO.none _
   | refine LeO.ite ?_ ?_
   | refine LeO.bind ?_ (fun _ => ?_)
  ·
   intro y0 y1 y2 y3 y4 y5
   unfold plenumref19_step.j7
   repeat' first
   | (with_reducible exact ih0 _ _)
   | (with_reducible exact ih1 _ _)
   | (with_reducible exact ih2 _ _ _)
   | (with_reducible exact ih3 _ _)
   | (with_reducible exact ih4 _ _ _ _ _ _)
   | (with_reducible exact ih5 _ _ _)
   | (with_reducible exact ih6 _ _ _ _ _)
   | (with_reducible exact ih7 _ _ _ _ _ _)
   | (with_reducible exact LeO.refl _)
   | (with_reducible exact LeO.none _)
   | (with_reducible refine LeO.ite ?_ ?_)
   | (with_reducible refine LeO.bind ?_ (fun _ => ?_))
   | exact LeO.none _
   | refine LeO.ite ?_ ?_
   | refine LeO.bind ?_ (fun _ => ?_)
theorem plenumref19_step.mono : ∀ a0 a1 a2 a3 a4 k, LeO (plenumref19_step.f k a0 a1 a2 a3 a4) (plenumref19_step.f (k + 1) a0 a1 a2 a3 a4) := by
 intro a0 a1 a2 a3 a4 k
 obtain ⟨ih0, ih1, ih2, ih3, ih4, ih5, ih6, ih7⟩ := plenumref19_step.mono_l k
 unfold plenumref19_step.f
 repeat' first
   | (with_reducible exact ih0 _ _)
   | (with_reducible exact ih1 _ _)
   | (with_reducible exact ih2 _ _ _)
   | (with_reducible exact ih3 _ _)
   | (with_reducible exact ih4 _ _ _ _ _ _)
   | (with_reducible exact ih5 _ _ _)
   | (with_reducible exact ih6 _ _ _ _ _)
   | (with_reducible exact ih7 _ _ _ _ _ _)
   | (with_reducible exact LeO.refl _)
   | (with_reducible exact LeO.none _)
   | (with_reducible refine LeO.ite ?_ ?_)
   | (with_reducible refine LeO.bind ?_ (fun _ => ?_))
   | exact LeO.none _
   | refine LeO.ite ?_ ?_
   | refine LeO.bind ?_ (fun _ => ?_)
def plenumref19_step.T34 : Bool × List (List Nat × List Nat) := (true, [([], []), ([0], [0]), ([1], [1]), ([2], [2]), ([], []), ([3, 4], [3, 4]), ([], []), ([6], [6]), ([7], [7]), ([5, 8], [5, 8]), ([9, 0, 1, 2, 3, 4, 5, 6, 7, 8, 9], [9])])
def plenumref19_step.B34 : List Nat := [0, 1, 3, 7, 0, 31, 0, 64, 192, 511, 1023]
theorem plenumref19_step.tab34 : rtab .any (opsOf Tryz.f21 34) = plenumref19_step.T34 := by kernel_rfl
theorem plenumref19_step.bits34 : waitsOk plenumref19_step.T34.2 plenumref19_step.B34 = true := by kernel_rfl
def plenumref19_step.T60 : Bool × List (List Nat × List Nat) := (true, [([], []), ([0], [0]), ([1], [1]), ([], []), ([3], [3]), ([2, 4], [2, 4]), ([], []), ([6], [6]), ([7], [7]), ([8], [8]), ([5, 9, 0, 1, 2, 3, 4, 5], [5]), ([9, 10, 0, 1, 2, 3, 4, 5, 6, 7, 8, 9, 10], [9])])
def plenumref19_step.B60 : List Nat := [0, 1, 3, 0, 8, 31, 0, 64, 192, 448, 1023, 2047]
theorem plenumref19_step.tab60 : rtab .any (opsOf Tryz.f21 60) = plenumref19_step.T60 := by kernel_rfl
theorem plenumref19_step.bits60 : waitsOk plenumref19_step.T60.2 plenumref19_step.B60 = true := by kernel_rfl
def plenumref19_step.T61 : Bool × List (List Nat × List Nat) := (true, [([], []), ([0], [0]), ([1], [1]), ([2], [2]), ([], []), ([4], [4]), ([5], [5]), ([6], [6]), ([3, 7, 0, 1, 2, 3], [3]), ([7, 8, 0, 1, 2, 3, 4, 5, 6, 7, 8], [7])])
def plenumref19_step.B61 : List Nat := [0, 1, 3, 7, 0, 16, 48, 112, 255, 511]
theorem plenumref19_step.tab61 : rtab .any (opsOf Tryz.f21 61) = plenumref19_step.T61 := by kernel_rfl
theorem plenumref19_step.bits61 : waitsOk plenumref19_step.T61.2 plenumref19_step.B61 = true := by kernel_rfl
set_option maxHeartbeats 8000000 in
set_option maxRecDepth 100000 in
theorem plenumref19_step.calls (k : Nat) (a0 : ByteArray) (A1 : Option Addr) (c1 : Nat) (l1 : List Int) (A2 : Option Addr) (c2 : Nat) (l2 : List Int) (A3 : Option Addr) (c3 : Nat) (l3 : List (S26)) (a4 : Int) (r1 : List Int) (r2 : Int) (r3 : Int) (w : World) (hr1 : Kd.C (Kd.int .i64) w A1 l1.length l1) (hc1 : l1.length ≤ c1) (hr2 : Kd.C (Kd.int .i64) w A2 l2.length l2) (hc2 : l2.length ≤ c2) (hr3 : Kd.C k26 w A3 l3.length l3) (hc3 : l3.length ≤ c3) (h : plenumref19_step.f k a0 l1 l2 l3 a4 = some (r1, r2, r3)) :
  Calls Tryz.prog 21 #[.string a0, .slice A1 l1.length c1, .slice A2 l2.length c2, .slice A3 l3.length c3, .int .i64 a4] w fun e w' => ∃ v0_ : Value, e = .returned (.tuple #[v0_, .agg #[.int .i64 r2, .int .i64 r3]]) ∧ Kd.R (Kd.int .i64) 2 w' w.heap.size (fun _ => True) v0_ r1 ∧ Below w.heap.size w w' := by
 have hu26 := Tryz.underlying26
 have HR1 := am hr1
 have HC1 := am hc1
 clear hr1 hc1
 have HR2 := am hr2
 have HC2 := am hc2
 clear hr2 hc2
 have HR3 := am hr3
 have HC3 := am hc3
 clear hr3 hc3
 have HB := am (Below.refl w.heap.size w)
 have H : (if 0 < (l3.length : Int) then (if a0.toList = ([101, 100, 103, 101] : List UInt8) then (if ((rd_T26 l3 0).f1) = 1 then (if 0 < (l2.length : Int) then (plenumref19_step.j0 k ((rd_T26 l3 0).f1) ((rd l2 0) == 0)) else (none)) else (plenumref19_step.j0 k ((rd_T26 l3 0).f1) false)) else (if a0.toList = ([108, 97, 116, 99, 104] : List UInt8) then (if 0 < (l2.length : Int) then (if 1 < (l3.length : Int) then (if ((rd_T26 l3 1).f1) = 1 then ((plenumref19_binary.f 0).bind fun bt541 => (some ((([0] : List Int)), bt541.1, bt541.2))) else (if ((rd_T26 l3 0).f1) = 1 then ((plenumref19_binary.f 1).bind fun bt546 => (some ((([1] : List Int)), bt546.1, bt546.2))) else ((plenumref19_binary.f (rd l2 0)).bind fun bt551 => (some ((([rd l2 0] : List Int)), bt551.1, bt551.2))))) else (none)) else (none)) else (if a0.toList = ([99, 111, 117, 110, 116] : List UInt8) then (if 1 < (l2.length : Int) then (if 1 < (l3.length : Int) then (if ((rd_T26 l3 1).f1) = 1 then (some ((([(rd_T26 l3 0).f1, 0] : List Int)), 1, 1000 * 0)) else (if ((rd_T26 l3 0).f1) = 1 then (if 0 < (l2.length : Int) then (if (rd l2 0) = 0 then (if (rd l2 1) < 1000000000 then (some ((([(rd_T26 l3 0).f1, wrap64 ((rd l2 1) + 1)] : List Int)), 1, wrap64 (1000 * (wrap64 ((rd l2 1) + 1))))) else (some ((([(rd_T26 l3 0).f1, rd l2 1] : List Int)), 1, wrap64 (1000 * (rd l2 1))))) else (some ((([(rd_T26 l3 0).f1, rd l2 1] : List Int)), 1, wrap64 (1000 * (rd l2 1))))) else (none)) else (some ((([(rd_T26 l3 0).f1, rd l2 1] : List Int)), 1, wrap64 (1000 * (rd l2 1)))))) else (none)) else (none)) else (if a0.toList = ([104, 121, 115, 116] : List UInt8) then (if 0 < (l2.length : Int) then (if 0 < (l1.length : Int) then (if ((rd_T26 l3 0).f1) > (rd l1 0) then ((plenumref19_binary.f 1).bind fun bt576 => (some ((([1] : List Int)), bt576.1, bt576.2))) else (if 1 < (l1.length : Int) then (if ((rd_T26 l3 0).f1) < (rd l1 1) then ((plenumref19_binary.f 0).bind fun bt582 => (some ((([0] : List Int)), bt582.1, bt582.2))) else ((plenumref19_binary.f (rd l2 0)).bind fun bt587 => (some ((([rd l2 0] : List Int)), bt587.1, bt587.2)))) else (none))) else (none)) else (none)) else (if a0.toList = ([111, 110, 100, 101, 108, 97, 121] : List UInt8) then (if ((rd_T26 l3 0).f1) = 0 then ((plenumref19_binary.f 0).bind fun bt592 => (some ((([0] : List Int)), bt592.1, bt592.2))) else (if 0 < (l2.length : Int) then (if (rd l2 0) > 0 then (if 0 < (l1.length : Int) then (plenumref19_step.j1 k l1 (mn (wrap64 ((wrap64 ((rd l2 0) - 1)) + a4)) (rd l1 0))) else (none)) else (plenumref19_step.j1 k l1 0)) else (none))) else (if a0.toList = ([111, 102, 102, 100, 101, 108, 97, 121] : List UInt8) then (if ((rd_T26 l3 0).f1) = 1 then ((plenumref19_binary.f 1).bind fun bt611 => (some ((([(-1)] : List Int)), bt611.1, bt611.2))) else (if 0 < (l2.length : Int) then (if (rd l2 0) > 0 then (plenumref19_step.j2 k l1 l2 (wrap64 ((wrap64 ((rd l2 0) - 1)) + a4))) else (plenumref19_step.j2 k l1 l2 0)) else (none))) else (if a0.toList = ([112, 117, 108, 115, 101] : List UInt8) then (if 0 < (l1.length : Int) then (if ((rd_T26 l3 0).f1) = 1 then (if 0 < (l2.length : Int) then (plenumref19_step.j4 k l1 l2 ((rd_T26 l3 0).f1) a4 (rd l1 0) ((rd l2 0) == 0)) else (none)) else (plenumref19_step.j4 k l1 l2 ((rd_T26 l3 0).f1) a4 (rd l1 0) false)) else (none)) else (if 1 < (l2.length : Int) then (if (rd l2 1) > 0 then (if 0 < (l2.length : Int) then ((plenumref19_least.f l1 (rd l2 0)).bind fun t645 => (plenumref19_step.j6 k l1 l2 ((rd_T26 l3 0).f1) (wrap64 ((wrap64 ((rd l2 1) - 1)) + a4)) (decide ((wrap64 ((wrap64 ((rd l2 1) - 1)) + a4)) < t645)))) else (none)) else (plenumref19_step.j6 k l1 l2 ((rd_T26 l3 0).f1) (wrap64 ((wrap64 ((rd l2 1) - 1)) + a4)) false)) else (none))))))))) else (none)) = some (r1, r2, r3) := h
 clear h
 have c6 := oi H; rw [if_pos c6] at H
 have c6b0 := decide_eq_true c6
 have c6b1 : decide (0 < l3.length) = true := decide_eq_true (by omega)
 clear c6
 by_cases c7 : a0.toList = ([101, 100, 103, 101] : List UInt8)
 ·
  rw [if_pos c7] at H
  have c7b0 := beq_iff_eq.mpr c7
  have c7b1 := bne_eq_false_iff_eq.mpr c7
  clear c7
  have HC8 := am H
  clear H
  go_enter Tryz.func21, Tryz.ntmps21
  go_upto_region 5 with (first | ((refine gate_dst (N := 11) rfl ?_); refine bx (N := 11) (cs := #[.int .i64 0, .int .i64 0]) (t := 26) ?_; intro gb523 hg w9 hbox hb; have BK523 := am (hbox); have GW523 := am (gw hg (below_size bl)); have GE523 := am (gw hg (below_size bl)); replace HB := am (below_step bl hb); clear hb hbox hg; have q524 := ix0 (n := l3.length) ode; obtain ⟨ad524, e524, hx524_0, hx524_1⟩ := at_T26 HR3.out 0 (by omega) (of_eq_true q524.2.2); cases e524; (try rw [t0] at hx524_0); (try rw [show 0 * 2 = 0 from rfl] at hx524_0); (try rw [Addr.add_zero'] at hx524_0); (try rw [t0] at hx524_1); (try rw [show 0 * 2 = 0 from rfl] at hx524_1); (try rw [Addr.add_zero'] at hx524_1); replace hx524_0 := hbl HB.out hx524_0; replace hx524_1 := hbl HB.out hx524_1; obtain ⟨qi524, p524, q524⟩ := q524))
  (try simp only [ap, sa, sb, sc])
  go_cut [37] (fun v37 wc => ∃ (kq : Nat) (x37_7 : Bool), v37 = .bool x37_7 ∧ Aside0 (plenumref19_step.j0 kq ((rd_T26 l3 0).f1) x37_7 = some (r1, r2, r3)) ∧ Aside0 (kq ≤ k) ∧ Aside0 (wc.heap[gb523]? = some (.cells #[.int .i64 0, .int .i64 0] 26 (0, 0))) ∧ Aside0 (Below w.heap.size w wc))
  case first =>
   have H := HC8.out
   clear HC8
   by_cases c10 : ((rd_T26 l3 0).f1) = 1
   rotate_left
   ·
    rw [if_neg c10] at H
    have c10b0 := beq_eq_false_iff_ne.mpr c10
    have c10b1 := bne_iff_ne.mpr c10
    (first | rw [c10b0] | (simp only [i64_w, i32_w]; rw [c10b0]) | skip)
    as_aux_lemma =>
     have H' := am H
     clear H
     go_wp2
     go_meet
     case rel => exact ⟨_, (false), (by first | rfl | (simp; done) | (simp [*]; done)), H', ⟨by first | omega | exact Nat.le_refl _⟩, ⟨rb BK523.out⟩, ⟨bs1 GE523.out⟩⟩
   rw [if_pos c10] at H
   have c10b0 := beq_iff_eq.mpr c10
   have c10b1 := bne_eq_false_iff_eq.mpr c10
   clear c10
   (first | rw [c10b0] | (simp only [i64_w, i32_w]; rw [c10b0]) | skip)
   have c11 := oi H; rw [if_pos c11] at H
   have c11b0 := decide_eq_true c11
   have c11b1 : decide (0 < l2.length) = true := decide_eq_true (by omega)
   clear c11
   as_aux_lemma =>
    have H' := am H
    clear H
    have q525 := ix0 (n := l2.length) ode; obtain ⟨ad525, e525, hx525_0⟩ := Kd.at_int HR2.out 0 (by omega) (of_eq_true q525.2.2); cases e525; (try rw [t0] at hx525_0); (try rw [Addr.add_zero'] at hx525_0); replace hx525_0 := hbl HB.out hx525_0; obtain ⟨qi525, p525, q525⟩ := q525
    go_wp2
    go_meet
    case rel => exact ⟨_, (((rd l2 0) == 0)), (by first | rfl | (simp; done) | (simp [*]; done)), H', ⟨by first | omega | exact Nat.le_refl _⟩, ⟨rb BK523.out⟩, ⟨bs1 GE523.out⟩⟩
  clear HC8
  obtain ⟨kq, x37_7, rfl, HA, HJ7, BK523, HB⟩ := hcut
  cases kq with
  | zero => exact absurd HA.out (by simp [plenumref19_step.j0])
  | succ kj7 =>
   have H := HA.out
   clear HA
   simp only [plenumref19_step.j0] at H
   by_cases c12 : x37_7 = true
   ·
    subst c12
    rw [if_pos rfl] at H
    obtain ⟨y526, hy526⟩ : ∃ y_ : List Int, y_ = (([1] : List Int)) := ⟨_, rfl⟩
    (try rw [← hy526] at H); (try rw [Option.bind_some] at H); (try dsimp only at H)
    have Ny526 := am hy526
    clear hy526
    obtain ⟨⟨t529, t530⟩, A13, H⟩ := Option.bind_eq_some_iff.mp H
    (try dsimp only at H)
    replace A13 := am A13
    as_aux_lemma =>
     simp only [Option.some.injEq, Prod.mk.injEq] at H
     obtain ⟨rfl, rfl, rfl⟩ := H
     go_wp2_with (first | ((refine gate_dst (N := 38) rfl ?_); refine Kd.R_lit (Kd.int .i64) _ 2 ?hg (N := 38) ?hd (xs := ([1] : List Int)) (inner := [.int .i64 1]) (ok := fun _ => True) (okp := fun _ => True) ?hr ?hp (fun _ hk => hk) trivial (Below.refl _ _) (Nat.le_refl _) (by simp) ?_; (case hd => rfl); (case hg => rfl); (case hr => first | (go_simp; done) | (go_simp; rfl)); (case hp => exact (Reps.one (show Kd.M (Kd.int .i64) _ _ _ 1 [.int .i64 1] from rfl) (Reps.none _ _))); intro v527 w14 ho15 hb hg_ hnew_; clear hg_ hnew_; (first | rw [← Ny526.out] at ho15 | (simp only [Int.reduceToNat] at ho15; rw [← Ny526.out] at ho15)); have HO528 := am (Kd.R_lower ho15 (below_size (bs1 GE523.out))); replace BK523 := am (blk_below (rb BK523.out) hb); replace HB := am (below_step (bs1 GE523.out) hb); clear hb ho15) | ((refine gate_callee (f := 39) rfl ?_); refine gl (some 39) Tryz.func39 #[.int .i64 1] ?_; (with_reducible refine (plenumref19_binary.calls 1 t529 t530 _ A13.out).mono ?_); rintro e w16 ⟨rfl, hb⟩; refine ⟨_, rfl, ?_⟩; replace HO528 := am (Kd.R_below (rr HO528.out) hb); replace BK523 := am (blk_below (rb BK523.out) hb); replace HB := am (below_step (bs1 GE523.out) hb); (try clear hb); (try clear hb2); (try clear hk); (try clear hi); obtain ⟨hcz17_0, hcz17_1, hfz17_0, hfz17_1⟩ := bz2 BK523.out))
     refine bodyPost_ret (results_tc rfl _ _ gb523 26 #[.int .i64 t529, .int .i64 t530] (0, 0) _ rfl (by refine rb ?_; refine blk_put (cs := #[.int .i64 t529, .int .i64 0]) ?_ 1 _ rfl; refine rb ?_; refine blk_put (cs := #[.int .i64 0, .int .i64 0]) ?_ 0 _ rfl; exact rb BK523.out) Tryz.underlying26 rfl (by kernel_rfl)) rfl ?_
     exact ⟨_, ew, rr (Kd.R_mono (Kd.R_far (p := ⟨gb523, 1, none⟩) (Kd.R_far (p := ⟨gb523, 0, none⟩) (Kd.R_types HO528.out BK523.out (by decide)) (fun _ hk => hk.2) (.int .i64 t529)) (fun _ hk => hk.2) (.int .i64 t530)) (fun _ hk => trivial)), bs1 GE523.out⟩
   replace c12 := Bool.eq_false_iff.mpr c12
   subst c12
   rw [if_neg (show ¬ (false = true) by decide)] at H
   obtain ⟨y531, hy531⟩ : ∃ y_ : List Int, y_ = (([((rd_T26 l3 0).f1)] : List Int)) := ⟨_, rfl⟩
   (try rw [← hy531] at H); (try rw [Option.bind_some] at H); (try dsimp only at H)
   have Ny531 := am hy531
   clear hy531
   obtain ⟨⟨t534, t535⟩, A18, H⟩ := Option.bind_eq_some_iff.mp H
   (try dsimp only at H)
   replace A18 := am A18
   as_aux_lemma =>
    simp only [Option.some.injEq, Prod.mk.injEq] at H
    obtain ⟨rfl, rfl, rfl⟩ := H
    go_wp2_with (first | ((refine gate_dst (N := 41) rfl ?_); refine Kd.R_lit (Kd.int .i64) _ 2 ?hg (N := 41) ?hd (xs := ([((rd_T26 l3 0).f1)] : List Int)) (inner := [.int .i64 ((rd_T26 l3 0).f1)]) (ok := fun _ => True) (okp := fun _ => True) ?hr ?hp (fun _ hk => hk) trivial (Below.refl _ _) (Nat.le_refl _) (by simp) ?_; (case hd => rfl); (case hg => rfl); (case hr => first | (go_simp; done) | (go_simp; rfl)); (case hp => exact (Reps.one (show Kd.M (Kd.int .i64) _ _ _ ((rd_T26 l3 0).f1) [.int .i64 ((rd_T26 l3 0).f1)] from rfl) (Reps.none _ _))); intro v532 w19 ho20 hb hg_ hnew_; clear hg_ hnew_; (first | rw [← Ny531.out] at ho20 | (simp only [Int.reduceToNat] at ho20; rw [← Ny531.out] at ho20)); have HO533 := am (Kd.R_lower ho20 (below_size (bs1 GE523.out))); replace BK523 := am (blk_below (rb BK523.out) hb); replace HB := am (below_step (bs1 GE523.out) hb); clear hb ho20) | ((refine gate_callee (f := 39) rfl ?_); refine gl (some 42) Tryz.func39 #[.int .i64 0] ?_; (with_reducible refine (plenumref19_binary.calls 0 t534 t535 _ A18.out).mono ?_); rintro e w21 ⟨rfl, hb⟩; refine ⟨_, rfl, ?_⟩; replace HO533 := am (Kd.R_below (rr HO533.out) hb); replace BK523 := am (blk_below (rb BK523.out) hb); replace HB := am (below_step (bs1 GE523.out) hb); (try clear hb); (try clear hb2); (try clear hk); (try clear hi); obtain ⟨hcz22_0, hcz22_1, hfz22_0, hfz22_1⟩ := bz2 BK523.out))
    refine bodyPost_ret (results_tc rfl _ _ gb523 26 #[.int .i64 t534, .int .i64 t535] (0, 0) _ rfl (by refine rb ?_; refine blk_put (cs := #[.int .i64 t534, .int .i64 0]) ?_ 1 _ rfl; refine rb ?_; refine blk_put (cs := #[.int .i64 0, .int .i64 0]) ?_ 0 _ rfl; exact rb BK523.out) Tryz.underlying26 rfl (by kernel_rfl)) rfl ?_
    exact ⟨_, ew, rr (Kd.R_mono (Kd.R_far (p := ⟨gb523, 1, none⟩) (Kd.R_far (p := ⟨gb523, 0, none⟩) (Kd.R_types HO533.out BK523.out (by decide)) (fun _ hk => hk.2) (.int .i64 t534)) (fun _ hk => hk.2) (.int .i64 t535)) (fun _ hk => trivial)), bs1 GE523.out⟩
 rw [if_neg c7] at H
 have c7b0 := beq_eq_false_iff_ne.mpr c7
 have c7b1 := bne_iff_ne.mpr c7
 by_cases c23 : a0.toList = ([108, 97, 116, 99, 104] : List UInt8)
 ·
  rw [if_pos c23] at H
  have c23b0 := beq_iff_eq.mpr c23
  have c23b1 := bne_eq_false_iff_eq.mpr c23
  clear c23
  have c24 := oi H; rw [if_pos c24] at H
  have c24b0 := decide_eq_true c24
  have c24b1 : decide (0 < l2.length) = true := decide_eq_true (by omega)
  clear c24
  have c25 := oi H; rw [if_pos c25] at H
  have c25b0 := decide_eq_true c25
  have c25b1 : decide (1 < l3.length) = true := decide_eq_true (by omega)
  clear c25
  by_cases c26 : ((rd_T26 l3 1).f1) = 1
  ·
   rw [if_pos c26] at H
   have c26b0 := beq_iff_eq.mpr c26
   have c26b1 := bne_eq_false_iff_eq.mpr c26
   clear c26
   obtain ⟨y538, hy538⟩ : ∃ y_ : List Int, y_ = (([0] : List Int)) := ⟨_, rfl⟩
   (try rw [← hy538] at H); (try rw [Option.bind_some] at H); (try dsimp only at H)
   have Ny538 := am hy538
   clear hy538
   obtain ⟨⟨t541, t542⟩, A27, H⟩ := Option.bind_eq_some_iff.mp H
   (try dsimp only at H)
   replace A27 := am A27
   as_aux_lemma =>
    simp only [Option.some.injEq, Prod.mk.injEq] at H
    obtain ⟨rfl, rfl, rfl⟩ := H
    go_enter Tryz.func21, Tryz.ntmps21
    go_wp2_with (first | ((refine gate_dst (N := 11) rfl ?_); refine bx (N := 11) (cs := #[.int .i64 0, .int .i64 0]) (t := 26) ?_; intro gb523 hg w28 hbox hb; have BK523 := am (hbox); have GW523 := am (gw hg (below_size bl)); have GE523 := am (gw hg (below_size bl)); replace HB := am (below_step bl hb); clear hb hbox hg; have q524 := ix0 (n := l3.length) ode; obtain ⟨ad524, e524, hx524_0, hx524_1⟩ := at_T26 HR3.out 0 (by omega) (of_eq_true q524.2.2); cases e524; (try rw [t0] at hx524_0); (try rw [show 0 * 2 = 0 from rfl] at hx524_0); (try rw [Addr.add_zero'] at hx524_0); (try rw [t0] at hx524_1); (try rw [show 0 * 2 = 0 from rfl] at hx524_1); (try rw [Addr.add_zero'] at hx524_1); replace hx524_0 := hbl HB.out hx524_0; replace hx524_1 := hbl HB.out hx524_1; obtain ⟨qi524, p524, q524⟩ := q524; have q536 := ix0 (n := l2.length) ode; obtain ⟨ad536, e536, hx536_0⟩ := Kd.at_int HR2.out 0 (by omega) (of_eq_true q536.2.2); cases e536; (try rw [t0] at hx536_0); (try rw [Addr.add_zero'] at hx536_0); replace hx536_0 := hbl HB.out hx536_0; obtain ⟨qi536, p536, q536⟩ := q536; have q537 := ix1 (n := l3.length) ode; obtain ⟨ad537, e537, hx537_0, hx537_1⟩ := at_T26 HR3.out 1 (by omega) (of_eq_true q537.2.2); obtain rfl : ad524 = ad537 := (by injection e537); (try simp only [t1, Nat.reduceMul, Nat.reduceEqDiff, Go.Addr.add, ↓reduceIte] at hx537_0); (try simp only [t1, Nat.reduceMul, Nat.reduceEqDiff, Go.Addr.add, ↓reduceIte] at hx537_1); replace hx537_0 := hbl HB.out hx537_0; replace hx537_1 := hbl HB.out hx537_1; obtain ⟨qi537, p537, q537⟩ := q537) | ((refine gate_dst (N := 56) rfl ?_); refine Kd.R_lit (Kd.int .i64) _ 2 ?hg (N := 56) ?hd (xs := ([0] : List Int)) (inner := [.int .i64 0]) (ok := fun _ => True) (okp := fun _ => True) ?hr ?hp (fun _ hk => hk) trivial (Below.refl _ _) (Nat.le_refl _) (by simp) ?_; (case hd => rfl); (case hg => rfl); (case hr => first | (go_simp; done) | (go_simp; rfl)); (case hp => exact (Reps.one (show Kd.M (Kd.int .i64) _ _ _ 0 [.int .i64 0] from rfl) (Reps.none _ _))); intro v539 w29 ho30 hb hg_ hnew_; clear hg_ hnew_; (first | rw [← Ny538.out] at ho30 | (simp only [Int.reduceToNat] at ho30; rw [← Ny538.out] at ho30)); have HO540 := am (Kd.R_lower ho30 (below_size (bs1 GE523.out))); replace BK523 := am (blk_below (rb BK523.out) hb); replace HB := am (below_step (bs1 GE523.out) hb); clear hb ho30) | ((refine gate_callee (f := 39) rfl ?_); refine gl (some 58) Tryz.func39 #[.int .i64 0] ?_; (with_reducible refine (plenumref19_binary.calls 0 t541 t542 _ A27.out).mono ?_); rintro e w31 ⟨rfl, hb⟩; refine ⟨_, rfl, ?_⟩; replace HO540 := am (Kd.R_below (rr HO540.out) hb); replace BK523 := am (blk_below (rb BK523.out) hb); replace HB := am (below_step (bs1 GE523.out) hb); (try clear hb); (try clear hb2); (try clear hk); (try clear hi); obtain ⟨hcz32_0, hcz32_1, hfz32_0, hfz32_1⟩ := bz2 BK523.out))
    refine bodyPost_ret (results_tc rfl _ _ gb523 26 #[.int .i64 t541, .int .i64 t542] (0, 0) _ rfl (by refine rb ?_; refine blk_put (cs := #[.int .i64 t541, .int .i64 0]) ?_ 1 _ rfl; refine rb ?_; refine blk_put (cs := #[.int .i64 0, .int .i64 0]) ?_ 0 _ rfl; exact rb BK523.out) Tryz.underlying26 rfl (by kernel_rfl)) rfl ?_
    exact ⟨_, ew, rr (Kd.R_mono (Kd.R_far (p := ⟨gb523, 1, none⟩) (Kd.R_far (p := ⟨gb523, 0, none⟩) (Kd.R_types HO540.out BK523.out (by decide)) (fun _ hk => hk.2) (.int .i64 t541)) (fun _ hk => hk.2) (.int .i64 t542)) (fun _ hk => trivial)), bs1 GE523.out⟩
  rw [if_neg c26] at H
  have c26b0 := beq_eq_false_iff_ne.mpr c26
  have c26b1 := bne_iff_ne.mpr c26
  by_cases c33 : ((rd_T26 l3 0).f1) = 1
  rotate_left
  ·
   rw [if_neg c33] at H
   have c33b0 := beq_eq_false_iff_ne.mpr c33
   have c33b1 := bne_iff_ne.mpr c33
   obtain ⟨y548, hy548⟩ : ∃ y_ : List Int, y_ = (([rd l2 0] : List Int)) := ⟨_, rfl⟩
   (try rw [← hy548] at H); (try rw [Option.bind_some] at H); (try dsimp only at H)
   have Ny548 := am hy548
   clear hy548
   obtain ⟨⟨t551, t552⟩, A40, H⟩ := Option.bind_eq_some_iff.mp H
   (try dsimp only at H)
   replace A40 := am A40
   as_aux_lemma =>
    simp only [Option.some.injEq, Prod.mk.injEq] at H
    obtain ⟨rfl, rfl, rfl⟩ := H
    go_enter Tryz.func21, Tryz.ntmps21
    go_wp2_with (first | ((refine gate_dst (N := 11) rfl ?_); refine bx (N := 11) (cs := #[.int .i64 0, .int .i64 0]) (t := 26) ?_; intro gb523 hg w41 hbox hb; have BK523 := am (hbox); have GW523 := am (gw hg (below_size bl)); have GE523 := am (gw hg (below_size bl)); replace HB := am (below_step bl hb); clear hb hbox hg; have q524 := ix0 (n := l3.length) ode; obtain ⟨ad524, e524, hx524_0, hx524_1⟩ := at_T26 HR3.out 0 (by omega) (of_eq_true q524.2.2); cases e524; (try rw [t0] at hx524_0); (try rw [show 0 * 2 = 0 from rfl] at hx524_0); (try rw [Addr.add_zero'] at hx524_0); (try rw [t0] at hx524_1); (try rw [show 0 * 2 = 0 from rfl] at hx524_1); (try rw [Addr.add_zero'] at hx524_1); replace hx524_0 := hbl HB.out hx524_0; replace hx524_1 := hbl HB.out hx524_1; obtain ⟨qi524, p524, q524⟩ := q524; have q536 := ix0 (n := l2.length) ode; obtain ⟨ad536, e536, hx536_0⟩ := Kd.at_int HR2.out 0 (by omega) (of_eq_true q536.2.2); cases e536; (try rw [t0] at hx536_0); (try rw [Addr.add_zero'] at hx536_0); replace hx536_0 := hbl HB.out hx536_0; obtain ⟨qi536, p536, q536⟩ := q536; have q537 := ix1 (n := l3.length) ode; obtain ⟨ad537, e537, hx537_0, hx537_1⟩ := at_T26 HR3.out 1 (by omega) (of_eq_true q537.2.2); obtain rfl : ad524 = ad537 := (by injection e537); (try simp only [t1, Nat.reduceMul, Nat.reduceEqDiff, Go.Addr.add, ↓reduceIte] at hx537_0); (try simp only [t1, Nat.reduceMul, Nat.reduceEqDiff, Go.Addr.add, ↓reduceIte] at hx537_1); replace hx537_0 := hbl HB.out hx537_0; replace hx537_1 := hbl HB.out hx537_1; obtain ⟨qi537, p537, q537⟩ := q537) | ((refine gate_dst (N := 56) rfl ?_); refine Kd.R_lit (Kd.int .i64) _ 2 ?hg (N := 56) ?hd (xs := ([rd l2 0] : List Int)) (inner := [.int .i64 (rd l2 0)]) (ok := fun _ => True) (okp := fun _ => True) ?hr ?hp (fun _ hk => hk) trivial (Below.refl _ _) (Nat.le_refl _) (by simp) ?_; (case hd => rfl); (case hg => rfl); (case hr => first | (go_simp; done) | (go_simp; rfl)); (case hp => exact (Reps.one (show Kd.M (Kd.int .i64) _ _ _ (rd l2 0) [.int .i64 (rd l2 0)] from rfl) (Reps.none _ _))); intro v549 w42 ho43 hb hg_ hnew_; clear hg_ hnew_; (first | rw [← Ny548.out] at ho43 | (simp only [Int.reduceToNat] at ho43; rw [← Ny548.out] at ho43)); have HO550 := am (Kd.R_lower ho43 (below_size (bs1 GE523.out))); replace BK523 := am (blk_below (rb BK523.out) hb); replace HB := am (below_step (bs1 GE523.out) hb); clear hb ho43) | ((refine gate_callee (f := 39) rfl ?_); refine gl (some 58) Tryz.func39 #[.int .i64 (rd l2 0)] ?_; (with_reducible refine (plenumref19_binary.calls (rd l2 0) t551 t552 _ A40.out).mono ?_); rintro e w44 ⟨rfl, hb⟩; refine ⟨_, rfl, ?_⟩; replace HO550 := am (Kd.R_below (rr HO550.out) hb); replace BK523 := am (blk_below (rb BK523.out) hb); replace HB := am (below_step (bs1 GE523.out) hb); (try clear hb); (try clear hb2); (try clear hk); (try clear hi); obtain ⟨hcz45_0, hcz45_1, hfz45_0, hfz45_1⟩ := bz2 BK523.out))
    refine bodyPost_ret (results_tc rfl _ _ gb523 26 #[.int .i64 t551, .int .i64 t552] (0, 0) _ rfl (by refine rb ?_; refine blk_put (cs := #[.int .i64 t551, .int .i64 0]) ?_ 1 _ rfl; refine rb ?_; refine blk_put (cs := #[.int .i64 0, .int .i64 0]) ?_ 0 _ rfl; exact rb BK523.out) Tryz.underlying26 rfl (by kernel_rfl)) rfl ?_
    exact ⟨_, ew, rr (Kd.R_mono (Kd.R_far (p := ⟨gb523, 1, none⟩) (Kd.R_far (p := ⟨gb523, 0, none⟩) (Kd.R_types HO550.out BK523.out (by decide)) (fun _ hk => hk.2) (.int .i64 t551)) (fun _ hk => hk.2) (.int .i64 t552)) (fun _ hk => trivial)), bs1 GE523.out⟩
  rw [if_pos c33] at H
  have c33b0 := beq_iff_eq.mpr c33
  have c33b1 := bne_eq_false_iff_eq.mpr c33
  clear c33
  obtain ⟨y543, hy543⟩ : ∃ y_ : List Int, y_ = (([1] : List Int)) := ⟨_, rfl⟩
  (try rw [← hy543] at H); (try rw [Option.bind_some] at H); (try dsimp only at H)
  have Ny543 := am hy543
  clear hy543
  obtain ⟨⟨t546, t547⟩, A34, H⟩ := Option.bind_eq_some_iff.mp H
  (try dsimp only at H)
  replace A34 := am A34
  as_aux_lemma =>
   simp only [Option.some.injEq, Prod.mk.injEq] at H
   obtain ⟨rfl, rfl, rfl⟩ := H
   go_enter Tryz.func21, Tryz.ntmps21
   go_wp2_with (first | ((refine gate_dst (N := 11) rfl ?_); refine bx (N := 11) (cs := #[.int .i64 0, .int .i64 0]) (t := 26) ?_; intro gb523 hg w35 hbox hb; have BK523 := am (hbox); have GW523 := am (gw hg (below_size bl)); have GE523 := am (gw hg (below_size bl)); replace HB := am (below_step bl hb); clear hb hbox hg; have q524 := ix0 (n := l3.length) ode; obtain ⟨ad524, e524, hx524_0, hx524_1⟩ := at_T26 HR3.out 0 (by omega) (of_eq_true q524.2.2); cases e524; (try rw [t0] at hx524_0); (try rw [show 0 * 2 = 0 from rfl] at hx524_0); (try rw [Addr.add_zero'] at hx524_0); (try rw [t0] at hx524_1); (try rw [show 0 * 2 = 0 from rfl] at hx524_1); (try rw [Addr.add_zero'] at hx524_1); replace hx524_0 := hbl HB.out hx524_0; replace hx524_1 := hbl HB.out hx524_1; obtain ⟨qi524, p524, q524⟩ := q524; have q536 := ix0 (n := l2.length) ode; obtain ⟨ad536, e536, hx536_0⟩ := Kd.at_int HR2.out 0 (by omega) (of_eq_true q536.2.2); cases e536; (try rw [t0] at hx536_0); (try rw [Addr.add_zero'] at hx536_0); replace hx536_0 := hbl HB.out hx536_0; obtain ⟨qi536, p536, q536⟩ := q536; have q537 := ix1 (n := l3.length) ode; obtain ⟨ad537, e537, hx537_0, hx537_1⟩ := at_T26 HR3.out 1 (by omega) (of_eq_true q537.2.2); obtain rfl : ad524 = ad537 := (by injection e537); (try simp only [t1, Nat.reduceMul, Nat.reduceEqDiff, Go.Addr.add, ↓reduceIte] at hx537_0); (try simp only [t1, Nat.reduceMul, Nat.reduceEqDiff, Go.Addr.add, ↓reduceIte] at hx537_1); replace hx537_0 := hbl HB.out hx537_0; replace hx537_1 := hbl HB.out hx537_1; obtain ⟨qi537, p537, q537⟩ := q537) | ((refine gate_dst (N := 56) rfl ?_); refine Kd.R_lit (Kd.int .i64) _ 2 ?hg (N := 56) ?hd (xs := ([1] : List Int)) (inner := [.int .i64 1]) (ok := fun _ => True) (okp := fun _ => True) ?hr ?hp (fun _ hk => hk) trivial (Below.refl _ _) (Nat.le_refl _) (by simp) ?_; (case hd => rfl); (case hg => rfl); (case hr => first | (go_simp; done) | (go_simp; rfl)); (case hp => exact (Reps.one (show Kd.M (Kd.int .i64) _ _ _ 1 [.int .i64 1] from rfl) (Reps.none _ _))); intro v544 w36 ho37 hb hg_ hnew_; clear hg_ hnew_; (first | rw [← Ny543.out] at ho37 | (simp only [Int.reduceToNat] at ho37; rw [← Ny543.out] at ho37)); have HO545 := am (Kd.R_lower ho37 (below_size (bs1 GE523.out))); replace BK523 := am (blk_below (rb BK523.out) hb); replace HB := am (below_step (bs1 GE523.out) hb); clear hb ho37) | ((refine gate_callee (f := 39) rfl ?_); refine gl (some 58) Tryz.func39 #[.int .i64 1] ?_; (with_reducible refine (plenumref19_binary.calls 1 t546 t547 _ A34.out).mono ?_); rintro e w38 ⟨rfl, hb⟩; refine ⟨_, rfl, ?_⟩; replace HO545 := am (Kd.R_below (rr HO545.out) hb); replace BK523 := am (blk_below (rb BK523.out) hb); replace HB := am (below_step (bs1 GE523.out) hb); (try clear hb); (try clear hb2); (try clear hk); (try clear hi); obtain ⟨hcz39_0, hcz39_1, hfz39_0, hfz39_1⟩ := bz2 BK523.out))
   refine bodyPost_ret (results_tc rfl _ _ gb523 26 #[.int .i64 t546, .int .i64 t547] (0, 0) _ rfl (by refine rb ?_; refine blk_put (cs := #[.int .i64 t546, .int .i64 0]) ?_ 1 _ rfl; refine rb ?_; refine blk_put (cs := #[.int .i64 0, .int .i64 0]) ?_ 0 _ rfl; exact rb BK523.out) Tryz.underlying26 rfl (by kernel_rfl)) rfl ?_
   exact ⟨_, ew, rr (Kd.R_mono (Kd.R_far (p := ⟨gb523, 1, none⟩) (Kd.R_far (p := ⟨gb523, 0, none⟩) (Kd.R_types HO545.out BK523.out (by decide)) (fun _ hk => hk.2) (.int .i64 t546)) (fun _ hk => hk.2) (.int .i64 t547)) (fun _ hk => trivial)), bs1 GE523.out⟩
 rw [if_neg c23] at H
 have c23b0 := beq_eq_false_iff_ne.mpr c23
 have c23b1 := bne_iff_ne.mpr c23
 by_cases c46 : a0.toList = ([99, 111, 117, 110, 116] : List UInt8)
 ·
  rw [if_pos c46] at H
  have c46b0 := beq_iff_eq.mpr c46
  have c46b1 := bne_eq_false_iff_eq.mpr c46
  clear c46
  have c47 := oi H; rw [if_pos c47] at H
  have c47b0 := decide_eq_true c47
  have c47b1 : decide (1 < l2.length) = true := decide_eq_true (by omega)
  clear c47
  have c48 := oi H; rw [if_pos c48] at H
  have c48b0 := decide_eq_true c48
  have c48b1 : decide (1 < l3.length) = true := decide_eq_true (by omega)
  clear c48
  by_cases c49 : ((rd_T26 l3 1).f1) = 1
  ·
   rw [if_pos c49] at H
   have c49b0 := beq_iff_eq.mpr c49
   have c49b1 := bne_eq_false_iff_eq.mpr c49
   clear c49
   obtain ⟨y555, hy555⟩ : ∃ y_ : List Int, y_ = (([(rd_T26 l3 0).f1, 0] : List Int)) := ⟨_, rfl⟩
   (try rw [← hy555] at H); (try rw [Option.bind_some] at H); (try dsimp only at H)
   have Ny555 := am hy555
   clear hy555
   as_aux_lemma =>
    simp only [Option.some.injEq, Prod.mk.injEq] at H
    obtain ⟨rfl, rfl, rfl⟩ := H
    go_enter Tryz.func21, Tryz.ntmps21
    go_wp2_with (first | ((refine gate_dst (N := 11) rfl ?_); refine bx (N := 11) (cs := #[.int .i64 0, .int .i64 0]) (t := 26) ?_; intro gb523 hg w50 hbox hb; have BK523 := am (hbox); have GW523 := am (gw hg (below_size bl)); have GE523 := am (gw hg (below_size bl)); replace HB := am (below_step bl hb); clear hb hbox hg; have q524 := ix0 (n := l3.length) ode; obtain ⟨ad524, e524, hx524_0, hx524_1⟩ := at_T26 HR3.out 0 (by omega) (of_eq_true q524.2.2); cases e524; (try rw [t0] at hx524_0); (try rw [show 0 * 2 = 0 from rfl] at hx524_0); (try rw [Addr.add_zero'] at hx524_0); (try rw [t0] at hx524_1); (try rw [show 0 * 2 = 0 from rfl] at hx524_1); (try rw [Addr.add_zero'] at hx524_1); replace hx524_0 := hbl HB.out hx524_0; replace hx524_1 := hbl HB.out hx524_1; obtain ⟨qi524, p524, q524⟩ := q524; have q553 := ix1 (n := l2.length) ode; obtain ⟨ad553, e553, hx553_0⟩ := Kd.at_int HR2.out 1 (by omega) (of_eq_true q553.2.2); cases e553; (try simp only [t1, Nat.reduceMul, Nat.reduceEqDiff, Go.Addr.add, ↓reduceIte] at hx553_0); replace hx553_0 := hbl HB.out hx553_0; obtain ⟨qi553, p553, q553⟩ := q553; have q554 := ix1 (n := l3.length) ode; obtain ⟨ad554, e554, hx554_0, hx554_1⟩ := at_T26 HR3.out 1 (by omega) (of_eq_true q554.2.2); obtain rfl : ad524 = ad554 := (by injection e554); (try simp only [t1, Nat.reduceMul, Nat.reduceEqDiff, Go.Addr.add, ↓reduceIte] at hx554_0); (try simp only [t1, Nat.reduceMul, Nat.reduceEqDiff, Go.Addr.add, ↓reduceIte] at hx554_1); replace hx554_0 := hbl HB.out hx554_0; replace hx554_1 := hbl HB.out hx554_1; obtain ⟨qi554, p554, q554⟩ := q554) | ((refine gate_dst (N := 85) rfl ?_); refine Kd.R_lit (Kd.int .i64) _ 2 ?hg (N := 85) ?hd (xs := ([(rd_T26 l3 0).f1, 0] : List Int)) (inner := [.int .i64 ((rd_T26 l3 0).f1), .int .i64 0]) (ok := fun _ => True) (okp := fun _ => True) ?hr ?hp (fun _ hk => hk) trivial (Below.refl _ _) (Nat.le_refl _) (by simp) ?_; (case hd => rfl); (case hg => rfl); (case hr => first | (go_simp; done) | (go_simp; rfl)); (case hp => exact (Reps.one (show Kd.M (Kd.int .i64) _ _ _ ((rd_T26 l3 0).f1) [.int .i64 ((rd_T26 l3 0).f1)] from rfl) (Reps.one (show Kd.M (Kd.int .i64) _ _ _ 0 [.int .i64 0] from rfl) (Reps.none _ _)))); intro v556 w51 ho52 hb hg_ hnew_; clear hg_ hnew_; (first | rw [← Ny555.out] at ho52 | (simp only [Int.reduceToNat] at ho52; rw [← Ny555.out] at ho52)); have HO557 := am (Kd.R_lower ho52 (below_size (bs1 GE523.out))); replace BK523 := am (blk_below (rb BK523.out) hb); replace HB := am (below_step (bs1 GE523.out) hb); clear hb ho52; obtain ⟨hcz53_0, hcz53_1, hfz53_0, hfz53_1⟩ := bz2 BK523.out))
    refine bodyPost_ret (results_tc rfl _ _ gb523 26 #[.int .i64 1, .int .i64 (1000 * 0)] (0, 0) _ rfl (by refine rb ?_; refine blk_put (cs := #[.int .i64 1, .int .i64 0]) ?_ 1 _ rfl; refine rb ?_; refine blk_put (cs := #[.int .i64 0, .int .i64 0]) ?_ 0 _ rfl; exact rb BK523.out) Tryz.underlying26 rfl (by kernel_rfl)) rfl ?_
    exact ⟨_, ew, rr (Kd.R_mono (Kd.R_far (p := ⟨gb523, 1, none⟩) (Kd.R_far (p := ⟨gb523, 0, none⟩) (Kd.R_types HO557.out BK523.out (by decide)) (fun _ hk => hk.2) (.int .i64 1)) (fun _ hk => hk.2) (.int .i64 (1000 * 0))) (fun _ hk => trivial)), bs1 GE523.out⟩
  rw [if_neg c49] at H
  have c49b0 := beq_eq_false_iff_ne.mpr c49
  have c49b1 := bne_iff_ne.mpr c49
  by_cases c54 : ((rd_T26 l3 0).f1) = 1
  rotate_left
  ·
   rw [if_neg c54] at H
   have c54b0 := beq_eq_false_iff_ne.mpr c54
   have c54b1 := bne_iff_ne.mpr c54
   obtain ⟨y568, hy568⟩ : ∃ y_ : List Int, y_ = (([(rd_T26 l3 0).f1, rd l2 1] : List Int)) := ⟨_, rfl⟩
   (try rw [← hy568] at H); (try rw [Option.bind_some] at H); (try dsimp only at H)
   have Ny568 := am hy568
   clear hy568
   as_aux_lemma =>
    simp only [Option.some.injEq, Prod.mk.injEq] at H
    obtain ⟨rfl, rfl, rfl⟩ := H
    go_enter Tryz.func21, Tryz.ntmps21
    go_wp2_with (first | ((refine gate_dst (N := 11) rfl ?_); refine bx (N := 11) (cs := #[.int .i64 0, .int .i64 0]) (t := 26) ?_; intro gb523 hg w70 hbox hb; have BK523 := am (hbox); have GW523 := am (gw hg (below_size bl)); have GE523 := am (gw hg (below_size bl)); replace HB := am (below_step bl hb); clear hb hbox hg; have q524 := ix0 (n := l3.length) ode; obtain ⟨ad524, e524, hx524_0, hx524_1⟩ := at_T26 HR3.out 0 (by omega) (of_eq_true q524.2.2); cases e524; (try rw [t0] at hx524_0); (try rw [show 0 * 2 = 0 from rfl] at hx524_0); (try rw [Addr.add_zero'] at hx524_0); (try rw [t0] at hx524_1); (try rw [show 0 * 2 = 0 from rfl] at hx524_1); (try rw [Addr.add_zero'] at hx524_1); replace hx524_0 := hbl HB.out hx524_0; replace hx524_1 := hbl HB.out hx524_1; obtain ⟨qi524, p524, q524⟩ := q524; have q553 := ix1 (n := l2.length) ode; obtain ⟨ad553, e553, hx553_0⟩ := Kd.at_int HR2.out 1 (by omega) (of_eq_true q553.2.2); cases e553; (try simp only [t1, Nat.reduceMul, Nat.reduceEqDiff, Go.Addr.add, ↓reduceIte] at hx553_0); replace hx553_0 := hbl HB.out hx553_0; obtain ⟨qi553, p553, q553⟩ := q553; have q554 := ix1 (n := l3.length) ode; obtain ⟨ad554, e554, hx554_0, hx554_1⟩ := at_T26 HR3.out 1 (by omega) (of_eq_true q554.2.2); obtain rfl : ad524 = ad554 := (by injection e554); (try simp only [t1, Nat.reduceMul, Nat.reduceEqDiff, Go.Addr.add, ↓reduceIte] at hx554_0); (try simp only [t1, Nat.reduceMul, Nat.reduceEqDiff, Go.Addr.add, ↓reduceIte] at hx554_1); replace hx554_0 := hbl HB.out hx554_0; replace hx554_1 := hbl HB.out hx554_1; obtain ⟨qi554, p554, q554⟩ := q554) | ((refine gate_dst (N := 85) rfl ?_); refine Kd.R_lit (Kd.int .i64) _ 2 ?hg (N := 85) ?hd (xs := ([(rd_T26 l3 0).f1, rd l2 1] : List Int)) (inner := [.int .i64 ((rd_T26 l3 0).f1), .int .i64 (rd l2 1)]) (ok := fun _ => True) (okp := fun _ => True) ?hr ?hp (fun _ hk => hk) trivial (Below.refl _ _) (Nat.le_refl _) (by simp) ?_; (case hd => rfl); (case hg => rfl); (case hr => first | (go_simp; done) | (go_simp; rfl)); (case hp => exact (Reps.one (show Kd.M (Kd.int .i64) _ _ _ ((rd_T26 l3 0).f1) [.int .i64 ((rd_T26 l3 0).f1)] from rfl) (Reps.one (show Kd.M (Kd.int .i64) _ _ _ (rd l2 1) [.int .i64 (rd l2 1)] from rfl) (Reps.none _ _)))); intro v569 w71 ho72 hb hg_ hnew_; clear hg_ hnew_; (first | rw [← Ny568.out] at ho72 | (simp only [Int.reduceToNat] at ho72; rw [← Ny568.out] at ho72)); have HO570 := am (Kd.R_lower ho72 (below_size (bs1 GE523.out))); replace BK523 := am (blk_below (rb BK523.out) hb); replace HB := am (below_step (bs1 GE523.out) hb); clear hb ho72; obtain ⟨hcz73_0, hcz73_1, hfz73_0, hfz73_1⟩ := bz2 BK523.out))
    refine bodyPost_ret (results_tc rfl _ _ gb523 26 #[.int .i64 1, .int .i64 (wrap64 (1000 * (rd l2 1)))] (0, 0) _ rfl (by refine rb ?_; refine blk_put (cs := #[.int .i64 1, .int .i64 0]) ?_ 1 _ rfl; refine rb ?_; refine blk_put (cs := #[.int .i64 0, .int .i64 0]) ?_ 0 _ rfl; exact rb BK523.out) Tryz.underlying26 rfl (by kernel_rfl)) rfl ?_
    exact ⟨_, ew, rr (Kd.R_mono (Kd.R_far (p := ⟨gb523, 1, none⟩) (Kd.R_far (p := ⟨gb523, 0, none⟩) (Kd.R_types HO570.out BK523.out (by decide)) (fun _ hk => hk.2) (.int .i64 1)) (fun _ hk => hk.2) (.int .i64 (wrap64 (1000 * (rd l2 1))))) (fun _ hk => trivial)), bs1 GE523.out⟩
  rw [if_pos c54] at H
  have c54b0 := beq_iff_eq.mpr c54
  have c54b1 := bne_eq_false_iff_eq.mpr c54
  clear c54
  have c55 := oi H; rw [if_pos c55] at H
  have c55b0 := decide_eq_true c55
  have c55b1 : decide (0 < l2.length) = true := decide_eq_true (by omega)
  clear c55
  by_cases c56 : (rd l2 0) = 0
  rotate_left
  ·
   rw [if_neg c56] at H
   have c56b0 := beq_eq_false_iff_ne.mpr c56
   have c56b1 := bne_iff_ne.mpr c56
   obtain ⟨y565, hy565⟩ : ∃ y_ : List Int, y_ = (([(rd_T26 l3 0).f1, rd l2 1] : List Int)) := ⟨_, rfl⟩
   (try rw [← hy565] at H); (try rw [Option.bind_some] at H); (try dsimp only at H)
   have Ny565 := am hy565
   clear hy565
   as_aux_lemma =>
    simp only [Option.some.injEq, Prod.mk.injEq] at H
    obtain ⟨rfl, rfl, rfl⟩ := H
    go_enter Tryz.func21, Tryz.ntmps21
    go_wp2_with (first | ((refine gate_dst (N := 11) rfl ?_); refine bx (N := 11) (cs := #[.int .i64 0, .int .i64 0]) (t := 26) ?_; intro gb523 hg w66 hbox hb; have BK523 := am (hbox); have GW523 := am (gw hg (below_size bl)); have GE523 := am (gw hg (below_size bl)); replace HB := am (below_step bl hb); clear hb hbox hg; have q524 := ix0 (n := l3.length) ode; obtain ⟨ad524, e524, hx524_0, hx524_1⟩ := at_T26 HR3.out 0 (by omega) (of_eq_true q524.2.2); cases e524; (try rw [t0] at hx524_0); (try rw [show 0 * 2 = 0 from rfl] at hx524_0); (try rw [Addr.add_zero'] at hx524_0); (try rw [t0] at hx524_1); (try rw [show 0 * 2 = 0 from rfl] at hx524_1); (try rw [Addr.add_zero'] at hx524_1); replace hx524_0 := hbl HB.out hx524_0; replace hx524_1 := hbl HB.out hx524_1; obtain ⟨qi524, p524, q524⟩ := q524; have q553 := ix1 (n := l2.length) ode; obtain ⟨ad553, e553, hx553_0⟩ := Kd.at_int HR2.out 1 (by omega) (of_eq_true q553.2.2); cases e553; (try simp only [t1, Nat.reduceMul, Nat.reduceEqDiff, Go.Addr.add, ↓reduceIte] at hx553_0); replace hx553_0 := hbl HB.out hx553_0; obtain ⟨qi553, p553, q553⟩ := q553; have q554 := ix1 (n := l3.length) ode; obtain ⟨ad554, e554, hx554_0, hx554_1⟩ := at_T26 HR3.out 1 (by omega) (of_eq_true q554.2.2); obtain rfl : ad524 = ad554 := (by injection e554); (try simp only [t1, Nat.reduceMul, Nat.reduceEqDiff, Go.Addr.add, ↓reduceIte] at hx554_0); (try simp only [t1, Nat.reduceMul, Nat.reduceEqDiff, Go.Addr.add, ↓reduceIte] at hx554_1); replace hx554_0 := hbl HB.out hx554_0; replace hx554_1 := hbl HB.out hx554_1; obtain ⟨qi554, p554, q554⟩ := q554; have q558 := ix0 (n := l2.length) ode; obtain ⟨ad558, e558, hx558_0⟩ := Kd.at_int HR2.out 0 (by omega) (of_eq_true q558.2.2); obtain rfl : ad553 = ad558 := (by injection e558); (try rw [t0] at hx558_0); (try rw [Addr.add_zero'] at hx558_0); replace hx558_0 := hbl HB.out hx558_0; obtain ⟨qi558, p558, q558⟩ := q558) | ((refine gate_dst (N := 85) rfl ?_); refine Kd.R_lit (Kd.int .i64) _ 2 ?hg (N := 85) ?hd (xs := ([(rd_T26 l3 0).f1, rd l2 1] : List Int)) (inner := [.int .i64 ((rd_T26 l3 0).f1), .int .i64 (rd l2 1)]) (ok := fun _ => True) (okp := fun _ => True) ?hr ?hp (fun _ hk => hk) trivial (Below.refl _ _) (Nat.le_refl _) (by simp) ?_; (case hd => rfl); (case hg => rfl); (case hr => first | (go_simp; done) | (go_simp; rfl)); (case hp => exact (Reps.one (show Kd.M (Kd.int .i64) _ _ _ ((rd_T26 l3 0).f1) [.int .i64 ((rd_T26 l3 0).f1)] from rfl) (Reps.one (show Kd.M (Kd.int .i64) _ _ _ (rd l2 1) [.int .i64 (rd l2 1)] from rfl) (Reps.none _ _)))); intro v566 w67 ho68 hb hg_ hnew_; clear hg_ hnew_; (first | rw [← Ny565.out] at ho68 | (simp only [Int.reduceToNat] at ho68; rw [← Ny565.out] at ho68)); have HO567 := am (Kd.R_lower ho68 (below_size (bs1 GE523.out))); replace BK523 := am (blk_below (rb BK523.out) hb); replace HB := am (below_step (bs1 GE523.out) hb); clear hb ho68; obtain ⟨hcz69_0, hcz69_1, hfz69_0, hfz69_1⟩ := bz2 BK523.out))
    refine bodyPost_ret (results_tc rfl _ _ gb523 26 #[.int .i64 1, .int .i64 (wrap64 (1000 * (rd l2 1)))] (0, 0) _ rfl (by refine rb ?_; refine blk_put (cs := #[.int .i64 1, .int .i64 0]) ?_ 1 _ rfl; refine rb ?_; refine blk_put (cs := #[.int .i64 0, .int .i64 0]) ?_ 0 _ rfl; exact rb BK523.out) Tryz.underlying26 rfl (by kernel_rfl)) rfl ?_
    exact ⟨_, ew, rr (Kd.R_mono (Kd.R_far (p := ⟨gb523, 1, none⟩) (Kd.R_far (p := ⟨gb523, 0, none⟩) (Kd.R_types HO567.out BK523.out (by decide)) (fun _ hk => hk.2) (.int .i64 1)) (fun _ hk => hk.2) (.int .i64 (wrap64 (1000 * (rd l2 1))))) (fun _ hk => trivial)), bs1 GE523.out⟩
  rw [if_pos c56] at H
  have c56b0 := beq_iff_eq.mpr c56
  have c56b1 := bne_eq_false_iff_eq.mpr c56
  clear c56
  by_cases c57 : (rd l2 1) < 1000000000
  ·
   rw [if_pos c57] at H
   have c57b0 := decide_eq_true c57
   clear c57
   obtain ⟨y559, hy559⟩ : ∃ y_ : List Int, y_ = (([(rd_T26 l3 0).f1, wrap64 ((rd l2 1) + 1)] : List Int)) := ⟨_, rfl⟩
   (try rw [← hy559] at H); (try rw [Option.bind_some] at H); (try dsimp only at H)
   have Ny559 := am hy559
   clear hy559
   as_aux_lemma =>
    simp only [Option.some.injEq, Prod.mk.injEq] at H
    obtain ⟨rfl, rfl, rfl⟩ := H
    go_enter Tryz.func21, Tryz.ntmps21
    go_wp2_with (first | ((refine gate_dst (N := 11) rfl ?_); refine bx (N := 11) (cs := #[.int .i64 0, .int .i64 0]) (t := 26) ?_; intro gb523 hg w58 hbox hb; have BK523 := am (hbox); have GW523 := am (gw hg (below_size bl)); have GE523 := am (gw hg (below_size bl)); replace HB := am (below_step bl hb); clear hb hbox hg; have q524 := ix0 (n := l3.length) ode; obtain ⟨ad524, e524, hx524_0, hx524_1⟩ := at_T26 HR3.out 0 (by omega) (of_eq_true q524.2.2); cases e524; (try rw [t0] at hx524_0); (try rw [show 0 * 2 = 0 from rfl] at hx524_0); (try rw [Addr.add_zero'] at hx524_0); (try rw [t0] at hx524_1); (try rw [show 0 * 2 = 0 from rfl] at hx524_1); (try rw [Addr.add_zero'] at hx524_1); replace hx524_0 := hbl HB.out hx524_0; replace hx524_1 := hbl HB.out hx524_1; obtain ⟨qi524, p524, q524⟩ := q524; have q553 := ix1 (n := l2.length) ode; obtain ⟨ad553, e553, hx553_0⟩ := Kd.at_int HR2.out 1 (by omega) (of_eq_true q553.2.2); cases e553; (try simp only [t1, Nat.reduceMul, Nat.reduceEqDiff, Go.Addr.add, ↓reduceIte] at hx553_0); replace hx553_0 := hbl HB.out hx553_0; obtain ⟨qi553, p553, q553⟩ := q553; have q554 := ix1 (n := l3.length) ode; obtain ⟨ad554, e554, hx554_0, hx554_1⟩ := at_T26 HR3.out 1 (by omega) (of_eq_true q554.2.2); obtain rfl : ad524 = ad554 := (by injection e554); (try simp only [t1, Nat.reduceMul, Nat.reduceEqDiff, Go.Addr.add, ↓reduceIte] at hx554_0); (try simp only [t1, Nat.reduceMul, Nat.reduceEqDiff, Go.Addr.add, ↓reduceIte] at hx554_1); replace hx554_0 := hbl HB.out hx554_0; replace hx554_1 := hbl HB.out hx554_1; obtain ⟨qi554, p554, q554⟩ := q554; have q558 := ix0 (n := l2.length) ode; obtain ⟨ad558, e558, hx558_0⟩ := Kd.at_int HR2.out 0 (by omega) (of_eq_true q558.2.2); obtain rfl : ad553 = ad558 := (by injection e558); (try rw [t0] at hx558_0); (try rw [Addr.add_zero'] at hx558_0); replace hx558_0 := hbl HB.out hx558_0; obtain ⟨qi558, p558, q558⟩ := q558) | ((refine gate_dst (N := 85) rfl ?_); refine Kd.R_lit (Kd.int .i64) _ 2 ?hg (N := 85) ?hd (xs := ([(rd_T26 l3 0).f1, wrap64 ((rd l2 1) + 1)] : List Int)) (inner := [.int .i64 ((rd_T26 l3 0).f1), .int .i64 (wrap64 ((rd l2 1) + 1))]) (ok := fun _ => True) (okp := fun _ => True) ?hr ?hp (fun _ hk => hk) trivial (Below.refl _ _) (Nat.le_refl _) (by simp) ?_; (case hd => rfl); (case hg => rfl); (case hr => first | (go_simp; done) | (go_simp; rfl)); (case hp => exact (Reps.one (show Kd.M (Kd.int .i64) _ _ _ ((rd_T26 l3 0).f1) [.int .i64 ((rd_T26 l3 0).f1)] from rfl) (Reps.one (show Kd.M (Kd.int .i64) _ _ _ (wrap64 ((rd l2 1) + 1)) [.int .i64 (wrap64 ((rd l2 1) + 1))] from rfl) (Reps.none _ _)))); intro v560 w59 ho60 hb hg_ hnew_; clear hg_ hnew_; (first | rw [← Ny559.out] at ho60 | (simp only [Int.reduceToNat] at ho60; rw [← Ny559.out] at ho60)); have HO561 := am (Kd.R_lower ho60 (below_size (bs1 GE523.out))); replace BK523 := am (blk_below (rb BK523.out) hb); replace HB := am (below_step (bs1 GE523.out) hb); clear hb ho60; obtain ⟨hcz61_0, hcz61_1, hfz61_0, hfz61_1⟩ := bz2 BK523.out))
    refine bodyPost_ret (results_tc rfl _ _ gb523 26 #[.int .i64 1, .int .i64 (wrap64 (1000 * (wrap64 ((rd l2 1) + 1))))] (0, 0) _ rfl (by refine rb ?_; refine blk_put (cs := #[.int .i64 1, .int .i64 0]) ?_ 1 _ rfl; refine rb ?_; refine blk_put (cs := #[.int .i64 0, .int .i64 0]) ?_ 0 _ rfl; exact rb BK523.out) Tryz.underlying26 rfl (by kernel_rfl)) rfl ?_
    exact ⟨_, ew, rr (Kd.R_mono (Kd.R_far (p := ⟨gb523, 1, none⟩) (Kd.R_far (p := ⟨gb523, 0, none⟩) (Kd.R_types HO561.out BK523.out (by decide)) (fun _ hk => hk.2) (.int .i64 1)) (fun _ hk => hk.2) (.int .i64 (wrap64 (1000 * (wrap64 ((rd l2 1) + 1)))))) (fun _ hk => trivial)), bs1 GE523.out⟩
  rw [if_neg c57] at H
  have c57b0 := decide_eq_false c57
  clear c57
  obtain ⟨y562, hy562⟩ : ∃ y_ : List Int, y_ = (([(rd_T26 l3 0).f1, rd l2 1] : List Int)) := ⟨_, rfl⟩
  (try rw [← hy562] at H); (try rw [Option.bind_some] at H); (try dsimp only at H)
  have Ny562 := am hy562
  clear hy562
  as_aux_lemma =>
   simp only [Option.some.injEq, Prod.mk.injEq] at H
   obtain ⟨rfl, rfl, rfl⟩ := H
   go_enter Tryz.func21, Tryz.ntmps21
   go_wp2_with (first | ((refine gate_dst (N := 11) rfl ?_); refine bx (N := 11) (cs := #[.int .i64 0, .int .i64 0]) (t := 26) ?_; intro gb523 hg w62 hbox hb; have BK523 := am (hbox); have GW523 := am (gw hg (below_size bl)); have GE523 := am (gw hg (below_size bl)); replace HB := am (below_step bl hb); clear hb hbox hg; have q524 := ix0 (n := l3.length) ode; obtain ⟨ad524, e524, hx524_0, hx524_1⟩ := at_T26 HR3.out 0 (by omega) (of_eq_true q524.2.2); cases e524; (try rw [t0] at hx524_0); (try rw [show 0 * 2 = 0 from rfl] at hx524_0); (try rw [Addr.add_zero'] at hx524_0); (try rw [t0] at hx524_1); (try rw [show 0 * 2 = 0 from rfl] at hx524_1); (try rw [Addr.add_zero'] at hx524_1); replace hx524_0 := hbl HB.out hx524_0; replace hx524_1 := hbl HB.out hx524_1; obtain ⟨qi524, p524, q524⟩ := q524; have q553 := ix1 (n := l2.length) ode; obtain ⟨ad553, e553, hx553_0⟩ := Kd.at_int HR2.out 1 (by omega) (of_eq_true q553.2.2); cases e553; (try simp only [t1, Nat.reduceMul, Nat.reduceEqDiff, Go.Addr.add, ↓reduceIte] at hx553_0); replace hx553_0 := hbl HB.out hx553_0; obtain ⟨qi553, p553, q553⟩ := q553; have q554 := ix1 (n := l3.length) ode; obtain ⟨ad554, e554, hx554_0, hx554_1⟩ := at_T26 HR3.out 1 (by omega) (of_eq_true q554.2.2); obtain rfl : ad524 = ad554 := (by injection e554); (try simp only [t1, Nat.reduceMul, Nat.reduceEqDiff, Go.Addr.add, ↓reduceIte] at hx554_0); (try simp only [t1, Nat.reduceMul, Nat.reduceEqDiff, Go.Addr.add, ↓reduceIte] at hx554_1); replace hx554_0 := hbl HB.out hx554_0; replace hx554_1 := hbl HB.out hx554_1; obtain ⟨qi554, p554, q554⟩ := q554; have q558 := ix0 (n := l2.length) ode; obtain ⟨ad558, e558, hx558_0⟩ := Kd.at_int HR2.out 0 (by omega) (of_eq_true q558.2.2); obtain rfl : ad553 = ad558 := (by injection e558); (try rw [t0] at hx558_0); (try rw [Addr.add_zero'] at hx558_0); replace hx558_0 := hbl HB.out hx558_0; obtain ⟨qi558, p558, q558⟩ := q558) | ((refine gate_dst (N := 85) rfl ?_); refine Kd.R_lit (Kd.int .i64) _ 2 ?hg (N := 85) ?hd (xs := ([(rd_T26 l3 0).f1, rd l2 1] : List Int)) (inner := [.int .i64 ((rd_T26 l3 0).f1), .int .i64 (rd l2 1)]) (ok := fun _ => True) (okp := fun _ => True) ?hr ?hp (fun _ hk => hk) trivial (Below.refl _ _) (Nat.le_refl _) (by simp) ?_; (case hd => rfl); (case hg => rfl); (case hr => first | (go_simp; done) | (go_simp; rfl)); (case hp => exact (Reps.one (show Kd.M (Kd.int .i64) _ _ _ ((rd_T26 l3 0).f1) [.int .i64 ((rd_T26 l3 0).f1)] from rfl) (Reps.one (show Kd.M (Kd.int .i64) _ _ _ (rd l2 1) [.int .i64 (rd l2 1)] from rfl) (Reps.none _ _)))); intro v563 w63 ho64 hb hg_ hnew_; clear hg_ hnew_; (first | rw [← Ny562.out] at ho64 | (simp only [Int.reduceToNat] at ho64; rw [← Ny562.out] at ho64)); have HO564 := am (Kd.R_lower ho64 (below_size (bs1 GE523.out))); replace BK523 := am (blk_below (rb BK523.out) hb); replace HB := am (below_step (bs1 GE523.out) hb); clear hb ho64; obtain ⟨hcz65_0, hcz65_1, hfz65_0, hfz65_1⟩ := bz2 BK523.out))
   refine bodyPost_ret (results_tc rfl _ _ gb523 26 #[.int .i64 1, .int .i64 (wrap64 (1000 * (rd l2 1)))] (0, 0) _ rfl (by refine rb ?_; refine blk_put (cs := #[.int .i64 1, .int .i64 0]) ?_ 1 _ rfl; refine rb ?_; refine blk_put (cs := #[.int .i64 0, .int .i64 0]) ?_ 0 _ rfl; exact rb BK523.out) Tryz.underlying26 rfl (by kernel_rfl)) rfl ?_
   exact ⟨_, ew, rr (Kd.R_mono (Kd.R_far (p := ⟨gb523, 1, none⟩) (Kd.R_far (p := ⟨gb523, 0, none⟩) (Kd.R_types HO564.out BK523.out (by decide)) (fun _ hk => hk.2) (.int .i64 1)) (fun _ hk => hk.2) (.int .i64 (wrap64 (1000 * (rd l2 1))))) (fun _ hk => trivial)), bs1 GE523.out⟩
 rw [if_neg c46] at H
 have c46b0 := beq_eq_false_iff_ne.mpr c46
 have c46b1 := bne_iff_ne.mpr c46
 by_cases c74 : a0.toList = ([104, 121, 115, 116] : List UInt8)
 ·
  rw [if_pos c74] at H
  have c74b0 := beq_iff_eq.mpr c74
  have c74b1 := bne_eq_false_iff_eq.mpr c74
  clear c74
  have c75 := oi H; rw [if_pos c75] at H
  have c75b0 := decide_eq_true c75
  have c75b1 : decide (0 < l2.length) = true := decide_eq_true (by omega)
  clear c75
  have c76 := oi H; rw [if_pos c76] at H
  have c76b0 := decide_eq_true c76
  have c76b1 : decide (0 < l1.length) = true := decide_eq_true (by omega)
  clear c76
  by_cases c77 : ((rd_T26 l3 0).f1) > (rd l1 0)
  ·
   rw [if_pos c77] at H
   have c77b0 : decide ((rd l1 0) < ((rd_T26 l3 0).f1)) = true := decide_eq_true c77
   clear c77
   obtain ⟨y573, hy573⟩ : ∃ y_ : List Int, y_ = (([1] : List Int)) := ⟨_, rfl⟩
   (try rw [← hy573] at H); (try rw [Option.bind_some] at H); (try dsimp only at H)
   have Ny573 := am hy573
   clear hy573
   obtain ⟨⟨t576, t577⟩, A78, H⟩ := Option.bind_eq_some_iff.mp H
   (try dsimp only at H)
   replace A78 := am A78
   as_aux_lemma =>
    simp only [Option.some.injEq, Prod.mk.injEq] at H
    obtain ⟨rfl, rfl, rfl⟩ := H
    go_enter Tryz.func21, Tryz.ntmps21
    go_wp2_with (first | ((refine gate_dst (N := 11) rfl ?_); refine bx (N := 11) (cs := #[.int .i64 0, .int .i64 0]) (t := 26) ?_; intro gb523 hg w79 hbox hb; have BK523 := am (hbox); have GW523 := am (gw hg (below_size bl)); have GE523 := am (gw hg (below_size bl)); replace HB := am (below_step bl hb); clear hb hbox hg; have q524 := ix0 (n := l3.length) ode; obtain ⟨ad524, e524, hx524_0, hx524_1⟩ := at_T26 HR3.out 0 (by omega) (of_eq_true q524.2.2); cases e524; (try rw [t0] at hx524_0); (try rw [show 0 * 2 = 0 from rfl] at hx524_0); (try rw [Addr.add_zero'] at hx524_0); (try rw [t0] at hx524_1); (try rw [show 0 * 2 = 0 from rfl] at hx524_1); (try rw [Addr.add_zero'] at hx524_1); replace hx524_0 := hbl HB.out hx524_0; replace hx524_1 := hbl HB.out hx524_1; obtain ⟨qi524, p524, q524⟩ := q524; have q571 := ix0 (n := l2.length) ode; obtain ⟨ad571, e571, hx571_0⟩ := Kd.at_int HR2.out 0 (by omega) (of_eq_true q571.2.2); cases e571; (try rw [t0] at hx571_0); (try rw [Addr.add_zero'] at hx571_0); replace hx571_0 := hbl HB.out hx571_0; obtain ⟨qi571, p571, q571⟩ := q571; have q572 := ix0 (n := l1.length) ode; obtain ⟨ad572, e572, hx572_0⟩ := Kd.at_int HR1.out 0 (by omega) (of_eq_true q572.2.2); cases e572; (try rw [t0] at hx572_0); (try rw [Addr.add_zero'] at hx572_0); replace hx572_0 := hbl HB.out hx572_0; obtain ⟨qi572, p572, q572⟩ := q572) | ((refine gate_dst (N := 105) rfl ?_); refine Kd.R_lit (Kd.int .i64) _ 2 ?hg (N := 105) ?hd (xs := ([1] : List Int)) (inner := [.int .i64 1]) (ok := fun _ => True) (okp := fun _ => True) ?hr ?hp (fun _ hk => hk) trivial (Below.refl _ _) (Nat.le_refl _) (by simp) ?_; (case hd => rfl); (case hg => rfl); (case hr => first | (go_simp; done) | (go_simp; rfl)); (case hp => exact (Reps.one (show Kd.M (Kd.int .i64) _ _ _ 1 [.int .i64 1] from rfl) (Reps.none _ _))); intro v574 w80 ho81 hb hg_ hnew_; clear hg_ hnew_; (first | rw [← Ny573.out] at ho81 | (simp only [Int.reduceToNat] at ho81; rw [← Ny573.out] at ho81)); have HO575 := am (Kd.R_lower ho81 (below_size (bs1 GE523.out))); replace BK523 := am (blk_below (rb BK523.out) hb); replace HB := am (below_step (bs1 GE523.out) hb); clear hb ho81) | ((refine gate_callee (f := 39) rfl ?_); refine gl (some 107) Tryz.func39 #[.int .i64 1] ?_; (with_reducible refine (plenumref19_binary.calls 1 t576 t577 _ A78.out).mono ?_); rintro e w82 ⟨rfl, hb⟩; refine ⟨_, rfl, ?_⟩; replace HO575 := am (Kd.R_below (rr HO575.out) hb); replace BK523 := am (blk_below (rb BK523.out) hb); replace HB := am (below_step (bs1 GE523.out) hb); (try clear hb); (try clear hb2); (try clear hk); (try clear hi); obtain ⟨hcz83_0, hcz83_1, hfz83_0, hfz83_1⟩ := bz2 BK523.out))
    refine bodyPost_ret (results_tc rfl _ _ gb523 26 #[.int .i64 t576, .int .i64 t577] (0, 0) _ rfl (by refine rb ?_; refine blk_put (cs := #[.int .i64 t576, .int .i64 0]) ?_ 1 _ rfl; refine rb ?_; refine blk_put (cs := #[.int .i64 0, .int .i64 0]) ?_ 0 _ rfl; exact rb BK523.out) Tryz.underlying26 rfl (by kernel_rfl)) rfl ?_
    exact ⟨_, ew, rr (Kd.R_mono (Kd.R_far (p := ⟨gb523, 1, none⟩) (Kd.R_far (p := ⟨gb523, 0, none⟩) (Kd.R_types HO575.out BK523.out (by decide)) (fun _ hk => hk.2) (.int .i64 t576)) (fun _ hk => hk.2) (.int .i64 t577)) (fun _ hk => trivial)), bs1 GE523.out⟩
  rw [if_neg c77] at H
  have c77b0 : decide ((rd l1 0) < ((rd_T26 l3 0).f1)) = false := decide_eq_false c77
  clear c77
  have c84 := oi H; rw [if_pos c84] at H
  have c84b0 := decide_eq_true c84
  have c84b1 : decide (1 < l1.length) = true := decide_eq_true (by omega)
  clear c84
  by_cases c85 : ((rd_T26 l3 0).f1) < (rd l1 1)
  ·
   rw [if_pos c85] at H
   have c85b0 := decide_eq_true c85
   clear c85
   obtain ⟨y579, hy579⟩ : ∃ y_ : List Int, y_ = (([0] : List Int)) := ⟨_, rfl⟩
   (try rw [← hy579] at H); (try rw [Option.bind_some] at H); (try dsimp only at H)
   have Ny579 := am hy579
   clear hy579
   obtain ⟨⟨t582, t583⟩, A86, H⟩ := Option.bind_eq_some_iff.mp H
   (try dsimp only at H)
   replace A86 := am A86
   as_aux_lemma =>
    simp only [Option.some.injEq, Prod.mk.injEq] at H
    obtain ⟨rfl, rfl, rfl⟩ := H
    go_enter Tryz.func21, Tryz.ntmps21
    go_wp2_with (first | ((refine gate_dst (N := 11) rfl ?_); refine bx (N := 11) (cs := #[.int .i64 0, .int .i64 0]) (t := 26) ?_; intro gb523 hg w87 hbox hb; have BK523 := am (hbox); have GW523 := am (gw hg (below_size bl)); have GE523 := am (gw hg (below_size bl)); replace HB := am (below_step bl hb); clear hb hbox hg; have q524 := ix0 (n := l3.length) ode; obtain ⟨ad524, e524, hx524_0, hx524_1⟩ := at_T26 HR3.out 0 (by omega) (of_eq_true q524.2.2); cases e524; (try rw [t0] at hx524_0); (try rw [show 0 * 2 = 0 from rfl] at hx524_0); (try rw [Addr.add_zero'] at hx524_0); (try rw [t0] at hx524_1); (try rw [show 0 * 2 = 0 from rfl] at hx524_1); (try rw [Addr.add_zero'] at hx524_1); replace hx524_0 := hbl HB.out hx524_0; replace hx524_1 := hbl HB.out hx524_1; obtain ⟨qi524, p524, q524⟩ := q524; have q571 := ix0 (n := l2.length) ode; obtain ⟨ad571, e571, hx571_0⟩ := Kd.at_int HR2.out 0 (by omega) (of_eq_true q571.2.2); cases e571; (try rw [t0] at hx571_0); (try rw [Addr.add_zero'] at hx571_0); replace hx571_0 := hbl HB.out hx571_0; obtain ⟨qi571, p571, q571⟩ := q571; have q572 := ix0 (n := l1.length) ode; obtain ⟨ad572, e572, hx572_0⟩ := Kd.at_int HR1.out 0 (by omega) (of_eq_true q572.2.2); cases e572; (try rw [t0] at hx572_0); (try rw [Addr.add_zero'] at hx572_0); replace hx572_0 := hbl HB.out hx572_0; obtain ⟨qi572, p572, q572⟩ := q572; have q578 := ix1 (n := l1.length) ode; obtain ⟨ad578, e578, hx578_0⟩ := Kd.at_int HR1.out 1 (by omega) (of_eq_true q578.2.2); obtain rfl : ad572 = ad578 := (by injection e578); (try simp only [t1, Nat.reduceMul, Nat.reduceEqDiff, Go.Addr.add, ↓reduceIte] at hx578_0); replace hx578_0 := hbl HB.out hx578_0; obtain ⟨qi578, p578, q578⟩ := q578) | ((refine gate_dst (N := 105) rfl ?_); refine Kd.R_lit (Kd.int .i64) _ 2 ?hg (N := 105) ?hd (xs := ([0] : List Int)) (inner := [.int .i64 0]) (ok := fun _ => True) (okp := fun _ => True) ?hr ?hp (fun _ hk => hk) trivial (Below.refl _ _) (Nat.le_refl _) (by simp) ?_; (case hd => rfl); (case hg => rfl); (case hr => first | (go_simp; done) | (go_simp; rfl)); (case hp => exact (Reps.one (show Kd.M (Kd.int .i64) _ _ _ 0 [.int .i64 0] from rfl) (Reps.none _ _))); intro v580 w88 ho89 hb hg_ hnew_; clear hg_ hnew_; (first | rw [← Ny579.out] at ho89 | (simp only [Int.reduceToNat] at ho89; rw [← Ny579.out] at ho89)); have HO581 := am (Kd.R_lower ho89 (below_size (bs1 GE523.out))); replace BK523 := am (blk_below (rb BK523.out) hb); replace HB := am (below_step (bs1 GE523.out) hb); clear hb ho89) | ((refine gate_callee (f := 39) rfl ?_); refine gl (some 107) Tryz.func39 #[.int .i64 0] ?_; (with_reducible refine (plenumref19_binary.calls 0 t582 t583 _ A86.out).mono ?_); rintro e w90 ⟨rfl, hb⟩; refine ⟨_, rfl, ?_⟩; replace HO581 := am (Kd.R_below (rr HO581.out) hb); replace BK523 := am (blk_below (rb BK523.out) hb); replace HB := am (below_step (bs1 GE523.out) hb); (try clear hb); (try clear hb2); (try clear hk); (try clear hi); obtain ⟨hcz91_0, hcz91_1, hfz91_0, hfz91_1⟩ := bz2 BK523.out))
    refine bodyPost_ret (results_tc rfl _ _ gb523 26 #[.int .i64 t582, .int .i64 t583] (0, 0) _ rfl (by refine rb ?_; refine blk_put (cs := #[.int .i64 t582, .int .i64 0]) ?_ 1 _ rfl; refine rb ?_; refine blk_put (cs := #[.int .i64 0, .int .i64 0]) ?_ 0 _ rfl; exact rb BK523.out) Tryz.underlying26 rfl (by kernel_rfl)) rfl ?_
    exact ⟨_, ew, rr (Kd.R_mono (Kd.R_far (p := ⟨gb523, 1, none⟩) (Kd.R_far (p := ⟨gb523, 0, none⟩) (Kd.R_types HO581.out BK523.out (by decide)) (fun _ hk => hk.2) (.int .i64 t582)) (fun _ hk => hk.2) (.int .i64 t583)) (fun _ hk => trivial)), bs1 GE523.out⟩
  rw [if_neg c85] at H
  have c85b0 := decide_eq_false c85
  clear c85
  obtain ⟨y584, hy584⟩ : ∃ y_ : List Int, y_ = (([rd l2 0] : List Int)) := ⟨_, rfl⟩
  (try rw [← hy584] at H); (try rw [Option.bind_some] at H); (try dsimp only at H)
  have Ny584 := am hy584
  clear hy584
  obtain ⟨⟨t587, t588⟩, A92, H⟩ := Option.bind_eq_some_iff.mp H
  (try dsimp only at H)
  replace A92 := am A92
  as_aux_lemma =>
   simp only [Option.some.injEq, Prod.mk.injEq] at H
   obtain ⟨rfl, rfl, rfl⟩ := H
   go_enter Tryz.func21, Tryz.ntmps21
   go_wp2_with (first | ((refine gate_dst (N := 11) rfl ?_); refine bx (N := 11) (cs := #[.int .i64 0, .int .i64 0]) (t := 26) ?_; intro gb523 hg w93 hbox hb; have BK523 := am (hbox); have GW523 := am (gw hg (below_size bl)); have GE523 := am (gw hg (below_size bl)); replace HB := am (below_step bl hb); clear hb hbox hg; have q524 := ix0 (n := l3.length) ode; obtain ⟨ad524, e524, hx524_0, hx524_1⟩ := at_T26 HR3.out 0 (by omega) (of_eq_true q524.2.2); cases e524; (try rw [t0] at hx524_0); (try rw [show 0 * 2 = 0 from rfl] at hx524_0); (try rw [Addr.add_zero'] at hx524_0); (try rw [t0] at hx524_1); (try rw [show 0 * 2 = 0 from rfl] at hx524_1); (try rw [Addr.add_zero'] at hx524_1); replace hx524_0 := hbl HB.out hx524_0; replace hx524_1 := hbl HB.out hx524_1; obtain ⟨qi524, p524, q524⟩ := q524; have q571 := ix0 (n := l2.length) ode; obtain ⟨ad571, e571, hx571_0⟩ := Kd.at_int HR2.out 0 (by omega) (of_eq_true q571.2.2); cases e571; (try rw [t0] at hx571_0); (try rw [Addr.add_zero'] at hx571_0); replace hx571_0 := hbl HB.out hx571_0; obtain ⟨qi571, p571, q571⟩ := q571; have q572 := ix0 (n := l1.length) ode; obtain ⟨ad572, e572, hx572_0⟩ := Kd.at_int HR1.out 0 (by omega) (of_eq_true q572.2.2); cases e572; (try rw [t0] at hx572_0); (try rw [Addr.add_zero'] at hx572_0); replace hx572_0 := hbl HB.out hx572_0; obtain ⟨qi572, p572, q572⟩ := q572; have q578 := ix1 (n := l1.length) ode; obtain ⟨ad578, e578, hx578_0⟩ := Kd.at_int HR1.out 1 (by omega) (of_eq_true q578.2.2); obtain rfl : ad572 = ad578 := (by injection e578); (try simp only [t1, Nat.reduceMul, Nat.reduceEqDiff, Go.Addr.add, ↓reduceIte] at hx578_0); replace hx578_0 := hbl HB.out hx578_0; obtain ⟨qi578, p578, q578⟩ := q578) | ((refine gate_dst (N := 105) rfl ?_); refine Kd.R_lit (Kd.int .i64) _ 2 ?hg (N := 105) ?hd (xs := ([rd l2 0] : List Int)) (inner := [.int .i64 (rd l2 0)]) (ok := fun _ => True) (okp := fun _ => True) ?hr ?hp (fun _ hk => hk) trivial (Below.refl _ _) (Nat.le_refl _) (by simp) ?_; (case hd => rfl); (case hg => rfl); (case hr => first | (go_simp; done) | (go_simp; rfl)); (case hp => exact (Reps.one (show Kd.M (Kd.int .i64) _ _ _ (rd l2 0) [.int .i64 (rd l2 0)] from rfl) (Reps.none _ _))); intro v585 w94 ho95 hb hg_ hnew_; clear hg_ hnew_; (first | rw [← Ny584.out] at ho95 | (simp only [Int.reduceToNat] at ho95; rw [← Ny584.out] at ho95)); have HO586 := am (Kd.R_lower ho95 (below_size (bs1 GE523.out))); replace BK523 := am (blk_below (rb BK523.out) hb); replace HB := am (below_step (bs1 GE523.out) hb); clear hb ho95) | ((refine gate_callee (f := 39) rfl ?_); refine gl (some 107) Tryz.func39 #[.int .i64 (rd l2 0)] ?_; (with_reducible refine (plenumref19_binary.calls (rd l2 0) t587 t588 _ A92.out).mono ?_); rintro e w96 ⟨rfl, hb⟩; refine ⟨_, rfl, ?_⟩; replace HO586 := am (Kd.R_below (rr HO586.out) hb); replace BK523 := am (blk_below (rb BK523.out) hb); replace HB := am (below_step (bs1 GE523.out) hb); (try clear hb); (try clear hb2); (try clear hk); (try clear hi); obtain ⟨hcz97_0, hcz97_1, hfz97_0, hfz97_1⟩ := bz2 BK523.out))
   refine bodyPost_ret (results_tc rfl _ _ gb523 26 #[.int .i64 t587, .int .i64 t588] (0, 0) _ rfl (by refine rb ?_; refine blk_put (cs := #[.int .i64 t587, .int .i64 0]) ?_ 1 _ rfl; refine rb ?_; refine blk_put (cs := #[.int .i64 0, .int .i64 0]) ?_ 0 _ rfl; exact rb BK523.out) Tryz.underlying26 rfl (by kernel_rfl)) rfl ?_
   exact ⟨_, ew, rr (Kd.R_mono (Kd.R_far (p := ⟨gb523, 1, none⟩) (Kd.R_far (p := ⟨gb523, 0, none⟩) (Kd.R_types HO586.out BK523.out (by decide)) (fun _ hk => hk.2) (.int .i64 t587)) (fun _ hk => hk.2) (.int .i64 t588)) (fun _ hk => trivial)), bs1 GE523.out⟩
 rw [if_neg c74] at H
 have c74b0 := beq_eq_false_iff_ne.mpr c74
 have c74b1 := bne_iff_ne.mpr c74
 by_cases c98 : a0.toList = ([111, 110, 100, 101, 108, 97, 121] : List UInt8)
 ·
  rw [if_pos c98] at H
  have c98b0 := beq_iff_eq.mpr c98
  have c98b1 := bne_eq_false_iff_eq.mpr c98
  clear c98
  by_cases c99 : ((rd_T26 l3 0).f1) = 0
  ·
   rw [if_pos c99] at H
   have c99b0 := beq_iff_eq.mpr c99
   have c99b1 := bne_eq_false_iff_eq.mpr c99
   clear c99
   obtain ⟨y589, hy589⟩ : ∃ y_ : List Int, y_ = (([0] : List Int)) := ⟨_, rfl⟩
   (try rw [← hy589] at H); (try rw [Option.bind_some] at H); (try dsimp only at H)
   have Ny589 := am hy589
   clear hy589
   obtain ⟨⟨t592, t593⟩, A100, H⟩ := Option.bind_eq_some_iff.mp H
   (try dsimp only at H)
   replace A100 := am A100
   as_aux_lemma =>
    simp only [Option.some.injEq, Prod.mk.injEq] at H
    obtain ⟨rfl, rfl, rfl⟩ := H
    go_enter Tryz.func21, Tryz.ntmps21
    go_wp2_with (first | ((refine gate_dst (N := 11) rfl ?_); refine bx (N := 11) (cs := #[.int .i64 0, .int .i64 0]) (t := 26) ?_; intro gb523 hg w101 hbox hb; have BK523 := am (hbox); have GW523 := am (gw hg (below_size bl)); have GE523 := am (gw hg (below_size bl)); replace HB := am (below_step bl hb); clear hb hbox hg; have q524 := ix0 (n := l3.length) ode; obtain ⟨ad524, e524, hx524_0, hx524_1⟩ := at_T26 HR3.out 0 (by omega) (of_eq_true q524.2.2); cases e524; (try rw [t0] at hx524_0); (try rw [show 0 * 2 = 0 from rfl] at hx524_0); (try rw [Addr.add_zero'] at hx524_0); (try rw [t0] at hx524_1); (try rw [show 0 * 2 = 0 from rfl] at hx524_1); (try rw [Addr.add_zero'] at hx524_1); replace hx524_0 := hbl HB.out hx524_0; replace hx524_1 := hbl HB.out hx524_1; obtain ⟨qi524, p524, q524⟩ := q524) | ((refine gate_dst (N := 112) rfl ?_); refine Kd.R_lit (Kd.int .i64) _ 2 ?hg (N := 112) ?hd (xs := ([0] : List Int)) (inner := [.int .i64 0]) (ok := fun _ => True) (okp := fun _ => True) ?hr ?hp (fun _ hk => hk) trivial (Below.refl _ _) (Nat.le_refl _) (by simp) ?_; (case hd => rfl); (case hg => rfl); (case hr => first | (go_simp; done) | (go_simp; rfl)); (case hp => exact (Reps.one (show Kd.M (Kd.int .i64) _ _ _ 0 [.int .i64 0] from rfl) (Reps.none _ _))); intro v590 w102 ho103 hb hg_ hnew_; clear hg_ hnew_; (first | rw [← Ny589.out] at ho103 | (simp only [Int.reduceToNat] at ho103; rw [← Ny589.out] at ho103)); have HO591 := am (Kd.R_lower ho103 (below_size (bs1 GE523.out))); replace BK523 := am (blk_below (rb BK523.out) hb); replace HB := am (below_step (bs1 GE523.out) hb); clear hb ho103) | ((refine gate_callee (f := 39) rfl ?_); refine gl (some 113) Tryz.func39 #[.int .i64 0] ?_; (with_reducible refine (plenumref19_binary.calls 0 t592 t593 _ A100.out).mono ?_); rintro e w104 ⟨rfl, hb⟩; refine ⟨_, rfl, ?_⟩; replace HO591 := am (Kd.R_below (rr HO591.out) hb); replace BK523 := am (blk_below (rb BK523.out) hb); replace HB := am (below_step (bs1 GE523.out) hb); (try clear hb); (try clear hb2); (try clear hk); (try clear hi); obtain ⟨hcz105_0, hcz105_1, hfz105_0, hfz105_1⟩ := bz2 BK523.out))
    refine bodyPost_ret (results_tc rfl _ _ gb523 26 #[.int .i64 t592, .int .i64 t593] (0, 0) _ rfl (by refine rb ?_; refine blk_put (cs := #[.int .i64 t592, .int .i64 0]) ?_ 1 _ rfl; refine rb ?_; refine blk_put (cs := #[.int .i64 0, .int .i64 0]) ?_ 0 _ rfl; exact rb BK523.out) Tryz.underlying26 rfl (by kernel_rfl)) rfl ?_
    exact ⟨_, ew, rr (Kd.R_mono (Kd.R_far (p := ⟨gb523, 1, none⟩) (Kd.R_far (p := ⟨gb523, 0, none⟩) (Kd.R_types HO591.out BK523.out (by decide)) (fun _ hk => hk.2) (.int .i64 t592)) (fun _ hk => hk.2) (.int .i64 t593)) (fun _ hk => trivial)), bs1 GE523.out⟩
  rw [if_neg c99] at H
  have c99b0 := beq_eq_false_iff_ne.mpr c99
  have c99b1 := bne_iff_ne.mpr c99
  have c106 := oi H; rw [if_pos c106] at H
  have c106b0 := decide_eq_true c106
  have c106b1 : decide (0 < l2.length) = true := decide_eq_true (by omega)
  clear c106
  have HC107 := am H
  clear H
  go_enter Tryz.func21, Tryz.ntmps21
  go_upto_if 117 with (first | ((refine gate_dst (N := 11) rfl ?_); refine bx (N := 11) (cs := #[.int .i64 0, .int .i64 0]) (t := 26) ?_; intro gb523 hg w108 hbox hb; have BK523 := am (hbox); have GW523 := am (gw hg (below_size bl)); have GE523 := am (gw hg (below_size bl)); replace HB := am (below_step bl hb); clear hb hbox hg; have q524 := ix0 (n := l3.length) ode; obtain ⟨ad524, e524, hx524_0, hx524_1⟩ := at_T26 HR3.out 0 (by omega) (of_eq_true q524.2.2); cases e524; (try rw [t0] at hx524_0); (try rw [show 0 * 2 = 0 from rfl] at hx524_0); (try rw [Addr.add_zero'] at hx524_0); (try rw [t0] at hx524_1); (try rw [show 0 * 2 = 0 from rfl] at hx524_1); (try rw [Addr.add_zero'] at hx524_1); replace hx524_0 := hbl HB.out hx524_0; replace hx524_1 := hbl HB.out hx524_1; obtain ⟨qi524, p524, q524⟩ := q524; have q594 := ix0 (n := l2.length) ode; obtain ⟨ad594, e594, hx594_0⟩ := Kd.at_int HR2.out 0 (by omega) (of_eq_true q594.2.2); cases e594; (try rw [t0] at hx594_0); (try rw [Addr.add_zero'] at hx594_0); replace hx594_0 := hbl HB.out hx594_0; obtain ⟨qi594, p594, q594⟩ := q594))
  (try simp only [ap, sa, sb, sc])
  go_cut [17] (fun v17 wc => ∃ (kq : Nat) (x17_106 : Int), v17 = .int .i64 x17_106 ∧ Aside0 (plenumref19_step.j1 kq l1 x17_106 = some (r1, r2, r3)) ∧ Aside0 (kq ≤ k) ∧ Aside0 (wc.heap[gb523]? = some (.cells #[.int .i64 0, .int .i64 0] 26 (0, 0))) ∧ Aside0 (Below w.heap.size w wc))
  case first =>
   have H := HC107.out
   clear HC107
   by_cases c109 : (rd l2 0) > 0
   rotate_left
   ·
    rw [if_neg c109] at H
    have c109b0 : decide (0 < (rd l2 0)) = false := decide_eq_false c109
    clear c109
    (first | rw [c109b0] | (simp only [i64_w, i32_w]; rw [c109b0]) | skip)
    as_aux_lemma =>
     have H' := am H
     clear H
     go_wp2
     go_meet
     case rel => exact ⟨_, (0), (by first | rfl | (simp; done) | (simp [*]; done)), H', ⟨by first | omega | exact Nat.le_refl _⟩, ⟨rb BK523.out⟩, ⟨bs1 GE523.out⟩⟩
   rw [if_pos c109] at H
   have c109b0 : decide (0 < (rd l2 0)) = true := decide_eq_true c109
   clear c109
   (first | rw [c109b0] | (simp only [i64_w, i32_w]; rw [c109b0]) | skip)
   have c110 := oi H; rw [if_pos c110] at H
   have c110b0 := decide_eq_true c110
   have c110b1 : decide (0 < l1.length) = true := decide_eq_true (by omega)
   clear c110
   obtain ⟨ji111, hji111⟩ : ∃ j_ : Int, (mn (wrap64 ((wrap64 ((rd l2 0) - 1)) + a4)) (rd l1 0)) = j_ := ⟨_, rfl⟩
   replace H : (plenumref19_step.j1 k l1 ji111) = some (r1, r2, r3) := by first | (rw [hji111] at H; exact H) | (simp only [hji111] at H ⊢; exact H)
   have hji111_ : (if (rd l1 0) < (wrap64 ((wrap64 ((rd l2 0) - 1)) + a4)) then (rd l1 0) else (wrap64 ((wrap64 ((rd l2 0) - 1)) + a4))) = ji111 := hji111
   as_aux_lemma =>
    have H' := am H
    clear H
    try go_wp2
    have n0_ := am (blk_drew BK523.out)
    have n1_ := am (below_drew1 HB.out)
    revert n0_ n1_; clear BK523 HB; intro BK523 HB
    have p595 : 0 ≤ (0 : Int) := (by omega); have q595 : 0 < (l2.length : Int) := ode; obtain ⟨ad595, e595, hx595_0⟩ := Kd.at_int HR2.out 0 p595 q595
    have hw595_0 := hx595_0
    (try rw [t0] at hw595_0); (try rw [show 0 * 1 = 0 from rfl] at hw595_0); (try rw [Addr.add_zero'] at hw595_0); obtain rfl : ad594 = ad595 := (by injection e595); have qi595 : (0 < l2.length) = True := eq_true (by omega); (try rw [t0] at hx595_0); (try rw [Addr.add_zero'] at hx595_0); replace hx595_0 := hbl HB.out hx595_0; replace p595 := eq_true p595; replace q595 := eq_true q595; have p596 : 0 ≤ (0 : Int) := (by omega); have q596 : 0 < (l1.length : Int) := ode; obtain ⟨ad596, e596, hx596_0⟩ := Kd.at_int HR1.out 0 p596 q596
    have hw596_0 := hx596_0
    (try rw [t0] at hw596_0); (try rw [show 0 * 1 = 0 from rfl] at hw596_0); (try rw [Addr.add_zero'] at hw596_0); cases e596; have qi596 : (0 < l1.length) = True := eq_true (by omega); (try rw [t0] at hx596_0); (try rw [Addr.add_zero'] at hx596_0); replace hx596_0 := hbl HB.out hx596_0; replace p596 := eq_true p596; replace q596 := eq_true q596
    refine start_ (n := 11) (S := fun w' => w'.cell? ad594 = some (.int .i64 (rd l2 0)) ∧ w'.cell? ad596 = some (.int .i64 (rd l1 0))) (ds := []) #[F, F, F, F, F, F, F, F, F, F, F] (by kernel_rfl) rfl rfl ⟨(hbl HB.out hw595_0), (hbl HB.out hw596_0)⟩ (fun hHeld => ?_); refine with_tabW plenumref19_step.tab34 plenumref19_step.bits34 (fun HT_ HW_ => ?_)
    generalize w108.drew = w112 at BK523 HB hx595_0 hx596_0 hHeld ⊢
    refine pure_ (i := 0) (N := some 118) (v := ?_) (a' := ?_) #[T, F, F, F, F, F, F, F, F, F, F] rfl rfl (any_of HT_.out (by kernel_rfl)) (fun _ _ _ h => h) (Or.inl ⟨by rfl, ?_⟩) ?_ ?_
    rotate_left
    ·
     intro w'
     go_simp
     with_reducible rfl
    rotate_left
    ·
     simp only [ap, sa, sb, sc, i64_w, i32_w]
     rfl
    refine pure_ (i := 1) (N := some 119) (v := ?_) (a' := ?_) #[T, T, F, F, F, F, F, F, F, F, F] rfl rfl (any_of HT_.out (by kernel_rfl)) (fun _ _ _ h => h) (Or.inl ⟨by rfl, ?_⟩) ?_ ?_
    rotate_left
    ·
     intro w'
     go_simp
     with_reducible rfl
    rotate_left
    ·
     simp only [ap, sa, sb, sc, i64_w, i32_w]
     rfl
    refine pure_ (i := 4) (N := some 122) (v := ?_) (a' := ?_) #[T, T, F, F, T, F, F, F, F, F, F] rfl rfl (any_of HT_.out (by kernel_rfl)) (fun _ _ _ h => h) (Or.inl ⟨by rfl, ?_⟩) ?_ ?_
    rotate_left
    ·
     intro w'
     go_simp
     with_reducible rfl
    rotate_left
    ·
     simp only [ap, sa, sb, sc, i64_w, i32_w]
     rfl
    refine pure_ (i := 6) (N := some 124) (v := ?_) (a' := ?_) #[T, T, F, F, T, F, T, F, F, F, F] rfl rfl (any_of HT_.out (by kernel_rfl)) (fun _ _ _ h => h) (Or.inl ⟨by rfl, ?_⟩) ?_ ?_
    rotate_left
    ·
     intro w'
     go_simp
     with_reducible rfl
    rotate_left
    ·
     simp only [ap, sa, sb, sc, i64_w, i32_w]
     rfl
    refine pure_ (i := 7) (N := some 125) (v := ?_) (a' := ?_) #[T, T, F, F, T, F, T, T, F, F, F] rfl rfl (any_of HT_.out (by kernel_rfl)) (fun _ _ _ h => h) (Or.inl ⟨by rfl, ?_⟩) ?_ ?_
    rotate_left
    ·
     intro w'
     go_simp
     with_reducible rfl
    rotate_left
    ·
     simp only [ap, sa, sb, sc, i64_w, i32_w]
     rfl
    refine take_ (i := 2) (N := some 120) (v := ?_) (a' := ?_) #[T, T, T, F, T, F, T, T, F, F, F] rfl rfl (take_ofW HT_.out HW_.out (by kernel_rfl)) (fun _ _ _ h => h) (Or.inl ⟨by rfl, ?_⟩) hHeld ?_ ?_
    rotate_left
    ·
     rintro w' ⟨s0, s1⟩
     go_simp
     with_reducible rfl
    rotate_left
    ·
     simp only [ap, sa, sb, sc, i64_w, i32_w]
     rfl
    refine pure_ (i := 3) (N := some 121) (v := ?_) (a' := ?_) #[T, T, T, T, T, F, T, T, F, F, F] rfl rfl (any_of HT_.out (by kernel_rfl)) (fun _ _ _ h => h) (Or.inl ⟨by rfl, ?_⟩) ?_ ?_
    rotate_left
    ·
     intro w'
     go_simp
     with_reducible rfl
    rotate_left
    ·
     simp only [ap, sa, sb, sc, i64_w, i32_w]
     rfl
    refine pure_ (i := 5) (N := some 123) (v := ?_) (a' := ?_) #[T, T, T, T, T, T, T, T, F, F, F] rfl rfl (any_of HT_.out (by kernel_rfl)) (fun _ _ _ h => h) (Or.inl ⟨by rfl, ?_⟩) ?_ ?_
    rotate_left
    ·
     intro w'
     go_simp
     with_reducible rfl
    rotate_left
    ·
     simp only [ap, sa, sb, sc, i64_w, i32_w]
     rfl
    refine take_ (i := 8) (N := some 126) (v := ?_) (a' := ?_) #[T, T, T, T, T, T, T, T, T, F, F] rfl rfl (take_ofW HT_.out HW_.out (by kernel_rfl)) (fun _ _ _ h => h) (Or.inl ⟨by rfl, ?_⟩) hHeld ?_ ?_
    rotate_left
    ·
     rintro w' ⟨s0, s1⟩
     go_simp
     with_reducible rfl
    rotate_left
    ·
     simp only [ap, sa, sb, sc, i64_w, i32_w]
     rfl
    refine pure_ (i := 9) (N := some 127) (v := ?_) (a' := ?_) #[T, T, T, T, T, T, T, T, T, T, F] rfl rfl (any_of HT_.out (by kernel_rfl)) (fun _ _ _ h => h) (Or.inl ⟨by rfl, ?_⟩) ?_ ?_
    rotate_left
    ·
     intro w'
     go_simp
     with_reducible rfl
    rotate_left
    ·
     simp only [ap, sa, sb, sc, i64_w, i32_w]
     rfl
    refine pure_ (i := 10) (N := some 17) (v := ?_) (a' := ?_) #[T, T, T, T, T, T, T, T, T, T, T] rfl rfl (any_of HT_.out (by kernel_rfl)) (fun _ _ _ h => h) (Or.inl ⟨by rfl, ?_⟩) ?_ ?_
    rotate_left
    ·
     intro w'
     go_simp
     with_reducible rfl
    rotate_left
    ·
     simp only [ap, sa, sb, sc, i64_w, i32_w]
     rfl
    refine done_ (done_of HT_.out (by kernel_rfl)) ?_
    try go_wp2
    go_meet
    case rel => exact ⟨_, (ji111), (by first | rfl | (simp; done) | (simp only [← hji111] <;> (first | rfl | simp)) | (simp [*]; done)), H', ⟨by first | omega | exact Nat.le_refl _⟩, ⟨rb BK523.out⟩, ⟨bs1 GE523.out⟩⟩
  clear HC107
  obtain ⟨kq, x17_106, rfl, HA, HJ106, BK523, HB⟩ := hcut
  cases kq with
  | zero => exact absurd HA.out (by simp [plenumref19_step.j1])
  | succ kj106 =>
   have H := HA.out
   clear HA
   simp only [plenumref19_step.j1] at H
   have c113 := oi H; rw [if_pos c113] at H
   have c113b0 := decide_eq_true c113
   have c113b1 : decide (0 < l1.length) = true := decide_eq_true (by omega)
   clear c113
   by_cases c114 : x17_106 = (rd l1 0)
   rotate_left
   ·
    rw [if_neg c114] at H
    have c114b0 := beq_eq_false_iff_ne.mpr c114
    have c114b1 := bne_iff_ne.mpr c114
    obtain ⟨y603, hy603⟩ : ∃ y_ : List Int, y_ = (([wrap64 (x17_106 + 1)] : List Int)) := ⟨_, rfl⟩
    (try rw [← hy603] at H); (try rw [Option.bind_some] at H); (try dsimp only at H)
    have Ny603 := am hy603
    clear hy603
    obtain ⟨⟨t606, t607⟩, A120, H⟩ := Option.bind_eq_some_iff.mp H
    (try dsimp only at H)
    replace A120 := am A120
    as_aux_lemma =>
     simp only [Option.some.injEq, Prod.mk.injEq] at H
     obtain ⟨rfl, rfl, rfl⟩ := H
     have q597 := ix0 (n := l1.length) ode; obtain ⟨ad597, e597, hx597_0⟩ := Kd.at_int HR1.out 0 (by omega) (of_eq_true q597.2.2); cases e597; (try rw [t0] at hx597_0); (try rw [Addr.add_zero'] at hx597_0); replace hx597_0 := hbl HB.out hx597_0; obtain ⟨qi597, p597, q597⟩ := q597
     go_wp2_with (first | ((refine gate_dst (N := 139) rfl ?_); refine Kd.R_lit (Kd.int .i64) _ 2 ?hg (N := 139) ?hd (xs := ([wrap64 (x17_106 + 1)] : List Int)) (inner := [.int .i64 (wrap64 (x17_106 + 1))]) (ok := fun _ => True) (okp := fun _ => True) ?hr ?hp (fun _ hk => hk) trivial (Below.refl _ _) (Nat.le_refl _) (by simp) ?_; (case hd => rfl); (case hg => rfl); (case hr => first | (go_simp; done) | (go_simp; rfl)); (case hp => exact (Reps.one (show Kd.M (Kd.int .i64) _ _ _ (wrap64 (x17_106 + 1)) [.int .i64 (wrap64 (x17_106 + 1))] from rfl) (Reps.none _ _))); intro v604 w121 ho122 hb hg_ hnew_; clear hg_ hnew_; (first | rw [← Ny603.out] at ho122 | (simp only [Int.reduceToNat] at ho122; rw [← Ny603.out] at ho122)); have HO605 := am (Kd.R_lower ho122 (below_size (bs1 GE523.out))); replace BK523 := am (blk_below (rb BK523.out) hb); replace HB := am (below_step (bs1 GE523.out) hb); clear hb ho122) | ((refine gate_callee (f := 39) rfl ?_); refine gl (some 140) Tryz.func39 #[.int .i64 0] ?_; (with_reducible refine (plenumref19_binary.calls 0 t606 t607 _ A120.out).mono ?_); rintro e w123 ⟨rfl, hb⟩; refine ⟨_, rfl, ?_⟩; replace HO605 := am (Kd.R_below (rr HO605.out) hb); replace BK523 := am (blk_below (rb BK523.out) hb); replace HB := am (below_step (bs1 GE523.out) hb); (try clear hb); (try clear hb2); (try clear hk); (try clear hi); obtain ⟨hcz124_0, hcz124_1, hfz124_0, hfz124_1⟩ := bz2 BK523.out))
     refine bodyPost_ret (results_tc rfl _ _ gb523 26 #[.int .i64 t606, .int .i64 t607] (0, 0) _ rfl (by refine rb ?_; refine blk_put (cs := #[.int .i64 t606, .int .i64 0]) ?_ 1 _ rfl; refine rb ?_; refine blk_put (cs := #[.int .i64 0, .int .i64 0]) ?_ 0 _ rfl; exact rb BK523.out) Tryz.underlying26 rfl (by kernel_rfl)) rfl ?_
     exact ⟨_, ew, rr (Kd.R_mono (Kd.R_far (p := ⟨gb523, 1, none⟩) (Kd.R_far (p := ⟨gb523, 0, none⟩) (Kd.R_types HO605.out BK523.out (by decide)) (fun _ hk => hk.2) (.int .i64 t606)) (fun _ hk => hk.2) (.int .i64 t607)) (fun _ hk => trivial)), bs1 GE523.out⟩
   rw [if_pos c114] at H
   have c114b0 := beq_iff_eq.mpr c114
   have c114b1 := bne_eq_false_iff_eq.mpr c114
   clear c114
   obtain ⟨y598, hy598⟩ : ∃ y_ : List Int, y_ = (([wrap64 (x17_106 + 1)] : List Int)) := ⟨_, rfl⟩
   (try rw [← hy598] at H); (try rw [Option.bind_some] at H); (try dsimp only at H)
   have Ny598 := am hy598
   clear hy598
   obtain ⟨⟨t601, t602⟩, A115, H⟩ := Option.bind_eq_some_iff.mp H
   (try dsimp only at H)
   replace A115 := am A115
   as_aux_lemma =>
    simp only [Option.some.injEq, Prod.mk.injEq] at H
    obtain ⟨rfl, rfl, rfl⟩ := H
    have q597 := ix0 (n := l1.length) ode; obtain ⟨ad597, e597, hx597_0⟩ := Kd.at_int HR1.out 0 (by omega) (of_eq_true q597.2.2); cases e597; (try rw [t0] at hx597_0); (try rw [Addr.add_zero'] at hx597_0); replace hx597_0 := hbl HB.out hx597_0; obtain ⟨qi597, p597, q597⟩ := q597
    go_wp2_with (first | ((refine gate_dst (N := 135) rfl ?_); refine Kd.R_lit (Kd.int .i64) _ 2 ?hg (N := 135) ?hd (xs := ([wrap64 (x17_106 + 1)] : List Int)) (inner := [.int .i64 (wrap64 (x17_106 + 1))]) (ok := fun _ => True) (okp := fun _ => True) ?hr ?hp (fun _ hk => hk) trivial (Below.refl _ _) (Nat.le_refl _) (by simp) ?_; (case hd => rfl); (case hg => rfl); (case hr => first | (go_simp; done) | (go_simp; rfl)); (case hp => exact (Reps.one (show Kd.M (Kd.int .i64) _ _ _ (wrap64 (x17_106 + 1)) [.int .i64 (wrap64 (x17_106 + 1))] from rfl) (Reps.none _ _))); intro v599 w116 ho117 hb hg_ hnew_; clear hg_ hnew_; (first | rw [← Ny598.out] at ho117 | (simp only [Int.reduceToNat] at ho117; rw [← Ny598.out] at ho117)); have HO600 := am (Kd.R_lower ho117 (below_size (bs1 GE523.out))); replace BK523 := am (blk_below (rb BK523.out) hb); replace HB := am (below_step (bs1 GE523.out) hb); clear hb ho117) | ((refine gate_callee (f := 39) rfl ?_); refine gl (some 136) Tryz.func39 #[.int .i64 1] ?_; (with_reducible refine (plenumref19_binary.calls 1 t601 t602 _ A115.out).mono ?_); rintro e w118 ⟨rfl, hb⟩; refine ⟨_, rfl, ?_⟩; replace HO600 := am (Kd.R_below (rr HO600.out) hb); replace BK523 := am (blk_below (rb BK523.out) hb); replace HB := am (below_step (bs1 GE523.out) hb); (try clear hb); (try clear hb2); (try clear hk); (try clear hi); obtain ⟨hcz119_0, hcz119_1, hfz119_0, hfz119_1⟩ := bz2 BK523.out))
    refine bodyPost_ret (results_tc rfl _ _ gb523 26 #[.int .i64 t601, .int .i64 t602] (0, 0) _ rfl (by refine rb ?_; refine blk_put (cs := #[.int .i64 t601, .int .i64 0]) ?_ 1 _ rfl; refine rb ?_; refine blk_put (cs := #[.int .i64 0, .int .i64 0]) ?_ 0 _ rfl; exact rb BK523.out) Tryz.underlying26 rfl (by kernel_rfl)) rfl ?_
    exact ⟨_, ew, rr (Kd.R_mono (Kd.R_far (p := ⟨gb523, 1, none⟩) (Kd.R_far (p := ⟨gb523, 0, none⟩) (Kd.R_types HO600.out BK523.out (by decide)) (fun _ hk => hk.2) (.int .i64 t601)) (fun _ hk => hk.2) (.int .i64 t602)) (fun _ hk => trivial)), bs1 GE523.out⟩
 rw [if_neg c98] at H
 have c98b0 := beq_eq_false_iff_ne.mpr c98
 have c98b1 := bne_iff_ne.mpr c98
 by_cases c125 : a0.toList = ([111, 102, 102, 100, 101, 108, 97, 121] : List UInt8)
 ·
  rw [if_pos c125] at H
  have c125b0 := beq_iff_eq.mpr c125
  have c125b1 := bne_eq_false_iff_eq.mpr c125
  clear c125
  by_cases c126 : ((rd_T26 l3 0).f1) = 1
  ·
   rw [if_pos c126] at H
   have c126b0 := beq_iff_eq.mpr c126
   have c126b1 := bne_eq_false_iff_eq.mpr c126
   clear c126
   obtain ⟨y608, hy608⟩ : ∃ y_ : List Int, y_ = (([(-1)] : List Int)) := ⟨_, rfl⟩
   (try rw [← hy608] at H); (try rw [Option.bind_some] at H); (try dsimp only at H)
   have Ny608 := am hy608
   clear hy608
   obtain ⟨⟨t611, t612⟩, A127, H⟩ := Option.bind_eq_some_iff.mp H
   (try dsimp only at H)
   replace A127 := am A127
   as_aux_lemma =>
    simp only [Option.some.injEq, Prod.mk.injEq] at H
    obtain ⟨rfl, rfl, rfl⟩ := H
    go_enter Tryz.func21, Tryz.ntmps21
    go_wp2_with (first | ((refine gate_dst (N := 11) rfl ?_); refine bx (N := 11) (cs := #[.int .i64 0, .int .i64 0]) (t := 26) ?_; intro gb523 hg w128 hbox hb; have BK523 := am (hbox); have GW523 := am (gw hg (below_size bl)); have GE523 := am (gw hg (below_size bl)); replace HB := am (below_step bl hb); clear hb hbox hg; have q524 := ix0 (n := l3.length) ode; obtain ⟨ad524, e524, hx524_0, hx524_1⟩ := at_T26 HR3.out 0 (by omega) (of_eq_true q524.2.2); cases e524; (try rw [t0] at hx524_0); (try rw [show 0 * 2 = 0 from rfl] at hx524_0); (try rw [Addr.add_zero'] at hx524_0); (try rw [t0] at hx524_1); (try rw [show 0 * 2 = 0 from rfl] at hx524_1); (try rw [Addr.add_zero'] at hx524_1); replace hx524_0 := hbl HB.out hx524_0; replace hx524_1 := hbl HB.out hx524_1; obtain ⟨qi524, p524, q524⟩ := q524) | ((refine gate_dst (N := 145) rfl ?_); refine Kd.R_lit (Kd.int .i64) _ 2 ?hg (N := 145) ?hd (xs := ([(-1)] : List Int)) (inner := [.int .i64 (-1)]) (ok := fun _ => True) (okp := fun _ => True) ?hr ?hp (fun _ hk => hk) trivial (Below.refl _ _) (Nat.le_refl _) (by simp) ?_; (case hd => rfl); (case hg => rfl); (case hr => first | (go_simp; done) | (go_simp; rfl)); (case hp => exact (Reps.one (show Kd.M (Kd.int .i64) _ _ _ (-1) [.int .i64 (-1)] from rfl) (Reps.none _ _))); intro v609 w129 ho130 hb hg_ hnew_; clear hg_ hnew_; (first | rw [← Ny608.out] at ho130 | (simp only [Int.reduceToNat] at ho130; rw [← Ny608.out] at ho130)); have HO610 := am (Kd.R_lower ho130 (below_size (bs1 GE523.out))); replace BK523 := am (blk_below (rb BK523.out) hb); replace HB := am (below_step (bs1 GE523.out) hb); clear hb ho130) | ((refine gate_callee (f := 39) rfl ?_); refine gl (some 146) Tryz.func39 #[.int .i64 1] ?_; (with_reducible refine (plenumref19_binary.calls 1 t611 t612 _ A127.out).mono ?_); rintro e w131 ⟨rfl, hb⟩; refine ⟨_, rfl, ?_⟩; replace HO610 := am (Kd.R_below (rr HO610.out) hb); replace BK523 := am (blk_below (rb BK523.out) hb); replace HB := am (below_step (bs1 GE523.out) hb); (try clear hb); (try clear hb2); (try clear hk); (try clear hi); obtain ⟨hcz132_0, hcz132_1, hfz132_0, hfz132_1⟩ := bz2 BK523.out))
    refine bodyPost_ret (results_tc rfl _ _ gb523 26 #[.int .i64 t611, .int .i64 t612] (0, 0) _ rfl (by refine rb ?_; refine blk_put (cs := #[.int .i64 t611, .int .i64 0]) ?_ 1 _ rfl; refine rb ?_; refine blk_put (cs := #[.int .i64 0, .int .i64 0]) ?_ 0 _ rfl; exact rb BK523.out) Tryz.underlying26 rfl (by kernel_rfl)) rfl ?_
    exact ⟨_, ew, rr (Kd.R_mono (Kd.R_far (p := ⟨gb523, 1, none⟩) (Kd.R_far (p := ⟨gb523, 0, none⟩) (Kd.R_types HO610.out BK523.out (by decide)) (fun _ hk => hk.2) (.int .i64 t611)) (fun _ hk => hk.2) (.int .i64 t612)) (fun _ hk => trivial)), bs1 GE523.out⟩
  rw [if_neg c126] at H
  have c126b0 := beq_eq_false_iff_ne.mpr c126
  have c126b1 := bne_iff_ne.mpr c126
  have c133 := oi H; rw [if_pos c133] at H
  have c133b0 := decide_eq_true c133
  have c133b1 : decide (0 < l2.length) = true := decide_eq_true (by omega)
  clear c133
  have HC134 := am H
  clear H
  go_enter Tryz.func21, Tryz.ntmps21
  go_upto_if 150 with (first | ((refine gate_dst (N := 11) rfl ?_); refine bx (N := 11) (cs := #[.int .i64 0, .int .i64 0]) (t := 26) ?_; intro gb523 hg w135 hbox hb; have BK523 := am (hbox); have GW523 := am (gw hg (below_size bl)); have GE523 := am (gw hg (below_size bl)); replace HB := am (below_step bl hb); clear hb hbox hg; have q524 := ix0 (n := l3.length) ode; obtain ⟨ad524, e524, hx524_0, hx524_1⟩ := at_T26 HR3.out 0 (by omega) (of_eq_true q524.2.2); cases e524; (try rw [t0] at hx524_0); (try rw [show 0 * 2 = 0 from rfl] at hx524_0); (try rw [Addr.add_zero'] at hx524_0); (try rw [t0] at hx524_1); (try rw [show 0 * 2 = 0 from rfl] at hx524_1); (try rw [Addr.add_zero'] at hx524_1); replace hx524_0 := hbl HB.out hx524_0; replace hx524_1 := hbl HB.out hx524_1; obtain ⟨qi524, p524, q524⟩ := q524; have q613 := ix0 (n := l2.length) ode; obtain ⟨ad613, e613, hx613_0⟩ := Kd.at_int HR2.out 0 (by omega) (of_eq_true q613.2.2); cases e613; (try rw [t0] at hx613_0); (try rw [Addr.add_zero'] at hx613_0); replace hx613_0 := hbl HB.out hx613_0; obtain ⟨qi613, p613, q613⟩ := q613))
  (try simp only [ap, sa, sb, sc])
  go_cut [18] (fun v18 wc => ∃ (kq : Nat) (x18_133 : Int), v18 = .int .i64 x18_133 ∧ Aside0 (plenumref19_step.j2 kq l1 l2 x18_133 = some (r1, r2, r3)) ∧ Aside0 (kq ≤ k) ∧ Aside0 (wc.heap[gb523]? = some (.cells #[.int .i64 0, .int .i64 0] 26 (0, 0))) ∧ Aside0 (Below w.heap.size w wc))
  case first =>
   have H := HC134.out
   clear HC134
   by_cases c136 : (rd l2 0) > 0
   rotate_left
   ·
    rw [if_neg c136] at H
    have c136b0 : decide (0 < (rd l2 0)) = false := decide_eq_false c136
    clear c136
    (first | rw [c136b0] | (simp only [i64_w, i32_w]; rw [c136b0]) | skip)
    as_aux_lemma =>
     have H' := am H
     clear H
     go_wp2
     go_meet
     case rel => exact ⟨_, (0), (by first | rfl | (simp; done) | (simp [*]; done)), H', ⟨by first | omega | exact Nat.le_refl _⟩, ⟨rb BK523.out⟩, ⟨bs1 GE523.out⟩⟩
   rw [if_pos c136] at H
   have c136b0 : decide (0 < (rd l2 0)) = true := decide_eq_true c136
   clear c136
   (first | rw [c136b0] | (simp only [i64_w, i32_w]; rw [c136b0]) | skip)
   as_aux_lemma =>
    have H' := am H
    clear H
    have q614 := ix0 (n := l2.length) ode; obtain ⟨ad614, e614, hx614_0⟩ := Kd.at_int HR2.out 0 (by omega) (of_eq_true q614.2.2); obtain rfl : ad613 = ad614 := (by injection e614); (try rw [t0] at hx614_0); (try rw [Addr.add_zero'] at hx614_0); replace hx614_0 := hbl HB.out hx614_0; obtain ⟨qi614, p614, q614⟩ := q614
    go_wp2
    go_meet
    case rel => exact ⟨_, (wrap64 ((wrap64 ((rd l2 0) - 1)) + a4)), (by first | rfl | (simp; done) | (simp [*]; done)), H', ⟨by first | omega | exact Nat.le_refl _⟩, ⟨rb BK523.out⟩, ⟨bs1 GE523.out⟩⟩
  clear HC134
  obtain ⟨kq, x18_133, rfl, HA, HJ133, BK523, HB⟩ := hcut
  cases kq with
  | zero => exact absurd HA.out (by simp [plenumref19_step.j2])
  | succ kj133 =>
   have H := HA.out
   clear HA
   simp only [plenumref19_step.j2] at H
   have HC137 := am H
   clear H
   go_upto_region 44 with (fail)
   go_cut [167] (fun v167 wc => ∃ (kq : Nat) (x167_136 : Bool), v167 = .bool x167_136 ∧ Aside0 (plenumref19_step.j3 kq x18_133 x167_136 = some (r1, r2, r3)) ∧ Aside0 (kq ≤ kj133) ∧ Aside0 (wc.heap[gb523]? = some (.cells #[.int .i64 0, .int .i64 0] 26 (0, 0))) ∧ Aside0 (Below w.heap.size w wc))
   case first =>
    have H := HC137.out
    clear HC137
    have c138 := oi H; rw [if_pos c138] at H
    have c138b0 := decide_eq_true c138
    have c138b1 : decide (0 < l2.length) = true := decide_eq_true (by omega)
    clear c138
    (first | rw [c138b0] | (simp only [i64_w, i32_w]; rw [c138b0]) | skip)
    by_cases c139 : (rd l2 0) = 0
    ·
     rw [if_pos c139] at H
     have c139b0 := beq_iff_eq.mpr c139
     have c139b1 := bne_eq_false_iff_eq.mpr c139
     clear c139
     as_aux_lemma =>
      have H' := am H
      clear H
      have q615 := ix0 (n := l2.length) ode; obtain ⟨ad615, e615, hx615_0⟩ := Kd.at_int HR2.out 0 (by omega) (of_eq_true q615.2.2); obtain rfl : ad613 = ad615 := (by injection e615); (try rw [t0] at hx615_0); (try rw [Addr.add_zero'] at hx615_0); replace hx615_0 := hbl HB.out hx615_0; obtain ⟨qi615, p615, q615⟩ := q615
      go_wp2
      go_meet
      case rel => exact ⟨_, (true), (by first | rfl | (simp; done) | (simp [*]; done)), H', ⟨by have := HJ133.out; first | omega | exact Nat.le_refl _⟩, ⟨rb BK523.out⟩, ⟨bs1 GE523.out⟩⟩
    rw [if_neg c139] at H
    have c139b0 := beq_eq_false_iff_ne.mpr c139
    have c139b1 := bne_iff_ne.mpr c139
    have c140 := oi H; rw [if_pos c140] at H
    have c140b0 := decide_eq_true c140
    have c140b1 : decide (0 < l1.length) = true := decide_eq_true (by omega)
    clear c140
    as_aux_lemma =>
     have H' := am H
     clear H
     have q615 := ix0 (n := l2.length) ode; obtain ⟨ad615, e615, hx615_0⟩ := Kd.at_int HR2.out 0 (by omega) (of_eq_true q615.2.2); obtain rfl : ad613 = ad615 := (by injection e615); (try rw [t0] at hx615_0); (try rw [Addr.add_zero'] at hx615_0); replace hx615_0 := hbl HB.out hx615_0; obtain ⟨qi615, p615, q615⟩ := q615; have q616 := ix0 (n := l1.length) ode; obtain ⟨ad616, e616, hx616_0⟩ := Kd.at_int HR1.out 0 (by omega) (of_eq_true q616.2.2); cases e616; (try rw [t0] at hx616_0); (try rw [Addr.add_zero'] at hx616_0); replace hx616_0 := hbl HB.out hx616_0; obtain ⟨qi616, p616, q616⟩ := q616
     go_wp2
     go_meet
     case rel => exact ⟨_, (decide (x18_133 ≥ (rd l1 0))), (by first | rfl | (simp; done) | (simp [*]; done)), H', ⟨by have := HJ133.out; first | omega | exact Nat.le_refl _⟩, ⟨rb BK523.out⟩, ⟨bs1 GE523.out⟩⟩
   clear HC137
   obtain ⟨kq, x167_136, rfl, HA, HJ136, BK523, HB⟩ := hcut
   cases kq with
   | zero => exact absurd HA.out (by simp [plenumref19_step.j3])
   | succ kj136 =>
    have H := HA.out
    clear HA
    simp only [plenumref19_step.j3] at H
    by_cases c141 : x167_136 = true
    ·
     subst c141
     rw [if_pos rfl] at H
     obtain ⟨y617, hy617⟩ : ∃ y_ : List Int, y_ = (([0] : List Int)) := ⟨_, rfl⟩
     (try rw [← hy617] at H); (try rw [Option.bind_some] at H); (try dsimp only at H)
     have Ny617 := am hy617
     clear hy617
     obtain ⟨⟨t620, t621⟩, A142, H⟩ := Option.bind_eq_some_iff.mp H
     (try dsimp only at H)
     replace A142 := am A142
     as_aux_lemma =>
      simp only [Option.some.injEq, Prod.mk.injEq] at H
      obtain ⟨rfl, rfl, rfl⟩ := H
      go_wp2_with (first | ((refine gate_dst (N := 168) rfl ?_); refine Kd.R_lit (Kd.int .i64) _ 2 ?hg (N := 168) ?hd (xs := ([0] : List Int)) (inner := [.int .i64 0]) (ok := fun _ => True) (okp := fun _ => True) ?hr ?hp (fun _ hk => hk) trivial (Below.refl _ _) (Nat.le_refl _) (by simp) ?_; (case hd => rfl); (case hg => rfl); (case hr => first | (go_simp; done) | (go_simp; rfl)); (case hp => exact (Reps.one (show Kd.M (Kd.int .i64) _ _ _ 0 [.int .i64 0] from rfl) (Reps.none _ _))); intro v618 w143 ho144 hb hg_ hnew_; clear hg_ hnew_; (first | rw [← Ny617.out] at ho144 | (simp only [Int.reduceToNat] at ho144; rw [← Ny617.out] at ho144)); have HO619 := am (Kd.R_lower ho144 (below_size (bs1 GE523.out))); replace BK523 := am (blk_below (rb BK523.out) hb); replace HB := am (below_step (bs1 GE523.out) hb); clear hb ho144) | ((refine gate_callee (f := 39) rfl ?_); refine gl (some 169) Tryz.func39 #[.int .i64 0] ?_; (with_reducible refine (plenumref19_binary.calls 0 t620 t621 _ A142.out).mono ?_); rintro e w145 ⟨rfl, hb⟩; refine ⟨_, rfl, ?_⟩; replace HO619 := am (Kd.R_below (rr HO619.out) hb); replace BK523 := am (blk_below (rb BK523.out) hb); replace HB := am (below_step (bs1 GE523.out) hb); (try clear hb); (try clear hb2); (try clear hk); (try clear hi); obtain ⟨hcz146_0, hcz146_1, hfz146_0, hfz146_1⟩ := bz2 BK523.out))
      refine bodyPost_ret (results_tc rfl _ _ gb523 26 #[.int .i64 t620, .int .i64 t621] (0, 0) _ rfl (by refine rb ?_; refine blk_put (cs := #[.int .i64 t620, .int .i64 0]) ?_ 1 _ rfl; refine rb ?_; refine blk_put (cs := #[.int .i64 0, .int .i64 0]) ?_ 0 _ rfl; exact rb BK523.out) Tryz.underlying26 rfl (by kernel_rfl)) rfl ?_
      exact ⟨_, ew, rr (Kd.R_mono (Kd.R_far (p := ⟨gb523, 1, none⟩) (Kd.R_far (p := ⟨gb523, 0, none⟩) (Kd.R_types HO619.out BK523.out (by decide)) (fun _ hk => hk.2) (.int .i64 t620)) (fun _ hk => hk.2) (.int .i64 t621)) (fun _ hk => trivial)), bs1 GE523.out⟩
    replace c141 := Bool.eq_false_iff.mpr c141
    subst c141
    rw [if_neg (show ¬ (false = true) by decide)] at H
    obtain ⟨y622, hy622⟩ : ∃ y_ : List Int, y_ = (([wrap64 (x18_133 + 1)] : List Int)) := ⟨_, rfl⟩
    (try rw [← hy622] at H); (try rw [Option.bind_some] at H); (try dsimp only at H)
    have Ny622 := am hy622
    clear hy622
    obtain ⟨⟨t625, t626⟩, A147, H⟩ := Option.bind_eq_some_iff.mp H
    (try dsimp only at H)
    replace A147 := am A147
    as_aux_lemma =>
     simp only [Option.some.injEq, Prod.mk.injEq] at H
     obtain ⟨rfl, rfl, rfl⟩ := H
     go_wp2_with (first | ((refine gate_dst (N := 172) rfl ?_); refine Kd.R_lit (Kd.int .i64) _ 2 ?hg (N := 172) ?hd (xs := ([wrap64 (x18_133 + 1)] : List Int)) (inner := [.int .i64 (wrap64 (x18_133 + 1))]) (ok := fun _ => True) (okp := fun _ => True) ?hr ?hp (fun _ hk => hk) trivial (Below.refl _ _) (Nat.le_refl _) (by simp) ?_; (case hd => rfl); (case hg => rfl); (case hr => first | (go_simp; done) | (go_simp; rfl)); (case hp => exact (Reps.one (show Kd.M (Kd.int .i64) _ _ _ (wrap64 (x18_133 + 1)) [.int .i64 (wrap64 (x18_133 + 1))] from rfl) (Reps.none _ _))); intro v623 w148 ho149 hb hg_ hnew_; clear hg_ hnew_; (first | rw [← Ny622.out] at ho149 | (simp only [Int.reduceToNat] at ho149; rw [← Ny622.out] at ho149)); have HO624 := am (Kd.R_lower ho149 (below_size (bs1 GE523.out))); replace BK523 := am (blk_below (rb BK523.out) hb); replace HB := am (below_step (bs1 GE523.out) hb); clear hb ho149) | ((refine gate_callee (f := 39) rfl ?_); refine gl (some 173) Tryz.func39 #[.int .i64 1] ?_; (with_reducible refine (plenumref19_binary.calls 1 t625 t626 _ A147.out).mono ?_); rintro e w150 ⟨rfl, hb⟩; refine ⟨_, rfl, ?_⟩; replace HO624 := am (Kd.R_below (rr HO624.out) hb); replace BK523 := am (blk_below (rb BK523.out) hb); replace HB := am (below_step (bs1 GE523.out) hb); (try clear hb); (try clear hb2); (try clear hk); (try clear hi); obtain ⟨hcz151_0, hcz151_1, hfz151_0, hfz151_1⟩ := bz2 BK523.out))
     refine bodyPost_ret (results_tc rfl _ _ gb523 26 #[.int .i64 t625, .int .i64 t626] (0, 0) _ rfl (by refine rb ?_; refine blk_put (cs := #[.int .i64 t625, .int .i64 0]) ?_ 1 _ rfl; refine rb ?_; refine blk_put (cs := #[.int .i64 0, .int .i64 0]) ?_ 0 _ rfl; exact rb BK523.out) Tryz.underlying26 rfl (by kernel_rfl)) rfl ?_
     exact ⟨_, ew, rr (Kd.R_mono (Kd.R_far (p := ⟨gb523, 1, none⟩) (Kd.R_far (p := ⟨gb523, 0, none⟩) (Kd.R_types HO624.out BK523.out (by decide)) (fun _ hk => hk.2) (.int .i64 t625)) (fun _ hk => hk.2) (.int .i64 t626)) (fun _ hk => trivial)), bs1 GE523.out⟩
 rw [if_neg c125] at H
 have c125b0 := beq_eq_false_iff_ne.mpr c125
 have c125b1 := bne_iff_ne.mpr c125
 by_cases c152 : a0.toList = ([112, 117, 108, 115, 101] : List UInt8)
 ·
  rw [if_pos c152] at H
  have c152b0 := beq_iff_eq.mpr c152
  have c152b1 := bne_eq_false_iff_eq.mpr c152
  clear c152
  have c153 := oi H; rw [if_pos c153] at H
  have c153b0 := decide_eq_true c153
  have c153b1 : decide (0 < l1.length) = true := decide_eq_true (by omega)
  clear c153
  have HC154 := am H
  clear H
  go_enter Tryz.func21, Tryz.ntmps21
  go_upto_region 49 with (first | ((refine gate_dst (N := 11) rfl ?_); refine bx (N := 11) (cs := #[.int .i64 0, .int .i64 0]) (t := 26) ?_; intro gb523 hg w155 hbox hb; have BK523 := am (hbox); have GW523 := am (gw hg (below_size bl)); have GE523 := am (gw hg (below_size bl)); replace HB := am (below_step bl hb); clear hb hbox hg; have q524 := ix0 (n := l3.length) ode; obtain ⟨ad524, e524, hx524_0, hx524_1⟩ := at_T26 HR3.out 0 (by omega) (of_eq_true q524.2.2); cases e524; (try rw [t0] at hx524_0); (try rw [show 0 * 2 = 0 from rfl] at hx524_0); (try rw [Addr.add_zero'] at hx524_0); (try rw [t0] at hx524_1); (try rw [show 0 * 2 = 0 from rfl] at hx524_1); (try rw [Addr.add_zero'] at hx524_1); replace hx524_0 := hbl HB.out hx524_0; replace hx524_1 := hbl HB.out hx524_1; obtain ⟨qi524, p524, q524⟩ := q524; have q627 := ix0 (n := l1.length) ode; obtain ⟨ad627, e627, hx627_0⟩ := Kd.at_int HR1.out 0 (by omega) (of_eq_true q627.2.2); cases e627; (try rw [t0] at hx627_0); (try rw [Addr.add_zero'] at hx627_0); replace hx627_0 := hbl HB.out hx627_0; obtain ⟨qi627, p627, q627⟩ := q627))
  (try simp only [ap, sa, sb, sc])
  go_cut [186] (fun v186 wc => ∃ (kq : Nat) (x186_153 : Bool), v186 = .bool x186_153 ∧ Aside0 (plenumref19_step.j4 kq l1 l2 ((rd_T26 l3 0).f1) a4 (rd l1 0) x186_153 = some (r1, r2, r3)) ∧ Aside0 (kq ≤ k) ∧ Aside0 (wc.heap[gb523]? = some (.cells #[.int .i64 0, .int .i64 0] 26 (0, 0))) ∧ Aside0 (Below w.heap.size w wc))
  case first =>
   have H := HC154.out
   clear HC154
   by_cases c156 : ((rd_T26 l3 0).f1) = 1
   rotate_left
   ·
    rw [if_neg c156] at H
    have c156b0 := beq_eq_false_iff_ne.mpr c156
    have c156b1 := bne_iff_ne.mpr c156
    (first | rw [c156b0] | (simp only [i64_w, i32_w]; rw [c156b0]) | skip)
    as_aux_lemma =>
     have H' := am H
     clear H
     go_wp2
     go_meet
     case rel => exact ⟨_, (false), (by first | rfl | (simp; done) | (simp [*]; done)), H', ⟨by first | omega | exact Nat.le_refl _⟩, ⟨rb BK523.out⟩, ⟨bs1 GE523.out⟩⟩
   rw [if_pos c156] at H
   have c156b0 := beq_iff_eq.mpr c156
   have c156b1 := bne_eq_false_iff_eq.mpr c156
   clear c156
   (first | rw [c156b0] | (simp only [i64_w, i32_w]; rw [c156b0]) | skip)
   have c157 := oi H; rw [if_pos c157] at H
   have c157b0 := decide_eq_true c157
   have c157b1 : decide (0 < l2.length) = true := decide_eq_true (by omega)
   clear c157
   as_aux_lemma =>
    have H' := am H
    clear H
    have q628 := ix0 (n := l2.length) ode; obtain ⟨ad628, e628, hx628_0⟩ := Kd.at_int HR2.out 0 (by omega) (of_eq_true q628.2.2); cases e628; (try rw [t0] at hx628_0); (try rw [Addr.add_zero'] at hx628_0); replace hx628_0 := hbl HB.out hx628_0; obtain ⟨qi628, p628, q628⟩ := q628
    go_wp2
    go_meet
    case rel => exact ⟨_, (((rd l2 0) == 0)), (by first | rfl | (simp; done) | (simp [*]; done)), H', ⟨by first | omega | exact Nat.le_refl _⟩, ⟨rb BK523.out⟩, ⟨bs1 GE523.out⟩⟩
  clear HC154
  obtain ⟨kq, x186_153, rfl, HA, HJ153, BK523, HB⟩ := hcut
  cases kq with
  | zero => exact absurd HA.out (by simp [plenumref19_step.j4])
  | succ kj153 =>
   have H := HA.out
   clear HA
   simp only [plenumref19_step.j4] at H
   have HC158 := am H
   clear H
   go_upto_if 186 with (fail)
   go_cut [19] (fun v19 wc => ∃ (kq : Nat) (x19_157 : Int), v19 = .int .i64 x19_157 ∧ Aside0 (plenumref19_step.j5 kq l1 ((rd_T26 l3 0).f1) x19_157 = some (r1, r2, r3)) ∧ Aside0 (kq ≤ kj153) ∧ Aside0 (wc.heap[gb523]? = some (.cells #[.int .i64 0, .int .i64 0] 26 (0, 0))) ∧ Aside0 (Below w.heap.size w wc))
   case first =>
    have H := HC158.out
    clear HC158
    by_cases c159 : x186_153 = true
    ·
     subst c159
     rw [if_pos rfl] at H
     as_aux_lemma =>
      have H' := am H
      clear H
      go_wp2
      go_meet
      case rel => exact ⟨_, (0), (by first | rfl | (simp; done) | (simp [*]; done)), H', ⟨by have := HJ153.out; first | omega | exact Nat.le_refl _⟩, ⟨rb BK523.out⟩, ⟨bs1 GE523.out⟩⟩
    replace c159 := Bool.eq_false_iff.mpr c159
    subst c159
    rw [if_neg (show ¬ (false = true) by decide)] at H
    have c160 := oi H; rw [if_pos c160] at H
    have c160b0 := decide_eq_true c160
    have c160b1 : decide (1 < l2.length) = true := decide_eq_true (by omega)
    clear c160
    (first | rw [c160b0] | (simp only [i64_w, i32_w]; rw [c160b0]) | skip)
    by_cases c161 : (rd l2 1) > 0
    ·
     rw [if_pos c161] at H
     have c161b0 : decide (0 < (rd l2 1)) = true := decide_eq_true c161
     clear c161
     as_aux_lemma =>
      have H' := am H
      clear H
      have q629 := ix1 (n := l2.length) ode; obtain ⟨ad629, e629, hx629_0⟩ := Kd.at_int HR2.out 1 (by omega) (of_eq_true q629.2.2); cases e629; (try simp only [t1, Nat.reduceMul, Nat.reduceEqDiff, Go.Addr.add, ↓reduceIte] at hx629_0); replace hx629_0 := hbl HB.out hx629_0; obtain ⟨qi629, p629, q629⟩ := q629; have q630 := ix1 (n := l2.length) ode; obtain ⟨ad630, e630, hx630_0⟩ := Kd.at_int HR2.out 1 (by omega) (of_eq_true q630.2.2); obtain rfl : ad629 = ad630 := (by injection e630); (try simp only [t1, Nat.reduceMul, Nat.reduceEqDiff, Go.Addr.add, ↓reduceIte] at hx630_0); replace hx630_0 := hbl HB.out hx630_0; obtain ⟨qi630, p630, q630⟩ := q630
      go_wp2
      go_meet
      case rel => exact ⟨_, (wrap64 ((wrap64 ((rd l2 1) - 1)) + a4)), (by first | rfl | (simp; done) | (simp [*]; done)), H', ⟨by have := HJ153.out; first | omega | exact Nat.le_refl _⟩, ⟨rb BK523.out⟩, ⟨bs1 GE523.out⟩⟩
    rw [if_neg c161] at H
    have c161b0 : decide (0 < (rd l2 1)) = false := decide_eq_false c161
    clear c161
    as_aux_lemma =>
     have H' := am H
     clear H
     have q629 := ix1 (n := l2.length) ode; obtain ⟨ad629, e629, hx629_0⟩ := Kd.at_int HR2.out 1 (by omega) (of_eq_true q629.2.2); cases e629; (try simp only [t1, Nat.reduceMul, Nat.reduceEqDiff, Go.Addr.add, ↓reduceIte] at hx629_0); replace hx629_0 := hbl HB.out hx629_0; obtain ⟨qi629, p629, q629⟩ := q629
     go_wp2
     go_meet
     case rel => exact ⟨_, ((rd l1 0)), (by first | rfl | (simp; done) | (simp [*]; done)), H', ⟨by have := HJ153.out; first | omega | exact Nat.le_refl _⟩, ⟨rb BK523.out⟩, ⟨bs1 GE523.out⟩⟩
   clear HC158
   obtain ⟨kq, x19_157, rfl, HA, HJ157, BK523, HB⟩ := hcut
   cases kq with
   | zero => exact absurd HA.out (by simp [plenumref19_step.j5])
   | succ kj157 =>
    have H := HA.out
    clear HA
    simp only [plenumref19_step.j5] at H
    have c162 := oi H; rw [if_pos c162] at H
    have c162b0 := decide_eq_true c162
    have c162b1 : decide (0 < l1.length) = true := decide_eq_true (by omega)
    clear c162
    by_cases c163 : x19_157 < (rd l1 0)
    ·
     rw [if_pos c163] at H
     have c163b0 := decide_eq_true c163
     clear c163
     obtain ⟨y632, hy632⟩ : ∃ y_ : List Int, y_ = (([((rd_T26 l3 0).f1), wrap64 (x19_157 + 1)] : List Int)) := ⟨_, rfl⟩
     (try rw [← hy632] at H); (try rw [Option.bind_some] at H); (try dsimp only at H)
     have Ny632 := am hy632
     clear hy632
     obtain ⟨⟨t635, t636⟩, A164, H⟩ := Option.bind_eq_some_iff.mp H
     (try dsimp only at H)
     replace A164 := am A164
     as_aux_lemma =>
      simp only [Option.some.injEq, Prod.mk.injEq] at H
      obtain ⟨rfl, rfl, rfl⟩ := H
      have q631 := ix0 (n := l1.length) ode; obtain ⟨ad631, e631, hx631_0⟩ := Kd.at_int HR1.out 0 (by omega) (of_eq_true q631.2.2); obtain rfl : ad627 = ad631 := (by injection e631); (try rw [t0] at hx631_0); (try rw [Addr.add_zero'] at hx631_0); replace hx631_0 := hbl HB.out hx631_0; obtain ⟨qi631, p631, q631⟩ := q631
      go_wp2_with (first | ((refine gate_dst (N := 205) rfl ?_); refine Kd.R_lit (Kd.int .i64) _ 2 ?hg (N := 205) ?hd (xs := ([((rd_T26 l3 0).f1), wrap64 (x19_157 + 1)] : List Int)) (inner := [.int .i64 ((rd_T26 l3 0).f1), .int .i64 (wrap64 (x19_157 + 1))]) (ok := fun _ => True) (okp := fun _ => True) ?hr ?hp (fun _ hk => hk) trivial (Below.refl _ _) (Nat.le_refl _) (by simp) ?_; (case hd => rfl); (case hg => rfl); (case hr => first | (go_simp; done) | (go_simp; rfl)); (case hp => exact (Reps.one (show Kd.M (Kd.int .i64) _ _ _ ((rd_T26 l3 0).f1) [.int .i64 ((rd_T26 l3 0).f1)] from rfl) (Reps.one (show Kd.M (Kd.int .i64) _ _ _ (wrap64 (x19_157 + 1)) [.int .i64 (wrap64 (x19_157 + 1))] from rfl) (Reps.none _ _)))); intro v633 w165 ho166 hb hg_ hnew_; clear hg_ hnew_; (first | rw [← Ny632.out] at ho166 | (simp only [Int.reduceToNat] at ho166; rw [← Ny632.out] at ho166)); have HO634 := am (Kd.R_lower ho166 (below_size (bs1 GE523.out))); replace BK523 := am (blk_below (rb BK523.out) hb); replace HB := am (below_step (bs1 GE523.out) hb); clear hb ho166) | ((refine gate_callee (f := 39) rfl ?_); refine gl (some 206) Tryz.func39 #[.int .i64 1] ?_; (with_reducible refine (plenumref19_binary.calls 1 t635 t636 _ A164.out).mono ?_); rintro e w167 ⟨rfl, hb⟩; refine ⟨_, rfl, ?_⟩; replace HO634 := am (Kd.R_below (rr HO634.out) hb); replace BK523 := am (blk_below (rb BK523.out) hb); replace HB := am (below_step (bs1 GE523.out) hb); (try clear hb); (try clear hb2); (try clear hk); (try clear hi); obtain ⟨hcz168_0, hcz168_1, hfz168_0, hfz168_1⟩ := bz2 BK523.out))
      refine bodyPost_ret (results_tc rfl _ _ gb523 26 #[.int .i64 t635, .int .i64 t636] (0, 0) _ rfl (by refine rb ?_; refine blk_put (cs := #[.int .i64 t635, .int .i64 0]) ?_ 1 _ rfl; refine rb ?_; refine blk_put (cs := #[.int .i64 0, .int .i64 0]) ?_ 0 _ rfl; exact rb BK523.out) Tryz.underlying26 rfl (by kernel_rfl)) rfl ?_
      exact ⟨_, ew, rr (Kd.R_mono (Kd.R_far (p := ⟨gb523, 1, none⟩) (Kd.R_far (p := ⟨gb523, 0, none⟩) (Kd.R_types HO634.out BK523.out (by decide)) (fun _ hk => hk.2) (.int .i64 t635)) (fun _ hk => hk.2) (.int .i64 t636)) (fun _ hk => trivial)), bs1 GE523.out⟩
    rw [if_neg c163] at H
    have c163b0 := decide_eq_false c163
    clear c163
    obtain ⟨y637, hy637⟩ : ∃ y_ : List Int, y_ = (([((rd_T26 l3 0).f1), 0] : List Int)) := ⟨_, rfl⟩
    (try rw [← hy637] at H); (try rw [Option.bind_some] at H); (try dsimp only at H)
    have Ny637 := am hy637
    clear hy637
    obtain ⟨⟨t640, t641⟩, A169, H⟩ := Option.bind_eq_some_iff.mp H
    (try dsimp only at H)
    replace A169 := am A169
    as_aux_lemma =>
     simp only [Option.some.injEq, Prod.mk.injEq] at H
     obtain ⟨rfl, rfl, rfl⟩ := H
     have q631 := ix0 (n := l1.length) ode; obtain ⟨ad631, e631, hx631_0⟩ := Kd.at_int HR1.out 0 (by omega) (of_eq_true q631.2.2); obtain rfl : ad627 = ad631 := (by injection e631); (try rw [t0] at hx631_0); (try rw [Addr.add_zero'] at hx631_0); replace hx631_0 := hbl HB.out hx631_0; obtain ⟨qi631, p631, q631⟩ := q631
     go_wp2_with (first | ((refine gate_dst (N := 208) rfl ?_); refine Kd.R_lit (Kd.int .i64) _ 2 ?hg (N := 208) ?hd (xs := ([((rd_T26 l3 0).f1), 0] : List Int)) (inner := [.int .i64 ((rd_T26 l3 0).f1), .int .i64 0]) (ok := fun _ => True) (okp := fun _ => True) ?hr ?hp (fun _ hk => hk) trivial (Below.refl _ _) (Nat.le_refl _) (by simp) ?_; (case hd => rfl); (case hg => rfl); (case hr => first | (go_simp; done) | (go_simp; rfl)); (case hp => exact (Reps.one (show Kd.M (Kd.int .i64) _ _ _ ((rd_T26 l3 0).f1) [.int .i64 ((rd_T26 l3 0).f1)] from rfl) (Reps.one (show Kd.M (Kd.int .i64) _ _ _ 0 [.int .i64 0] from rfl) (Reps.none _ _)))); intro v638 w170 ho171 hb hg_ hnew_; clear hg_ hnew_; (first | rw [← Ny637.out] at ho171 | (simp only [Int.reduceToNat] at ho171; rw [← Ny637.out] at ho171)); have HO639 := am (Kd.R_lower ho171 (below_size (bs1 GE523.out))); replace BK523 := am (blk_below (rb BK523.out) hb); replace HB := am (below_step (bs1 GE523.out) hb); clear hb ho171) | ((refine gate_callee (f := 39) rfl ?_); refine gl (some 209) Tryz.func39 #[.int .i64 0] ?_; (with_reducible refine (plenumref19_binary.calls 0 t640 t641 _ A169.out).mono ?_); rintro e w172 ⟨rfl, hb⟩; refine ⟨_, rfl, ?_⟩; replace HO639 := am (Kd.R_below (rr HO639.out) hb); replace BK523 := am (blk_below (rb BK523.out) hb); replace HB := am (below_step (bs1 GE523.out) hb); (try clear hb); (try clear hb2); (try clear hk); (try clear hi); obtain ⟨hcz173_0, hcz173_1, hfz173_0, hfz173_1⟩ := bz2 BK523.out))
     refine bodyPost_ret (results_tc rfl _ _ gb523 26 #[.int .i64 t640, .int .i64 t641] (0, 0) _ rfl (by refine rb ?_; refine blk_put (cs := #[.int .i64 t640, .int .i64 0]) ?_ 1 _ rfl; refine rb ?_; refine blk_put (cs := #[.int .i64 0, .int .i64 0]) ?_ 0 _ rfl; exact rb BK523.out) Tryz.underlying26 rfl (by kernel_rfl)) rfl ?_
     exact ⟨_, ew, rr (Kd.R_mono (Kd.R_far (p := ⟨gb523, 1, none⟩) (Kd.R_far (p := ⟨gb523, 0, none⟩) (Kd.R_types HO639.out BK523.out (by decide)) (fun _ hk => hk.2) (.int .i64 t640)) (fun _ hk => hk.2) (.int .i64 t641)) (fun _ hk => trivial)), bs1 GE523.out⟩
 rw [if_neg c152] at H
 have c152b0 := beq_eq_false_iff_ne.mpr c152
 have c152b1 := bne_iff_ne.mpr c152
 have c174 := oi H; rw [if_pos c174] at H
 have c174b0 := decide_eq_true c174
 have c174b1 : decide (1 < l2.length) = true := decide_eq_true (by omega)
 clear c174
 have HC175 := am H
 clear H
 go_enter Tryz.func21, Tryz.ntmps21
 go_upto_region 57 with (first | ((refine gate_dst (N := 11) rfl ?_); refine bx (N := 11) (cs := #[.int .i64 0, .int .i64 0]) (t := 26) ?_; intro gb523 hg w176 hbox hb; have BK523 := am (hbox); have GW523 := am (gw hg (below_size bl)); have GE523 := am (gw hg (below_size bl)); replace HB := am (below_step bl hb); clear hb hbox hg; have q524 := ix0 (n := l3.length) ode; obtain ⟨ad524, e524, hx524_0, hx524_1⟩ := at_T26 HR3.out 0 (by omega) (of_eq_true q524.2.2); cases e524; (try rw [t0] at hx524_0); (try rw [show 0 * 2 = 0 from rfl] at hx524_0); (try rw [Addr.add_zero'] at hx524_0); (try rw [t0] at hx524_1); (try rw [show 0 * 2 = 0 from rfl] at hx524_1); (try rw [Addr.add_zero'] at hx524_1); replace hx524_0 := hbl HB.out hx524_0; replace hx524_1 := hbl HB.out hx524_1; obtain ⟨qi524, p524, q524⟩ := q524; have q642 := ix1 (n := l2.length) ode; obtain ⟨ad642, e642, hx642_0⟩ := Kd.at_int HR2.out 1 (by omega) (of_eq_true q642.2.2); cases e642; (try simp only [t1, Nat.reduceMul, Nat.reduceEqDiff, Go.Addr.add, ↓reduceIte] at hx642_0); replace hx642_0 := hbl HB.out hx642_0; obtain ⟨qi642, p642, q642⟩ := q642))
 (try simp only [ap, sa, sb, sc])
 go_cut [21] (fun v21 wc => ∃ (kq : Nat) (x21_174 : Bool), v21 = .bool x21_174 ∧ Aside0 (plenumref19_step.j6 kq l1 l2 ((rd_T26 l3 0).f1) (wrap64 ((wrap64 ((rd l2 1) - 1)) + a4)) x21_174 = some (r1, r2, r3)) ∧ Aside0 (kq ≤ k) ∧ Aside0 (wc.heap[gb523]? = some (.cells #[.int .i64 0, .int .i64 0] 26 (0, 0))) ∧ Aside0 (Below w.heap.size w wc))
 case first =>
  have H := HC175.out
  clear HC175
  by_cases c177 : (rd l2 1) > 0
  rotate_left
  ·
   rw [if_neg c177] at H
   have c177b0 : decide (0 < (rd l2 1)) = false := decide_eq_false c177
   clear c177
   (first | rw [c177b0] | (simp only [i64_w, i32_w]; rw [c177b0]) | skip)
   as_aux_lemma =>
    have H' := am H
    clear H
    have q643 := ix1 (n := l2.length) ode; obtain ⟨ad643, e643, hx643_0⟩ := Kd.at_int HR2.out 1 (by omega) (of_eq_true q643.2.2); obtain rfl : ad642 = ad643 := (by injection e643); (try simp only [t1, Nat.reduceMul, Nat.reduceEqDiff, Go.Addr.add, ↓reduceIte] at hx643_0); replace hx643_0 := hbl HB.out hx643_0; obtain ⟨qi643, p643, q643⟩ := q643
    go_wp2
    go_meet
    case rel => exact ⟨_, (false), (by first | rfl | (simp; done) | (simp [*]; done)), H', ⟨by first | omega | exact Nat.le_refl _⟩, ⟨rb BK523.out⟩, ⟨bs1 GE523.out⟩⟩
  rw [if_pos c177] at H
  have c177b0 : decide (0 < (rd l2 1)) = true := decide_eq_true c177
  clear c177
  (first | rw [c177b0] | (simp only [i64_w, i32_w]; rw [c177b0]) | skip)
  have c178 := oi H; rw [if_pos c178] at H
  have c178b0 := decide_eq_true c178
  have c178b1 : decide (0 < l2.length) = true := decide_eq_true (by omega)
  clear c178
  obtain ⟨t645, A179, H⟩ := Option.bind_eq_some_iff.mp H
  (try dsimp only at H)
  replace A179 := am A179
  as_aux_lemma =>
   have H' := am H
   clear H
   have q643 := ix1 (n := l2.length) ode; obtain ⟨ad643, e643, hx643_0⟩ := Kd.at_int HR2.out 1 (by omega) (of_eq_true q643.2.2); obtain rfl : ad642 = ad643 := (by injection e643); (try simp only [t1, Nat.reduceMul, Nat.reduceEqDiff, Go.Addr.add, ↓reduceIte] at hx643_0); replace hx643_0 := hbl HB.out hx643_0; obtain ⟨qi643, p643, q643⟩ := q643; have q644 := ix0 (n := l2.length) ode; obtain ⟨ad644, e644, hx644_0⟩ := Kd.at_int HR2.out 0 (by omega) (of_eq_true q644.2.2); obtain rfl : ad642 = ad644 := (by injection e644); (try rw [t0] at hx644_0); (try rw [Addr.add_zero'] at hx644_0); replace hx644_0 := hbl HB.out hx644_0; obtain ⟨qi644, p644, q644⟩ := q644
   go_wp2_with (first | (go_at_call 23; (with_reducible refine (plenumref19_least.calls _ _ l1 (rd l2 0) t645 _ ?side1 ?side2 A179.out).mono ?_); (case side1 => exact cc (Kd.C_below HR1.out HB.out)); (case side2 => exact HC1.out); rintro e w' ⟨rfl, ⟨nd, rfl⟩⟩))
   go_meet
   case rel => exact ⟨_, (decide ((wrap64 ((wrap64 ((rd l2 1) - 1)) + a4)) < t645)), (by first | rfl | (simp; done) | (simp [*]; done)), H', ⟨by first | omega | exact Nat.le_refl _⟩, ⟨rb BK523.out⟩, ⟨bs1 GE523.out⟩⟩
 clear HC175
 obtain ⟨kq, x21_174, rfl, HA, HJ174, BK523, HB⟩ := hcut
 cases kq with
 | zero => exact absurd HA.out (by simp [plenumref19_step.j6])
 | succ kj174 =>
  have H := HA.out
  clear HA
  simp only [plenumref19_step.j6] at H
  have HC180 := am H
  clear H
  go_upto_region 58 with (fail)
  go_cut [236] (fun v236 wc => ∃ (kq : Nat) (x236_179 : Bool), v236 = .bool x236_179 ∧ Aside0 (plenumref19_step.j7 kq l1 l2 ((rd_T26 l3 0).f1) (wrap64 ((wrap64 ((rd l2 1) - 1)) + a4)) x21_174 x236_179 = some (r1, r2, r3)) ∧ Aside0 (kq ≤ kj174) ∧ Aside0 (wc.heap[gb523]? = some (.cells #[.int .i64 0, .int .i64 0] 26 (0, 0))) ∧ Aside0 (Below w.heap.size w wc))
  case first =>
   have H := HC180.out
   clear HC180
   have c181 := oi H; rw [if_pos c181] at H
   have c181b0 := decide_eq_true c181
   have c181b1 : decide (0 < l2.length) = true := decide_eq_true (by omega)
   clear c181
   (first | rw [c181b0] | (simp only [i64_w, i32_w]; rw [c181b0]) | skip)
   by_cases c182 : ((rd_T26 l3 0).f1) = (rd l2 0)
   rotate_left
   ·
    rw [if_neg c182] at H
    have c182b0 := beq_eq_false_iff_ne.mpr c182
    have c182b1 := bne_iff_ne.mpr c182
    as_aux_lemma =>
     have H' := am H
     clear H
     have q646 := ix0 (n := l2.length) ode; obtain ⟨ad646, e646, hx646_0⟩ := Kd.at_int HR2.out 0 (by omega) (of_eq_true q646.2.2); obtain rfl : ad642 = ad646 := (by injection e646); (try rw [t0] at hx646_0); (try rw [Addr.add_zero'] at hx646_0); replace hx646_0 := hbl HB.out hx646_0; obtain ⟨qi646, p646, q646⟩ := q646
     go_wp2
     go_meet
     case rel => exact ⟨_, (x21_174), (by first | rfl | (simp; done) | (simp [*]; done)), H', ⟨by have := HJ174.out; first | omega | exact Nat.le_refl _⟩, ⟨rb BK523.out⟩, ⟨bs1 GE523.out⟩⟩
   rw [if_pos c182] at H
   have c182b0 := beq_iff_eq.mpr c182
   have c182b1 := bne_eq_false_iff_eq.mpr c182
   clear c182
   as_aux_lemma =>
    have H' := am H
    clear H
    have q646 := ix0 (n := l2.length) ode; obtain ⟨ad646, e646, hx646_0⟩ := Kd.at_int HR2.out 0 (by omega) (of_eq_true q646.2.2); obtain rfl : ad642 = ad646 := (by injection e646); (try rw [t0] at hx646_0); (try rw [Addr.add_zero'] at hx646_0); replace hx646_0 := hbl HB.out hx646_0; obtain ⟨qi646, p646, q646⟩ := q646
    go_wp2
    go_meet
    case rel => exact ⟨_, (true), (by first | rfl | (simp; done) | (simp [*]; done)), H', ⟨by have := HJ174.out; first | omega | exact Nat.le_refl _⟩, ⟨rb BK523.out⟩, ⟨bs1 GE523.out⟩⟩
  clear HC180
  obtain ⟨kq, x236_179, rfl, HA, HJ179, BK523, HB⟩ := hcut
  cases kq with
  | zero => exact absurd HA.out (by simp [plenumref19_step.j7])
  | succ kj179 =>
   have H := HA.out
   clear HA
   simp only [plenumref19_step.j7] at H
   by_cases c183 : x236_179 = true
   rotate_left
   ·
    replace c183 := Bool.eq_false_iff.mpr c183
    subst c183
    rw [if_neg (show ¬ (false = true) by decide)] at H
    obtain ⟨t661, A203, H⟩ := Option.bind_eq_some_iff.mp H
    (try dsimp only at H)
    replace A203 := am A203
    by_cases c204 : t661 = 0
    rotate_left
    ·
     rw [if_neg c204] at H
     have c204b0 := beq_eq_false_iff_ne.mpr c204
     have c204b1 := bne_iff_ne.mpr c204
     obtain ⟨y667, hy667⟩ : ∃ y_ : List Int, y_ = (([((rd_T26 l3 0).f1), 1] : List Int)) := ⟨_, rfl⟩
     (try rw [← hy667] at H); (try rw [Option.bind_some] at H); (try dsimp only at H)
     have Ny667 := am hy667
     clear hy667
     obtain ⟨⟨t670, t671⟩, A210, H⟩ := Option.bind_eq_some_iff.mp H
     (try dsimp only at H)
     replace A210 := am A210
     as_aux_lemma =>
      simp only [Option.some.injEq, Prod.mk.injEq] at H
      obtain ⟨rfl, rfl, rfl⟩ := H
      go_wp2_with (first | ((refine gate_callee (f := 23) rfl ?_); refine gl (some 258) Tryz.func23 #[.slice A1 l1.length c1, .int .i64 ((rd_T26 l3 0).f1)] ?_; (with_reducible refine (plenumref19_least.calls _ _ l1 ((rd_T26 l3 0).f1) t661 _ ?side1 ?side2 A203.out).mono ?_); (case side1 => exact cc (Kd.C_below HR1.out HB.out)); (case side2 => exact HC1.out); rintro e w' ⟨rfl, ⟨nd, rfl⟩⟩; refine ⟨_, rfl, ?_⟩; (try (rw [drewN_self wc]; generalize hq_ : World.drewN wc _ = wc; have n0_ : Aside0 (wc.heap[gb523]? = some (.cells #[.int .i64 0, .int .i64 0] 26 (0, 0))) := ⟨by rw [← hq_]; exact (rb BK523.out)⟩; have n1_ : Aside0 (Below w.heap.size w wc) := ⟨by rw [← hq_]; exact (bs1 GE523.out)⟩; clear BK523 HB hq_; have BK523 := n0_; have HB := n1_; clear n0_ n1_))) | ((refine gate_dst (N := 265) rfl ?_); refine Kd.R_lit (Kd.int .i64) _ 2 ?hg (N := 265) ?hd (xs := ([((rd_T26 l3 0).f1), 1] : List Int)) (inner := [.int .i64 ((rd_T26 l3 0).f1), .int .i64 1]) (ok := fun _ => True) (okp := fun _ => True) ?hr ?hp (fun _ hk => hk) trivial (Below.refl _ _) (Nat.le_refl _) (by simp) ?_; (case hd => rfl); (case hg => rfl); (case hr => first | (go_simp; done) | (go_simp; rfl)); (case hp => exact (Reps.one (show Kd.M (Kd.int .i64) _ _ _ ((rd_T26 l3 0).f1) [.int .i64 ((rd_T26 l3 0).f1)] from rfl) (Reps.one (show Kd.M (Kd.int .i64) _ _ _ 1 [.int .i64 1] from rfl) (Reps.none _ _)))); intro v668 w211 ho212 hb hg_ hnew_; clear hg_ hnew_; (first | rw [← Ny667.out] at ho212 | (simp only [Int.reduceToNat] at ho212; rw [← Ny667.out] at ho212)); have HO669 := am (Kd.R_lower ho212 (below_size (bs1 GE523.out))); replace BK523 := am (blk_below (rb BK523.out) hb); replace HB := am (below_step (bs1 GE523.out) hb); clear hb ho212) | ((refine gate_callee (f := 39) rfl ?_); refine gl (some 267) Tryz.func39 #[.int .i64 ((rd_T26 l3 0).f1)] ?_; (with_reducible refine (plenumref19_binary.calls ((rd_T26 l3 0).f1) t670 t671 _ A210.out).mono ?_); rintro e w213 ⟨rfl, hb⟩; refine ⟨_, rfl, ?_⟩; replace HO669 := am (Kd.R_below (rr HO669.out) hb); replace BK523 := am (blk_below (rb BK523.out) hb); replace HB := am (below_step (bs1 GE523.out) hb); (try clear hb); (try clear hb2); (try clear hk); (try clear hi); obtain ⟨hcz214_0, hcz214_1, hfz214_0, hfz214_1⟩ := bz2 BK523.out))
      refine bodyPost_ret (results_tc rfl _ _ gb523 26 #[.int .i64 t670, .int .i64 t671] (0, 0) _ rfl (by refine rb ?_; refine blk_put (cs := #[.int .i64 t670, .int .i64 0]) ?_ 1 _ rfl; refine rb ?_; refine blk_put (cs := #[.int .i64 0, .int .i64 0]) ?_ 0 _ rfl; exact rb BK523.out) Tryz.underlying26 rfl (by kernel_rfl)) rfl ?_
      exact ⟨_, ew, rr (Kd.R_mono (Kd.R_far (p := ⟨gb523, 1, none⟩) (Kd.R_far (p := ⟨gb523, 0, none⟩) (Kd.R_types HO669.out BK523.out (by decide)) (fun _ hk => hk.2) (.int .i64 t670)) (fun _ hk => hk.2) (.int .i64 t671)) (fun _ hk => trivial)), bs1 GE523.out⟩
    rw [if_pos c204] at H
    have c204b0 := beq_iff_eq.mpr c204
    have c204b1 := bne_eq_false_iff_eq.mpr c204
    clear c204
    obtain ⟨y662, hy662⟩ : ∃ y_ : List Int, y_ = (([((rd_T26 l3 0).f1), 0] : List Int)) := ⟨_, rfl⟩
    (try rw [← hy662] at H); (try rw [Option.bind_some] at H); (try dsimp only at H)
    have Ny662 := am hy662
    clear hy662
    obtain ⟨⟨t665, t666⟩, A205, H⟩ := Option.bind_eq_some_iff.mp H
    (try dsimp only at H)
    replace A205 := am A205
    as_aux_lemma =>
     simp only [Option.some.injEq, Prod.mk.injEq] at H
     obtain ⟨rfl, rfl, rfl⟩ := H
     go_wp2_with (first | ((refine gate_callee (f := 23) rfl ?_); refine gl (some 258) Tryz.func23 #[.slice A1 l1.length c1, .int .i64 ((rd_T26 l3 0).f1)] ?_; (with_reducible refine (plenumref19_least.calls _ _ l1 ((rd_T26 l3 0).f1) t661 _ ?side1 ?side2 A203.out).mono ?_); (case side1 => exact cc (Kd.C_below HR1.out HB.out)); (case side2 => exact HC1.out); rintro e w' ⟨rfl, ⟨nd, rfl⟩⟩; refine ⟨_, rfl, ?_⟩; (try (rw [drewN_self wc]; generalize hq_ : World.drewN wc _ = wc; have n0_ : Aside0 (wc.heap[gb523]? = some (.cells #[.int .i64 0, .int .i64 0] 26 (0, 0))) := ⟨by rw [← hq_]; exact (rb BK523.out)⟩; have n1_ : Aside0 (Below w.heap.size w wc) := ⟨by rw [← hq_]; exact (bs1 GE523.out)⟩; clear BK523 HB hq_; have BK523 := n0_; have HB := n1_; clear n0_ n1_))) | ((refine gate_dst (N := 261) rfl ?_); refine Kd.R_lit (Kd.int .i64) _ 2 ?hg (N := 261) ?hd (xs := ([((rd_T26 l3 0).f1), 0] : List Int)) (inner := [.int .i64 ((rd_T26 l3 0).f1), .int .i64 0]) (ok := fun _ => True) (okp := fun _ => True) ?hr ?hp (fun _ hk => hk) trivial (Below.refl _ _) (Nat.le_refl _) (by simp) ?_; (case hd => rfl); (case hg => rfl); (case hr => first | (go_simp; done) | (go_simp; rfl)); (case hp => exact (Reps.one (show Kd.M (Kd.int .i64) _ _ _ ((rd_T26 l3 0).f1) [.int .i64 ((rd_T26 l3 0).f1)] from rfl) (Reps.one (show Kd.M (Kd.int .i64) _ _ _ 0 [.int .i64 0] from rfl) (Reps.none _ _)))); intro v663 w206 ho207 hb hg_ hnew_; clear hg_ hnew_; (first | rw [← Ny662.out] at ho207 | (simp only [Int.reduceToNat] at ho207; rw [← Ny662.out] at ho207)); have HO664 := am (Kd.R_lower ho207 (below_size (bs1 GE523.out))); replace BK523 := am (blk_below (rb BK523.out) hb); replace HB := am (below_step (bs1 GE523.out) hb); clear hb ho207) | ((refine gate_callee (f := 39) rfl ?_); refine gl (some 263) Tryz.func39 #[.int .i64 ((rd_T26 l3 0).f1)] ?_; (with_reducible refine (plenumref19_binary.calls ((rd_T26 l3 0).f1) t665 t666 _ A205.out).mono ?_); rintro e w208 ⟨rfl, hb⟩; refine ⟨_, rfl, ?_⟩; replace HO664 := am (Kd.R_below (rr HO664.out) hb); replace BK523 := am (blk_below (rb BK523.out) hb); replace HB := am (below_step (bs1 GE523.out) hb); (try clear hb); (try clear hb2); (try clear hk); (try clear hi); obtain ⟨hcz209_0, hcz209_1, hfz209_0, hfz209_1⟩ := bz2 BK523.out))
     refine bodyPost_ret (results_tc rfl _ _ gb523 26 #[.int .i64 t665, .int .i64 t666] (0, 0) _ rfl (by refine rb ?_; refine blk_put (cs := #[.int .i64 t665, .int .i64 0]) ?_ 1 _ rfl; refine rb ?_; refine blk_put (cs := #[.int .i64 0, .int .i64 0]) ?_ 0 _ rfl; exact rb BK523.out) Tryz.underlying26 rfl (by kernel_rfl)) rfl ?_
     exact ⟨_, ew, rr (Kd.R_mono (Kd.R_far (p := ⟨gb523, 1, none⟩) (Kd.R_far (p := ⟨gb523, 0, none⟩) (Kd.R_types HO664.out BK523.out (by decide)) (fun _ hk => hk.2) (.int .i64 t665)) (fun _ hk => hk.2) (.int .i64 t666)) (fun _ hk => trivial)), bs1 GE523.out⟩
   subst c183
   rw [if_pos rfl] at H
   by_cases c184 : x21_174 = true
   rotate_left
   ·
    replace c184 := Bool.eq_false_iff.mpr c184
    subst c184
    rw [if_neg (show ¬ (false = true) by decide)] at H
    have c194 := oi H; rw [if_pos c194] at H
    have c194b0 := decide_eq_true c194
    have c194b1 : decide (0 < l2.length) = true := decide_eq_true (by omega)
    clear c194
    obtain ⟨y655, hy655⟩ : ∃ y_ : List Int, y_ = (([rd l2 0, 0] : List Int)) := ⟨_, rfl⟩
    (try rw [← hy655] at H); (try rw [Option.bind_some] at H); (try dsimp only at H)
    have Ny655 := am hy655
    clear hy655
    obtain ⟨⟨t659, t660⟩, A195, H⟩ := Option.bind_eq_some_iff.mp H
    (try dsimp only at H)
    replace A195 := am A195
    as_aux_lemma =>
     simp only [Option.some.injEq, Prod.mk.injEq] at H
     obtain ⟨rfl, rfl, rfl⟩ := H
     try go_wp2
     have n0_ := am (blk_drew BK523.out)
     have n1_ := am (below_drew1 HB.out)
     revert n0_ n1_; clear BK523 HB; intro BK523 HB
     have p654 : 0 ≤ (0 : Int) := (by omega); have q654 : 0 < (l2.length : Int) := ode; obtain ⟨ad654, e654, hx654_0⟩ := Kd.at_int HR2.out 0 p654 q654
     have hw654_0 := hx654_0
     (try rw [t0] at hw654_0); (try rw [show 0 * 1 = 0 from rfl] at hw654_0); (try rw [Addr.add_zero'] at hw654_0); obtain rfl : ad642 = ad654 := (by injection e654); have qi654 : (0 < l2.length) = True := eq_true (by omega); (try rw [t0] at hx654_0); (try rw [Addr.add_zero'] at hx654_0); replace hx654_0 := hbl HB.out hx654_0; replace p654 := eq_true p654; replace q654 := eq_true q654; have p658 : 0 ≤ (0 : Int) := (by omega); have q658 : 0 < (l2.length : Int) := ode; obtain ⟨ad658, e658, hx658_0⟩ := Kd.at_int HR2.out 0 p658 q658
     have hw658_0 := hx658_0
     (try rw [t0] at hw658_0); (try rw [show 0 * 1 = 0 from rfl] at hw658_0); (try rw [Addr.add_zero'] at hw658_0); obtain rfl : ad642 = ad658 := (by injection e658); have qi658 : (0 < l2.length) = True := eq_true (by omega); (try rw [t0] at hx658_0); (try rw [Addr.add_zero'] at hx658_0); replace hx658_0 := hbl HB.out hx658_0; replace p658 := eq_true p658; replace q658 := eq_true q658
     refine start_ (n := 10) (S := fun w' => True) (ds := []) #[F, F, F, F, F, F, F, F, F, F] (by kernel_rfl) rfl rfl trivial (fun hHeld => ?_); refine with_tabW plenumref19_step.tab61 plenumref19_step.bits61 (fun HT_ HW_ => ?_)
     generalize wc.drew = w196 at BK523 HB hx654_0 hx658_0 hHeld ⊢
     refine pure_ (i := 0) (N := some 248) (v := ?_) (a' := ?_) #[T, F, F, F, F, F, F, F, F, F] rfl rfl (any_of HT_.out (by kernel_rfl)) (fun _ _ _ h => h) (Or.inl ⟨by rfl, ?_⟩) ?_ ?_
     rotate_left
     ·
      intro w'
      go_simp
      with_reducible rfl
     rotate_left
     ·
      simp only [ap, sa, sb, sc, i64_w, i32_w]
      rfl
     refine pure_ (i := 4) (N := some 252) (v := ?_) (a' := ?_) #[T, F, F, F, T, F, F, F, F, F] rfl rfl (any_of HT_.out (by kernel_rfl)) (fun _ _ _ h => h) (Or.inl ⟨by rfl, ?_⟩) ?_ ?_
     rotate_left
     ·
      intro w'
      go_simp
      with_reducible rfl
     rotate_left
     ·
      simp only [ap, sa, sb, sc, i64_w, i32_w]
      rfl
     refine inv_at [1, 2, 3, 5, 6, 7, 8, 9] (fun a0_ b a w' => ∃ (v656 : Value) (m8_ : Value), a = putSel a0_ b [(1, 249, .pointer (some ad642)), (2, 250, .int .i64 (rd l2 0)), (3, 251, v656), (5, 253, .pointer (some ad642)), (6, 254, .int .i64 (rd l2 0)), (7, 255, .agg #[.int .i64 t659, .int .i64 t660]), (8, 10, m8_)] ∧ (b 9 = false → w'.heap[gb523]? = some (.cells #[.int .i64 0, .int .i64 0] 26 (0, 0))) ∧ (Below w.heap.size w w') ∧ (b 3 = true → Kd.R (Kd.int .i64) 2 w' w.heap.size (fun _ => True) v656 y655) ∧ (b 9 = true → w'.heap[gb523]? = some (.cells #[.int .i64 t659, .int .i64 t660] 26 (0, 0))) ∧ (b 8 = true → (m8_ : Value) = v656)) HT_.out HW_.out (by kernel_rfl) (by kernel_rfl) ?_ ?_ ?_
     ·
      exact ⟨.bool false, .bool false, by simp only [putSel, Bool.false_eq_true, if_false], fun _ => BK523.out, HB.out, fun h_ => absurd h_ (by decide), fun h_ => absurd h_ (by decide), fun h_ => absurd h_ (by decide)⟩
     ·
      skip
      clear BK523 HB
      refine steps_cons ?_ ?_
      ·
       rintro b a w' ⟨v656, m8_, ha, Q_BK523, Q_HB, Q_HO657, Q_BK523_e9, Q_X8_⟩ hb_ hon hoff
       refine ⟨_, rfl, fun K hK => ?_⟩
       have e248 : a.tmps[248]? = some (.slice (some ad642) l2.length c2) := by rw [ha]; exact (putSel_off rfl).trans rfl
       replace ha := am ha
       have BK523 := am (Q_BK523 (hoff 9 (by kernel_rfl)))
       have HB := am Q_HB
       have hs0_ : w'.cell? ad642 = some (.int .i64 (rd l2 0)) := (hbl HB.out hw654_0)
       refine value_ (w1 := w') (v := .pointer (some ad642)) (by rfl) rfl ?_ ?_
       ·
        go_simp
        (try simp only [i64_w])
        try rfl
       refine hK.out _ _ ⟨v656, m8_, (by rw [ha.out]; exact putSel_upk 0 hb_ rfl rfl rfl), Q_BK523, Q_HB, fun h0_ => absurd ((hoff 3 (by kernel_rfl)).symm.trans h0_) (by decide), fun h0_ => absurd ((hoff 9 (by kernel_rfl)).symm.trans h0_) (by decide), fun h0_ => absurd ((hoff 8 (by kernel_rfl)).symm.trans h0_) (by decide)⟩
      refine steps_cons ?_ ?_
      ·
       rintro b a w' ⟨v656, m8_, ha, Q_BK523, Q_HB, Q_HO657, Q_BK523_e9, Q_X8_⟩ hb_ hon hoff
       refine ⟨_, rfl, fun K hK => ?_⟩
       have e249 : a.tmps[249]? = some (.pointer (some ad642)) := by rw [ha]; exact putSel_on (e := (1, 249, .pointer (some ad642))) 0 rfl rfl (hon 1 (by kernel_rfl)) rfl
       replace ha := am ha
       have BK523 := am (Q_BK523 (hoff 9 (by kernel_rfl)))
       have HB := am Q_HB
       have hs0_ : w'.cell? ad642 = some (.int .i64 (rd l2 0)) := (hbl HB.out hw654_0)
       refine value_ (w1 := w') (v := .int .i64 (rd l2 0)) (by rfl) rfl ?_ ?_
       ·
        go_simp
        (try simp only [i64_w])
        try rfl
       refine hK.out _ _ ⟨v656, m8_, (by rw [ha.out]; exact putSel_upk 1 hb_ rfl rfl rfl), Q_BK523, Q_HB, fun h0_ => absurd ((hoff 3 (by kernel_rfl)).symm.trans h0_) (by decide), fun h0_ => absurd ((hoff 9 (by kernel_rfl)).symm.trans h0_) (by decide), fun h0_ => absurd ((hoff 8 (by kernel_rfl)).symm.trans h0_) (by decide)⟩
      refine steps_cons ?_ ?_
      ·
       rintro b a w' ⟨v656, m8_, ha, Q_BK523, Q_HB, Q_HO657, Q_BK523_e9, Q_X8_⟩ hb_ hon hoff
       refine ⟨_, rfl, fun K hK => ?_⟩
       have e250 : a.tmps[250]? = some (.int .i64 (rd l2 0)) := by rw [ha]; exact putSel_on (e := (2, 250, .int .i64 (rd l2 0))) 1 rfl rfl (hon 2 (by kernel_rfl)) rfl
       replace ha := am ha
       have BK523 := am (Q_BK523 (hoff 9 (by kernel_rfl)))
       have HB := am Q_HB
       refine Kd.R_lit_step (Kd.int .i64) _ 2 ?hg (N := 251) ?hd (xs := ([rd l2 0, 0] : List Int)) (inner := [.int .i64 (rd l2 0), .int .i64 0]) (ok := fun _ => True) (okp := fun _ => True) ?hr ?hp (fun _ hk => hk) trivial (Below.refl _ _) (Nat.le_refl _) (by simp) ?_; (case hd => rfl); (case hg => rfl); (case hr => first | (go_simp; done) | (go_simp; rfl)); (case hp => exact (Reps.one (show Kd.M (Kd.int .i64) _ _ _ (rd l2 0) [.int .i64 (rd l2 0)] from rfl) (Reps.one (show Kd.M (Kd.int .i64) _ _ _ 0 [.int .i64 0] from rfl) (Reps.none _ _))))
       intro v656 w197 ho198 hb hg_ hnew_
       clear hg_ hnew_
       (first | rw [← Ny655.out] at ho198 | (simp only [Int.reduceToNat] at ho198; rw [← Ny655.out] at ho198))
       have n0_ := am (Kd.R_lower ho198 (below_size (bs1 GE523.out)))
       have n1_ := am (blk_below (rb BK523.out) hb)
       have n2_ := am (below_step (bs1 GE523.out) hb)
       revert n0_ n1_ n2_; clear BK523 HB; intro HO657 BK523 HB
       clear hb ho198
       refine hK.out _ _ ⟨v656, m8_, (by rw [ha.out]; exact putSel_upk 2 hb_ rfl rfl rfl), fun _ => (rb BK523.out), (bs1 GE523.out), fun _ => (rr HO657.out), fun h0_ => absurd ((hoff 9 (by kernel_rfl)).symm.trans h0_) (by decide), fun h0_ => absurd ((hoff 8 (by kernel_rfl)).symm.trans h0_) (by decide)⟩
      refine steps_cons ?_ ?_
      ·
       rintro b a w' ⟨v656, m8_, ha, Q_BK523, Q_HB, Q_HO657, Q_BK523_e9, Q_X8_⟩ hb_ hon hoff
       refine ⟨_, rfl, fun K hK => ?_⟩
       have e252 : a.tmps[252]? = some (.slice (some ad642) l2.length c2) := by rw [ha]; exact (putSel_off rfl).trans rfl
       replace ha := am ha
       have BK523 := am (Q_BK523 (hoff 9 (by kernel_rfl)))
       have HB := am Q_HB
       have hs1_ : w'.cell? ad642 = some (.int .i64 (rd l2 0)) := (hbl HB.out hw658_0)
       refine value_ (w1 := w') (v := .pointer (some ad642)) (by rfl) rfl ?_ ?_
       ·
        go_simp
        (try simp only [i64_w])
        try rfl
       refine hK.out _ _ ⟨v656, m8_, (by rw [ha.out]; exact putSel_upk 3 hb_ rfl rfl rfl), Q_BK523, Q_HB, Q_HO657, fun h0_ => absurd ((hoff 9 (by kernel_rfl)).symm.trans h0_) (by decide), fun h0_ => absurd ((hoff 8 (by kernel_rfl)).symm.trans h0_) (by decide)⟩
      refine steps_cons ?_ ?_
      ·
       rintro b a w' ⟨v656, m8_, ha, Q_BK523, Q_HB, Q_HO657, Q_BK523_e9, Q_X8_⟩ hb_ hon hoff
       refine ⟨_, rfl, fun K hK => ?_⟩
       have e253 : a.tmps[253]? = some (.pointer (some ad642)) := by rw [ha]; exact putSel_on (e := (5, 253, .pointer (some ad642))) 3 rfl rfl (hon 5 (by kernel_rfl)) rfl
       replace ha := am ha
       have BK523 := am (Q_BK523 (hoff 9 (by kernel_rfl)))
       have HB := am Q_HB
       have hs1_ : w'.cell? ad642 = some (.int .i64 (rd l2 0)) := (hbl HB.out hw658_0)
       refine value_ (w1 := w') (v := .int .i64 (rd l2 0)) (by rfl) rfl ?_ ?_
       ·
        go_simp
        (try simp only [i64_w])
        try rfl
       refine hK.out _ _ ⟨v656, m8_, (by rw [ha.out]; exact putSel_upk 4 hb_ rfl rfl rfl), Q_BK523, Q_HB, Q_HO657, fun h0_ => absurd ((hoff 9 (by kernel_rfl)).symm.trans h0_) (by decide), fun h0_ => absurd ((hoff 8 (by kernel_rfl)).symm.trans h0_) (by decide)⟩
      refine steps_cons ?_ ?_
      ·
       rintro b a w' ⟨v656, m8_, ha, Q_BK523, Q_HB, Q_HO657, Q_BK523_e9, Q_X8_⟩ hb_ hon hoff
       refine ⟨_, rfl, fun K hK => ?_⟩
       have e254 : a.tmps[254]? = some (.int .i64 (rd l2 0)) := by rw [ha]; exact putSel_on (e := (6, 254, .int .i64 (rd l2 0))) 4 rfl rfl (hon 6 (by kernel_rfl)) rfl
       replace ha := am ha
       have BK523 := am (Q_BK523 (hoff 9 (by kernel_rfl)))
       have HB := am Q_HB
       refine goes_ Tryz.func39 (by kernel_rfl) rfl #[.int .i64 (rd l2 0)] (by rfl) rfl rfl (by first | (simp only [List.map_toArray, List.map_cons, List.map_nil, Act.eval, Array.getD_eq_getD_getElem?, Option.getD_some, e254]; done) | (simp only [List.map_toArray, List.map_cons, List.map_nil, Act.eval, Array.getD_eq_getD_getElem?, Option.getD_some, e254]; rfl)) ?_
       with_reducible refine (plenumref19_binary.calls (rd l2 0) t659 t660 _ A195.out).mono ?_
       rintro e w197 ⟨rfl, hb⟩
       refine ⟨_, rfl, ?_⟩
       have n0_ := am (blk_below (rb BK523.out) hb)
       have n1_ := am (below_step (bs1 GE523.out) hb)
       have z_HO657 := fun (h0_ : b 3 = true) => (show Kd.R (Kd.int .i64) 2 w197 w.heap.size (fun _ => True) v656 y655 from by first | exact (Kd.R_below (rr ((Q_HO657 h0_))) hb) | exact Kd.R_mono (Kd.R_below (rr ((Q_HO657 h0_))) hb) (fun _ h_ => by first | trivial | exact h_ | exact h_.1))
       revert n0_ n1_; clear BK523 HB; intro BK523 HB
       (try clear hb)
       (try clear hb2)
       (try clear hk)
       (try clear hi)
       refine hK.out _ _ ⟨v656, m8_, (by rw [ha.out]; exact putSel_upk 5 hb_ rfl rfl rfl), fun _ => (rb BK523.out), (bs1 GE523.out), z_HO657, fun h0_ => absurd ((hoff 9 (by kernel_rfl)).symm.trans h0_) (by decide), fun h0_ => absurd ((hoff 8 (by kernel_rfl)).symm.trans h0_) (by decide)⟩
      refine steps_cons ?_ ?_
      ·
       rintro b a w' ⟨v656, m8_, ha, Q_BK523, Q_HB, Q_HO657, Q_BK523_e9, Q_X8_⟩ hb_ hon hoff
       refine ⟨_, rfl, fun K hK => ?_⟩
       have e251 : a.tmps[251]? = some (v656) := by rw [ha]; exact putSel_on (e := (3, 251, v656)) 2 rfl rfl (hon 3 (by kernel_rfl)) rfl
       replace ha := am ha
       have BK523 := am (Q_BK523 (hoff 9 (by kernel_rfl)))
       have HB := am Q_HB
       have HO657 := am (Q_HO657 (hon 3 (by kernel_rfl)))
       refine value_ (w1 := w') (v := v656) (by rfl) rfl ?_ ?_
       ·
        go_simp
        (try simp only [i64_w])
        try rfl
       refine hK.out _ _ ⟨v656, (v656), (by rw [ha.out]; exact putSel_upk 6 hb_ rfl rfl rfl), Q_BK523, Q_HB, Q_HO657, fun h0_ => absurd ((hoff 9 (by kernel_rfl)).symm.trans h0_) (by decide), fun _ => rfl⟩
      refine steps_cons ?_ ?_
      ·
       rintro b a w' ⟨v656, m8_, ha, Q_BK523, Q_HB, Q_HO657, Q_BK523_e9, Q_X8_⟩ hb_ hon hoff
       refine ⟨_, rfl, fun K hK => ?_⟩
       have e11 : a.tmps[11]? = some (.pointer (some ⟨gb523, 0, none⟩)) := by rw [ha]; exact (putSel_off rfl).trans rfl
       have e255 : a.tmps[255]? = some (.agg #[.int .i64 t659, .int .i64 t660]) := by rw [ha]; exact putSel_on (e := (7, 255, .agg #[.int .i64 t659, .int .i64 t660])) 5 rfl rfl (hon 7 (by kernel_rfl)) rfl
       replace ha := am ha
       have BK523 := am (Q_BK523 hb_)
       have HB := am Q_HB
       have HO657 := am (Q_HO657 (hon 3 (by kernel_rfl)))
       have hs201 : w'.cell? ⟨gb523, 0, none⟩ = some (.int .i64 0) := (blk_cell BK523.out 0).trans rfl
       have hfs201 := blk_frozen BK523.out 0
       have hs202 : w'.cell? ⟨gb523, 1, none⟩ = some (.int .i64 0) := (blk_cell BK523.out 1).trans rfl
       have hfs202 := blk_frozen BK523.out 1
       refine skip_ (w1 := ?_) (by rfl) rfl ?_ ?_
       rotate_left
       ·
        go_simp
        rfl
       refine hK.out _ _ ⟨v656, m8_, (by rw [ha.out]; exact putSel_none (v := undef) rfl), fun h0_ => absurd ((up_self b 9).symm.trans h0_) (by decide), (bs1 GE523.out), fun _ => (rr (Kd.R_mono (Kd.R_far (p := ⟨gb523, 1, none⟩) (Kd.R_far (p := ⟨gb523, 0, none⟩) (Kd.R_types HO657.out BK523.out (by decide)) (fun _ hk => hk.2) (.int .i64 t659)) (fun _ hk => hk.2) (.int .i64 t660)) (fun _ hk => trivial))), fun _ => (by refine rb ?_; refine blk_put (cs := #[.int .i64 t659, .int .i64 0]) ?_ 1 _ rfl; refine rb ?_; refine blk_put (cs := #[.int .i64 0, .int .i64 0]) ?_ 0 _ rfl; exact rb BK523.out), Q_X8_⟩
      exact steps_nil
     rintro b a w202 hall ⟨v656, m8_, ha, Q_BK523, Q_HB, Q_HO657, Q_BK523_e9, Q_X8_⟩
     clear BK523 HB
     have hb1_ := hall 1 (by kernel_rfl)
     have hb2_ := hall 2 (by kernel_rfl)
     have hb3_ := hall 3 (by kernel_rfl)
     have hb5_ := hall 5 (by kernel_rfl)
     have hb6_ := hall 6 (by kernel_rfl)
     have hb7_ := hall 7 (by kernel_rfl)
     have hb8_ := hall 8 (by kernel_rfl)
     have hb9_ := hall 9 (by kernel_rfl)
     subst ha
     obtain rfl := Q_X8_ hb8_
     simp only [putSel, hb1_, hb2_, hb3_, hb5_, hb6_, hb7_, hb8_, hb9_, if_true, Act.put, List.setIfInBounds_toArray, List.set_cons_zero, List.set_cons_succ]
     clear Q_BK523
     have HB := am Q_HB
     clear Q_HB
     have HO657 := am (Q_HO657 hb3_)
     clear Q_HO657
     have BK523 := am (Q_BK523_e9 hb9_)
     clear Q_BK523_e9
     clear hall hb1_ hb2_ hb3_ hb5_ hb6_ hb7_ hb8_ hb9_
     try go_wp2
     refine bodyPost_ret (results_tc rfl _ _ gb523 26 #[.int .i64 t659, .int .i64 t660] (0, 0) _ rfl (rb BK523.out) Tryz.underlying26 rfl (by kernel_rfl)) rfl ?_
     exact ⟨_, ew, rr HO657.out, bs1 GE523.out⟩
   subst c184
   rw [if_pos rfl] at H
   have c185 := oi H; rw [if_pos c185] at H
   have c185b0 := decide_eq_true c185
   have c185b1 : decide (0 < l2.length) = true := decide_eq_true (by omega)
   clear c185
   obtain ⟨y648, hy648⟩ : ∃ y_ : List Int, y_ = (([rd l2 0, wrap64 ((wrap64 ((wrap64 ((rd l2 1) - 1)) + a4)) + 1)] : List Int)) := ⟨_, rfl⟩
   (try rw [← hy648] at H); (try rw [Option.bind_some] at H); (try dsimp only at H)
   have Ny648 := am hy648
   clear hy648
   obtain ⟨⟨t652, t653⟩, A186, H⟩ := Option.bind_eq_some_iff.mp H
   (try dsimp only at H)
   replace A186 := am A186
   as_aux_lemma =>
    simp only [Option.some.injEq, Prod.mk.injEq] at H
    obtain ⟨rfl, rfl, rfl⟩ := H
    try go_wp2
    have n0_ := am (blk_drew BK523.out)
    have n1_ := am (below_drew1 HB.out)
    revert n0_ n1_; clear BK523 HB; intro BK523 HB
    have p647 : 0 ≤ (0 : Int) := (by omega); have q647 : 0 < (l2.length : Int) := ode; obtain ⟨ad647, e647, hx647_0⟩ := Kd.at_int HR2.out 0 p647 q647
    have hw647_0 := hx647_0
    (try rw [t0] at hw647_0); (try rw [show 0 * 1 = 0 from rfl] at hw647_0); (try rw [Addr.add_zero'] at hw647_0); obtain rfl : ad642 = ad647 := (by injection e647); have qi647 : (0 < l2.length) = True := eq_true (by omega); (try rw [t0] at hx647_0); (try rw [Addr.add_zero'] at hx647_0); replace hx647_0 := hbl HB.out hx647_0; replace p647 := eq_true p647; replace q647 := eq_true q647; have p651 : 0 ≤ (0 : Int) := (by omega); have q651 : 0 < (l2.length : Int) := ode; obtain ⟨ad651, e651, hx651_0⟩ := Kd.at_int HR2.out 0 p651 q651
    have hw651_0 := hx651_0
    (try rw [t0] at hw651_0); (try rw [show 0 * 1 = 0 from rfl] at hw651_0); (try rw [Addr.add_zero'] at hw651_0); obtain rfl : ad642 = ad651 := (by injection e651); have qi651 : (0 < l2.length) = True := eq_true (by omega); (try rw [t0] at hx651_0); (try rw [Addr.add_zero'] at hx651_0); replace hx651_0 := hbl HB.out hx651_0; replace p651 := eq_true p651; replace q651 := eq_true q651
    refine start_ (n := 12) (S := fun w' => True) (ds := []) #[F, F, F, F, F, F, F, F, F, F, F, F] (by kernel_rfl) rfl rfl trivial (fun hHeld => ?_); refine with_tabW plenumref19_step.tab60 plenumref19_step.bits60 (fun HT_ HW_ => ?_)
    generalize wc.drew = w187 at BK523 HB hx647_0 hx651_0 hHeld ⊢
    refine pure_ (i := 0) (N := some 238) (v := ?_) (a' := ?_) #[T, F, F, F, F, F, F, F, F, F, F, F] rfl rfl (any_of HT_.out (by kernel_rfl)) (fun _ _ _ h => h) (Or.inl ⟨by rfl, ?_⟩) ?_ ?_
    rotate_left
    ·
     intro w'
     go_simp
     with_reducible rfl
    rotate_left
    ·
     simp only [ap, sa, sb, sc, i64_w, i32_w]
     rfl
    refine pure_ (i := 3) (N := some 241) (v := ?_) (a' := ?_) #[T, F, F, T, F, F, F, F, F, F, F, F] rfl rfl (any_of HT_.out (by kernel_rfl)) (fun _ _ _ h => h) (Or.inl ⟨by rfl, ?_⟩) ?_ ?_
    rotate_left
    ·
     intro w'
     go_simp
     with_reducible rfl
    rotate_left
    ·
     simp only [ap, sa, sb, sc, i64_w, i32_w]
     rfl
    refine pure_ (i := 6) (N := some 244) (v := ?_) (a' := ?_) #[T, F, F, T, F, F, T, F, F, F, F, F] rfl rfl (any_of HT_.out (by kernel_rfl)) (fun _ _ _ h => h) (Or.inl ⟨by rfl, ?_⟩) ?_ ?_
    rotate_left
    ·
     intro w'
     go_simp
     with_reducible rfl
    rotate_left
    ·
     simp only [ap, sa, sb, sc, i64_w, i32_w]
     rfl
    refine inv_at [1, 2, 4, 5, 7, 8, 9, 10, 11] (fun a0_ b a w' => ∃ (v649 : Value) (m10_ : Value), a = putSel a0_ b [(1, 239, .pointer (some ad642)), (2, 240, .int .i64 (rd l2 0)), (4, 242, .int .i64 (wrap64 ((wrap64 ((wrap64 ((rd l2 1) - 1)) + a4)) + 1))), (5, 243, v649), (7, 245, .pointer (some ad642)), (8, 246, .int .i64 (rd l2 0)), (9, 247, .agg #[.int .i64 t652, .int .i64 t653]), (10, 10, m10_)] ∧ (b 11 = false → w'.heap[gb523]? = some (.cells #[.int .i64 0, .int .i64 0] 26 (0, 0))) ∧ (Below w.heap.size w w') ∧ (b 5 = true → Kd.R (Kd.int .i64) 2 w' w.heap.size (fun _ => True) v649 y648) ∧ (b 11 = true → w'.heap[gb523]? = some (.cells #[.int .i64 t652, .int .i64 t653] 26 (0, 0))) ∧ (b 10 = true → (m10_ : Value) = v649)) HT_.out HW_.out (by kernel_rfl) (by kernel_rfl) ?_ ?_ ?_
    ·
     exact ⟨.bool false, .bool false, by simp only [putSel, Bool.false_eq_true, if_false], fun _ => BK523.out, HB.out, fun h_ => absurd h_ (by decide), fun h_ => absurd h_ (by decide), fun h_ => absurd h_ (by decide)⟩
    ·
     skip
     clear BK523 HB
     refine steps_cons ?_ ?_
     ·
      rintro b a w' ⟨v649, m10_, ha, Q_BK523, Q_HB, Q_HO650, Q_BK523_e11, Q_X10_⟩ hb_ hon hoff
      refine ⟨_, rfl, fun K hK => ?_⟩
      have e238 : a.tmps[238]? = some (.slice (some ad642) l2.length c2) := by rw [ha]; exact (putSel_off rfl).trans rfl
      replace ha := am ha
      have BK523 := am (Q_BK523 (hoff 11 (by kernel_rfl)))
      have HB := am Q_HB
      have hs0_ : w'.cell? ad642 = some (.int .i64 (rd l2 0)) := (hbl HB.out hw647_0)
      refine value_ (w1 := w') (v := .pointer (some ad642)) (by rfl) rfl ?_ ?_
      ·
       go_simp
       (try simp only [i64_w])
       try rfl
      refine hK.out _ _ ⟨v649, m10_, (by rw [ha.out]; exact putSel_upk 0 hb_ rfl rfl rfl), Q_BK523, Q_HB, fun h0_ => absurd ((hoff 5 (by kernel_rfl)).symm.trans h0_) (by decide), fun h0_ => absurd ((hoff 11 (by kernel_rfl)).symm.trans h0_) (by decide), fun h0_ => absurd ((hoff 10 (by kernel_rfl)).symm.trans h0_) (by decide)⟩
     refine steps_cons ?_ ?_
     ·
      rintro b a w' ⟨v649, m10_, ha, Q_BK523, Q_HB, Q_HO650, Q_BK523_e11, Q_X10_⟩ hb_ hon hoff
      refine ⟨_, rfl, fun K hK => ?_⟩
      have e239 : a.tmps[239]? = some (.pointer (some ad642)) := by rw [ha]; exact putSel_on (e := (1, 239, .pointer (some ad642))) 0 rfl rfl (hon 1 (by kernel_rfl)) rfl
      replace ha := am ha
      have BK523 := am (Q_BK523 (hoff 11 (by kernel_rfl)))
      have HB := am Q_HB
      have hs0_ : w'.cell? ad642 = some (.int .i64 (rd l2 0)) := (hbl HB.out hw647_0)
      refine value_ (w1 := w') (v := .int .i64 (rd l2 0)) (by rfl) rfl ?_ ?_
      ·
       go_simp
       (try simp only [i64_w])
       try rfl
      refine hK.out _ _ ⟨v649, m10_, (by rw [ha.out]; exact putSel_upk 1 hb_ rfl rfl rfl), Q_BK523, Q_HB, fun h0_ => absurd ((hoff 5 (by kernel_rfl)).symm.trans h0_) (by decide), fun h0_ => absurd ((hoff 11 (by kernel_rfl)).symm.trans h0_) (by decide), fun h0_ => absurd ((hoff 10 (by kernel_rfl)).symm.trans h0_) (by decide)⟩
     refine steps_cons ?_ ?_
     ·
      rintro b a w' ⟨v649, m10_, ha, Q_BK523, Q_HB, Q_HO650, Q_BK523_e11, Q_X10_⟩ hb_ hon hoff
      refine ⟨_, rfl, fun K hK => ?_⟩
      have e241 : a.tmps[241]? = some (.int .i64 (wrap64 ((wrap64 ((rd l2 1) - 1)) + a4))) := by rw [ha]; exact (putSel_off rfl).trans rfl
      replace ha := am ha
      have BK523 := am (Q_BK523 (hoff 11 (by kernel_rfl)))
      have HB := am Q_HB
      refine value_ (w1 := w') (v := .int .i64 (wrap64 ((wrap64 ((wrap64 ((rd l2 1) - 1)) + a4)) + 1))) (by rfl) rfl ?_ ?_
      ·
       go_simp
       (try simp only [i64_w])
       try rfl
      refine hK.out _ _ ⟨v649, m10_, (by rw [ha.out]; exact putSel_upk 2 hb_ rfl rfl rfl), Q_BK523, Q_HB, fun h0_ => absurd ((hoff 5 (by kernel_rfl)).symm.trans h0_) (by decide), fun h0_ => absurd ((hoff 11 (by kernel_rfl)).symm.trans h0_) (by decide), fun h0_ => absurd ((hoff 10 (by kernel_rfl)).symm.trans h0_) (by decide)⟩
     refine steps_cons ?_ ?_
     ·
      rintro b a w' ⟨v649, m10_, ha, Q_BK523, Q_HB, Q_HO650, Q_BK523_e11, Q_X10_⟩ hb_ hon hoff
      refine ⟨_, rfl, fun K hK => ?_⟩
      have e240 : a.tmps[240]? = some (.int .i64 (rd l2 0)) := by rw [ha]; exact putSel_on (e := (2, 240, .int .i64 (rd l2 0))) 1 rfl rfl (hon 2 (by kernel_rfl)) rfl
      have e242 : a.tmps[242]? = some (.int .i64 (wrap64 ((wrap64 ((wrap64 ((rd l2 1) - 1)) + a4)) + 1))) := by rw [ha]; exact putSel_on (e := (4, 242, .int .i64 (wrap64 ((wrap64 ((wrap64 ((rd l2 1) - 1)) + a4)) + 1)))) 2 rfl rfl (hon 4 (by kernel_rfl)) rfl
      replace ha := am ha
      have BK523 := am (Q_BK523 (hoff 11 (by kernel_rfl)))
      have HB := am Q_HB
      refine Kd.R_lit_step (Kd.int .i64) _ 2 ?hg (N := 243) ?hd (xs := ([rd l2 0, wrap64 ((wrap64 ((wrap64 ((rd l2 1) - 1)) + a4)) + 1)] : List Int)) (inner := [.int .i64 (rd l2 0), .int .i64 (wrap64 ((wrap64 ((wrap64 ((rd l2 1) - 1)) + a4)) + 1))]) (ok := fun _ => True) (okp := fun _ => True) ?hr ?hp (fun _ hk => hk) trivial (Below.refl _ _) (Nat.le_refl _) (by simp) ?_; (case hd => rfl); (case hg => rfl); (case hr => first | (go_simp; done) | (go_simp; rfl)); (case hp => exact (Reps.one (show Kd.M (Kd.int .i64) _ _ _ (rd l2 0) [.int .i64 (rd l2 0)] from rfl) (Reps.one (show Kd.M (Kd.int .i64) _ _ _ (wrap64 ((wrap64 ((wrap64 ((rd l2 1) - 1)) + a4)) + 1)) [.int .i64 (wrap64 ((wrap64 ((wrap64 ((rd l2 1) - 1)) + a4)) + 1))] from rfl) (Reps.none _ _))))
      intro v649 w188 ho189 hb hg_ hnew_
      clear hg_ hnew_
      (first | rw [← Ny648.out] at ho189 | (simp only [Int.reduceToNat] at ho189; rw [← Ny648.out] at ho189))
      have n0_ := am (Kd.R_lower ho189 (below_size (bs1 GE523.out)))
      have n1_ := am (blk_below (rb BK523.out) hb)
      have n2_ := am (below_step (bs1 GE523.out) hb)
      revert n0_ n1_ n2_; clear BK523 HB; intro HO650 BK523 HB
      clear hb ho189
      refine hK.out _ _ ⟨v649, m10_, (by rw [ha.out]; exact putSel_upk 3 hb_ rfl rfl rfl), fun _ => (rb BK523.out), (bs1 GE523.out), fun _ => (rr HO650.out), fun h0_ => absurd ((hoff 11 (by kernel_rfl)).symm.trans h0_) (by decide), fun h0_ => absurd ((hoff 10 (by kernel_rfl)).symm.trans h0_) (by decide)⟩
     refine steps_cons ?_ ?_
     ·
      rintro b a w' ⟨v649, m10_, ha, Q_BK523, Q_HB, Q_HO650, Q_BK523_e11, Q_X10_⟩ hb_ hon hoff
      refine ⟨_, rfl, fun K hK => ?_⟩
      have e244 : a.tmps[244]? = some (.slice (some ad642) l2.length c2) := by rw [ha]; exact (putSel_off rfl).trans rfl
      replace ha := am ha
      have BK523 := am (Q_BK523 (hoff 11 (by kernel_rfl)))
      have HB := am Q_HB
      have hs1_ : w'.cell? ad642 = some (.int .i64 (rd l2 0)) := (hbl HB.out hw651_0)
      refine value_ (w1 := w') (v := .pointer (some ad642)) (by rfl) rfl ?_ ?_
      ·
       go_simp
       (try simp only [i64_w])
       try rfl
      refine hK.out _ _ ⟨v649, m10_, (by rw [ha.out]; exact putSel_upk 4 hb_ rfl rfl rfl), Q_BK523, Q_HB, Q_HO650, fun h0_ => absurd ((hoff 11 (by kernel_rfl)).symm.trans h0_) (by decide), fun h0_ => absurd ((hoff 10 (by kernel_rfl)).symm.trans h0_) (by decide)⟩
     refine steps_cons ?_ ?_
     ·
      rintro b a w' ⟨v649, m10_, ha, Q_BK523, Q_HB, Q_HO650, Q_BK523_e11, Q_X10_⟩ hb_ hon hoff
      refine ⟨_, rfl, fun K hK => ?_⟩
      have e245 : a.tmps[245]? = some (.pointer (some ad642)) := by rw [ha]; exact putSel_on (e := (7, 245, .pointer (some ad642))) 4 rfl rfl (hon 7 (by kernel_rfl)) rfl
      replace ha := am ha
      have BK523 := am (Q_BK523 (hoff 11 (by kernel_rfl)))
      have HB := am Q_HB
      have hs1_ : w'.cell? ad642 = some (.int .i64 (rd l2 0)) := (hbl HB.out hw651_0)
      refine value_ (w1 := w') (v := .int .i64 (rd l2 0)) (by rfl) rfl ?_ ?_
      ·
       go_simp
       (try simp only [i64_w])
       try rfl
      refine hK.out _ _ ⟨v649, m10_, (by rw [ha.out]; exact putSel_upk 5 hb_ rfl rfl rfl), Q_BK523, Q_HB, Q_HO650, fun h0_ => absurd ((hoff 11 (by kernel_rfl)).symm.trans h0_) (by decide), fun h0_ => absurd ((hoff 10 (by kernel_rfl)).symm.trans h0_) (by decide)⟩
     refine steps_cons ?_ ?_
     ·
      rintro b a w' ⟨v649, m10_, ha, Q_BK523, Q_HB, Q_HO650, Q_BK523_e11, Q_X10_⟩ hb_ hon hoff
      refine ⟨_, rfl, fun K hK => ?_⟩
      have e246 : a.tmps[246]? = some (.int .i64 (rd l2 0)) := by rw [ha]; exact putSel_on (e := (8, 246, .int .i64 (rd l2 0))) 5 rfl rfl (hon 8 (by kernel_rfl)) rfl
      replace ha := am ha
      have BK523 := am (Q_BK523 (hoff 11 (by kernel_rfl)))
      have HB := am Q_HB
      refine goes_ Tryz.func39 (by kernel_rfl) rfl #[.int .i64 (rd l2 0)] (by rfl) rfl rfl (by first | (simp only [List.map_toArray, List.map_cons, List.map_nil, Act.eval, Array.getD_eq_getD_getElem?, Option.getD_some, e246]; done) | (simp only [List.map_toArray, List.map_cons, List.map_nil, Act.eval, Array.getD_eq_getD_getElem?, Option.getD_some, e246]; rfl)) ?_
      with_reducible refine (plenumref19_binary.calls (rd l2 0) t652 t653 _ A186.out).mono ?_
      rintro e w188 ⟨rfl, hb⟩
      refine ⟨_, rfl, ?_⟩
      have n0_ := am (blk_below (rb BK523.out) hb)
      have n1_ := am (below_step (bs1 GE523.out) hb)
      have z_HO650 := fun (h0_ : b 5 = true) => (show Kd.R (Kd.int .i64) 2 w188 w.heap.size (fun _ => True) v649 y648 from by first | exact (Kd.R_below (rr ((Q_HO650 h0_))) hb) | exact Kd.R_mono (Kd.R_below (rr ((Q_HO650 h0_))) hb) (fun _ h_ => by first | trivial | exact h_ | exact h_.1))
      revert n0_ n1_; clear BK523 HB; intro BK523 HB
      (try clear hb)
      (try clear hb2)
      (try clear hk)
      (try clear hi)
      refine hK.out _ _ ⟨v649, m10_, (by rw [ha.out]; exact putSel_upk 6 hb_ rfl rfl rfl), fun _ => (rb BK523.out), (bs1 GE523.out), z_HO650, fun h0_ => absurd ((hoff 11 (by kernel_rfl)).symm.trans h0_) (by decide), fun h0_ => absurd ((hoff 10 (by kernel_rfl)).symm.trans h0_) (by decide)⟩
     refine steps_cons ?_ ?_
     ·
      rintro b a w' ⟨v649, m10_, ha, Q_BK523, Q_HB, Q_HO650, Q_BK523_e11, Q_X10_⟩ hb_ hon hoff
      refine ⟨_, rfl, fun K hK => ?_⟩
      have e243 : a.tmps[243]? = some (v649) := by rw [ha]; exact putSel_on (e := (5, 243, v649)) 3 rfl rfl (hon 5 (by kernel_rfl)) rfl
      replace ha := am ha
      have BK523 := am (Q_BK523 (hoff 11 (by kernel_rfl)))
      have HB := am Q_HB
      have HO650 := am (Q_HO650 (hon 5 (by kernel_rfl)))
      refine value_ (w1 := w') (v := v649) (by rfl) rfl ?_ ?_
      ·
       go_simp
       (try simp only [i64_w])
       try rfl
      refine hK.out _ _ ⟨v649, (v649), (by rw [ha.out]; exact putSel_upk 7 hb_ rfl rfl rfl), Q_BK523, Q_HB, Q_HO650, fun h0_ => absurd ((hoff 11 (by kernel_rfl)).symm.trans h0_) (by decide), fun _ => rfl⟩
     refine steps_cons ?_ ?_
     ·
      rintro b a w' ⟨v649, m10_, ha, Q_BK523, Q_HB, Q_HO650, Q_BK523_e11, Q_X10_⟩ hb_ hon hoff
      refine ⟨_, rfl, fun K hK => ?_⟩
      have e11 : a.tmps[11]? = some (.pointer (some ⟨gb523, 0, none⟩)) := by rw [ha]; exact (putSel_off rfl).trans rfl
      have e247 : a.tmps[247]? = some (.agg #[.int .i64 t652, .int .i64 t653]) := by rw [ha]; exact putSel_on (e := (9, 247, .agg #[.int .i64 t652, .int .i64 t653])) 6 rfl rfl (hon 9 (by kernel_rfl)) rfl
      replace ha := am ha
      have BK523 := am (Q_BK523 hb_)
      have HB := am Q_HB
      have HO650 := am (Q_HO650 (hon 5 (by kernel_rfl)))
      have hs192 : w'.cell? ⟨gb523, 0, none⟩ = some (.int .i64 0) := (blk_cell BK523.out 0).trans rfl
      have hfs192 := blk_frozen BK523.out 0
      have hs193 : w'.cell? ⟨gb523, 1, none⟩ = some (.int .i64 0) := (blk_cell BK523.out 1).trans rfl
      have hfs193 := blk_frozen BK523.out 1
      refine skip_ (w1 := ?_) (by rfl) rfl ?_ ?_
      rotate_left
      ·
       go_simp
       rfl
      refine hK.out _ _ ⟨v649, m10_, (by rw [ha.out]; exact putSel_none (v := undef) rfl), fun h0_ => absurd ((up_self b 11).symm.trans h0_) (by decide), (bs1 GE523.out), fun _ => (rr (Kd.R_mono (Kd.R_far (p := ⟨gb523, 1, none⟩) (Kd.R_far (p := ⟨gb523, 0, none⟩) (Kd.R_types HO650.out BK523.out (by decide)) (fun _ hk => hk.2) (.int .i64 t652)) (fun _ hk => hk.2) (.int .i64 t653)) (fun _ hk => trivial))), fun _ => (by refine rb ?_; refine blk_put (cs := #[.int .i64 t652, .int .i64 0]) ?_ 1 _ rfl; refine rb ?_; refine blk_put (cs := #[.int .i64 0, .int .i64 0]) ?_ 0 _ rfl; exact rb BK523.out), Q_X10_⟩
     exact steps_nil
    rintro b a w193 hall ⟨v649, m10_, ha, Q_BK523, Q_HB, Q_HO650, Q_BK523_e11, Q_X10_⟩
    clear BK523 HB
    have hb1_ := hall 1 (by kernel_rfl)
    have hb2_ := hall 2 (by kernel_rfl)
    have hb4_ := hall 4 (by kernel_rfl)
    have hb5_ := hall 5 (by kernel_rfl)
    have hb7_ := hall 7 (by kernel_rfl)
    have hb8_ := hall 8 (by kernel_rfl)
    have hb9_ := hall 9 (by kernel_rfl)
    have hb10_ := hall 10 (by kernel_rfl)
    have hb11_ := hall 11 (by kernel_rfl)
    subst ha
    obtain rfl := Q_X10_ hb10_
    simp only [putSel, hb1_, hb2_, hb4_, hb5_, hb7_, hb8_, hb9_, hb10_, hb11_, if_true, Act.put, List.setIfInBounds_toArray, List.set_cons_zero, List.set_cons_succ]
    clear Q_BK523
    have HB := am Q_HB
    clear Q_HB
    have HO650 := am (Q_HO650 hb5_)
    clear Q_HO650
    have BK523 := am (Q_BK523_e11 hb11_)
    clear Q_BK523_e11
    clear hall hb1_ hb2_ hb4_ hb5_ hb7_ hb8_ hb9_ hb10_ hb11_
    try go_wp2
    refine bodyPost_ret (results_tc rfl _ _ gb523 26 #[.int .i64 t652, .int .i64 t653] (0, 0) _ rfl (rb BK523.out) Tryz.underlying26 rfl (by kernel_rfl)) rfl ?_
    exact ⟨_, ew, rr HO650.out, bs1 GE523.out⟩
end Go.Proofs.YtjjbdgngncgikaaGreatDoor.R
