/-
  SMALL CONTRACTS: kinds of values, sizes, and the division of 128 bits.
-/
import Derived.Test.YtbcpnhnalhhfoaaGreatDoorXO
set_option autoImplicit false
set_option linter.unusedVariables false
set_option linter.unusedSimpArgs false
set_option maxRecDepth 100000
namespace Go.Proofs.YtbcpnhnalhhfoaaGreatDoor.X
open Go Go.Proofs Go.RowKit Go.Proofs.YtbcpnhnalhhfoaaGreatDoor
noncomputable section
def andB (a b : Bool) : Bool := match a with | true => b | false => false
def orB (a b : Bool) : Bool := match a with | true => true | false => b
def onKNI {R : Type} (F : Int → Int → Int → Option R) (l : List VT) : Option R := match l with | [.agg [.int .i64 k, .int .i64 n], .int .i64 t] => F k n t | _ => none
theorem onKNI_spec {R : Type} {F : Int → Int → Int → Option R} {l : List VT} {r : R} (h : onKNI F l = some r) : ∃ k n t, l = [.agg [.int .i64 k, .int .i64 n], .int .i64 t] ∧ F k n t = some r := by
  unfold onKNI at h
  split at h
  · exact ⟨_, _, _, rfl, h⟩
  · cases h
def possB (k n t : Int) : Bool := andB (decide (k = t)) (match decide (t = 2) with | true => orB (decide (n = 0)) (decide (n = 1)) | false => (match decide (t = 3) with | true => andB (decide (n ≥ 1)) (decide (n ≤ 16)) | false => decide (t = 1)))
def conPoss : CON := onKNI fun k n t => some (true, (.bool (possB k n t), []))
theorem run_poss (k n t : Int) : runF C0 60 45 [.agg [.int .i64 k, .int .i64 n], .int .i64 t] = (
  if (!decide (k = t)) = true then some ((.bool false), []) else
   if decide (t = 2) = true then if decide (n = 0) = false then some ((.bool (decide (n = 1))), []) else some ((.bool true), [])
   else if decide (t = 3) = true then if decide (n ≥ 1) = true then some ((.bool (decide (n ≤ 16))), []) else some ((.bool false), []) else some ((.bool (decide (t = 1))), []) : Option (Res At)) := by kernel_rfl
theorem okPoss : OK 45 conPoss := ok_run C0_ok (by kernel_rfl) fun l r h => by
  replace h := onKNI_spec h
  obtain ⟨k, n, t, rfl, h⟩ := h
  obtain ⟨_, rfl⟩ := some_pair h
  refine ⟨60, (run_poss k n t).trans ?_⟩
  unfold possB
  cases decide (k = t) <;> cases decide (t = 2) <;> cases decide (n = 0) <;> cases decide (t = 3) <;> cases decide (n ≥ 1) <;> rfl
def onKN {R : Type} (F : Int → Int → Option R) (l : List VT) : Option R := match l with | [.agg [.int .i64 k, .int .i64 n]] => F k n | _ => none
theorem onKN_spec {R : Type} {F : Int → Int → Option R} {l : List VT} {r : R} (h : onKN F l = some r) : ∃ k n, l = [.agg [.int .i64 k, .int .i64 n]] ∧ F k n = some r := by
  unfold onKN at h
  split at h
  · exact ⟨_, _, rfl, h⟩
  · cases h
def plainB (k n : Int) : Bool := match decide (k = 1) with | true => true | false => (match decide (k = 2) with | true => orB (decide (n = 0)) (decide (n = 1)) | false => (match decide (k = 3) with | true => andB (decide (n ≥ 1)) (decide (n ≤ 16)) | false => false))
def conPlain : CON := onKN fun k n => some (true, (.bool (plainB k n), []))
theorem run_plain (k n : Int) : runF C0 60 21 [.agg [.int .i64 k, .int .i64 n]] = (
  if decide (k = 1) = true then some ((.bool true), []) else
   if decide (k = 2) = true then if decide (n = 0) = false then some ((.bool (decide (n = 1))), []) else some ((.bool true), [])
   else if decide (k = 3) = true then if decide (n ≥ 1) = true then some ((.bool (decide (n ≤ 16))), []) else some ((.bool false), []) else some ((.bool false), []) : Option (Res At)) := by kernel_rfl
theorem okPlain : OK 21 conPlain := ok_run C0_ok (by kernel_rfl) fun l r h => by
  replace h := onKN_spec h
  obtain ⟨k, n, rfl, h⟩ := h
  obtain ⟨_, rfl⟩ := some_pair h
  refine ⟨60, (run_plain k n).trans ?_⟩
  unfold plainB
  cases decide (k = 1) <;> cases decide (k = 2) <;> cases decide (n = 0) <;> cases decide (k = 3) <;> cases decide (n ≥ 1) <;> rfl
def onB {R : Type} (F : Bool → Option R) (l : List VT) : Option R := match l with | [.bool b] => F b | _ => none
theorem onB_spec {R : Type} {F : Bool → Option R} {l : List VT} {r : R} (h : onB F l = some r) : ∃ b, l = [.bool b] ∧ F b = some r := by
  unfold onB at h
  split at h
  · exact ⟨_, rfl, h⟩
  · cases h
def bitI (b : Bool) : Int := match b with | true => 1 | false => 0
def conBin : CON := onB fun b => some (true, (.agg [.int .i64 2, .int .i64 (bitI b)], []))
theorem run_bin (b : Bool) : runF C0 60 17 [.bool b] = (if b = true then some ((.agg [(.int .i64 2), (.int .i64 1)]), []) else some ((.agg [(.int .i64 2), (.int .i64 0)]), []) : Option (Res At)) := by kernel_rfl
theorem okBin : OK 17 conBin := ok_run C0_ok (by kernel_rfl) fun l r h => by
  replace h := onB_spec h
  obtain ⟨b, rfl, h⟩ := h
  obtain ⟨_, rfl⟩ := some_pair h
  refine ⟨60, (run_bin b).trans ?_⟩
  cases b <;> rfl
def onI {R : Type} (F : Int → Option R) (l : List VT) : Option R := match l with | [.int .i64 n] => F n | _ => none
theorem onI_spec {R : Type} {F : Int → Option R} {l : List VT} {r : R} (h : onI F l = some r) : ∃ n, l = [.int .i64 n] ∧ F n = some r := by
  unfold onI at h
  split at h
  · exact ⟨_, rfl, h⟩
  · cases h
def sizeU (n : Int) : Int := match decide (n < 0) with | true => IntKind.u64.wrap (IntKind.i64.wrap (0 - n)) | false => IntKind.u64.wrap n
def conSize : CON := onI fun n => some (true, (.tup [.int .u64 (sizeU n), .bool (decide (n < 0))], []))
theorem run_size (n : Int) : runF C0 60 63 [.int .i64 n] = (if decide (n < 0) = true then some ((.tup [(.int .u64 (IntKind.u64.wrap (IntKind.i64.wrap (0 - n)))), (.bool true)]), []) else some ((.tup [(.int .u64 (IntKind.u64.wrap n)), (.bool false)]), []) : Option (Res At)) := by kernel_rfl
theorem okSize : OK 63 conSize := ok_run C0_ok (by kernel_rfl) fun l r h => by
  replace h := onI_spec h
  obtain ⟨n, rfl, h⟩ := h
  obtain ⟨_, rfl⟩ := some_pair h
  refine ⟨60, (run_size n).trans ?_⟩
  unfold sizeU
  cases decide (n < 0) <;> rfl
/-! math/bits -/
def onU {R : Type} (F : Int → Option R) (l : List VT) : Option R := match l with | [.int .u64 n] => F n | _ => none
theorem onU_spec {R : Type} {F : Int → Option R} {l : List VT} {r : R} (h : onU F l = some r) : ∃ n, l = [.int .u64 n] ∧ F n = some r := by
  unfold onU at h
  split at h
  · exact ⟨_, rfl, h⟩
  · cases h
def onUU {R : Type} (F : Int → Int → Option R) (l : List VT) : Option R := match l with | [.int .u64 n, .int .u64 m] => F n m | _ => none
theorem onUU_spec {R : Type} {F : Int → Int → Option R} {l : List VT} {r : R} (h : onUU F l = some r) : ∃ n m, l = [.int .u64 n, .int .u64 m] ∧ F n m = some r := by
  unfold onUU at h
  split at h
  · exact ⟨_, _, rfl, h⟩
  · cases h
def conLz : CON := onU fun x => some (decide (0 ≤ x) && decide (x ≤ 18446744073709551615), (.int .i64 (64 - (Lib.bitLen x.toNat : Int)), []))
theorem okLz : OK 88 conLz := by
  refine ⟨entB_spec (by kernel_rfl), fun w okb xs cs r hG hs hr hok h => ?_⟩
  replace h := onU_spec (conO_some h)
  obtain ⟨x, rfl, h⟩ := h
  obtain ⟨a, rfl, ha⟩ := args1 hs hr rfl
  rw [ha.int_inv]
  obtain ⟨hc, rfl⟩ := some_pair h
  simp only [Bool.and_eq_true, decide_eq_true_eq] at hc
  refine (Tryz.bits_LeadingZeros64 x w hc.1 hc.2).mono ?_
  rintro e w' ⟨rfl, rfl⟩
  exact ret_val (Below.refl _ _) fun ok => .int _ _
def conMul64 : CON := onUU fun x y => some (decide (0 ≤ x) && (decide (x < 18446744073709551616) && (decide (0 ≤ y) && decide (y < 18446744073709551616))), (.tup [.int .u64 ((x.toNat * y.toNat / 18446744073709551616 : Nat) : Int), .int .u64 ((x.toNat * y.toNat % 18446744073709551616 : Nat) : Int)], []))
theorem okMul64 : OK 66 conMul64 := by
  refine ⟨entB_spec (by kernel_rfl), fun w okb xs cs r hG hs hr hok h => ?_⟩
  replace h := onUU_spec (conO_some h)
  obtain ⟨x, y, rfl, h⟩ := h
  obtain ⟨a, b, rfl, ha, hb⟩ := args2 hs hr rfl
  rw [ha.int_inv, hb.int_inv]
  obtain ⟨hc, rfl⟩ := some_pair h
  simp only [Bool.and_eq_true, decide_eq_true_eq] at hc
  have := Tryz.bits_Mul64 x.toNat y.toNat (by omega) (by omega) w
  rw [Int.toNat_of_nonneg hc.1, Int.toNat_of_nonneg hc.2.2.1] at this
  refine this.mono ?_
  rintro e w' ⟨rfl, rfl⟩
  refine ret_val (Below.refl _ _) fun ok => .tup _ _ rfl fun i v hv => ?_
  match i, hv with
  | 0, hv => obtain rfl := Option.some.inj hv; exact .int _ _
  | 1, hv => obtain rfl := Option.some.inj hv; exact .int _ _
end
end Go.Proofs.YtbcpnhnalhhfoaaGreatDoor.X
