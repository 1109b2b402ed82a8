/-
  BlockBounds, BlockMonotone: the walk.
-/
import Derived.Test.YtbcpnhnalhhfoaaGreatDoorXF5
set_option autoImplicit false
set_option linter.unusedVariables false
set_option linter.unusedSimpArgs false
set_option maxRecDepth 100000
namespace Go.Proofs.YtbcpnhnalhhfoaaGreatDoor.X
open Go Go.Proofs Go.RowKit Go.Proofs.YtbcpnhnalhhfoaaGreatDoor
noncomputable section
def bMin : ByteArray := ⟨#[109, 105, 110]⟩
def bMean : ByteArray := ⟨#[109, 101, 97, 110]⟩
def bMax : ByteArray := ⟨#[109, 97, 120]⟩
def bNeg : ByteArray := ⟨#[110, 101, 103]⟩
def bAbs : ByteArray := ⟨#[97, 98, 115]⟩
def bAdd : ByteArray := ⟨#[97, 100, 100]⟩
def bSub : ByteArray := ⟨#[115, 117, 98]⟩
def bMul : ByteArray := ⟨#[109, 117, 108]⟩
def Rbounds (x y lo hi : Int) : Option (Res At) :=
  if decide (gV2 (Reval bMin [] [⟨1, x⟩, ⟨1, y⟩]) > gV2 (Reval bMean [] [⟨1, x⟩, ⟨1, y⟩])) = false then
   if decide (gV2 (Reval bMean [] [⟨1, x⟩, ⟨1, y⟩]) > gV2 (Reval bMax [] [⟨1, x⟩, ⟨1, y⟩])) = false then
    if (!(decide (gV1 (Reval bNeg [] [{ kind := gV1 (Reval bNeg [] [⟨1, x⟩]), n := gV2 (Reval bNeg [] [⟨1, x⟩]) : GValue }]) = (gt { kind := 0, n := 0 : GValue } [⟨1, x⟩, ⟨1, y⟩] (Int.toNat 0)).kind) && (decide (gV2 (Reval bNeg [] [{ kind := gV1 (Reval bNeg [] [⟨1, x⟩]), n := gV2 (Reval bNeg [] [⟨1, x⟩]) : GValue }]) = (gt { kind := 0, n := 0 : GValue } [⟨1, x⟩, ⟨1, y⟩] (Int.toNat 0)).n) && true))) = false then
     if decide (gV2 (Reval bAbs [] [⟨1, x⟩]) < 0) = false then
      if (!decide (gV2 (Reval bAbs [] [⟨1, x⟩]) = mxI (x) (gV2 (Reval bNeg [] [⟨1, x⟩])))) = true then
       some ((.bool false), [])
      else
       if isR (Reval bLimit [lo, hi] [⟨1, x⟩]) = true then
        if decide (lo < -1000000000000) = false then
         if decide (hi > 1000000000000) = false then
          if decide (lo > hi) = true then
           some ((.bool (decide (gV3 (Reval bLimit [lo, hi] [⟨1, x⟩]) = 1))), [])
          else
           if decide (gV3 (Reval bLimit [lo, hi] [⟨1, x⟩]) = 0) = true then
            if decide (gV2 (Reval bLimit [lo, hi] [⟨1, x⟩]) ≥ lo) = true then
             if decide (gV2 (Reval bLimit [lo, hi] [⟨1, x⟩]) ≤ hi) = true then
              if decide (x < lo) = false then
               if decide (x > hi) = false then
                some ((.bool (decide (gV2 (Reval bLimit [lo, hi] [⟨1, x⟩]) = x))), [])
               else
                some ((.bool true), [])
              else
               some ((.bool true), [])
             else
              none
            else
             none
           else
            none
         else
          some ((.bool (decide (gV3 (Reval bLimit [lo, hi] [⟨1, x⟩]) = 1))), [])
        else
         some ((.bool (decide (gV3 (Reval bLimit [lo, hi] [⟨1, x⟩]) = 1))), [])
       else
        none
     else
      some ((.bool false), [])
    else
     some ((.bool false), [])
   else
    some ((.bool false), [])
  else
   some ((.bool false), [])
theorem run_Rbounds (a b lo hi : Int) : runF C11 80 6 [.int .i64 a, .int .i64 b, .int .i64 lo, .int .i64 hi] = Rbounds (clI a) (clI b) lo hi := by kernel_rfl
def Rmono (x y z : Int) : Option (Res At) :=
  if decide (gV2 (Reval bAdd [] [⟨1, x⟩, ⟨1, y⟩]) > gV2 (Reval bAdd [] [⟨1, z⟩, ⟨1, y⟩])) = false then
   if (!(decide (gV1 (Reval bAdd [] [⟨1, x⟩, ⟨1, y⟩]) = gV1 (Reval bAdd [] [⟨1, y⟩, ⟨1, x⟩])) && (decide (gV2 (Reval bAdd [] [⟨1, x⟩, ⟨1, y⟩]) = gV2 (Reval bAdd [] [⟨1, y⟩, ⟨1, x⟩])) && true))) = true then
    some ((.bool false), [])
   else
    if decide (gV2 (Reval bMin [] [⟨1, x⟩, ⟨1, y⟩]) > gV2 (Reval bMin [] [⟨1, z⟩, ⟨1, y⟩])) = false then
     if (!(decide (gV1 (Reval bMin [] [⟨1, x⟩, ⟨1, y⟩]) = gV1 (Reval bMin [] [⟨1, y⟩, ⟨1, x⟩])) && (decide (gV2 (Reval bMin [] [⟨1, x⟩, ⟨1, y⟩]) = gV2 (Reval bMin [] [⟨1, y⟩, ⟨1, x⟩])) && true))) = true then
      some ((.bool false), [])
     else
      if decide (gV2 (Reval bMax [] [⟨1, x⟩, ⟨1, y⟩]) > gV2 (Reval bMax [] [⟨1, z⟩, ⟨1, y⟩])) = false then
       if (!(decide (gV1 (Reval bMax [] [⟨1, x⟩, ⟨1, y⟩]) = gV1 (Reval bMax [] [⟨1, y⟩, ⟨1, x⟩])) && (decide (gV2 (Reval bMax [] [⟨1, x⟩, ⟨1, y⟩]) = gV2 (Reval bMax [] [⟨1, y⟩, ⟨1, x⟩])) && true))) = true then
        some ((.bool false), [])
       else
        if decide (gV2 (Reval bMean [] [⟨1, x⟩, ⟨1, y⟩]) > gV2 (Reval bMean [] [⟨1, z⟩, ⟨1, y⟩])) = false then
         if (!(decide (gV1 (Reval bMean [] [⟨1, x⟩, ⟨1, y⟩]) = gV1 (Reval bMean [] [⟨1, y⟩, ⟨1, x⟩])) && (decide (gV2 (Reval bMean [] [⟨1, x⟩, ⟨1, y⟩]) = gV2 (Reval bMean [] [⟨1, y⟩, ⟨1, x⟩])) && true))) = true then
          some ((.bool false), [])
         else
          if (!(decide (gV1 (Reval bMul [] [⟨1, x⟩, ⟨1, y⟩]) = gV1 (Reval bMul [] [⟨1, y⟩, ⟨1, x⟩])) && (decide (gV2 (Reval bMul [] [⟨1, x⟩, ⟨1, y⟩]) = gV2 (Reval bMul [] [⟨1, y⟩, ⟨1, x⟩])) && true))) = true then
           some ((.bool false), [])
          else
           if decide (gV2 (Reval bSub [] [⟨1, x⟩, ⟨1, y⟩]) > gV2 (Reval bSub [] [⟨1, z⟩, ⟨1, y⟩])) = false then
            some ((.bool (decide (gV2 (Reval bLimit [-500, 500] [⟨1, x⟩]) ≤ gV2 (Reval bLimit [-500, 500] [⟨1, z⟩])))), [])
           else
            none
        else
         none
      else
       none
    else
     none
  else
   none
theorem run_Rmono (a b more : Int) : runF C11 80 7 [.int .i64 a, .int .i64 b, .int .i64 more] = Rmono (clI a) (clI b) (mxI (clI a) (clI more)) := by kernel_rfl
/-! the values -/
theorem vMin (x y : Int) : gV2 (Reval bMin [] [⟨1, x⟩, ⟨1, y⟩]) = mnI (clI x) (clI y) := by kernel_rfl
theorem vMax (x y : Int) : gV2 (Reval bMax [] [⟨1, x⟩, ⟨1, y⟩]) = mxI (clI x) (clI y) := by kernel_rfl
theorem vMean (x y : Int) : gV2 (Reval bMean [] [⟨1, x⟩, ⟨1, y⟩]) = meanV [clI x, clI y] := by kernel_rfl
theorem vAdd (x y : Int) : gV2 (Reval bAdd [] [⟨1, x⟩, ⟨1, y⟩]) = clI (sumL [clI x, clI y] 0) := by kernel_rfl
theorem vSub (x y : Int) : gV2 (Reval bSub [] [⟨1, x⟩, ⟨1, y⟩]) = clI (sumL [clI x, wI (0 - clI (clI y))] 0) := by kernel_rfl
theorem vMul (x y : Int) : gV2 (Reval bMul [] [⟨1, x⟩, ⟨1, y⟩]) = mdV (clI x) (clI y) 1000 := by kernel_rfl
theorem vNeg (x : Int) : gV2 (Reval bNeg [] [⟨1, x⟩]) = clI (sumL [0, wI (0 - clI (clI x))] 0) := by kernel_rfl
theorem vAbs (x : Int) : gV2 (Reval bAbs [] [⟨1, x⟩]) = mxI (clI x) (clI (sumL [0, wI (0 - clI (clI x))] 0)) := by kernel_rfl
theorem kMin (x y : Int) : gV1 (Reval bMin [] [⟨1, x⟩, ⟨1, y⟩]) = 1 := by kernel_rfl
theorem kMax (x y : Int) : gV1 (Reval bMax [] [⟨1, x⟩, ⟨1, y⟩]) = 1 := by kernel_rfl
theorem kMean (x y : Int) : gV1 (Reval bMean [] [⟨1, x⟩, ⟨1, y⟩]) = 1 := by kernel_rfl
theorem kAdd (x y : Int) : gV1 (Reval bAdd [] [⟨1, x⟩, ⟨1, y⟩]) = 1 := by kernel_rfl
theorem kMul (x y : Int) : gV1 (Reval bMul [] [⟨1, x⟩, ⟨1, y⟩]) = 1 := by kernel_rfl
theorem kNeg (x : Int) : gV1 (Reval bNeg [] [⟨1, x⟩]) = 1 := by kernel_rfl
def limB (lo hi : Int) : Bool := (!decide (lo < -1000000000000) && (!decide (lo > 1000000000000) && (!decide (hi < -1000000000000) && (!decide (hi > 1000000000000) && true)))) && decide (lo ≤ hi)
theorem lim_eq (lo hi x : Int) : Reval bLimit [lo, hi] [⟨1, x⟩] = (if (!limB lo hi) = true then some (.tup [.agg [.int .i64 0, .int .i64 0], .int .i64 1], []) else some (.tup [.agg [.int .i64 1, .int .i64 (mxI lo (mnI hi (clI x)))], .int .i64 0], []) : Option (Res At)) := by kernel_rfl
theorem limB_iff {lo hi : Int} : limB lo hi = true ↔ (-1000000000000 ≤ lo ∧ hi ≤ 1000000000000 ∧ lo ≤ hi) := by
  unfold limB
  simp only [Bool.and_eq_true, Bool.not_eq_true', decide_eq_false_iff_not, decide_eq_true_eq]
  constructor
  · rintro ⟨⟨h1, h2, h3, h4, _⟩, h5⟩; omega
  · rintro ⟨h1, h2, h3⟩; exact ⟨⟨by omega, by omega, by omega, by omega, trivial⟩, by omega⟩
/-! plain numbers -/
theorem cl_id {x : Int} (h : -1000000000000 ≤ x ∧ x ≤ 1000000000000) : clI x = x := by unfold clI; rw [mxI_eq, mnI_eq]; omega
theorem sum2 {x y : Int} (hx : -1000000000000 ≤ x ∧ x ≤ 1000000000000) (hy : -1000000000000 ≤ y ∧ y ≤ 1000000000000) : sumL [x, y] 0 = x + y := by
  show wI (wI (0 + clI x) + clI y) = x + y
  rw [cl_id hx, cl_id hy, wI_small (i := 0 + x) (by omega) (by omega), wI_small (by omega) (by omega)]; omega
def halfI (s : Int) : Int := if s < 0 then -((-s + 1) / 2) else (s + 1) / 2
theorem quo2 {n : Int} (h0 : 0 ≤ n) (h1 : n ≤ 2000000000000) : quoU 0 n 2 = (n + 1) / 2 := by
  unfold quoU
  rw [decide_eq_true (by omega : (0 : Int) < 2), div64_zero n 2 (by omega)]
  have e1 : n.tdiv 2 = n / 2 := Int.tdiv_eq_ediv_of_nonneg h0
  have e2 : n.tmod 2 = n % 2 := Int.tmod_eq_emod_of_nonneg h0
  dsimp only
  rw [e1, e2, wrapU_small (by omega) (by omega)]
  unfold rndU
  dsimp only
  rw [wrapU_small (n := 2 - n % 2) (by omega) (by omega), wrapU_small (n := n / 2 + 1) (by omega) (by omega), mnI_eq]
  by_cases h2 : n / 2 < 1000000000000
  · rw [decide_eq_true h2]
    by_cases h3 : n % 2 ≥ 2 - n % 2
    · rw [decide_eq_true h3]; dsimp only; omega
    · rw [decide_eq_false h3]; dsimp only; omega
  · rw [decide_eq_false h2]; dsimp only; omega
theorem mean2 {x y : Int} (hx : -1000000000000 ≤ x ∧ x ≤ 1000000000000) (hy : -1000000000000 ≤ y ∧ y ≤ 1000000000000) : meanV [x, y] = halfI (x + y) := by
  show sgI (decide (sumL [x, y] 0 < 0)) (quoU 0 (sizeU (sumL [x, y] 0)) (IntKind.u64.wrap (2 : Int))) = _
  rw [sum2 hx hy, wrapU_small (by omega) (by omega), sizeU_abs (by omega) (by omega), quo2 (by omega) (by omega)]
  unfold halfI
  by_cases h : x + y < 0
  · rw [decide_eq_true h, if_pos h]
    show wI (0 - wI _) = _
    rw [wI_small (i := (((x + y).natAbs : Int) + 1) / 2) (by omega) (by omega), wI_small (by omega) (by omega)]; omega
  · rw [decide_eq_false h, if_neg h]
    show wI _ = _
    rw [wI_small (by omega) (by omega)]; omega
theorem neg1 {x : Int} (hx : -1000000000000 ≤ x ∧ x ≤ 1000000000000) : clI (sumL [0, wI (0 - clI (clI x))] 0) = -x := by
  rw [cl_id hx, cl_id hx, wI_small (by omega) (by omega), sum2 (by omega) (by omega), cl_id (by omega)]; omega
theorem sub1 {x y : Int} (hx : -1000000000000 ≤ x ∧ x ≤ 1000000000000) (hy : -1000000000000 ≤ y ∧ y ≤ 1000000000000) : clI (sumL [clI x, wI (0 - clI (clI y))] 0) = clI (x - y) := by
  rw [cl_id hx, cl_id hy, cl_id hy, wI_small (by omega) (by omega), sum2 hx (by omega)]; congr 1; omega
theorem add1 {x y : Int} (hx : -1000000000000 ≤ x ∧ x ≤ 1000000000000) (hy : -1000000000000 ≤ y ∧ y ≤ 1000000000000) : clI (sumL [clI x, clI y] 0) = clI (x + y) := by
  rw [cl_id hx, cl_id hy, sum2 hx hy]
theorem md_comm (a b c : Int) : mdV a b c = mdV b a c := by
  unfold mdV hiP loP
  rw [Nat.mul_comm (sizeU (clI a)).toNat]
  have e : (decide (clI a < 0) == decide (clI b < 0)) = (decide (clI b < 0) == decide (clI a < 0)) := by cases decide (clI a < 0) <;> cases decide (clI b < 0) <;> rfl
  unfold neB
  rw [e]
theorem cl_mono {x y : Int} (h : x ≤ y) : clI x ≤ clI y := by unfold clI; rw [mxI_eq, mnI_eq, mxI_eq, mnI_eq]; omega
theorem bounds_true {x y lo hi : Int} (hx : -1000000000000 ≤ x ∧ x ≤ 1000000000000) (hy : -1000000000000 ≤ y ∧ y ≤ 1000000000000) : Rbounds x y lo hi = some (.bool true, []) := by
  have eneg : gV2 (Reval bNeg [] [⟨1, x⟩]) = -x := by rw [vNeg, neg1 hx]
  have emin : gV2 (Reval bMin [] [⟨1, x⟩, ⟨1, y⟩]) = min x y := by rw [vMin, cl_id hx, cl_id hy, mnI_eq]
  have emax : gV2 (Reval bMax [] [⟨1, x⟩, ⟨1, y⟩]) = max x y := by rw [vMax, cl_id hx, cl_id hy, mxI_eq]
  have emean : gV2 (Reval bMean [] [⟨1, x⟩, ⟨1, y⟩]) = halfI (x + y) := by rw [vMean, cl_id hx, cl_id hy, mean2 hx hy]
  have eabs : gV2 (Reval bAbs [] [⟨1, x⟩]) = max x (-x) := by rw [vAbs, neg1 hx, cl_id hx, mxI_eq]
  have hh : min x y ≤ halfI (x + y) ∧ halfI (x + y) ≤ max x y := by unfold halfI; split <;> omega
  have eback : gV2 (Reval bNeg [] [⟨1, -x⟩]) = x := by rw [vNeg, neg1 (by omega)]; omega
  unfold Rbounds
  rw [emin, emax, emean, eabs, eneg, kNeg, kNeg, eback]
  rw [if_pos (by simp; omega), if_pos (by simp; omega)]
  rw [if_pos (by show (!(decide ((1 : Int) = 1) && (decide (x = x) && true))) = false; simp)]
  rw [if_pos (by simp; omega), if_neg (by rw [mxI_eq]; simp)]
  rw [lim_eq]
  by_cases hl : limB lo hi = true
  · have h := limB_iff.1 hl
    rw [hl]
    rw [show (if (!true) = true then some (.tup [.agg [.int .i64 0, .int .i64 0], .int .i64 1], []) else some (.tup [.agg [.int .i64 1, .int .i64 (mxI lo (mnI hi (clI x)))], .int .i64 0], []) : Option (Res At)) = some (.tup [.agg [.int .i64 1, .int .i64 (mxI lo (mnI hi (clI x)))], .int .i64 0], []) from rfl]
    rw [show gV3 (some (.tup [.agg [.int .i64 1, .int .i64 (mxI lo (mnI hi (clI x)))], .int .i64 0], [])) = 0 from rfl, show gV2 (some (.tup [.agg [.int .i64 1, .int .i64 (mxI lo (mnI hi (clI x)))], .int .i64 0], [])) = mxI lo (mnI hi (clI x)) from rfl, cl_id hx, mxI_eq, mnI_eq]
    rw [if_pos (show isR _ = true from rfl), if_pos (by simp; omega), if_pos (by simp; omega), if_neg (by simp; omega), if_pos (by simp), if_pos (by simp; omega), if_pos (by simp; omega)]
    by_cases h1 : x < lo
    · rw [if_neg (by simp; omega)]
    · rw [if_pos (by simp; omega)]
      by_cases h2 : x > hi
      · rw [if_neg (by simp; omega)]
      · rw [if_pos (by simp; omega), show max lo (min hi x) = x by omega]; simp
  · have h : ¬ (-1000000000000 ≤ lo ∧ hi ≤ 1000000000000 ∧ lo ≤ hi) := fun e => hl (limB_iff.2 e)
    rw [Bool.eq_false_iff.2 hl]
    rw [show (if (!false) = true then some (.tup [.agg [.int .i64 0, .int .i64 0], .int .i64 1], []) else some (.tup [.agg [.int .i64 1, .int .i64 (mxI lo (mnI hi (clI x)))], .int .i64 0], []) : Option (Res At)) = some (.tup [.agg [.int .i64 0, .int .i64 0], .int .i64 1], []) from rfl]
    rw [show gV3 (some (.tup [.agg [.int .i64 0, .int .i64 0], .int .i64 1], [])) = 1 from rfl]
    rw [if_pos (show isR _ = true from rfl)]
    by_cases h1 : lo < -1000000000000
    · rw [if_neg (by simp; omega)]; rfl
    · rw [if_pos (by simp; omega)]
      by_cases h2 : hi > 1000000000000
      · rw [if_neg (by simp; omega)]; rfl
      · rw [if_pos (by simp; omega), if_pos (by simp; omega)]; rfl
theorem half_mono {x y : Int} (h : x ≤ y) : halfI x ≤ halfI y := by unfold halfI; split <;> split <;> omega
theorem mono_true {x y z : Int} (hx : -1000000000000 ≤ x ∧ x ≤ 1000000000000) (hy : -1000000000000 ≤ y ∧ y ≤ 1000000000000) (hz : -1000000000000 ≤ z ∧ z ≤ 1000000000000) (hxz : x ≤ z) : Rmono x y z = some (.bool true, []) := by
  have lim : ∀ u : Int, -1000000000000 ≤ u ∧ u ≤ 1000000000000 → gV2 (Reval bLimit [-500, 500] [⟨1, u⟩]) = max (-500) (min 500 u) := fun u hu => by
    rw [lim_eq, show limB (-500) 500 = true from rfl]
    show mxI (-500) (mnI 500 (clI u)) = _
    rw [cl_id hu, mxI_eq, mnI_eq]
  have a1 := cl_mono (show x + y ≤ z + y by omega)
  have s1 := cl_mono (show x + -y ≤ z + -y by omega)
  have ny : wI (0 - y) = -y := by rw [wI_small (by omega) (by omega)]; omega
  have hy' : -1000000000000 ≤ -y ∧ -y ≤ 1000000000000 := by omega
  have m1 := half_mono (show x + y ≤ z + y by omega)
  unfold Rmono
  simp only [vMin, vMax, vMean, vAdd, vSub, vMul, kMin, kMax, kMean, kAdd, kMul, cl_id hx, cl_id hy, cl_id hz, ny, sum2 hx hy, sum2 hy hx, sum2 hz hy, sum2 hx hy', sum2 hz hy', mean2 hx hy, mean2 hy hx, mean2 hz hy, mnI_eq, mxI_eq, lim x hx, lim z hz]
  rw [if_pos (by simp; omega), if_neg (by simp [Int.add_comm]), if_pos (by simp; omega), if_neg (by simp; omega), if_pos (by simp; omega), if_neg (by simp; omega), if_pos (by simp; omega), if_neg (by simp [Int.add_comm]), if_neg (by simp [md_comm x y]), if_pos (by simp; omega)]
  simp; omega
def onI4 {R : Type} (F : Int → Int → Int → Int → Option R) (l : List VT) : Option R := match l with | [.int .i64 n, .int .i64 m, .int .i64 k, .int .i64 j] => F n m k j | _ => none
theorem onI4_spec {R : Type} {F : Int → Int → Int → Int → Option R} {l : List VT} {r : R} (h : onI4 F l = some r) : ∃ n m k j, l = [.int .i64 n, .int .i64 m, .int .i64 k, .int .i64 j] ∧ F n m k j = some r := by
  unfold onI4 at h
  split at h
  · exact ⟨_, _, _, _, rfl, h⟩
  · cases h
def conTrue4 : CON := onI4 fun a b c d => some (true, (.bool true, []))
theorem okBlockBounds : OK 6 conTrue4 := ok_run C11_ok (by kernel_rfl) fun l r h => by
  replace h := onI4_spec h
  obtain ⟨a, b, lo, hi, rfl, h⟩ := h
  obtain ⟨_, rfl⟩ := some_pair h
  exact ⟨80, (run_Rbounds a b lo hi).trans (bounds_true (clI_in a) (clI_in b))⟩
def conTrue3 : CON := onIII fun a b c => some (true, (.bool true, []))
theorem okBlockMonotone : OK 7 conTrue3 := ok_run C11_ok (by kernel_rfl) fun l r h => by
  replace h := onIII_spec h
  obtain ⟨a, b, c, rfl, h⟩ := h
  obtain ⟨_, rfl⟩ := some_pair h
  have h1 := clI_in a
  have h2 := clI_in c
  exact ⟨80, (run_Rmono a b c).trans (mono_true h1 (clI_in b) (by rw [mxI_eq]; omega) (by rw [mxI_eq]; omega))⟩
end
end Go.Proofs.YtbcpnhnalhhfoaaGreatDoor.X
