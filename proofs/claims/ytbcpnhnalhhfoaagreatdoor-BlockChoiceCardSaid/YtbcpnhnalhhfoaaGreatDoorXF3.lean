/-
  The loops over numbers, closed; sums, means, products.
-/
import Derived.Test.YtbcpnhnalhhfoaaGreatDoorXF2
set_option autoImplicit false
set_option linter.unusedVariables false
set_option linter.unusedSimpArgs false
set_option maxRecDepth 100000
namespace Go.Proofs.YtbcpnhnalhhfoaaGreatDoor.X
open Go Go.Proofs Go.RowKit Go.Proofs.YtbcpnhnalhhfoaaGreatDoor
noncomputable section
def clI (n : Int) : Int := mxI (-1000000000000) (mnI 1000000000000 n)
def wI (n : Int) : Int := IntKind.i64.wrap n
/-- a loop's counter -/
theorem cnt {j n : Nat} (h : j < n) (hn : n ≤ 9223372036854775807) : IntKind.i64.wrap ((j : Int) + 1) = ((j + 1 : Nat) : Int) := wrap_small (by omega) (by omega)
theorem lt1 {j n : Nat} (h : j < n) : decide ((j : Int) < (n : Int)) = true := by simp; omega
theorem lt2 {j n : Nat} (h : j < n) : (j : Int) < (n : Int) := by omega
theorem lt0 {j : Nat} : 0 ≤ (j : Int) := by omega
theorem lt3 {n : Nat} : ¬ decide ((n : Int) < (n : Int)) = true := by simp
theorem gtj {α : Type} (d : α) (l : List α) (j : Nat) (h : j < l.length) : gt d l (j : Int).toNat = l[j] := by rw [Int.toNat_natCast, gt_at _ _ _ h]
def sumL (l : List Int) (s : Int) : Int := l.foldl (fun s x => wI (s + clI x)) s
def oktot (k : Ktot) : Bool := decide (k.i = 0) && (decide (k.n = (k.l.length : Int)) && Nat.ble k.l.length 9223372036854775807)
theorem itot (k : Ktot) (h : oktot k = true) : iter steptot k.l.length k = some (.ex ⟨sumL k.l k.s⟩) := by
  unfold oktot at h
  simp only [Bool.and_eq_true, decide_eq_true_eq] at h
  obtain ⟨h1, h2, h3⟩ := h
  have hm := Nat.le_of_ble_eq_true h3
  obtain ⟨s, l, n, i⟩ := k
  dsimp only at h1 h2 hm
  subst h1; subst h2
  have := iter_fold (step := steptot) l (fun s j => (⟨s, l, (l.length : Int), (j : Int)⟩ : Ktot)) (fun s x => wI (s + clI x)) (fun s => (⟨s⟩ : Etot)) (fun _ _ => True) (fun b j h _ => ⟨by
    unfold steptot sttot
    dsimp only
    rw [cnt h hm, gtj _ _ _ h, if_pos (lt1 h), if_pos lt0, if_pos (lt2 h)]; rfl, trivial⟩) (fun b _ => by unfold steptot sttot; dsimp only; rw [if_neg lt3]) l.length 0 s (by omega) trivial
  rw [List.drop_zero] at this
  exact this
def gtot : LP := fun st K => match utot st with | some k => if oktot k = true then K (.ex 0) (Xtot ⟨sumL k.l k.s⟩) else none | none => none
theorem okgtot : OKL 64 3 gtot := okftot (fuel := fun k => k.l.length) (ok := oktot) (F := fun k => .ex ⟨sumL k.l k.s⟩) itot fun st K => rfl
def minL (l : List Int) (s : Int) : Int := l.foldl mnI s
def maxL (l : List Int) (s : Int) : Int := l.foldl mxI s
def okmin (k : Kmin) : Bool := decide (k.i = 1) && (Nat.ble 1 k.l.length && Nat.ble k.l.length 9223372036854775807)
def okmax (k : Kmax) : Bool := decide (k.i = 1) && (Nat.ble 1 k.l.length && Nat.ble k.l.length 9223372036854775807)
theorem imin (k : Kmin) (h : okmin k = true) : iter stepmin (k.l.length - 1) k = some (.ex ⟨minL (k.l.drop 1) k.s⟩) := by
  unfold okmin at h
  simp only [Bool.and_eq_true, decide_eq_true_eq] at h
  obtain ⟨h1, h2, h3⟩ := h
  have hm := Nat.le_of_ble_eq_true h3
  have h0 := Nat.le_of_ble_eq_true h2
  obtain ⟨l, s, i⟩ := k
  dsimp only at h1 h0 hm
  subst h1
  exact iter_fold (step := stepmin) l (fun s j => (⟨l, s, (j : Int)⟩ : Kmin)) mnI (fun s => (⟨s⟩ : Emin)) (fun _ _ => True) (fun b j h _ => ⟨by
    unfold stepmin stmin
    dsimp only
    rw [cnt h hm, gtj _ _ _ h, if_pos (lt1 h), if_pos lt0, if_pos (lt2 h)], trivial⟩) (fun b _ => by unfold stepmin stmin; dsimp only; rw [if_neg lt3]) (l.length - 1) 1 s (by omega) trivial
theorem imax (k : Kmax) (h : okmax k = true) : iter stepmax (k.l.length - 1) k = some (.ex ⟨maxL (k.l.drop 1) k.s⟩) := by
  unfold okmax at h
  simp only [Bool.and_eq_true, decide_eq_true_eq] at h
  obtain ⟨h1, h2, h3⟩ := h
  have hm := Nat.le_of_ble_eq_true h3
  have h0 := Nat.le_of_ble_eq_true h2
  obtain ⟨l, s, i⟩ := k
  dsimp only at h1 h0 hm
  subst h1
  exact iter_fold (step := stepmax) l (fun s j => (⟨l, s, (j : Int)⟩ : Kmax)) mxI (fun s => (⟨s⟩ : Emax)) (fun _ _ => True) (fun b j h _ => ⟨by
    unfold stepmax stmax
    dsimp only
    rw [cnt h hm, gtj _ _ _ h, if_pos (lt1 h), if_pos lt0, if_pos (lt2 h)], trivial⟩) (fun b _ => by unfold stepmax stmax; dsimp only; rw [if_neg lt3]) (l.length - 1) 1 s (by omega) trivial
def gmin : LP := fun st K => match umin st with | some k => if okmin k = true then K (.ex 0) (Xmin ⟨minL (k.l.drop 1) k.s⟩) else none | none => none
theorem okgmin : OKL 46 5 gmin := okfmin (fuel := fun k => k.l.length - 1) (ok := okmin) (F := fun k => .ex ⟨minL (k.l.drop 1) k.s⟩) imin fun st K => rfl
def gmax : LP := fun st K => match umax st with | some k => if okmax k = true then K (.ex 0) (Xmax ⟨maxL (k.l.drop 1) k.s⟩) else none | none => none
theorem okgmax : OKL 47 5 gmax := okfmax (fuel := fun k => k.l.length - 1) (ok := okmax) (F := fun k => .ex ⟨maxL (k.l.drop 1) k.s⟩) imax fun st K => rfl
def okevl (k : Kevl) : Bool := decide (k.i = 0) && (decide (k.n = (k.l.length : Int)) && Nat.blt (k.o.length + k.l.length) 16777216)
def numsL (l : List GValue) : List Int := l.map fun v => clI v.n
theorem ievl (k : Kevl) (h : okevl k = true) : iter stepevl k.l.length k = some (.ex ⟨k.nm, k.ps, k.d, k.o ++ numsL k.l⟩) := by
  unfold okevl at h
  simp only [Bool.and_eq_true, decide_eq_true_eq] at h
  obtain ⟨h1, h2, h3⟩ := h
  have hm : k.o.length + k.l.length < 16777216 := Nat.le_of_ble_eq_true h3
  obtain ⟨nm, ps, d, o, l, n, i⟩ := k
  dsimp only at h1 h2 hm
  subst h1; subst h2
  have e : ∀ (l : List GValue) (o : List Int), l.foldl (fun o x => o ++ [clI x.n]) o = o ++ numsL l := fun l => by
    induction l with
    | nil => intro o; simp [numsL]
    | cons x l ih => intro o; rw [List.foldl_cons, ih]; simp [numsL]
  have := iter_fold (step := stepevl) l (fun o j => (⟨nm, ps, d, o, l, (l.length : Int), (j : Int)⟩ : Kevl)) (fun o x => o ++ [clI x.n]) (fun o => (⟨nm, ps, d, o⟩ : Eevl)) (fun o j => o.length + (l.length - j) < 16777216) (fun b j h hI => ⟨by
    unfold stepevl stevl
    dsimp only
    rw [cnt h (by omega), gtj _ _ _ h, if_pos (lt1 h), if_pos lt0, if_pos (lt2 h)]
    exact if_pos (show b.length + 1 < 16777216 by omega), by simp; omega⟩) (fun b _ => by unfold stepevl stevl; dsimp only; rw [if_neg lt3]) l.length 0 o (by omega) (by simpa using hm)
  rw [List.drop_zero, e] at this
  exact this
def gevl : LP := fun st K => match uevl st with | some k => if okevl k = true then K (.ex 1) (Xevl ⟨k.nm, k.ps, k.d, k.o ++ numsL k.l⟩) else none | none => none
theorem okgevl : OKL 18 18 gevl := okfevl (fuel := fun k => k.l.length) (ok := okevl) (F := fun k => .ex ⟨k.nm, k.ps, k.d, k.o ++ numsL k.l⟩) ievl fun st K => rfl
/-! numbers -/
def rndU (p : Int × Int) (c : Int) : Int := match decide (p.1 < 1000000000000) with | true => (match decide (p.2 ≥ IntKind.u64.wrap (c - p.2)) with | true => IntKind.u64.wrap (p.1 + 1) | false => p.1) | false => p.1
def quoU (a b c : Int) : Int := match decide (a < c) with | true => mnI 1000000000000 (rndU (div64 a b c) c) | false => 1000000000000
def sgI (n : Bool) (x : Int) : Int := match n with | true => wI (0 - wI x) | false => wI x
def onQ {R : Type} (F : Int → Int → Int → Bool → Option R) (l : List VT) : Option R := match l with | [.agg [.int .u64 a, .int .u64 b], .int .u64 c, .bool n] => F a b c n | _ => none
theorem onQ_spec {R : Type} {F : Int → Int → Int → Bool → Option R} {l : List VT} {r : R} (h : onQ F l = some r) : ∃ a b c n, l = [.agg [.int .u64 a, .int .u64 b], .int .u64 c, .bool n] ∧ F a b c n = some r := by
  unfold onQ at h
  split at h
  · exact ⟨_, _, _, _, rfl, h⟩
  · cases h
/-- (a comparison that the kernel leaves alone where the number is a length) -/
def ltN (c : Int) (b : Nat) : Bool := match c with | .ofNat n => Nat.blt n b | .negSucc _ => true
theorem ltN_iff {c : Int} {b : Nat} (h : ltN c b = true) : c < (b : Int) := by
  unfold ltN at h
  split at h
  · rename_i n; have : n < b := Nat.le_of_ble_eq_true h; show (n : Int) < _; omega
  · omega
theorem ltN_of {c : Int} {b : Nat} (h : c < (b : Int)) : ltN c b = true := by
  unfold ltN
  split
  · rename_i n; exact Nat.ble_eq_true_of_le (show n + 1 ≤ b by have : (n : Int) < b := h; omega)
  · rfl
def conQuo : CON := onQ fun a b c n => some (decide (0 ≤ a) && ltN c 18446744073709551616, (.int .i64 (sgI n (quoU a b c)), []))
def Rquo (a b c : Int) (n : Bool) : Option (Res At) :=
  if decide (a < c) = true then
   if (decide (0 ≤ a) && (decide (a < c) && decide (c < 18446744073709551616))) = true then
    if decide ((div64 a b c).fst < 1000000000000) = true then
     if decide ((div64 a b c).snd ≥ IntKind.u64.wrap (c - (div64 a b c).snd)) = true then
      if n = true then
       some ((.int .i64 (IntKind.i64.wrap (0 - IntKind.i64.wrap (mnI 1000000000000 (IntKind.u64.wrap ((div64 a b c).fst + 1)))))), [])
      else
       some ((.int .i64 (IntKind.i64.wrap (mnI 1000000000000 (IntKind.u64.wrap ((div64 a b c).fst + 1))))), [])
     else
      if n = true then
       some ((.int .i64 (IntKind.i64.wrap (0 - IntKind.i64.wrap (mnI 1000000000000 (div64 a b c).fst)))), [])
      else
       some ((.int .i64 (IntKind.i64.wrap (mnI 1000000000000 (div64 a b c).fst))), [])
    else
     if n = true then
      some ((.int .i64 (IntKind.i64.wrap (0 - IntKind.i64.wrap (mnI 1000000000000 (div64 a b c).fst)))), [])
     else
      some ((.int .i64 (IntKind.i64.wrap (mnI 1000000000000 (div64 a b c).fst))), [])
   else
    none
  else
   if n = true then
    some ((.int .i64 (-1000000000000)), [])
   else
    some ((.int .i64 1000000000000), [])
theorem run_Rquo (a b c : Int) (n : Bool) : runF C4 60 65 [.agg [.int .u64 a, .int .u64 b], .int .u64 c, .bool n] = Rquo a b c n := by kernel_rfl
theorem Rquo_eq (a b c : Int) (n : Bool) (h0 : 0 ≤ a) (h1 : c < 18446744073709551616) : Rquo a b c n = some (.int .i64 (sgI n (quoU a b c)), []) := by
  unfold Rquo quoU
  rw [decide_eq_true h0, decide_eq_true h1]
  by_cases h : a < c
  · rw [decide_eq_true h]
    unfold rndU
    cases decide ((div64 a b c).fst < 1000000000000) <;> cases decide ((div64 a b c).snd ≥ IntKind.u64.wrap (c - (div64 a b c).snd)) <;> cases n <;> rfl
  · rw [decide_eq_false h]
    cases n <;> rfl
theorem okQuo : OK 65 conQuo := ok_run C4_ok (by kernel_rfl) fun l r h => by
  replace h := onQ_spec h
  obtain ⟨a, b, c, n, rfl, h⟩ := h
  obtain ⟨hc, rfl⟩ := some_pair h
  simp only [Bool.and_eq_true, decide_eq_true_eq] at hc
  exact ⟨60, (run_Rquo a b c n).trans (Rquo_eq a b c n hc.1 (ltN_iff hc.2))⟩
def lib6 : List (Nat × CON) := (65, conQuo) :: lib5
theorem lib6_ok : AllOK lib6 := .cons okQuo lib5_ok
def C6 : Cfg := { cs := lib6, ks := Ctot.ks ++ (Cmin.ks ++ Cmax.ks), xs := Ctot.xs ++ (Cmin.xs ++ Cmax.xs), lps := [((64, 3), gtot), ((46, 5), gmin), ((47, 5), gmax)] }
theorem C6_ok : CfgOK C6 := { con := lib6_ok, lp := .cons okgtot (.cons okgmin (.cons okgmax .nil)) }
def Rtot (l : List Int) : Option (Res At) :=
  if oktot { s := 0, l := l, n := (↑l.length : Int), i := 0 } = true then
   some ((.int .i64 (sumL l 0)), [])
  else
   none
theorem run_Rtot (l : List Int) : runF C6 60 64 [.ro 2 l] = Rtot l := by kernel_rfl
def Rmin (l : List Int) : Option (Res At) :=
  if decide ((↑l.length : Int) < 1) = true then
   none
  else
   if 0 < (↑l.length : Int) then
    if okmin { l := l, s := gt (Int.ofNat 0) l (Int.toNat 0), i := 1 } = true then
     some ((.int .i64 (minL (List.drop 1 l) (gt (Int.ofNat 0) l (Int.toNat 0)))), [])
    else
     none
   else
    none
theorem run_Rmin (l : List Int) : runF C6 80 46 [.ro 2 l] = Rmin l := by kernel_rfl
def Rmax (l : List Int) : Option (Res At) :=
  if decide ((↑l.length : Int) < 1) = true then
   none
  else
   if 0 < (↑l.length : Int) then
    if okmax { l := l, s := gt (Int.ofNat 0) l (Int.toNat 0), i := 1 } = true then
     some ((.int .i64 (maxL (List.drop 1 l) (gt (Int.ofNat 0) l (Int.toNat 0)))), [])
    else
     none
   else
    none
theorem run_Rmax (l : List Int) : runF C6 80 47 [.ro 2 l] = Rmax l := by kernel_rfl
def onL {R : Type} (e : Nat) (F : List (At e) → Option R) (l : List VT) : Option R := match l with | [x] => (match roV e x with | some a => F a | _ => none) | _ => none
theorem onL_spec {R : Type} {e : Nat} {F : List (At e) → Option R} {l : List VT} {r : R} (h : onL e F l = some r) : ∃ a, l = [.ro e a] ∧ F a = some r := by
  unfold onL at h
  split at h
  · split at h
    · rename_i hx
      exact ⟨_, by rw [roV_spec hx], h⟩
    · cases h
  · cases h
def conTot : CON := onL 2 fun (l : List Int) => some (Nat.ble l.length 9223372036854775807, (.int .i64 (sumL l 0), []))
theorem Rtot_eq (l : List Int) (h : Nat.ble l.length 9223372036854775807 = true) : Rtot l = some (.int .i64 (sumL l 0), []) := by
  unfold Rtot oktot
  rw [h]; simp
theorem okTot : OK 64 conTot := ok_run C6_ok (by kernel_rfl) fun l r h => by
  replace h := onL_spec h
  obtain ⟨a, rfl, h⟩ := h
  obtain ⟨hc, rfl⟩ := some_pair h
  exact ⟨60, (run_Rtot a).trans (Rtot_eq a hc)⟩
def minZ (l : List Int) : Int := minL (l.drop 1) (gt 0 l 0)
def maxZ (l : List Int) : Int := maxL (l.drop 1) (gt 0 l 0)
def lenC (l : List Int) : Bool := Nat.ble 1 l.length && Nat.ble l.length 9223372036854775807
def conMin : CON := onL 2 fun (l : List Int) => some (lenC l, (.int .i64 (minZ l), []))
def conMax : CON := onL 2 fun (l : List Int) => some (lenC l, (.int .i64 (maxZ l), []))
theorem Rmin_eq (l : List Int) (h : lenC l = true) : Rmin l = some (.int .i64 (minZ l), []) := by
  unfold lenC at h
  simp only [Bool.and_eq_true] at h
  have h1 := Nat.le_of_ble_eq_true h.1
  unfold Rmin okmin
  rw [h.1, h.2, if_neg (by simp; omega), if_pos (by omega)]
  simp [minZ]
theorem Rmax_eq (l : List Int) (h : lenC l = true) : Rmax l = some (.int .i64 (maxZ l), []) := by
  unfold lenC at h
  simp only [Bool.and_eq_true] at h
  have h1 := Nat.le_of_ble_eq_true h.1
  unfold Rmax okmax
  rw [h.1, h.2, if_neg (by simp; omega), if_pos (by omega)]
  simp [maxZ]
theorem okMin : OK 46 conMin := ok_run C6_ok (by kernel_rfl) fun l r h => by
  replace h := onL_spec h
  obtain ⟨a, rfl, h⟩ := h
  obtain ⟨hc, rfl⟩ := some_pair h
  exact ⟨80, (run_Rmin a).trans (Rmin_eq a hc)⟩
theorem okMax : OK 47 conMax := ok_run C6_ok (by kernel_rfl) fun l r h => by
  replace h := onL_spec h
  obtain ⟨a, rfl, h⟩ := h
  obtain ⟨hc, rfl⟩ := some_pair h
  exact ⟨80, (run_Rmax a).trans (Rmax_eq a hc)⟩
def lib7 : List (Nat × CON) := (64, conTot) :: (46, conMin) :: (47, conMax) :: lib6
theorem lib7_ok : AllOK lib7 := .cons okTot (.cons okMin (.cons okMax lib6_ok))
def C7 : Cfg := { cs := lib7 }
theorem C7_ok : CfgOK C7 := { con := lib7_ok }
def Rmd (a b c : Int) : Option (Res At) :=
  if (decide (0 ≤ sizeU (mxI (-1000000000000) (mnI 1000000000000 a))) && (decide (sizeU (mxI (-1000000000000) (mnI 1000000000000 a)) < 18446744073709551616) && (decide (0 ≤ sizeU (mxI (-1000000000000) (mnI 1000000000000 b))) && decide (sizeU (mxI (-1000000000000) (mnI 1000000000000 b)) < 18446744073709551616)))) = true then
   if (decide ((↑((sizeU (mxI (-1000000000000) (mnI 1000000000000 a))).toNat * (sizeU (mxI (-1000000000000) (mnI 1000000000000 b))).toNat / 18446744073709551616) : Int) = 0) && (decide ((↑((sizeU (mxI (-1000000000000) (mnI 1000000000000 a))).toNat * (sizeU (mxI (-1000000000000) (mnI 1000000000000 b))).toNat % 18446744073709551616) : Int) = 0) && true)) = true then
    some ((.int .i64 0), [])
   else
    if decide (sizeU (mxI (-1000000000000) (mnI 1000000000000 c)) = 0) = true then
     if (!decide (mxI (-1000000000000) (mnI 1000000000000 a) < 0) == decide (mxI (-1000000000000) (mnI 1000000000000 b) < 0)) = true then
      some ((.int .i64 (-1000000000000)), [])
     else
      if decide (sizeU (mxI (-1000000000000) (mnI 1000000000000 c)) = 0) = true then
       some ((.int .i64 1000000000000), [])
      else
       if (decide (0 ≤ (↑((sizeU (mxI (-1000000000000) (mnI 1000000000000 a))).toNat * (sizeU (mxI (-1000000000000) (mnI 1000000000000 b))).toNat / 18446744073709551616) : Int)) && ltN (sizeU (mxI (-1000000000000) (mnI 1000000000000 c))) 18446744073709551616) = true then
        some ((.int .i64 (sgI (!(!decide (mxI (-1000000000000) (mnI 1000000000000 a) < 0) == decide (mxI (-1000000000000) (mnI 1000000000000 b) < 0)) == decide (mxI (-1000000000000) (mnI 1000000000000 c) < 0)) (quoU (↑((sizeU (mxI (-1000000000000) (mnI 1000000000000 a))).toNat * (sizeU (mxI (-1000000000000) (mnI 1000000000000 b))).toNat / 18446744073709551616) : Int) (↑((sizeU (mxI (-1000000000000) (mnI 1000000000000 a))).toNat * (sizeU (mxI (-1000000000000) (mnI 1000000000000 b))).toNat % 18446744073709551616) : Int) (sizeU (mxI (-1000000000000) (mnI 1000000000000 c)))))), [])
       else
        none
    else
     if decide (sizeU (mxI (-1000000000000) (mnI 1000000000000 c)) = 0) = true then
      some ((.int .i64 1000000000000), [])
     else
      if (decide (0 ≤ (↑((sizeU (mxI (-1000000000000) (mnI 1000000000000 a))).toNat * (sizeU (mxI (-1000000000000) (mnI 1000000000000 b))).toNat / 18446744073709551616) : Int)) && ltN (sizeU (mxI (-1000000000000) (mnI 1000000000000 c))) 18446744073709551616) = true then
       some ((.int .i64 (sgI (!(!decide (mxI (-1000000000000) (mnI 1000000000000 a) < 0) == decide (mxI (-1000000000000) (mnI 1000000000000 b) < 0)) == decide (mxI (-1000000000000) (mnI 1000000000000 c) < 0)) (quoU (↑((sizeU (mxI (-1000000000000) (mnI 1000000000000 a))).toNat * (sizeU (mxI (-1000000000000) (mnI 1000000000000 b))).toNat / 18446744073709551616) : Int) (↑((sizeU (mxI (-1000000000000) (mnI 1000000000000 a))).toNat * (sizeU (mxI (-1000000000000) (mnI 1000000000000 b))).toNat % 18446744073709551616) : Int) (sizeU (mxI (-1000000000000) (mnI 1000000000000 c)))))), [])
      else
       none
  else
   none
theorem run_Rmd (a b c : Int) : runF C7 80 62 [.int .i64 a, .int .i64 b, .int .i64 c] = Rmd a b c := by kernel_rfl
def Rmean (l : List Int) : Option (Res At) :=
  if decide ((↑l.length : Int) = 0) = true then
   some ((.int .i64 0), [])
  else
   if l.length.ble 9223372036854775807 = true then
    if (decide (0 ≤ 0) && ltN (IntKind.u64.wrap (↑l.length : Int)) 18446744073709551616) = true then
     some ((.int .i64 (sgI (decide (sumL l 0 < 0)) (quoU 0 (sizeU (sumL l 0)) (IntKind.u64.wrap (↑l.length : Int))))), [])
    else
     none
   else
    none
theorem run_Rmean (l : List Int) : runF C7 80 52 [.ro 2 l] = Rmean l := by kernel_rfl
end
end Go.Proofs.YtbcpnhnalhhfoaaGreatDoor.X
