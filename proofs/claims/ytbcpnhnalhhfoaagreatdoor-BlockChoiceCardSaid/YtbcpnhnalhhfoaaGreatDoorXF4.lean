/-
  Products and means; lines.
-/
import Derived.Test.YtbcpnhnalhhfoaaGreatDoorXF3
set_option autoImplicit false
set_option linter.unusedVariables false
set_option linter.unusedSimpArgs false
set_option maxRecDepth 100000
namespace Go.Proofs.YtbcpnhnalhhfoaaGreatDoor.X
open Go Go.Proofs Go.RowKit Go.Proofs.YtbcpnhnalhhfoaaGreatDoor
noncomputable section
def meanV (l : List Int) : Int := match decide ((l.length : Int) = 0) with | true => 0 | false => sgI (decide (sumL l 0 < 0)) (quoU 0 (sizeU (sumL l 0)) (IntKind.u64.wrap (l.length : Int)))
def conMean : CON := onL 2 fun (l : List Int) => some (Nat.ble l.length 9223372036854775807, (.int .i64 (meanV l), []))
theorem Rmean_eq (l : List Int) (h : Nat.ble l.length 9223372036854775807 = true) : Rmean l = some (.int .i64 (meanV l), []) := by
  unfold Rmean meanV
  rw [h, ltN_of (wrapU_in _).2]
  cases decide ((l.length : Int) = 0) <;> rfl
theorem okMean : OK 52 conMean := ok_run C7_ok (by kernel_rfl) fun l r h => by
  replace h := onL_spec h
  obtain ⟨a, rfl, h⟩ := h
  obtain ⟨hc, rfl⟩ := some_pair h
  exact ⟨80, (run_Rmean a).trans (Rmean_eq a hc)⟩
theorem mxI_eq (a b : Int) : mxI a b = max a b := by unfold mxI; split <;> omega
theorem mnI_eq (a b : Int) : mnI a b = min a b := by unfold mnI; split <;> omega
theorem clI_in (a : Int) : -1000000000000 ≤ clI a ∧ clI a ≤ 1000000000000 := by unfold clI; rw [mxI_eq, mnI_eq]; omega
theorem wI_small {i : Int} (h0 : -9223372036854775808 ≤ i) (h1 : i ≤ 9223372036854775807) : wI i = i := by
  unfold wI IntKind.wrap
  simp [IntKind.signed, IntKind.bits]
  omega
theorem sizeU_abs {n : Int} (h0 : -9223372036854775807 ≤ n) (h1 : n ≤ 9223372036854775807) : sizeU n = (n.natAbs : Int) := by
  unfold sizeU
  by_cases h : n < 0
  · rw [decide_eq_true h]
    have := wI_small (i := 0 - n) (by omega) (by omega)
    unfold wI at this
    dsimp only
    rw [this, wrapU_small (by omega) (by omega)]; omega
  · rw [decide_eq_false h]
    dsimp only
    rw [wrapU_small (by omega) (by omega)]; omega
theorem sizeU_in (n : Int) : 0 ≤ sizeU n ∧ sizeU n < 18446744073709551616 := by
  unfold sizeU
  cases decide (n < 0) <;> exact wrapU_in _
def neB (a b : Bool) : Bool := !(a == b)
def hiP (x y : Int) : Int := ((x.toNat * y.toNat / 18446744073709551616 : Nat) : Int)
def loP (x y : Int) : Int := ((x.toNat * y.toNat % 18446744073709551616 : Nat) : Int)
def mdV (a b c : Int) : Int := match decide (hiP (sizeU (clI a)) (sizeU (clI b)) = 0) && decide (loP (sizeU (clI a)) (sizeU (clI b)) = 0) with
  | true => 0
  | false => match decide (sizeU (clI c) = 0) with
    | true => (match decide (clI a < 0) == decide (clI b < 0) with | false => -1000000000000 | true => 1000000000000)
    | false => sgI (neB (neB (decide (clI a < 0)) (decide (clI b < 0))) (decide (clI c < 0))) (quoU (hiP (sizeU (clI a)) (sizeU (clI b))) (loP (sizeU (clI a)) (sizeU (clI b))) (sizeU (clI c)))
def onIII {R : Type} (F : Int → Int → Int → Option R) (l : List VT) : Option R := match l with | [.int .i64 n, .int .i64 m, .int .i64 k] => F n m k | _ => none
theorem onIII_spec {R : Type} {F : Int → Int → Int → Option R} {l : List VT} {r : R} (h : onIII F l = some r) : ∃ n m k, l = [.int .i64 n, .int .i64 m, .int .i64 k] ∧ F n m k = some r := by
  unfold onIII at h
  split at h
  · exact ⟨_, _, _, rfl, h⟩
  · cases h
def conMd : CON := onIII fun a b c => some (true, (.int .i64 (mdV a b c), []))
theorem Rmd_eq (a b c : Int) : Rmd a b c = some (.int .i64 (mdV a b c), []) := by
  have ha := sizeU_in (clI a)
  have hb := sizeU_in (clI b)
  have hc := sizeU_in (clI c)
  have h1 : decide (0 ≤ hiP (sizeU (clI a)) (sizeU (clI b))) = true := decide_eq_true (Int.natCast_nonneg _)
  show (if (decide (0 ≤ sizeU (clI a)) && (decide (sizeU (clI a) < 18446744073709551616) && (decide (0 ≤ sizeU (clI b)) && decide (sizeU (clI b) < 18446744073709551616)))) = true then
   if (decide (hiP (sizeU (clI a)) (sizeU (clI b)) = 0) && (decide (loP (sizeU (clI a)) (sizeU (clI b)) = 0) && true)) = true then some ((.int .i64 0), [])
   else
    if decide (sizeU (clI c) = 0) = true then
     if (!(decide (clI a < 0) == decide (clI b < 0))) = true then some ((.int .i64 (-1000000000000)), [])
     else
      if decide (sizeU (clI c) = 0) = true then some ((.int .i64 1000000000000), [])
      else if (decide (0 ≤ hiP (sizeU (clI a)) (sizeU (clI b))) && ltN (sizeU (clI c)) 18446744073709551616) = true then some (.int .i64 (sgI (neB (neB (decide (clI a < 0)) (decide (clI b < 0))) (decide (clI c < 0))) (quoU (hiP (sizeU (clI a)) (sizeU (clI b))) (loP (sizeU (clI a)) (sizeU (clI b))) (sizeU (clI c)))), []) else none
    else
     if decide (sizeU (clI c) = 0) = true then some ((.int .i64 1000000000000), [])
     else if (decide (0 ≤ hiP (sizeU (clI a)) (sizeU (clI b))) && ltN (sizeU (clI c)) 18446744073709551616) = true then some (.int .i64 (sgI (neB (neB (decide (clI a < 0)) (decide (clI b < 0))) (decide (clI c < 0))) (quoU (hiP (sizeU (clI a)) (sizeU (clI b))) (loP (sizeU (clI a)) (sizeU (clI b))) (sizeU (clI c)))), []) else none
  else none : Option (Res At)) = _
  rw [decide_eq_true ha.1, decide_eq_true ha.2, decide_eq_true hb.1, decide_eq_true hb.2, h1, ltN_of hc.2]
  unfold mdV
  cases decide (hiP (sizeU (clI a)) (sizeU (clI b)) = 0) <;> cases decide (loP (sizeU (clI a)) (sizeU (clI b)) = 0) <;> cases decide (sizeU (clI c) = 0) <;> cases decide (clI a < 0) <;> cases decide (clI b < 0) <;> rfl
theorem okMd : OK 62 conMd := ok_run C7_ok (by kernel_rfl) fun l r h => by
  replace h := onIII_spec h
  obtain ⟨a, b, c, rfl, h⟩ := h
  obtain ⟨_, rfl⟩ := some_pair h
  exact ⟨80, (run_Rmd a b c).trans (Rmd_eq a b c)⟩
def lib8 : List (Nat × CON) := (52, conMean) :: (62, conMd) :: lib7
theorem lib8_ok : AllOK lib8 := .cons okMean (.cons okMd lib7_ok)
def C8 : Cfg := { cs := lib8 }
theorem C8_ok : CfgOK C8 := { con := lib8_ok }
def Rlog (s : ByteArray) (l : List Int) : Option (Res At) :=
  if eqB s { data := #[97, 98, 111, 118, 101] } = true then
   if 0 < (↑l.length : Int) then
    if 1 < (↑l.length : Int) then
     if decide (gt (Int.ofNat 0) l (Int.toNat 0) > gt (Int.ofNat 0) l (Int.toNat 1)) = true then
      some ((.agg [(.int .i64 2), (.int .i64 1)]), [])
     else
      some ((.agg [(.int .i64 2), (.int .i64 0)]), [])
    else
     none
   else
    none
  else
   if eqB s { data := #[98, 101, 108, 111, 119] } = true then
    if 0 < (↑l.length : Int) then
     if 1 < (↑l.length : Int) then
      if decide (gt (Int.ofNat 0) l (Int.toNat 0) < gt (Int.ofNat 0) l (Int.toNat 1)) = true then
       some ((.agg [(.int .i64 2), (.int .i64 1)]), [])
      else
       some ((.agg [(.int .i64 2), (.int .i64 0)]), [])
     else
      none
    else
     none
   else
    if eqB s { data := #[97, 110, 100] } = true then
     if lenC l = true then
      if decide (minZ l = 1) = true then
       some ((.agg [(.int .i64 2), (.int .i64 1)]), [])
      else
       some ((.agg [(.int .i64 2), (.int .i64 0)]), [])
     else
      none
    else
     if eqB s { data := #[111, 114] } = true then
      if lenC l = true then
       if decide (maxZ l = 1) = true then
        some ((.agg [(.int .i64 2), (.int .i64 1)]), [])
       else
        some ((.agg [(.int .i64 2), (.int .i64 0)]), [])
      else
       none
     else
      if eqB s { data := #[110, 111, 116] } = true then
       if 0 < (↑l.length : Int) then
        if decide (gt (Int.ofNat 0) l (Int.toNat 0) = 0) = true then
         some ((.agg [(.int .i64 2), (.int .i64 1)]), [])
        else
         some ((.agg [(.int .i64 2), (.int .i64 0)]), [])
       else
        none
      else
       if eqB s { data := #[120, 111, 114] } = true then
        if 0 < (↑l.length : Int) then
         if 1 < (↑l.length : Int) then
          if (!decide (gt (Int.ofNat 0) l (Int.toNat 0) = gt (Int.ofNat 0) l (Int.toNat 1))) = true then
           some ((.agg [(.int .i64 2), (.int .i64 1)]), [])
          else
           some ((.agg [(.int .i64 2), (.int .i64 0)]), [])
         else
          none
        else
         none
       else
        some ((.agg [(.int .i64 2), (.int .i64 0)]), [])
theorem run_Rlog (s : ByteArray) (l : List Int) : runF C8 80 37 [.str s, .ro 2 l] = Rlog s l := by kernel_rfl
/-- (nothing is said of lines) -/
def conNoLine : CON := fun l => some (false, (.unk, []))
theorem okNoLine : OK 53 conNoLine := ⟨entB_spec (by kernel_rfl), fun w okb xs cs r hG hs hr hok h => by cases h⟩
def lib9 : List (Nat × CON) := (53, conNoLine) :: lib8
theorem lib9_ok : AllOK lib9 := .cons okNoLine lib8_ok
def C9 : Cfg := { cs := lib9 }
theorem C9_ok : CfgOK C9 := { con := lib9_ok }
def Rari (s : ByteArray) (ps l : List Int) : Option (Res At) :=
  if eqB s { data := #[97, 100, 100] } = true then
   if 0 < (↑l.length : Int) then
    if 1 < (↑l.length : Int) then
     some ((.int .i64 (mxI (-1000000000000) (mnI 1000000000000 (sumL [gt (Int.ofNat 0) l (Int.toNat 0), gt (Int.ofNat 0) l (Int.toNat 1)] 0)))), [])
    else
     none
   else
    none
  else
   if eqB s { data := #[115, 117, 98] } = true then
    if 0 < (↑l.length : Int) then
     if 1 < (↑l.length : Int) then
      some ((.int .i64 (mxI (-1000000000000) (mnI 1000000000000 (sumL [gt (Int.ofNat 0) l (Int.toNat 0), IntKind.i64.wrap (0 - mxI (-1000000000000) (mnI 1000000000000 (gt (Int.ofNat 0) l (Int.toNat 1))))] 0)))), [])
     else
      none
    else
     none
   else
    if eqB s { data := #[109, 117, 108] } = true then
     if 0 < (↑l.length : Int) then
      if 1 < (↑l.length : Int) then
       some ((.int .i64 (mdV (gt (Int.ofNat 0) l (Int.toNat 0)) (gt (Int.ofNat 0) l (Int.toNat 1)) 1000)), [])
      else
       none
     else
      none
    else
     if eqB s { data := #[100, 105, 118] } = true then
      if 0 < (↑l.length : Int) then
       if 1 < (↑l.length : Int) then
        some ((.int .i64 (mdV (gt (Int.ofNat 0) l (Int.toNat 0)) 1000 (gt (Int.ofNat 0) l (Int.toNat 1)))), [])
       else
        none
      else
       none
     else
      if eqB s { data := #[109, 105, 110] } = true then
       if 0 < (↑l.length : Int) then
        if 1 < (↑l.length : Int) then
         some ((.int .i64 (mnI (gt (Int.ofNat 0) l (Int.toNat 0)) (gt (Int.ofNat 0) l (Int.toNat 1)))), [])
        else
         none
       else
        none
      else
       if eqB s { data := #[109, 97, 120] } = true then
        if 0 < (↑l.length : Int) then
         if 1 < (↑l.length : Int) then
          some ((.int .i64 (mxI (gt (Int.ofNat 0) l (Int.toNat 0)) (gt (Int.ofNat 0) l (Int.toNat 1)))), [])
         else
          none
        else
         none
       else
        if eqB s { data := #[109, 101, 97, 110] } = true then
         if l.length.ble 9223372036854775807 = true then
          some ((.int .i64 (meanV l)), [])
         else
          none
        else
         if eqB s { data := #[110, 101, 103] } = true then
          if 0 < (↑l.length : Int) then
           some ((.int .i64 (mxI (-1000000000000) (mnI 1000000000000 (sumL [0, IntKind.i64.wrap (0 - mxI (-1000000000000) (mnI 1000000000000 (gt (Int.ofNat 0) l (Int.toNat 0))))] 0)))), [])
          else
           none
         else
          if eqB s { data := #[97, 98, 115] } = true then
           if 0 < (↑l.length : Int) then
            if 0 < (↑l.length : Int) then
             some ((.int .i64 (mxI (gt (Int.ofNat 0) l (Int.toNat 0)) (mxI (-1000000000000) (mnI 1000000000000 (sumL [0, IntKind.i64.wrap (0 - mxI (-1000000000000) (mnI 1000000000000 (gt (Int.ofNat 0) l (Int.toNat 0))))] 0))))), [])
            else
             none
           else
            none
          else
           if eqB s { data := #[108, 105, 109, 105, 116] } = true then
            if 0 < (↑ps.length : Int) then
             if 1 < (↑ps.length : Int) then
              if 0 < (↑l.length : Int) then
               some ((.int .i64 (mxI (gt (Int.ofNat 0) ps (Int.toNat 0)) (mnI (gt (Int.ofNat 0) ps (Int.toNat 1)) (gt (Int.ofNat 0) l (Int.toNat 0))))), [])
              else
               none
             else
              none
            else
             none
           else
            if 0 < (↑l.length : Int) then
             if 0 < (↑ps.length : Int) then
              if 1 < (↑ps.length : Int) then
               if 2 < (↑ps.length : Int) then
                if 3 < (↑ps.length : Int) then
                 none
                else
                 none
               else
                none
              else
               none
             else
              none
            else
             none
theorem run_Rari (s : ByteArray) (ps l : List Int) : runF C9 80 38 [.str s, .ro 2 ps, .ro 2 l] = Rari s ps l := by kernel_rfl
end
end Go.Proofs.YtbcpnhnalhhfoaaGreatDoor.X
