/-
  What is formed; finding by closures.
-/
import Derived.Test.YtpbpebjfglfjfaaGreatDoorXQa
set_option autoImplicit false
set_option linter.unusedVariables false
set_option linter.unusedSimpArgs false
set_option maxRecDepth 100000
namespace Go.Proofs.YtpbpebjfglfjfaaGreatDoor.X
open Go Go.Proofs Go.RowKit Go.Proofs.YtpbpebjfglfjfaaGreatDoor
noncomputable section
def CCn : Cfg := { cs := libPoR }
theorem CCn_ok : CfgOK CCn := { con := libPoR_ok }
def RCn (a0 : GValue) : Option (Res At) :=
  if decide (a0.kind = 1) = true then
   if decide (a0.n ≥ -1000000000000) = true then
    some ((.bool (decide (a0.n ≤ 1000000000000))), [])
   else
    some ((.bool false), [])
  else
   if decide (a0.kind = 2) = true then
    if decide (a0.n = 0) = false then
     some ((.bool (decide (a0.n = 1))), [])
    else
     some ((.bool true), [])
   else
    if decide (a0.kind = 3) = true then
     if decide (a0.n ≥ 1) = true then
      some ((.bool (decide (a0.n ≤ 16))), [])
     else
      some ((.bool false), [])
    else
     some ((.bool false), [])
theorem run_RCn (a0 : GValue) : runF CCn 80 111 [.agg (enc53 a0)] = RCn a0 := by kernel_rfl
def oCn (a0 : GValue) : Option (Res At) := crR [none] (RCn a0)
def vCn (a0 : GValue) : Bool := valO rB false (oCn a0)
def cCn (a0 : GValue) : Bool := okO rB (oCn a0)
def conCn : CON := on1 (rA ex53 enc53 fun _ _ h => ex53_spec h) fun a0 => some (cCn a0, (.bool (vCn a0), []))
theorem okCn : OK 111 conCn := okc1 CCn_ok (n := 80) (ts := [none]) (a := (rA ex53 enc53 fun _ _ h => ex53_spec h)) (r := rB) (d := false) (R := fun a0 => RCn a0) (by kernel_rfl) fun a0 => run_RCn a0
def libCn : List (Nat × CON) := (111, conCn) :: libPoR
theorem libCn_ok : AllOK libCn := .cons okCn libPoR_ok
def CFm : Cfg := { cs := libCn }
theorem CFm_ok : CfgOK CFm := { con := libCn_ok }
def RFm (a0 : GLink) : Option (Res At) :=
  if (!decide (a0.port = 0)) = false then
   if a0.delayed = true then
    if cCn a0.initial = true then
     if (!vCn a0.initial) = false then
      if (!a0.delayed) = true then
       if (!(decide (a0.initial.kind = 0) && (decide (a0.initial.n = 0) && true))) = true then
        some ((.bool false), [])
       else
        if eqB a0.node { data := #[] : ByteArray } = true then
         if eqB a0.point { data := #[] : ByteArray } = true then
          if cCn a0.const = true then
           some ((.bool (vCn a0.const)), [])
          else
           none
         else
          if (!eqB a0.node { data := #[] : ByteArray }) = true then
           if (!eqB a0.point { data := #[] : ByteArray }) = false then
            if (!(decide (a0.const.kind = 0) && (decide (a0.const.n = 0) && true))) = true then
             some ((.bool false), [])
            else
             if a0.node.size + a0.point.size < 4611686018427387904 then
              if cNm (catB a0.node a0.point) = true then
               some ((.bool (vNm (catB a0.node a0.point))), [])
              else
               none
             else
              none
           else
            some ((.bool false), [])
          else
           if (!(decide (a0.const.kind = 0) && (decide (a0.const.n = 0) && true))) = true then
            some ((.bool false), [])
           else
            if a0.node.size + a0.point.size < 4611686018427387904 then
             if cNm (catB a0.node a0.point) = true then
              some ((.bool (vNm (catB a0.node a0.point))), [])
             else
              none
            else
             none
        else
         if (!eqB a0.node { data := #[] : ByteArray }) = true then
          if (!eqB a0.point { data := #[] : ByteArray }) = false then
           if (!(decide (a0.const.kind = 0) && (decide (a0.const.n = 0) && true))) = true then
            some ((.bool false), [])
           else
            if a0.node.size + a0.point.size < 4611686018427387904 then
             if cNm (catB a0.node a0.point) = true then
              some ((.bool (vNm (catB a0.node a0.point))), [])
             else
              none
            else
             none
          else
           some ((.bool false), [])
         else
          if (!(decide (a0.const.kind = 0) && (decide (a0.const.n = 0) && true))) = true then
           some ((.bool false), [])
          else
           if a0.node.size + a0.point.size < 4611686018427387904 then
            if cNm (catB a0.node a0.point) = true then
             some ((.bool (vNm (catB a0.node a0.point))), [])
            else
             none
           else
            none
      else
       if eqB a0.node { data := #[] : ByteArray } = true then
        if eqB a0.point { data := #[] : ByteArray } = true then
         if cCn a0.const = true then
          some ((.bool (vCn a0.const)), [])
         else
          none
        else
         if (!eqB a0.node { data := #[] : ByteArray }) = true then
          if (!eqB a0.point { data := #[] : ByteArray }) = false then
           if (!(decide (a0.const.kind = 0) && (decide (a0.const.n = 0) && true))) = true then
            some ((.bool false), [])
           else
            if a0.node.size + a0.point.size < 4611686018427387904 then
             if cNm (catB a0.node a0.point) = true then
              some ((.bool (vNm (catB a0.node a0.point))), [])
             else
              none
            else
             none
          else
           some ((.bool false), [])
         else
          if (!(decide (a0.const.kind = 0) && (decide (a0.const.n = 0) && true))) = true then
           some ((.bool false), [])
          else
           if a0.node.size + a0.point.size < 4611686018427387904 then
            if cNm (catB a0.node a0.point) = true then
             some ((.bool (vNm (catB a0.node a0.point))), [])
            else
             none
           else
            none
       else
        if (!eqB a0.node { data := #[] : ByteArray }) = true then
         if (!eqB a0.point { data := #[] : ByteArray }) = false then
          if (!(decide (a0.const.kind = 0) && (decide (a0.const.n = 0) && true))) = true then
           some ((.bool false), [])
          else
           if a0.node.size + a0.point.size < 4611686018427387904 then
            if cNm (catB a0.node a0.point) = true then
             some ((.bool (vNm (catB a0.node a0.point))), [])
            else
             none
           else
            none
         else
          some ((.bool false), [])
        else
         if (!(decide (a0.const.kind = 0) && (decide (a0.const.n = 0) && true))) = true then
          some ((.bool false), [])
         else
          if a0.node.size + a0.point.size < 4611686018427387904 then
           if cNm (catB a0.node a0.point) = true then
            some ((.bool (vNm (catB a0.node a0.point))), [])
           else
            none
          else
           none
     else
      some ((.bool false), [])
    else
     none
   else
    if (!a0.delayed) = true then
     if (!(decide (a0.initial.kind = 0) && (decide (a0.initial.n = 0) && true))) = true then
      some ((.bool false), [])
     else
      if eqB a0.node { data := #[] : ByteArray } = true then
       if eqB a0.point { data := #[] : ByteArray } = true then
        if cCn a0.const = true then
         some ((.bool (vCn a0.const)), [])
        else
         none
       else
        if (!eqB a0.node { data := #[] : ByteArray }) = true then
         if (!eqB a0.point { data := #[] : ByteArray }) = false then
          if (!(decide (a0.const.kind = 0) && (decide (a0.const.n = 0) && true))) = true then
           some ((.bool false), [])
          else
           if a0.node.size + a0.point.size < 4611686018427387904 then
            if cNm (catB a0.node a0.point) = true then
             some ((.bool (vNm (catB a0.node a0.point))), [])
            else
             none
           else
            none
         else
          some ((.bool false), [])
        else
         if (!(decide (a0.const.kind = 0) && (decide (a0.const.n = 0) && true))) = true then
          some ((.bool false), [])
         else
          if a0.node.size + a0.point.size < 4611686018427387904 then
           if cNm (catB a0.node a0.point) = true then
            some ((.bool (vNm (catB a0.node a0.point))), [])
           else
            none
          else
           none
      else
       if (!eqB a0.node { data := #[] : ByteArray }) = true then
        if (!eqB a0.point { data := #[] : ByteArray }) = false then
         if (!(decide (a0.const.kind = 0) && (decide (a0.const.n = 0) && true))) = true then
          some ((.bool false), [])
         else
          if a0.node.size + a0.point.size < 4611686018427387904 then
           if cNm (catB a0.node a0.point) = true then
            some ((.bool (vNm (catB a0.node a0.point))), [])
           else
            none
          else
           none
        else
         some ((.bool false), [])
       else
        if (!(decide (a0.const.kind = 0) && (decide (a0.const.n = 0) && true))) = true then
         some ((.bool false), [])
        else
         if a0.node.size + a0.point.size < 4611686018427387904 then
          if cNm (catB a0.node a0.point) = true then
           some ((.bool (vNm (catB a0.node a0.point))), [])
          else
           none
         else
          none
    else
     if eqB a0.node { data := #[] : ByteArray } = true then
      if eqB a0.point { data := #[] : ByteArray } = true then
       if cCn a0.const = true then
        some ((.bool (vCn a0.const)), [])
       else
        none
      else
       if (!eqB a0.node { data := #[] : ByteArray }) = true then
        if (!eqB a0.point { data := #[] : ByteArray }) = false then
         if (!(decide (a0.const.kind = 0) && (decide (a0.const.n = 0) && true))) = true then
          some ((.bool false), [])
         else
          if a0.node.size + a0.point.size < 4611686018427387904 then
           if cNm (catB a0.node a0.point) = true then
            some ((.bool (vNm (catB a0.node a0.point))), [])
           else
            none
          else
           none
        else
         some ((.bool false), [])
       else
        if (!(decide (a0.const.kind = 0) && (decide (a0.const.n = 0) && true))) = true then
         some ((.bool false), [])
        else
         if a0.node.size + a0.point.size < 4611686018427387904 then
          if cNm (catB a0.node a0.point) = true then
           some ((.bool (vNm (catB a0.node a0.point))), [])
          else
           none
         else
          none
     else
      if (!eqB a0.node { data := #[] : ByteArray }) = true then
       if (!eqB a0.point { data := #[] : ByteArray }) = false then
        if (!(decide (a0.const.kind = 0) && (decide (a0.const.n = 0) && true))) = true then
         some ((.bool false), [])
        else
         if a0.node.size + a0.point.size < 4611686018427387904 then
          if cNm (catB a0.node a0.point) = true then
           some ((.bool (vNm (catB a0.node a0.point))), [])
          else
           none
         else
          none
       else
        some ((.bool false), [])
      else
       if (!(decide (a0.const.kind = 0) && (decide (a0.const.n = 0) && true))) = true then
        some ((.bool false), [])
       else
        if a0.node.size + a0.point.size < 4611686018427387904 then
         if cNm (catB a0.node a0.point) = true then
          some ((.bool (vNm (catB a0.node a0.point))), [])
         else
          none
        else
         none
  else
   some ((.bool false), [])
theorem run_RFm (a0 : GLink) : runF CFm 80 53 [.agg (enc55 a0)] = RFm a0 := by kernel_rfl
def oFm (a0 : GLink) : Option (Res At) := crR [none] (RFm a0)
def vFm (a0 : GLink) : Bool := valO rB false (oFm a0)
def cFm (a0 : GLink) : Bool := okO rB (oFm a0)
def conFm : CON := on1 (rA ex55 enc55 fun _ _ h => ex55_spec h) fun a0 => some (cFm a0, (.bool (vFm a0), []))
theorem okFm : OK 53 conFm := okc1 CFm_ok (n := 80) (ts := [none]) (a := (rA ex55 enc55 fun _ _ h => ex55_spec h)) (r := rB) (d := false) (R := fun a0 => RFm a0) (by kernel_rfl) fun a0 => run_RFm a0
def libFm : List (Nat × CON) := (53, conFm) :: libCn
theorem libFm_ok : AllOK libFm := .cons okFm libCn_ok
def CCnR : Cfg := { cs := libFm }
theorem CCnR_ok : CfgOK CCnR := { con := libFm_ok }
def RCnR (a0 : GValue) : Option (Res At) :=
  if decide (a0.kind = 1) = true then
   if decide (a0.n ≥ -1000000000000) = true then
    some ((.bool (decide (a0.n ≤ 1000000000000))), [])
   else
    some ((.bool false), [])
  else
   if decide (a0.kind = 2) = true then
    if decide (a0.n = 0) = false then
     some ((.bool (decide (a0.n = 1))), [])
    else
     some ((.bool true), [])
   else
    if decide (a0.kind = 3) = true then
     if decide (a0.n ≥ 1) = true then
      some ((.bool (decide (a0.n ≤ 16))), [])
     else
      some ((.bool false), [])
    else
     some ((.bool false), [])
theorem run_RCnR (a0 : GValue) : runF CCnR 80 141 [.agg (enc53 a0)] = RCnR a0 := by kernel_rfl
def oCnR (a0 : GValue) : Option (Res At) := crR [none] (RCnR a0)
def vCnR (a0 : GValue) : Bool := valO rB false (oCnR a0)
def cCnR (a0 : GValue) : Bool := okO rB (oCnR a0)
def conCnR : CON := on1 (rA ex53 enc53 fun _ _ h => ex53_spec h) fun a0 => some (cCnR a0, (.bool (vCnR a0), []))
theorem okCnR : OK 141 conCnR := okc1 CCnR_ok (n := 80) (ts := [none]) (a := (rA ex53 enc53 fun _ _ h => ex53_spec h)) (r := rB) (d := false) (R := fun a0 => RCnR a0) (by kernel_rfl) fun a0 => run_RCnR a0
def libCnR : List (Nat × CON) := (141, conCnR) :: libFm
theorem libCnR_ok : AllOK libCnR := .cons okCnR libFm_ok
def CFmR : Cfg := { cs := libCnR }
theorem CFmR_ok : CfgOK CFmR := { con := libCnR_ok }
def RFmR (a0 : GLink) : Option (Res At) :=
  if (!decide (a0.port = 0)) = false then
   if a0.delayed = true then
    if cCnR a0.initial = true then
     if (!vCnR a0.initial) = false then
      if (!a0.delayed) = true then
       if (!(decide (a0.initial.kind = 0) && (decide (a0.initial.n = 0) && true))) = true then
        some ((.bool false), [])
       else
        if eqB a0.node { data := #[] : ByteArray } = true then
         if eqB a0.point { data := #[] : ByteArray } = true then
          if cCnR a0.const = true then
           some ((.bool (vCnR a0.const)), [])
          else
           none
         else
          if (!(decide (a0.const.kind = 0) && (decide (a0.const.n = 0) && true))) = false then
           if (!eqB a0.node { data := #[] : ByteArray }) = true then
            if (!eqB a0.point { data := #[] : ByteArray }) = true then
             some ((.bool false), [])
            else
             if a0.node.size + a0.point.size < 4611686018427387904 then
              if cNr (catB a0.node a0.point) = true then
               some ((.bool (vNr (catB a0.node a0.point))), [])
              else
               none
             else
              none
           else
            if a0.node.size + a0.point.size < 4611686018427387904 then
             if cNr (catB a0.node a0.point) = true then
              some ((.bool (vNr (catB a0.node a0.point))), [])
             else
              none
            else
             none
          else
           some ((.bool false), [])
        else
         if (!(decide (a0.const.kind = 0) && (decide (a0.const.n = 0) && true))) = false then
          if (!eqB a0.node { data := #[] : ByteArray }) = true then
           if (!eqB a0.point { data := #[] : ByteArray }) = true then
            some ((.bool false), [])
           else
            if a0.node.size + a0.point.size < 4611686018427387904 then
             if cNr (catB a0.node a0.point) = true then
              some ((.bool (vNr (catB a0.node a0.point))), [])
             else
              none
            else
             none
          else
           if a0.node.size + a0.point.size < 4611686018427387904 then
            if cNr (catB a0.node a0.point) = true then
             some ((.bool (vNr (catB a0.node a0.point))), [])
            else
             none
           else
            none
         else
          some ((.bool false), [])
      else
       if eqB a0.node { data := #[] : ByteArray } = true then
        if eqB a0.point { data := #[] : ByteArray } = true then
         if cCnR a0.const = true then
          some ((.bool (vCnR a0.const)), [])
         else
          none
        else
         if (!(decide (a0.const.kind = 0) && (decide (a0.const.n = 0) && true))) = false then
          if (!eqB a0.node { data := #[] : ByteArray }) = true then
           if (!eqB a0.point { data := #[] : ByteArray }) = true then
            some ((.bool false), [])
           else
            if a0.node.size + a0.point.size < 4611686018427387904 then
             if cNr (catB a0.node a0.point) = true then
              some ((.bool (vNr (catB a0.node a0.point))), [])
             else
              none
            else
             none
          else
           if a0.node.size + a0.point.size < 4611686018427387904 then
            if cNr (catB a0.node a0.point) = true then
             some ((.bool (vNr (catB a0.node a0.point))), [])
            else
             none
           else
            none
         else
          some ((.bool false), [])
       else
        if (!(decide (a0.const.kind = 0) && (decide (a0.const.n = 0) && true))) = false then
         if (!eqB a0.node { data := #[] : ByteArray }) = true then
          if (!eqB a0.point { data := #[] : ByteArray }) = true then
           some ((.bool false), [])
          else
           if a0.node.size + a0.point.size < 4611686018427387904 then
            if cNr (catB a0.node a0.point) = true then
             some ((.bool (vNr (catB a0.node a0.point))), [])
            else
             none
           else
            none
         else
          if a0.node.size + a0.point.size < 4611686018427387904 then
           if cNr (catB a0.node a0.point) = true then
            some ((.bool (vNr (catB a0.node a0.point))), [])
           else
            none
          else
           none
        else
         some ((.bool false), [])
     else
      some ((.bool false), [])
    else
     none
   else
    if (!a0.delayed) = true then
     if (!(decide (a0.initial.kind = 0) && (decide (a0.initial.n = 0) && true))) = true then
      some ((.bool false), [])
     else
      if eqB a0.node { data := #[] : ByteArray } = true then
       if eqB a0.point { data := #[] : ByteArray } = true then
        if cCnR a0.const = true then
         some ((.bool (vCnR a0.const)), [])
        else
         none
       else
        if (!(decide (a0.const.kind = 0) && (decide (a0.const.n = 0) && true))) = false then
         if (!eqB a0.node { data := #[] : ByteArray }) = true then
          if (!eqB a0.point { data := #[] : ByteArray }) = true then
           some ((.bool false), [])
          else
           if a0.node.size + a0.point.size < 4611686018427387904 then
            if cNr (catB a0.node a0.point) = true then
             some ((.bool (vNr (catB a0.node a0.point))), [])
            else
             none
           else
            none
         else
          if a0.node.size + a0.point.size < 4611686018427387904 then
           if cNr (catB a0.node a0.point) = true then
            some ((.bool (vNr (catB a0.node a0.point))), [])
           else
            none
          else
           none
        else
         some ((.bool false), [])
      else
       if (!(decide (a0.const.kind = 0) && (decide (a0.const.n = 0) && true))) = false then
        if (!eqB a0.node { data := #[] : ByteArray }) = true then
         if (!eqB a0.point { data := #[] : ByteArray }) = true then
          some ((.bool false), [])
         else
          if a0.node.size + a0.point.size < 4611686018427387904 then
           if cNr (catB a0.node a0.point) = true then
            some ((.bool (vNr (catB a0.node a0.point))), [])
           else
            none
          else
           none
        else
         if a0.node.size + a0.point.size < 4611686018427387904 then
          if cNr (catB a0.node a0.point) = true then
           some ((.bool (vNr (catB a0.node a0.point))), [])
          else
           none
         else
          none
       else
        some ((.bool false), [])
    else
     if eqB a0.node { data := #[] : ByteArray } = true then
      if eqB a0.point { data := #[] : ByteArray } = true then
       if cCnR a0.const = true then
        some ((.bool (vCnR a0.const)), [])
       else
        none
      else
       if (!(decide (a0.const.kind = 0) && (decide (a0.const.n = 0) && true))) = false then
        if (!eqB a0.node { data := #[] : ByteArray }) = true then
         if (!eqB a0.point { data := #[] : ByteArray }) = true then
          some ((.bool false), [])
         else
          if a0.node.size + a0.point.size < 4611686018427387904 then
           if cNr (catB a0.node a0.point) = true then
            some ((.bool (vNr (catB a0.node a0.point))), [])
           else
            none
          else
           none
        else
         if a0.node.size + a0.point.size < 4611686018427387904 then
          if cNr (catB a0.node a0.point) = true then
           some ((.bool (vNr (catB a0.node a0.point))), [])
          else
           none
         else
          none
       else
        some ((.bool false), [])
     else
      if (!(decide (a0.const.kind = 0) && (decide (a0.const.n = 0) && true))) = false then
       if (!eqB a0.node { data := #[] : ByteArray }) = true then
        if (!eqB a0.point { data := #[] : ByteArray }) = true then
         some ((.bool false), [])
        else
         if a0.node.size + a0.point.size < 4611686018427387904 then
          if cNr (catB a0.node a0.point) = true then
           some ((.bool (vNr (catB a0.node a0.point))), [])
          else
           none
         else
          none
       else
        if a0.node.size + a0.point.size < 4611686018427387904 then
         if cNr (catB a0.node a0.point) = true then
          some ((.bool (vNr (catB a0.node a0.point))), [])
         else
          none
        else
         none
      else
       some ((.bool false), [])
  else
   some ((.bool false), [])
theorem run_RFmR (a0 : GLink) : runF CFmR 80 84 [.agg (enc55 a0)] = RFmR a0 := by kernel_rfl
def oFmR (a0 : GLink) : Option (Res At) := crR [none] (RFmR a0)
def vFmR (a0 : GLink) : Bool := valO rB false (oFmR a0)
def cFmR (a0 : GLink) : Bool := okO rB (oFmR a0)
def conFmR : CON := on1 (rA ex55 enc55 fun _ _ h => ex55_spec h) fun a0 => some (cFmR a0, (.bool (vFmR a0), []))
theorem okFmR : OK 84 conFmR := okc1 CFmR_ok (n := 80) (ts := [none]) (a := (rA ex55 enc55 fun _ _ h => ex55_spec h)) (r := rB) (d := false) (R := fun a0 => RFmR a0) (by kernel_rfl) fun a0 => run_RFmR a0
def libFmR : List (Nat × CON) := (84, conFmR) :: libCnR
theorem libFmR_ok : AllOK libFmR := .cons okFmR libCnR_ok
def CLv : Cfg := { cs := libFmR }
theorem CLv_ok : CfgOK CLv := { con := libFmR_ok }
def RLv (a0 : Int) : Option (Res At) :=
  if decide (a0 ≥ 3) = true then
   if decide (a0 ≤ 16) = true then
    if (!decide (a0 = 6)) = true then
     some ((.bool (!decide (a0 = 8))), [])
    else
     some ((.bool false), [])
   else
    some ((.bool false), [])
  else
   some ((.bool false), [])
theorem run_RLv (a0 : Int) : runF CLv 80 56 [.int .i64 a0] = RLv a0 := by kernel_rfl
def oLv (a0 : Int) : Option (Res At) := crR [none] (RLv a0)
def vLv (a0 : Int) : Bool := valO rB false (oLv a0)
def cLv (a0 : Int) : Bool := okO rB (oLv a0)
def conLv : CON := on1 (rI .i64) fun a0 => some (cLv a0, (.bool (vLv a0), []))
theorem okLv : OK 56 conLv := okc1 CLv_ok (n := 80) (ts := [none]) (a := (rI .i64)) (r := rB) (d := false) (R := fun a0 => RLv a0) (by kernel_rfl) fun a0 => run_RLv a0
def libLv : List (Nat × CON) := (56, conLv) :: libFmR
theorem libLv_ok : AllOK libLv := .cons okLv libFmR_ok
def CCm : Cfg := { cs := libLv }
theorem CCm_ok : CfgOK CCm := { con := libLv_ok }
def RCm (a0 : GPoint) : Option (Res At) :=
  if decide (a0.role = 2) = false then
   some ((.bool (decide (a0.role = 3))), [])
  else
   some ((.bool true), [])
theorem run_RCm (a0 : GPoint) : runF CCm 80 63 [.agg (enc66 a0)] = RCm a0 := by kernel_rfl
def oCm (a0 : GPoint) : Option (Res At) := crR [none] (RCm a0)
def vCm (a0 : GPoint) : Bool := valO rB false (oCm a0)
def cCm (a0 : GPoint) : Bool := okO rB (oCm a0)
def conCm : CON := on1 (rA ex66 enc66 fun _ _ h => ex66_spec h) fun a0 => some (cCm a0, (.bool (vCm a0), []))
theorem okCm : OK 63 conCm := okc1 CCm_ok (n := 80) (ts := [none]) (a := (rA ex66 enc66 fun _ _ h => ex66_spec h)) (r := rB) (d := false) (R := fun a0 => RCm a0) (by kernel_rfl) fun a0 => run_RCm a0
def libCm : List (Nat × CON) := (63, conCm) :: libLv
theorem libCm_ok : AllOK libCm := .cons okCm libLv_ok
structure KIn12 where
  x0 : List GNode
  x1 : ByteArray
  x4 : Int
  x7 : Int
  x8 : Int
structure EIn12 where
  x4 : Int
def SIn12 (k : KIn12) : St At := { env := [(0, .ro 58 k.x0), (1, .fn 129 [.rel [.str k.x1]]), (4, .int .i64 k.x4), (7, .int .i64 k.x7), (8, .int .i64 k.x8)], stk := [], hp := [], nx := 0 }
def XIn12 (k : EIn12) : St At := { env := [(4, .int .i64 k.x4)], stk := [], hp := [], nx := 0 }
def CIn12 : Cfg := { cs := libCm, ks := [((109, 2), [(0, none), (1, none), (4, none), (7, none), (8, none)])], xs := [((109, 2), [(4, none)])], lps := [] }
theorem CIn12_ok : CfgOK CIn12 := { con := libCm_ok }
def stIn12 {α : Type} (k : KIn12) (go : KIn12 → α) (ex ret : EIn12 → α) (no : α) : α :=
  if decide (k.x8 < k.x7) = true then
   if 0 ≤ k.x8 then
    if k.x8 < (↑k.x0.length : Int) then
     if eqB (gt { name := { data := #[] : ByteArray }, block := { data := #[] : ByteArray }, params := [], inputs := [] : GNode } k.x0 k.x8.toNat).name k.x1 = true then
      ret ⟨(k.x8)⟩
     else
      go ⟨(k.x0), (k.x1), (k.x4), (k.x7), (IntKind.i64.wrap (k.x8 + 1))⟩
    else
     no
   else
    no
  else
   ex ⟨(k.x4)⟩
def stepIn12 (k : KIn12) : Nx KIn12 EIn12 := stIn12 k .go .ex .ret .no
theorem BIn12 (k : KIn12) (m : Nat) (R : St At → Option (Res At)) (K : Xit → St At → Option (Res At)) : B CIn12 109 2 (m + 60) (SIn12 k) R K = stIn12 k (fun k => R (SIn12 k)) (fun x => K (.ex 0) (XIn12 x)) (fun x => K .ret (XIn12 x)) none := by kernel_rfl
def uIn12 (st : St At) : Option KIn12 := match st with
  | ⟨[(0, vx0), (1, .fn 129 [.rel [.str x1]]), (4, .int .i64 x4), (7, .int .i64 x7), (8, .int .i64 x8)], [], [], 0⟩ => (match roV 58 vx0 with | some x0 => some ⟨x0, x1, x4, x7, x8⟩ | _ => none)
  | _ => none
theorem uIn12_spec {st : St At} {k : KIn12} (h : uIn12 st = some k) : st = SIn12 k := by
  unfold uIn12 at h
  split at h
  · split at h
    · rename_i h0
      obtain rfl := Option.some.inj h
      rw [roV_spec h0]
      rfl
    · cases h
  · cases h
theorem oklIn12 {g : LP} (hg : ∀ st K q, g st K = some q → ∃ k n e, st = SIn12 k ∧ iter stepIn12 n k = some e ∧ e.k 0 XIn12 XIn12 K = some q) : OKL 109 2 g := okl_iter CIn12_ok (S := SIn12) (X := XIn12) (Y := XIn12) (step := stepIn12) (id := 0) (by kernel_rfl) (by kernel_rfl)
  (fun k m R K => by rw [BIn12]; unfold stepIn12 stIn12; simp only [Nx.k_ite]; rfl) (fun k => by kernel_rfl) hg
/-- the contract out of a closed form -/
theorem okfIn12 {g : LP} {fuel : KIn12 → Nat} {ok : KIn12 → Bool} {F : KIn12 → Fx EIn12} (hF : ∀ k, ok k = true → iter stepIn12 (fuel k) k = some (F k)) (hg : ∀ st K, g st K = (match uIn12 st with | some k => if ok k = true then (F k).k 0 XIn12 XIn12 K else none | none => none)) : OKL 109 2 g := oklIn12 fun st K q h => by
  rw [hg] at h
  split at h
  · rename_i k hu
    split at h
    · rename_i hok; exact ⟨k, _, _, uIn12_spec hu, hF k hok, h⟩
    · cases h
  · cases h
abbrev B_In12 := Unit
def fIn12 (k : KIn12) (b : B_In12) (p : GNode × Nat) : Option (B_In12 ⊕ EIn12) :=
  if eqB p.1.name k.x1 = true then
   some (.inr ⟨((p.2 : Int))⟩)
  else
   some (.inl ())
def xIn12 (k : KIn12) (b : B_In12) : EIn12 := ⟨(k.x4)⟩
def putIn12 (k : KIn12) (b : B_In12) (j : Nat) : KIn12 := ⟨k.x0, k.x1, k.x4, k.x7, (j : Int)⟩
def bIn12 (k : KIn12) : B_In12 := ()
def oIn12 (k : KIn12) : Option (B_In12 ⊕ EIn12) := scanO (fIn12 k) (bIn12 k) (k.x0.zipIdx)
def okIn12 (k : KIn12) : Bool := decide (k.x8 = 0) && (decide (k.x7 = (k.x0.length : Int)) && (Nat.ble k.x0.length 9223372036854775807 && isOO (oIn12 k)))
def FIn12 (k : KIn12) : Fx EIn12 := fxO (xIn12 k) (bIn12 k) (xIn12 k (bIn12 k)) (oIn12 k)
theorem sIn12 (k : KIn12) (hn : k.x7 = (k.x0.length : Int)) (hm : k.x0.length ≤ 9223372036854775807) (b : B_In12) (j : Nat) (h : j < k.x0.length) : stepIn12 (putIn12 k b j) = nxO (fun b' => putIn12 k b' (j + 1)) (fIn12 k b (k.x0[j], j)) := by
  unfold stepIn12 stIn12 fIn12 putIn12
  dsimp only
  simp only [hn, nxO_ite, cnt' h hm, gtj' _ _ _ h, if_pos (lt1' h), if_pos (lt0' (j := j)), if_pos (lt2' h)]
  rfl
theorem eIn12 (k : KIn12) (hn : k.x7 = (k.x0.length : Int)) (b : B_In12) : stepIn12 (putIn12 k b k.x0.length) = .ex (xIn12 k b) := by
  unfold stepIn12 stIn12 putIn12
  dsimp only
  rw [hn, if_neg lt3']
  rfl
theorem iIn12 (k : KIn12) (h : okIn12 k = true) : iter stepIn12 (k.x0.zipIdx).length k = some (FIn12 k) := by
  unfold okIn12 at h
  simp only [Bool.and_eq_true, decide_eq_true_eq] at h
  obtain ⟨h0, h1, h2, h3⟩ := h
  replace h2 := Nat.le_of_ble_eq_true h2
  have e : k = putIn12 k (bIn12 k) 0 := by cases k; dsimp only at h0; subst h0; rfl
  have := iter_scanO (step := stepIn12) (k.x0.zipIdx) (putIn12 k) (fIn12 k) (xIn12 k) (bIn12 k) (xIn12 k (bIn12 k)) (fun b j h => (by rw [show (k.x0.zipIdx)[j] = (k.x0[j]'(by simpa using h), j) by simp]; exact sIn12 k h1 h2 b j (by simpa using h))) (fun b => (by rw [show (k.x0.zipIdx).length = k.x0.length by simp]; exact eIn12 k h1 b)) (k.x0.zipIdx).length 0 (bIn12 k) (by simp) (by rw [List.drop_zero]; exact h3)
  rw [List.drop_zero, ← e] at this
  exact this
def gIn12 : LP := fun st K => match uIn12 st with | some k => if okIn12 k = true then (if isLO (oIn12 k) = true then K (.ex 0) (XIn12 (⟨(k.x4)⟩ : EIn12)) else K .ret (XIn12 (getRO (xIn12 k (bIn12 k)) (oIn12 k)))) else none | none => none
theorem okgIn12 : OKL 109 2 gIn12 := okfIn12 (fuel := fun k => (k.x0.zipIdx).length) (ok := okIn12) (F := FIn12) iIn12 fun st K => by
  unfold gIn12
  cases hu : uIn12 st with
  | none => rfl
  | some k =>
    dsimp only
    split
    · unfold FIn12 fxO
      cases isLO (oIn12 k) <;> rfl
    · rfl
def CIn1 : Cfg := { cs := libCm, ks := CIn12.ks, xs := CIn12.xs, lps := [((109, 2), gIn12)] }
theorem CIn1_ok : CfgOK CIn1 := { con := libCm_ok, lp := .cons okgIn12 .nil }
def RIn1 (a0 : List GNode) (a1 : ByteArray) : Option (Res At) :=
  if okIn12 { x0 := a0, x1 := a1, x4 := 0, x7 := (↑a0.length : Int), x8 := 0 : KIn12 } = true then
   if isLO (oIn12 { x0 := a0, x1 := a1, x4 := 0, x7 := (↑a0.length : Int), x8 := 0 : KIn12 }) = true then
    some ((.int .i64 (-1)), [])
   else
    some ((.int .i64 ((getRO (xIn12 { x0 := a0, x1 := a1, x4 := 0, x7 := (↑a0.length : Int), x8 := 0 : KIn12 } (bIn12 { x0 := a0, x1 := a1, x4 := 0, x7 := (↑a0.length : Int), x8 := 0 : KIn12 })) (oIn12 { x0 := a0, x1 := a1, x4 := 0, x7 := (↑a0.length : Int), x8 := 0 : KIn12 })).x4)), [])
  else
   none
theorem run_RIn1 (a0 : List GNode) (a1 : ByteArray) : runF CIn1 80 109 [.ro 58 a0, .fn 129 [.rel [.str a1]]] = RIn1 a0 a1 := by kernel_rfl
def oIn1 (a0 : List GNode) (a1 : ByteArray) : Option (Res At) := crR [none] (RIn1 a0 a1)
def vIn1 (a0 : List GNode) (a1 : ByteArray) : Int := valO (rI .i64) 0 (oIn1 a0 a1)
def cIn1 (a0 : List GNode) (a1 : ByteArray) : Bool := okO (rI .i64) (oIn1 a0 a1)
def conIn1 : CON := on2 (rR 58) (rF1 129 (rC rS)) fun a0 a1 => some (cIn1 a0 a1, (.int .i64 (vIn1 a0 a1), []))
theorem okIn1 : OK 109 conIn1 := okc2 CIn1_ok (n := 80) (ts := [none]) (a := (rR 58)) (b := (rF1 129 (rC rS))) (r := (rI .i64)) (d := 0) (R := fun a0 a1 => RIn1 a0 a1) (by kernel_rfl) fun a0 a1 => run_RIn1 a0 a1
def libIn1 : List (Nat × CON) := (109, conIn1) :: libCm
theorem libIn1_ok : AllOK libIn1 := .cons okIn1 libCm_ok
def CK1 : Cfg := { cs := libIn1 }
theorem CK1_ok : CfgOK CK1 := { con := libIn1_ok }
def RK1 (a0 : GNode) : Option (Res At) :=
  if cNm a0.name = true then
   some ((.bool (!vNm a0.name)), [])
  else
   none
theorem run_RK1 (a0 : GNode) : runF CK1 80 50 [.agg (enc58 a0)] = RK1 a0 := by kernel_rfl
def oK1 (a0 : GNode) : Option (Res At) := crR [none] (RK1 a0)
def vK1 (a0 : GNode) : Bool := valO rB false (oK1 a0)
def cK1 (a0 : GNode) : Bool := okO rB (oK1 a0)
def conK1 : CON := on1 (rA ex58 enc58 fun _ _ h => ex58_spec h) fun a0 => some (cK1 a0, (.bool (vK1 a0), []))
theorem okK1 : OK 50 conK1 := okc1 CK1_ok (n := 80) (ts := [none]) (a := (rA ex58 enc58 fun _ _ h => ex58_spec h)) (r := rB) (d := false) (R := fun a0 => RK1 a0) (by kernel_rfl) fun a0 => run_RK1 a0
def libK1 : List (Nat × CON) := (50, conK1) :: libIn1
theorem libK1_ok : AllOK libK1 := .cons okK1 libIn1_ok
def CK2 : Cfg := { cs := libK1 }
theorem CK2_ok : CfgOK CK2 := { con := libK1_ok }
def RK2 (a0 : GLink) : Option (Res At) :=
  if cFm a0 = true then
   some ((.bool (!vFm a0)), [])
  else
   none
theorem run_RK2 (a0 : GLink) : runF CK2 80 52 [.agg (enc55 a0)] = RK2 a0 := by kernel_rfl
def oK2 (a0 : GLink) : Option (Res At) := crR [none] (RK2 a0)
def vK2 (a0 : GLink) : Bool := valO rB false (oK2 a0)
def cK2 (a0 : GLink) : Bool := okO rB (oK2 a0)
def conK2 : CON := on1 (rA ex55 enc55 fun _ _ h => ex55_spec h) fun a0 => some (cK2 a0, (.bool (vK2 a0), []))
theorem okK2 : OK 52 conK2 := okc1 CK2_ok (n := 80) (ts := [none]) (a := (rA ex55 enc55 fun _ _ h => ex55_spec h)) (r := rB) (d := false) (R := fun a0 => RK2 a0) (by kernel_rfl) fun a0 => run_RK2 a0
def libK2 : List (Nat × CON) := (52, conK2) :: libK1
theorem libK2_ok : AllOK libK2 := .cons okK2 libK1_ok
def CK3 : Cfg := { cs := libK2 }
theorem CK3_ok : CfgOK CK3 := { con := libK2_ok }
def RK3 (a0 : GDrive) : Option (Res At) :=
  if cLv a0.level = true then
   some ((.bool (!vLv a0.level)), [])
  else
   none
theorem run_RK3 (a0 : GDrive) : runF CK3 80 55 [.agg (enc89 a0)] = RK3 a0 := by kernel_rfl
def oK3 (a0 : GDrive) : Option (Res At) := crR [none] (RK3 a0)
def vK3 (a0 : GDrive) : Bool := valO rB false (oK3 a0)
def cK3 (a0 : GDrive) : Bool := okO rB (oK3 a0)
def conK3 : CON := on1 (rA ex89 enc89 fun _ _ h => ex89_spec h) fun a0 => some (cK3 a0, (.bool (vK3 a0), []))
theorem okK3 : OK 55 conK3 := okc1 CK3_ok (n := 80) (ts := [none]) (a := (rA ex89 enc89 fun _ _ h => ex89_spec h)) (r := rB) (d := false) (R := fun a0 => RK3 a0) (by kernel_rfl) fun a0 => run_RK3 a0
def libK3 : List (Nat × CON) := (55, conK3) :: libK2
theorem libK3_ok : AllOK libK3 := .cons okK3 libK2_ok
structure KIn22 where
  x0 : List GNode
  x4 : Int
  x7 : Int
  x8 : Int
structure EIn22 where
  x4 : Int
def SIn22 (k : KIn22) : St At := { env := [(0, .ro 58 k.x0), (1, .fn 50 []), (4, .int .i64 k.x4), (7, .int .i64 k.x7), (8, .int .i64 k.x8)], stk := [], hp := [], nx := 0 }
def XIn22 (k : EIn22) : St At := { env := [(4, .int .i64 k.x4)], stk := [], hp := [], nx := 0 }
def CIn22 : Cfg := { cs := libK3, ks := [((109, 2), [(0, none), (1, none), (4, none), (7, none), (8, none)])], xs := [((109, 2), [(4, none)])], lps := [] }
theorem CIn22_ok : CfgOK CIn22 := { con := libK3_ok }
def stIn22 {α : Type} (k : KIn22) (go : KIn22 → α) (ex ret : EIn22 → α) (no : α) : α :=
  if decide (k.x8 < k.x7) = true then
   if 0 ≤ k.x8 then
    if k.x8 < (↑k.x0.length : Int) then
     if cK1 (gt { name := { data := #[] : ByteArray }, block := { data := #[] : ByteArray }, params := [], inputs := [] : GNode } k.x0 k.x8.toNat) = true then
      if vK1 (gt { name := { data := #[] : ByteArray }, block := { data := #[] : ByteArray }, params := [], inputs := [] : GNode } k.x0 k.x8.toNat) = true then
       ret ⟨(k.x8)⟩
      else
       go ⟨(k.x0), (k.x4), (k.x7), (IntKind.i64.wrap (k.x8 + 1))⟩
     else
      no
    else
     no
   else
    no
  else
   ex ⟨(k.x4)⟩
def stepIn22 (k : KIn22) : Nx KIn22 EIn22 := stIn22 k .go .ex .ret .no
theorem BIn22 (k : KIn22) (m : Nat) (R : St At → Option (Res At)) (K : Xit → St At → Option (Res At)) : B CIn22 109 2 (m + 60) (SIn22 k) R K = stIn22 k (fun k => R (SIn22 k)) (fun x => K (.ex 0) (XIn22 x)) (fun x => K .ret (XIn22 x)) none := by kernel_rfl
def uIn22 (st : St At) : Option KIn22 := match st with
  | ⟨[(0, vx0), (1, .fn 50 []), (4, .int .i64 x4), (7, .int .i64 x7), (8, .int .i64 x8)], [], [], 0⟩ => (match roV 58 vx0 with | some x0 => some ⟨x0, x4, x7, x8⟩ | _ => none)
  | _ => none
theorem uIn22_spec {st : St At} {k : KIn22} (h : uIn22 st = some k) : st = SIn22 k := by
  unfold uIn22 at h
  split at h
  · split at h
    · rename_i h0
      obtain rfl := Option.some.inj h
      rw [roV_spec h0]
      rfl
    · cases h
  · cases h
theorem oklIn22 {g : LP} (hg : ∀ st K q, g st K = some q → ∃ k n e, st = SIn22 k ∧ iter stepIn22 n k = some e ∧ e.k 0 XIn22 XIn22 K = some q) : OKL 109 2 g := okl_iter CIn22_ok (S := SIn22) (X := XIn22) (Y := XIn22) (step := stepIn22) (id := 0) (by kernel_rfl) (by kernel_rfl)
  (fun k m R K => by rw [BIn22]; unfold stepIn22 stIn22; simp only [Nx.k_ite]; rfl) (fun k => by kernel_rfl) hg
/-- the contract out of a closed form -/
theorem okfIn22 {g : LP} {fuel : KIn22 → Nat} {ok : KIn22 → Bool} {F : KIn22 → Fx EIn22} (hF : ∀ k, ok k = true → iter stepIn22 (fuel k) k = some (F k)) (hg : ∀ st K, g st K = (match uIn22 st with | some k => if ok k = true then (F k).k 0 XIn22 XIn22 K else none | none => none)) : OKL 109 2 g := oklIn22 fun st K q h => by
  rw [hg] at h
  split at h
  · rename_i k hu
    split at h
    · rename_i hok; exact ⟨k, _, _, uIn22_spec hu, hF k hok, h⟩
    · cases h
  · cases h
abbrev B_In22 := Unit
def fIn22 (k : KIn22) (b : B_In22) (p : GNode × Nat) : Option (B_In22 ⊕ EIn22) :=
  if cK1 p.1 = true then
   if vK1 p.1 = true then
    some (.inr ⟨((p.2 : Int))⟩)
   else
    some (.inl ())
  else
   none
def xIn22 (k : KIn22) (b : B_In22) : EIn22 := ⟨(k.x4)⟩
def putIn22 (k : KIn22) (b : B_In22) (j : Nat) : KIn22 := ⟨k.x0, k.x4, k.x7, (j : Int)⟩
def bIn22 (k : KIn22) : B_In22 := ()
def oIn22 (k : KIn22) : Option (B_In22 ⊕ EIn22) := scanO (fIn22 k) (bIn22 k) (k.x0.zipIdx)
def okIn22 (k : KIn22) : Bool := decide (k.x8 = 0) && (decide (k.x7 = (k.x0.length : Int)) && (Nat.ble k.x0.length 9223372036854775807 && isOO (oIn22 k)))
def FIn22 (k : KIn22) : Fx EIn22 := fxO (xIn22 k) (bIn22 k) (xIn22 k (bIn22 k)) (oIn22 k)
theorem sIn22 (k : KIn22) (hn : k.x7 = (k.x0.length : Int)) (hm : k.x0.length ≤ 9223372036854775807) (b : B_In22) (j : Nat) (h : j < k.x0.length) : stepIn22 (putIn22 k b j) = nxO (fun b' => putIn22 k b' (j + 1)) (fIn22 k b (k.x0[j], j)) := by
  unfold stepIn22 stIn22 fIn22 putIn22
  dsimp only
  simp only [hn, nxO_ite, cnt' h hm, gtj' _ _ _ h, if_pos (lt1' h), if_pos (lt0' (j := j)), if_pos (lt2' h)]
  rfl
theorem eIn22 (k : KIn22) (hn : k.x7 = (k.x0.length : Int)) (b : B_In22) : stepIn22 (putIn22 k b k.x0.length) = .ex (xIn22 k b) := by
  unfold stepIn22 stIn22 putIn22
  dsimp only
  rw [hn, if_neg lt3']
  rfl
theorem iIn22 (k : KIn22) (h : okIn22 k = true) : iter stepIn22 (k.x0.zipIdx).length k = some (FIn22 k) := by
  unfold okIn22 at h
  simp only [Bool.and_eq_true, decide_eq_true_eq] at h
  obtain ⟨h0, h1, h2, h3⟩ := h
  replace h2 := Nat.le_of_ble_eq_true h2
  have e : k = putIn22 k (bIn22 k) 0 := by cases k; dsimp only at h0; subst h0; rfl
  have := iter_scanO (step := stepIn22) (k.x0.zipIdx) (putIn22 k) (fIn22 k) (xIn22 k) (bIn22 k) (xIn22 k (bIn22 k)) (fun b j h => (by rw [show (k.x0.zipIdx)[j] = (k.x0[j]'(by simpa using h), j) by simp]; exact sIn22 k h1 h2 b j (by simpa using h))) (fun b => (by rw [show (k.x0.zipIdx).length = k.x0.length by simp]; exact eIn22 k h1 b)) (k.x0.zipIdx).length 0 (bIn22 k) (by simp) (by rw [List.drop_zero]; exact h3)
  rw [List.drop_zero, ← e] at this
  exact this
def gIn22 : LP := fun st K => match uIn22 st with | some k => if okIn22 k = true then (if isLO (oIn22 k) = true then K (.ex 0) (XIn22 (⟨(k.x4)⟩ : EIn22)) else K .ret (XIn22 (getRO (xIn22 k (bIn22 k)) (oIn22 k)))) else none | none => none
theorem okgIn22 : OKL 109 2 gIn22 := okfIn22 (fuel := fun k => (k.x0.zipIdx).length) (ok := okIn22) (F := FIn22) iIn22 fun st K => by
  unfold gIn22
  cases hu : uIn22 st with
  | none => rfl
  | some k =>
    dsimp only
    split
    · unfold FIn22 fxO
      cases isLO (oIn22 k) <;> rfl
    · rfl
def CIn2 : Cfg := { cs := libK3, ks := CIn22.ks, xs := CIn22.xs, lps := [((109, 2), gIn22)] }
theorem CIn2_ok : CfgOK CIn2 := { con := libK3_ok, lp := .cons okgIn22 .nil }
def RIn2 (a0 : List GNode) (a1 : Unit) : Option (Res At) :=
  if okIn22 { x0 := a0, x4 := 0, x7 := (↑a0.length : Int), x8 := 0 : KIn22 } = true then
   if isLO (oIn22 { x0 := a0, x4 := 0, x7 := (↑a0.length : Int), x8 := 0 : KIn22 }) = true then
    some ((.int .i64 (-1)), [])
   else
    some ((.int .i64 ((getRO (xIn22 { x0 := a0, x4 := 0, x7 := (↑a0.length : Int), x8 := 0 : KIn22 } (bIn22 { x0 := a0, x4 := 0, x7 := (↑a0.length : Int), x8 := 0 : KIn22 })) (oIn22 { x0 := a0, x4 := 0, x7 := (↑a0.length : Int), x8 := 0 : KIn22 })).x4)), [])
  else
   none
theorem run_RIn2 (a0 : List GNode) (a1 : Unit) : runF CIn2 80 109 [.ro 58 a0, .fn 50 []] = RIn2 a0 a1 := by kernel_rfl
def oIn2 (a0 : List GNode) (a1 : Unit) : Option (Res At) := crR [none] (RIn2 a0 a1)
def vIn2 (a0 : List GNode) (a1 : Unit) : Int := valO (rI .i64) 0 (oIn2 a0 a1)
def cIn2 (a0 : List GNode) (a1 : Unit) : Bool := okO (rI .i64) (oIn2 a0 a1)
def conIn2 : CON := on2 (rR 58) (rF0 50) fun a0 a1 => some (cIn2 a0 a1, (.int .i64 (vIn2 a0 a1), []))
theorem okIn2 : OK 109 conIn2 := okc2 CIn2_ok (n := 80) (ts := [none]) (a := (rR 58)) (b := (rF0 50)) (r := (rI .i64)) (d := 0) (R := fun a0 a1 => RIn2 a0 a1) (by kernel_rfl) fun a0 a1 => run_RIn2 a0 a1
def libIn2 : List (Nat × CON) := (109, orC conIn2 conIn1) :: libK3
theorem libIn2_ok : AllOK libIn2 := .cons (ok_or okIn2 okIn1) libK3_ok
structure KIl2 where
  x0 : List GLink
  x4 : Int
  x7 : Int
  x8 : Int
structure EIl2 where
  x4 : Int
def SIl2 (k : KIl2) : St At := { env := [(0, .ro 55 k.x0), (1, .fn 52 []), (4, .int .i64 k.x4), (7, .int .i64 k.x7), (8, .int .i64 k.x8)], stk := [], hp := [], nx := 0 }
def XIl2 (k : EIl2) : St At := { env := [(4, .int .i64 k.x4)], stk := [], hp := [], nx := 0 }
def CIl2 : Cfg := { cs := libIn2, ks := [((110, 2), [(0, none), (1, none), (4, none), (7, none), (8, none)])], xs := [((110, 2), [(4, none)])], lps := [] }
theorem CIl2_ok : CfgOK CIl2 := { con := libIn2_ok }
def stIl2 {α : Type} (k : KIl2) (go : KIl2 → α) (ex ret : EIl2 → α) (no : α) : α :=
  if decide (k.x8 < k.x7) = true then
   if 0 ≤ k.x8 then
    if k.x8 < (↑k.x0.length : Int) then
     if cK2 (gt { node := { data := #[] : ByteArray }, port := 0, point := { data := #[] : ByteArray }, const := { kind := 0, n := 0 : GValue }, delayed := false, initial := { kind := 0, n := 0 : GValue } : GLink } k.x0 k.x8.toNat) = true then
      if vK2 (gt { node := { data := #[] : ByteArray }, port := 0, point := { data := #[] : ByteArray }, const := { kind := 0, n := 0 : GValue }, delayed := false, initial := { kind := 0, n := 0 : GValue } : GLink } k.x0 k.x8.toNat) = true then
       ret ⟨(k.x8)⟩
      else
       go ⟨(k.x0), (k.x4), (k.x7), (IntKind.i64.wrap (k.x8 + 1))⟩
     else
      no
    else
     no
   else
    no
  else
   ex ⟨(k.x4)⟩
def stepIl2 (k : KIl2) : Nx KIl2 EIl2 := stIl2 k .go .ex .ret .no
theorem BIl2 (k : KIl2) (m : Nat) (R : St At → Option (Res At)) (K : Xit → St At → Option (Res At)) : B CIl2 110 2 (m + 60) (SIl2 k) R K = stIl2 k (fun k => R (SIl2 k)) (fun x => K (.ex 0) (XIl2 x)) (fun x => K .ret (XIl2 x)) none := by kernel_rfl
def uIl2 (st : St At) : Option KIl2 := match st with
  | ⟨[(0, vx0), (1, .fn 52 []), (4, .int .i64 x4), (7, .int .i64 x7), (8, .int .i64 x8)], [], [], 0⟩ => (match roV 55 vx0 with | some x0 => some ⟨x0, x4, x7, x8⟩ | _ => none)
  | _ => none
theorem uIl2_spec {st : St At} {k : KIl2} (h : uIl2 st = some k) : st = SIl2 k := by
  unfold uIl2 at h
  split at h
  · split at h
    · rename_i h0
      obtain rfl := Option.some.inj h
      rw [roV_spec h0]
      rfl
    · cases h
  · cases h
theorem oklIl2 {g : LP} (hg : ∀ st K q, g st K = some q → ∃ k n e, st = SIl2 k ∧ iter stepIl2 n k = some e ∧ e.k 0 XIl2 XIl2 K = some q) : OKL 110 2 g := okl_iter CIl2_ok (S := SIl2) (X := XIl2) (Y := XIl2) (step := stepIl2) (id := 0) (by kernel_rfl) (by kernel_rfl)
  (fun k m R K => by rw [BIl2]; unfold stepIl2 stIl2; simp only [Nx.k_ite]; rfl) (fun k => by kernel_rfl) hg
/-- the contract out of a closed form -/
theorem okfIl2 {g : LP} {fuel : KIl2 → Nat} {ok : KIl2 → Bool} {F : KIl2 → Fx EIl2} (hF : ∀ k, ok k = true → iter stepIl2 (fuel k) k = some (F k)) (hg : ∀ st K, g st K = (match uIl2 st with | some k => if ok k = true then (F k).k 0 XIl2 XIl2 K else none | none => none)) : OKL 110 2 g := oklIl2 fun st K q h => by
  rw [hg] at h
  split at h
  · rename_i k hu
    split at h
    · rename_i hok; exact ⟨k, _, _, uIl2_spec hu, hF k hok, h⟩
    · cases h
  · cases h
abbrev B_Il2 := Unit
def fIl2 (k : KIl2) (b : B_Il2) (p : GLink × Nat) : Option (B_Il2 ⊕ EIl2) :=
  if cK2 p.1 = true then
   if vK2 p.1 = true then
    some (.inr ⟨((p.2 : Int))⟩)
   else
    some (.inl ())
  else
   none
def xIl2 (k : KIl2) (b : B_Il2) : EIl2 := ⟨(k.x4)⟩
def putIl2 (k : KIl2) (b : B_Il2) (j : Nat) : KIl2 := ⟨k.x0, k.x4, k.x7, (j : Int)⟩
def bIl2 (k : KIl2) : B_Il2 := ()
def oIl2 (k : KIl2) : Option (B_Il2 ⊕ EIl2) := scanO (fIl2 k) (bIl2 k) (k.x0.zipIdx)
def okIl2 (k : KIl2) : Bool := decide (k.x8 = 0) && (decide (k.x7 = (k.x0.length : Int)) && (Nat.ble k.x0.length 9223372036854775807 && isOO (oIl2 k)))
def FIl2 (k : KIl2) : Fx EIl2 := fxO (xIl2 k) (bIl2 k) (xIl2 k (bIl2 k)) (oIl2 k)
theorem sIl2 (k : KIl2) (hn : k.x7 = (k.x0.length : Int)) (hm : k.x0.length ≤ 9223372036854775807) (b : B_Il2) (j : Nat) (h : j < k.x0.length) : stepIl2 (putIl2 k b j) = nxO (fun b' => putIl2 k b' (j + 1)) (fIl2 k b (k.x0[j], j)) := by
  unfold stepIl2 stIl2 fIl2 putIl2
  dsimp only
  simp only [hn, nxO_ite, cnt' h hm, gtj' _ _ _ h, if_pos (lt1' h), if_pos (lt0' (j := j)), if_pos (lt2' h)]
  rfl
theorem eIl2 (k : KIl2) (hn : k.x7 = (k.x0.length : Int)) (b : B_Il2) : stepIl2 (putIl2 k b k.x0.length) = .ex (xIl2 k b) := by
  unfold stepIl2 stIl2 putIl2
  dsimp only
  rw [hn, if_neg lt3']
  rfl
theorem iIl2 (k : KIl2) (h : okIl2 k = true) : iter stepIl2 (k.x0.zipIdx).length k = some (FIl2 k) := by
  unfold okIl2 at h
  simp only [Bool.and_eq_true, decide_eq_true_eq] at h
  obtain ⟨h0, h1, h2, h3⟩ := h
  replace h2 := Nat.le_of_ble_eq_true h2
  have e : k = putIl2 k (bIl2 k) 0 := by cases k; dsimp only at h0; subst h0; rfl
  have := iter_scanO (step := stepIl2) (k.x0.zipIdx) (putIl2 k) (fIl2 k) (xIl2 k) (bIl2 k) (xIl2 k (bIl2 k)) (fun b j h => (by rw [show (k.x0.zipIdx)[j] = (k.x0[j]'(by simpa using h), j) by simp]; exact sIl2 k h1 h2 b j (by simpa using h))) (fun b => (by rw [show (k.x0.zipIdx).length = k.x0.length by simp]; exact eIl2 k h1 b)) (k.x0.zipIdx).length 0 (bIl2 k) (by simp) (by rw [List.drop_zero]; exact h3)
  rw [List.drop_zero, ← e] at this
  exact this
def gIl2 : LP := fun st K => match uIl2 st with | some k => if okIl2 k = true then (if isLO (oIl2 k) = true then K (.ex 0) (XIl2 (⟨(k.x4)⟩ : EIl2)) else K .ret (XIl2 (getRO (xIl2 k (bIl2 k)) (oIl2 k)))) else none | none => none
theorem okgIl2 : OKL 110 2 gIl2 := okfIl2 (fuel := fun k => (k.x0.zipIdx).length) (ok := okIl2) (F := FIl2) iIl2 fun st K => by
  unfold gIl2
  cases hu : uIl2 st with
  | none => rfl
  | some k =>
    dsimp only
    split
    · unfold FIl2 fxO
      cases isLO (oIl2 k) <;> rfl
    · rfl
def CIl : Cfg := { cs := libIn2, ks := CIl2.ks, xs := CIl2.xs, lps := [((110, 2), gIl2)] }
theorem CIl_ok : CfgOK CIl := { con := libIn2_ok, lp := .cons okgIl2 .nil }
def RIl (a0 : List GLink) (a1 : Unit) : Option (Res At) :=
  if okIl2 { x0 := a0, x4 := 0, x7 := (↑a0.length : Int), x8 := 0 : KIl2 } = true then
   if isLO (oIl2 { x0 := a0, x4 := 0, x7 := (↑a0.length : Int), x8 := 0 : KIl2 }) = true then
    some ((.int .i64 (-1)), [])
   else
    some ((.int .i64 ((getRO (xIl2 { x0 := a0, x4 := 0, x7 := (↑a0.length : Int), x8 := 0 : KIl2 } (bIl2 { x0 := a0, x4 := 0, x7 := (↑a0.length : Int), x8 := 0 : KIl2 })) (oIl2 { x0 := a0, x4 := 0, x7 := (↑a0.length : Int), x8 := 0 : KIl2 })).x4)), [])
  else
   none
theorem run_RIl (a0 : List GLink) (a1 : Unit) : runF CIl 80 110 [.ro 55 a0, .fn 52 []] = RIl a0 a1 := by kernel_rfl
def oIl (a0 : List GLink) (a1 : Unit) : Option (Res At) := crR [none] (RIl a0 a1)
def vIl (a0 : List GLink) (a1 : Unit) : Int := valO (rI .i64) 0 (oIl a0 a1)
def cIl (a0 : List GLink) (a1 : Unit) : Bool := okO (rI .i64) (oIl a0 a1)
def conIl : CON := on2 (rR 55) (rF0 52) fun a0 a1 => some (cIl a0 a1, (.int .i64 (vIl a0 a1), []))
theorem okIl : OK 110 conIl := okc2 CIl_ok (n := 80) (ts := [none]) (a := (rR 55)) (b := (rF0 52)) (r := (rI .i64)) (d := 0) (R := fun a0 a1 => RIl a0 a1) (by kernel_rfl) fun a0 a1 => run_RIl a0 a1
def libIl : List (Nat × CON) := (110, conIl) :: libIn2
theorem libIl_ok : AllOK libIl := .cons okIl libIn2_ok
structure KId12 where
  x0 : List GDrive
  x4 : Int
  x7 : Int
  x8 : Int
structure EId12 where
  x4 : Int
def SId12 (k : KId12) : St At := { env := [(0, .ro 89 k.x0), (1, .fn 55 []), (4, .int .i64 k.x4), (7, .int .i64 k.x7), (8, .int .i64 k.x8)], stk := [], hp := [], nx := 0 }
def XId12 (k : EId12) : St At := { env := [(4, .int .i64 k.x4)], stk := [], hp := [], nx := 0 }
def CId12 : Cfg := { cs := libIl, ks := [((112, 2), [(0, none), (1, none), (4, none), (7, none), (8, none)])], xs := [((112, 2), [(4, none)])], lps := [] }
theorem CId12_ok : CfgOK CId12 := { con := libIl_ok }
def stId12 {α : Type} (k : KId12) (go : KId12 → α) (ex ret : EId12 → α) (no : α) : α :=
  if decide (k.x8 < k.x7) = true then
   if 0 ≤ k.x8 then
    if k.x8 < (↑k.x0.length : Int) then
     if cK3 (gt { point := { data := #[] : ByteArray }, level := 0, from_ := { node := { data := #[] : ByteArray }, port := 0, point := { data := #[] : ByteArray }, const := { kind := 0, n := 0 : GValue }, delayed := false, initial := { kind := 0, n := 0 : GValue } : GLink } : GDrive } k.x0 k.x8.toNat) = true then
      if vK3 (gt { point := { data := #[] : ByteArray }, level := 0, from_ := { node := { data := #[] : ByteArray }, port := 0, point := { data := #[] : ByteArray }, const := { kind := 0, n := 0 : GValue }, delayed := false, initial := { kind := 0, n := 0 : GValue } : GLink } : GDrive } k.x0 k.x8.toNat) = true then
       ret ⟨(k.x8)⟩
      else
       go ⟨(k.x0), (k.x4), (k.x7), (IntKind.i64.wrap (k.x8 + 1))⟩
     else
      no
    else
     no
   else
    no
  else
   ex ⟨(k.x4)⟩
def stepId12 (k : KId12) : Nx KId12 EId12 := stId12 k .go .ex .ret .no
theorem BId12 (k : KId12) (m : Nat) (R : St At → Option (Res At)) (K : Xit → St At → Option (Res At)) : B CId12 112 2 (m + 60) (SId12 k) R K = stId12 k (fun k => R (SId12 k)) (fun x => K (.ex 0) (XId12 x)) (fun x => K .ret (XId12 x)) none := by kernel_rfl
def uId12 (st : St At) : Option KId12 := match st with
  | ⟨[(0, vx0), (1, .fn 55 []), (4, .int .i64 x4), (7, .int .i64 x7), (8, .int .i64 x8)], [], [], 0⟩ => (match roV 89 vx0 with | some x0 => some ⟨x0, x4, x7, x8⟩ | _ => none)
  | _ => none
theorem uId12_spec {st : St At} {k : KId12} (h : uId12 st = some k) : st = SId12 k := by
  unfold uId12 at h
  split at h
  · split at h
    · rename_i h0
      obtain rfl := Option.some.inj h
      rw [roV_spec h0]
      rfl
    · cases h
  · cases h
theorem oklId12 {g : LP} (hg : ∀ st K q, g st K = some q → ∃ k n e, st = SId12 k ∧ iter stepId12 n k = some e ∧ e.k 0 XId12 XId12 K = some q) : OKL 112 2 g := okl_iter CId12_ok (S := SId12) (X := XId12) (Y := XId12) (step := stepId12) (id := 0) (by kernel_rfl) (by kernel_rfl)
  (fun k m R K => by rw [BId12]; unfold stepId12 stId12; simp only [Nx.k_ite]; rfl) (fun k => by kernel_rfl) hg
/-- the contract out of a closed form -/
theorem okfId12 {g : LP} {fuel : KId12 → Nat} {ok : KId12 → Bool} {F : KId12 → Fx EId12} (hF : ∀ k, ok k = true → iter stepId12 (fuel k) k = some (F k)) (hg : ∀ st K, g st K = (match uId12 st with | some k => if ok k = true then (F k).k 0 XId12 XId12 K else none | none => none)) : OKL 112 2 g := oklId12 fun st K q h => by
  rw [hg] at h
  split at h
  · rename_i k hu
    split at h
    · rename_i hok; exact ⟨k, _, _, uId12_spec hu, hF k hok, h⟩
    · cases h
  · cases h
abbrev B_Id12 := Unit
def fId12 (k : KId12) (b : B_Id12) (p : GDrive × Nat) : Option (B_Id12 ⊕ EId12) :=
  if cK3 p.1 = true then
   if vK3 p.1 = true then
    some (.inr ⟨((p.2 : Int))⟩)
   else
    some (.inl ())
  else
   none
def xId12 (k : KId12) (b : B_Id12) : EId12 := ⟨(k.x4)⟩
def putId12 (k : KId12) (b : B_Id12) (j : Nat) : KId12 := ⟨k.x0, k.x4, k.x7, (j : Int)⟩
def bId12 (k : KId12) : B_Id12 := ()
def oId12 (k : KId12) : Option (B_Id12 ⊕ EId12) := scanO (fId12 k) (bId12 k) (k.x0.zipIdx)
def okId12 (k : KId12) : Bool := decide (k.x8 = 0) && (decide (k.x7 = (k.x0.length : Int)) && (Nat.ble k.x0.length 9223372036854775807 && isOO (oId12 k)))
def FId12 (k : KId12) : Fx EId12 := fxO (xId12 k) (bId12 k) (xId12 k (bId12 k)) (oId12 k)
theorem sId12 (k : KId12) (hn : k.x7 = (k.x0.length : Int)) (hm : k.x0.length ≤ 9223372036854775807) (b : B_Id12) (j : Nat) (h : j < k.x0.length) : stepId12 (putId12 k b j) = nxO (fun b' => putId12 k b' (j + 1)) (fId12 k b (k.x0[j], j)) := by
  unfold stepId12 stId12 fId12 putId12
  dsimp only
  simp only [hn, nxO_ite, cnt' h hm, gtj' _ _ _ h, if_pos (lt1' h), if_pos (lt0' (j := j)), if_pos (lt2' h)]
  rfl
theorem eId12 (k : KId12) (hn : k.x7 = (k.x0.length : Int)) (b : B_Id12) : stepId12 (putId12 k b k.x0.length) = .ex (xId12 k b) := by
  unfold stepId12 stId12 putId12
  dsimp only
  rw [hn, if_neg lt3']
  rfl
theorem iId12 (k : KId12) (h : okId12 k = true) : iter stepId12 (k.x0.zipIdx).length k = some (FId12 k) := by
  unfold okId12 at h
  simp only [Bool.and_eq_true, decide_eq_true_eq] at h
  obtain ⟨h0, h1, h2, h3⟩ := h
  replace h2 := Nat.le_of_ble_eq_true h2
  have e : k = putId12 k (bId12 k) 0 := by cases k; dsimp only at h0; subst h0; rfl
  have := iter_scanO (step := stepId12) (k.x0.zipIdx) (putId12 k) (fId12 k) (xId12 k) (bId12 k) (xId12 k (bId12 k)) (fun b j h => (by rw [show (k.x0.zipIdx)[j] = (k.x0[j]'(by simpa using h), j) by simp]; exact sId12 k h1 h2 b j (by simpa using h))) (fun b => (by rw [show (k.x0.zipIdx).length = k.x0.length by simp]; exact eId12 k h1 b)) (k.x0.zipIdx).length 0 (bId12 k) (by simp) (by rw [List.drop_zero]; exact h3)
  rw [List.drop_zero, ← e] at this
  exact this
def gId12 : LP := fun st K => match uId12 st with | some k => if okId12 k = true then (if isLO (oId12 k) = true then K (.ex 0) (XId12 (⟨(k.x4)⟩ : EId12)) else K .ret (XId12 (getRO (xId12 k (bId12 k)) (oId12 k)))) else none | none => none
theorem okgId12 : OKL 112 2 gId12 := okfId12 (fuel := fun k => (k.x0.zipIdx).length) (ok := okId12) (F := FId12) iId12 fun st K => by
  unfold gId12
  cases hu : uId12 st with
  | none => rfl
  | some k =>
    dsimp only
    split
    · unfold FId12 fxO
      cases isLO (oId12 k) <;> rfl
    · rfl
def CId1 : Cfg := { cs := libIl, ks := CId12.ks, xs := CId12.xs, lps := [((112, 2), gId12)] }
theorem CId1_ok : CfgOK CId1 := { con := libIl_ok, lp := .cons okgId12 .nil }
def RId1 (a0 : List GDrive) (a1 : Unit) : Option (Res At) :=
  if okId12 { x0 := a0, x4 := 0, x7 := (↑a0.length : Int), x8 := 0 : KId12 } = true then
   if isLO (oId12 { x0 := a0, x4 := 0, x7 := (↑a0.length : Int), x8 := 0 : KId12 }) = true then
    some ((.int .i64 (-1)), [])
   else
    some ((.int .i64 ((getRO (xId12 { x0 := a0, x4 := 0, x7 := (↑a0.length : Int), x8 := 0 : KId12 } (bId12 { x0 := a0, x4 := 0, x7 := (↑a0.length : Int), x8 := 0 : KId12 })) (oId12 { x0 := a0, x4 := 0, x7 := (↑a0.length : Int), x8 := 0 : KId12 })).x4)), [])
  else
   none
theorem run_RId1 (a0 : List GDrive) (a1 : Unit) : runF CId1 80 112 [.ro 89 a0, .fn 55 []] = RId1 a0 a1 := by kernel_rfl
def oId1 (a0 : List GDrive) (a1 : Unit) : Option (Res At) := crR [none] (RId1 a0 a1)
def vId1 (a0 : List GDrive) (a1 : Unit) : Int := valO (rI .i64) 0 (oId1 a0 a1)
def cId1 (a0 : List GDrive) (a1 : Unit) : Bool := okO (rI .i64) (oId1 a0 a1)
def conId1 : CON := on2 (rR 89) (rF0 55) fun a0 a1 => some (cId1 a0 a1, (.int .i64 (vId1 a0 a1), []))
theorem okId1 : OK 112 conId1 := okc2 CId1_ok (n := 80) (ts := [none]) (a := (rR 89)) (b := (rF0 55)) (r := (rI .i64)) (d := 0) (R := fun a0 a1 => RId1 a0 a1) (by kernel_rfl) fun a0 a1 => run_RId1 a0 a1
def libId1 : List (Nat × CON) := (112, conId1) :: libIl
theorem libId1_ok : AllOK libId1 := .cons okId1 libIl_ok
structure KIp12 where
  x0 : List GPoint
  x1 : ByteArray
  x4 : Int
  x7 : Int
  x8 : Int
structure EIp12 where
  x4 : Int
def SIp12 (k : KIp12) : St At := { env := [(0, .ro 66 k.x0), (1, .fn 115 [.rel [.str k.x1]]), (4, .int .i64 k.x4), (7, .int .i64 k.x7), (8, .int .i64 k.x8)], stk := [], hp := [], nx := 0 }
def XIp12 (k : EIp12) : St At := { env := [(4, .int .i64 k.x4)], stk := [], hp := [], nx := 0 }
def CIp12 : Cfg := { cs := libId1, ks := [((61, 2), [(0, none), (1, none), (4, none), (7, none), (8, none)])], xs := [((61, 2), [(4, none)])], lps := [] }
theorem CIp12_ok : CfgOK CIp12 := { con := libId1_ok }
def stIp12 {α : Type} (k : KIp12) (go : KIp12 → α) (ex ret : EIp12 → α) (no : α) : α :=
  if decide (k.x8 < k.x7) = true then
   if 0 ≤ k.x8 then
    if k.x8 < (↑k.x0.length : Int) then
     if eqB (gt { name := { data := #[] : ByteArray }, kind := 0, role := 0, unit_ := { data := #[] : ByteArray }, low := 0, high := 0, step := 0, states := [], default_ := { kind := 0, n := 0 : GValue }, minOn := 0, minOff := 0 : GPoint } k.x0 k.x8.toNat).name k.x1 = true then
      ret ⟨(k.x8)⟩
     else
      go ⟨(k.x0), (k.x1), (k.x4), (k.x7), (IntKind.i64.wrap (k.x8 + 1))⟩
    else
     no
   else
    no
  else
   ex ⟨(k.x4)⟩
def stepIp12 (k : KIp12) : Nx KIp12 EIp12 := stIp12 k .go .ex .ret .no
theorem BIp12 (k : KIp12) (m : Nat) (R : St At → Option (Res At)) (K : Xit → St At → Option (Res At)) : B CIp12 61 2 (m + 60) (SIp12 k) R K = stIp12 k (fun k => R (SIp12 k)) (fun x => K (.ex 0) (XIp12 x)) (fun x => K .ret (XIp12 x)) none := by kernel_rfl
def uIp12 (st : St At) : Option KIp12 := match st with
  | ⟨[(0, vx0), (1, .fn 115 [.rel [.str x1]]), (4, .int .i64 x4), (7, .int .i64 x7), (8, .int .i64 x8)], [], [], 0⟩ => (match roV 66 vx0 with | some x0 => some ⟨x0, x1, x4, x7, x8⟩ | _ => none)
  | _ => none
theorem uIp12_spec {st : St At} {k : KIp12} (h : uIp12 st = some k) : st = SIp12 k := by
  unfold uIp12 at h
  split at h
  · split at h
    · rename_i h0
      obtain rfl := Option.some.inj h
      rw [roV_spec h0]
      rfl
    · cases h
  · cases h
theorem oklIp12 {g : LP} (hg : ∀ st K q, g st K = some q → ∃ k n e, st = SIp12 k ∧ iter stepIp12 n k = some e ∧ e.k 0 XIp12 XIp12 K = some q) : OKL 61 2 g := okl_iter CIp12_ok (S := SIp12) (X := XIp12) (Y := XIp12) (step := stepIp12) (id := 0) (by kernel_rfl) (by kernel_rfl)
  (fun k m R K => by rw [BIp12]; unfold stepIp12 stIp12; simp only [Nx.k_ite]; rfl) (fun k => by kernel_rfl) hg
/-- the contract out of a closed form -/
theorem okfIp12 {g : LP} {fuel : KIp12 → Nat} {ok : KIp12 → Bool} {F : KIp12 → Fx EIp12} (hF : ∀ k, ok k = true → iter stepIp12 (fuel k) k = some (F k)) (hg : ∀ st K, g st K = (match uIp12 st with | some k => if ok k = true then (F k).k 0 XIp12 XIp12 K else none | none => none)) : OKL 61 2 g := oklIp12 fun st K q h => by
  rw [hg] at h
  split at h
  · rename_i k hu
    split at h
    · rename_i hok; exact ⟨k, _, _, uIp12_spec hu, hF k hok, h⟩
    · cases h
  · cases h
abbrev B_Ip12 := Unit
def fIp12 (k : KIp12) (b : B_Ip12) (p : GPoint × Nat) : Option (B_Ip12 ⊕ EIp12) :=
  if eqB p.1.name k.x1 = true then
   some (.inr ⟨((p.2 : Int))⟩)
  else
   some (.inl ())
def xIp12 (k : KIp12) (b : B_Ip12) : EIp12 := ⟨(k.x4)⟩
def putIp12 (k : KIp12) (b : B_Ip12) (j : Nat) : KIp12 := ⟨k.x0, k.x1, k.x4, k.x7, (j : Int)⟩
def bIp12 (k : KIp12) : B_Ip12 := ()
def oIp12 (k : KIp12) : Option (B_Ip12 ⊕ EIp12) := scanO (fIp12 k) (bIp12 k) (k.x0.zipIdx)
def okIp12 (k : KIp12) : Bool := decide (k.x8 = 0) && (decide (k.x7 = (k.x0.length : Int)) && (Nat.ble k.x0.length 9223372036854775807 && isOO (oIp12 k)))
def FIp12 (k : KIp12) : Fx EIp12 := fxO (xIp12 k) (bIp12 k) (xIp12 k (bIp12 k)) (oIp12 k)
theorem sIp12 (k : KIp12) (hn : k.x7 = (k.x0.length : Int)) (hm : k.x0.length ≤ 9223372036854775807) (b : B_Ip12) (j : Nat) (h : j < k.x0.length) : stepIp12 (putIp12 k b j) = nxO (fun b' => putIp12 k b' (j + 1)) (fIp12 k b (k.x0[j], j)) := by
  unfold stepIp12 stIp12 fIp12 putIp12
  dsimp only
  simp only [hn, nxO_ite, cnt' h hm, gtj' _ _ _ h, if_pos (lt1' h), if_pos (lt0' (j := j)), if_pos (lt2' h)]
  rfl
theorem eIp12 (k : KIp12) (hn : k.x7 = (k.x0.length : Int)) (b : B_Ip12) : stepIp12 (putIp12 k b k.x0.length) = .ex (xIp12 k b) := by
  unfold stepIp12 stIp12 putIp12
  dsimp only
  rw [hn, if_neg lt3']
  rfl
theorem iIp12 (k : KIp12) (h : okIp12 k = true) : iter stepIp12 (k.x0.zipIdx).length k = some (FIp12 k) := by
  unfold okIp12 at h
  simp only [Bool.and_eq_true, decide_eq_true_eq] at h
  obtain ⟨h0, h1, h2, h3⟩ := h
  replace h2 := Nat.le_of_ble_eq_true h2
  have e : k = putIp12 k (bIp12 k) 0 := by cases k; dsimp only at h0; subst h0; rfl
  have := iter_scanO (step := stepIp12) (k.x0.zipIdx) (putIp12 k) (fIp12 k) (xIp12 k) (bIp12 k) (xIp12 k (bIp12 k)) (fun b j h => (by rw [show (k.x0.zipIdx)[j] = (k.x0[j]'(by simpa using h), j) by simp]; exact sIp12 k h1 h2 b j (by simpa using h))) (fun b => (by rw [show (k.x0.zipIdx).length = k.x0.length by simp]; exact eIp12 k h1 b)) (k.x0.zipIdx).length 0 (bIp12 k) (by simp) (by rw [List.drop_zero]; exact h3)
  rw [List.drop_zero, ← e] at this
  exact this
def gIp12 : LP := fun st K => match uIp12 st with | some k => if okIp12 k = true then (if isLO (oIp12 k) = true then K (.ex 0) (XIp12 (⟨(k.x4)⟩ : EIp12)) else K .ret (XIp12 (getRO (xIp12 k (bIp12 k)) (oIp12 k)))) else none | none => none
theorem okgIp12 : OKL 61 2 gIp12 := okfIp12 (fuel := fun k => (k.x0.zipIdx).length) (ok := okIp12) (F := FIp12) iIp12 fun st K => by
  unfold gIp12
  cases hu : uIp12 st with
  | none => rfl
  | some k =>
    dsimp only
    split
    · unfold FIp12 fxO
      cases isLO (oIp12 k) <;> rfl
    · rfl
def CIp1 : Cfg := { cs := libId1, ks := CIp12.ks, xs := CIp12.xs, lps := [((61, 2), gIp12)] }
theorem CIp1_ok : CfgOK CIp1 := { con := libId1_ok, lp := .cons okgIp12 .nil }
def RIp1 (a0 : List GPoint) (a1 : ByteArray) : Option (Res At) :=
  if okIp12 { x0 := a0, x1 := a1, x4 := 0, x7 := (↑a0.length : Int), x8 := 0 : KIp12 } = true then
   if isLO (oIp12 { x0 := a0, x1 := a1, x4 := 0, x7 := (↑a0.length : Int), x8 := 0 : KIp12 }) = true then
    some ((.int .i64 (-1)), [])
   else
    some ((.int .i64 ((getRO (xIp12 { x0 := a0, x1 := a1, x4 := 0, x7 := (↑a0.length : Int), x8 := 0 : KIp12 } (bIp12 { x0 := a0, x1 := a1, x4 := 0, x7 := (↑a0.length : Int), x8 := 0 : KIp12 })) (oIp12 { x0 := a0, x1 := a1, x4 := 0, x7 := (↑a0.length : Int), x8 := 0 : KIp12 })).x4)), [])
  else
   none
theorem run_RIp1 (a0 : List GPoint) (a1 : ByteArray) : runF CIp1 80 61 [.ro 66 a0, .fn 115 [.rel [.str a1]]] = RIp1 a0 a1 := by kernel_rfl
def oIp1 (a0 : List GPoint) (a1 : ByteArray) : Option (Res At) := crR [none] (RIp1 a0 a1)
def vIp1 (a0 : List GPoint) (a1 : ByteArray) : Int := valO (rI .i64) 0 (oIp1 a0 a1)
def cIp1 (a0 : List GPoint) (a1 : ByteArray) : Bool := okO (rI .i64) (oIp1 a0 a1)
def conIp1 : CON := on2 (rR 66) (rF1 115 (rC rS)) fun a0 a1 => some (cIp1 a0 a1, (.int .i64 (vIp1 a0 a1), []))
theorem okIp1 : OK 61 conIp1 := okc2 CIp1_ok (n := 80) (ts := [none]) (a := (rR 66)) (b := (rF1 115 (rC rS))) (r := (rI .i64)) (d := 0) (R := fun a0 a1 => RIp1 a0 a1) (by kernel_rfl) fun a0 a1 => run_RIp1 a0 a1
def libIp1 : List (Nat × CON) := (61, conIp1) :: libId1
theorem libIp1_ok : AllOK libIp1 := .cons okIp1 libId1_ok
structure KIp22 where
  x0 : List GPoint
  x1 : GDrive
  x4 : Int
  x7 : Int
  x8 : Int
structure EIp22 where
  x4 : Int
def SIp22 (k : KIp22) : St At := { env := [(0, .ro 66 k.x0), (1, .fn 62 [.rel (enc89 k.x1)]), (4, .int .i64 k.x4), (7, .int .i64 k.x7), (8, .int .i64 k.x8)], stk := [], hp := [], nx := 0 }
def XIp22 (k : EIp22) : St At := { env := [(4, .int .i64 k.x4)], stk := [], hp := [], nx := 0 }
def CIp22 : Cfg := { cs := libIp1, ks := [((61, 2), [(0, none), (1, none), (4, none), (7, none), (8, none)])], xs := [((61, 2), [(4, none)])], lps := [] }
theorem CIp22_ok : CfgOK CIp22 := { con := libIp1_ok }
def stIp22 {α : Type} (k : KIp22) (go : KIp22 → α) (ex ret : EIp22 → α) (no : α) : α :=
  if decide (k.x8 < k.x7) = true then
   if 0 ≤ k.x8 then
    if k.x8 < (↑k.x0.length : Int) then
     if eqB (gt { name := { data := #[] : ByteArray }, kind := 0, role := 0, unit_ := { data := #[] : ByteArray }, low := 0, high := 0, step := 0, states := [], default_ := { kind := 0, n := 0 : GValue }, minOn := 0, minOff := 0 : GPoint } k.x0 k.x8.toNat).name k.x1.point = true then
      ret ⟨(k.x8)⟩
     else
      go ⟨(k.x0), (k.x1), (k.x4), (k.x7), (IntKind.i64.wrap (k.x8 + 1))⟩
    else
     no
   else
    no
  else
   ex ⟨(k.x4)⟩
def stepIp22 (k : KIp22) : Nx KIp22 EIp22 := stIp22 k .go .ex .ret .no
theorem BIp22 (k : KIp22) (m : Nat) (R : St At → Option (Res At)) (K : Xit → St At → Option (Res At)) : B CIp22 61 2 (m + 60) (SIp22 k) R K = stIp22 k (fun k => R (SIp22 k)) (fun x => K (.ex 0) (XIp22 x)) (fun x => K .ret (XIp22 x)) none := by kernel_rfl
def uIp22 (st : St At) : Option KIp22 := match st with
  | ⟨[(0, vx0), (1, .fn 62 [.rel wx1]), (4, .int .i64 x4), (7, .int .i64 x7), (8, .int .i64 x8)], [], [], 0⟩ => (match roV 66 vx0, ex89 wx1 with | some x0, some x1 => some ⟨x0, x1, x4, x7, x8⟩ | _, _ => none)
  | _ => none
theorem uIp22_spec {st : St At} {k : KIp22} (h : uIp22 st = some k) : st = SIp22 k := by
  unfold uIp22 at h
  split at h
  · split at h
    · rename_i h0 h1
      obtain rfl := Option.some.inj h
      rw [roV_spec h0, ex89_spec h1]
      rfl
    · cases h
  · cases h
theorem oklIp22 {g : LP} (hg : ∀ st K q, g st K = some q → ∃ k n e, st = SIp22 k ∧ iter stepIp22 n k = some e ∧ e.k 0 XIp22 XIp22 K = some q) : OKL 61 2 g := okl_iter CIp22_ok (S := SIp22) (X := XIp22) (Y := XIp22) (step := stepIp22) (id := 0) (by kernel_rfl) (by kernel_rfl)
  (fun k m R K => by rw [BIp22]; unfold stepIp22 stIp22; simp only [Nx.k_ite]; rfl) (fun k => by kernel_rfl) hg
/-- the contract out of a closed form -/
theorem okfIp22 {g : LP} {fuel : KIp22 → Nat} {ok : KIp22 → Bool} {F : KIp22 → Fx EIp22} (hF : ∀ k, ok k = true → iter stepIp22 (fuel k) k = some (F k)) (hg : ∀ st K, g st K = (match uIp22 st with | some k => if ok k = true then (F k).k 0 XIp22 XIp22 K else none | none => none)) : OKL 61 2 g := oklIp22 fun st K q h => by
  rw [hg] at h
  split at h
  · rename_i k hu
    split at h
    · rename_i hok; exact ⟨k, _, _, uIp22_spec hu, hF k hok, h⟩
    · cases h
  · cases h
abbrev B_Ip22 := Unit
def fIp22 (k : KIp22) (b : B_Ip22) (p : GPoint × Nat) : Option (B_Ip22 ⊕ EIp22) :=
  if eqB p.1.name k.x1.point = true then
   some (.inr ⟨((p.2 : Int))⟩)
  else
   some (.inl ())
def xIp22 (k : KIp22) (b : B_Ip22) : EIp22 := ⟨(k.x4)⟩
def putIp22 (k : KIp22) (b : B_Ip22) (j : Nat) : KIp22 := ⟨k.x0, k.x1, k.x4, k.x7, (j : Int)⟩
def bIp22 (k : KIp22) : B_Ip22 := ()
def oIp22 (k : KIp22) : Option (B_Ip22 ⊕ EIp22) := scanO (fIp22 k) (bIp22 k) (k.x0.zipIdx)
def okIp22 (k : KIp22) : Bool := decide (k.x8 = 0) && (decide (k.x7 = (k.x0.length : Int)) && (Nat.ble k.x0.length 9223372036854775807 && isOO (oIp22 k)))
def FIp22 (k : KIp22) : Fx EIp22 := fxO (xIp22 k) (bIp22 k) (xIp22 k (bIp22 k)) (oIp22 k)
theorem sIp22 (k : KIp22) (hn : k.x7 = (k.x0.length : Int)) (hm : k.x0.length ≤ 9223372036854775807) (b : B_Ip22) (j : Nat) (h : j < k.x0.length) : stepIp22 (putIp22 k b j) = nxO (fun b' => putIp22 k b' (j + 1)) (fIp22 k b (k.x0[j], j)) := by
  unfold stepIp22 stIp22 fIp22 putIp22
  dsimp only
  simp only [hn, nxO_ite, cnt' h hm, gtj' _ _ _ h, if_pos (lt1' h), if_pos (lt0' (j := j)), if_pos (lt2' h)]
  rfl
theorem eIp22 (k : KIp22) (hn : k.x7 = (k.x0.length : Int)) (b : B_Ip22) : stepIp22 (putIp22 k b k.x0.length) = .ex (xIp22 k b) := by
  unfold stepIp22 stIp22 putIp22
  dsimp only
  rw [hn, if_neg lt3']
  rfl
theorem iIp22 (k : KIp22) (h : okIp22 k = true) : iter stepIp22 (k.x0.zipIdx).length k = some (FIp22 k) := by
  unfold okIp22 at h
  simp only [Bool.and_eq_true, decide_eq_true_eq] at h
  obtain ⟨h0, h1, h2, h3⟩ := h
  replace h2 := Nat.le_of_ble_eq_true h2
  have e : k = putIp22 k (bIp22 k) 0 := by cases k; dsimp only at h0; subst h0; rfl
  have := iter_scanO (step := stepIp22) (k.x0.zipIdx) (putIp22 k) (fIp22 k) (xIp22 k) (bIp22 k) (xIp22 k (bIp22 k)) (fun b j h => (by rw [show (k.x0.zipIdx)[j] = (k.x0[j]'(by simpa using h), j) by simp]; exact sIp22 k h1 h2 b j (by simpa using h))) (fun b => (by rw [show (k.x0.zipIdx).length = k.x0.length by simp]; exact eIp22 k h1 b)) (k.x0.zipIdx).length 0 (bIp22 k) (by simp) (by rw [List.drop_zero]; exact h3)
  rw [List.drop_zero, ← e] at this
  exact this
def gIp22 : LP := fun st K => match uIp22 st with | some k => if okIp22 k = true then (if isLO (oIp22 k) = true then K (.ex 0) (XIp22 (⟨(k.x4)⟩ : EIp22)) else K .ret (XIp22 (getRO (xIp22 k (bIp22 k)) (oIp22 k)))) else none | none => none
theorem okgIp22 : OKL 61 2 gIp22 := okfIp22 (fuel := fun k => (k.x0.zipIdx).length) (ok := okIp22) (F := FIp22) iIp22 fun st K => by
  unfold gIp22
  cases hu : uIp22 st with
  | none => rfl
  | some k =>
    dsimp only
    split
    · unfold FIp22 fxO
      cases isLO (oIp22 k) <;> rfl
    · rfl
def CIp2 : Cfg := { cs := libIp1, ks := CIp22.ks, xs := CIp22.xs, lps := [((61, 2), gIp22)] }
theorem CIp2_ok : CfgOK CIp2 := { con := libIp1_ok, lp := .cons okgIp22 .nil }
def RIp2 (a0 : List GPoint) (a1 : GDrive) : Option (Res At) :=
  if okIp22 { x0 := a0, x1 := a1, x4 := 0, x7 := (↑a0.length : Int), x8 := 0 : KIp22 } = true then
   if isLO (oIp22 { x0 := a0, x1 := a1, x4 := 0, x7 := (↑a0.length : Int), x8 := 0 : KIp22 }) = true then
    some ((.int .i64 (-1)), [])
   else
    some ((.int .i64 ((getRO (xIp22 { x0 := a0, x1 := a1, x4 := 0, x7 := (↑a0.length : Int), x8 := 0 : KIp22 } (bIp22 { x0 := a0, x1 := a1, x4 := 0, x7 := (↑a0.length : Int), x8 := 0 : KIp22 })) (oIp22 { x0 := a0, x1 := a1, x4 := 0, x7 := (↑a0.length : Int), x8 := 0 : KIp22 })).x4)), [])
  else
   none
theorem run_RIp2 (a0 : List GPoint) (a1 : GDrive) : runF CIp2 80 61 [.ro 66 a0, .fn 62 [.rel (enc89 a1)]] = RIp2 a0 a1 := by kernel_rfl
def oIp2 (a0 : List GPoint) (a1 : GDrive) : Option (Res At) := crR [none] (RIp2 a0 a1)
def vIp2 (a0 : List GPoint) (a1 : GDrive) : Int := valO (rI .i64) 0 (oIp2 a0 a1)
def cIp2 (a0 : List GPoint) (a1 : GDrive) : Bool := okO (rI .i64) (oIp2 a0 a1)
def conIp2 : CON := on2 (rR 66) (rF1 62 (rP ex89 enc89 fun _ _ h => ex89_spec h)) fun a0 a1 => some (cIp2 a0 a1, (.int .i64 (vIp2 a0 a1), []))
theorem okIp2 : OK 61 conIp2 := okc2 CIp2_ok (n := 80) (ts := [none]) (a := (rR 66)) (b := (rF1 62 (rP ex89 enc89 fun _ _ h => ex89_spec h))) (r := (rI .i64)) (d := 0) (R := fun a0 a1 => RIp2 a0 a1) (by kernel_rfl) fun a0 a1 => run_RIp2 a0 a1
def libIp2 : List (Nat × CON) := (61, orC conIp2 conIp1) :: libIp1
theorem libIp2_ok : AllOK libIp2 := .cons (ok_or okIp2 okIp1) libIp1_ok
def CU1 : Cfg := { cs := libIp2 }
theorem CU1_ok : CfgOK CU1 := { con := libIp2_ok }
def RU1 (a0 : ByteArray) (a1 : List GPoint) : Option (Res At) :=
  if cIp1 a1 a0 = true then
   some ((.bool (decide (vIp1 a1 a0 ≥ 0))), [])
  else
   none
theorem run_RU1 (a0 : ByteArray) (a1 : List GPoint) : runF CU1 80 113 [.str a0, .rel [.ro 66 a1]] = RU1 a0 a1 := by kernel_rfl
def oU1 (a0 : ByteArray) (a1 : List GPoint) : Option (Res At) := crR [none] (RU1 a0 a1)
def vU1 (a0 : ByteArray) (a1 : List GPoint) : Bool := valO rB false (oU1 a0 a1)
def cU1 (a0 : ByteArray) (a1 : List GPoint) : Bool := okO rB (oU1 a0 a1)
def conU1 : CON := on2 rS (rC (rR 66)) fun a0 a1 => some (cU1 a0 a1, (.bool (vU1 a0 a1), []))
theorem okU1 : OK 113 conU1 := okc2 CU1_ok (n := 80) (ts := [none]) (a := rS) (b := (rC (rR 66))) (r := rB) (d := false) (R := fun a0 a1 => RU1 a0 a1) (by kernel_rfl) fun a0 a1 => run_RU1 a0 a1
def libU1 : List (Nat × CON) := (113, conU1) :: libIp2
theorem libU1_ok : AllOK libU1 := .cons okU1 libIp2_ok
def CU3 : Cfg := { cs := libU1 }
theorem CU3_ok : CfgOK CU3 := { con := libU1_ok }
def RU3 (a0 : GDrive) (a1 : List GPoint) : Option (Res At) :=
  if cU1 a0.point a1 = true then
   some ((.bool (!vU1 a0.point a1)), [])
  else
   none
theorem run_RU3 (a0 : GDrive) (a1 : List GPoint) : runF CU3 80 119 [.agg (enc89 a0), .rel [.fn 113 [.rel [.ro 66 a1]]]] = RU3 a0 a1 := by kernel_rfl
def oU3 (a0 : GDrive) (a1 : List GPoint) : Option (Res At) := crR [none] (RU3 a0 a1)
def vU3 (a0 : GDrive) (a1 : List GPoint) : Bool := valO rB false (oU3 a0 a1)
def cU3 (a0 : GDrive) (a1 : List GPoint) : Bool := okO rB (oU3 a0 a1)
def conU3 : CON := on2 (rA ex89 enc89 fun _ _ h => ex89_spec h) (rC (rF1 113 (rC (rR 66)))) fun a0 a1 => some (cU3 a0 a1, (.bool (vU3 a0 a1), []))
theorem okU3 : OK 119 conU3 := okc2 CU3_ok (n := 80) (ts := [none]) (a := (rA ex89 enc89 fun _ _ h => ex89_spec h)) (b := (rC (rF1 113 (rC (rR 66))))) (r := rB) (d := false) (R := fun a0 a1 => RU3 a0 a1) (by kernel_rfl) fun a0 a1 => run_RU3 a0 a1
def libU3 : List (Nat × CON) := (119, conU3) :: libU1
theorem libU3_ok : AllOK libU3 := .cons okU3 libU1_ok
structure KId22 where
  x0 : List GDrive
  x1 : List GPoint
  x4 : Int
  x7 : Int
  x8 : Int
structure EId22 where
  x4 : Int
def SId22 (k : KId22) : St At := { env := [(0, .ro 89 k.x0), (1, .fn 119 [.rel [.fn 113 [.rel [.ro 66 k.x1]]]]), (4, .int .i64 k.x4), (7, .int .i64 k.x7), (8, .int .i64 k.x8)], stk := [], hp := [], nx := 0 }
def XId22 (k : EId22) : St At := { env := [(4, .int .i64 k.x4)], stk := [], hp := [], nx := 0 }
def CId22 : Cfg := { cs := libU3, ks := [((112, 2), [(0, none), (1, none), (4, none), (7, none), (8, none)])], xs := [((112, 2), [(4, none)])], lps := [] }
theorem CId22_ok : CfgOK CId22 := { con := libU3_ok }
def stId22 {α : Type} (k : KId22) (go : KId22 → α) (ex ret : EId22 → α) (no : α) : α :=
  if decide (k.x8 < k.x7) = true then
   if 0 ≤ k.x8 then
    if k.x8 < (↑k.x0.length : Int) then
     if cU3 (gt { point := { data := #[] : ByteArray }, level := 0, from_ := { node := { data := #[] : ByteArray }, port := 0, point := { data := #[] : ByteArray }, const := { kind := 0, n := 0 : GValue }, delayed := false, initial := { kind := 0, n := 0 : GValue } : GLink } : GDrive } k.x0 k.x8.toNat) k.x1 = true then
      if vU3 (gt { point := { data := #[] : ByteArray }, level := 0, from_ := { node := { data := #[] : ByteArray }, port := 0, point := { data := #[] : ByteArray }, const := { kind := 0, n := 0 : GValue }, delayed := false, initial := { kind := 0, n := 0 : GValue } : GLink } : GDrive } k.x0 k.x8.toNat) k.x1 = true then
       ret ⟨(k.x8)⟩
      else
       go ⟨(k.x0), (k.x1), (k.x4), (k.x7), (IntKind.i64.wrap (k.x8 + 1))⟩
     else
      no
    else
     no
   else
    no
  else
   ex ⟨(k.x4)⟩
def stepId22 (k : KId22) : Nx KId22 EId22 := stId22 k .go .ex .ret .no
theorem BId22 (k : KId22) (m : Nat) (R : St At → Option (Res At)) (K : Xit → St At → Option (Res At)) : B CId22 112 2 (m + 60) (SId22 k) R K = stId22 k (fun k => R (SId22 k)) (fun x => K (.ex 0) (XId22 x)) (fun x => K .ret (XId22 x)) none := by kernel_rfl
def uId22 (st : St At) : Option KId22 := match st with
  | ⟨[(0, vx0), (1, .fn 119 [.rel [.fn 113 [.rel [vx1]]]]), (4, .int .i64 x4), (7, .int .i64 x7), (8, .int .i64 x8)], [], [], 0⟩ => (match roV 89 vx0, roV 66 vx1 with | some x0, some x1 => some ⟨x0, x1, x4, x7, x8⟩ | _, _ => none)
  | _ => none
theorem uId22_spec {st : St At} {k : KId22} (h : uId22 st = some k) : st = SId22 k := by
  unfold uId22 at h
  split at h
  · split at h
    · rename_i h0 h1
      obtain rfl := Option.some.inj h
      rw [roV_spec h0, roV_spec h1]
      rfl
    · cases h
  · cases h
theorem oklId22 {g : LP} (hg : ∀ st K q, g st K = some q → ∃ k n e, st = SId22 k ∧ iter stepId22 n k = some e ∧ e.k 0 XId22 XId22 K = some q) : OKL 112 2 g := okl_iter CId22_ok (S := SId22) (X := XId22) (Y := XId22) (step := stepId22) (id := 0) (by kernel_rfl) (by kernel_rfl)
  (fun k m R K => by rw [BId22]; unfold stepId22 stId22; simp only [Nx.k_ite]; rfl) (fun k => by kernel_rfl) hg
/-- the contract out of a closed form -/
theorem okfId22 {g : LP} {fuel : KId22 → Nat} {ok : KId22 → Bool} {F : KId22 → Fx EId22} (hF : ∀ k, ok k = true → iter stepId22 (fuel k) k = some (F k)) (hg : ∀ st K, g st K = (match uId22 st with | some k => if ok k = true then (F k).k 0 XId22 XId22 K else none | none => none)) : OKL 112 2 g := oklId22 fun st K q h => by
  rw [hg] at h
  split at h
  · rename_i k hu
    split at h
    · rename_i hok; exact ⟨k, _, _, uId22_spec hu, hF k hok, h⟩
    · cases h
  · cases h
abbrev B_Id22 := Unit
def fId22 (k : KId22) (b : B_Id22) (p : GDrive × Nat) : Option (B_Id22 ⊕ EId22) :=
  if cU3 p.1 k.x1 = true then
   if vU3 p.1 k.x1 = true then
    some (.inr ⟨((p.2 : Int))⟩)
   else
    some (.inl ())
  else
   none
def xId22 (k : KId22) (b : B_Id22) : EId22 := ⟨(k.x4)⟩
def putId22 (k : KId22) (b : B_Id22) (j : Nat) : KId22 := ⟨k.x0, k.x1, k.x4, k.x7, (j : Int)⟩
def bId22 (k : KId22) : B_Id22 := ()
def oId22 (k : KId22) : Option (B_Id22 ⊕ EId22) := scanO (fId22 k) (bId22 k) (k.x0.zipIdx)
def okId22 (k : KId22) : Bool := decide (k.x8 = 0) && (decide (k.x7 = (k.x0.length : Int)) && (Nat.ble k.x0.length 9223372036854775807 && isOO (oId22 k)))
def FId22 (k : KId22) : Fx EId22 := fxO (xId22 k) (bId22 k) (xId22 k (bId22 k)) (oId22 k)
theorem sId22 (k : KId22) (hn : k.x7 = (k.x0.length : Int)) (hm : k.x0.length ≤ 9223372036854775807) (b : B_Id22) (j : Nat) (h : j < k.x0.length) : stepId22 (putId22 k b j) = nxO (fun b' => putId22 k b' (j + 1)) (fId22 k b (k.x0[j], j)) := by
  unfold stepId22 stId22 fId22 putId22
  dsimp only
  simp only [hn, nxO_ite, cnt' h hm, gtj' _ _ _ h, if_pos (lt1' h), if_pos (lt0' (j := j)), if_pos (lt2' h)]
  rfl
theorem eId22 (k : KId22) (hn : k.x7 = (k.x0.length : Int)) (b : B_Id22) : stepId22 (putId22 k b k.x0.length) = .ex (xId22 k b) := by
  unfold stepId22 stId22 putId22
  dsimp only
  rw [hn, if_neg lt3']
  rfl
theorem iId22 (k : KId22) (h : okId22 k = true) : iter stepId22 (k.x0.zipIdx).length k = some (FId22 k) := by
  unfold okId22 at h
  simp only [Bool.and_eq_true, decide_eq_true_eq] at h
  obtain ⟨h0, h1, h2, h3⟩ := h
  replace h2 := Nat.le_of_ble_eq_true h2
  have e : k = putId22 k (bId22 k) 0 := by cases k; dsimp only at h0; subst h0; rfl
  have := iter_scanO (step := stepId22) (k.x0.zipIdx) (putId22 k) (fId22 k) (xId22 k) (bId22 k) (xId22 k (bId22 k)) (fun b j h => (by rw [show (k.x0.zipIdx)[j] = (k.x0[j]'(by simpa using h), j) by simp]; exact sId22 k h1 h2 b j (by simpa using h))) (fun b => (by rw [show (k.x0.zipIdx).length = k.x0.length by simp]; exact eId22 k h1 b)) (k.x0.zipIdx).length 0 (bId22 k) (by simp) (by rw [List.drop_zero]; exact h3)
  rw [List.drop_zero, ← e] at this
  exact this
def gId22 : LP := fun st K => match uId22 st with | some k => if okId22 k = true then (if isLO (oId22 k) = true then K (.ex 0) (XId22 (⟨(k.x4)⟩ : EId22)) else K .ret (XId22 (getRO (xId22 k (bId22 k)) (oId22 k)))) else none | none => none
theorem okgId22 : OKL 112 2 gId22 := okfId22 (fuel := fun k => (k.x0.zipIdx).length) (ok := okId22) (F := FId22) iId22 fun st K => by
  unfold gId22
  cases hu : uId22 st with
  | none => rfl
  | some k =>
    dsimp only
    split
    · unfold FId22 fxO
      cases isLO (oId22 k) <;> rfl
    · rfl
def CId2 : Cfg := { cs := libU3, ks := CId22.ks, xs := CId22.xs, lps := [((112, 2), gId22)] }
theorem CId2_ok : CfgOK CId2 := { con := libU3_ok, lp := .cons okgId22 .nil }
def RId2 (a0 : List GDrive) (a1 : List GPoint) : Option (Res At) :=
  if okId22 { x0 := a0, x1 := a1, x4 := 0, x7 := (↑a0.length : Int), x8 := 0 : KId22 } = true then
   if isLO (oId22 { x0 := a0, x1 := a1, x4 := 0, x7 := (↑a0.length : Int), x8 := 0 : KId22 }) = true then
    some ((.int .i64 (-1)), [])
   else
    some ((.int .i64 ((getRO (xId22 { x0 := a0, x1 := a1, x4 := 0, x7 := (↑a0.length : Int), x8 := 0 : KId22 } (bId22 { x0 := a0, x1 := a1, x4 := 0, x7 := (↑a0.length : Int), x8 := 0 : KId22 })) (oId22 { x0 := a0, x1 := a1, x4 := 0, x7 := (↑a0.length : Int), x8 := 0 : KId22 })).x4)), [])
  else
   none
theorem run_RId2 (a0 : List GDrive) (a1 : List GPoint) : runF CId2 80 112 [.ro 89 a0, .fn 119 [.rel [.fn 113 [.rel [.ro 66 a1]]]]] = RId2 a0 a1 := by kernel_rfl
def oId2 (a0 : List GDrive) (a1 : List GPoint) : Option (Res At) := crR [none] (RId2 a0 a1)
def vId2 (a0 : List GDrive) (a1 : List GPoint) : Int := valO (rI .i64) 0 (oId2 a0 a1)
def cId2 (a0 : List GDrive) (a1 : List GPoint) : Bool := okO (rI .i64) (oId2 a0 a1)
def conId2 : CON := on2 (rR 89) (rF1 119 (rC (rF1 113 (rC (rR 66))))) fun a0 a1 => some (cId2 a0 a1, (.int .i64 (vId2 a0 a1), []))
theorem okId2 : OK 112 conId2 := okc2 CId2_ok (n := 80) (ts := [none]) (a := (rR 89)) (b := (rF1 119 (rC (rF1 113 (rC (rR 66)))))) (r := (rI .i64)) (d := 0) (R := fun a0 a1 => RId2 a0 a1) (by kernel_rfl) fun a0 a1 => run_RId2 a0 a1
def libId2 : List (Nat × CON) := (112, orC conId2 conId1) :: libU3
theorem libId2_ok : AllOK libId2 := .cons (ok_or okId2 okId1) libU3_ok
structure KIb2 where
  x0 : List GBound
  x1 : GParam
  x4 : Int
  x7 : Int
  x8 : Int
structure EIb2 where
  x4 : Int
def SIb2 (k : KIb2) : St At := { env := [(0, .ro 155 k.x0), (1, .fn 118 [.rel (enc93 k.x1)]), (4, .int .i64 k.x4), (7, .int .i64 k.x7), (8, .int .i64 k.x8)], stk := [], hp := [], nx := 0 }
def XIb2 (k : EIb2) : St At := { env := [(4, .int .i64 k.x4)], stk := [], hp := [], nx := 0 }
def CIb2 : Cfg := { cs := libId2, ks := [((122, 2), [(0, none), (1, none), (4, none), (7, none), (8, none)])], xs := [((122, 2), [(4, none)])], lps := [] }
theorem CIb2_ok : CfgOK CIb2 := { con := libId2_ok }
def stIb2 {α : Type} (k : KIb2) (go : KIb2 → α) (ex ret : EIb2 → α) (no : α) : α :=
  if decide (k.x8 < k.x7) = true then
   if 0 ≤ k.x8 then
    if k.x8 < (↑k.x0.length : Int) then
     if eqB (gt { name := { data := #[] : ByteArray }, lo := 0, hi := 0, default_ := 0 : GBound } k.x0 k.x8.toNat).name k.x1.name = true then
      ret ⟨(k.x8)⟩
     else
      go ⟨(k.x0), (k.x1), (k.x4), (k.x7), (IntKind.i64.wrap (k.x8 + 1))⟩
    else
     no
   else
    no
  else
   ex ⟨(k.x4)⟩
def stepIb2 (k : KIb2) : Nx KIb2 EIb2 := stIb2 k .go .ex .ret .no
theorem BIb2 (k : KIb2) (m : Nat) (R : St At → Option (Res At)) (K : Xit → St At → Option (Res At)) : B CIb2 122 2 (m + 60) (SIb2 k) R K = stIb2 k (fun k => R (SIb2 k)) (fun x => K (.ex 0) (XIb2 x)) (fun x => K .ret (XIb2 x)) none := by kernel_rfl
def uIb2 (st : St At) : Option KIb2 := match st with
  | ⟨[(0, vx0), (1, .fn 118 [.rel wx1]), (4, .int .i64 x4), (7, .int .i64 x7), (8, .int .i64 x8)], [], [], 0⟩ => (match roV 155 vx0, ex93 wx1 with | some x0, some x1 => some ⟨x0, x1, x4, x7, x8⟩ | _, _ => none)
  | _ => none
theorem uIb2_spec {st : St At} {k : KIb2} (h : uIb2 st = some k) : st = SIb2 k := by
  unfold uIb2 at h
  split at h
  · split at h
    · rename_i h0 h1
      obtain rfl := Option.some.inj h
      rw [roV_spec h0, ex93_spec h1]
      rfl
    · cases h
  · cases h
theorem oklIb2 {g : LP} (hg : ∀ st K q, g st K = some q → ∃ k n e, st = SIb2 k ∧ iter stepIb2 n k = some e ∧ e.k 0 XIb2 XIb2 K = some q) : OKL 122 2 g := okl_iter CIb2_ok (S := SIb2) (X := XIb2) (Y := XIb2) (step := stepIb2) (id := 0) (by kernel_rfl) (by kernel_rfl)
  (fun k m R K => by rw [BIb2]; unfold stepIb2 stIb2; simp only [Nx.k_ite]; rfl) (fun k => by kernel_rfl) hg
/-- the contract out of a closed form -/
theorem okfIb2 {g : LP} {fuel : KIb2 → Nat} {ok : KIb2 → Bool} {F : KIb2 → Fx EIb2} (hF : ∀ k, ok k = true → iter stepIb2 (fuel k) k = some (F k)) (hg : ∀ st K, g st K = (match uIb2 st with | some k => if ok k = true then (F k).k 0 XIb2 XIb2 K else none | none => none)) : OKL 122 2 g := oklIb2 fun st K q h => by
  rw [hg] at h
  split at h
  · rename_i k hu
    split at h
    · rename_i hok; exact ⟨k, _, _, uIb2_spec hu, hF k hok, h⟩
    · cases h
  · cases h
abbrev B_Ib2 := Unit
def fIb2 (k : KIb2) (b : B_Ib2) (p : GBound × Nat) : Option (B_Ib2 ⊕ EIb2) :=
  if eqB p.1.name k.x1.name = true then
   some (.inr ⟨((p.2 : Int))⟩)
  else
   some (.inl ())
def xIb2 (k : KIb2) (b : B_Ib2) : EIb2 := ⟨(k.x4)⟩
def putIb2 (k : KIb2) (b : B_Ib2) (j : Nat) : KIb2 := ⟨k.x0, k.x1, k.x4, k.x7, (j : Int)⟩
def bIb2 (k : KIb2) : B_Ib2 := ()
def oIb2 (k : KIb2) : Option (B_Ib2 ⊕ EIb2) := scanO (fIb2 k) (bIb2 k) (k.x0.zipIdx)
def okIb2 (k : KIb2) : Bool := decide (k.x8 = 0) && (decide (k.x7 = (k.x0.length : Int)) && (Nat.ble k.x0.length 9223372036854775807 && isOO (oIb2 k)))
def FIb2 (k : KIb2) : Fx EIb2 := fxO (xIb2 k) (bIb2 k) (xIb2 k (bIb2 k)) (oIb2 k)
theorem sIb2 (k : KIb2) (hn : k.x7 = (k.x0.length : Int)) (hm : k.x0.length ≤ 9223372036854775807) (b : B_Ib2) (j : Nat) (h : j < k.x0.length) : stepIb2 (putIb2 k b j) = nxO (fun b' => putIb2 k b' (j + 1)) (fIb2 k b (k.x0[j], j)) := by
  unfold stepIb2 stIb2 fIb2 putIb2
  dsimp only
  simp only [hn, nxO_ite, cnt' h hm, gtj' _ _ _ h, if_pos (lt1' h), if_pos (lt0' (j := j)), if_pos (lt2' h)]
  rfl
theorem eIb2 (k : KIb2) (hn : k.x7 = (k.x0.length : Int)) (b : B_Ib2) : stepIb2 (putIb2 k b k.x0.length) = .ex (xIb2 k b) := by
  unfold stepIb2 stIb2 putIb2
  dsimp only
  rw [hn, if_neg lt3']
  rfl
theorem iIb2 (k : KIb2) (h : okIb2 k = true) : iter stepIb2 (k.x0.zipIdx).length k = some (FIb2 k) := by
  unfold okIb2 at h
  simp only [Bool.and_eq_true, decide_eq_true_eq] at h
  obtain ⟨h0, h1, h2, h3⟩ := h
  replace h2 := Nat.le_of_ble_eq_true h2
  have e : k = putIb2 k (bIb2 k) 0 := by cases k; dsimp only at h0; subst h0; rfl
  have := iter_scanO (step := stepIb2) (k.x0.zipIdx) (putIb2 k) (fIb2 k) (xIb2 k) (bIb2 k) (xIb2 k (bIb2 k)) (fun b j h => (by rw [show (k.x0.zipIdx)[j] = (k.x0[j]'(by simpa using h), j) by simp]; exact sIb2 k h1 h2 b j (by simpa using h))) (fun b => (by rw [show (k.x0.zipIdx).length = k.x0.length by simp]; exact eIb2 k h1 b)) (k.x0.zipIdx).length 0 (bIb2 k) (by simp) (by rw [List.drop_zero]; exact h3)
  rw [List.drop_zero, ← e] at this
  exact this
def gIb2 : LP := fun st K => match uIb2 st with | some k => if okIb2 k = true then (if isLO (oIb2 k) = true then K (.ex 0) (XIb2 (⟨(k.x4)⟩ : EIb2)) else K .ret (XIb2 (getRO (xIb2 k (bIb2 k)) (oIb2 k)))) else none | none => none
theorem okgIb2 : OKL 122 2 gIb2 := okfIb2 (fuel := fun k => (k.x0.zipIdx).length) (ok := okIb2) (F := FIb2) iIb2 fun st K => by
  unfold gIb2
  cases hu : uIb2 st with
  | none => rfl
  | some k =>
    dsimp only
    split
    · unfold FIb2 fxO
      cases isLO (oIb2 k) <;> rfl
    · rfl
def CIb : Cfg := { cs := libId2, ks := CIb2.ks, xs := CIb2.xs, lps := [((122, 2), gIb2)] }
theorem CIb_ok : CfgOK CIb := { con := libId2_ok, lp := .cons okgIb2 .nil }
def RIb (a0 : List GBound) (a1 : GParam) : Option (Res At) :=
  if okIb2 { x0 := a0, x1 := a1, x4 := 0, x7 := (↑a0.length : Int), x8 := 0 : KIb2 } = true then
   if isLO (oIb2 { x0 := a0, x1 := a1, x4 := 0, x7 := (↑a0.length : Int), x8 := 0 : KIb2 }) = true then
    some ((.int .i64 (-1)), [])
   else
    some ((.int .i64 ((getRO (xIb2 { x0 := a0, x1 := a1, x4 := 0, x7 := (↑a0.length : Int), x8 := 0 : KIb2 } (bIb2 { x0 := a0, x1 := a1, x4 := 0, x7 := (↑a0.length : Int), x8 := 0 : KIb2 })) (oIb2 { x0 := a0, x1 := a1, x4 := 0, x7 := (↑a0.length : Int), x8 := 0 : KIb2 })).x4)), [])
  else
   none
theorem run_RIb (a0 : List GBound) (a1 : GParam) : runF CIb 80 122 [.ro 155 a0, .fn 118 [.rel (enc93 a1)]] = RIb a0 a1 := by kernel_rfl
def oIb (a0 : List GBound) (a1 : GParam) : Option (Res At) := crR [none] (RIb a0 a1)
def vIb (a0 : List GBound) (a1 : GParam) : Int := valO (rI .i64) 0 (oIb a0 a1)
def cIb (a0 : List GBound) (a1 : GParam) : Bool := okO (rI .i64) (oIb a0 a1)
def conIb : CON := on2 (rR 155) (rF1 118 (rP ex93 enc93 fun _ _ h => ex93_spec h)) fun a0 a1 => some (cIb a0 a1, (.int .i64 (vIb a0 a1), []))
theorem okIb : OK 122 conIb := okc2 CIb_ok (n := 80) (ts := [none]) (a := (rR 155)) (b := (rF1 118 (rP ex93 enc93 fun _ _ h => ex93_spec h))) (r := (rI .i64)) (d := 0) (R := fun a0 a1 => RIb a0 a1) (by kernel_rfl) fun a0 a1 => run_RIb a0 a1
def libIb : List (Nat × CON) := (122, conIb) :: libId2
theorem libIb_ok : AllOK libIb := .cons okIb libId2_ok
def CFi : Cfg := { cs := libIb }
theorem CFi_ok : CfgOK CFi := { con := libIb_ok }
def RFi (a0 : GProgram) (a1 : ByteArray) : Option (Res At) :=
  if cIn1 a0.nodes a1 = true then
   some ((.int .i64 (vIn1 a0.nodes a1)), [])
  else
   none
theorem run_RFi (a0 : GProgram) (a1 : ByteArray) : runF CFi 80 69 [.agg (enc31 a0), .str a1] = RFi a0 a1 := by kernel_rfl
def oFi (a0 : GProgram) (a1 : ByteArray) : Option (Res At) := crR [none] (RFi a0 a1)
def vFi (a0 : GProgram) (a1 : ByteArray) : Int := valO (rI .i64) 0 (oFi a0 a1)
def cFi (a0 : GProgram) (a1 : ByteArray) : Bool := okO (rI .i64) (oFi a0 a1)
def conFi : CON := on2 (rA ex31 enc31 fun _ _ h => ex31_spec h) rS fun a0 a1 => some (cFi a0 a1, (.int .i64 (vFi a0 a1), []))
theorem okFi : OK 69 conFi := okc2 CFi_ok (n := 80) (ts := [none]) (a := (rA ex31 enc31 fun _ _ h => ex31_spec h)) (b := rS) (r := (rI .i64)) (d := 0) (R := fun a0 a1 => RFi a0 a1) (by kernel_rfl) fun a0 a1 => run_RFi a0 a1
def libFi : List (Nat × CON) := (69, conFi) :: libIb
theorem libFi_ok : AllOK libFi := .cons okFi libIb_ok
end
end Go.Proofs.YtpbpebjfglfjfaaGreatDoor.X
