/-
  Eval, at every name but lines.
-/
import Derived.Test.YtbcpnhnalhhfoaaGreatDoorXF4
set_option autoImplicit false
set_option linter.unusedVariables false
set_option linter.unusedSimpArgs false
set_option maxRecDepth 100000
namespace Go.Proofs.YtbcpnhnalhhfoaaGreatDoor.X
open Go Go.Proofs Go.RowKit Go.Proofs.YtbcpnhnalhhfoaaGreatDoor
noncomputable section
/-! what comes out of a run, by its shape -/
def isR (o : Option (Res At)) : Bool := match o with | some _ => true | none => false
def shI (o : Option (Res At)) : Bool := match o with | some (.int .i64 _, []) => true | none => true | _ => false
def gI (o : Option (Res At)) : Int := match o with | some (.int .i64 v, []) => v | _ => 0
theorem of_shI {o : Option (Res At)} (h : shI o = true) (hi : isR o = true) : o = some (.int .i64 (gI o), []) := by
  unfold shI at h
  split at h
  · rfl
  · cases hi
  · cases h
def shB (o : Option (Res At)) : Bool := match o with | some (.agg [.int .i64 2, .int .i64 _], []) => true | none => true | _ => false
def gB (o : Option (Res At)) : Int := match o with | some (.agg [.int .i64 2, .int .i64 v], []) => v | _ => 0
theorem of_shB {o : Option (Res At)} (h : shB o = true) (hi : isR o = true) : o = some (.agg [.int .i64 2, .int .i64 (gB o)], []) := by
  unfold shB at h
  split at h
  · rfl
  · cases hi
  · cases h
def shV (o : Option (Res At)) : Bool := match o with | some (.tup [.agg [.int .i64 _, .int .i64 _], .int .i64 _], []) => true | none => true | _ => false
def gV1 (o : Option (Res At)) : Int := match o with | some (.tup [.agg [.int .i64 a, .int .i64 b], .int .i64 c], []) => a | _ => 0
def gV2 (o : Option (Res At)) : Int := match o with | some (.tup [.agg [.int .i64 a, .int .i64 b], .int .i64 c], []) => b | _ => 0
def gV3 (o : Option (Res At)) : Int := match o with | some (.tup [.agg [.int .i64 a, .int .i64 b], .int .i64 c], []) => c | _ => 0
theorem of_shV {o : Option (Res At)} (h : shV o = true) (hi : isR o = true) : o = some (.tup [.agg [.int .i64 (gV1 o), .int .i64 (gV2 o)], .int .i64 (gV3 o)], []) := by
  unfold shV at h
  split at h
  · rfl
  · cases hi
  · cases h
theorem sh_ite (f : Option (Res At) → Bool) {c : Prop} [Decidable c] {a b : Option (Res At)} (ha : f a = true) (hb : f b = true) : f (if c then a else b) = true := by
  by_cases h : c
  · rw [if_pos h]; exact ha
  · rw [if_neg h]; exact hb
theorem sh_log (s : ByteArray) (l : List Int) : shB (Rlog s l) = true := by unfold Rlog; repeat' (first | refine sh_ite shB ?_ ?_ | rfl)
theorem sh_ari (s : ByteArray) (ps l : List Int) : shI (Rari s ps l) = true := by unfold Rari; repeat' (first | refine sh_ite shI ?_ ?_ | rfl)
def conLog : CON := onSL 2 fun s (l : List Int) => some (isR (Rlog s l), (.agg [.int .i64 2, .int .i64 (gB (Rlog s l))], []))
theorem okLog : OK 37 conLog := ok_run C8_ok (by kernel_rfl) fun l r h => by
  replace h := onSL_spec h
  obtain ⟨s, ps, rfl, h⟩ := h
  obtain ⟨hc, rfl⟩ := some_pair h
  exact ⟨80, (run_Rlog s ps).trans (of_shB (sh_log s ps) hc)⟩
def onSLL {R : Type} (e g : Nat) (F : ByteArray → List (At e) → List (At g) → Option R) (l : List VT) : Option R := match l with | [.str s, x, y] => (match roV e x, roV g y with | some a, some b => F s a b | _, _ => none) | _ => none
theorem onSLL_spec {R : Type} {e g : Nat} {F : ByteArray → List (At e) → List (At g) → Option R} {l : List VT} {r : R} (h : onSLL e g F l = some r) : ∃ s a b, l = [.str s, .ro e a, .ro g b] ∧ F s a b = some r := by
  unfold onSLL at h
  split at h
  · split at h
    · rename_i hx hy
      exact ⟨_, _, _, by rw [roV_spec hx, roV_spec hy], h⟩
    · cases h
  · cases h
def conAri : CON := onSLL 2 2 fun s (ps l : List Int) => some (isR (Rari s ps l), (.int .i64 (gI (Rari s ps l)), []))
theorem okAri : OK 38 conAri := ok_run C9_ok (by kernel_rfl) fun l r h => by
  replace h := onSLL_spec h
  obtain ⟨s, ps, l, rfl, h⟩ := h
  obtain ⟨hc, rfl⟩ := some_pair h
  exact ⟨80, (run_Rari s ps l).trans (of_shI (sh_ari s ps l) hc)⟩
def lib10 : List (Nat × CON) := (37, conLog) :: (38, conAri) :: lib9
theorem lib10_ok : AllOK lib10 := .cons okLog (.cons okAri lib9_ok)
def C10 : Cfg := { cs := lib10, ks := Cevl.ks, xs := Cevl.xs, lps := [((18, 18), gevl)] }
theorem C10_ok : CfgOK C10 := { con := lib10_ok, lp := .cons okgevl .nil }
def Reval (s : ByteArray) (ps : List Int) (vs : List GValue) : Option (Res At) :=
  if (s.size + 1).blt 4611686018427387904 = true then
   if (!decide (erD (findD s libL) = 0)) = false then
    if decide ((orD (findD s libL)).state > 0) = false then
     if eqB s { data := #[100, 101, 119, 112, 111, 105, 110, 116] } = false then
      if eqB s { data := #[101, 110, 116, 104, 97, 108, 112, 121] } = true then
       some ((.tup [(.agg [(.int .i64 0), (.int .i64 0)]), (.int .i64 3)]), [])
      else
       if (s.size + 1).blt 4611686018427387904 = true then
        if (!decide ((inpR (findD s libL) (↑vs.length : Int)).snd = 0)) = false then
         if allowC (orD (findD s libL)) = true then
          if (!allowV (orD (findD s libL)) ps) = true then
           some ((.tup [(.agg [(.int .i64 0), (.int .i64 0)]), (.int .i64 1)]), [])
          else
           if fitC (inpR (findD s libL) (↑vs.length : Int)).fst vs = true then
            if (!fitL 0 (inpR (findD s libL) (↑vs.length : Int)).fst vs) = true then
             some ((.tup [(.agg [(.int .i64 0), (.int .i64 0)]), (.int .i64 11)]), [])
            else
             if eqB s { data := #[112, 105, 99, 107] } = true then
              if 0 < (↑vs.length : Int) then
               if decide ((gt { kind := 0, n := 0 } vs (Int.toNat 0)).n = 1) = true then
                if 1 < (↑vs.length : Int) then
                 some ((.tup [(.agg [(.int .i64 ((gt { kind := 0, n := 0 } vs (Int.toNat 1)).kind)), (.int .i64 ((gt { kind := 0, n := 0 } vs (Int.toNat 1)).n))]), (.int .i64 0)]), [])
                else
                 none
               else
                if 2 < (↑vs.length : Int) then
                 some ((.tup [(.agg [(.int .i64 ((gt { kind := 0, n := 0 } vs (Int.toNat 2)).kind)), (.int .i64 ((gt { kind := 0, n := 0 } vs (Int.toNat 2)).n))]), (.int .i64 0)]), [])
                else
                 none
              else
               none
             else
              if eqB s { data := #[99, 104, 111, 111, 115, 101] } = true then
               if 0 < (↑vs.length : Int) then
                if 0 ≤ mnI (gt { kind := 0, n := 0 } vs (Int.toNat 0)).n (IntKind.i64.wrap ((↑vs.length : Int) - 1)) then
                 if mnI (gt { kind := 0, n := 0 } vs (Int.toNat 0)).n (IntKind.i64.wrap ((↑vs.length : Int) - 1)) < (↑vs.length : Int) then
                  some ((.tup [(.agg [(.int .i64 ((gt { kind := 0, n := 0 } vs (mnI (gt { kind := 0, n := 0 } vs (Int.toNat 0)).n (IntKind.i64.wrap ((↑vs.length : Int) - 1))).toNat).kind)), (.int .i64 ((gt { kind := 0, n := 0 } vs (mnI (gt { kind := 0, n := 0 } vs (Int.toNat 0)).n (IntKind.i64.wrap ((↑vs.length : Int) - 1))).toNat).n))]), (.int .i64 0)]), [])
                 else
                  none
                else
                 none
               else
                none
              else
               if okevl { nm := s, ps := ps, d := orD (findD s libL), o := [], l := vs, n := (↑vs.length : Int), i := 0 } = true then
                if 0 < (↑(orD (findD s libL)).outputs.length : Int) then
                 if eqB (gt { name := { data := #[] }, type_ := { data := #[] } } (orD (findD s libL)).outputs (Int.toNat 0)).type_ { data := #[98, 105, 110, 97, 114, 121] } = true then
                  if isR (Rlog s ([] ++ numsL vs)) = true then
                   some ((.tup [(.agg [(.int .i64 2), (.int .i64 (gB (Rlog s ([] ++ numsL vs))))]), (.int .i64 0)]), [])
                  else
                   none
                 else
                  if isR (Rari s ps ([] ++ numsL vs)) = true then
                   some ((.tup [(.agg [(.int .i64 1), (.int .i64 (gI (Rari s ps ([] ++ numsL vs))))]), (.int .i64 0)]), [])
                  else
                   none
                else
                 none
               else
                none
           else
            none
         else
          none
        else
         some ((.tup [(.agg [(.int .i64 0), (.int .i64 0)]), (.int .i64 1)]), [])
       else
        none
     else
      some ((.tup [(.agg [(.int .i64 0), (.int .i64 0)]), (.int .i64 3)]), [])
    else
     some ((.tup [(.agg [(.int .i64 0), (.int .i64 0)]), (.int .i64 3)]), [])
   else
    some ((.tup [(.agg [(.int .i64 0), (.int .i64 0)]), (.int .i64 3)]), [])
  else
   none
theorem run_Reval (s : ByteArray) (ps : List Int) (vs : List GValue) : runF C10 80 18 [.str s, .ro 2 ps, .ro 38 vs] = Reval s ps vs := by kernel_rfl
theorem sh_eval (s : ByteArray) (ps : List Int) (vs : List GValue) : shV (Reval s ps vs) = true := by unfold Reval; repeat' (first | refine sh_ite shV ?_ ?_ | rfl)
def evalV (s : ByteArray) (ps : List Int) (vs : List GValue) : Res At := (.tup [.agg [.int .i64 (gV1 (Reval s ps vs)), .int .i64 (gV2 (Reval s ps vs))], .int .i64 (gV3 (Reval s ps vs))], [])
def conEval0 : CON := onSLL 2 38 fun s (ps : List Int) (vs : List GValue) => some (isR (Reval s ps vs), evalV s ps vs)
theorem okEval0 : OK 18 conEval0 := ok_run C10_ok (by kernel_rfl) fun l r h => by
  replace h := onSLL_spec h
  obtain ⟨s, ps, l, rfl, h⟩ := h
  obtain ⟨hc, rfl⟩ := some_pair h
  exact ⟨80, (run_Reval s ps l).trans (of_shV (sh_eval s ps l) hc)⟩
def conEval : CON := fun l => conEval0 (nrmL l [none, some 2, some 38])
theorem okEval : OK 18 conEval := ok_norm _ okEval0
def lib11 : List (Nat × CON) := (18, conEval) :: lib10
theorem lib11_ok : AllOK lib11 := .cons okEval lib10_ok
def C11 : Cfg := { cs := lib11 }
theorem C11_ok : CfgOK C11 := { con := lib11_ok }
end
end Go.Proofs.YtbcpnhnalhhfoaaGreatDoor.X
