/-
  What is formed; finding by closures.
-/
import Derived.Test.YtpbpebjfglfjfaaGreatDoorXQa
set_option autoImplicit false
set_option linter.unusedVariables false
set_option linter.unusedSimpArgs false
set_option maxRecDepth 100000
namespace Go.Proofs.YtpbpebjfglfjfaaGreatDoor.X
open Go Go.Proofs Go.RowKit Go.Proofs.YtpbpebjfglfjfaaGreatDoor
noncomputable section
def CCn : Cfg := { cs := libPoR }
theorem CCn_ok : CfgOK CCn := { con := libPoR_ok }
def RCn (a0 : GValue) : Option (Res At) :=
  if decide (a0.kind = 1) = true then
   if decide (a0.n ≥ -1000000000000) = true then
    some ((.bool (decide (a0.n ≤ 1000000000000))), [])
   else
    some ((.bool false), [])
  else
   if decide (a0.kind = 2) = true then
    if decide (a0.n = 0) = false then
     some ((.bool (decide (a0.n = 1))), [])
    else
     some ((.bool true), [])
   else
    if decide (a0.kind = 3) = true then
     if decide (a0.n ≥ 1) = true then
      some ((.bool (decide (a0.n ≤ 16))), [])
     else
      some ((.bool false), [])
    else
     some ((.bool false), [])
theorem run_RCn (a0 : GValue) : runF CCn 80 111 [.agg (enc53 a0)] = RCn a0 := by kernel_rfl
def oCn (a0 : GValue) : Option (Res At) := crR [none] (RCn a0)
def vCn (a0 : GValue) : Bool := valO rB false (oCn a0)
def cCn (a0 : GValue) : Bool := okO rB (oCn a0)
def conCn : CON := on1 (rA ex53 enc53 fun _ _ h => ex53_spec h) fun a0 => some (cCn a0, (.bool (vCn a0), []))
theorem okCn : OK 111 conCn := okc1 CCn_ok (n := 80) (ts := [none]) (a := (rA ex53 enc53 fun _ _ h => ex53_spec h)) (r := rB) (d := false) (R := fun a0 => RCn a0) (by kernel_rfl) fun a0 => run_RCn a0
def libCn : List (Nat × CON) := (111, conCn) :: libPoR
theorem libCn_ok : AllOK libCn := .cons okCn libPoR_ok
def CFm : Cfg := { cs := libCn }
theorem CFm_ok : CfgOK CFm := { con := libCn_ok }
def RFm (a0 : GLink) : Option (Res At) :=
  if (!decide (a0.port = 0)) = false then
   if a0.delayed = true then
    if cCn a0.initial = true then
     if (!vCn a0.initial) = false then
      if (!a0.delayed) = true then
       if (!(decide (a0.initial.kind = 0) && (decide (a0.initial.n = 0) && true))) = true then
        some ((.bool false), [])
       else
        if eqB a0.node { data := #[] : ByteArray } = true then
         if eqB a0.point { data := #[] : ByteArray } = true then
          if cCn a0.const = true then
           some ((.bool (vCn a0.const)), [])
          else
           none
         else
          if (!eqB a0.node { data := #[] : ByteArray }) = true then
           if (!eqB a0.point { data := #[] : ByteArray }) = false then
            if (!(decide (a0.const.kind = 0) && (decide (a0.const.n = 0) && true))) = true then
             some ((.bool false), [])
            else
             if a0.node.size + a0.point.size < 4611686018427387904 then
              if cNm (catB a0.node a0.point) = true then
               some ((.bool (vNm (catB a0.node a0.point))), [])
              else
               none
             else
              none
           else
            some ((.bool false), [])
          else
           if (!(decide (a0.const.kind = 0) && (decide (a0.const.n = 0) && true))) = true then
            some ((.bool false), [])
           else
            if a0.node.size + a0.point.size < 4611686018427387904 then
             if cNm (catB a0.node a0.point) = true then
              some ((.bool (vNm (catB a0.node a0.point))), [])
             else
              none
            else
             none
        else
         if (!eqB a0.node { data := #[] : ByteArray }) = true then
          if (!eqB a0.point { data := #[] : ByteArray }) = false then
           if (!(decide (a0.const.kind = 0) && (decide (a0.const.n = 0) && true))) = true then
            some ((.bool false), [])
           else
            if a0.node.size + a0.point.size < 4611686018427387904 then
             if cNm (catB a0.node a0.point) = true then
              some ((.bool (vNm (catB a0.node a0.point))), [])
             else
              none
            else
             none
          else
           some ((.bool false), [])
         else
          if (!(decide (a0.const.kind = 0) && (decide (a0.const.n = 0) && true))) = true then
           some ((.bool false), [])
          else
           if a0.node.size + a0.point.size < 4611686018427387904 then
            if cNm (catB a0.node a0.point) = true then
             some ((.bool (vNm (catB a0.node a0.point))), [])
            else
             none
           else
            none
      else
       if eqB a0.node { data := #[] : ByteArray } = true then
        if eqB a0.point { data := #[] : ByteArray } = true then
         if cCn a0.const = true then
          some ((.bool (vCn a0.const)), [])
         else
          none
        else
         if (!eqB a0.node { data := #[] : ByteArray }) = true then
          if (!eqB a0.point { data := #[] : ByteArray }) = false then
           if (!(decide (a0.const.kind = 0) && (decide (a0.const.n = 0) && true))) = true then
            some ((.bool false), [])
           else
            if a0.node.size + a0.point.size < 4611686018427387904 then
             if cNm (catB a0.node a0.point) = true then
              some ((.bool (vNm (catB a0.node a0.point))), [])
             else
              none
            else
             none
          else
           some ((.bool false), [])
         else
          if (!(decide (a0.const.kind = 0) && (decide (a0.const.n = 0) && true))) = true then
           some ((.bool false), [])
          else
           if a0.node.size + a0.point.size < 4611686018427387904 then
            if cNm (catB a0.node a0.point) = true then
             some ((.bool (vNm (catB a0.node a0.point))), [])
            else
             none
           else
            none
       else
        if (!eqB a0.node { data := #[] : ByteArray }) = true then
         if (!eqB a0.point { data := #[] : ByteArray }) = false then
          if (!(decide (a0.const.kind = 0) && (decide (a0.const.n = 0) && true))) = true then
           some ((.bool false), [])
          else
           if a0.node.size + a0.point.size < 4611686018427387904 then
            if cNm (catB a0.node a0.point) = true then
             some ((.bool (vNm (catB a0.node a0.point))), [])
            else
             none
           else
            none
         else
          some ((.bool false), [])
        else
         if (!(decide (a0.const.kind = 0) && (decide (a0.const.n = 0) && true))) = true then
          some ((.bool false), [])
         else
          if a0.node.size + a0.point.size < 4611686018427387904 then
           if cNm (catB a0.node a0.point) = true then
            some ((.bool (vNm (catB a0.node a0.point))), [])
           else
            none
          else
           none
     else
      some ((.bool false), [])
    else
     none
   else
    if (!a0.delayed) = true then
     if (!(decide (a0.initial.kind = 0) && (decide (a0.initial.n = 0) && true))) = true then
      some ((.bool false), [])
     else
      if eqB a0.node { data := #[] : ByteArray } = true then
       if eqB a0.point { data := #[] : ByteArray } = true then
        if cCn a0.const = true then
         some ((.bool (vCn a0.const)), [])
        else
         none
       else
        if (!eqB a0.node { data := #[] : ByteArray }) = true then
         if (!eqB a0.point { data := #[] : ByteArray }) = false then
          if (!(decide (a0.const.kind = 0) && (decide (a0.const.n = 0) && true))) = true then
           some ((.bool false), [])
          else
           if a0.node.size + a0.point.size < 4611686018427387904 then
            if cNm (catB a0.node a0.point) = true then
             some ((.bool (vNm (catB a0.node a0.point))), [])
            else
             none
           else
            none
         else
          some ((.bool false), [])
        else
         if (!(decide (a0.const.kind = 0) && (decide (a0.const.n = 0) && true))) = true then
          some ((.bool false), [])
         else
          if a0.node.size + a0.point.size < 4611686018427387904 then
           if cNm (catB a0.node a0.point) = true then
            some ((.bool (vNm (catB a0.node a0.point))), [])
           else
            none
          else
           none
      else
       if (!eqB a0.node { data := #[] : ByteArray }) = true then
        if (!eqB a0.point { data := #[] : ByteArray }) = false then
         if (!(decide (a0.const.kind = 0) && (decide (a0.const.n = 0) && true))) = true then
          some ((.bool false), [])
         else
          if a0.node.size + a0.point.size < 4611686018427387904 then
           if cNm (catB a0.node a0.point) = true then
            some ((.bool (vNm (catB a0.node a0.point))), [])
           else
            none
          else
           none
        else
         some ((.bool false), [])
       else
        if (!(decide (a0.const.kind = 0) && (decide (a0.const.n = 0) && true))) = true then
         some ((.bool false), [])
        else
         if a0.node.size + a0.point.size < 4611686018427387904 then
          if cNm (catB a0.node a0.point) = true then
           some ((.bool (vNm (catB a0.node a0.point))), [])
          else
           none
         else
          none
    else
     if eqB a0.node { data := #[] : ByteArray } = true then
      if eqB a0.point { data := #[] : ByteArray } = true then
       if cCn a0.const = true then
        some ((.bool (vCn a0.const)), [])
       else
        none
      else
       if (!eqB a0.node { data := #[] : ByteArray }) = true then
        if (!eqB a0.point { data := #[] : ByteArray }) = false then
         if (!(decide (a0.const.kind = 0) && (decide (a0.const.n = 0) && true))) = true then
          some ((.bool false), [])
         else
          if a0.node.size + a0.point.size < 4611686018427387904 then
           if cNm (catB a0.node a0.point) = true then
            some ((.bool (vNm (catB a0.node a0.point))), [])
           else
            none
          else
           none
        else
         some ((.bool false), [])
       else
        if (!(decide (a0.const.kind = 0) && (decide (a0.const.n = 0) && true))) = true then
         some ((.bool false), [])
        else
         if a0.node.size + a0.point.size < 4611686018427387904 then
          if cNm (catB a0.node a0.point) = true then
           some ((.bool (vNm (catB a0.node a0.point))), [])
          else
           none
         else
          none
     else
      if (!eqB a0.node { data := #[] : ByteArray }) = true then
       if (!eqB a0.point { data := #[] : ByteArray }) = false then
        if (!(decide (a0.const.kind = 0) && (decide (a0.const.n = 0) && true))) = true then
         some ((.bool false), [])
        else
         if a0.node.size + a0.point.size < 4611686018427387904 then
          if cNm (catB a0.node a0.point) = true then
           some ((.bool (vNm (catB a0.node a0.point))), [])
          else
           none
         else
          none
       else
        some ((.bool false), [])
      else
       if (!(decide (a0.const.kind = 0) && (decide (a0.const.n = 0) && true))) = true then
        some ((.bool false), [])
       else
        if a0.node.size + a0.point.size < 4611686018427387904 then
         if cNm (catB a0.node a0.point) = true then
          some ((.bool (vNm (catB a0.node a0.point))), [])
         else
          none
        else
         none
  else
   some ((.bool false), [])
theorem run_RFm (a0 : GLink) : runF CFm 80 53 [.agg (enc55 a0)] = RFm a0 := by kernel_rfl
def oFm (a0 : GLink) : Option (Res At) := crR [none] (RFm a0)
def vFm (a0 : GLink) : Bool := valO rB false (oFm a0)
def cFm (a0 : GLink) : Bool := okO rB (oFm a0)
def conFm : CON := on1 (rA ex55 enc55 fun _ _ h => ex55_spec h) fun a0 => some (cFm a0, (.bool (vFm a0), []))
theorem okFm : OK 53 conFm := okc1 CFm_ok (n := 80) (ts := [none]) (a := (rA ex55 enc55 fun _ _ h => ex55_spec h)) (r := rB) (d := false) (R := fun a0 => RFm a0) (by kernel_rfl) fun a0 => run_RFm a0
def libFm : List (Nat × CON) := (53, conFm) :: libCn
theorem libFm_ok : AllOK libFm := .cons okFm libCn_ok
def libCnR : List (Nat × CON) := libFm
theorem libCnR_ok : AllOK libCnR := libFm_ok
def libFmR : List (Nat × CON) := libCnR
theorem libFmR_ok : AllOK libFmR := libCnR_ok
def CLv : Cfg := { cs := libFmR }
theorem CLv_ok : CfgOK CLv := { con := libFmR_ok }
def RLv (a0 : Int) : Option (Res At) :=
  if decide (a0 ≥ 3) = true then
   if decide (a0 ≤ 16) = true then
    if (!decide (a0 = 6)) = true then
     some ((.bool (!decide (a0 = 8))), [])
    else
     some ((.bool false), [])
   else
    some ((.bool false), [])
  else
   some ((.bool false), [])
theorem run_RLv (a0 : Int) : runF CLv 80 56 [.int .i64 a0] = RLv a0 := by kernel_rfl
def oLv (a0 : Int) : Option (Res At) := crR [none] (RLv a0)
def vLv (a0 : Int) : Bool := valO rB false (oLv a0)
def cLv (a0 : Int) : Bool := okO rB (oLv a0)
def conLv : CON := on1 (rI .i64) fun a0 => some (cLv a0, (.bool (vLv a0), []))
theorem okLv : OK 56 conLv := okc1 CLv_ok (n := 80) (ts := [none]) (a := (rI .i64)) (r := rB) (d := false) (R := fun a0 => RLv a0) (by kernel_rfl) fun a0 => run_RLv a0
def libLv : List (Nat × CON) := (56, conLv) :: libFmR
theorem libLv_ok : AllOK libLv := .cons okLv libFmR_ok
def CCm : Cfg := { cs := libLv }
theorem CCm_ok : CfgOK CCm := { con := libLv_ok }
def RCm (a0 : GPoint) : Option (Res At) :=
  if decide (a0.role = 2) = false then
   some ((.bool (decide (a0.role = 3))), [])
  else
   some ((.bool true), [])
theorem run_RCm (a0 : GPoint) : runF CCm 80 63 [.agg (enc66 a0)] = RCm a0 := by kernel_rfl
def oCm (a0 : GPoint) : Option (Res At) := crR [none] (RCm a0)
def vCm (a0 : GPoint) : Bool := valO rB false (oCm a0)
def cCm (a0 : GPoint) : Bool := okO rB (oCm a0)
def conCm : CON := on1 (rA ex66 enc66 fun _ _ h => ex66_spec h) fun a0 => some (cCm a0, (.bool (vCm a0), []))
theorem okCm : OK 63 conCm := okc1 CCm_ok (n := 80) (ts := [none]) (a := (rA ex66 enc66 fun _ _ h => ex66_spec h)) (r := rB) (d := false) (R := fun a0 => RCm a0) (by kernel_rfl) fun a0 => run_RCm a0
def libCm : List (Nat × CON) := (63, conCm) :: libLv
theorem libCm_ok : AllOK libCm := .cons okCm libLv_ok
structure KIn12 where
  x0 : List GNode
  x1 : ByteArray
  x4 : Int
  x7 : Int
  x8 : Int
structure EIn12 where
  x4 : Int
def SIn12 (k : KIn12) : St At := { env := [(0, .ro 58 k.x0), (1, .fn 129 [.rel [.str k.x1]]), (4, .int .i64 k.x4), (7, .int .i64 k.x7), (8, .int .i64 k.x8)], stk := [], hp := [], nx := 0 }
def XIn12 (k : EIn12) : St At := { env := [(4, .int .i64 k.x4)], stk := [], hp := [], nx := 0 }
def CIn12 : Cfg := { cs := libCm, ks := [((109, 2), [(0, none), (1, none), (4, none), (7, none), (8, none)])], xs := [((109, 2), [(4, none)])], lps := [] }
theorem CIn12_ok : CfgOK CIn12 := { con := libCm_ok }
def stIn12 {α : Type} (k : KIn12) (go : KIn12 → α) (ex ret : EIn12 → α) (no : α) : α :=
  if decide (k.x8 < k.x7) = true then
   if 0 ≤ k.x8 then
    if k.x8 < (↑k.x0.length : Int) then
     if eqB (gt { name := { data := #[] : ByteArray }, block := { data := #[] : ByteArray }, params := [], inputs := [] : GNode } k.x0 k.x8.toNat).name k.x1 = true then
      ret ⟨(k.x8)⟩
     else
      go ⟨(k.x0), (k.x1), (k.x4), (k.x7), (IntKind.i64.wrap (k.x8 + 1))⟩
    else
     no
   else
    no
  else
   ex ⟨(k.x4)⟩
def stepIn12 (k : KIn12) : Nx KIn12 EIn12 := stIn12 k .go .ex .ret .no
theorem BIn12 (k : KIn12) (m : Nat) (R : St At → Option (Res At)) (K : Xit → St At → Option (Res At)) : B CIn12 109 2 (m + 60) (SIn12 k) R K = stIn12 k (fun k => R (SIn12 k)) (fun x => K (.ex 0) (XIn12 x)) (fun x => K .ret (XIn12 x)) none := by kernel_rfl
def uIn12 (st : St At) : Option KIn12 := match st with
  | ⟨[(0, vx0), (1, .fn 129 [.rel [.str x1]]), (4, .int .i64 x4), (7, .int .i64 x7), (8, .int .i64 x8)], [], [], 0⟩ => (match roV 58 vx0 with | some x0 => some ⟨x0, x1, x4, x7, x8⟩ | _ => none)
  | _ => none
theorem uIn12_spec {st : St At} {k : KIn12} (h : uIn12 st = some k) : st = SIn12 k := by
  unfold uIn12 at h
  split at h
  · split at h
    · rename_i h0
      obtain rfl := Option.some.inj h
      rw [roV_spec h0]
      rfl
    · cases h
  · cases h
theorem oklIn12 {g : LP} (hg : ∀ st K q, g st K = some q → ∃ k n e, st = SIn12 k ∧ iter stepIn12 n k = some e ∧ e.k 0 XIn12 XIn12 K = some q) : OKL 109 2 g := okl_iter CIn12_ok (S := SIn12) (X := XIn12) (Y := XIn12) (step := stepIn12) (id := 0) (by kernel_rfl) (by kernel_rfl)
  (fun k m R K => by rw [BIn12]; unfold stepIn12 stIn12; simp only [Nx.k_ite]; rfl) (fun k => by kernel_rfl) hg
theorem okfIn12 {g : LP} {fuel : KIn12 → Nat} {ok : KIn12 → Bool} {F : KIn12 → Fx EIn12} (hF : ∀ k, ok k = true → iter stepIn12 (fuel k) k = some (F k)) (hg : ∀ st K, g st K = (match uIn12 st with | some k => if ok k = true then (F k).k 0 XIn12 XIn12 K else none | none => none)) : OKL 109 2 g := oklIn12 fun st K q h => by
  rw [hg] at h
  split at h
  · rename_i k hu
    split at h
    · rename_i hok; exact ⟨k, _, _, uIn12_spec hu, hF k hok, h⟩
    · cases h
  · cases h
abbrev B_In12 := Unit
def fIn12 (k : KIn12) (b : B_In12) (p : GNode × Nat) : Option (B_In12 ⊕ EIn12) :=
  if eqB p.1.name k.x1 = true then
   some (.inr ⟨((p.2 : Int))⟩)
  else
   some (.inl ())
def xIn12 (k : KIn12) (b : B_In12) : EIn12 := ⟨(k.x4)⟩
def putIn12 (k : KIn12) (b : B_In12) (j : Nat) : KIn12 := ⟨k.x0, k.x1, k.x4, k.x7, (j : Int)⟩
def bIn12 (k : KIn12) : B_In12 := ()
def oIn12 (k : KIn12) : Option (B_In12 ⊕ EIn12) := scanO (fIn12 k) (bIn12 k) (k.x0.zipIdx)
def okIn12 (k : KIn12) : Bool := decide (k.x8 = 0) && (decide (k.x7 = (k.x0.length : Int)) && (Nat.ble k.x0.length 9223372036854775807 && isOO (oIn12 k)))
def FIn12 (k : KIn12) : Fx EIn12 := fxO (xIn12 k) (bIn12 k) (xIn12 k (bIn12 k)) (oIn12 k)
theorem sIn12 (k : KIn12) (hn : k.x7 = (k.x0.length : Int)) (hm : k.x0.length ≤ 9223372036854775807) (b : B_In12) (j : Nat) (h : j < k.x0.length) : stepIn12 (putIn12 k b j) = nxO (fun b' => putIn12 k b' (j + 1)) (fIn12 k b (k.x0[j], j)) := by
  unfold stepIn12 stIn12 fIn12 putIn12
  dsimp only
  simp only [hn, nxO_ite, cnt' h hm, gtj' _ _ _ h, if_pos (lt1' h), if_pos (lt0' (j := j)), if_pos (lt2' h)]
  rfl
theorem eIn12 (k : KIn12) (hn : k.x7 = (k.x0.length : Int)) (b : B_In12) : stepIn12 (putIn12 k b k.x0.length) = .ex (xIn12 k b) := by
  unfold stepIn12 stIn12 putIn12
  dsimp only
  rw [hn, if_neg lt3']
  rfl
theorem iIn12 (k : KIn12) (h : okIn12 k = true) : iter stepIn12 (k.x0.zipIdx).length k = some (FIn12 k) := by
  unfold okIn12 at h
  simp only [Bool.and_eq_true, decide_eq_true_eq] at h
  obtain ⟨h0, h1, h2, h3⟩ := h
  replace h2 := Nat.le_of_ble_eq_true h2
  have e : k = putIn12 k (bIn12 k) 0 := by cases k; dsimp only at h0; subst h0; rfl
  have := iter_scanO (step := stepIn12) (k.x0.zipIdx) (putIn12 k) (fIn12 k) (xIn12 k) (bIn12 k) (xIn12 k (bIn12 k)) (fun b j h => (by rw [show (k.x0.zipIdx)[j] = (k.x0[j]'(by simpa using h), j) by simp]; exact sIn12 k h1 h2 b j (by simpa using h))) (fun b => (by rw [show (k.x0.zipIdx).length = k.x0.length by simp]; exact eIn12 k h1 b)) (k.x0.zipIdx).length 0 (bIn12 k) (by simp) (by rw [List.drop_zero]; exact h3)
  rw [List.drop_zero, ← e] at this
  exact this
def gIn12 : LP := fun st K => match uIn12 st with | some k => if okIn12 k = true then (if isLO (oIn12 k) = true then K (.ex 0) (XIn12 (⟨(k.x4)⟩ : EIn12)) else K .ret (XIn12 (getRO (xIn12 k (bIn12 k)) (oIn12 k)))) else none | none => none
theorem okgIn12 : OKL 109 2 gIn12 := okfIn12 (fuel := fun k => (k.x0.zipIdx).length) (ok := okIn12) (F := FIn12) iIn12 fun st K => by
  unfold gIn12
  cases hu : uIn12 st with
  | none => rfl
  | some k =>
    dsimp only
    split
    · unfold FIn12 fxO
      cases isLO (oIn12 k) <;> rfl
    · rfl
def CIn1 : Cfg := { cs := libCm, ks := CIn12.ks, xs := CIn12.xs, lps := [((109, 2), gIn12)] }
theorem CIn1_ok : CfgOK CIn1 := { con := libCm_ok, lp := .cons okgIn12 .nil }
def RIn1 (a0 : List GNode) (a1 : ByteArray) : Option (Res At) :=
  if okIn12 { x0 := a0, x1 := a1, x4 := 0, x7 := (↑a0.length : Int), x8 := 0 : KIn12 } = true then
   if isLO (oIn12 { x0 := a0, x1 := a1, x4 := 0, x7 := (↑a0.length : Int), x8 := 0 : KIn12 }) = true then
    some ((.int .i64 (-1)), [])
   else
    some ((.int .i64 ((getRO (xIn12 { x0 := a0, x1 := a1, x4 := 0, x7 := (↑a0.length : Int), x8 := 0 : KIn12 } (bIn12 { x0 := a0, x1 := a1, x4 := 0, x7 := (↑a0.length : Int), x8 := 0 : KIn12 })) (oIn12 { x0 := a0, x1 := a1, x4 := 0, x7 := (↑a0.length : Int), x8 := 0 : KIn12 })).x4)), [])
  else
   none
theorem run_RIn1 (a0 : List GNode) (a1 : ByteArray) : runF CIn1 80 109 [.ro 58 a0, .fn 129 [.rel [.str a1]]] = RIn1 a0 a1 := by kernel_rfl
def oIn1 (a0 : List GNode) (a1 : ByteArray) : Option (Res At) := crR [none] (RIn1 a0 a1)
def vIn1 (a0 : List GNode) (a1 : ByteArray) : Int := valO (rI .i64) 0 (oIn1 a0 a1)
def cIn1 (a0 : List GNode) (a1 : ByteArray) : Bool := okO (rI .i64) (oIn1 a0 a1)
def conIn1 : CON := on2 (rR 58) (rF1 129 (rC rS)) fun a0 a1 => some (cIn1 a0 a1, (.int .i64 (vIn1 a0 a1), []))
theorem okIn1 : OK 109 conIn1 := okc2 CIn1_ok (n := 80) (ts := [none]) (a := (rR 58)) (b := (rF1 129 (rC rS))) (r := (rI .i64)) (d := 0) (R := fun a0 a1 => RIn1 a0 a1) (by kernel_rfl) fun a0 a1 => run_RIn1 a0 a1
def libIn1 : List (Nat × CON) := (109, conIn1) :: libCm
theorem libIn1_ok : AllOK libIn1 := .cons okIn1 libCm_ok
def CK1 : Cfg := { cs := libIn1 }
theorem CK1_ok : CfgOK CK1 := { con := libIn1_ok }
def RK1 (a0 : GNode) : Option (Res At) :=
  if cNm a0.name = true then
   some ((.bool (!vNm a0.name)), [])
  else
   none
theorem run_RK1 (a0 : GNode) : runF CK1 80 50 [.agg (enc58 a0)] = RK1 a0 := by kernel_rfl
def oK1 (a0 : GNode) : Option (Res At) := crR [none] (RK1 a0)
def vK1 (a0 : GNode) : Bool := valO rB false (oK1 a0)
def cK1 (a0 : GNode) : Bool := okO rB (oK1 a0)
def conK1 : CON := on1 (rA ex58 enc58 fun _ _ h => ex58_spec h) fun a0 => some (cK1 a0, (.bool (vK1 a0), []))
theorem okK1 : OK 50 conK1 := okc1 CK1_ok (n := 80) (ts := [none]) (a := (rA ex58 enc58 fun _ _ h => ex58_spec h)) (r := rB) (d := false) (R := fun a0 => RK1 a0) (by kernel_rfl) fun a0 => run_RK1 a0
def libK1 : List (Nat × CON) := (50, conK1) :: libIn1
theorem libK1_ok : AllOK libK1 := .cons okK1 libIn1_ok
def CK2 : Cfg := { cs := libK1 }
theorem CK2_ok : CfgOK CK2 := { con := libK1_ok }
def RK2 (a0 : GLink) : Option (Res At) :=
  if cFm a0 = true then
   some ((.bool (!vFm a0)), [])
  else
   none
theorem run_RK2 (a0 : GLink) : runF CK2 80 52 [.agg (enc55 a0)] = RK2 a0 := by kernel_rfl
def oK2 (a0 : GLink) : Option (Res At) := crR [none] (RK2 a0)
def vK2 (a0 : GLink) : Bool := valO rB false (oK2 a0)
def cK2 (a0 : GLink) : Bool := okO rB (oK2 a0)
def conK2 : CON := on1 (rA ex55 enc55 fun _ _ h => ex55_spec h) fun a0 => some (cK2 a0, (.bool (vK2 a0), []))
theorem okK2 : OK 52 conK2 := okc1 CK2_ok (n := 80) (ts := [none]) (a := (rA ex55 enc55 fun _ _ h => ex55_spec h)) (r := rB) (d := false) (R := fun a0 => RK2 a0) (by kernel_rfl) fun a0 => run_RK2 a0
def libK2 : List (Nat × CON) := (52, conK2) :: libK1
theorem libK2_ok : AllOK libK2 := .cons okK2 libK1_ok
def CK3 : Cfg := { cs := libK2 }
theorem CK3_ok : CfgOK CK3 := { con := libK2_ok }
def RK3 (a0 : GDrive) : Option (Res At) :=
  if cLv a0.level = true then
   some ((.bool (!vLv a0.level)), [])
  else
   none
theorem run_RK3 (a0 : GDrive) : runF CK3 80 55 [.agg (enc89 a0)] = RK3 a0 := by kernel_rfl
def oK3 (a0 : GDrive) : Option (Res At) := crR [none] (RK3 a0)
def vK3 (a0 : GDrive) : Bool := valO rB false (oK3 a0)
def cK3 (a0 : GDrive) : Bool := okO rB (oK3 a0)
def conK3 : CON := on1 (rA ex89 enc89 fun _ _ h => ex89_spec h) fun a0 => some (cK3 a0, (.bool (vK3 a0), []))
theorem okK3 : OK 55 conK3 := okc1 CK3_ok (n := 80) (ts := [none]) (a := (rA ex89 enc89 fun _ _ h => ex89_spec h)) (r := rB) (d := false) (R := fun a0 => RK3 a0) (by kernel_rfl) fun a0 => run_RK3 a0
def libK3 : List (Nat × CON) := (55, conK3) :: libK2
theorem libK3_ok : AllOK libK3 := .cons okK3 libK2_ok
structure KIn22 where
  x0 : List GNode
  x4 : Int
  x7 : Int
  x8 : Int
structure EIn22 where
  x4 : Int
def SIn22 (k : KIn22) : St At := { env := [(0, .ro 58 k.x0), (1, .fn 50 []), (4, .int .i64 k.x4), (7, .int .i64 k.x7), (8, .int .i64 k.x8)], stk := [], hp := [], nx := 0 }
def XIn22 (k : EIn22) : St At := { env := [(4, .int .i64 k.x4)], stk := [], hp := [], nx := 0 }
def CIn22 : Cfg := { cs := libK3, ks := [((109, 2), [(0, none), (1, none), (4, none), (7, none), (8, none)])], xs := [((109, 2), [(4, none)])], lps := [] }
theorem CIn22_ok : CfgOK CIn22 := { con := libK3_ok }
def stIn22 {α : Type} (k : KIn22) (go : KIn22 → α) (ex ret : EIn22 → α) (no : α) : α :=
  if decide (k.x8 < k.x7) = true then
   if 0 ≤ k.x8 then
    if k.x8 < (↑k.x0.length : Int) then
     if cK1 (gt { name := { data := #[] : ByteArray }, block := { data := #[] : ByteArray }, params := [], inputs := [] : GNode } k.x0 k.x8.toNat) = true then
      if vK1 (gt { name := { data := #[] : ByteArray }, block := { data := #[] : ByteArray }, params := [], inputs := [] : GNode } k.x0 k.x8.toNat) = true then
       ret ⟨(k.x8)⟩
      else
       go ⟨(k.x0), (k.x4), (k.x7), (IntKind.i64.wrap (k.x8 + 1))⟩
     else
      no
    else
     no
   else
    no
  else
   ex ⟨(k.x4)⟩
def stepIn22 (k : KIn22) : Nx KIn22 EIn22 := stIn22 k .go .ex .ret .no
theorem BIn22 (k : KIn22) (m : Nat) (R : St At → Option (Res At)) (K : Xit → St At → Option (Res At)) : B CIn22 109 2 (m + 60) (SIn22 k) R K = stIn22 k (fun k => R (SIn22 k)) (fun x => K (.ex 0) (XIn22 x)) (fun x => K .ret (XIn22 x)) none := by kernel_rfl
def uIn22 (st : St At) : Option KIn22 := match st with
  | ⟨[(0, vx0), (1, .fn 50 []), (4, .int .i64 x4), (7, .int .i64 x7), (8, .int .i64 x8)], [], [], 0⟩ => (match roV 58 vx0 with | some x0 => some ⟨x0, x4, x7, x8⟩ | _ => none)
  | _ => none
theorem uIn22_spec {st : St At} {k : KIn22} (h : uIn22 st = some k) : st = SIn22 k := by
  unfold uIn22 at h
  split at h
  · split at h
    · rename_i h0
      obtain rfl := Option.some.inj h
      rw [roV_spec h0]
      rfl
    · cases h
  · cases h
theorem oklIn22 {g : LP} (hg : ∀ st K q, g st K = some q → ∃ k n e, st = SIn22 k ∧ iter stepIn22 n k = some e ∧ e.k 0 XIn22 XIn22 K = some q) : OKL 109 2 g := okl_iter CIn22_ok (S := SIn22) (X := XIn22) (Y := XIn22) (step := stepIn22) (id := 0) (by kernel_rfl) (by kernel_rfl)
  (fun k m R K => by rw [BIn22]; unfold stepIn22 stIn22; simp only [Nx.k_ite]; rfl) (fun k => by kernel_rfl) hg
theorem okfIn22 {g : LP} {fuel : KIn22 → Nat} {ok : KIn22 → Bool} {F : KIn22 → Fx EIn22} (hF : ∀ k, ok k = true → iter stepIn22 (fuel k) k = some (F k)) (hg : ∀ st K, g st K = (match uIn22 st with | some k => if ok k = true then (F k).k 0 XIn22 XIn22 K else none | none => none)) : OKL 109 2 g := oklIn22 fun st K q h => by
  rw [hg] at h
  split at h
  · rename_i k hu
    split at h
    · rename_i hok; exact ⟨k, _, _, uIn22_spec hu, hF k hok, h⟩
    · cases h
  · cases h
abbrev B_In22 := Unit
def fIn22 (k : KIn22) (b : B_In22) (p : GNode × Nat) : Option (B_In22 ⊕ EIn22) :=
  if cK1 p.1 = true then
   if vK1 p.1 = true then
    some (.inr ⟨((p.2 : Int))⟩)
   else
    some (.inl ())
  else
   none
def xIn22 (k : KIn22) (b : B_In22) : EIn22 := ⟨(k.x4)⟩
def putIn22 (k : KIn22) (b : B_In22) (j : Nat) : KIn22 := ⟨k.x0, k.x4, k.x7, (j : Int)⟩
def bIn22 (k : KIn22) : B_In22 := ()
def oIn22 (k : KIn22) : Option (B_In22 ⊕ EIn22) := scanO (fIn22 k) (bIn22 k) (k.x0.zipIdx)
def okIn22 (k : KIn22) : Bool := decide (k.x8 = 0) && (decide (k.x7 = (k.x0.length : Int)) && (Nat.ble k.x0.length 9223372036854775807 && isOO (oIn22 k)))
def FIn22 (k : KIn22) : Fx EIn22 := fxO (xIn22 k) (bIn22 k) (xIn22 k (bIn22 k)) (oIn22 k)
theorem sIn22 (k : KIn22) (hn : k.x7 = (k.x0.length : Int)) (hm : k.x0.length ≤ 9223372036854775807) (b : B_In22) (j : Nat) (h : j < k.x0.length) : stepIn22 (putIn22 k b j) = nxO (fun b' => putIn22 k b' (j + 1)) (fIn22 k b (k.x0[j], j)) := by
  unfold stepIn22 stIn22 fIn22 putIn22
  dsimp only
  simp only [hn, nxO_ite, cnt' h hm, gtj' _ _ _ h, if_pos (lt1' h), if_pos (lt0' (j := j)), if_pos (lt2' h)]
  rfl
theorem eIn22 (k : KIn22) (hn : k.x7 = (k.x0.length : Int)) (b : B_In22) : stepIn22 (putIn22 k b k.x0.length) = .ex (xIn22 k b) := by
  unfold stepIn22 stIn22 putIn22
  dsimp only
  rw [hn, if_neg lt3']
  rfl
theorem iIn22 (k : KIn22) (h : okIn22 k = true) : iter stepIn22 (k.x0.zipIdx).length k = some (FIn22 k) := by
  unfold okIn22 at h
  simp only [Bool.and_eq_true, decide_eq_true_eq] at h
  obtain ⟨h0, h1, h2, h3⟩ := h
  replace h2 := Nat.le_of_ble_eq_true h2
  have e : k = putIn22 k (bIn22 k) 0 := by cases k; dsimp only at h0; subst h0; rfl
  have := iter_scanO (step := stepIn22) (k.x0.zipIdx) (putIn22 k) (fIn22 k) (xIn22 k) (bIn22 k) (xIn22 k (bIn22 k)) (fun b j h => (by rw [show (k.x0.zipIdx)[j] = (k.x0[j]'(by simpa using h), j) by simp]; exact sIn22 k h1 h2 b j (by simpa using h))) (fun b => (by rw [show (k.x0.zipIdx).length = k.x0.length by simp]; exact eIn22 k h1 b)) (k.x0.zipIdx).length 0 (bIn22 k) (by simp) (by rw [List.drop_zero]; exact h3)
  rw [List.drop_zero, ← e] at this
  exact this
def gIn22 : LP := fun st K => match uIn22 st with | some k => if okIn22 k = true then (if isLO (oIn22 k) = true then K (.ex 0) (XIn22 (⟨(k.x4)⟩ : EIn22)) else K .ret (XIn22 (getRO (xIn22 k (bIn22 k)) (oIn22 k)))) else none | none => none
theorem okgIn22 : OKL 109 2 gIn22 := okfIn22 (fuel := fun k => (k.x0.zipIdx).length) (ok := okIn22) (F := FIn22) iIn22 fun st K => by
  unfold gIn22
  cases hu : uIn22 st with
  | none => rfl
  | some k =>
    dsimp only
    split
    · unfold FIn22 fxO
      cases isLO (oIn22 k) <;> rfl
    · rfl
def CIn2 : Cfg := { cs := libK3, ks := CIn22.ks, xs := CIn22.xs, lps := [((109, 2), gIn22)] }
theorem CIn2_ok : CfgOK CIn2 := { con := libK3_ok, lp := .cons okgIn22 .nil }
def RIn2 (a0 : List GNode) (a1 : Unit) : Option (Res At) :=
  if okIn22 { x0 := a0, x4 := 0, x7 := (↑a0.length : Int), x8 := 0 : KIn22 } = true then
   if isLO (oIn22 { x0 := a0, x4 := 0, x7 := (↑a0.length : Int), x8 := 0 : KIn22 }) = true then
    some ((.int .i64 (-1)), [])
   else
    some ((.int .i64 ((getRO (xIn22 { x0 := a0, x4 := 0, x7 := (↑a0.length : Int), x8 := 0 : KIn22 } (bIn22 { x0 := a0, x4 := 0, x7 := (↑a0.length : Int), x8 := 0 : KIn22 })) (oIn22 { x0 := a0, x4 := 0, x7 := (↑a0.length : Int), x8 := 0 : KIn22 })).x4)), [])
  else
   none
theorem run_RIn2 (a0 : List GNode) (a1 : Unit) : runF CIn2 80 109 [.ro 58 a0, .fn 50 []] = RIn2 a0 a1 := by kernel_rfl
def oIn2 (a0 : List GNode) (a1 : Unit) : Option (Res At) := crR [none] (RIn2 a0 a1)
def vIn2 (a0 : List GNode) (a1 : Unit) : Int := valO (rI .i64) 0 (oIn2 a0 a1)
def cIn2 (a0 : List GNode) (a1 : Unit) : Bool := okO (rI .i64) (oIn2 a0 a1)
def conIn2 : CON := on2 (rR 58) (rF0 50) fun a0 a1 => some (cIn2 a0 a1, (.int .i64 (vIn2 a0 a1), []))
theorem okIn2 : OK 109 conIn2 := okc2 CIn2_ok (n := 80) (ts := [none]) (a := (rR 58)) (b := (rF0 50)) (r := (rI .i64)) (d := 0) (R := fun a0 a1 => RIn2 a0 a1) (by kernel_rfl) fun a0 a1 => run_RIn2 a0 a1
def libIn2 : List (Nat × CON) := (109, orC conIn2 conIn1) :: libK3
theorem libIn2_ok : AllOK libIn2 := .cons (ok_or okIn2 okIn1) libK3_ok
structure KIl2 where
  x0 : List GLink
  x4 : Int
  x7 : Int
  x8 : Int
structure EIl2 where
  x4 : Int
def SIl2 (k : KIl2) : St At := { env := [(0, .ro 55 k.x0), (1, .fn 52 []), (4, .int .i64 k.x4), (7, .int .i64 k.x7), (8, .int .i64 k.x8)], stk := [], hp := [], nx := 0 }
def XIl2 (k : EIl2) : St At := { env := [(4, .int .i64 k.x4)], stk := [], hp := [], nx := 0 }
def CIl2 : Cfg := { cs := libIn2, ks := [((110, 2), [(0, none), (1, none), (4, none), (7, none), (8, none)])], xs := [((110, 2), [(4, none)])], lps := [] }
theorem CIl2_ok : CfgOK CIl2 := { con := libIn2_ok }
def stIl2 {α : Type} (k : KIl2) (go : KIl2 → α) (ex ret : EIl2 → α) (no : α) : α :=
  if decide (k.x8 < k.x7) = true then
   if 0 ≤ k.x8 then
    if k.x8 < (↑k.x0.length : Int) then
     if cK2 (gt { node := { data := #[] : ByteArray }, port := 0, point := { data := #[] : ByteArray }, const := { kind := 0, n := 0 : GValue }, delayed := false, initial := { kind := 0, n := 0 : GValue } : GLink } k.x0 k.x8.toNat) = true then
      if vK2 (gt { node := { data := #[] : ByteArray }, port := 0, point := { data := #[] : ByteArray }, const := { kind := 0, n := 0 : GValue }, delayed := false, initial := { kind := 0, n := 0 : GValue } : GLink } k.x0 k.x8.toNat) = true then
       ret ⟨(k.x8)⟩
      else
       go ⟨(k.x0), (k.x4), (k.x7), (IntKind.i64.wrap (k.x8 + 1))⟩
     else
      no
    else
     no
   else
    no
  else
   ex ⟨(k.x4)⟩
def stepIl2 (k : KIl2) : Nx KIl2 EIl2 := stIl2 k .go .ex .ret .no
theorem BIl2 (k : KIl2) (m : Nat) (R : St At → Option (Res At)) (K : Xit → St At → Option (Res At)) : B CIl2 110 2 (m + 60) (SIl2 k) R K = stIl2 k (fun k => R (SIl2 k)) (fun x => K (.ex 0) (XIl2 x)) (fun x => K .ret (XIl2 x)) none := by kernel_rfl
def uIl2 (st : St At) : Option KIl2 := match st with
  | ⟨[(0, vx0), (1, .fn 52 []), (4, .int .i64 x4), (7, .int .i64 x7), (8, .int .i64 x8)], [], [], 0⟩ => (match roV 55 vx0 with | some x0 => some ⟨x0, x4, x7, x8⟩ | _ => none)
  | _ => none
theorem uIl2_spec {st : St At} {k : KIl2} (h : uIl2 st = some k) : st = SIl2 k := by
  unfold uIl2 at h
  split at h
  · split at h
    · rename_i h0
      obtain rfl := Option.some.inj h
      rw [roV_spec h0]
      rfl
    · cases h
  · cases h
theorem oklIl2 {g : LP} (hg : ∀ st K q, g st K = some q → ∃ k n e, st = SIl2 k ∧ iter stepIl2 n k = some e ∧ e.k 0 XIl2 XIl2 K = some q) : OKL 110 2 g := okl_iter CIl2_ok (S := SIl2) (X := XIl2) (Y := XIl2) (step := stepIl2) (id := 0) (by kernel_rfl) (by kernel_rfl)
  (fun k m R K => by rw [BIl2]; unfold stepIl2 stIl2; simp only [Nx.k_ite]; rfl) (fun k => by kernel_rfl) hg
theorem okfIl2 {g : LP} {fuel : KIl2 → Nat} {ok : KIl2 → Bool} {F : KIl2 → Fx EIl2} (hF : ∀ k, ok k = true → iter stepIl2 (fuel k) k = some (F k)) (hg : ∀ st K, g st K = (match uIl2 st with | some k => if ok k = true then (F k).k 0 XIl2 XIl2 K else none | none => none)) : OKL 110 2 g := oklIl2 fun st K q h => by
  rw [hg] at h
  split at h
  · rename_i k hu
    split at h
    · rename_i hok; exact ⟨k, _, _, uIl2_spec hu, hF k hok, h⟩
    · cases h
  · cases h
abbrev B_Il2 := Unit
def fIl2 (k : KIl2) (b : B_Il2) (p : GLink × Nat) : Option (B_Il2 ⊕ EIl2) :=
  if cK2 p.1 = true then
   if vK2 p.1 = true then
    some (.inr ⟨((p.2 : Int))⟩)
   else
    some (.inl ())
  else
   none
def xIl2 (k : KIl2) (b : B_Il2) : EIl2 := ⟨(k.x4)⟩
def putIl2 (k : KIl2) (b : B_Il2) (j : Nat) : KIl2 := ⟨k.x0, k.x4, k.x7, (j : Int)⟩
def bIl2 (k : KIl2) : B_Il2 := ()
def oIl2 (k : KIl2) : Option (B_Il2 ⊕ EIl2) := scanO (fIl2 k) (bIl2 k) (k.x0.zipIdx)
def okIl2 (k : KIl2) : Bool := decide (k.x8 = 0) && (decide (k.x7 = (k.x0.length : Int)) && (Nat.ble k.x0.length 9223372036854775807 && isOO (oIl2 k)))
def FIl2 (k : KIl2) : Fx EIl2 := fxO (xIl2 k) (bIl2 k) (xIl2 k (bIl2 k)) (oIl2 k)
theorem sIl2 (k : KIl2) (hn : k.x7 = (k.x0.length : Int)) (hm : k.x0.length ≤ 9223372036854775807) (b : B_Il2) (j : Nat) (h : j < k.x0.length) : stepIl2 (putIl2 k b j) = nxO (fun b' => putIl2 k b' (j + 1)) (fIl2 k b (k.x0[j], j)) := by
  unfold stepIl2 stIl2 fIl2 putIl2
  dsimp only
  simp only [hn, nxO_ite, cnt' h hm, gtj' _ _ _ h, if_pos (lt1' h), if_pos (lt0' (j := j)), if_pos (lt2' h)]
  rfl
theorem eIl2 (k : KIl2) (hn : k.x7 = (k.x0.length : Int)) (b : B_Il2) : stepIl2 (putIl2 k b k.x0.length) = .ex (xIl2 k b) := by
  unfold stepIl2 stIl2 putIl2
  dsimp only
  rw [hn, if_neg lt3']
  rfl
theorem iIl2 (k : KIl2) (h : okIl2 k = true) : iter stepIl2 (k.x0.zipIdx).length k = some (FIl2 k) := by
  unfold okIl2 at h
  simp only [Bool.and_eq_true, decide_eq_true_eq] at h
  obtain ⟨h0, h1, h2, h3⟩ := h
  replace h2 := Nat.le_of_ble_eq_true h2
  have e : k = putIl2 k (bIl2 k) 0 := by cases k; dsimp only at h0; subst h0; rfl
  have := iter_scanO (step := stepIl2) (k.x0.zipIdx) (putIl2 k) (fIl2 k) (xIl2 k) (bIl2 k) (xIl2 k (bIl2 k)) (fun b j h => (by rw [show (k.x0.zipIdx)[j] = (k.x0[j]'(by simpa using h), j) by simp]; exact sIl2 k h1 h2 b j (by simpa using h))) (fun b => (by rw [show (k.x0.zipIdx).length = k.x0.length by simp]; exact eIl2 k h1 b)) (k.x0.zipIdx).length 0 (bIl2 k) (by simp) (by rw [List.drop_zero]; exact h3)
  rw [List.drop_zero, ← e] at this
  exact this
def gIl2 : LP := fun st K => match uIl2 st with | some k => if okIl2 k = true then (if isLO (oIl2 k) = true then K (.ex 0) (XIl2 (⟨(k.x4)⟩ : EIl2)) else K .ret (XIl2 (getRO (xIl2 k (bIl2 k)) (oIl2 k)))) else none | none => none
theorem okgIl2 : OKL 110 2 gIl2 := okfIl2 (fuel := fun k => (k.x0.zipIdx).length) (ok := okIl2) (F := FIl2) iIl2 fun st K => by
  unfold gIl2
  cases hu : uIl2 st with
  | none => rfl
  | some k =>
    dsimp only
    split
    · unfold FIl2 fxO
      cases isLO (oIl2 k) <;> rfl
    · rfl
def CIl : Cfg := { cs := libIn2, ks := CIl2.ks, xs := CIl2.xs, lps := [((110, 2), gIl2)] }
theorem CIl_ok : CfgOK CIl := { con := libIn2_ok, lp := .cons okgIl2 .nil }
def RIl (a0 : List GLink) (a1 : Unit) : Option (Res At) :=
  if okIl2 { x0 := a0, x4 := 0, x7 := (↑a0.length : Int), x8 := 0 : KIl2 } = true then
   if isLO (oIl2 { x0 := a0, x4 := 0, x7 := (↑a0.length : Int), x8 := 0 : KIl2 }) = true then
    some ((.int .i64 (-1)), [])
   else
    some ((.int .i64 ((getRO (xIl2 { x0 := a0, x4 := 0, x7 := (↑a0.length : Int), x8 := 0 : KIl2 } (bIl2 { x0 := a0, x4 := 0, x7 := (↑a0.length : Int), x8 := 0 : KIl2 })) (oIl2 { x0 := a0, x4 := 0, x7 := (↑a0.length : Int), x8 := 0 : KIl2 })).x4)), [])
  else
   none
theorem run_RIl (a0 : List GLink) (a1 : Unit) : runF CIl 80 110 [.ro 55 a0, .fn 52 []] = RIl a0 a1 := by kernel_rfl
def oIl (a0 : List GLink) (a1 : Unit) : Option (Res At) := crR [none] (RIl a0 a1)
def vIl (a0 : List GLink) (a1 : Unit) : Int := valO (rI .i64) 0 (oIl a0 a1)
def cIl (a0 : List GLink) (a1 : Unit) : Bool := okO (rI .i64) (oIl a0 a1)
def conIl : CON := on2 (rR 55) (rF0 52) fun a0 a1 => some (cIl a0 a1, (.int .i64 (vIl a0 a1), []))
theorem okIl : OK 110 conIl := okc2 CIl_ok (n := 80) (ts := [none]) (a := (rR 55)) (b := (rF0 52)) (r := (rI .i64)) (d := 0) (R := fun a0 a1 => RIl a0 a1) (by kernel_rfl) fun a0 a1 => run_RIl a0 a1
def libIl : List (Nat × CON) := (110, conIl) :: libIn2
theorem libIl_ok : AllOK libIl := .cons okIl libIn2_ok
structure KId12 where
  x0 : List GDrive
  x4 : Int
  x7 : Int
  x8 : Int
structure EId12 where
  x4 : Int
def SId12 (k : KId12) : St At := { env := [(0, .ro 89 k.x0), (1, .fn 55 []), (4, .int .i64 k.x4), (7, .int .i64 k.x7), (8, .int .i64 k.x8)], stk := [], hp := [], nx := 0 }
def XId12 (k : EId12) : St At := { env := [(4, .int .i64 k.x4)], stk := [], hp := [], nx := 0 }
def CId12 : Cfg := { cs := libIl, ks := [((112, 2), [(0, none), (1, none), (4, none), (7, none), (8, none)])], xs := [((112, 2), [(4, none)])], lps := [] }
theorem CId12_ok : CfgOK CId12 := { con := libIl_ok }
def stId12 {α : Type} (k : KId12) (go : KId12 → α) (ex ret : EId12 → α) (no : α) : α :=
  if decide (k.x8 < k.x7) = true then
   if 0 ≤ k.x8 then
    if k.x8 < (↑k.x0.length : Int) then
     if cK3 (gt { point := { data := #[] : ByteArray }, level := 0, from_ := { node := { data := #[] : ByteArray }, port := 0, point := { data := #[] : ByteArray }, const := { kind := 0, n := 0 : GValue }, delayed := false, initial := { kind := 0, n := 0 : GValue } : GLink } : GDrive } k.x0 k.x8.toNat) = true then
      if vK3 (gt { point := { data := #[] : ByteArray }, level := 0, from_ := { node := { data := #[] : ByteArray }, port := 0, point := { data := #[] : ByteArray }, const := { kind := 0, n := 0 : GValue }, delayed := false, initial := { kind := 0, n := 0 : GValue } : GLink } : GDrive } k.x0 k.x8.toNat) = true then
       ret ⟨(k.x8)⟩
      else
       go ⟨(k.x0), (k.x4), (k.x7), (IntKind.i64.wrap (k.x8 + 1))⟩
     else
      no
    else
     no
   else
    no
  else
   ex ⟨(k.x4)⟩
def stepId12 (k : KId12) : Nx KId12 EId12 := stId12 k .go .ex .ret .no
theorem BId12 (k : KId12) (m : Nat) (R : St At → Option (Res At)) (K : Xit → St At → Option (Res At)) : B CId12 112 2 (m + 60) (SId12 k) R K = stId12 k (fun k => R (SId12 k)) (fun x => K (.ex 0) (XId12 x)) (fun x => K .ret (XId12 x)) none := by kernel_rfl
def uId12 (st : St At) : Option KId12 := match st with
  | ⟨[(0, vx0), (1, .fn 55 []), (4, .int .i64 x4), (7, .int .i64 x7), (8, .int .i64 x8)], [], [], 0⟩ => (match roV 89 vx0 with | some x0 => some ⟨x0, x4, x7, x8⟩ | _ => none)
  | _ => none
theorem uId12_spec {st : St At} {k : KId12} (h : uId12 st = some k) : st = SId12 k := by
  unfold uId12 at h
  split at h
  · split at h
    · rename_i h0
      obtain rfl := Option.some.inj h
      rw [roV_spec h0]
      rfl
    · cases h
  · cases h
theorem oklId12 {g : LP} (hg : ∀ st K q, g st K = some q → ∃ k n e, st = SId12 k ∧ iter stepId12 n k = some e ∧ e.k 0 XId12 XId12 K = some q) : OKL 112 2 g := okl_iter CId12_ok (S := SId12) (X := XId12) (Y := XId12) (step := stepId12) (id := 0) (by kernel_rfl) (by kernel_rfl)
  (fun k m R K => by rw [BId12]; unfold stepId12 stId12; simp only [Nx.k_ite]; rfl) (fun k => by kernel_rfl) hg
theorem okfId12 {g : LP} {fuel : KId12 → Nat} {ok : KId12 → Bool} {F : KId12 → Fx EId12} (hF : ∀ k, ok k = true → iter stepId12 (fuel k) k = some (F k)) (hg : ∀ st K, g st K = (match uId12 st with | some k => if ok k = true then (F k).k 0 XId12 XId12 K else none | none => none)) : OKL 112 2 g := oklId12 fun st K q h => by
  rw [hg] at h
  split at h
  · rename_i k hu
    split at h
    · rename_i hok; exact ⟨k, _, _, uId12_spec hu, hF k hok, h⟩
    · cases h
  · cases h
abbrev B_Id12 := Unit
def fId12 (k : KId12) (b : B_Id12) (p : GDrive × Nat) : Option (B_Id12 ⊕ EId12) :=
  if cK3 p.1 = true then
   if vK3 p.1 = true then
    some (.inr ⟨((p.2 : Int))⟩)
   else
    some (.inl ())
  else
   none
def xId12 (k : KId12) (b : B_Id12) : EId12 := ⟨(k.x4)⟩
def putId12 (k : KId12) (b : B_Id12) (j : Nat) : KId12 := ⟨k.x0, k.x4, k.x7, (j : Int)⟩
def bId12 (k : KId12) : B_Id12 := ()
def oId12 (k : KId12) : Option (B_Id12 ⊕ EId12) := scanO (fId12 k) (bId12 k) (k.x0.zipIdx)
def okId12 (k : KId12) : Bool := decide (k.x8 = 0) && (decide (k.x7 = (k.x0.length : Int)) && (Nat.ble k.x0.length 9223372036854775807 && isOO (oId12 k)))
def FId12 (k : KId12) : Fx EId12 := fxO (xId12 k) (bId12 k) (xId12 k (bId12 k)) (oId12 k)
theorem sId12 (k : KId12) (hn : k.x7 = (k.x0.length : Int)) (hm : k.x0.length ≤ 9223372036854775807) (b : B_Id12) (j : Nat) (h : j < k.x0.length) : stepId12 (putId12 k b j) = nxO (fun b' => putId12 k b' (j + 1)) (fId12 k b (k.x0[j], j)) := by
  unfold stepId12 stId12 fId12 putId12
  dsimp only
  simp only [hn, nxO_ite, cnt' h hm, gtj' _ _ _ h, if_pos (lt1' h), if_pos (lt0' (j := j)), if_pos (lt2' h)]
  rfl
theorem eId12 (k : KId12) (hn : k.x7 = (k.x0.length : Int)) (b : B_Id12) : stepId12 (putId12 k b k.x0.length) = .ex (xId12 k b) := by
  unfold stepId12 stId12 putId12
  dsimp only
  rw [hn, if_neg lt3']
  rfl
theorem iId12 (k : KId12) (h : okId12 k = true) : iter stepId12 (k.x0.zipIdx).length k = some (FId12 k) := by
  unfold okId12 at h
  simp only [Bool.and_eq_true, decide_eq_true_eq] at h
  obtain ⟨h0, h1, h2, h3⟩ := h
  replace h2 := Nat.le_of_ble_eq_true h2
  have e : k = putId12 k (bId12 k) 0 := by cases k; dsimp only at h0; subst h0; rfl
  have := iter_scanO (step := stepId12) (k.x0.zipIdx) (putId12 k) (fId12 k) (xId12 k) (bId12 k) (xId12 k (bId12 k)) (fun b j h => (by rw [show (k.x0.zipIdx)[j] = (k.x0[j]'(by simpa using h), j) by simp]; exact sId12 k h1 h2 b j (by simpa using h))) (fun b => (by rw [show (k.x0.zipIdx).length = k.x0.length by simp]; exact eId12 k h1 b)) (k.x0.zipIdx).length 0 (bId12 k) (by simp) (by rw [List.drop_zero]; exact h3)
  rw [List.drop_zero, ← e] at this
  exact this
def gId12 : LP := fun st K => match uId12 st with | some k => if okId12 k = true then (if isLO (oId12 k) = true then K (.ex 0) (XId12 (⟨(k.x4)⟩ : EId12)) else K .ret (XId12 (getRO (xId12 k (bId12 k)) (oId12 k)))) else none | none => none
theorem okgId12 : OKL 112 2 gId12 := okfId12 (fuel := fun k => (k.x0.zipIdx).length) (ok := okId12) (F := FId12) iId12 fun st K => by
  unfold gId12
  cases hu : uId12 st with
  | none => rfl
  | some k =>
    dsimp only
    split
    · unfold FId12 fxO
      cases isLO (oId12 k) <;> rfl
    · rfl
def CId1 : Cfg := { cs := libIl, ks := CId12.ks, xs := CId12.xs, lps := [((112, 2), gId12)] }
theorem CId1_ok : CfgOK CId1 := { con := libIl_ok, lp := .cons okgId12 .nil }
def RId1 (a0 : List GDrive) (a1 : Unit) : Option (Res At) :=
  if okId12 { x0 := a0, x4 := 0, x7 := (↑a0.length : Int), x8 := 0 : KId12 } = true then
   if isLO (oId12 { x0 := a0, x4 := 0, x7 := (↑a0.length : Int), x8 := 0 : KId12 }) = true then
    some ((.int .i64 (-1)), [])
   else
    some ((.int .i64 ((getRO (xId12 { x0 := a0, x4 := 0, x7 := (↑a0.length : Int), x8 := 0 : KId12 } (bId12 { x0 := a0, x4 := 0, x7 := (↑a0.length : Int), x8 := 0 : KId12 })) (oId12 { x0 := a0, x4 := 0, x7 := (↑a0.length : Int), x8 := 0 : KId12 })).x4)), [])
  else
   none
theorem run_RId1 (a0 : List GDrive) (a1 : Unit) : runF CId1 80 112 [.ro 89 a0, .fn 55 []] = RId1 a0 a1 := by kernel_rfl
def oId1 (a0 : List GDrive) (a1 : Unit) : Option (Res At) := crR [none] (RId1 a0 a1)
def vId1 (a0 : List GDrive) (a1 : Unit) : Int := valO (rI .i64) 0 (oId1 a0 a1)
def cId1 (a0 : List GDrive) (a1 : Unit) : Bool := okO (rI .i64) (oId1 a0 a1)
def conId1 : CON := on2 (rR 89) (rF0 55) fun a0 a1 => some (cId1 a0 a1, (.int .i64 (vId1 a0 a1), []))
theorem okId1 : OK 112 conId1 := okc2 CId1_ok (n := 80) (ts := [none]) (a := (rR 89)) (b := (rF0 55)) (r := (rI .i64)) (d := 0) (R := fun a0 a1 => RId1 a0 a1) (by kernel_rfl) fun a0 a1 => run_RId1 a0 a1
def libId1 : List (Nat × CON) := (112, conId1) :: libIl
theorem libId1_ok : AllOK libId1 := .cons okId1 libIl_ok
structure KIp12 where
  x0 : List GPoint
  x1 : ByteArray
  x4 : Int
  x7 : Int
  x8 : Int
structure EIp12 where
  x4 : Int
def SIp12 (k : KIp12) : St At := { env := [(0, .ro 66 k.x0), (1, .fn 115 [.rel [.str k.x1]]), (4, .int .i64 k.x4), (7, .int .i64 k.x7), (8, .int .i64 k.x8)], stk := [], hp := [], nx := 0 }
def XIp12 (k : EIp12) : St At := { env := [(4, .int .i64 k.x4)], stk := [], hp := [], nx := 0 }
def CIp12 : Cfg := { cs := libId1, ks := [((61, 2), [(0, none), (1, none), (4, none), (7, none), (8, none)])], xs := [((61, 2), [(4, none)])], lps := [] }
theorem CIp12_ok : CfgOK CIp12 := { con := libId1_ok }
def stIp12 {α : Type} (k : KIp12) (go : KIp12 → α) (ex ret : EIp12 → α) (no : α) : α :=
  if decide (k.x8 < k.x7) = true then
   if 0 ≤ k.x8 then
    if k.x8 < (↑k.x0.length : Int) then
     if eqB (gt { name := { data := #[] : ByteArray }, kind := 0, role := 0, unit_ := { data := #[] : ByteArray }, low := 0, high := 0, step := 0, states := [], default_ := { kind := 0, n := 0 : GValue }, minOn := 0, minOff := 0 : GPoint } k.x0 k.x8.toNat).name k.x1 = true then
      ret ⟨(k.x8)⟩
     else
      go ⟨(k.x0), (k.x1), (k.x4), (k.x7), (IntKind.i64.wrap (k.x8 + 1))⟩
    else
     no
   else
    no
  else
   ex ⟨(k.x4)⟩
def stepIp12 (k : KIp12) : Nx KIp12 EIp12 := stIp12 k .go .ex .ret .no
theorem BIp12 (k : KIp12) (m : Nat) (R : St At → Option (Res At)) (K : Xit → St At → Option (Res At)) : B CIp12 61 2 (m + 60) (SIp12 k) R K = stIp12 k (fun k => R (SIp12 k)) (fun x => K (.ex 0) (XIp12 x)) (fun x => K .ret (XIp12 x)) none := by kernel_rfl
def uIp12 (st : St At) : Option KIp12 := match st with
  | ⟨[(0, vx0), (1, .fn 115 [.rel [.str x1]]), (4, .int .i64 x4), (7, .int .i64 x7), (8, .int .i64 x8)], [], [], 0⟩ => (match roV 66 vx0 with | some x0 => some ⟨x0, x1, x4, x7, x8⟩ | _ => none)
  | _ => none
theorem uIp12_spec {st : St At} {k : KIp12} (h : uIp12 st = some k) : st = SIp12 k := by
  unfold uIp12 at h
  split at h
  · split at h
    · rename_i h0
      obtain rfl := Option.some.inj h
      rw [roV_spec h0]
      rfl
    · cases h
  · cases h
theorem oklIp12 {g : LP} (hg : ∀ st K q, g st K = some q → ∃ k n e, st = SIp12 k ∧ iter stepIp12 n k = some e ∧ e.k 0 XIp12 XIp12 K = some q) : OKL 61 2 g := okl_iter CIp12_ok (S := SIp12) (X := XIp12) (Y := XIp12) (step := stepIp12) (id := 0) (by kernel_rfl) (by kernel_rfl)
  (fun k m R K => by rw [BIp12]; unfold stepIp12 stIp12; simp only [Nx.k_ite]; rfl) (fun k => by kernel_rfl) hg
theorem okfIp12 {g : LP} {fuel : KIp12 → Nat} {ok : KIp12 → Bool} {F : KIp12 → Fx EIp12} (hF : ∀ k, ok k = true → iter stepIp12 (fuel k) k = some (F k)) (hg : ∀ st K, g st K = (match uIp12 st with | some k => if ok k = true then (F k).k 0 XIp12 XIp12 K else none | none => none)) : OKL 61 2 g := oklIp12 fun st K q h => by
  rw [hg] at h
  split at h
  · rename_i k hu
    split at h
    · rename_i hok; exact ⟨k, _, _, uIp12_spec hu, hF k hok, h⟩
    · cases h
  · cases h
abbrev B_Ip12 := Unit
def fIp12 (k : KIp12) (b : B_Ip12) (p : GPoint × Nat) : Option (B_Ip12 ⊕ EIp12) :=
  if eqB p.1.name k.x1 = true then
   some (.inr ⟨((p.2 : Int))⟩)
  else
   some (.inl ())
def xIp12 (k : KIp12) (b : B_Ip12) : EIp12 := ⟨(k.x4)⟩
def putIp12 (k : KIp12) (b : B_Ip12) (j : Nat) : KIp12 := ⟨k.x0, k.x1, k.x4, k.x7, (j : Int)⟩
def bIp12 (k : KIp12) : B_Ip12 := ()
def oIp12 (k : KIp12) : Option (B_Ip12 ⊕ EIp12) := scanO (fIp12 k) (bIp12 k) (k.x0.zipIdx)
def okIp12 (k : KIp12) : Bool := decide (k.x8 = 0) && (decide (k.x7 = (k.x0.length : Int)) && (Nat.ble k.x0.length 9223372036854775807 && isOO (oIp12 k)))
def FIp12 (k : KIp12) : Fx EIp12 := fxO (xIp12 k) (bIp12 k) (xIp12 k (bIp12 k)) (oIp12 k)
theorem sIp12 (k : KIp12) (hn : k.x7 = (k.x0.length : Int)) (hm : k.x0.length ≤ 9223372036854775807) (b : B_Ip12) (j : Nat) (h : j < k.x0.length) : stepIp12 (putIp12 k b j) = nxO (fun b' => putIp12 k b' (j + 1)) (fIp12 k b (k.x0[j], j)) := by
  unfold stepIp12 stIp12 fIp12 putIp12
  dsimp only
  simp only [hn, nxO_ite, cnt' h hm, gtj' _ _ _ h, if_pos (lt1' h), if_pos (lt0' (j := j)), if_pos (lt2' h)]
  rfl
theorem eIp12 (k : KIp12) (hn : k.x7 = (k.x0.length : Int)) (b : B_Ip12) : stepIp12 (putIp12 k b k.x0.length) = .ex (xIp12 k b) := by
  unfold stepIp12 stIp12 putIp12
  dsimp only
  rw [hn, if_neg lt3']
  rfl
theorem iIp12 (k : KIp12) (h : okIp12 k = true) : iter stepIp12 (k.x0.zipIdx).length k = some (FIp12 k) := by
  unfold okIp12 at h
  simp only [Bool.and_eq_true, decide_eq_true_eq] at h
  obtain ⟨h0, h1, h2, h3⟩ := h
  replace h2 := Nat.le_of_ble_eq_true h2
  have e : k = putIp12 k (bIp12 k) 0 := by cases k; dsimp only at h0; subst h0; rfl
  have := iter_scanO (step := stepIp12) (k.x0.zipIdx) (putIp12 k) (fIp12 k) (xIp12 k) (bIp12 k) (xIp12 k (bIp12 k)) (fun b j h => (by rw [show (k.x0.zipIdx)[j] = (k.x0[j]'(by simpa using h), j) by simp]; exact sIp12 k h1 h2 b j (by simpa using h))) (fun b => (by rw [show (k.x0.zipIdx).length = k.x0.length by simp]; exact eIp12 k h1 b)) (k.x0.zipIdx).length 0 (bIp12 k) (by simp) (by rw [List.drop_zero]; exact h3)
  rw [List.drop_zero, ← e] at this
  exact this
def gIp12 : LP := fun st K => match uIp12 st with | some k => if okIp12 k = true then (if isLO (oIp12 k) = true then K (.ex 0) (XIp12 (⟨(k.x4)⟩ : EIp12)) else K .ret (XIp12 (getRO (xIp12 k (bIp12 k)) (oIp12 k)))) else none | none => none
theorem okgIp12 : OKL 61 2 gIp12 := okfIp12 (fuel := fun k => (k.x0.zipIdx).length) (ok := okIp12) (F := FIp12) iIp12 fun st K => by
  unfold gIp12
  cases hu : uIp12 st with
  | none => rfl
  | some k =>
    dsimp only
    split
    · unfold FIp12 fxO
      cases isLO (oIp12 k) <;> rfl
    · rfl
def CIp1 : Cfg := { cs := libId1, ks := CIp12.ks, xs := CIp12.xs, lps := [((61, 2), gIp12)] }
theorem CIp1_ok : CfgOK CIp1 := { con := libId1_ok, lp := .cons okgIp12 .nil }
def RIp1 (a0 : List GPoint) (a1 : ByteArray) : Option (Res At) :=
  if okIp12 { x0 := a0, x1 := a1, x4 := 0, x7 := (↑a0.length : Int), x8 := 0 : KIp12 } = true then
   if isLO (oIp12 { x0 := a0, x1 := a1, x4 := 0, x7 := (↑a0.length : Int), x8 := 0 : KIp12 }) = true then
    some ((.int .i64 (-1)), [])
   else
    some ((.int .i64 ((getRO (xIp12 { x0 := a0, x1 := a1, x4 := 0, x7 := (↑a0.length : Int), x8 := 0 : KIp12 } (bIp12 { x0 := a0, x1 := a1, x4 := 0, x7 := (↑a0.length : Int), x8 := 0 : KIp12 })) (oIp12 { x0 := a0, x1 := a1, x4 := 0, x7 := (↑a0.length : Int), x8 := 0 : KIp12 })).x4)), [])
  else
   none
theorem run_RIp1 (a0 : List GPoint) (a1 : ByteArray) : runF CIp1 80 61 [.ro 66 a0, .fn 115 [.rel [.str a1]]] = RIp1 a0 a1 := by kernel_rfl
def oIp1 (a0 : List GPoint) (a1 : ByteArray) : Option (Res At) := crR [none] (RIp1 a0 a1)
def vIp1 (a0 : List GPoint) (a1 : ByteArray) : Int := valO (rI .i64) 0 (oIp1 a0 a1)
def cIp1 (a0 : List GPoint) (a1 : ByteArray) : Bool := okO (rI .i64) (oIp1 a0 a1)
def conIp1 : CON := on2 (rR 66) (rF1 115 (rC rS)) fun a0 a1 => some (cIp1 a0 a1, (.int .i64 (vIp1 a0 a1), []))
theorem okIp1 : OK 61 conIp1 := okc2 CIp1_ok (n := 80) (ts := [none]) (a := (rR 66)) (b := (rF1 115 (rC rS))) (r := (rI .i64)) (d := 0) (R := fun a0 a1 => RIp1 a0 a1) (by kernel_rfl) fun a0 a1 => run_RIp1 a0 a1
def libIp1 : List (Nat × CON) := (61, conIp1) :: libId1
theorem libIp1_ok : AllOK libIp1 := .cons okIp1 libId1_ok
structure KIp22 where
  x0 : List GPoint
  x1 : GDrive
  x4 : Int
  x7 : Int
  x8 : Int
structure EIp22 where
  x4 : Int
def SIp22 (k : KIp22) : St At := { env := [(0, .ro 66 k.x0), (1, .fn 62 [.rel (enc89 k.x1)]), (4, .int .i64 k.x4), (7, .int .i64 k.x7), (8, .int .i64 k.x8)], stk := [], hp := [], nx := 0 }
def XIp22 (k : EIp22) : St At := { env := [(4, .int .i64 k.x4)], stk := [], hp := [], nx := 0 }
def CIp22 : Cfg := { cs := libIp1, ks := [((61, 2), [(0, none), (1, none), (4, none), (7, none), (8, none)])], xs := [((61, 2), [(4, none)])], lps := [] }
theorem CIp22_ok : CfgOK CIp22 := { con := libIp1_ok }
def stIp22 {α : Type} (k : KIp22) (go : KIp22 → α) (ex ret : EIp22 → α) (no : α) : α :=
  if decide (k.x8 < k.x7) = true then
   if 0 ≤ k.x8 then
    if k.x8 < (↑k.x0.length : Int) then
     if eqB (gt { name := { data := #[] : ByteArray }, kind := 0, role := 0, unit_ := { data := #[] : ByteArray }, low := 0, high := 0, step := 0, states := [], default_ := { kind := 0, n := 0 : GValue }, minOn := 0, minOff := 0 : GPoint } k.x0 k.x8.toNat).name k.x1.point = true then
      ret ⟨(k.x8)⟩
     else
      go ⟨(k.x0), (k.x1), (k.x4), (k.x7), (IntKind.i64.wrap (k.x8 + 1))⟩
    else
     no
   else
    no
  else
   ex ⟨(k.x4)⟩
def stepIp22 (k : KIp22) : Nx KIp22 EIp22 := stIp22 k .go .ex .ret .no
theorem BIp22 (k : KIp22) (m : Nat) (R : St At → Option (Res At)) (K : Xit → St At → Option (Res At)) : B CIp22 61 2 (m + 60) (SIp22 k) R K = stIp22 k (fun k => R (SIp22 k)) (fun x => K (.ex 0) (XIp22 x)) (fun x => K .ret (XIp22 x)) none := by kernel_rfl
def uIp22 (st : St At) : Option KIp22 := match st with
  | ⟨[(0, vx0), (1, .fn 62 [.rel wx1]), (4, .int .i64 x4), (7, .int .i64 x7), (8, .int .i64 x8)], [], [], 0⟩ => (match roV 66 vx0, ex89 wx1 with | some x0, some x1 => some ⟨x0, x1, x4, x7, x8⟩ | _, _ => none)
  | _ => none
theorem uIp22_spec {st : St At} {k : KIp22} (h : uIp22 st = some k) : st = SIp22 k := by
  unfold uIp22 at h
  split at h
  · split at h
    · rename_i h0 h1
      obtain rfl := Option.some.inj h
      rw [roV_spec h0, ex89_spec h1]
      rfl
    · cases h
  · cases h
theorem oklIp22 {g : LP} (hg : ∀ st K q, g st K = some q → ∃ k n e, st = SIp22 k ∧ iter stepIp22 n k = some e ∧ e.k 0 XIp22 XIp22 K = some q) : OKL 61 2 g := okl_iter CIp22_ok (S := SIp22) (X := XIp22) (Y := XIp22) (step := stepIp22) (id := 0) (by kernel_rfl) (by kernel_rfl)
  (fun k m R K => by rw [BIp22]; unfold stepIp22 stIp22; simp only [Nx.k_ite]; rfl) (fun k => by kernel_rfl) hg
theorem okfIp22 {g : LP} {fuel : KIp22 → Nat} {ok : KIp22 → Bool} {F : KIp22 → Fx EIp22} (hF : ∀ k, ok k = true → iter stepIp22 (fuel k) k = some (F k)) (hg : ∀ st K, g st K = (match uIp22 st with | some k => if ok k = true then (F k).k 0 XIp22 XIp22 K else none | none => none)) : OKL 61 2 g := oklIp22 fun st K q h => by
  rw [hg] at h
  split at h
  · rename_i k hu
    split at h
    · rename_i hok; exact ⟨k, _, _, uIp22_spec hu, hF k hok, h⟩
    · cases h
  · cases h
abbrev B_Ip22 := Unit
def fIp22 (k : KIp22) (b : B_Ip22) (p : GPoint × Nat) : Option (B_Ip22 ⊕ EIp22) :=
  if eqB p.1.name k.x1.point = true then
   some (.inr ⟨((p.2 : Int))⟩)
  else
   some (.inl ())
def xIp22 (k : KIp22) (b : B_Ip22) : EIp22 := ⟨(k.x4)⟩
def putIp22 (k : KIp22) (b : B_Ip22) (j : Nat) : KIp22 := ⟨k.x0, k.x1, k.x4, k.x7, (j : Int)⟩
def bIp22 (k : KIp22) : B_Ip22 := ()
def oIp22 (k : KIp22) : Option (B_Ip22 ⊕ EIp22) := scanO (fIp22 k) (bIp22 k) (k.x0.zipIdx)
def okIp22 (k : KIp22) : Bool := decide (k.x8 = 0) && (decide (k.x7 = (k.x0.length : Int)) && (Nat.ble k.x0.length 9223372036854775807 && isOO (oIp22 k)))
def FIp22 (k : KIp22) : Fx EIp22 := fxO (xIp22 k) (bIp22 k) (xIp22 k (bIp22 k)) (oIp22 k)
theorem sIp22 (k : KIp22) (hn : k.x7 = (k.x0.length : Int)) (hm : k.x0.length ≤ 9223372036854775807) (b : B_Ip22) (j : Nat) (h : j < k.x0.length) : stepIp22 (putIp22 k b j) = nxO (fun b' => putIp22 k b' (j + 1)) (fIp22 k b (k.x0[j], j)) := by
  unfold stepIp22 stIp22 fIp22 putIp22
  dsimp only
  simp only [hn, nxO_ite, cnt' h hm, gtj' _ _ _ h, if_pos (lt1' h), if_pos (lt0' (j := j)), if_pos (lt2' h)]
  rfl
theorem eIp22 (k : KIp22) (hn : k.x7 = (k.x0.length : Int)) (b : B_Ip22) : stepIp22 (putIp22 k b k.x0.length) = .ex (xIp22 k b) := by
  unfold stepIp22 stIp22 putIp22
  dsimp only
  rw [hn, if_neg lt3']
  rfl
theorem iIp22 (k : KIp22) (h : okIp22 k = true) : iter stepIp22 (k.x0.zipIdx).length k = some (FIp22 k) := by
  unfold okIp22 at h
  simp only [Bool.and_eq_true, decide_eq_true_eq] at h
  obtain ⟨h0, h1, h2, h3⟩ := h
  replace h2 := Nat.le_of_ble_eq_true h2
  have e : k = putIp22 k (bIp22 k) 0 := by cases k; dsimp only at h0; subst h0; rfl
  have := iter_scanO (step := stepIp22) (k.x0.zipIdx) (putIp22 k) (fIp22 k) (xIp22 k) (bIp22 k) (xIp22 k (bIp22 k)) (fun b j h => (by rw [show (k.x0.zipIdx)[j] = (k.x0[j]'(by simpa using h), j) by simp]; exact sIp22 k h1 h2 b j (by simpa using h))) (fun b => (by rw [show (k.x0.zipIdx).length = k.x0.length by simp]; exact eIp22 k h1 b)) (k.x0.zipIdx).length 0 (bIp22 k) (by simp) (by rw [List.drop_zero]; exact h3)
  rw [List.drop_zero, ← e] at this
  exact this
def gIp22 : LP := fun st K => match uIp22 st with | some k => if okIp22 k = true then (if isLO (oIp22 k) = true then K (.ex 0) (XIp22 (⟨(k.x4)⟩ : EIp22)) else K .ret (XIp22 (getRO (xIp22 k (bIp22 k)) (oIp22 k)))) else none | none => none
theorem okgIp22 : OKL 61 2 gIp22 := okfIp22 (fuel := fun k => (k.x0.zipIdx).length) (ok := okIp22) (F := FIp22) iIp22 fun st K => by
  unfold gIp22
  cases hu : uIp22 st with
  | none => rfl
  | some k =>
    dsimp only
    split
    · unfold FIp22 fxO
      cases isLO (oIp22 k) <;> rfl
    · rfl
def CIp2 : Cfg := { cs := libIp1, ks := CIp22.ks, xs := CIp22.xs, lps := [((61, 2), gIp22)] }
theorem CIp2_ok : CfgOK CIp2 := { con := libIp1_ok, lp := .cons okgIp22 .nil }
def RIp2 (a0 : List GPoint) (a1 : GDrive) : Option (Res At) :=
  if okIp22 { x0 := a0, x1 := a1, x4 := 0, x7 := (↑a0.length : Int), x8 := 0 : KIp22 } = true then
   if isLO (oIp22 { x0 := a0, x1 := a1, x4 := 0, x7 := (↑a0.length : Int), x8 := 0 : KIp22 }) = true then
    some ((.int .i64 (-1)), [])
   else
    some ((.int .i64 ((getRO (xIp22 { x0 := a0, x1 := a1, x4 := 0, x7 := (↑a0.length : Int), x8 := 0 : KIp22 } (bIp22 { x0 := a0, x1 := a1, x4 := 0, x7 := (↑a0.length : Int), x8 := 0 : KIp22 })) (oIp22 { x0 := a0, x1 := a1, x4 := 0, x7 := (↑a0.length : Int), x8 := 0 : KIp22 })).x4)), [])
  else
   none
theorem run_RIp2 (a0 : List GPoint) (a1 : GDrive) : runF CIp2 80 61 [.ro 66 a0, .fn 62 [.rel (enc89 a1)]] = RIp2 a0 a1 := by kernel_rfl
def oIp2 (a0 : List GPoint) (a1 : GDrive) : Option (Res At) := crR [none] (RIp2 a0 a1)
def vIp2 (a0 : List GPoint) (a1 : GDrive) : Int := valO (rI .i64) 0 (oIp2 a0 a1)
def cIp2 (a0 : List GPoint) (a1 : GDrive) : Bool := okO (rI .i64) (oIp2 a0 a1)
def conIp2 : CON := on2 (rR 66) (rF1 62 (rP ex89 enc89 fun _ _ h => ex89_spec h)) fun a0 a1 => some (cIp2 a0 a1, (.int .i64 (vIp2 a0 a1), []))
theorem okIp2 : OK 61 conIp2 := okc2 CIp2_ok (n := 80) (ts := [none]) (a := (rR 66)) (b := (rF1 62 (rP ex89 enc89 fun _ _ h => ex89_spec h))) (r := (rI .i64)) (d := 0) (R := fun a0 a1 => RIp2 a0 a1) (by kernel_rfl) fun a0 a1 => run_RIp2 a0 a1
def libIp2 : List (Nat × CON) := (61, orC conIp2 conIp1) :: libIp1
theorem libIp2_ok : AllOK libIp2 := .cons (ok_or okIp2 okIp1) libIp1_ok
def CU1 : Cfg := { cs := libIp2 }
theorem CU1_ok : CfgOK CU1 := { con := libIp2_ok }
def RU1 (a0 : ByteArray) (a1 : List GPoint) : Option (Res At) :=
  if cIp1 a1 a0 = true then
   some ((.bool (decide (vIp1 a1 a0 ≥ 0))), [])
  else
   none
theorem run_RU1 (a0 : ByteArray) (a1 : List GPoint) : runF CU1 80 113 [.str a0, .rel [.ro 66 a1]] = RU1 a0 a1 := by kernel_rfl
def oU1 (a0 : ByteArray) (a1 : List GPoint) : Option (Res At) := crR [none] (RU1 a0 a1)
def vU1 (a0 : ByteArray) (a1 : List GPoint) : Bool := valO rB false (oU1 a0 a1)
def cU1 (a0 : ByteArray) (a1 : List GPoint) : Bool := okO rB (oU1 a0 a1)
def conU1 : CON := on2 rS (rC (rR 66)) fun a0 a1 => some (cU1 a0 a1, (.bool (vU1 a0 a1), []))
theorem okU1 : OK 113 conU1 := okc2 CU1_ok (n := 80) (ts := [none]) (a := rS) (b := (rC (rR 66))) (r := rB) (d := false) (R := fun a0 a1 => RU1 a0 a1) (by kernel_rfl) fun a0 a1 => run_RU1 a0 a1
def libU1 : List (Nat × CON) := (113, conU1) :: libIp2
theorem libU1_ok : AllOK libU1 := .cons okU1 libIp2_ok
def CU3 : Cfg := { cs := libU1 }
theorem CU3_ok : CfgOK CU3 := { con := libU1_ok }
def RU3 (a0 : GDrive) (a1 : List GPoint) : Option (Res At) :=
  if cU1 a0.point a1 = true then
   some ((.bool (!vU1 a0.point a1)), [])
  else
   none
theorem run_RU3 (a0 : GDrive) (a1 : List GPoint) : runF CU3 80 119 [.agg (enc89 a0), .rel [.fn 113 [.rel [.ro 66 a1]]]] = RU3 a0 a1 := by kernel_rfl
def oU3 (a0 : GDrive) (a1 : List GPoint) : Option (Res At) := crR [none] (RU3 a0 a1)
def vU3 (a0 : GDrive) (a1 : List GPoint) : Bool := valO rB false (oU3 a0 a1)
def cU3 (a0 : GDrive) (a1 : List GPoint) : Bool := okO rB (oU3 a0 a1)
def conU3 : CON := on2 (rA ex89 enc89 fun _ _ h => ex89_spec h) (rC (rF1 113 (rC (rR 66)))) fun a0 a1 => some (cU3 a0 a1, (.bool (vU3 a0 a1), []))
theorem okU3 : OK 119 conU3 := okc2 CU3_ok (n := 80) (ts := [none]) (a := (rA ex89 enc89 fun _ _ h => ex89_spec h)) (b := (rC (rF1 113 (rC (rR 66))))) (r := rB) (d := false) (R := fun a0 a1 => RU3 a0 a1) (by kernel_rfl) fun a0 a1 => run_RU3 a0 a1
def libU3 : List (Nat × CON) := (119, conU3) :: libU1
theorem libU3_ok : AllOK libU3 := .cons okU3 libU1_ok
structure KId22 where
  x0 : List GDrive
  x1 : List GPoint
  x4 : Int
  x7 : Int
  x8 : Int
structure EId22 where
  x4 : Int
def SId22 (k : KId22) : St At := { env := [(0, .ro 89 k.x0), (1, .fn 119 [.rel [.fn 113 [.rel [.ro 66 k.x1]]]]), (4, .int .i64 k.x4), (7, .int .i64 k.x7), (8, .int .i64 k.x8)], stk := [], hp := [], nx := 0 }
def XId22 (k : EId22) : St At := { env := [(4, .int .i64 k.x4)], stk := [], hp := [], nx := 0 }
def CId22 : Cfg := { cs := libU3, ks := [((112, 2), [(0, none), (1, none), (4, none), (7, none), (8, none)])], xs := [((112, 2), [(4, none)])], lps := [] }
theorem CId22_ok : CfgOK CId22 := { con := libU3_ok }
def stId22 {α : Type} (k : KId22) (go : KId22 → α) (ex ret : EId22 → α) (no : α) : α :=
  if decide (k.x8 < k.x7) = true then
   if 0 ≤ k.x8 then
    if k.x8 < (↑k.x0.length : Int) then
     if cU3 (gt { point := { data := #[] : ByteArray }, level := 0, from_ := { node := { data := #[] : ByteArray }, port := 0, point := { data := #[] : ByteArray }, const := { kind := 0, n := 0 : GValue }, delayed := false, initial := { kind := 0, n := 0 : GValue } : GLink } : GDrive } k.x0 k.x8.toNat) k.x1 = true then
      if vU3 (gt { point := { data := #[] : ByteArray }, level := 0, from_ := { node := { data := #[] : ByteArray }, port := 0, point := { data := #[] : ByteArray }, const := { kind := 0, n := 0 : GValue }, delayed := false, initial := { kind := 0, n := 0 : GValue } : GLink } : GDrive } k.x0 k.x8.toNat) k.x1 = true then
       ret ⟨(k.x8)⟩
      else
       go ⟨(k.x0), (k.x1), (k.x4), (k.x7), (IntKind.i64.wrap (k.x8 + 1))⟩
     else
      no
    else
     no
   else
    no
  else
   ex ⟨(k.x4)⟩
def stepId22 (k : KId22) : Nx KId22 EId22 := stId22 k .go .ex .ret .no
theorem BId22 (k : KId22) (m : Nat) (R : St At → Option (Res At)) (K : Xit → St At → Option (Res At)) : B CId22 112 2 (m + 60) (SId22 k) R K = stId22 k (fun k => R (SId22 k)) (fun x => K (.ex 0) (XId22 x)) (fun x => K .ret (XId22 x)) none := by kernel_rfl
def uId22 (st : St At) : Option KId22 := match st with
  | ⟨[(0, vx0), (1, .fn 119 [.rel [.fn 113 [.rel [vx1]]]]), (4, .int .i64 x4), (7, .int .i64 x7), (8, .int .i64 x8)], [], [], 0⟩ => (match roV 89 vx0, roV 66 vx1 with | some x0, some x1 => some ⟨x0, x1, x4, x7, x8⟩ | _, _ => none)
  | _ => none
theorem uId22_spec {st : St At} {k : KId22} (h : uId22 st = some k) : st = SId22 k := by
  unfold uId22 at h
  split at h
  · split at h
    · rename_i h0 h1
      obtain rfl := Option.some.inj h
      rw [roV_spec h0, roV_spec h1]
      rfl
    · cases h
  · cases h
theorem oklId22 {g : LP} (hg : ∀ st K q, g st K = some q → ∃ k n e, st = SId22 k ∧ iter stepId22 n k = some e ∧ e.k 0 XId22 XId22 K = some q) : OKL 112 2 g := okl_iter CId22_ok (S := SId22) (X := XId22) (Y := XId22) (step := stepId22) (id := 0) (by kernel_rfl) (by kernel_rfl)
  (fun k m R K => by rw [BId22]; unfold stepId22 stId22; simp only [Nx.k_ite]; rfl) (fun k => by kernel_rfl) hg
theorem okfId22 {g : LP} {fuel : KId22 → Nat} {ok : KId22 → Bool} {F : KId22 → Fx EId22} (hF : ∀ k, ok k = true → iter stepId22 (fuel k) k = some (F k)) (hg : ∀ st K, g st K = (match uId22 st with | some k => if ok k = true then (F k).k 0 XId22 XId22 K else none | none => none)) : OKL 112 2 g := oklId22 fun st K q h => by
  rw [hg] at h
  split at h
  · rename_i k hu
    split at h
    · rename_i hok; exact ⟨k, _, _, uId22_spec hu, hF k hok, h⟩
    · cases h
  · cases h
abbrev B_Id22 := Unit
def fId22 (k : KId22) (b : B_Id22) (p : GDrive × Nat) : Option (B_Id22 ⊕ EId22) :=
  if cU3 p.1 k.x1 = true then
   if vU3 p.1 k.x1 = true then
    some (.inr ⟨((p.2 : Int))⟩)
   else
    some (.inl ())
  else
   none
def xId22 (k : KId22) (b : B_Id22) : EId22 := ⟨(k.x4)⟩
def putId22 (k : KId22) (b : B_Id22) (j : Nat) : KId22 := ⟨k.x0, k.x1, k.x4, k.x7, (j : Int)⟩
def bId22 (k : KId22) : B_Id22 := ()
def oId22 (k : KId22) : Option (B_Id22 ⊕ EId22) := scanO (fId22 k) (bId22 k) (k.x0.zipIdx)
def okId22 (k : KId22) : Bool := decide (k.x8 = 0) && (decide (k.x7 = (k.x0.length : Int)) && (Nat.ble k.x0.length 9223372036854775807 && isOO (oId22 k)))
def FId22 (k : KId22) : Fx EId22 := fxO (xId22 k) (bId22 k) (xId22 k (bId22 k)) (oId22 k)
theorem sId22 (k : KId22) (hn : k.x7 = (k.x0.length : Int)) (hm : k.x0.length ≤ 9223372036854775807) (b : B_Id22) (j : Nat) (h : j < k.x0.length) : stepId22 (putId22 k b j) = nxO (fun b' => putId22 k b' (j + 1)) (fId22 k b (k.x0[j], j)) := by
  unfold stepId22 stId22 fId22 putId22
  dsimp only
  simp only [hn, nxO_ite, cnt' h hm, gtj' _ _ _ h, if_pos (lt1' h), if_pos (lt0' (j := j)), if_pos (lt2' h)]
  rfl
theorem eId22 (k : KId22) (hn : k.x7 = (k.x0.length : Int)) (b : B_Id22) : stepId22 (putId22 k b k.x0.length) = .ex (xId22 k b) := by
  unfold stepId22 stId22 putId22
  dsimp only
  rw [hn, if_neg lt3']
  rfl
theorem iId22 (k : KId22) (h : okId22 k = true) : iter stepId22 (k.x0.zipIdx).length k = some (FId22 k) := by
  unfold okId22 at h
  simp only [Bool.and_eq_true, decide_eq_true_eq] at h
  obtain ⟨h0, h1, h2, h3⟩ := h
  replace h2 := Nat.le_of_ble_eq_true h2
  have e : k = putId22 k (bId22 k) 0 := by cases k; dsimp only at h0; subst h0; rfl
  have := iter_scanO (step := stepId22) (k.x0.zipIdx) (putId22 k) (fId22 k) (xId22 k) (bId22 k) (xId22 k (bId22 k)) (fun b j h => (by rw [show (k.x0.zipIdx)[j] = (k.x0[j]'(by simpa using h), j) by simp]; exact sId22 k h1 h2 b j (by simpa using h))) (fun b => (by rw [show (k.x0.zipIdx).length = k.x0.length by simp]; exact eId22 k h1 b)) (k.x0.zipIdx).length 0 (bId22 k) (by simp) (by rw [List.drop_zero]; exact h3)
  rw [List.drop_zero, ← e] at this
  exact this
def gId22 : LP := fun st K => match uId22 st with | some k => if okId22 k = true then (if isLO (oId22 k) = true then K (.ex 0) (XId22 (⟨(k.x4)⟩ : EId22)) else K .ret (XId22 (getRO (xId22 k (bId22 k)) (oId22 k)))) else none | none => none
theorem okgId22 : OKL 112 2 gId22 := okfId22 (fuel := fun k => (k.x0.zipIdx).length) (ok := okId22) (F := FId22) iId22 fun st K => by
  unfold gId22
  cases hu : uId22 st with
  | none => rfl
  | some k =>
    dsimp only
    split
    · unfold FId22 fxO
      cases isLO (oId22 k) <;> rfl
    · rfl
def CId2 : Cfg := { cs := libU3, ks := CId22.ks, xs := CId22.xs, lps := [((112, 2), gId22)] }
theorem CId2_ok : CfgOK CId2 := { con := libU3_ok, lp := .cons okgId22 .nil }
def RId2 (a0 : List GDrive) (a1 : List GPoint) : Option (Res At) :=
  if okId22 { x0 := a0, x1 := a1, x4 := 0, x7 := (↑a0.length : Int), x8 := 0 : KId22 } = true then
   if isLO (oId22 { x0 := a0, x1 := a1, x4 := 0, x7 := (↑a0.length : Int), x8 := 0 : KId22 }) = true then
    some ((.int .i64 (-1)), [])
   else
    some ((.int .i64 ((getRO (xId22 { x0 := a0, x1 := a1, x4 := 0, x7 := (↑a0.length : Int), x8 := 0 : KId22 } (bId22 { x0 := a0, x1 := a1, x4 := 0, x7 := (↑a0.length : Int), x8 := 0 : KId22 })) (oId22 { x0 := a0, x1 := a1, x4 := 0, x7 := (↑a0.length : Int), x8 := 0 : KId22 })).x4)), [])
  else
   none
theorem run_RId2 (a0 : List GDrive) (a1 : List GPoint) : runF CId2 80 112 [.ro 89 a0, .fn 119 [.rel [.fn 113 [.rel [.ro 66 a1]]]]] = RId2 a0 a1 := by kernel_rfl
def oId2 (a0 : List GDrive) (a1 : List GPoint) : Option (Res At) := crR [none] (RId2 a0 a1)
def vId2 (a0 : List GDrive) (a1 : List GPoint) : Int := valO (rI .i64) 0 (oId2 a0 a1)
def cId2 (a0 : List GDrive) (a1 : List GPoint) : Bool := okO (rI .i64) (oId2 a0 a1)
def conId2 : CON := on2 (rR 89) (rF1 119 (rC (rF1 113 (rC (rR 66))))) fun a0 a1 => some (cId2 a0 a1, (.int .i64 (vId2 a0 a1), []))
theorem okId2 : OK 112 conId2 := okc2 CId2_ok (n := 80) (ts := [none]) (a := (rR 89)) (b := (rF1 119 (rC (rF1 113 (rC (rR 66)))))) (r := (rI .i64)) (d := 0) (R := fun a0 a1 => RId2 a0 a1) (by kernel_rfl) fun a0 a1 => run_RId2 a0 a1
def libId2 : List (Nat × CON) := (112, orC conId2 conId1) :: libU3
theorem libId2_ok : AllOK libId2 := .cons (ok_or okId2 okId1) libU3_ok
structure KIb2 where
  x0 : List GBound
  x1 : GParam
  x4 : Int
  x7 : Int
  x8 : Int
structure EIb2 where
  x4 : Int
def SIb2 (k : KIb2) : St At := { env := [(0, .ro 155 k.x0), (1, .fn 118 [.rel (enc93 k.x1)]), (4, .int .i64 k.x4), (7, .int .i64 k.x7), (8, .int .i64 k.x8)], stk := [], hp := [], nx := 0 }
def XIb2 (k : EIb2) : St At := { env := [(4, .int .i64 k.x4)], stk := [], hp := [], nx := 0 }
def CIb2 : Cfg := { cs := libId2, ks := [((122, 2), [(0, none), (1, none), (4, none), (7, none), (8, none)])], xs := [((122, 2), [(4, none)])], lps := [] }
theorem CIb2_ok : CfgOK CIb2 := { con := libId2_ok }
def stIb2 {α : Type} (k : KIb2) (go : KIb2 → α) (ex ret : EIb2 → α) (no : α) : α :=
  if decide (k.x8 < k.x7) = true then
   if 0 ≤ k.x8 then
    if k.x8 < (↑k.x0.length : Int) then
     if eqB (gt { name := { data := #[] : ByteArray }, lo := 0, hi := 0, default_ := 0 : GBound } k.x0 k.x8.toNat).name k.x1.name = true then
      ret ⟨(k.x8)⟩
     else
      go ⟨(k.x0), (k.x1), (k.x4), (k.x7), (IntKind.i64.wrap (k.x8 + 1))⟩
    else
     no
   else
    no
  else
   ex ⟨(k.x4)⟩
def stepIb2 (k : KIb2) : Nx KIb2 EIb2 := stIb2 k .go .ex .ret .no
theorem BIb2 (k : KIb2) (m : Nat) (R : St At → Option (Res At)) (K : Xit → St At → Option (Res At)) : B CIb2 122 2 (m + 60) (SIb2 k) R K = stIb2 k (fun k => R (SIb2 k)) (fun x => K (.ex 0) (XIb2 x)) (fun x => K .ret (XIb2 x)) none := by kernel_rfl
def uIb2 (st : St At) : Option KIb2 := match st with
  | ⟨[(0, vx0), (1, .fn 118 [.rel wx1]), (4, .int .i64 x4), (7, .int .i64 x7), (8, .int .i64 x8)], [], [], 0⟩ => (match roV 155 vx0, ex93 wx1 with | some x0, some x1 => some ⟨x0, x1, x4, x7, x8⟩ | _, _ => none)
  | _ => none
theorem uIb2_spec {st : St At} {k : KIb2} (h : uIb2 st = some k) : st = SIb2 k := by
  unfold uIb2 at h
  split at h
  · split at h
    · rename_i h0 h1
      obtain rfl := Option.some.inj h
      rw [roV_spec h0, ex93_spec h1]
      rfl
    · cases h
  · cases h
theorem oklIb2 {g : LP} (hg : ∀ st K q, g st K = some q → ∃ k n e, st = SIb2 k ∧ iter stepIb2 n k = some e ∧ e.k 0 XIb2 XIb2 K = some q) : OKL 122 2 g := okl_iter CIb2_ok (S := SIb2) (X := XIb2) (Y := XIb2) (step := stepIb2) (id := 0) (by kernel_rfl) (by kernel_rfl)
  (fun k m R K => by rw [BIb2]; unfold stepIb2 stIb2; simp only [Nx.k_ite]; rfl) (fun k => by kernel_rfl) hg
theorem okfIb2 {g : LP} {fuel : KIb2 → Nat} {ok : KIb2 → Bool} {F : KIb2 → Fx EIb2} (hF : ∀ k, ok k = true → iter stepIb2 (fuel k) k = some (F k)) (hg : ∀ st K, g st K = (match uIb2 st with | some k => if ok k = true then (F k).k 0 XIb2 XIb2 K else none | none => none)) : OKL 122 2 g := oklIb2 fun st K q h => by
  rw [hg] at h
  split at h
  · rename_i k hu
    split at h
    · rename_i hok; exact ⟨k, _, _, uIb2_spec hu, hF k hok, h⟩
    · cases h
  · cases h
abbrev B_Ib2 := Unit
def fIb2 (k : KIb2) (b : B_Ib2) (p : GBound × Nat) : Option (B_Ib2 ⊕ EIb2) :=
  if eqB p.1.name k.x1.name = true then
   some (.inr ⟨((p.2 : Int))⟩)
  else
   some (.inl ())
def xIb2 (k : KIb2) (b : B_Ib2) : EIb2 := ⟨(k.x4)⟩
def putIb2 (k : KIb2) (b : B_Ib2) (j : Nat) : KIb2 := ⟨k.x0, k.x1, k.x4, k.x7, (j : Int)⟩
def bIb2 (k : KIb2) : B_Ib2 := ()
def oIb2 (k : KIb2) : Option (B_Ib2 ⊕ EIb2) := scanO (fIb2 k) (bIb2 k) (k.x0.zipIdx)
def okIb2 (k : KIb2) : Bool := decide (k.x8 = 0) && (decide (k.x7 = (k.x0.length : Int)) && (Nat.ble k.x0.length 9223372036854775807 && isOO (oIb2 k)))
def FIb2 (k : KIb2) : Fx EIb2 := fxO (xIb2 k) (bIb2 k) (xIb2 k (bIb2 k)) (oIb2 k)
theorem sIb2 (k : KIb2) (hn : k.x7 = (k.x0.length : Int)) (hm : k.x0.length ≤ 9223372036854775807) (b : B_Ib2) (j : Nat) (h : j < k.x0.length) : stepIb2 (putIb2 k b j) = nxO (fun b' => putIb2 k b' (j + 1)) (fIb2 k b (k.x0[j], j)) := by
  unfold stepIb2 stIb2 fIb2 putIb2
  dsimp only
  simp only [hn, nxO_ite, cnt' h hm, gtj' _ _ _ h, if_pos (lt1' h), if_pos (lt0' (j := j)), if_pos (lt2' h)]
  rfl
theorem eIb2 (k : KIb2) (hn : k.x7 = (k.x0.length : Int)) (b : B_Ib2) : stepIb2 (putIb2 k b k.x0.length) = .ex (xIb2 k b) := by
  unfold stepIb2 stIb2 putIb2
  dsimp only
  rw [hn, if_neg lt3']
  rfl
theorem iIb2 (k : KIb2) (h : okIb2 k = true) : iter stepIb2 (k.x0.zipIdx).length k = some (FIb2 k) := by
  unfold okIb2 at h
  simp only [Bool.and_eq_true, decide_eq_true_eq] at h
  obtain ⟨h0, h1, h2, h3⟩ := h
  replace h2 := Nat.le_of_ble_eq_true h2
  have e : k = putIb2 k (bIb2 k) 0 := by cases k; dsimp only at h0; subst h0; rfl
  have := iter_scanO (step := stepIb2) (k.x0.zipIdx) (putIb2 k) (fIb2 k) (xIb2 k) (bIb2 k) (xIb2 k (bIb2 k)) (fun b j h => (by rw [show (k.x0.zipIdx)[j] = (k.x0[j]'(by simpa using h), j) by simp]; exact sIb2 k h1 h2 b j (by simpa using h))) (fun b => (by rw [show (k.x0.zipIdx).length = k.x0.length by simp]; exact eIb2 k h1 b)) (k.x0.zipIdx).length 0 (bIb2 k) (by simp) (by rw [List.drop_zero]; exact h3)
  rw [List.drop_zero, ← e] at this
  exact this
def gIb2 : LP := fun st K => match uIb2 st with | some k => if okIb2 k = true then (if isLO (oIb2 k) = true then K (.ex 0) (XIb2 (⟨(k.x4)⟩ : EIb2)) else K .ret (XIb2 (getRO (xIb2 k (bIb2 k)) (oIb2 k)))) else none | none => none
theorem okgIb2 : OKL 122 2 gIb2 := okfIb2 (fuel := fun k => (k.x0.zipIdx).length) (ok := okIb2) (F := FIb2) iIb2 fun st K => by
  unfold gIb2
  cases hu : uIb2 st with
  | none => rfl
  | some k =>
    dsimp only
    split
    · unfold FIb2 fxO
      cases isLO (oIb2 k) <;> rfl
    · rfl
def CIb : Cfg := { cs := libId2, ks := CIb2.ks, xs := CIb2.xs, lps := [((122, 2), gIb2)] }
theorem CIb_ok : CfgOK CIb := { con := libId2_ok, lp := .cons okgIb2 .nil }
def RIb (a0 : List GBound) (a1 : GParam) : Option (Res At) :=
  if okIb2 { x0 := a0, x1 := a1, x4 := 0, x7 := (↑a0.length : Int), x8 := 0 : KIb2 } = true then
   if isLO (oIb2 { x0 := a0, x1 := a1, x4 := 0, x7 := (↑a0.length : Int), x8 := 0 : KIb2 }) = true then
    some ((.int .i64 (-1)), [])
   else
    some ((.int .i64 ((getRO (xIb2 { x0 := a0, x1 := a1, x4 := 0, x7 := (↑a0.length : Int), x8 := 0 : KIb2 } (bIb2 { x0 := a0, x1 := a1, x4 := 0, x7 := (↑a0.length : Int), x8 := 0 : KIb2 })) (oIb2 { x0 := a0, x1 := a1, x4 := 0, x7 := (↑a0.length : Int), x8 := 0 : KIb2 })).x4)), [])
  else
   none
theorem run_RIb (a0 : List GBound) (a1 : GParam) : runF CIb 80 122 [.ro 155 a0, .fn 118 [.rel (enc93 a1)]] = RIb a0 a1 := by kernel_rfl
def oIb (a0 : List GBound) (a1 : GParam) : Option (Res At) := crR [none] (RIb a0 a1)
def vIb (a0 : List GBound) (a1 : GParam) : Int := valO (rI .i64) 0 (oIb a0 a1)
def cIb (a0 : List GBound) (a1 : GParam) : Bool := okO (rI .i64) (oIb a0 a1)
def conIb : CON := on2 (rR 155) (rF1 118 (rP ex93 enc93 fun _ _ h => ex93_spec h)) fun a0 a1 => some (cIb a0 a1, (.int .i64 (vIb a0 a1), []))
theorem okIb : OK 122 conIb := okc2 CIb_ok (n := 80) (ts := [none]) (a := (rR 155)) (b := (rF1 118 (rP ex93 enc93 fun _ _ h => ex93_spec h))) (r := (rI .i64)) (d := 0) (R := fun a0 a1 => RIb a0 a1) (by kernel_rfl) fun a0 a1 => run_RIb a0 a1
def libIb : List (Nat × CON) := (122, conIb) :: libId2
theorem libIb_ok : AllOK libIb := .cons okIb libId2_ok
def CFi : Cfg := { cs := libIb }
theorem CFi_ok : CfgOK CFi := { con := libIb_ok }
def RFi (a0 : GProgram) (a1 : ByteArray) : Option (Res At) :=
  if cIn1 a0.nodes a1 = true then
   some ((.int .i64 (vIn1 a0.nodes a1)), [])
  else
   none
theorem run_RFi (a0 : GProgram) (a1 : ByteArray) : runF CFi 80 69 [.agg (enc31 a0), .str a1] = RFi a0 a1 := by kernel_rfl
def oFi (a0 : GProgram) (a1 : ByteArray) : Option (Res At) := crR [none] (RFi a0 a1)
def vFi (a0 : GProgram) (a1 : ByteArray) : Int := valO (rI .i64) 0 (oFi a0 a1)
def cFi (a0 : GProgram) (a1 : ByteArray) : Bool := okO (rI .i64) (oFi a0 a1)
def conFi : CON := on2 (rA ex31 enc31 fun _ _ h => ex31_spec h) rS fun a0 a1 => some (cFi a0 a1, (.int .i64 (vFi a0 a1), []))
theorem okFi : OK 69 conFi := okc2 CFi_ok (n := 80) (ts := [none]) (a := (rA ex31 enc31 fun _ _ h => ex31_spec h)) (b := rS) (r := (rI .i64)) (d := 0) (R := fun a0 a1 => RFi a0 a1) (by kernel_rfl) fun a0 a1 => run_RFi a0 a1
def libFi : List (Nat × CON) := (69, conFi) :: libIb
theorem libFi_ok : AllOK libFi := .cons okFi libIb_ok
end
end Go.Proofs.YtpbpebjfglfjfaaGreatDoor.X
/-! What occurs twice, what is not known. -/
namespace Go.Proofs.YtpbpebjfglfjfaaGreatDoor.X
open Go Go.Proofs Go.RowKit Go.Proofs.YtpbpebjfglfjfaaGreatDoor
noncomputable section
def mlook9_4 (s : ByteArray) (m : List (ByteArray × Bool)) : Option Bool := tlook TT Tryz.prog 9 4 s m
def mupd9_4 (s : ByteArray) (v : Bool) (m : List (ByteArray × Bool)) : List (ByteArray × Bool) := tupd TT Tryz.prog 9 4 s v m
structure KTw15 where
  x2 : Bool
  x4 : List (ByteArray × Bool)
  x49 : List GDrive
  x50 : Int
  x51 : Int
structure ETw15 where
  x2 : Bool
def STw15 (k : KTw15) : St At := { env := [(2, .bool k.x2), (4, .mapr 0), (49, .ro 89 k.x49), (50, .int .i64 k.x50), (51, .int .i64 k.x51)], stk := [], hp := [(0, .map (.ty 9 4 k.x4) false)], nx := 1 }
def XTw15 (k : ETw15) : St At := { env := [(2, .bool k.x2)], stk := [], hp := [], nx := 0 }
def CTw15 : Cfg := { cs := libFi, ks := [((57, 15), [(2, none), (4, none), (49, none), (50, none), (51, none)])], xs := [((57, 15), [(2, none)])], lps := [] }
theorem CTw15_ok : CfgOK CTw15 := { con := libFi_ok }
def stTw15 {α : Type} (k : KTw15) (go : KTw15 → α) (ex ret : ETw15 → α) (no : α) : α :=
  if decide (k.x51 < k.x50) = true then
   if 0 ≤ k.x51 then
    if k.x51 < (↑k.x49.length : Int) then
     if getO false (mlook9_4 (gt { point := { data := #[] : ByteArray }, level := 0, from_ := { node := { data := #[] : ByteArray }, port := 0, point := { data := #[] : ByteArray }, const := { kind := 0, n := 0 : GValue }, delayed := false, initial := { kind := 0, n := 0 : GValue } : GLink } : GDrive } k.x49 k.x51.toNat).point k.x4) = true then
      ret ⟨(true)⟩
     else
      go ⟨(k.x2), (mupd9_4 (gt { point := { data := #[] : ByteArray }, level := 0, from_ := { node := { data := #[] : ByteArray }, port := 0, point := { data := #[] : ByteArray }, const := { kind := 0, n := 0 : GValue }, delayed := false, initial := { kind := 0, n := 0 : GValue } : GLink } : GDrive } k.x49 k.x51.toNat).point true k.x4), (k.x49), (k.x50), (IntKind.i64.wrap (k.x51 + 1))⟩
    else
     no
   else
    no
  else
   ex ⟨(k.x2)⟩
def stepTw15 (k : KTw15) : Nx KTw15 ETw15 := stTw15 k .go .ex .ret .no
theorem BTw15 (k : KTw15) (m : Nat) (R : St At → Option (Res At)) (K : Xit → St At → Option (Res At)) : B CTw15 57 15 (m + 60) (STw15 k) R K = stTw15 k (fun k => R (STw15 k)) (fun x => K (.ex 4) (XTw15 x)) (fun x => K .ret (XTw15 x)) none := by kernel_rfl
def uTw15 (st : St At) : Option KTw15 := match st with
  | ⟨[(2, .bool x2), (4, .mapr 0), (49, vx49), (50, .int .i64 x50), (51, .int .i64 x51)], [], [(0, bx4)], 1⟩ => (match mapB 9 4 bx4, roV 89 vx49 with | some x4, some x49 => some ⟨x2, x4, x49, x50, x51⟩ | _, _ => none)
  | _ => none
theorem uTw15_spec {st : St At} {k : KTw15} (h : uTw15 st = some k) : st = STw15 k := by
  unfold uTw15 at h
  split at h
  · split at h
    · rename_i h0 h1
      obtain rfl := Option.some.inj h
      rw [mapB_spec h0, roV_spec h1]
      rfl
    · cases h
  · cases h
theorem oklTw15 {g : LP} (hg : ∀ st K q, g st K = some q → ∃ k n e, st = STw15 k ∧ iter stepTw15 n k = some e ∧ e.k 4 XTw15 XTw15 K = some q) : OKL 57 15 g := okl_iter CTw15_ok (S := STw15) (X := XTw15) (Y := XTw15) (step := stepTw15) (id := 4) (by kernel_rfl) (by kernel_rfl)
  (fun k m R K => by rw [BTw15]; unfold stepTw15 stTw15; simp only [Nx.k_ite]; rfl) (fun k => by kernel_rfl) hg
theorem okfTw15 {g : LP} {fuel : KTw15 → Nat} {ok : KTw15 → Bool} {F : KTw15 → Fx ETw15} (hF : ∀ k, ok k = true → iter stepTw15 (fuel k) k = some (F k)) (hg : ∀ st K, g st K = (match uTw15 st with | some k => if ok k = true then (F k).k 4 XTw15 XTw15 K else none | none => none)) : OKL 57 15 g := oklTw15 fun st K q h => by
  rw [hg] at h
  split at h
  · rename_i k hu
    split at h
    · rename_i hok; exact ⟨k, _, _, uTw15_spec hu, hF k hok, h⟩
    · cases h
  · cases h
structure B_Tw15 where
  x4 : List (ByteArray × Bool)
def fTw15 (k : KTw15) (b : B_Tw15) (x : GDrive) : Option (B_Tw15 ⊕ ETw15) :=
  if getO false (mlook9_4 x.point b.x4) = true then
   some (.inr ⟨(true)⟩)
  else
   some (.inl ⟨(mupd9_4 x.point true b.x4)⟩)
def xTw15 (k : KTw15) (b : B_Tw15) : ETw15 := ⟨(k.x2)⟩
def putTw15 (k : KTw15) (b : B_Tw15) (j : Nat) : KTw15 := ⟨k.x2, b.x4, k.x49, k.x50, (j : Int)⟩
def bTw15 (k : KTw15) : B_Tw15 := ⟨k.x4⟩
def oTw15 (k : KTw15) : Option (B_Tw15 ⊕ ETw15) := scanO (fTw15 k) (bTw15 k) k.x49
def okTw15 (k : KTw15) : Bool := decide (k.x51 = 0) && (decide (k.x50 = (k.x49.length : Int)) && (Nat.ble k.x49.length 9223372036854775807 && isOO (oTw15 k)))
def FTw15 (k : KTw15) : Fx ETw15 := fxO (xTw15 k) (bTw15 k) (xTw15 k (bTw15 k)) (oTw15 k)
theorem sTw15 (k : KTw15) (hn : k.x50 = (k.x49.length : Int)) (hm : k.x49.length ≤ 9223372036854775807) (b : B_Tw15) (j : Nat) (h : j < k.x49.length) : stepTw15 (putTw15 k b j) = nxO (fun b' => putTw15 k b' (j + 1)) (fTw15 k b k.x49[j]) := by
  unfold stepTw15 stTw15 fTw15 putTw15
  dsimp only
  simp only [hn, nxO_ite, cnt' h hm, gtj' _ _ _ h, if_pos (lt1' h), if_pos (lt0' (j := j)), if_pos (lt2' h)]
  rfl
theorem eTw15 (k : KTw15) (hn : k.x50 = (k.x49.length : Int)) (b : B_Tw15) : stepTw15 (putTw15 k b k.x49.length) = .ex (xTw15 k b) := by
  unfold stepTw15 stTw15 putTw15
  dsimp only
  rw [hn, if_neg lt3']
  rfl
theorem iTw15 (k : KTw15) (h : okTw15 k = true) : iter stepTw15 (k.x49).length k = some (FTw15 k) := by
  unfold okTw15 at h
  simp only [Bool.and_eq_true, decide_eq_true_eq] at h
  obtain ⟨h0, h1, h2, h3⟩ := h
  replace h2 := Nat.le_of_ble_eq_true h2
  have e : k = putTw15 k (bTw15 k) 0 := by cases k; dsimp only at h0; subst h0; rfl
  have := iter_scanO (step := stepTw15) k.x49 (putTw15 k) (fTw15 k) (xTw15 k) (bTw15 k) (xTw15 k (bTw15 k)) (fun b j h => sTw15 k h1 h2 b j h) (fun b => eTw15 k h1 b) k.x49.length 0 (bTw15 k) (by simp) (by rw [List.drop_zero]; exact h3)
  rw [List.drop_zero, ← e] at this
  exact this
def gTw15 : LP := fun st K => match uTw15 st with | some k => if okTw15 k = true then (if isLO (oTw15 k) = true then K (.ex 4) (XTw15 (⟨(k.x2)⟩ : ETw15)) else K .ret (XTw15 (getRO (xTw15 k (bTw15 k)) (oTw15 k)))) else none | none => none
theorem okgTw15 : OKL 57 15 gTw15 := okfTw15 (fuel := fun k => (k.x49).length) (ok := okTw15) (F := FTw15) iTw15 fun st K => by
  unfold gTw15
  cases hu : uTw15 st with
  | none => rfl
  | some k =>
    dsimp only
    split
    · unfold FTw15 fxO
      cases isLO (oTw15 k) <;> rfl
    · rfl
structure KTw9 where
  x1 : GProgram
  x2 : Bool
  x3 : List (ByteArray × Bool)
  x4 : List (ByteArray × Bool)
  x6 : GNode
  x7 : Int
  x13 : List GNode
  x14 : Int
  x15 : Int
structure ETw9 where
  x1 : GProgram
  x2 : Bool
  x3 : List (ByteArray × Bool)
  x4 : List (ByteArray × Bool)
  x13 : List GNode
  x14 : Int
  x15 : Int
def STw9 (k : KTw9) : St At := { env := [(1, .ptr 0 0), (2, .bool k.x2), (3, .mapr 1), (4, .mapr 2), (6, .ptr 3 0), (7, .int .i64 k.x7), (13, .ro 58 k.x13), (14, .int .i64 k.x14), (15, .int .i64 k.x15)], stk := [], hp := [(0, .var (enc31 k.x1) false), (1, .map (.ty 9 4 k.x3) false), (2, .map (.ty 9 4 k.x4) false), (3, .var (enc58 k.x6) false)], nx := 4 }
def XTw9 (k : ETw9) : St At := { env := [(1, .ptr 0 0), (2, .bool k.x2), (3, .mapr 1), (4, .mapr 2), (13, .ro 58 k.x13), (14, .int .i64 k.x14), (15, .int .i64 k.x15)], stk := [], hp := [(0, .var (enc31 k.x1) false), (1, .map (.ty 9 4 k.x3) false), (2, .map (.ty 9 4 k.x4) false)], nx := 3 }
def CTw9 : Cfg := { cs := libFi, ks := [((57, 9), [(1, none), (2, none), (3, none), (4, none), (6, none), (7, none), (13, none), (14, none), (15, none)])], xs := [((57, 9), [(1, none), (2, none), (3, none), (4, none), (13, none), (14, none), (15, none)])], lps := [] }
theorem CTw9_ok : CfgOK CTw9 := { con := libFi_ok }
def stTw9 {α : Type} (k : KTw9) (go : KTw9 → α) (ex ret : ETw9 → α) (no : α) : α :=
  if decide (k.x7 < (↑k.x6.params.length : Int)) = true then
   if 0 ≤ IntKind.i64.wrap (k.x7 - 1) then
    if IntKind.i64.wrap (k.x7 - 1) < (↑k.x6.params.length : Int) then
     if 0 ≤ k.x7 then
      if k.x7 < (↑k.x6.params.length : Int) then
       if (!ltB (gt { name := { data := #[] : ByteArray }, value := 0 : GParam } k.x6.params (IntKind.i64.wrap (k.x7 - 1)).toNat).name (gt { name := { data := #[] : ByteArray }, value := 0 : GParam } k.x6.params k.x7.toNat).name) = true then
        ret ⟨(k.x1), (true), (k.x3), (k.x4), (k.x13), (k.x14), (k.x15)⟩
       else
        go ⟨(k.x1), (k.x2), (k.x3), (k.x4), (k.x6), (IntKind.i64.wrap (k.x7 + 1)), (k.x13), (k.x14), (k.x15)⟩
      else
       no
     else
      no
    else
     no
   else
    no
  else
   ex ⟨(k.x1), (k.x2), (k.x3), (k.x4), (k.x13), (k.x14), (k.x15)⟩
def stepTw9 (k : KTw9) : Nx KTw9 ETw9 := stTw9 k .go .ex .ret .no
theorem BTw9 (k : KTw9) (m : Nat) (R : St At → Option (Res At)) (K : Xit → St At → Option (Res At)) : B CTw9 57 9 (m + 60) (STw9 k) R K = stTw9 k (fun k => R (STw9 k)) (fun x => K (.ex 2) (XTw9 x)) (fun x => K .ret (XTw9 x)) none := by kernel_rfl
def uTw9 (st : St At) : Option KTw9 := match st with
  | ⟨[(1, .ptr 0 0), (2, .bool x2), (3, .mapr 1), (4, .mapr 2), (6, .ptr 3 0), (7, .int .i64 x7), (13, vx13), (14, .int .i64 x14), (15, .int .i64 x15)], [], [(0, .var wx1 false), (1, bx3), (2, bx4), (3, .var wx6 false)], 4⟩ => (match ex31 wx1, mapB 9 4 bx3, mapB 9 4 bx4, ex58 wx6, roV 58 vx13 with | some x1, some x3, some x4, some x6, some x13 => some ⟨x1, x2, x3, x4, x6, x7, x13, x14, x15⟩ | _, _, _, _, _ => none)
  | _ => none
theorem uTw9_spec {st : St At} {k : KTw9} (h : uTw9 st = some k) : st = STw9 k := by
  unfold uTw9 at h
  split at h
  · split at h
    · rename_i h0 h1 h2 h3 h4
      obtain rfl := Option.some.inj h
      rw [ex31_spec h0, mapB_spec h1, mapB_spec h2, ex58_spec h3, roV_spec h4]
      rfl
    · cases h
  · cases h
theorem oklTw9 {g : LP} (hg : ∀ st K q, g st K = some q → ∃ k n e, st = STw9 k ∧ iter stepTw9 n k = some e ∧ e.k 2 XTw9 XTw9 K = some q) : OKL 57 9 g := okl_iter CTw9_ok (S := STw9) (X := XTw9) (Y := XTw9) (step := stepTw9) (id := 2) (by kernel_rfl) (by kernel_rfl)
  (fun k m R K => by rw [BTw9]; unfold stepTw9 stTw9; simp only [Nx.k_ite]; rfl) (fun k => by kernel_rfl) hg
theorem okfTw9 {g : LP} {fuel : KTw9 → Nat} {ok : KTw9 → Bool} {F : KTw9 → Fx ETw9} (hF : ∀ k, ok k = true → iter stepTw9 (fuel k) k = some (F k)) (hg : ∀ st K, g st K = (match uTw9 st with | some k => if ok k = true then (F k).k 2 XTw9 XTw9 K else none | none => none)) : OKL 57 9 g := oklTw9 fun st K q h => by
  rw [hg] at h
  split at h
  · rename_i k hu
    split at h
    · rename_i hok; exact ⟨k, _, _, uTw9_spec hu, hF k hok, h⟩
    · cases h
  · cases h
structure B_Tw9 where
  x7 : Int
abbrev P_Tw9 := Unit
structure Q_Tw9 where
  x2 : Bool
def putTw9 (k : KTw9) (b : B_Tw9) : KTw9 := ⟨k.x1, k.x2, k.x3, k.x4, k.x6, b.x7, k.x13, k.x14, k.x15⟩
def bTw9 (k : KTw9) : B_Tw9 := ⟨k.x7⟩
def xeTw9 (k : KTw9) (e : P_Tw9) : ETw9 := ⟨k.x1, k.x2, k.x3, k.x4, k.x13, k.x14, k.x15⟩
def xrTw9 (k : KTw9) (e : Q_Tw9) : ETw9 := ⟨k.x1, e.x2, k.x3, k.x4, k.x13, k.x14, k.x15⟩
def sTw9 (k : KTw9) (b : B_Tw9) : Nx2 B_Tw9 P_Tw9 Q_Tw9 := stTw9 (putTw9 k b) (fun k => .go ⟨k.x7⟩) (fun k => .ex ()) (fun k => .ret ⟨k.x2⟩) .no
def iTw9 (k : KTw9) : Option (P_Tw9 ⊕ Q_Tw9) := iter2 (sTw9 k) (k.x6.params.length) (bTw9 k)
def okTw9 (k : KTw9) : Bool := isO (iTw9 k)
def FTw9 (k : KTw9) : Fx ETw9 := if isLO (iTw9 k) = true then .ex (xeTw9 k (getLO () (iTw9 k))) else .ret (xrTw9 k (getRO ⟨k.x2⟩ (iTw9 k)))
theorem hTw9 (k : KTw9) (b : B_Tw9) : stepTw9 (putTw9 k b) = (sTw9 k b).up (putTw9 k) (xeTw9 k) (xrTw9 k) := by
  unfold stepTw9 sTw9 stTw9 putTw9
  dsimp only
  simp only [Nx2.up_ite]
  rfl
theorem iTw9_ok (k : KTw9) (h : okTw9 k = true) : iter stepTw9 (k.x6.params.length) k = some (FTw9 k) := iter2_ok (bTw9 k) (hTw9 k) h
def gTw9 : LP := fun st K => match uTw9 st with | some k => if okTw9 k = true then (if isLO (iTw9 k) = true then K (.ex 2) (XTw9 (⟨k.x1, k.x2, k.x3, k.x4, k.x13, k.x14, k.x15⟩ : ETw9)) else K .ret (XTw9 (⟨k.x1, (getRO ⟨k.x2⟩ (iTw9 k)).x2, k.x3, k.x4, k.x13, k.x14, k.x15⟩ : ETw9))) else none | none => none
theorem okgTw9 : OKL 57 9 gTw9 := okfTw9 (fuel := fun k => k.x6.params.length) (ok := okTw9) (F := FTw9) iTw9_ok fun st K => by
  unfold gTw9
  cases hu : uTw9 st with
  | none => rfl
  | some k =>
    dsimp only
    split
    · unfold FTw9
      cases isLO (iTw9 k) <;> rfl
    · rfl
structure KTw3 where
  x1 : GProgram
  x2 : Bool
  x3 : List (ByteArray × Bool)
  x4 : List (ByteArray × Bool)
  x13 : List GNode
  x14 : Int
  x15 : Int
structure ETw3 where
  x1 : GProgram
  x2 : Bool
  x4 : List (ByteArray × Bool)
def STw3 (k : KTw3) : St At := { env := [(1, .ptr 0 0), (2, .bool k.x2), (3, .mapr 1), (4, .mapr 2), (13, .ro 58 k.x13), (14, .int .i64 k.x14), (15, .int .i64 k.x15)], stk := [], hp := [(0, .var (enc31 k.x1) false), (1, .map (.ty 9 4 k.x3) false), (2, .map (.ty 9 4 k.x4) false)], nx := 3 }
def XTw3 (k : ETw3) : St At := { env := [(1, .ptr 0 0), (2, .bool k.x2), (4, .mapr 1)], stk := [], hp := [(0, .var (enc31 k.x1) false), (1, .map (.ty 9 4 k.x4) false)], nx := 2 }
def CTw3 : Cfg := { cs := libFi, ks := [((57, 3), [(1, none), (2, none), (3, none), (4, none), (13, none), (14, none), (15, none)])] ++ CTw9.ks, xs := [((57, 3), [(1, none), (2, none), (4, none)])] ++ CTw9.xs, lps := [((57, 9), gTw9)] }
theorem CTw3_ok : CfgOK CTw3 := { con := libFi_ok, lp := .cons okgTw9 .nil }
def stTw3 {α : Type} (k : KTw3) (go : KTw3 → α) (ex ret : ETw3 → α) (no : α) : α :=
  if decide (k.x15 < k.x14) = true then
   if 0 ≤ k.x15 then
    if k.x15 < (↑k.x13.length : Int) then
     if getO false (mlook9_4 (gt { name := { data := #[] : ByteArray }, block := { data := #[] : ByteArray }, params := [], inputs := [] : GNode } k.x13 k.x15.toNat).name k.x3) = true then
      ret ⟨(k.x1), (true), (k.x4)⟩
     else
      if okTw9 { x1 := k.x1, x2 := k.x2, x3 := mupd9_4 (gt { name := { data := #[] : ByteArray }, block := { data := #[] : ByteArray }, params := [], inputs := [] : GNode } k.x13 k.x15.toNat).name true k.x3, x4 := k.x4, x6 := gt { name := { data := #[] : ByteArray }, block := { data := #[] : ByteArray }, params := [], inputs := [] : GNode } k.x13 k.x15.toNat, x7 := 1, x13 := k.x13, x14 := k.x14, x15 := k.x15 : KTw9 } = true then
       if isLO (iTw9 { x1 := k.x1, x2 := k.x2, x3 := mupd9_4 (gt { name := { data := #[] : ByteArray }, block := { data := #[] : ByteArray }, params := [], inputs := [] : GNode } k.x13 k.x15.toNat).name true k.x3, x4 := k.x4, x6 := gt { name := { data := #[] : ByteArray }, block := { data := #[] : ByteArray }, params := [], inputs := [] : GNode } k.x13 k.x15.toNat, x7 := 1, x13 := k.x13, x14 := k.x14, x15 := k.x15 : KTw9 }) = true then
        go ⟨(k.x1), (k.x2), (mupd9_4 (gt { name := { data := #[] : ByteArray }, block := { data := #[] : ByteArray }, params := [], inputs := [] : GNode } k.x13 k.x15.toNat).name true k.x3), (k.x4), (k.x13), (k.x14), (IntKind.i64.wrap (k.x15 + 1))⟩
       else
        ret ⟨(k.x1), ((getRO { x2 := k.x2 : Q_Tw9 } (iTw9 { x1 := k.x1, x2 := k.x2, x3 := mupd9_4 (gt { name := { data := #[] : ByteArray }, block := { data := #[] : ByteArray }, params := [], inputs := [] : GNode } k.x13 k.x15.toNat).name true k.x3, x4 := k.x4, x6 := gt { name := { data := #[] : ByteArray }, block := { data := #[] : ByteArray }, params := [], inputs := [] : GNode } k.x13 k.x15.toNat, x7 := 1, x13 := k.x13, x14 := k.x14, x15 := k.x15 : KTw9 })).x2), (k.x4)⟩
      else
       no
    else
     no
   else
    no
  else
   ex ⟨(k.x1), (k.x2), (k.x4)⟩
def stepTw3 (k : KTw3) : Nx KTw3 ETw3 := stTw3 k .go .ex .ret .no
theorem BTw3 (k : KTw3) (m : Nat) (R : St At → Option (Res At)) (K : Xit → St At → Option (Res At)) : B CTw3 57 3 (m + 60) (STw3 k) R K = stTw3 k (fun k => R (STw3 k)) (fun x => K (.ex 0) (XTw3 x)) (fun x => K .ret (XTw3 x)) none := by kernel_rfl
def uTw3 (st : St At) : Option KTw3 := match st with
  | ⟨[(1, .ptr 0 0), (2, .bool x2), (3, .mapr 1), (4, .mapr 2), (13, vx13), (14, .int .i64 x14), (15, .int .i64 x15)], [], [(0, .var wx1 false), (1, bx3), (2, bx4)], 3⟩ => (match ex31 wx1, mapB 9 4 bx3, mapB 9 4 bx4, roV 58 vx13 with | some x1, some x3, some x4, some x13 => some ⟨x1, x2, x3, x4, x13, x14, x15⟩ | _, _, _, _ => none)
  | _ => none
theorem uTw3_spec {st : St At} {k : KTw3} (h : uTw3 st = some k) : st = STw3 k := by
  unfold uTw3 at h
  split at h
  · split at h
    · rename_i h0 h1 h2 h3
      obtain rfl := Option.some.inj h
      rw [ex31_spec h0, mapB_spec h1, mapB_spec h2, roV_spec h3]
      rfl
    · cases h
  · cases h
theorem oklTw3 {g : LP} (hg : ∀ st K q, g st K = some q → ∃ k n e, st = STw3 k ∧ iter stepTw3 n k = some e ∧ e.k 0 XTw3 XTw3 K = some q) : OKL 57 3 g := okl_iter CTw3_ok (S := STw3) (X := XTw3) (Y := XTw3) (step := stepTw3) (id := 0) (by kernel_rfl) (by kernel_rfl)
  (fun k m R K => by rw [BTw3]; unfold stepTw3 stTw3; simp only [Nx.k_ite]; rfl) (fun k => by kernel_rfl) hg
theorem okfTw3 {g : LP} {fuel : KTw3 → Nat} {ok : KTw3 → Bool} {F : KTw3 → Fx ETw3} (hF : ∀ k, ok k = true → iter stepTw3 (fuel k) k = some (F k)) (hg : ∀ st K, g st K = (match uTw3 st with | some k => if ok k = true then (F k).k 0 XTw3 XTw3 K else none | none => none)) : OKL 57 3 g := oklTw3 fun st K q h => by
  rw [hg] at h
  split at h
  · rename_i k hu
    split at h
    · rename_i hok; exact ⟨k, _, _, uTw3_spec hu, hF k hok, h⟩
    · cases h
  · cases h
structure B_Tw3 where
  x3 : List (ByteArray × Bool)
def fTw3 (k : KTw3) (b : B_Tw3) (p : GNode × Nat) : Option (B_Tw3 ⊕ ETw3) :=
  if getO false (mlook9_4 p.1.name b.x3) = true then
   some (.inr ⟨(k.x1), (true), (k.x4)⟩)
  else
   if okTw9 { x1 := k.x1, x2 := k.x2, x3 := mupd9_4 p.1.name true b.x3, x4 := k.x4, x6 := p.1, x7 := 1, x13 := k.x13, x14 := k.x14, x15 := (p.2 : Int) : KTw9 } = true then
    if isLO (iTw9 { x1 := k.x1, x2 := k.x2, x3 := mupd9_4 p.1.name true b.x3, x4 := k.x4, x6 := p.1, x7 := 1, x13 := k.x13, x14 := k.x14, x15 := (p.2 : Int) : KTw9 }) = true then
     some (.inl ⟨(mupd9_4 p.1.name true b.x3)⟩)
    else
     some (.inr ⟨(k.x1), ((getRO { x2 := k.x2 : Q_Tw9 } (iTw9 { x1 := k.x1, x2 := k.x2, x3 := mupd9_4 p.1.name true b.x3, x4 := k.x4, x6 := p.1, x7 := 1, x13 := k.x13, x14 := k.x14, x15 := (p.2 : Int) : KTw9 })).x2), (k.x4)⟩)
   else
    none
def xTw3 (k : KTw3) (b : B_Tw3) : ETw3 := ⟨(k.x1), (k.x2), (k.x4)⟩
def putTw3 (k : KTw3) (b : B_Tw3) (j : Nat) : KTw3 := ⟨k.x1, k.x2, b.x3, k.x4, k.x13, k.x14, (j : Int)⟩
def bTw3 (k : KTw3) : B_Tw3 := ⟨k.x3⟩
def oTw3 (k : KTw3) : Option (B_Tw3 ⊕ ETw3) := scanO (fTw3 k) (bTw3 k) (k.x13.zipIdx)
def okTw3 (k : KTw3) : Bool := decide (k.x15 = 0) && (decide (k.x14 = (k.x13.length : Int)) && (Nat.ble k.x13.length 9223372036854775807 && isOO (oTw3 k)))
def FTw3 (k : KTw3) : Fx ETw3 := fxO (xTw3 k) (bTw3 k) (xTw3 k (bTw3 k)) (oTw3 k)
theorem sTw3 (k : KTw3) (hn : k.x14 = (k.x13.length : Int)) (hm : k.x13.length ≤ 9223372036854775807) (b : B_Tw3) (j : Nat) (h : j < k.x13.length) : stepTw3 (putTw3 k b j) = nxO (fun b' => putTw3 k b' (j + 1)) (fTw3 k b (k.x13[j], j)) := by
  unfold stepTw3 stTw3 fTw3 putTw3
  dsimp only
  simp only [hn, nxO_ite, cnt' h hm, gtj' _ _ _ h, if_pos (lt1' h), if_pos (lt0' (j := j)), if_pos (lt2' h)]
  rfl
theorem eTw3 (k : KTw3) (hn : k.x14 = (k.x13.length : Int)) (b : B_Tw3) : stepTw3 (putTw3 k b k.x13.length) = .ex (xTw3 k b) := by
  unfold stepTw3 stTw3 putTw3
  dsimp only
  rw [hn, if_neg lt3']
  rfl
theorem iTw3 (k : KTw3) (h : okTw3 k = true) : iter stepTw3 (k.x13.zipIdx).length k = some (FTw3 k) := by
  unfold okTw3 at h
  simp only [Bool.and_eq_true, decide_eq_true_eq] at h
  obtain ⟨h0, h1, h2, h3⟩ := h
  replace h2 := Nat.le_of_ble_eq_true h2
  have e : k = putTw3 k (bTw3 k) 0 := by cases k; dsimp only at h0; subst h0; rfl
  have := iter_scanO (step := stepTw3) (k.x13.zipIdx) (putTw3 k) (fTw3 k) (xTw3 k) (bTw3 k) (xTw3 k (bTw3 k)) (fun b j h => (by rw [show (k.x13.zipIdx)[j] = (k.x13[j]'(by simpa using h), j) by simp]; exact sTw3 k h1 h2 b j (by simpa using h))) (fun b => (by rw [show (k.x13.zipIdx).length = k.x13.length by simp]; exact eTw3 k h1 b)) (k.x13.zipIdx).length 0 (bTw3 k) (by simp) (by rw [List.drop_zero]; exact h3)
  rw [List.drop_zero, ← e] at this
  exact this
def gTw3 : LP := fun st K => match uTw3 st with | some k => if okTw3 k = true then (if isLO (oTw3 k) = true then K (.ex 0) (XTw3 (⟨(k.x1), (k.x2), (k.x4)⟩ : ETw3)) else K .ret (XTw3 (getRO (xTw3 k (bTw3 k)) (oTw3 k)))) else none | none => none
theorem okgTw3 : OKL 57 3 gTw3 := okfTw3 (fuel := fun k => (k.x13.zipIdx).length) (ok := okTw3) (F := FTw3) iTw3 fun st K => by
  unfold gTw3
  cases hu : uTw3 st with
  | none => rfl
  | some k =>
    dsimp only
    split
    · unfold FTw3 fxO
      cases isLO (oTw3 k) <;> rfl
    · rfl
def CTw : Cfg := { cs := libFi, ks := CTw15.ks ++ CTw3.ks, xs := CTw15.xs ++ CTw3.xs, lps := [((57, 15), gTw15), ((57, 3), gTw3)] }
theorem CTw_ok : CfgOK CTw := { con := libFi_ok, lp := .cons okgTw15 (.cons okgTw3 .nil) }
def RTw (a0 : GProgram) : Option (Res At) :=
  if okTw3 { x1 := a0, x2 := false, x3 := [], x4 := [], x13 := a0.nodes, x14 := (↑a0.nodes.length : Int), x15 := 0 : KTw3 } = true then
   if isLO (oTw3 { x1 := a0, x2 := false, x3 := [], x4 := [], x13 := a0.nodes, x14 := (↑a0.nodes.length : Int), x15 := 0 : KTw3 }) = true then
    if okTw15 { x2 := false, x4 := [], x49 := a0.drives, x50 := (↑a0.drives.length : Int), x51 := 0 : KTw15 } = true then
     if isLO (oTw15 { x2 := false, x4 := [], x49 := a0.drives, x50 := (↑a0.drives.length : Int), x51 := 0 : KTw15 }) = true then
      some ((.bool false), [])
     else
      some ((.bool ((getRO (xTw15 { x2 := false, x4 := [], x49 := a0.drives, x50 := (↑a0.drives.length : Int), x51 := 0 : KTw15 } (bTw15 { x2 := false, x4 := [], x49 := a0.drives, x50 := (↑a0.drives.length : Int), x51 := 0 : KTw15 })) (oTw15 { x2 := false, x4 := [], x49 := a0.drives, x50 := (↑a0.drives.length : Int), x51 := 0 : KTw15 })).x2)), [])
    else
     none
   else
    some ((.bool ((getRO (xTw3 { x1 := a0, x2 := false, x3 := [], x4 := [], x13 := a0.nodes, x14 := (↑a0.nodes.length : Int), x15 := 0 : KTw3 } (bTw3 { x1 := a0, x2 := false, x3 := [], x4 := [], x13 := a0.nodes, x14 := (↑a0.nodes.length : Int), x15 := 0 : KTw3 })) (oTw3 { x1 := a0, x2 := false, x3 := [], x4 := [], x13 := a0.nodes, x14 := (↑a0.nodes.length : Int), x15 := 0 : KTw3 })).x2)), [])
  else
   none
theorem run_RTw (a0 : GProgram) : runF CTw 80 57 [.agg (enc31 a0)] = RTw a0 := by kernel_rfl
def oTw (a0 : GProgram) : Option (Res At) := crR [none] (RTw a0)
def vTw (a0 : GProgram) : Bool := valO rB false (oTw a0)
def cTw (a0 : GProgram) : Bool := okO rB (oTw a0)
def conTw : CON := on1 (rA ex31 enc31 fun _ _ h => ex31_spec h) fun a0 => some (cTw a0, (.bool (vTw a0), []))
theorem okTw : OK 57 conTw := okc1 CTw_ok (n := 80) (ts := [none]) (a := (rA ex31 enc31 fun _ _ h => ex31_spec h)) (r := rB) (d := false) (R := fun a0 => RTw a0) (by kernel_rfl) fun a0 => run_RTw a0
def libTw : List (Nat × CON) := (57, conTw) :: libFi
theorem libTw_ok : AllOK libTw := .cons okTw libFi_ok
structure KUk16 where
  x2 : List GPoint
  x3 : GProgram
  x4 : Bool
  x45 : List GLink
  x46 : Int
  x47 : Int
structure EUk16 where
  x2 : List GPoint
  x3 : GProgram
  x4 : Bool
def SUk16 (k : KUk16) : St At := { env := [(2, .ptr 0 0), (3, .ptr 1 0), (4, .bool k.x4), (5, .ptr 2 0), (45, .ro 55 k.x45), (46, .int .i64 k.x46), (47, .int .i64 k.x47)], stk := [], hp := [(0, .var [.ro 66 k.x2] false), (1, .var (enc31 k.x3) false), (2, .var [.fn 113 [.ptr 0 0]] false)], nx := 3 }
def XUk16 (k : EUk16) : St At := { env := [(2, .ptr 0 0), (3, .ptr 1 0), (4, .bool k.x4), (5, .ptr 2 0)], stk := [], hp := [(0, .var [.ro 66 k.x2] false), (1, .var (enc31 k.x3) false), (2, .var [.fn 113 [.ptr 0 0]] false)], nx := 3 }
def CUk16 : Cfg := { cs := libTw, ks := [((58, 16), [(2, none), (3, none), (4, none), (5, none), (45, none), (46, none), (47, none)])], xs := [((58, 16), [(2, none), (3, none), (4, none), (5, none)])], lps := [] }
theorem CUk16_ok : CfgOK CUk16 := { con := libTw_ok }
def stUk16 {α : Type} (k : KUk16) (go : KUk16 → α) (ex ret : EUk16 → α) (no : α) : α :=
  if decide (k.x47 < k.x46) = true then
   if 0 ≤ k.x47 then
    if k.x47 < (↑k.x45.length : Int) then
     if (!eqB (gt { node := { data := #[] : ByteArray }, port := 0, point := { data := #[] : ByteArray }, const := { kind := 0, n := 0 : GValue }, delayed := false, initial := { kind := 0, n := 0 : GValue } : GLink } k.x45 k.x47.toNat).node { data := #[] : ByteArray }) = true then
      if cFi k.x3 (gt { node := { data := #[] : ByteArray }, port := 0, point := { data := #[] : ByteArray }, const := { kind := 0, n := 0 : GValue }, delayed := false, initial := { kind := 0, n := 0 : GValue } : GLink } k.x45 k.x47.toNat).node = true then
       if decide (vFi k.x3 (gt { node := { data := #[] : ByteArray }, port := 0, point := { data := #[] : ByteArray }, const := { kind := 0, n := 0 : GValue }, delayed := false, initial := { kind := 0, n := 0 : GValue } : GLink } k.x45 k.x47.toNat).node < 0) = false then
        if (!eqB (gt { node := { data := #[] : ByteArray }, port := 0, point := { data := #[] : ByteArray }, const := { kind := 0, n := 0 : GValue }, delayed := false, initial := { kind := 0, n := 0 : GValue } : GLink } k.x45 k.x47.toNat).point { data := #[] : ByteArray }) = true then
         if cU1 (gt { node := { data := #[] : ByteArray }, port := 0, point := { data := #[] : ByteArray }, const := { kind := 0, n := 0 : GValue }, delayed := false, initial := { kind := 0, n := 0 : GValue } : GLink } k.x45 k.x47.toNat).point k.x2 = true then
          if (!vU1 (gt { node := { data := #[] : ByteArray }, port := 0, point := { data := #[] : ByteArray }, const := { kind := 0, n := 0 : GValue }, delayed := false, initial := { kind := 0, n := 0 : GValue } : GLink } k.x45 k.x47.toNat).point k.x2) = true then
           ret ⟨(k.x2), (k.x3), (true)⟩
          else
           go ⟨(k.x2), (k.x3), (k.x4), (k.x45), (k.x46), (IntKind.i64.wrap (k.x47 + 1))⟩
         else
          no
        else
         go ⟨(k.x2), (k.x3), (k.x4), (k.x45), (k.x46), (IntKind.i64.wrap (k.x47 + 1))⟩
       else
        ret ⟨(k.x2), (k.x3), (true)⟩
      else
       no
     else
      if (!eqB (gt { node := { data := #[] : ByteArray }, port := 0, point := { data := #[] : ByteArray }, const := { kind := 0, n := 0 : GValue }, delayed := false, initial := { kind := 0, n := 0 : GValue } : GLink } k.x45 k.x47.toNat).point { data := #[] : ByteArray }) = true then
       if cU1 (gt { node := { data := #[] : ByteArray }, port := 0, point := { data := #[] : ByteArray }, const := { kind := 0, n := 0 : GValue }, delayed := false, initial := { kind := 0, n := 0 : GValue } : GLink } k.x45 k.x47.toNat).point k.x2 = true then
        if (!vU1 (gt { node := { data := #[] : ByteArray }, port := 0, point := { data := #[] : ByteArray }, const := { kind := 0, n := 0 : GValue }, delayed := false, initial := { kind := 0, n := 0 : GValue } : GLink } k.x45 k.x47.toNat).point k.x2) = true then
         ret ⟨(k.x2), (k.x3), (true)⟩
        else
         go ⟨(k.x2), (k.x3), (k.x4), (k.x45), (k.x46), (IntKind.i64.wrap (k.x47 + 1))⟩
       else
        no
      else
       go ⟨(k.x2), (k.x3), (k.x4), (k.x45), (k.x46), (IntKind.i64.wrap (k.x47 + 1))⟩
    else
     no
   else
    no
  else
   ex ⟨(k.x2), (k.x3), (k.x4)⟩
def stepUk16 (k : KUk16) : Nx KUk16 EUk16 := stUk16 k .go .ex .ret .no
theorem BUk16 (k : KUk16) (m : Nat) (R : St At → Option (Res At)) (K : Xit → St At → Option (Res At)) : B CUk16 58 16 (m + 60) (SUk16 k) R K = stUk16 k (fun k => R (SUk16 k)) (fun x => K (.ex 4) (XUk16 x)) (fun x => K .ret (XUk16 x)) none := by kernel_rfl
def uUk16 (st : St At) : Option KUk16 := match st with
  | ⟨[(2, .ptr 0 0), (3, .ptr 1 0), (4, .bool x4), (5, .ptr 2 0), (45, vx45), (46, .int .i64 x46), (47, .int .i64 x47)], [], [(0, .var [vx2] false), (1, .var wx3 false), (2, .var [.fn 113 [.ptr 0 0]] false)], 3⟩ => (match roV 66 vx2, ex31 wx3, roV 55 vx45 with | some x2, some x3, some x45 => some ⟨x2, x3, x4, x45, x46, x47⟩ | _, _, _ => none)
  | _ => none
theorem uUk16_spec {st : St At} {k : KUk16} (h : uUk16 st = some k) : st = SUk16 k := by
  unfold uUk16 at h
  split at h
  · split at h
    · rename_i h0 h1 h2
      obtain rfl := Option.some.inj h
      rw [roV_spec h0, ex31_spec h1, roV_spec h2]
      rfl
    · cases h
  · cases h
theorem oklUk16 {g : LP} (hg : ∀ st K q, g st K = some q → ∃ k n e, st = SUk16 k ∧ iter stepUk16 n k = some e ∧ e.k 4 XUk16 XUk16 K = some q) : OKL 58 16 g := okl_iter CUk16_ok (S := SUk16) (X := XUk16) (Y := XUk16) (step := stepUk16) (id := 4) (by kernel_rfl) (by kernel_rfl)
  (fun k m R K => by rw [BUk16]; unfold stepUk16 stUk16; simp only [Nx.k_ite]; rfl) (fun k => by kernel_rfl) hg
theorem okfUk16 {g : LP} {fuel : KUk16 → Nat} {ok : KUk16 → Bool} {F : KUk16 → Fx EUk16} (hF : ∀ k, ok k = true → iter stepUk16 (fuel k) k = some (F k)) (hg : ∀ st K, g st K = (match uUk16 st with | some k => if ok k = true then (F k).k 4 XUk16 XUk16 K else none | none => none)) : OKL 58 16 g := oklUk16 fun st K q h => by
  rw [hg] at h
  split at h
  · rename_i k hu
    split at h
    · rename_i hok; exact ⟨k, _, _, uUk16_spec hu, hF k hok, h⟩
    · cases h
  · cases h
abbrev B_Uk16 := Unit
def fUk16 (k : KUk16) (b : B_Uk16) (x : GLink) : Option (B_Uk16 ⊕ EUk16) :=
  if (!eqB x.node { data := #[] : ByteArray }) = true then
   if cFi k.x3 x.node = true then
    if decide (vFi k.x3 x.node < 0) = false then
     if (!eqB x.point { data := #[] : ByteArray }) = true then
      if cU1 x.point k.x2 = true then
       if (!vU1 x.point k.x2) = true then
        some (.inr ⟨(k.x2), (k.x3), (true)⟩)
       else
        some (.inl ())
      else
       none
     else
      some (.inl ())
    else
     some (.inr ⟨(k.x2), (k.x3), (true)⟩)
   else
    none
  else
   if (!eqB x.point { data := #[] : ByteArray }) = true then
    if cU1 x.point k.x2 = true then
     if (!vU1 x.point k.x2) = true then
      some (.inr ⟨(k.x2), (k.x3), (true)⟩)
     else
      some (.inl ())
    else
     none
   else
    some (.inl ())
def xUk16 (k : KUk16) (b : B_Uk16) : EUk16 := ⟨(k.x2), (k.x3), (k.x4)⟩
def putUk16 (k : KUk16) (b : B_Uk16) (j : Nat) : KUk16 := ⟨k.x2, k.x3, k.x4, k.x45, k.x46, (j : Int)⟩
def bUk16 (k : KUk16) : B_Uk16 := ()
def oUk16 (k : KUk16) : Option (B_Uk16 ⊕ EUk16) := scanO (fUk16 k) (bUk16 k) k.x45
def okUk16 (k : KUk16) : Bool := decide (k.x47 = 0) && (decide (k.x46 = (k.x45.length : Int)) && (Nat.ble k.x45.length 9223372036854775807 && isOO (oUk16 k)))
def FUk16 (k : KUk16) : Fx EUk16 := fxO (xUk16 k) (bUk16 k) (xUk16 k (bUk16 k)) (oUk16 k)
theorem sUk16 (k : KUk16) (hn : k.x46 = (k.x45.length : Int)) (hm : k.x45.length ≤ 9223372036854775807) (b : B_Uk16) (j : Nat) (h : j < k.x45.length) : stepUk16 (putUk16 k b j) = nxO (fun b' => putUk16 k b' (j + 1)) (fUk16 k b k.x45[j]) := by
  unfold stepUk16 stUk16 fUk16 putUk16
  dsimp only
  simp only [hn, nxO_ite, cnt' h hm, gtj' _ _ _ h, if_pos (lt1' h), if_pos (lt0' (j := j)), if_pos (lt2' h)]
  rfl
theorem eUk16 (k : KUk16) (hn : k.x46 = (k.x45.length : Int)) (b : B_Uk16) : stepUk16 (putUk16 k b k.x45.length) = .ex (xUk16 k b) := by
  unfold stepUk16 stUk16 putUk16
  dsimp only
  rw [hn, if_neg lt3']
  rfl
theorem iUk16 (k : KUk16) (h : okUk16 k = true) : iter stepUk16 (k.x45).length k = some (FUk16 k) := by
  unfold okUk16 at h
  simp only [Bool.and_eq_true, decide_eq_true_eq] at h
  obtain ⟨h0, h1, h2, h3⟩ := h
  replace h2 := Nat.le_of_ble_eq_true h2
  have e : k = putUk16 k (bUk16 k) 0 := by cases k; dsimp only at h0; subst h0; rfl
  have := iter_scanO (step := stepUk16) k.x45 (putUk16 k) (fUk16 k) (xUk16 k) (bUk16 k) (xUk16 k (bUk16 k)) (fun b j h => sUk16 k h1 h2 b j h) (fun b => eUk16 k h1 b) k.x45.length 0 (bUk16 k) (by simp) (by rw [List.drop_zero]; exact h3)
  rw [List.drop_zero, ← e] at this
  exact this
def gUk16 : LP := fun st K => match uUk16 st with | some k => if okUk16 k = true then (if isLO (oUk16 k) = true then K (.ex 4) (XUk16 (⟨(k.x2), (k.x3), (k.x4)⟩ : EUk16)) else K .ret (XUk16 (getRO (xUk16 k (bUk16 k)) (oUk16 k)))) else none | none => none
theorem okgUk16 : OKL 58 16 gUk16 := okfUk16 (fuel := fun k => (k.x45).length) (ok := okUk16) (F := FUk16) iUk16 fun st K => by
  unfold gUk16
  cases hu : uUk16 st with
  | none => rfl
  | some k =>
    dsimp only
    split
    · unfold FUk16 fxO
      cases isLO (oUk16 k) <;> rfl
    · rfl
structure KUk9 where
  x2 : List GPoint
  x3 : GProgram
  x4 : Bool
  x8 : GDescriptor
  x16 : List GNode
  x17 : Int
  x18 : Int
  x31 : List GParam
  x32 : Int
  x33 : Int
structure EUk9 where
  x2 : List GPoint
  x3 : GProgram
  x4 : Bool
  x16 : List GNode
  x17 : Int
  x18 : Int
def SUk9 (k : KUk9) : St At := { env := [(2, .ptr 0 0), (3, .ptr 1 0), (4, .bool k.x4), (5, .ptr 2 0), (8, .ptr 3 0), (16, .ro 58 k.x16), (17, .int .i64 k.x17), (18, .int .i64 k.x18), (31, .ro 93 k.x31), (32, .int .i64 k.x32), (33, .int .i64 k.x33)], stk := [], hp := [(0, .var [.ro 66 k.x2] false), (1, .var (enc31 k.x3) false), (2, .var [.fn 113 [.ptr 0 0]] false), (3, .var (enc150 k.x8) false)], nx := 4 }
def XUk9 (k : EUk9) : St At := { env := [(2, .ptr 0 0), (3, .ptr 1 0), (4, .bool k.x4), (5, .ptr 2 0), (16, .ro 58 k.x16), (17, .int .i64 k.x17), (18, .int .i64 k.x18)], stk := [], hp := [(0, .var [.ro 66 k.x2] false), (1, .var (enc31 k.x3) false), (2, .var [.fn 113 [.ptr 0 0]] false)], nx := 3 }
def CUk9 : Cfg := { cs := libTw, ks := [((58, 9), [(2, none), (3, none), (4, none), (5, none), (8, none), (16, none), (17, none), (18, none), (31, none), (32, none), (33, none)])], xs := [((58, 9), [(2, none), (3, none), (4, none), (5, none), (16, none), (17, none), (18, none)])], lps := [] }
theorem CUk9_ok : CfgOK CUk9 := { con := libTw_ok }
def stUk9 {α : Type} (k : KUk9) (go : KUk9 → α) (ex ret : EUk9 → α) (no : α) : α :=
  if decide (k.x33 < k.x32) = true then
   if 0 ≤ k.x33 then
    if k.x33 < (↑k.x31.length : Int) then
     if cIb k.x8.params (gt { name := { data := #[] : ByteArray }, value := 0 : GParam } k.x31 k.x33.toNat) = true then
      if (!decide (vIb k.x8.params (gt { name := { data := #[] : ByteArray }, value := 0 : GParam } k.x31 k.x33.toNat) ≥ 0)) = true then
       ret ⟨(k.x2), (k.x3), (true), (k.x16), (k.x17), (k.x18)⟩
      else
       go ⟨(k.x2), (k.x3), (k.x4), (k.x8), (k.x16), (k.x17), (k.x18), (k.x31), (k.x32), (IntKind.i64.wrap (k.x33 + 1))⟩
     else
      no
    else
     no
   else
    no
  else
   ex ⟨(k.x2), (k.x3), (k.x4), (k.x16), (k.x17), (k.x18)⟩
def stepUk9 (k : KUk9) : Nx KUk9 EUk9 := stUk9 k .go .ex .ret .no
theorem BUk9 (k : KUk9) (m : Nat) (R : St At → Option (Res At)) (K : Xit → St At → Option (Res At)) : B CUk9 58 9 (m + 60) (SUk9 k) R K = stUk9 k (fun k => R (SUk9 k)) (fun x => K (.ex 2) (XUk9 x)) (fun x => K .ret (XUk9 x)) none := by kernel_rfl
def uUk9 (st : St At) : Option KUk9 := match st with
  | ⟨[(2, .ptr 0 0), (3, .ptr 1 0), (4, .bool x4), (5, .ptr 2 0), (8, .ptr 3 0), (16, vx16), (17, .int .i64 x17), (18, .int .i64 x18), (31, vx31), (32, .int .i64 x32), (33, .int .i64 x33)], [], [(0, .var [vx2] false), (1, .var wx3 false), (2, .var [.fn 113 [.ptr 0 0]] false), (3, .var wx8 false)], 4⟩ => (match roV 66 vx2, ex31 wx3, ex150 wx8, roV 58 vx16, roV 93 vx31 with | some x2, some x3, some x8, some x16, some x31 => some ⟨x2, x3, x4, x8, x16, x17, x18, x31, x32, x33⟩ | _, _, _, _, _ => none)
  | _ => none
theorem uUk9_spec {st : St At} {k : KUk9} (h : uUk9 st = some k) : st = SUk9 k := by
  unfold uUk9 at h
  split at h
  · split at h
    · rename_i h0 h1 h2 h3 h4
      obtain rfl := Option.some.inj h
      rw [roV_spec h0, ex31_spec h1, ex150_spec h2, roV_spec h3, roV_spec h4]
      rfl
    · cases h
  · cases h
theorem oklUk9 {g : LP} (hg : ∀ st K q, g st K = some q → ∃ k n e, st = SUk9 k ∧ iter stepUk9 n k = some e ∧ e.k 2 XUk9 XUk9 K = some q) : OKL 58 9 g := okl_iter CUk9_ok (S := SUk9) (X := XUk9) (Y := XUk9) (step := stepUk9) (id := 2) (by kernel_rfl) (by kernel_rfl)
  (fun k m R K => by rw [BUk9]; unfold stepUk9 stUk9; simp only [Nx.k_ite]; rfl) (fun k => by kernel_rfl) hg
theorem okfUk9 {g : LP} {fuel : KUk9 → Nat} {ok : KUk9 → Bool} {F : KUk9 → Fx EUk9} (hF : ∀ k, ok k = true → iter stepUk9 (fuel k) k = some (F k)) (hg : ∀ st K, g st K = (match uUk9 st with | some k => if ok k = true then (F k).k 2 XUk9 XUk9 K else none | none => none)) : OKL 58 9 g := oklUk9 fun st K q h => by
  rw [hg] at h
  split at h
  · rename_i k hu
    split at h
    · rename_i hok; exact ⟨k, _, _, uUk9_spec hu, hF k hok, h⟩
    · cases h
  · cases h
abbrev B_Uk9 := Unit
def fUk9 (k : KUk9) (b : B_Uk9) (x : GParam) : Option (B_Uk9 ⊕ EUk9) :=
  if cIb k.x8.params x = true then
   if (!decide (vIb k.x8.params x ≥ 0)) = true then
    some (.inr ⟨(k.x2), (k.x3), (true), (k.x16), (k.x17), (k.x18)⟩)
   else
    some (.inl ())
  else
   none
def xUk9 (k : KUk9) (b : B_Uk9) : EUk9 := ⟨(k.x2), (k.x3), (k.x4), (k.x16), (k.x17), (k.x18)⟩
def putUk9 (k : KUk9) (b : B_Uk9) (j : Nat) : KUk9 := ⟨k.x2, k.x3, k.x4, k.x8, k.x16, k.x17, k.x18, k.x31, k.x32, (j : Int)⟩
def bUk9 (k : KUk9) : B_Uk9 := ()
def oUk9 (k : KUk9) : Option (B_Uk9 ⊕ EUk9) := scanO (fUk9 k) (bUk9 k) k.x31
def okUk9 (k : KUk9) : Bool := decide (k.x33 = 0) && (decide (k.x32 = (k.x31.length : Int)) && (Nat.ble k.x31.length 9223372036854775807 && isOO (oUk9 k)))
def FUk9 (k : KUk9) : Fx EUk9 := fxO (xUk9 k) (bUk9 k) (xUk9 k (bUk9 k)) (oUk9 k)
theorem sUk9 (k : KUk9) (hn : k.x32 = (k.x31.length : Int)) (hm : k.x31.length ≤ 9223372036854775807) (b : B_Uk9) (j : Nat) (h : j < k.x31.length) : stepUk9 (putUk9 k b j) = nxO (fun b' => putUk9 k b' (j + 1)) (fUk9 k b k.x31[j]) := by
  unfold stepUk9 stUk9 fUk9 putUk9
  dsimp only
  simp only [hn, nxO_ite, cnt' h hm, gtj' _ _ _ h, if_pos (lt1' h), if_pos (lt0' (j := j)), if_pos (lt2' h)]
  rfl
theorem eUk9 (k : KUk9) (hn : k.x32 = (k.x31.length : Int)) (b : B_Uk9) : stepUk9 (putUk9 k b k.x31.length) = .ex (xUk9 k b) := by
  unfold stepUk9 stUk9 putUk9
  dsimp only
  rw [hn, if_neg lt3']
  rfl
theorem iUk9 (k : KUk9) (h : okUk9 k = true) : iter stepUk9 (k.x31).length k = some (FUk9 k) := by
  unfold okUk9 at h
  simp only [Bool.and_eq_true, decide_eq_true_eq] at h
  obtain ⟨h0, h1, h2, h3⟩ := h
  replace h2 := Nat.le_of_ble_eq_true h2
  have e : k = putUk9 k (bUk9 k) 0 := by cases k; dsimp only at h0; subst h0; rfl
  have := iter_scanO (step := stepUk9) k.x31 (putUk9 k) (fUk9 k) (xUk9 k) (bUk9 k) (xUk9 k (bUk9 k)) (fun b j h => sUk9 k h1 h2 b j h) (fun b => eUk9 k h1 b) k.x31.length 0 (bUk9 k) (by simp) (by rw [List.drop_zero]; exact h3)
  rw [List.drop_zero, ← e] at this
  exact this
def gUk9 : LP := fun st K => match uUk9 st with | some k => if okUk9 k = true then (if isLO (oUk9 k) = true then K (.ex 2) (XUk9 (⟨(k.x2), (k.x3), (k.x4), (k.x16), (k.x17), (k.x18)⟩ : EUk9)) else K .ret (XUk9 (getRO (xUk9 k (bUk9 k)) (oUk9 k)))) else none | none => none
theorem okgUk9 : OKL 58 9 gUk9 := okfUk9 (fuel := fun k => (k.x31).length) (ok := okUk9) (F := FUk9) iUk9 fun st K => by
  unfold gUk9
  cases hu : uUk9 st with
  | none => rfl
  | some k =>
    dsimp only
    split
    · unfold FUk9 fxO
      cases isLO (oUk9 k) <;> rfl
    · rfl
structure KUk3 where
  x2 : List GPoint
  x3 : GProgram
  x4 : Bool
  x16 : List GNode
  x17 : Int
  x18 : Int
structure EUk3 where
  x2 : List GPoint
  x3 : GProgram
  x4 : Bool
def SUk3 (k : KUk3) : St At := { env := [(2, .ptr 0 0), (3, .ptr 1 0), (4, .bool k.x4), (5, .ptr 2 0), (16, .ro 58 k.x16), (17, .int .i64 k.x17), (18, .int .i64 k.x18)], stk := [], hp := [(0, .var [.ro 66 k.x2] false), (1, .var (enc31 k.x3) false), (2, .var [.fn 113 [.ptr 0 0]] false)], nx := 3 }
def XUk3 (k : EUk3) : St At := { env := [(2, .ptr 0 0), (3, .ptr 1 0), (4, .bool k.x4), (5, .ptr 2 0)], stk := [], hp := [(0, .var [.ro 66 k.x2] false), (1, .var (enc31 k.x3) false), (2, .var [.fn 113 [.ptr 0 0]] false)], nx := 3 }
def CUk3 : Cfg := { cs := libTw, ks := [((58, 3), [(2, none), (3, none), (4, none), (5, none), (16, none), (17, none), (18, none)])] ++ CUk9.ks, xs := [((58, 3), [(2, none), (3, none), (4, none), (5, none)])] ++ CUk9.xs, lps := [((58, 9), gUk9)] }
theorem CUk3_ok : CfgOK CUk3 := { con := libTw_ok, lp := .cons okgUk9 .nil }
def stUk3 {α : Type} (k : KUk3) (go : KUk3 → α) (ex ret : EUk3 → α) (no : α) : α :=
  if decide (k.x18 < k.x17) = true then
   if 0 ≤ k.x18 then
    if k.x18 < (↑k.x16.length : Int) then
     if ((gt { name := { data := #[] : ByteArray }, block := { data := #[] : ByteArray }, params := [], inputs := [] : GNode } k.x16 k.x18.toNat).block.size + 1).blt 4611686018427387904 = true then
      if (!decide (erD (findD (gt { name := { data := #[] : ByteArray }, block := { data := #[] : ByteArray }, params := [], inputs := [] : GNode } k.x16 k.x18.toNat).block libL) = 0)) = true then
       ret ⟨(k.x2), (k.x3), (true)⟩
      else
       if okUk9 { x2 := k.x2, x3 := k.x3, x4 := k.x4, x8 := orD (findD (gt { name := { data := #[] : ByteArray }, block := { data := #[] : ByteArray }, params := [], inputs := [] : GNode } k.x16 k.x18.toNat).block libL), x16 := k.x16, x17 := k.x17, x18 := k.x18, x31 := (gt { name := { data := #[] : ByteArray }, block := { data := #[] : ByteArray }, params := [], inputs := [] : GNode } k.x16 k.x18.toNat).params, x32 := (↑(gt { name := { data := #[] : ByteArray }, block := { data := #[] : ByteArray }, params := [], inputs := [] : GNode } k.x16 k.x18.toNat).params.length : Int), x33 := 0 : KUk9 } = true then
        if isLO (oUk9 { x2 := k.x2, x3 := k.x3, x4 := k.x4, x8 := orD (findD (gt { name := { data := #[] : ByteArray }, block := { data := #[] : ByteArray }, params := [], inputs := [] : GNode } k.x16 k.x18.toNat).block libL), x16 := k.x16, x17 := k.x17, x18 := k.x18, x31 := (gt { name := { data := #[] : ByteArray }, block := { data := #[] : ByteArray }, params := [], inputs := [] : GNode } k.x16 k.x18.toNat).params, x32 := (↑(gt { name := { data := #[] : ByteArray }, block := { data := #[] : ByteArray }, params := [], inputs := [] : GNode } k.x16 k.x18.toNat).params.length : Int), x33 := 0 : KUk9 }) = true then
         go ⟨(k.x2), (k.x3), (k.x4), (k.x16), (k.x17), (IntKind.i64.wrap (k.x18 + 1))⟩
        else
         ret ⟨((getRO (xUk9 { x2 := k.x2, x3 := k.x3, x4 := k.x4, x8 := orD (findD (gt { name := { data := #[] : ByteArray }, block := { data := #[] : ByteArray }, params := [], inputs := [] : GNode } k.x16 k.x18.toNat).block libL), x16 := k.x16, x17 := k.x17, x18 := k.x18, x31 := (gt { name := { data := #[] : ByteArray }, block := { data := #[] : ByteArray }, params := [], inputs := [] : GNode } k.x16 k.x18.toNat).params, x32 := (↑(gt { name := { data := #[] : ByteArray }, block := { data := #[] : ByteArray }, params := [], inputs := [] : GNode } k.x16 k.x18.toNat).params.length : Int), x33 := 0 : KUk9 } (bUk9 { x2 := k.x2, x3 := k.x3, x4 := k.x4, x8 := orD (findD (gt { name := { data := #[] : ByteArray }, block := { data := #[] : ByteArray }, params := [], inputs := [] : GNode } k.x16 k.x18.toNat).block libL), x16 := k.x16, x17 := k.x17, x18 := k.x18, x31 := (gt { name := { data := #[] : ByteArray }, block := { data := #[] : ByteArray }, params := [], inputs := [] : GNode } k.x16 k.x18.toNat).params, x32 := (↑(gt { name := { data := #[] : ByteArray }, block := { data := #[] : ByteArray }, params := [], inputs := [] : GNode } k.x16 k.x18.toNat).params.length : Int), x33 := 0 : KUk9 })) (oUk9 { x2 := k.x2, x3 := k.x3, x4 := k.x4, x8 := orD (findD (gt { name := { data := #[] : ByteArray }, block := { data := #[] : ByteArray }, params := [], inputs := [] : GNode } k.x16 k.x18.toNat).block libL), x16 := k.x16, x17 := k.x17, x18 := k.x18, x31 := (gt { name := { data := #[] : ByteArray }, block := { data := #[] : ByteArray }, params := [], inputs := [] : GNode } k.x16 k.x18.toNat).params, x32 := (↑(gt { name := { data := #[] : ByteArray }, block := { data := #[] : ByteArray }, params := [], inputs := [] : GNode } k.x16 k.x18.toNat).params.length : Int), x33 := 0 : KUk9 })).x2), ((getRO (xUk9 { x2 := k.x2, x3 := k.x3, x4 := k.x4, x8 := orD (findD (gt { name := { data := #[] : ByteArray }, block := { data := #[] : ByteArray }, params := [], inputs := [] : GNode } k.x16 k.x18.toNat).block libL), x16 := k.x16, x17 := k.x17, x18 := k.x18, x31 := (gt { name := { data := #[] : ByteArray }, block := { data := #[] : ByteArray }, params := [], inputs := [] : GNode } k.x16 k.x18.toNat).params, x32 := (↑(gt { name := { data := #[] : ByteArray }, block := { data := #[] : ByteArray }, params := [], inputs := [] : GNode } k.x16 k.x18.toNat).params.length : Int), x33 := 0 : KUk9 } (bUk9 { x2 := k.x2, x3 := k.x3, x4 := k.x4, x8 := orD (findD (gt { name := { data := #[] : ByteArray }, block := { data := #[] : ByteArray }, params := [], inputs := [] : GNode } k.x16 k.x18.toNat).block libL), x16 := k.x16, x17 := k.x17, x18 := k.x18, x31 := (gt { name := { data := #[] : ByteArray }, block := { data := #[] : ByteArray }, params := [], inputs := [] : GNode } k.x16 k.x18.toNat).params, x32 := (↑(gt { name := { data := #[] : ByteArray }, block := { data := #[] : ByteArray }, params := [], inputs := [] : GNode } k.x16 k.x18.toNat).params.length : Int), x33 := 0 : KUk9 })) (oUk9 { x2 := k.x2, x3 := k.x3, x4 := k.x4, x8 := orD (findD (gt { name := { data := #[] : ByteArray }, block := { data := #[] : ByteArray }, params := [], inputs := [] : GNode } k.x16 k.x18.toNat).block libL), x16 := k.x16, x17 := k.x17, x18 := k.x18, x31 := (gt { name := { data := #[] : ByteArray }, block := { data := #[] : ByteArray }, params := [], inputs := [] : GNode } k.x16 k.x18.toNat).params, x32 := (↑(gt { name := { data := #[] : ByteArray }, block := { data := #[] : ByteArray }, params := [], inputs := [] : GNode } k.x16 k.x18.toNat).params.length : Int), x33 := 0 : KUk9 })).x3), ((getRO (xUk9 { x2 := k.x2, x3 := k.x3, x4 := k.x4, x8 := orD (findD (gt { name := { data := #[] : ByteArray }, block := { data := #[] : ByteArray }, params := [], inputs := [] : GNode } k.x16 k.x18.toNat).block libL), x16 := k.x16, x17 := k.x17, x18 := k.x18, x31 := (gt { name := { data := #[] : ByteArray }, block := { data := #[] : ByteArray }, params := [], inputs := [] : GNode } k.x16 k.x18.toNat).params, x32 := (↑(gt { name := { data := #[] : ByteArray }, block := { data := #[] : ByteArray }, params := [], inputs := [] : GNode } k.x16 k.x18.toNat).params.length : Int), x33 := 0 : KUk9 } (bUk9 { x2 := k.x2, x3 := k.x3, x4 := k.x4, x8 := orD (findD (gt { name := { data := #[] : ByteArray }, block := { data := #[] : ByteArray }, params := [], inputs := [] : GNode } k.x16 k.x18.toNat).block libL), x16 := k.x16, x17 := k.x17, x18 := k.x18, x31 := (gt { name := { data := #[] : ByteArray }, block := { data := #[] : ByteArray }, params := [], inputs := [] : GNode } k.x16 k.x18.toNat).params, x32 := (↑(gt { name := { data := #[] : ByteArray }, block := { data := #[] : ByteArray }, params := [], inputs := [] : GNode } k.x16 k.x18.toNat).params.length : Int), x33 := 0 : KUk9 })) (oUk9 { x2 := k.x2, x3 := k.x3, x4 := k.x4, x8 := orD (findD (gt { name := { data := #[] : ByteArray }, block := { data := #[] : ByteArray }, params := [], inputs := [] : GNode } k.x16 k.x18.toNat).block libL), x16 := k.x16, x17 := k.x17, x18 := k.x18, x31 := (gt { name := { data := #[] : ByteArray }, block := { data := #[] : ByteArray }, params := [], inputs := [] : GNode } k.x16 k.x18.toNat).params, x32 := (↑(gt { name := { data := #[] : ByteArray }, block := { data := #[] : ByteArray }, params := [], inputs := [] : GNode } k.x16 k.x18.toNat).params.length : Int), x33 := 0 : KUk9 })).x4)⟩
       else
        no
     else
      no
    else
     no
   else
    no
  else
   ex ⟨(k.x2), (k.x3), (k.x4)⟩
def stepUk3 (k : KUk3) : Nx KUk3 EUk3 := stUk3 k .go .ex .ret .no
theorem BUk3 (k : KUk3) (m : Nat) (R : St At → Option (Res At)) (K : Xit → St At → Option (Res At)) : B CUk3 58 3 (m + 60) (SUk3 k) R K = stUk3 k (fun k => R (SUk3 k)) (fun x => K (.ex 0) (XUk3 x)) (fun x => K .ret (XUk3 x)) none := by kernel_rfl
def uUk3 (st : St At) : Option KUk3 := match st with
  | ⟨[(2, .ptr 0 0), (3, .ptr 1 0), (4, .bool x4), (5, .ptr 2 0), (16, vx16), (17, .int .i64 x17), (18, .int .i64 x18)], [], [(0, .var [vx2] false), (1, .var wx3 false), (2, .var [.fn 113 [.ptr 0 0]] false)], 3⟩ => (match roV 66 vx2, ex31 wx3, roV 58 vx16 with | some x2, some x3, some x16 => some ⟨x2, x3, x4, x16, x17, x18⟩ | _, _, _ => none)
  | _ => none
theorem uUk3_spec {st : St At} {k : KUk3} (h : uUk3 st = some k) : st = SUk3 k := by
  unfold uUk3 at h
  split at h
  · split at h
    · rename_i h0 h1 h2
      obtain rfl := Option.some.inj h
      rw [roV_spec h0, ex31_spec h1, roV_spec h2]
      rfl
    · cases h
  · cases h
theorem oklUk3 {g : LP} (hg : ∀ st K q, g st K = some q → ∃ k n e, st = SUk3 k ∧ iter stepUk3 n k = some e ∧ e.k 0 XUk3 XUk3 K = some q) : OKL 58 3 g := okl_iter CUk3_ok (S := SUk3) (X := XUk3) (Y := XUk3) (step := stepUk3) (id := 0) (by kernel_rfl) (by kernel_rfl)
  (fun k m R K => by rw [BUk3]; unfold stepUk3 stUk3; simp only [Nx.k_ite]; rfl) (fun k => by kernel_rfl) hg
theorem okfUk3 {g : LP} {fuel : KUk3 → Nat} {ok : KUk3 → Bool} {F : KUk3 → Fx EUk3} (hF : ∀ k, ok k = true → iter stepUk3 (fuel k) k = some (F k)) (hg : ∀ st K, g st K = (match uUk3 st with | some k => if ok k = true then (F k).k 0 XUk3 XUk3 K else none | none => none)) : OKL 58 3 g := oklUk3 fun st K q h => by
  rw [hg] at h
  split at h
  · rename_i k hu
    split at h
    · rename_i hok; exact ⟨k, _, _, uUk3_spec hu, hF k hok, h⟩
    · cases h
  · cases h
abbrev B_Uk3 := Unit
def fUk3 (k : KUk3) (b : B_Uk3) (p : GNode × Nat) : Option (B_Uk3 ⊕ EUk3) :=
  if (p.1.block.size + 1).blt 4611686018427387904 = true then
   if (!decide (erD (findD p.1.block libL) = 0)) = true then
    some (.inr ⟨(k.x2), (k.x3), (true)⟩)
   else
    if okUk9 { x2 := k.x2, x3 := k.x3, x4 := k.x4, x8 := orD (findD p.1.block libL), x16 := k.x16, x17 := k.x17, x18 := (p.2 : Int), x31 := p.1.params, x32 := (↑p.1.params.length : Int), x33 := 0 : KUk9 } = true then
     if isLO (oUk9 { x2 := k.x2, x3 := k.x3, x4 := k.x4, x8 := orD (findD p.1.block libL), x16 := k.x16, x17 := k.x17, x18 := (p.2 : Int), x31 := p.1.params, x32 := (↑p.1.params.length : Int), x33 := 0 : KUk9 }) = true then
      some (.inl ())
     else
      some (.inr ⟨((getRO (xUk9 { x2 := k.x2, x3 := k.x3, x4 := k.x4, x8 := orD (findD p.1.block libL), x16 := k.x16, x17 := k.x17, x18 := (p.2 : Int), x31 := p.1.params, x32 := (↑p.1.params.length : Int), x33 := 0 : KUk9 } (bUk9 { x2 := k.x2, x3 := k.x3, x4 := k.x4, x8 := orD (findD p.1.block libL), x16 := k.x16, x17 := k.x17, x18 := (p.2 : Int), x31 := p.1.params, x32 := (↑p.1.params.length : Int), x33 := 0 : KUk9 })) (oUk9 { x2 := k.x2, x3 := k.x3, x4 := k.x4, x8 := orD (findD p.1.block libL), x16 := k.x16, x17 := k.x17, x18 := (p.2 : Int), x31 := p.1.params, x32 := (↑p.1.params.length : Int), x33 := 0 : KUk9 })).x2), ((getRO (xUk9 { x2 := k.x2, x3 := k.x3, x4 := k.x4, x8 := orD (findD p.1.block libL), x16 := k.x16, x17 := k.x17, x18 := (p.2 : Int), x31 := p.1.params, x32 := (↑p.1.params.length : Int), x33 := 0 : KUk9 } (bUk9 { x2 := k.x2, x3 := k.x3, x4 := k.x4, x8 := orD (findD p.1.block libL), x16 := k.x16, x17 := k.x17, x18 := (p.2 : Int), x31 := p.1.params, x32 := (↑p.1.params.length : Int), x33 := 0 : KUk9 })) (oUk9 { x2 := k.x2, x3 := k.x3, x4 := k.x4, x8 := orD (findD p.1.block libL), x16 := k.x16, x17 := k.x17, x18 := (p.2 : Int), x31 := p.1.params, x32 := (↑p.1.params.length : Int), x33 := 0 : KUk9 })).x3), ((getRO (xUk9 { x2 := k.x2, x3 := k.x3, x4 := k.x4, x8 := orD (findD p.1.block libL), x16 := k.x16, x17 := k.x17, x18 := (p.2 : Int), x31 := p.1.params, x32 := (↑p.1.params.length : Int), x33 := 0 : KUk9 } (bUk9 { x2 := k.x2, x3 := k.x3, x4 := k.x4, x8 := orD (findD p.1.block libL), x16 := k.x16, x17 := k.x17, x18 := (p.2 : Int), x31 := p.1.params, x32 := (↑p.1.params.length : Int), x33 := 0 : KUk9 })) (oUk9 { x2 := k.x2, x3 := k.x3, x4 := k.x4, x8 := orD (findD p.1.block libL), x16 := k.x16, x17 := k.x17, x18 := (p.2 : Int), x31 := p.1.params, x32 := (↑p.1.params.length : Int), x33 := 0 : KUk9 })).x4)⟩)
    else
     none
  else
   none
def xUk3 (k : KUk3) (b : B_Uk3) : EUk3 := ⟨(k.x2), (k.x3), (k.x4)⟩
def putUk3 (k : KUk3) (b : B_Uk3) (j : Nat) : KUk3 := ⟨k.x2, k.x3, k.x4, k.x16, k.x17, (j : Int)⟩
def bUk3 (k : KUk3) : B_Uk3 := ()
def oUk3 (k : KUk3) : Option (B_Uk3 ⊕ EUk3) := scanO (fUk3 k) (bUk3 k) (k.x16.zipIdx)
def okUk3 (k : KUk3) : Bool := decide (k.x18 = 0) && (decide (k.x17 = (k.x16.length : Int)) && (Nat.ble k.x16.length 9223372036854775807 && isOO (oUk3 k)))
def FUk3 (k : KUk3) : Fx EUk3 := fxO (xUk3 k) (bUk3 k) (xUk3 k (bUk3 k)) (oUk3 k)
theorem sUk3 (k : KUk3) (hn : k.x17 = (k.x16.length : Int)) (hm : k.x16.length ≤ 9223372036854775807) (b : B_Uk3) (j : Nat) (h : j < k.x16.length) : stepUk3 (putUk3 k b j) = nxO (fun b' => putUk3 k b' (j + 1)) (fUk3 k b (k.x16[j], j)) := by
  unfold stepUk3 stUk3 fUk3 putUk3
  dsimp only
  simp only [hn, nxO_ite, cnt' h hm, gtj' _ _ _ h, if_pos (lt1' h), if_pos (lt0' (j := j)), if_pos (lt2' h)]
  rfl
theorem eUk3 (k : KUk3) (hn : k.x17 = (k.x16.length : Int)) (b : B_Uk3) : stepUk3 (putUk3 k b k.x16.length) = .ex (xUk3 k b) := by
  unfold stepUk3 stUk3 putUk3
  dsimp only
  rw [hn, if_neg lt3']
  rfl
theorem iUk3 (k : KUk3) (h : okUk3 k = true) : iter stepUk3 (k.x16.zipIdx).length k = some (FUk3 k) := by
  unfold okUk3 at h
  simp only [Bool.and_eq_true, decide_eq_true_eq] at h
  obtain ⟨h0, h1, h2, h3⟩ := h
  replace h2 := Nat.le_of_ble_eq_true h2
  have e : k = putUk3 k (bUk3 k) 0 := by cases k; dsimp only at h0; subst h0; rfl
  have := iter_scanO (step := stepUk3) (k.x16.zipIdx) (putUk3 k) (fUk3 k) (xUk3 k) (bUk3 k) (xUk3 k (bUk3 k)) (fun b j h => (by rw [show (k.x16.zipIdx)[j] = (k.x16[j]'(by simpa using h), j) by simp]; exact sUk3 k h1 h2 b j (by simpa using h))) (fun b => (by rw [show (k.x16.zipIdx).length = k.x16.length by simp]; exact eUk3 k h1 b)) (k.x16.zipIdx).length 0 (bUk3 k) (by simp) (by rw [List.drop_zero]; exact h3)
  rw [List.drop_zero, ← e] at this
  exact this
def gUk3 : LP := fun st K => match uUk3 st with | some k => if okUk3 k = true then (if isLO (oUk3 k) = true then K (.ex 0) (XUk3 (⟨(k.x2), (k.x3), (k.x4)⟩ : EUk3)) else K .ret (XUk3 (getRO (xUk3 k (bUk3 k)) (oUk3 k)))) else none | none => none
theorem okgUk3 : OKL 58 3 gUk3 := okfUk3 (fuel := fun k => (k.x16.zipIdx).length) (ok := okUk3) (F := FUk3) iUk3 fun st K => by
  unfold gUk3
  cases hu : uUk3 st with
  | none => rfl
  | some k =>
    dsimp only
    split
    · unfold FUk3 fxO
      cases isLO (oUk3 k) <;> rfl
    · rfl
def CUk : Cfg := { cs := libTw, ks := CUk16.ks ++ CUk3.ks, xs := CUk16.xs ++ CUk3.xs, lps := [((58, 16), gUk16), ((58, 3), gUk3)] }
theorem CUk_ok : CfgOK CUk := { con := libTw_ok, lp := .cons okgUk16 (.cons okgUk3 .nil) }
def RUk (a0 : List GPoint) (a1 : GProgram) : Option (Res At) :=
  if okUk3 { x2 := a0, x3 := a1, x4 := false, x16 := a1.nodes, x17 := (↑a1.nodes.length : Int), x18 := 0 : KUk3 } = true then
   if isLO (oUk3 { x2 := a0, x3 := a1, x4 := false, x16 := a1.nodes, x17 := (↑a1.nodes.length : Int), x18 := 0 : KUk3 }) = true then
    if cLk a1 = true then
     if okUk16 { x2 := a0, x3 := a1, x4 := false, x45 := vLk a1, x46 := (↑(vLk a1).length : Int), x47 := 0 : KUk16 } = true then
      if isLO (oUk16 { x2 := a0, x3 := a1, x4 := false, x45 := vLk a1, x46 := (↑(vLk a1).length : Int), x47 := 0 : KUk16 }) = true then
       if cId2 a1.drives a0 = true then
        some ((.bool (decide (vId2 a1.drives a0 ≥ 0))), [])
       else
        none
      else
       some ((.bool ((getRO (xUk16 { x2 := a0, x3 := a1, x4 := false, x45 := vLk a1, x46 := (↑(vLk a1).length : Int), x47 := 0 : KUk16 } (bUk16 { x2 := a0, x3 := a1, x4 := false, x45 := vLk a1, x46 := (↑(vLk a1).length : Int), x47 := 0 : KUk16 })) (oUk16 { x2 := a0, x3 := a1, x4 := false, x45 := vLk a1, x46 := (↑(vLk a1).length : Int), x47 := 0 : KUk16 })).x4)), [])
     else
      none
    else
     none
   else
    some ((.bool ((getRO (xUk3 { x2 := a0, x3 := a1, x4 := false, x16 := a1.nodes, x17 := (↑a1.nodes.length : Int), x18 := 0 : KUk3 } (bUk3 { x2 := a0, x3 := a1, x4 := false, x16 := a1.nodes, x17 := (↑a1.nodes.length : Int), x18 := 0 : KUk3 })) (oUk3 { x2 := a0, x3 := a1, x4 := false, x16 := a1.nodes, x17 := (↑a1.nodes.length : Int), x18 := 0 : KUk3 })).x4)), [])
  else
   none
theorem run_RUk (a0 : List GPoint) (a1 : GProgram) : runF CUk 80 58 [.ro 66 a0, .agg (enc31 a1)] = RUk a0 a1 := by kernel_rfl
def oUk (a0 : List GPoint) (a1 : GProgram) : Option (Res At) := crR [none] (RUk a0 a1)
def vUk (a0 : List GPoint) (a1 : GProgram) : Bool := valO rB false (oUk a0 a1)
def cUk (a0 : List GPoint) (a1 : GProgram) : Bool := okO rB (oUk a0 a1)
def conUk : CON := on2 (rR 66) (rA ex31 enc31 fun _ _ h => ex31_spec h) fun a0 a1 => some (cUk a0 a1, (.bool (vUk a0 a1), []))
theorem okUk : OK 58 conUk := okc2 CUk_ok (n := 80) (ts := [none]) (a := (rR 66)) (b := (rA ex31 enc31 fun _ _ h => ex31_spec h)) (r := rB) (d := false) (R := fun a0 a1 => RUk a0 a1) (by kernel_rfl) fun a0 a1 => run_RUk a0 a1
def libUk : List (Nat × CON) := (58, conUk) :: libTw
theorem libUk_ok : AllOK libUk := .cons okUk libTw_ok
end
end Go.Proofs.YtpbpebjfglfjfaaGreatDoor.X
