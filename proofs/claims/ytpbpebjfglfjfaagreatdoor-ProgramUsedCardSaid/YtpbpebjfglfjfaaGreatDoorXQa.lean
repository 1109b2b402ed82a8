/-
  Names: of the program and of the reference.
-/
import Derived.Test.YtpbpebjfglfjfaaGreatDoorXP3
set_option autoImplicit false
set_option linter.unusedVariables false
set_option linter.unusedSimpArgs false
set_option maxRecDepth 100000
namespace Go.Proofs.YtpbpebjfglfjfaaGreatDoor.X
open Go Go.Proofs Go.RowKit Go.Proofs.YtpbpebjfglfjfaaGreatDoor
noncomputable section
def CDg : Cfg := { cs := libP7 }
theorem CDg_ok : CfgOK CDg := { con := libP7_ok }
def RDg (a0 : Int) : Option (Res At) :=
  if decide (a0 ≥ 48) = true then
   some ((.bool (decide (a0 ≤ 57))), [])
  else
   some ((.bool false), [])
theorem run_RDg (a0 : Int) : runF CDg 80 108 [.int .u8 a0] = RDg a0 := by kernel_rfl
def oDg (a0 : Int) : Option (Res At) := crR [none] (RDg a0)
def vDg (a0 : Int) : Bool := valO rB false (oDg a0)
def cDg (a0 : Int) : Bool := okO rB (oDg a0)
def conDg : CON := on1 (rI .u8) fun a0 => some (cDg a0, (.bool (vDg a0), []))
theorem okDg : OK 108 conDg := okc1 CDg_ok (n := 80) (ts := [none]) (a := (rI .u8)) (r := rB) (d := false) (R := fun a0 => RDg a0) (by kernel_rfl) fun a0 => run_RDg a0
def libDg : List (Nat × CON) := (108, conDg) :: libP7
theorem libDg_ok : AllOK libDg := .cons okDg libP7_ok
def libLo : List (Nat × CON) := libDg
theorem libLo_ok : AllOK libLo := libDg_ok
def libDi : List (Nat × CON) := libLo
theorem libDi_ok : AllOK libDi := libLo_ok
structure KLr1 where
  x0 : ByteArray
  x1 : Int
  x2 : ByteArray
structure ELr1 where
  x1 : Int
def SLr1 (k : KLr1) : St At := { env := [(0, .str k.x0), (1, .int .i64 k.x1), (2, .fn 107 [.rel [.str k.x2]])], stk := [], hp := [], nx := 0 }
def XLr1 (k : ELr1) : St At := { env := [(1, .int .i64 k.x1)], stk := [], hp := [], nx := 0 }
def CLr1 : Cfg := { cs := libDi, ks := [((106, 1), [(0, none), (1, none), (2, none)])], xs := [((106, 1), [(1, none)])], lps := [] }
theorem CLr1_ok : CfgOK CLr1 := { con := libDi_ok }
def stLr1 {α : Type} (k : KLr1) (go : KLr1 → α) (ex ret : ELr1 → α) (no : α) : α :=
  if decide (k.x1 < (↑k.x0.size : Int)) = true then
   if 0 ≤ k.x1 then
    if k.x1 < (↑k.x2.size : Int) then
     if decide (byteAt k.x2 k.x1 ≥ 97) = true then
      if 0 ≤ k.x1 then
       if k.x1 < (↑k.x2.size : Int) then
        if decide (byteAt k.x2 k.x1 ≤ 122) = false then
         if 0 ≤ k.x1 then
          if k.x1 < (↑k.x2.size : Int) then
           if cDg (byteAt k.x2 k.x1) = true then
            if vDg (byteAt k.x2 k.x1) = false then
             if 0 ≤ k.x1 then
              if k.x1 < (↑k.x2.size : Int) then
               if decide (byteAt k.x2 k.x1 = 95) = true then
                go ⟨(k.x0), (IntKind.i64.wrap (k.x1 + 1)), (k.x2)⟩
               else
                ex ⟨(k.x1)⟩
              else
               no
             else
              no
            else
             go ⟨(k.x0), (IntKind.i64.wrap (k.x1 + 1)), (k.x2)⟩
           else
            no
          else
           no
         else
          no
        else
         go ⟨(k.x0), (IntKind.i64.wrap (k.x1 + 1)), (k.x2)⟩
       else
        no
      else
       no
     else
      if 0 ≤ k.x1 then
       if k.x1 < (↑k.x2.size : Int) then
        if cDg (byteAt k.x2 k.x1) = true then
         if vDg (byteAt k.x2 k.x1) = false then
          if 0 ≤ k.x1 then
           if k.x1 < (↑k.x2.size : Int) then
            if decide (byteAt k.x2 k.x1 = 95) = true then
             go ⟨(k.x0), (IntKind.i64.wrap (k.x1 + 1)), (k.x2)⟩
            else
             ex ⟨(k.x1)⟩
           else
            no
          else
           no
         else
          go ⟨(k.x0), (IntKind.i64.wrap (k.x1 + 1)), (k.x2)⟩
        else
         no
       else
        no
      else
       no
    else
     no
   else
    no
  else
   ex ⟨(k.x1)⟩
def stepLr1 (k : KLr1) : Nx KLr1 ELr1 := stLr1 k .go .ex .ret .no
theorem BLr1 (k : KLr1) (m : Nat) (R : St At → Option (Res At)) (K : Xit → St At → Option (Res At)) : B CLr1 106 1 (m + 60) (SLr1 k) R K = stLr1 k (fun k => R (SLr1 k)) (fun x => K (.ex 0) (XLr1 x)) (fun x => K .ret (XLr1 x)) none := by kernel_rfl
def uLr1 (st : St At) : Option KLr1 := match st with
  | ⟨[(0, .str x0), (1, .int .i64 x1), (2, .fn 107 [.rel [.str x2]])], [], [], 0⟩ => some ⟨x0, x1, x2⟩
  | _ => none
theorem uLr1_spec {st : St At} {k : KLr1} (h : uLr1 st = some k) : st = SLr1 k := by
  unfold uLr1 at h
  split at h
  · obtain rfl := Option.some.inj h; rfl
  · cases h
theorem oklLr1 {g : LP} (hg : ∀ st K q, g st K = some q → ∃ k n e, st = SLr1 k ∧ iter stepLr1 n k = some e ∧ e.k 0 XLr1 XLr1 K = some q) : OKL 106 1 g := okl_iter CLr1_ok (S := SLr1) (X := XLr1) (Y := XLr1) (step := stepLr1) (id := 0) (by kernel_rfl) (by kernel_rfl)
  (fun k m R K => by rw [BLr1]; unfold stepLr1 stLr1; simp only [Nx.k_ite]; rfl) (fun k => by kernel_rfl) hg
theorem okfLr1 {g : LP} {fuel : KLr1 → Nat} {ok : KLr1 → Bool} {F : KLr1 → Fx ELr1} (hF : ∀ k, ok k = true → iter stepLr1 (fuel k) k = some (F k)) (hg : ∀ st K, g st K = (match uLr1 st with | some k => if ok k = true then (F k).k 0 XLr1 XLr1 K else none | none => none)) : OKL 106 1 g := oklLr1 fun st K q h => by
  rw [hg] at h
  split at h
  · rename_i k hu
    split at h
    · rename_i hok; exact ⟨k, _, _, uLr1_spec hu, hF k hok, h⟩
    · cases h
  · cases h
def lowB (n : Int) : Bool := decide (n ≥ 97) && decide (n ≤ 122)
def digB (n : Int) : Bool := decide (n ≥ 48) && decide (n ≤ 57)
def nmB (n : Int) : Bool := lowB n || (digB n || decide (n = 95))
theorem dg_c (n : Int) : cDg n = true := by unfold cDg oDg RDg; rw [c_ite]; split <;> rfl
theorem dg_v (n : Int) : vDg n = digB n := by
  unfold vDg oDg RDg digB; rw [v_ite]
  split
  · rename_i h; rw [h]; rfl
  · rename_i h; rw [Bool.eq_false_iff.2 h]; rfl
def nmU (b : UInt8) : Bool := nmB (b.toNat : Int)
def twN (l : List UInt8) : Nat := (l.takeWhile nmU).length
theorem sLr (s : ByteArray) (j : Nat) (h : j < s.size) (hm : s.size ≤ 9223372036854775807) : stepLr1 ⟨s, (j : Int), s⟩ = if nmB (byteAt s j) = true then .go ⟨s, ((j + 1 : Nat) : Int), s⟩ else .ex ⟨(j : Int)⟩ := by
  have e0 : decide ((j : Int) < (s.size : Int)) = true := lt1' h
  have e1 : (0 : Int) ≤ (j : Int) := by omega
  have e2 : (j : Int) < (s.size : Int) := by omega
  unfold stepLr1 stLr1 nmB lowB
  dsimp only
  simp only [if_pos e0, if_pos e1, if_pos e2, dg_c, dg_v, if_true, cnt' h hm]
  cases decide (byteAt s j ≥ 97) <;> cases decide (byteAt s j ≤ 122) <;> cases digB (byteAt s j) <;> cases decide (byteAt s j = 95) <;> rfl
theorem byteAt_nat (s : ByteArray) (j : Nat) (h : j < s.data.toList.length) : byteAt s (j : Int) = ((s.data.toList[j]).toNat : Int) := by
  unfold byteAt
  rw [Int.toNat_natCast, List.getD_eq_getElem?_getD, List.getElem?_eq_getElem h]
  rfl
theorem toL_len (s : ByteArray) : s.data.toList.length = s.size := Array.length_toList
theorem iLr (s : ByteArray) (hm : s.size ≤ 9223372036854775807) : ∀ (m j : Nat), j + m = s.size → iter stepLr1 m ⟨s, (j : Int), s⟩ = some (.ex ⟨((j + twN (s.data.toList.drop j) : Nat) : Int)⟩)
  | 0, j, hj => by
    have hj : j = s.size := by omega
    subst hj
    rw [List.drop_eq_nil_of_le (by rw [toL_len]; exact Nat.le_refl _)]
    refine iter_ex ?_ 0
    unfold stepLr1 stLr1
    rw [if_neg (by simp)]
    rfl
  | m + 1, j, hj => by
    have h1 : j < s.size := by omega
    have h2 : j < s.data.toList.length := by rw [toL_len]; exact h1
    have hs := sLr s j h1 hm
    rw [byteAt_nat s j h2] at hs
    rw [List.drop_eq_getElem_cons h2]
    by_cases hp : nmB ((s.data.toList[j]).toNat : Int) = true
    · rw [if_pos hp] at hs
      rw [iter_go hs, iLr s hm m (j + 1) (by omega)]
      have : twN (s.data.toList[j] :: s.data.toList.drop (j + 1)) = twN (s.data.toList.drop (j + 1)) + 1 := by
        unfold twN; rw [List.takeWhile_cons_of_pos (by exact hp), List.length_cons]
      rw [this]
      congr 3
      omega
    · rw [if_neg hp] at hs
      rw [iter_ex hs]
      have : twN (s.data.toList[j] :: s.data.toList.drop (j + 1)) = 0 := by
        unfold twN; rw [List.takeWhile_cons_of_neg (by exact hp)]; rfl
      rw [this]; rfl
def okLr1 (k : KLr1) : Bool := eqB k.x0 k.x2 && (decide (k.x1 = 0) && Nat.ble k.x0.size 9223372036854775807)
def gLr1 : LP := fun st K => match uLr1 st with | some k => if okLr1 k = true then K (.ex 0) (XLr1 ⟨(twN k.x0.data.toList : Int)⟩) else none | none => none
theorem eqB_spec {a b : ByteArray} (h : eqB a b = true) : a = b := eqB_t.1 h
theorem okgLr1 : OKL 106 1 gLr1 := okfLr1 (fuel := fun k => k.x0.size) (ok := okLr1) (F := fun k => .ex ⟨(twN k.x0.data.toList : Int)⟩) (fun k h => by
  unfold okLr1 at h
  simp only [Bool.and_eq_true, decide_eq_true_eq] at h
  obtain ⟨h1, h2, h3⟩ := h
  obtain ⟨s, i, s'⟩ := k
  dsimp only at h1 h2 h3
  obtain rfl := eqB_spec h1
  subst h2
  have := iLr s (Nat.le_of_ble_eq_true h3) s.size 0 (by omega)
  rw [List.drop_zero, Nat.zero_add] at this
  exact this) fun st K => by
  unfold gLr1
  cases uLr1 st with
  | none => rfl
  | some k => dsimp only; split <;> rfl
def CLr : Cfg := { cs := libDi, ks := CLr1.ks, xs := CLr1.xs, lps := [((106, 1), gLr1)] }
theorem CLr_ok : CfgOK CLr := { con := libDi_ok, lp := .cons okgLr1 .nil }
def RLr (a0 : ByteArray) (a1 : Int) (a2 : ByteArray) : Option (Res At) :=
  if okLr1 { x0 := a0, x1 := a1, x2 := a2 : KLr1 } = true then
   some ((.int .i64 ((↑(twN a0.data.toList) : Int))), [])
  else
   none
theorem run_RLr (a0 : ByteArray) (a1 : Int) (a2 : ByteArray) : runF CLr 80 106 [.str a0, .int .i64 a1, .fn 107 [.rel [.str a2]]] = RLr a0 a1 a2 := by kernel_rfl
def oLr (a0 : ByteArray) (a1 : Int) (a2 : ByteArray) : Option (Res At) := crR [none] (RLr a0 a1 a2)
def vLr (a0 : ByteArray) (a1 : Int) (a2 : ByteArray) : Int := valO (rI .i64) 0 (oLr a0 a1 a2)
def cLr (a0 : ByteArray) (a1 : Int) (a2 : ByteArray) : Bool := okO (rI .i64) (oLr a0 a1 a2)
def conLr : CON := on3 rS (rI .i64) (rF1 107 (rC rS)) fun a0 a1 a2 => some (cLr a0 a1 a2, (.int .i64 (vLr a0 a1 a2), []))
theorem okLr : OK 106 conLr := okc3 CLr_ok (n := 80) (ts := [none]) (a := rS) (b := (rI .i64)) (c := (rF1 107 (rC rS))) (r := (rI .i64)) (d := 0) (R := fun a0 a1 a2 => RLr a0 a1 a2) (by kernel_rfl) fun a0 a1 a2 => run_RLr a0 a1 a2
def libLr : List (Nat × CON) := (106, conLr) :: libDi
theorem libLr_ok : AllOK libLr := .cons okLr libDi_ok
def CNm : Cfg := { cs := libLr }
theorem CNm_ok : CfgOK CNm := { con := libLr_ok }
def RNm (a0 : ByteArray) : Option (Res At) :=
  if decide ((↑a0.size : Int) < 1) = false then
   if decide ((↑a0.size : Int) > 24) = false then
    if 0 < (↑a0.size : Int) then
     if decide (byteAt a0 0 < 97) = false then
      if 0 < (↑a0.size : Int) then
       if decide (byteAt a0 0 > 122) = true then
        some ((.bool false), [])
       else
        if cLr a0 0 a0 = true then
         some ((.bool (decide (vLr a0 0 a0 = (↑a0.size : Int)))), [])
        else
         none
      else
       none
     else
      some ((.bool false), [])
    else
     none
   else
    some ((.bool false), [])
  else
   some ((.bool false), [])
theorem run_RNm (a0 : ByteArray) : runF CNm 80 48 [.str a0] = RNm a0 := by kernel_rfl
def oNm (a0 : ByteArray) : Option (Res At) := crR [none] (RNm a0)
def vNm (a0 : ByteArray) : Bool := valO rB false (oNm a0)
def cNm (a0 : ByteArray) : Bool := okO rB (oNm a0)
def conNm : CON := on1 rS fun a0 => some (cNm a0, (.bool (vNm a0), []))
theorem okNm : OK 48 conNm := okc1 CNm_ok (n := 80) (ts := [none]) (a := rS) (r := rB) (d := false) (R := fun a0 => RNm a0) (by kernel_rfl) fun a0 => run_RNm a0
def libNm : List (Nat × CON) := (48, conNm) :: libLr
theorem libNm_ok : AllOK libNm := .cons okNm libLr_ok
def libNr : List (Nat × CON) := libNm
theorem libNr_ok : AllOK libNr := libNm_ok
end
end Go.Proofs.YtpbpebjfglfjfaaGreatDoor.X
/-! Links, finding nodes and points by name: of the program and of the reference. -/
namespace Go.Proofs.YtpbpebjfglfjfaaGreatDoor.X
open Go Go.Proofs Go.RowKit Go.Proofs.YtpbpebjfglfjfaaGreatDoor
noncomputable section
structure KLk8 where
  x3 : List GLink
  x21 : List GDrive
  x22 : Int
  x23 : Int
structure ELk8 where
  x3 : List GLink
def SLk8 (k : KLk8) : St At := { env := [(3, .own 0), (21, .ro 89 k.x21), (22, .int .i64 k.x22), (23, .int .i64 k.x23)], stk := [], hp := [(0, .row 55 k.x3 false)], nx := 1 }
def XLk8 (k : ELk8) : St At := { env := [(3, .own 0)], stk := [], hp := [(0, .row 55 k.x3 false)], nx := 1 }
def CLk8 : Cfg := { cs := libNr, ks := [((21, 8), [(3, some 55), (21, none), (22, none), (23, none)])], xs := [((21, 8), [(3, some 55)])], lps := [] }
theorem CLk8_ok : CfgOK CLk8 := { con := libNr_ok }
def stLk8 {α : Type} (k : KLk8) (go : KLk8 → α) (ex ret : ELk8 → α) (no : α) : α :=
  if decide (k.x23 < k.x22) = true then
   if 0 ≤ k.x23 then
    if k.x23 < (↑k.x21.length : Int) then
     if k.x3.length + [(gt { point := { data := #[] : ByteArray }, level := 0, from_ := { node := { data := #[] : ByteArray }, port := 0, point := { data := #[] : ByteArray }, const := { kind := 0, n := 0 : GValue }, delayed := false, initial := { kind := 0, n := 0 : GValue } : GLink } : GDrive } k.x21 k.x23.toNat).from_].length < 16777216 then
      go ⟨(k.x3 ++ [(gt { point := { data := #[] : ByteArray }, level := 0, from_ := { node := { data := #[] : ByteArray }, port := 0, point := { data := #[] : ByteArray }, const := { kind := 0, n := 0 : GValue }, delayed := false, initial := { kind := 0, n := 0 : GValue } : GLink } : GDrive } k.x21 k.x23.toNat).from_]), (k.x21), (k.x22), (IntKind.i64.wrap (k.x23 + 1))⟩
     else
      no
    else
     no
   else
    no
  else
   ex ⟨(k.x3)⟩
def stepLk8 (k : KLk8) : Nx KLk8 ELk8 := stLk8 k .go .ex .ret .no
theorem BLk8 (k : KLk8) (m : Nat) (R : St At → Option (Res At)) (K : Xit → St At → Option (Res At)) : B CLk8 21 8 (m + 60) (SLk8 k) R K = stLk8 k (fun k => R (SLk8 k)) (fun x => K (.ex 2) (XLk8 x)) (fun x => K .ret (XLk8 x)) none := by kernel_rfl
def uLk8 (st : St At) : Option KLk8 := match st with
  | ⟨[(3, .own 0), (21, vx21), (22, .int .i64 x22), (23, .int .i64 x23)], [], [(0, bx3)], 1⟩ => (match rowB 55 bx3, roV 89 vx21 with | some x3, some x21 => some ⟨x3, x21, x22, x23⟩ | _, _ => none)
  | _ => none
theorem uLk8_spec {st : St At} {k : KLk8} (h : uLk8 st = some k) : st = SLk8 k := by
  unfold uLk8 at h
  split at h
  · split at h
    · rename_i h0 h1
      obtain rfl := Option.some.inj h
      rw [rowB_spec h0, roV_spec h1]
      rfl
    · cases h
  · cases h
theorem oklLk8 {g : LP} (hg : ∀ st K q, g st K = some q → ∃ k n e, st = SLk8 k ∧ iter stepLk8 n k = some e ∧ e.k 2 XLk8 XLk8 K = some q) : OKL 21 8 g := okl_iter CLk8_ok (S := SLk8) (X := XLk8) (Y := XLk8) (step := stepLk8) (id := 2) (by kernel_rfl) (by kernel_rfl)
  (fun k m R K => by rw [BLk8]; unfold stepLk8 stLk8; simp only [Nx.k_ite]; rfl) (fun k => by kernel_rfl) hg
theorem okfLk8 {g : LP} {fuel : KLk8 → Nat} {ok : KLk8 → Bool} {F : KLk8 → Fx ELk8} (hF : ∀ k, ok k = true → iter stepLk8 (fuel k) k = some (F k)) (hg : ∀ st K, g st K = (match uLk8 st with | some k => if ok k = true then (F k).k 2 XLk8 XLk8 K else none | none => none)) : OKL 21 8 g := oklLk8 fun st K q h => by
  rw [hg] at h
  split at h
  · rename_i k hu
    split at h
    · rename_i hok; exact ⟨k, _, _, uLk8_spec hu, hF k hok, h⟩
    · cases h
  · cases h
structure B_Lk8 where
  x3 : List GLink
def fLk8 (k : KLk8) (b : B_Lk8) (x : GDrive) : Option (B_Lk8 ⊕ ELk8) :=
  if b.x3.length + [x.from_].length < 16777216 then
   some (.inl ⟨(b.x3 ++ [x.from_])⟩)
  else
   none
def xLk8 (k : KLk8) (b : B_Lk8) : ELk8 := ⟨(b.x3)⟩
def putLk8 (k : KLk8) (b : B_Lk8) (j : Nat) : KLk8 := ⟨b.x3, k.x21, k.x22, (j : Int)⟩
def bLk8 (k : KLk8) : B_Lk8 := ⟨k.x3⟩
def oLk8 (k : KLk8) : Option (B_Lk8 ⊕ ELk8) := scanO (fLk8 k) (bLk8 k) k.x21
def okLk8 (k : KLk8) : Bool := decide (k.x23 = 0) && (decide (k.x22 = (k.x21.length : Int)) && (Nat.ble k.x21.length 9223372036854775807 && isOO (oLk8 k)))
def FLk8 (k : KLk8) : Fx ELk8 := fxO (xLk8 k) (bLk8 k) (xLk8 k (bLk8 k)) (oLk8 k)
theorem sLk8 (k : KLk8) (hn : k.x22 = (k.x21.length : Int)) (hm : k.x21.length ≤ 9223372036854775807) (b : B_Lk8) (j : Nat) (h : j < k.x21.length) : stepLk8 (putLk8 k b j) = nxO (fun b' => putLk8 k b' (j + 1)) (fLk8 k b k.x21[j]) := by
  unfold stepLk8 stLk8 fLk8 putLk8
  dsimp only
  simp only [hn, nxO_ite, cnt' h hm, gtj' _ _ _ h, if_pos (lt1' h), if_pos (lt0' (j := j)), if_pos (lt2' h)]
  rfl
theorem eLk8 (k : KLk8) (hn : k.x22 = (k.x21.length : Int)) (b : B_Lk8) : stepLk8 (putLk8 k b k.x21.length) = .ex (xLk8 k b) := by
  unfold stepLk8 stLk8 putLk8
  dsimp only
  rw [hn, if_neg lt3']
  rfl
theorem iLk8 (k : KLk8) (h : okLk8 k = true) : iter stepLk8 (k.x21).length k = some (FLk8 k) := by
  unfold okLk8 at h
  simp only [Bool.and_eq_true, decide_eq_true_eq] at h
  obtain ⟨h0, h1, h2, h3⟩ := h
  replace h2 := Nat.le_of_ble_eq_true h2
  have e : k = putLk8 k (bLk8 k) 0 := by cases k; dsimp only at h0; subst h0; rfl
  have := iter_scanO (step := stepLk8) k.x21 (putLk8 k) (fLk8 k) (xLk8 k) (bLk8 k) (xLk8 k (bLk8 k)) (fun b j h => sLk8 k h1 h2 b j h) (fun b => eLk8 k h1 b) k.x21.length 0 (bLk8 k) (by simp) (by rw [List.drop_zero]; exact h3)
  rw [List.drop_zero, ← e] at this
  exact this
def gLk8 : LP := fun st K => match uLk8 st with | some k => if okLk8 k = true then (if isLO (oLk8 k) = true then K (.ex 2) (XLk8 (⟨((getLO (bLk8 k) (oLk8 k)).x3)⟩ : ELk8)) else K .ret (XLk8 (getRO (xLk8 k (bLk8 k)) (oLk8 k)))) else none | none => none
theorem okgLk8 : OKL 21 8 gLk8 := okfLk8 (fuel := fun k => (k.x21).length) (ok := okLk8) (F := FLk8) iLk8 fun st K => by
  unfold gLk8
  cases hu : uLk8 st with
  | none => rfl
  | some k =>
    dsimp only
    split
    · unfold FLk8 fxO
      cases isLO (oLk8 k) <;> rfl
    · rfl
structure KLk3 where
  x1 : GProgram
  x3 : List GLink
  x9 : List GNode
  x10 : Int
  x11 : Int
structure ELk3 where
  x1 : GProgram
  x3 : List GLink
def SLk3 (k : KLk3) : St At := { env := [(1, .ptr 0 0), (3, .own 1), (9, .ro 58 k.x9), (10, .int .i64 k.x10), (11, .int .i64 k.x11)], stk := [], hp := [(0, .var (enc31 k.x1) false), (1, .row 55 k.x3 false)], nx := 2 }
def XLk3 (k : ELk3) : St At := { env := [(1, .ptr 0 0), (3, .own 1)], stk := [], hp := [(0, .var (enc31 k.x1) false), (1, .row 55 k.x3 false)], nx := 2 }
def CLk3 : Cfg := { cs := libNr, ks := [((21, 3), [(1, none), (3, some 55), (9, none), (10, none), (11, none)])], xs := [((21, 3), [(1, none), (3, some 55)])], lps := [] }
theorem CLk3_ok : CfgOK CLk3 := { con := libNr_ok }
def stLk3 {α : Type} (k : KLk3) (go : KLk3 → α) (ex ret : ELk3 → α) (no : α) : α :=
  if decide (k.x11 < k.x10) = true then
   if 0 ≤ k.x11 then
    if k.x11 < (↑k.x9.length : Int) then
     if k.x3.length + (gt { name := { data := #[] : ByteArray }, block := { data := #[] : ByteArray }, params := [], inputs := [] : GNode } k.x9 k.x11.toNat).inputs.length < 16777216 then
      go ⟨(k.x1), (k.x3 ++ (gt { name := { data := #[] : ByteArray }, block := { data := #[] : ByteArray }, params := [], inputs := [] : GNode } k.x9 k.x11.toNat).inputs), (k.x9), (k.x10), (IntKind.i64.wrap (k.x11 + 1))⟩
     else
      no
    else
     no
   else
    no
  else
   ex ⟨(k.x1), (k.x3)⟩
def stepLk3 (k : KLk3) : Nx KLk3 ELk3 := stLk3 k .go .ex .ret .no
theorem BLk3 (k : KLk3) (m : Nat) (R : St At → Option (Res At)) (K : Xit → St At → Option (Res At)) : B CLk3 21 3 (m + 60) (SLk3 k) R K = stLk3 k (fun k => R (SLk3 k)) (fun x => K (.ex 0) (XLk3 x)) (fun x => K .ret (XLk3 x)) none := by kernel_rfl
def uLk3 (st : St At) : Option KLk3 := match st with
  | ⟨[(1, .ptr 0 0), (3, .own 1), (9, vx9), (10, .int .i64 x10), (11, .int .i64 x11)], [], [(0, .var wx1 false), (1, bx3)], 2⟩ => (match ex31 wx1, rowB 55 bx3, roV 58 vx9 with | some x1, some x3, some x9 => some ⟨x1, x3, x9, x10, x11⟩ | _, _, _ => none)
  | _ => none
theorem uLk3_spec {st : St At} {k : KLk3} (h : uLk3 st = some k) : st = SLk3 k := by
  unfold uLk3 at h
  split at h
  · split at h
    · rename_i h0 h1 h2
      obtain rfl := Option.some.inj h
      rw [ex31_spec h0, rowB_spec h1, roV_spec h2]
      rfl
    · cases h
  · cases h
theorem oklLk3 {g : LP} (hg : ∀ st K q, g st K = some q → ∃ k n e, st = SLk3 k ∧ iter stepLk3 n k = some e ∧ e.k 0 XLk3 XLk3 K = some q) : OKL 21 3 g := okl_iter CLk3_ok (S := SLk3) (X := XLk3) (Y := XLk3) (step := stepLk3) (id := 0) (by kernel_rfl) (by kernel_rfl)
  (fun k m R K => by rw [BLk3]; unfold stepLk3 stLk3; simp only [Nx.k_ite]; rfl) (fun k => by kernel_rfl) hg
theorem okfLk3 {g : LP} {fuel : KLk3 → Nat} {ok : KLk3 → Bool} {F : KLk3 → Fx ELk3} (hF : ∀ k, ok k = true → iter stepLk3 (fuel k) k = some (F k)) (hg : ∀ st K, g st K = (match uLk3 st with | some k => if ok k = true then (F k).k 0 XLk3 XLk3 K else none | none => none)) : OKL 21 3 g := oklLk3 fun st K q h => by
  rw [hg] at h
  split at h
  · rename_i k hu
    split at h
    · rename_i hok; exact ⟨k, _, _, uLk3_spec hu, hF k hok, h⟩
    · cases h
  · cases h
structure B_Lk3 where
  x3 : List GLink
def fLk3 (k : KLk3) (b : B_Lk3) (x : GNode) : Option (B_Lk3 ⊕ ELk3) :=
  if b.x3.length + x.inputs.length < 16777216 then
   some (.inl ⟨(b.x3 ++ x.inputs)⟩)
  else
   none
def xLk3 (k : KLk3) (b : B_Lk3) : ELk3 := ⟨(k.x1), (b.x3)⟩
def putLk3 (k : KLk3) (b : B_Lk3) (j : Nat) : KLk3 := ⟨k.x1, b.x3, k.x9, k.x10, (j : Int)⟩
def bLk3 (k : KLk3) : B_Lk3 := ⟨k.x3⟩
def oLk3 (k : KLk3) : Option (B_Lk3 ⊕ ELk3) := scanO (fLk3 k) (bLk3 k) k.x9
def okLk3 (k : KLk3) : Bool := decide (k.x11 = 0) && (decide (k.x10 = (k.x9.length : Int)) && (Nat.ble k.x9.length 9223372036854775807 && isOO (oLk3 k)))
def FLk3 (k : KLk3) : Fx ELk3 := fxO (xLk3 k) (bLk3 k) (xLk3 k (bLk3 k)) (oLk3 k)
theorem sLk3 (k : KLk3) (hn : k.x10 = (k.x9.length : Int)) (hm : k.x9.length ≤ 9223372036854775807) (b : B_Lk3) (j : Nat) (h : j < k.x9.length) : stepLk3 (putLk3 k b j) = nxO (fun b' => putLk3 k b' (j + 1)) (fLk3 k b k.x9[j]) := by
  unfold stepLk3 stLk3 fLk3 putLk3
  dsimp only
  simp only [hn, nxO_ite, cnt' h hm, gtj' _ _ _ h, if_pos (lt1' h), if_pos (lt0' (j := j)), if_pos (lt2' h)]
  rfl
theorem eLk3 (k : KLk3) (hn : k.x10 = (k.x9.length : Int)) (b : B_Lk3) : stepLk3 (putLk3 k b k.x9.length) = .ex (xLk3 k b) := by
  unfold stepLk3 stLk3 putLk3
  dsimp only
  rw [hn, if_neg lt3']
  rfl
theorem iLk3 (k : KLk3) (h : okLk3 k = true) : iter stepLk3 (k.x9).length k = some (FLk3 k) := by
  unfold okLk3 at h
  simp only [Bool.and_eq_true, decide_eq_true_eq] at h
  obtain ⟨h0, h1, h2, h3⟩ := h
  replace h2 := Nat.le_of_ble_eq_true h2
  have e : k = putLk3 k (bLk3 k) 0 := by cases k; dsimp only at h0; subst h0; rfl
  have := iter_scanO (step := stepLk3) k.x9 (putLk3 k) (fLk3 k) (xLk3 k) (bLk3 k) (xLk3 k (bLk3 k)) (fun b j h => sLk3 k h1 h2 b j h) (fun b => eLk3 k h1 b) k.x9.length 0 (bLk3 k) (by simp) (by rw [List.drop_zero]; exact h3)
  rw [List.drop_zero, ← e] at this
  exact this
def gLk3 : LP := fun st K => match uLk3 st with | some k => if okLk3 k = true then (if isLO (oLk3 k) = true then K (.ex 0) (XLk3 (⟨(k.x1), ((getLO (bLk3 k) (oLk3 k)).x3)⟩ : ELk3)) else K .ret (XLk3 (getRO (xLk3 k (bLk3 k)) (oLk3 k)))) else none | none => none
theorem okgLk3 : OKL 21 3 gLk3 := okfLk3 (fuel := fun k => (k.x9).length) (ok := okLk3) (F := FLk3) iLk3 fun st K => by
  unfold gLk3
  cases hu : uLk3 st with
  | none => rfl
  | some k =>
    dsimp only
    split
    · unfold FLk3 fxO
      cases isLO (oLk3 k) <;> rfl
    · rfl
def CLk : Cfg := { cs := libNr, ks := CLk8.ks ++ CLk3.ks, xs := CLk8.xs ++ CLk3.xs, lps := [((21, 8), gLk8), ((21, 3), gLk3)] }
theorem CLk_ok : CfgOK CLk := { con := libNr_ok, lp := .cons okgLk8 (.cons okgLk3 .nil) }
def RLk (a0 : GProgram) : Option (Res At) :=
  if okLk3 { x1 := a0, x3 := [], x9 := a0.nodes, x10 := (↑a0.nodes.length : Int), x11 := 0 : KLk3 } = true then
   if isLO (oLk3 { x1 := a0, x3 := [], x9 := a0.nodes, x10 := (↑a0.nodes.length : Int), x11 := 0 : KLk3 }) = true then
    if okLk8 { x3 := (getLO (bLk3 { x1 := a0, x3 := [], x9 := a0.nodes, x10 := (↑a0.nodes.length : Int), x11 := 0 : KLk3 }) (oLk3 { x1 := a0, x3 := [], x9 := a0.nodes, x10 := (↑a0.nodes.length : Int), x11 := 0 : KLk3 })).x3, x21 := a0.drives, x22 := (↑a0.drives.length : Int), x23 := 0 : KLk8 } = true then
     if isLO (oLk8 { x3 := (getLO (bLk3 { x1 := a0, x3 := [], x9 := a0.nodes, x10 := (↑a0.nodes.length : Int), x11 := 0 : KLk3 }) (oLk3 { x1 := a0, x3 := [], x9 := a0.nodes, x10 := (↑a0.nodes.length : Int), x11 := 0 : KLk3 })).x3, x21 := a0.drives, x22 := (↑a0.drives.length : Int), x23 := 0 : KLk8 }) = true then
      some ((.own 0), [(0, (.row 55 ((getLO (bLk8 { x3 := (getLO (bLk3 { x1 := a0, x3 := [], x9 := a0.nodes, x10 := (↑a0.nodes.length : Int), x11 := 0 : KLk3 }) (oLk3 { x1 := a0, x3 := [], x9 := a0.nodes, x10 := (↑a0.nodes.length : Int), x11 := 0 : KLk3 })).x3, x21 := a0.drives, x22 := (↑a0.drives.length : Int), x23 := 0 : KLk8 }) (oLk8 { x3 := (getLO (bLk3 { x1 := a0, x3 := [], x9 := a0.nodes, x10 := (↑a0.nodes.length : Int), x11 := 0 : KLk3 }) (oLk3 { x1 := a0, x3 := [], x9 := a0.nodes, x10 := (↑a0.nodes.length : Int), x11 := 0 : KLk3 })).x3, x21 := a0.drives, x22 := (↑a0.drives.length : Int), x23 := 0 : KLk8 })).x3) false))])
     else
      some (.unk, [])
    else
     none
   else
    some (.unk, [])
  else
   none
theorem run_RLk (a0 : GProgram) : runF CLk 80 21 [.agg (enc31 a0)] = RLk a0 := by kernel_rfl
def oLk (a0 : GProgram) : Option (Res At) := crR [some 55] (RLk a0)
def vLk (a0 : GProgram) : List GLink := valO (rR 55) [] (oLk a0)
def cLk (a0 : GProgram) : Bool := okO (rR 55) (oLk a0)
def conLk : CON := on1 (rA ex31 enc31 fun _ _ h => ex31_spec h) fun a0 => some (cLk a0, (.ro 55 (vLk a0), []))
theorem okLk : OK 21 conLk := okc1 CLk_ok (n := 80) (ts := [some 55]) (a := (rA ex31 enc31 fun _ _ h => ex31_spec h)) (r := (rR 55)) (d := []) (R := fun a0 => RLk a0) (by kernel_rfl) fun a0 => run_RLk a0
def libLk : List (Nat × CON) := (21, conLk) :: libNr
theorem libLk_ok : AllOK libLk := .cons okLk libNr_ok
structure KLkR7 where
  x1 : GProgram
  x3 : List GLink
  x5 : Int
structure ELkR7 where
  x3 : List GLink
def SLkR7 (k : KLkR7) : St At := { env := [(1, .ptr 0 0), (3, .own 1), (5, .int .i64 k.x5)], stk := [], hp := [(0, .var (enc31 k.x1) false), (1, .row 55 k.x3 false)], nx := 2 }
def XLkR7 (k : ELkR7) : St At := { env := [(3, .own 0)], stk := [], hp := [(0, .row 55 k.x3 false)], nx := 1 }
def CLkR7 : Cfg := { cs := libLk, ks := [((47, 7), [(1, none), (3, some 55), (5, none)])], xs := [((47, 7), [(3, some 55)])], lps := [] }
theorem CLkR7_ok : CfgOK CLkR7 := { con := libLk_ok }
def stLkR7 {α : Type} (k : KLkR7) (go : KLkR7 → α) (ex ret : ELkR7 → α) (no : α) : α :=
  if decide (k.x5 < (↑k.x1.drives.length : Int)) = true then
   if 0 ≤ k.x5 then
    if k.x5 < (↑k.x1.drives.length : Int) then
     if k.x3.length + [(gt { point := { data := #[] : ByteArray }, level := 0, from_ := { node := { data := #[] : ByteArray }, port := 0, point := { data := #[] : ByteArray }, const := { kind := 0, n := 0 : GValue }, delayed := false, initial := { kind := 0, n := 0 : GValue } : GLink } : GDrive } k.x1.drives k.x5.toNat).from_].length < 16777216 then
      go ⟨(k.x1), (k.x3 ++ [(gt { point := { data := #[] : ByteArray }, level := 0, from_ := { node := { data := #[] : ByteArray }, port := 0, point := { data := #[] : ByteArray }, const := { kind := 0, n := 0 : GValue }, delayed := false, initial := { kind := 0, n := 0 : GValue } : GLink } : GDrive } k.x1.drives k.x5.toNat).from_]), (IntKind.i64.wrap (k.x5 + 1))⟩
     else
      no
    else
     no
   else
    no
  else
   ex ⟨(k.x3)⟩
def stepLkR7 (k : KLkR7) : Nx KLkR7 ELkR7 := stLkR7 k .go .ex .ret .no
theorem BLkR7 (k : KLkR7) (m : Nat) (R : St At → Option (Res At)) (K : Xit → St At → Option (Res At)) : B CLkR7 47 7 (m + 60) (SLkR7 k) R K = stLkR7 k (fun k => R (SLkR7 k)) (fun x => K (.ex 2) (XLkR7 x)) (fun x => K .ret (XLkR7 x)) none := by kernel_rfl
def uLkR7 (st : St At) : Option KLkR7 := match st with
  | ⟨[(1, .ptr 0 0), (3, .own 1), (5, .int .i64 x5)], [], [(0, .var wx1 false), (1, bx3)], 2⟩ => (match ex31 wx1, rowB 55 bx3 with | some x1, some x3 => some ⟨x1, x3, x5⟩ | _, _ => none)
  | _ => none
theorem uLkR7_spec {st : St At} {k : KLkR7} (h : uLkR7 st = some k) : st = SLkR7 k := by
  unfold uLkR7 at h
  split at h
  · split at h
    · rename_i h0 h1
      obtain rfl := Option.some.inj h
      rw [ex31_spec h0, rowB_spec h1]
      rfl
    · cases h
  · cases h
theorem oklLkR7 {g : LP} (hg : ∀ st K q, g st K = some q → ∃ k n e, st = SLkR7 k ∧ iter stepLkR7 n k = some e ∧ e.k 2 XLkR7 XLkR7 K = some q) : OKL 47 7 g := okl_iter CLkR7_ok (S := SLkR7) (X := XLkR7) (Y := XLkR7) (step := stepLkR7) (id := 2) (by kernel_rfl) (by kernel_rfl)
  (fun k m R K => by rw [BLkR7]; unfold stepLkR7 stLkR7; simp only [Nx.k_ite]; rfl) (fun k => by kernel_rfl) hg
theorem okfLkR7 {g : LP} {fuel : KLkR7 → Nat} {ok : KLkR7 → Bool} {F : KLkR7 → Fx ELkR7} (hF : ∀ k, ok k = true → iter stepLkR7 (fuel k) k = some (F k)) (hg : ∀ st K, g st K = (match uLkR7 st with | some k => if ok k = true then (F k).k 2 XLkR7 XLkR7 K else none | none => none)) : OKL 47 7 g := oklLkR7 fun st K q h => by
  rw [hg] at h
  split at h
  · rename_i k hu
    split at h
    · rename_i hok; exact ⟨k, _, _, uLkR7_spec hu, hF k hok, h⟩
    · cases h
  · cases h
structure B_LkR7 where
  x3 : List GLink
def fLkR7 (k : KLkR7) (b : B_LkR7) (x : GDrive) : Option (B_LkR7 ⊕ ELkR7) :=
  if b.x3.length + [x.from_].length < 16777216 then
   some (.inl ⟨(b.x3 ++ [x.from_])⟩)
  else
   none
def xLkR7 (k : KLkR7) (b : B_LkR7) : ELkR7 := ⟨(b.x3)⟩
def putLkR7 (k : KLkR7) (b : B_LkR7) (j : Nat) : KLkR7 := ⟨k.x1, b.x3, (j : Int)⟩
def bLkR7 (k : KLkR7) : B_LkR7 := ⟨k.x3⟩
def oLkR7 (k : KLkR7) : Option (B_LkR7 ⊕ ELkR7) := scanO (fLkR7 k) (bLkR7 k) k.x1.drives
def okLkR7 (k : KLkR7) : Bool := decide (k.x5 = 0) && ((Nat.ble k.x1.drives.length 9223372036854775807 && isOO (oLkR7 k)))
def FLkR7 (k : KLkR7) : Fx ELkR7 := fxO (xLkR7 k) (bLkR7 k) (xLkR7 k (bLkR7 k)) (oLkR7 k)
theorem sLkR7 (k : KLkR7) (hm : k.x1.drives.length ≤ 9223372036854775807) (b : B_LkR7) (j : Nat) (h : j < k.x1.drives.length) : stepLkR7 (putLkR7 k b j) = nxO (fun b' => putLkR7 k b' (j + 1)) (fLkR7 k b k.x1.drives[j]) := by
  unfold stepLkR7 stLkR7 fLkR7 putLkR7
  dsimp only
  simp only [nxO_ite, cnt' h hm, gtj' _ _ _ h, if_pos (lt1' h), if_pos (lt0' (j := j)), if_pos (lt2' h)]
  rfl
theorem eLkR7 (k : KLkR7) (b : B_LkR7) : stepLkR7 (putLkR7 k b k.x1.drives.length) = .ex (xLkR7 k b) := by
  unfold stepLkR7 stLkR7 putLkR7
  dsimp only
  rw [if_neg lt3']
  rfl
theorem iLkR7 (k : KLkR7) (h : okLkR7 k = true) : iter stepLkR7 (k.x1.drives).length k = some (FLkR7 k) := by
  unfold okLkR7 at h
  simp only [Bool.and_eq_true, decide_eq_true_eq] at h
  obtain ⟨h0, h2, h3⟩ := h
  replace h2 := Nat.le_of_ble_eq_true h2
  have e : k = putLkR7 k (bLkR7 k) 0 := by cases k; dsimp only at h0; subst h0; rfl
  have := iter_scanO (step := stepLkR7) k.x1.drives (putLkR7 k) (fLkR7 k) (xLkR7 k) (bLkR7 k) (xLkR7 k (bLkR7 k)) (fun b j h => sLkR7 k h2 b j h) (fun b => eLkR7 k b) k.x1.drives.length 0 (bLkR7 k) (by simp) (by rw [List.drop_zero]; exact h3)
  rw [List.drop_zero, ← e] at this
  exact this
def gLkR7 : LP := fun st K => match uLkR7 st with | some k => if okLkR7 k = true then (if isLO (oLkR7 k) = true then K (.ex 2) (XLkR7 (⟨((getLO (bLkR7 k) (oLkR7 k)).x3)⟩ : ELkR7)) else K .ret (XLkR7 (getRO (xLkR7 k (bLkR7 k)) (oLkR7 k)))) else none | none => none
theorem okgLkR7 : OKL 47 7 gLkR7 := okfLkR7 (fuel := fun k => (k.x1.drives).length) (ok := okLkR7) (F := FLkR7) iLkR7 fun st K => by
  unfold gLkR7
  cases hu : uLkR7 st with
  | none => rfl
  | some k =>
    dsimp only
    split
    · unfold FLkR7 fxO
      cases isLO (oLkR7 k) <;> rfl
    · rfl
structure KLkR3 where
  x1 : GProgram
  x3 : List GLink
  x4 : Int
structure ELkR3 where
  x1 : GProgram
  x3 : List GLink
def SLkR3 (k : KLkR3) : St At := { env := [(1, .ptr 0 0), (3, .own 1), (4, .int .i64 k.x4)], stk := [], hp := [(0, .var (enc31 k.x1) false), (1, .row 55 k.x3 false)], nx := 2 }
def XLkR3 (k : ELkR3) : St At := { env := [(1, .ptr 0 0), (3, .own 1)], stk := [], hp := [(0, .var (enc31 k.x1) false), (1, .row 55 k.x3 false)], nx := 2 }
def CLkR3 : Cfg := { cs := libLk, ks := [((47, 3), [(1, none), (3, some 55), (4, none)])], xs := [((47, 3), [(1, none), (3, some 55)])], lps := [] }
theorem CLkR3_ok : CfgOK CLkR3 := { con := libLk_ok }
def stLkR3 {α : Type} (k : KLkR3) (go : KLkR3 → α) (ex ret : ELkR3 → α) (no : α) : α :=
  if decide (k.x4 < (↑k.x1.nodes.length : Int)) = true then
   if 0 ≤ k.x4 then
    if k.x4 < (↑k.x1.nodes.length : Int) then
     if k.x3.length + (gt { name := { data := #[] : ByteArray }, block := { data := #[] : ByteArray }, params := [], inputs := [] : GNode } k.x1.nodes k.x4.toNat).inputs.length < 16777216 then
      go ⟨(k.x1), (k.x3 ++ (gt { name := { data := #[] : ByteArray }, block := { data := #[] : ByteArray }, params := [], inputs := [] : GNode } k.x1.nodes k.x4.toNat).inputs), (IntKind.i64.wrap (k.x4 + 1))⟩
     else
      no
    else
     no
   else
    no
  else
   ex ⟨(k.x1), (k.x3)⟩
def stepLkR3 (k : KLkR3) : Nx KLkR3 ELkR3 := stLkR3 k .go .ex .ret .no
theorem BLkR3 (k : KLkR3) (m : Nat) (R : St At → Option (Res At)) (K : Xit → St At → Option (Res At)) : B CLkR3 47 3 (m + 60) (SLkR3 k) R K = stLkR3 k (fun k => R (SLkR3 k)) (fun x => K (.ex 0) (XLkR3 x)) (fun x => K .ret (XLkR3 x)) none := by kernel_rfl
def uLkR3 (st : St At) : Option KLkR3 := match st with
  | ⟨[(1, .ptr 0 0), (3, .own 1), (4, .int .i64 x4)], [], [(0, .var wx1 false), (1, bx3)], 2⟩ => (match ex31 wx1, rowB 55 bx3 with | some x1, some x3 => some ⟨x1, x3, x4⟩ | _, _ => none)
  | _ => none
theorem uLkR3_spec {st : St At} {k : KLkR3} (h : uLkR3 st = some k) : st = SLkR3 k := by
  unfold uLkR3 at h
  split at h
  · split at h
    · rename_i h0 h1
      obtain rfl := Option.some.inj h
      rw [ex31_spec h0, rowB_spec h1]
      rfl
    · cases h
  · cases h
theorem oklLkR3 {g : LP} (hg : ∀ st K q, g st K = some q → ∃ k n e, st = SLkR3 k ∧ iter stepLkR3 n k = some e ∧ e.k 0 XLkR3 XLkR3 K = some q) : OKL 47 3 g := okl_iter CLkR3_ok (S := SLkR3) (X := XLkR3) (Y := XLkR3) (step := stepLkR3) (id := 0) (by kernel_rfl) (by kernel_rfl)
  (fun k m R K => by rw [BLkR3]; unfold stepLkR3 stLkR3; simp only [Nx.k_ite]; rfl) (fun k => by kernel_rfl) hg
theorem okfLkR3 {g : LP} {fuel : KLkR3 → Nat} {ok : KLkR3 → Bool} {F : KLkR3 → Fx ELkR3} (hF : ∀ k, ok k = true → iter stepLkR3 (fuel k) k = some (F k)) (hg : ∀ st K, g st K = (match uLkR3 st with | some k => if ok k = true then (F k).k 0 XLkR3 XLkR3 K else none | none => none)) : OKL 47 3 g := oklLkR3 fun st K q h => by
  rw [hg] at h
  split at h
  · rename_i k hu
    split at h
    · rename_i hok; exact ⟨k, _, _, uLkR3_spec hu, hF k hok, h⟩
    · cases h
  · cases h
structure B_LkR3 where
  x3 : List GLink
def fLkR3 (k : KLkR3) (b : B_LkR3) (x : GNode) : Option (B_LkR3 ⊕ ELkR3) :=
  if b.x3.length + x.inputs.length < 16777216 then
   some (.inl ⟨(b.x3 ++ x.inputs)⟩)
  else
   none
def xLkR3 (k : KLkR3) (b : B_LkR3) : ELkR3 := ⟨(k.x1), (b.x3)⟩
def putLkR3 (k : KLkR3) (b : B_LkR3) (j : Nat) : KLkR3 := ⟨k.x1, b.x3, (j : Int)⟩
def bLkR3 (k : KLkR3) : B_LkR3 := ⟨k.x3⟩
def oLkR3 (k : KLkR3) : Option (B_LkR3 ⊕ ELkR3) := scanO (fLkR3 k) (bLkR3 k) k.x1.nodes
def okLkR3 (k : KLkR3) : Bool := decide (k.x4 = 0) && ((Nat.ble k.x1.nodes.length 9223372036854775807 && isOO (oLkR3 k)))
def FLkR3 (k : KLkR3) : Fx ELkR3 := fxO (xLkR3 k) (bLkR3 k) (xLkR3 k (bLkR3 k)) (oLkR3 k)
theorem sLkR3 (k : KLkR3) (hm : k.x1.nodes.length ≤ 9223372036854775807) (b : B_LkR3) (j : Nat) (h : j < k.x1.nodes.length) : stepLkR3 (putLkR3 k b j) = nxO (fun b' => putLkR3 k b' (j + 1)) (fLkR3 k b k.x1.nodes[j]) := by
  unfold stepLkR3 stLkR3 fLkR3 putLkR3
  dsimp only
  simp only [nxO_ite, cnt' h hm, gtj' _ _ _ h, if_pos (lt1' h), if_pos (lt0' (j := j)), if_pos (lt2' h)]
  rfl
theorem eLkR3 (k : KLkR3) (b : B_LkR3) : stepLkR3 (putLkR3 k b k.x1.nodes.length) = .ex (xLkR3 k b) := by
  unfold stepLkR3 stLkR3 putLkR3
  dsimp only
  rw [if_neg lt3']
  rfl
theorem iLkR3 (k : KLkR3) (h : okLkR3 k = true) : iter stepLkR3 (k.x1.nodes).length k = some (FLkR3 k) := by
  unfold okLkR3 at h
  simp only [Bool.and_eq_true, decide_eq_true_eq] at h
  obtain ⟨h0, h2, h3⟩ := h
  replace h2 := Nat.le_of_ble_eq_true h2
  have e : k = putLkR3 k (bLkR3 k) 0 := by cases k; dsimp only at h0; subst h0; rfl
  have := iter_scanO (step := stepLkR3) k.x1.nodes (putLkR3 k) (fLkR3 k) (xLkR3 k) (bLkR3 k) (xLkR3 k (bLkR3 k)) (fun b j h => sLkR3 k h2 b j h) (fun b => eLkR3 k b) k.x1.nodes.length 0 (bLkR3 k) (by simp) (by rw [List.drop_zero]; exact h3)
  rw [List.drop_zero, ← e] at this
  exact this
def gLkR3 : LP := fun st K => match uLkR3 st with | some k => if okLkR3 k = true then (if isLO (oLkR3 k) = true then K (.ex 0) (XLkR3 (⟨(k.x1), ((getLO (bLkR3 k) (oLkR3 k)).x3)⟩ : ELkR3)) else K .ret (XLkR3 (getRO (xLkR3 k (bLkR3 k)) (oLkR3 k)))) else none | none => none
theorem okgLkR3 : OKL 47 3 gLkR3 := okfLkR3 (fuel := fun k => (k.x1.nodes).length) (ok := okLkR3) (F := FLkR3) iLkR3 fun st K => by
  unfold gLkR3
  cases hu : uLkR3 st with
  | none => rfl
  | some k =>
    dsimp only
    split
    · unfold FLkR3 fxO
      cases isLO (oLkR3 k) <;> rfl
    · rfl
def CLkR : Cfg := { cs := libLk, ks := CLkR7.ks ++ CLkR3.ks, xs := CLkR7.xs ++ CLkR3.xs, lps := [((47, 7), gLkR7), ((47, 3), gLkR3)] }
theorem CLkR_ok : CfgOK CLkR := { con := libLk_ok, lp := .cons okgLkR7 (.cons okgLkR3 .nil) }
def RLkR (a0 : GProgram) : Option (Res At) :=
  if okLkR3 { x1 := a0, x3 := [], x4 := 0 : KLkR3 } = true then
   if isLO (oLkR3 { x1 := a0, x3 := [], x4 := 0 : KLkR3 }) = true then
    if okLkR7 { x1 := a0, x3 := (getLO (bLkR3 { x1 := a0, x3 := [], x4 := 0 : KLkR3 }) (oLkR3 { x1 := a0, x3 := [], x4 := 0 : KLkR3 })).x3, x5 := 0 : KLkR7 } = true then
     if isLO (oLkR7 { x1 := a0, x3 := (getLO (bLkR3 { x1 := a0, x3 := [], x4 := 0 : KLkR3 }) (oLkR3 { x1 := a0, x3 := [], x4 := 0 : KLkR3 })).x3, x5 := 0 : KLkR7 }) = true then
      some ((.own 0), [(0, (.row 55 ((getLO (bLkR7 { x1 := a0, x3 := (getLO (bLkR3 { x1 := a0, x3 := [], x4 := 0 : KLkR3 }) (oLkR3 { x1 := a0, x3 := [], x4 := 0 : KLkR3 })).x3, x5 := 0 : KLkR7 }) (oLkR7 { x1 := a0, x3 := (getLO (bLkR3 { x1 := a0, x3 := [], x4 := 0 : KLkR3 }) (oLkR3 { x1 := a0, x3 := [], x4 := 0 : KLkR3 })).x3, x5 := 0 : KLkR7 })).x3) false))])
     else
      some (.unk, [])
    else
     none
   else
    some (.unk, [])
  else
   none
theorem run_RLkR (a0 : GProgram) : runF CLkR 80 47 [.agg (enc31 a0)] = RLkR a0 := by kernel_rfl
def oLkR (a0 : GProgram) : Option (Res At) := crR [some 55] (RLkR a0)
def vLkR (a0 : GProgram) : List GLink := valO (rR 55) [] (oLkR a0)
def cLkR (a0 : GProgram) : Bool := okO (rR 55) (oLkR a0)
def conLkR : CON := on1 (rA ex31 enc31 fun _ _ h => ex31_spec h) fun a0 => some (cLkR a0, (.ro 55 (vLkR a0), []))
theorem okLkR : OK 47 conLkR := okc1 CLkR_ok (n := 80) (ts := [some 55]) (a := (rA ex31 enc31 fun _ _ h => ex31_spec h)) (r := (rR 55)) (d := []) (R := fun a0 => RLkR a0) (by kernel_rfl) fun a0 => run_RLkR a0
def libLkR : List (Nat × CON) := (47, conLkR) :: libLk
theorem libLkR_ok : AllOK libLkR := .cons okLkR libLk_ok
def libFiR : List (Nat × CON) := libLkR
theorem libFiR_ok : AllOK libFiR := libLkR_ok
def libPoR : List (Nat × CON) := libFiR
theorem libPoR_ok : AllOK libPoR := libFiR_ok
end
end Go.Proofs.YtpbpebjfglfjfaaGreatDoor.X
