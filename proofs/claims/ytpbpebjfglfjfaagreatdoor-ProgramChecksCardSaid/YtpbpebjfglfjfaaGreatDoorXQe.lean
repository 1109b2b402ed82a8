/-
  Check, of the program.
-/
import Derived.Test.YtpbpebjfglfjfaaGreatDoorXQd
set_option autoImplicit false
set_option linter.unusedVariables false
set_option linter.unusedSimpArgs false
set_option maxRecDepth 100000
namespace Go.Proofs.YtpbpebjfglfjfaaGreatDoor.X
open Go Go.Proofs Go.RowKit Go.Proofs.YtpbpebjfglfjfaaGreatDoor
noncomputable section
def CCf1 : Cfg := { cs := libUk }
theorem CCf1_ok : CfgOK CCf1 := { con := libUk_ok }
def RCf1 (a0 : List GNode) (a1 : Unit) : Option (Res At) :=
  if cIn2 a0 () = true then
   some ((.bool (decide (vIn2 a0 () ≥ 0))), [])
  else
   none
theorem run_RCf1 (a0 : List GNode) (a1 : Unit) : runF CCf1 80 49 [.ro 58 a0, .fn 50 []] = RCf1 a0 a1 := by kernel_rfl
def oCf1 (a0 : List GNode) (a1 : Unit) : Option (Res At) := crR [none] (RCf1 a0 a1)
def vCf1 (a0 : List GNode) (a1 : Unit) : Bool := valO rB false (oCf1 a0 a1)
def cCf1 (a0 : List GNode) (a1 : Unit) : Bool := okO rB (oCf1 a0 a1)
def conCf1 : CON := on2 (rR 58) (rF0 50) fun a0 a1 => some (cCf1 a0 a1, (.bool (vCf1 a0 a1), []))
theorem okCf1 : OK 49 conCf1 := okc2 CCf1_ok (n := 80) (ts := [none]) (a := (rR 58)) (b := (rF0 50)) (r := rB) (d := false) (R := fun a0 a1 => RCf1 a0 a1) (by kernel_rfl) fun a0 a1 => run_RCf1 a0 a1
def libCf1 : List (Nat × CON) := (49, conCf1) :: libUk
theorem libCf1_ok : AllOK libCf1 := .cons okCf1 libUk_ok
def CCf2 : Cfg := { cs := libCf1 }
theorem CCf2_ok : CfgOK CCf2 := { con := libCf1_ok }
def RCf2 (a0 : List GLink) (a1 : Unit) : Option (Res At) :=
  if cIl a0 () = true then
   some ((.bool (decide (vIl a0 () ≥ 0))), [])
  else
   none
theorem run_RCf2 (a0 : List GLink) (a1 : Unit) : runF CCf2 80 51 [.ro 55 a0, .fn 52 []] = RCf2 a0 a1 := by kernel_rfl
def oCf2 (a0 : List GLink) (a1 : Unit) : Option (Res At) := crR [none] (RCf2 a0 a1)
def vCf2 (a0 : List GLink) (a1 : Unit) : Bool := valO rB false (oCf2 a0 a1)
def cCf2 (a0 : List GLink) (a1 : Unit) : Bool := okO rB (oCf2 a0 a1)
def conCf2 : CON := on2 (rR 55) (rF0 52) fun a0 a1 => some (cCf2 a0 a1, (.bool (vCf2 a0 a1), []))
theorem okCf2 : OK 51 conCf2 := okc2 CCf2_ok (n := 80) (ts := [none]) (a := (rR 55)) (b := (rF0 52)) (r := rB) (d := false) (R := fun a0 a1 => RCf2 a0 a1) (by kernel_rfl) fun a0 a1 => run_RCf2 a0 a1
def libCf2 : List (Nat × CON) := (51, conCf2) :: libCf1
theorem libCf2_ok : AllOK libCf2 := .cons okCf2 libCf1_ok
def CCf3 : Cfg := { cs := libCf2 }
theorem CCf3_ok : CfgOK CCf3 := { con := libCf2_ok }
def RCf3 (a0 : List GDrive) (a1 : Unit) : Option (Res At) :=
  if cId1 a0 () = true then
   some ((.bool (decide (vId1 a0 () ≥ 0))), [])
  else
   none
theorem run_RCf3 (a0 : List GDrive) (a1 : Unit) : runF CCf3 80 54 [.ro 89 a0, .fn 55 []] = RCf3 a0 a1 := by kernel_rfl
def oCf3 (a0 : List GDrive) (a1 : Unit) : Option (Res At) := crR [none] (RCf3 a0 a1)
def vCf3 (a0 : List GDrive) (a1 : Unit) : Bool := valO rB false (oCf3 a0 a1)
def cCf3 (a0 : List GDrive) (a1 : Unit) : Bool := okO rB (oCf3 a0 a1)
def conCf3 : CON := on2 (rR 89) (rF0 55) fun a0 a1 => some (cCf3 a0 a1, (.bool (vCf3 a0 a1), []))
theorem okCf3 : OK 54 conCf3 := okc2 CCf3_ok (n := 80) (ts := [none]) (a := (rR 89)) (b := (rF0 55)) (r := rB) (d := false) (R := fun a0 a1 => RCf3 a0 a1) (by kernel_rfl) fun a0 a1 => run_RCf3 a0 a1
def libCf3 : List (Nat × CON) := (54, conCf3) :: libCf2
theorem libCf3_ok : AllOK libCf3 := .cons okCf3 libCf2_ok
structure KCk28 where
  x0 : List GPoint
  x4 : Int
  x102 : List GDrive
  x103 : Int
  x104 : Int
structure ECk28 where
  x4 : Int
def SCk28 (k : KCk28) : St At := { env := [(0, .ro 66 k.x0), (4, .int .i64 k.x4), (102, .ro 89 k.x102), (103, .int .i64 k.x103), (104, .int .i64 k.x104)], stk := [], hp := [], nx := 0 }
def XCk28 (k : ECk28) : St At := { env := [(4, .int .i64 k.x4)], stk := [], hp := [], nx := 0 }
def CCk28 : Cfg := { cs := libCf3, ks := [((15, 28), [(0, none), (4, none), (102, none), (103, none), (104, none)])], xs := [((15, 28), [(4, none)])], lps := [] }
theorem CCk28_ok : CfgOK CCk28 := { con := libCf3_ok }
def stCk28 {α : Type} (k : KCk28) (go : KCk28 → α) (ex ret : ECk28 → α) (no : α) : α :=
  if decide (k.x104 < k.x103) = true then
   if 0 ≤ k.x104 then
    if k.x104 < (↑k.x102.length : Int) then
     if cIp2 k.x0 (gt { point := { data := #[] : ByteArray }, level := 0, from_ := { node := { data := #[] : ByteArray }, port := 0, point := { data := #[] : ByteArray }, const := { kind := 0, n := 0 : GValue }, delayed := false, initial := { kind := 0, n := 0 : GValue } : GLink } : GDrive } k.x102 k.x104.toNat) = true then
      if 0 ≤ vIp2 k.x0 (gt { point := { data := #[] : ByteArray }, level := 0, from_ := { node := { data := #[] : ByteArray }, port := 0, point := { data := #[] : ByteArray }, const := { kind := 0, n := 0 : GValue }, delayed := false, initial := { kind := 0, n := 0 : GValue } : GLink } : GDrive } k.x102 k.x104.toNat) then
       if vIp2 k.x0 (gt { point := { data := #[] : ByteArray }, level := 0, from_ := { node := { data := #[] : ByteArray }, port := 0, point := { data := #[] : ByteArray }, const := { kind := 0, n := 0 : GValue }, delayed := false, initial := { kind := 0, n := 0 : GValue } : GLink } : GDrive } k.x102 k.x104.toNat) < (↑k.x0.length : Int) then
        if cCm (gt { name := { data := #[] : ByteArray }, kind := 0, role := 0, unit_ := { data := #[] : ByteArray }, low := 0, high := 0, step := 0, states := [], default_ := { kind := 0, n := 0 : GValue }, minOn := 0, minOff := 0 : GPoint } k.x0 (vIp2 k.x0 (gt { point := { data := #[] : ByteArray }, level := 0, from_ := { node := { data := #[] : ByteArray }, port := 0, point := { data := #[] : ByteArray }, const := { kind := 0, n := 0 : GValue }, delayed := false, initial := { kind := 0, n := 0 : GValue } : GLink } : GDrive } k.x102 k.x104.toNat)).toNat) = true then
         if (!vCm (gt { name := { data := #[] : ByteArray }, kind := 0, role := 0, unit_ := { data := #[] : ByteArray }, low := 0, high := 0, step := 0, states := [], default_ := { kind := 0, n := 0 : GValue }, minOn := 0, minOff := 0 : GPoint } k.x0 (vIp2 k.x0 (gt { point := { data := #[] : ByteArray }, level := 0, from_ := { node := { data := #[] : ByteArray }, port := 0, point := { data := #[] : ByteArray }, const := { kind := 0, n := 0 : GValue }, delayed := false, initial := { kind := 0, n := 0 : GValue } : GLink } : GDrive } k.x102 k.x104.toNat)).toNat)) = true then
          ret ⟨(11)⟩
         else
          go ⟨(k.x0), (k.x4), (k.x102), (k.x103), (IntKind.i64.wrap (k.x104 + 1))⟩
        else
         no
       else
        no
      else
       no
     else
      no
    else
     no
   else
    no
  else
   ex ⟨(k.x4)⟩
def stepCk28 (k : KCk28) : Nx KCk28 ECk28 := stCk28 k .go .ex .ret .no
theorem BCk28 (k : KCk28) (m : Nat) (R : St At → Option (Res At)) (K : Xit → St At → Option (Res At)) : B CCk28 15 28 (m + 60) (SCk28 k) R K = stCk28 k (fun k => R (SCk28 k)) (fun x => K (.ex 5) (XCk28 x)) (fun x => K .ret (XCk28 x)) none := by kernel_rfl
def uCk28 (st : St At) : Option KCk28 := match st with
  | ⟨[(0, vx0), (4, .int .i64 x4), (102, vx102), (103, .int .i64 x103), (104, .int .i64 x104)], [], [], 0⟩ => (match roV 66 vx0, roV 89 vx102 with | some x0, some x102 => some ⟨x0, x4, x102, x103, x104⟩ | _, _ => none)
  | _ => none
theorem uCk28_spec {st : St At} {k : KCk28} (h : uCk28 st = some k) : st = SCk28 k := by
  unfold uCk28 at h
  split at h
  · split at h
    · rename_i h0 h1
      obtain rfl := Option.some.inj h
      rw [roV_spec h0, roV_spec h1]
      rfl
    · cases h
  · cases h
theorem oklCk28 {g : LP} (hg : ∀ st K q, g st K = some q → ∃ k n e, st = SCk28 k ∧ iter stepCk28 n k = some e ∧ e.k 5 XCk28 XCk28 K = some q) : OKL 15 28 g := okl_iter CCk28_ok (S := SCk28) (X := XCk28) (Y := XCk28) (step := stepCk28) (id := 5) (by kernel_rfl) (by kernel_rfl)
  (fun k m R K => by rw [BCk28]; unfold stepCk28 stCk28; simp only [Nx.k_ite]; rfl) (fun k => by kernel_rfl) hg
/-- the contract out of a closed form -/
theorem okfCk28 {g : LP} {fuel : KCk28 → Nat} {ok : KCk28 → Bool} {F : KCk28 → Fx ECk28} (hF : ∀ k, ok k = true → iter stepCk28 (fuel k) k = some (F k)) (hg : ∀ st K, g st K = (match uCk28 st with | some k => if ok k = true then (F k).k 5 XCk28 XCk28 K else none | none => none)) : OKL 15 28 g := oklCk28 fun st K q h => by
  rw [hg] at h
  split at h
  · rename_i k hu
    split at h
    · rename_i hok; exact ⟨k, _, _, uCk28_spec hu, hF k hok, h⟩
    · cases h
  · cases h
abbrev B_Ck28 := Unit
def fCk28 (k : KCk28) (b : B_Ck28) (x : GDrive) : Option (B_Ck28 ⊕ ECk28) :=
  if cIp2 k.x0 x = true then
   if 0 ≤ vIp2 k.x0 x then
    if vIp2 k.x0 x < (↑k.x0.length : Int) then
     if cCm (gt { name := { data := #[] : ByteArray }, kind := 0, role := 0, unit_ := { data := #[] : ByteArray }, low := 0, high := 0, step := 0, states := [], default_ := { kind := 0, n := 0 : GValue }, minOn := 0, minOff := 0 : GPoint } k.x0 (vIp2 k.x0 x).toNat) = true then
      if (!vCm (gt { name := { data := #[] : ByteArray }, kind := 0, role := 0, unit_ := { data := #[] : ByteArray }, low := 0, high := 0, step := 0, states := [], default_ := { kind := 0, n := 0 : GValue }, minOn := 0, minOff := 0 : GPoint } k.x0 (vIp2 k.x0 x).toNat)) = true then
       some (.inr ⟨(11)⟩)
      else
       some (.inl ())
     else
      none
    else
     none
   else
    none
  else
   none
def xCk28 (k : KCk28) (b : B_Ck28) : ECk28 := ⟨(k.x4)⟩
def putCk28 (k : KCk28) (b : B_Ck28) (j : Nat) : KCk28 := ⟨k.x0, k.x4, k.x102, k.x103, (j : Int)⟩
def bCk28 (k : KCk28) : B_Ck28 := ()
def oCk28 (k : KCk28) : Option (B_Ck28 ⊕ ECk28) := scanO (fCk28 k) (bCk28 k) k.x102
def okCk28 (k : KCk28) : Bool := decide (k.x104 = 0) && (decide (k.x103 = (k.x102.length : Int)) && (Nat.ble k.x102.length 9223372036854775807 && isOO (oCk28 k)))
def FCk28 (k : KCk28) : Fx ECk28 := fxO (xCk28 k) (bCk28 k) (xCk28 k (bCk28 k)) (oCk28 k)
theorem sCk28 (k : KCk28) (hn : k.x103 = (k.x102.length : Int)) (hm : k.x102.length ≤ 9223372036854775807) (b : B_Ck28) (j : Nat) (h : j < k.x102.length) : stepCk28 (putCk28 k b j) = nxO (fun b' => putCk28 k b' (j + 1)) (fCk28 k b k.x102[j]) := by
  unfold stepCk28 stCk28 fCk28 putCk28
  dsimp only
  simp only [hn, nxO_ite, cnt' h hm, gtj' _ _ _ h, if_pos (lt1' h), if_pos (lt0' (j := j)), if_pos (lt2' h)]
  rfl
theorem eCk28 (k : KCk28) (hn : k.x103 = (k.x102.length : Int)) (b : B_Ck28) : stepCk28 (putCk28 k b k.x102.length) = .ex (xCk28 k b) := by
  unfold stepCk28 stCk28 putCk28
  dsimp only
  rw [hn, if_neg lt3']
  rfl
theorem iCk28 (k : KCk28) (h : okCk28 k = true) : iter stepCk28 (k.x102).length k = some (FCk28 k) := by
  unfold okCk28 at h
  simp only [Bool.and_eq_true, decide_eq_true_eq] at h
  obtain ⟨h0, h1, h2, h3⟩ := h
  replace h2 := Nat.le_of_ble_eq_true h2
  have e : k = putCk28 k (bCk28 k) 0 := by cases k; dsimp only at h0; subst h0; rfl
  have := iter_scanO (step := stepCk28) k.x102 (putCk28 k) (fCk28 k) (xCk28 k) (bCk28 k) (xCk28 k (bCk28 k)) (fun b j h => sCk28 k h1 h2 b j h) (fun b => eCk28 k h1 b) k.x102.length 0 (bCk28 k) (by simp) (by rw [List.drop_zero]; exact h3)
  rw [List.drop_zero, ← e] at this
  exact this
def gCk28 : LP := fun st K => match uCk28 st with | some k => if okCk28 k = true then (if isLO (oCk28 k) = true then K (.ex 5) (XCk28 (⟨(k.x4)⟩ : ECk28)) else K .ret (XCk28 (getRO (xCk28 k (bCk28 k)) (oCk28 k)))) else none | none => none
theorem okgCk28 : OKL 15 28 gCk28 := okfCk28 (fuel := fun k => (k.x102).length) (ok := okCk28) (F := FCk28) iCk28 fun st K => by
  unfold gCk28
  cases hu : uCk28 st with
  | none => rfl
  | some k =>
    dsimp only
    split
    · unfold FCk28 fxO
      cases isLO (oCk28 k) <;> rfl
    · rfl
structure KCk21 where
  x0 : List GPoint
  x3 : GProgram
  x4 : Int
  x83 : List GNode
  x84 : Int
  x85 : Int
structure ECk21 where
  x0 : List GPoint
  x3 : GProgram
  x4 : Int
def SCk21 (k : KCk21) : St At := { env := [(0, .ro 66 k.x0), (3, .ptr 0 0), (4, .int .i64 k.x4), (83, .ro 58 k.x83), (84, .int .i64 k.x84), (85, .int .i64 k.x85)], stk := [], hp := [(0, .var (enc31 k.x3) false)], nx := 1 }
def XCk21 (k : ECk21) : St At := { env := [(0, .ro 66 k.x0), (3, .ptr 0 0), (4, .int .i64 k.x4)], stk := [], hp := [(0, .var (enc31 k.x3) false)], nx := 1 }
def CCk21 : Cfg := { cs := libCf3, ks := [((15, 21), [(0, none), (3, none), (4, none), (83, none), (84, none), (85, none)])], xs := [((15, 21), [(0, none), (3, none), (4, none)])], lps := [] }
theorem CCk21_ok : CfgOK CCk21 := { con := libCf3_ok }
def stCk21 {α : Type} (k : KCk21) (go : KCk21 → α) (ex ret : ECk21 → α) (no : α) : α :=
  if decide (k.x85 < k.x84) = true then
   if 0 ≤ k.x85 then
    if k.x85 < (↑k.x83.length : Int) then
     if andP (((gt { name := { data := #[] : ByteArray }, block := { data := #[] : ByteArray }, params := [], inputs := [] : GNode } k.x83 k.x85.toNat).block.size + 1).blt 4611686018427387904) ((gt { name := { data := #[] : ByteArray }, block := { data := #[] : ByteArray }, params := [], inputs := [] : GNode } k.x83 k.x85.toNat).params.length.ble 9223372036854775807) = true then
      if (!decide ((parE (findD (gt { name := { data := #[] : ByteArray }, block := { data := #[] : ByteArray }, params := [], inputs := [] : GNode } k.x83 k.x85.toNat).block libL) (gt { name := { data := #[] : ByteArray }, block := { data := #[] : ByteArray }, params := [], inputs := [] : GNode } k.x83 k.x85.toNat).block (gt { name := { data := #[] : ByteArray }, block := { data := #[] : ByteArray }, params := [], inputs := [] : GNode } k.x83 k.x85.toNat).params).snd = 0)) = true then
       ret ⟨(k.x0), (k.x3), ((parE (findD (gt { name := { data := #[] : ByteArray }, block := { data := #[] : ByteArray }, params := [], inputs := [] : GNode } k.x83 k.x85.toNat).block libL) (gt { name := { data := #[] : ByteArray }, block := { data := #[] : ByteArray }, params := [], inputs := [] : GNode } k.x83 k.x85.toNat).block (gt { name := { data := #[] : ByteArray }, block := { data := #[] : ByteArray }, params := [], inputs := [] : GNode } k.x83 k.x85.toNat).params).snd)⟩
      else
       go ⟨(k.x0), (k.x3), (k.x4), (k.x83), (k.x84), (IntKind.i64.wrap (k.x85 + 1))⟩
     else
      no
    else
     no
   else
    no
  else
   ex ⟨(k.x0), (k.x3), (k.x4)⟩
def stepCk21 (k : KCk21) : Nx KCk21 ECk21 := stCk21 k .go .ex .ret .no
theorem BCk21 (k : KCk21) (m : Nat) (R : St At → Option (Res At)) (K : Xit → St At → Option (Res At)) : B CCk21 15 21 (m + 60) (SCk21 k) R K = stCk21 k (fun k => R (SCk21 k)) (fun x => K (.ex 3) (XCk21 x)) (fun x => K .ret (XCk21 x)) none := by kernel_rfl
def uCk21 (st : St At) : Option KCk21 := match st with
  | ⟨[(0, vx0), (3, .ptr 0 0), (4, .int .i64 x4), (83, vx83), (84, .int .i64 x84), (85, .int .i64 x85)], [], [(0, .var wx3 false)], 1⟩ => (match roV 66 vx0, ex31 wx3, roV 58 vx83 with | some x0, some x3, some x83 => some ⟨x0, x3, x4, x83, x84, x85⟩ | _, _, _ => none)
  | _ => none
theorem uCk21_spec {st : St At} {k : KCk21} (h : uCk21 st = some k) : st = SCk21 k := by
  unfold uCk21 at h
  split at h
  · split at h
    · rename_i h0 h1 h2
      obtain rfl := Option.some.inj h
      rw [roV_spec h0, ex31_spec h1, roV_spec h2]
      rfl
    · cases h
  · cases h
theorem oklCk21 {g : LP} (hg : ∀ st K q, g st K = some q → ∃ k n e, st = SCk21 k ∧ iter stepCk21 n k = some e ∧ e.k 3 XCk21 XCk21 K = some q) : OKL 15 21 g := okl_iter CCk21_ok (S := SCk21) (X := XCk21) (Y := XCk21) (step := stepCk21) (id := 3) (by kernel_rfl) (by kernel_rfl)
  (fun k m R K => by rw [BCk21]; unfold stepCk21 stCk21; simp only [Nx.k_ite]; rfl) (fun k => by kernel_rfl) hg
/-- the contract out of a closed form -/
theorem okfCk21 {g : LP} {fuel : KCk21 → Nat} {ok : KCk21 → Bool} {F : KCk21 → Fx ECk21} (hF : ∀ k, ok k = true → iter stepCk21 (fuel k) k = some (F k)) (hg : ∀ st K, g st K = (match uCk21 st with | some k => if ok k = true then (F k).k 3 XCk21 XCk21 K else none | none => none)) : OKL 15 21 g := oklCk21 fun st K q h => by
  rw [hg] at h
  split at h
  · rename_i k hu
    split at h
    · rename_i hok; exact ⟨k, _, _, uCk21_spec hu, hF k hok, h⟩
    · cases h
  · cases h
abbrev B_Ck21 := Unit
def fCk21 (k : KCk21) (b : B_Ck21) (x : GNode) : Option (B_Ck21 ⊕ ECk21) :=
  if andP ((x.block.size + 1).blt 4611686018427387904) (x.params.length.ble 9223372036854775807) = true then
   if (!decide ((parE (findD x.block libL) x.block x.params).snd = 0)) = true then
    some (.inr ⟨(k.x0), (k.x3), ((parE (findD x.block libL) x.block x.params).snd)⟩)
   else
    some (.inl ())
  else
   none
def xCk21 (k : KCk21) (b : B_Ck21) : ECk21 := ⟨(k.x0), (k.x3), (k.x4)⟩
def putCk21 (k : KCk21) (b : B_Ck21) (j : Nat) : KCk21 := ⟨k.x0, k.x3, k.x4, k.x83, k.x84, (j : Int)⟩
def bCk21 (k : KCk21) : B_Ck21 := ()
def oCk21 (k : KCk21) : Option (B_Ck21 ⊕ ECk21) := scanO (fCk21 k) (bCk21 k) k.x83
def okCk21 (k : KCk21) : Bool := decide (k.x85 = 0) && (decide (k.x84 = (k.x83.length : Int)) && (Nat.ble k.x83.length 9223372036854775807 && isOO (oCk21 k)))
def FCk21 (k : KCk21) : Fx ECk21 := fxO (xCk21 k) (bCk21 k) (xCk21 k (bCk21 k)) (oCk21 k)
theorem sCk21 (k : KCk21) (hn : k.x84 = (k.x83.length : Int)) (hm : k.x83.length ≤ 9223372036854775807) (b : B_Ck21) (j : Nat) (h : j < k.x83.length) : stepCk21 (putCk21 k b j) = nxO (fun b' => putCk21 k b' (j + 1)) (fCk21 k b k.x83[j]) := by
  unfold stepCk21 stCk21 fCk21 putCk21
  dsimp only
  simp only [hn, nxO_ite, cnt' h hm, gtj' _ _ _ h, if_pos (lt1' h), if_pos (lt0' (j := j)), if_pos (lt2' h)]
  rfl
theorem eCk21 (k : KCk21) (hn : k.x84 = (k.x83.length : Int)) (b : B_Ck21) : stepCk21 (putCk21 k b k.x83.length) = .ex (xCk21 k b) := by
  unfold stepCk21 stCk21 putCk21
  dsimp only
  rw [hn, if_neg lt3']
  rfl
theorem iCk21 (k : KCk21) (h : okCk21 k = true) : iter stepCk21 (k.x83).length k = some (FCk21 k) := by
  unfold okCk21 at h
  simp only [Bool.and_eq_true, decide_eq_true_eq] at h
  obtain ⟨h0, h1, h2, h3⟩ := h
  replace h2 := Nat.le_of_ble_eq_true h2
  have e : k = putCk21 k (bCk21 k) 0 := by cases k; dsimp only at h0; subst h0; rfl
  have := iter_scanO (step := stepCk21) k.x83 (putCk21 k) (fCk21 k) (xCk21 k) (bCk21 k) (xCk21 k (bCk21 k)) (fun b j h => sCk21 k h1 h2 b j h) (fun b => eCk21 k h1 b) k.x83.length 0 (bCk21 k) (by simp) (by rw [List.drop_zero]; exact h3)
  rw [List.drop_zero, ← e] at this
  exact this
def gCk21 : LP := fun st K => match uCk21 st with | some k => if okCk21 k = true then (if isLO (oCk21 k) = true then K (.ex 3) (XCk21 (⟨(k.x0), (k.x3), (k.x4)⟩ : ECk21)) else K .ret (XCk21 (getRO (xCk21 k (bCk21 k)) (oCk21 k)))) else none | none => none
theorem okgCk21 : OKL 15 21 gCk21 := okfCk21 (fuel := fun k => (k.x83).length) (ok := okCk21) (F := FCk21) iCk21 fun st K => by
  unfold gCk21
  cases hu : uCk21 st with
  | none => rfl
  | some k =>
    dsimp only
    split
    · unfold FCk21 fxO
      cases isLO (oCk21 k) <;> rfl
    · rfl
structure KCk14 where
  x0 : List GPoint
  x3 : GProgram
  x4 : Int
  x63 : List GNode
  x64 : Int
  x65 : Int
structure ECk14 where
  x0 : List GPoint
  x3 : GProgram
  x4 : Int
def SCk14 (k : KCk14) : St At := { env := [(0, .ro 66 k.x0), (3, .ptr 0 0), (4, .int .i64 k.x4), (63, .ro 58 k.x63), (64, .int .i64 k.x64), (65, .int .i64 k.x65)], stk := [], hp := [(0, .var (enc31 k.x3) false)], nx := 1 }
def XCk14 (k : ECk14) : St At := { env := [(0, .ro 66 k.x0), (3, .ptr 0 0), (4, .int .i64 k.x4)], stk := [], hp := [(0, .var (enc31 k.x3) false)], nx := 1 }
def CCk14 : Cfg := { cs := libCf3, ks := [((15, 14), [(0, none), (3, none), (4, none), (63, none), (64, none), (65, none)])], xs := [((15, 14), [(0, none), (3, none), (4, none)])], lps := [] }
theorem CCk14_ok : CfgOK CCk14 := { con := libCf3_ok }
def stCk14 {α : Type} (k : KCk14) (go : KCk14 → α) (ex ret : ECk14 → α) (no : α) : α :=
  if decide (k.x65 < k.x64) = true then
   if 0 ≤ k.x65 then
    if k.x65 < (↑k.x63.length : Int) then
     if ((gt { name := { data := #[] : ByteArray }, block := { data := #[] : ByteArray }, params := [], inputs := [] : GNode } k.x63 k.x65.toNat).block.size + 1).blt 4611686018427387904 = true then
      if (!decide ((inpR (findD (gt { name := { data := #[] : ByteArray }, block := { data := #[] : ByteArray }, params := [], inputs := [] : GNode } k.x63 k.x65.toNat).block libL) (↑(gt { name := { data := #[] : ByteArray }, block := { data := #[] : ByteArray }, params := [], inputs := [] : GNode } k.x63 k.x65.toNat).inputs.length : Int)).snd = 0)) = true then
       ret ⟨(k.x0), (k.x3), ((inpR (findD (gt { name := { data := #[] : ByteArray }, block := { data := #[] : ByteArray }, params := [], inputs := [] : GNode } k.x63 k.x65.toNat).block libL) (↑(gt { name := { data := #[] : ByteArray }, block := { data := #[] : ByteArray }, params := [], inputs := [] : GNode } k.x63 k.x65.toNat).inputs.length : Int)).snd)⟩
      else
       go ⟨(k.x0), (k.x3), (k.x4), (k.x63), (k.x64), (IntKind.i64.wrap (k.x65 + 1))⟩
     else
      no
    else
     no
   else
    no
  else
   ex ⟨(k.x0), (k.x3), (k.x4)⟩
def stepCk14 (k : KCk14) : Nx KCk14 ECk14 := stCk14 k .go .ex .ret .no
theorem BCk14 (k : KCk14) (m : Nat) (R : St At → Option (Res At)) (K : Xit → St At → Option (Res At)) : B CCk14 15 14 (m + 60) (SCk14 k) R K = stCk14 k (fun k => R (SCk14 k)) (fun x => K (.ex 1) (XCk14 x)) (fun x => K .ret (XCk14 x)) none := by kernel_rfl
def uCk14 (st : St At) : Option KCk14 := match st with
  | ⟨[(0, vx0), (3, .ptr 0 0), (4, .int .i64 x4), (63, vx63), (64, .int .i64 x64), (65, .int .i64 x65)], [], [(0, .var wx3 false)], 1⟩ => (match roV 66 vx0, ex31 wx3, roV 58 vx63 with | some x0, some x3, some x63 => some ⟨x0, x3, x4, x63, x64, x65⟩ | _, _, _ => none)
  | _ => none
theorem uCk14_spec {st : St At} {k : KCk14} (h : uCk14 st = some k) : st = SCk14 k := by
  unfold uCk14 at h
  split at h
  · split at h
    · rename_i h0 h1 h2
      obtain rfl := Option.some.inj h
      rw [roV_spec h0, ex31_spec h1, roV_spec h2]
      rfl
    · cases h
  · cases h
theorem oklCk14 {g : LP} (hg : ∀ st K q, g st K = some q → ∃ k n e, st = SCk14 k ∧ iter stepCk14 n k = some e ∧ e.k 1 XCk14 XCk14 K = some q) : OKL 15 14 g := okl_iter CCk14_ok (S := SCk14) (X := XCk14) (Y := XCk14) (step := stepCk14) (id := 1) (by kernel_rfl) (by kernel_rfl)
  (fun k m R K => by rw [BCk14]; unfold stepCk14 stCk14; simp only [Nx.k_ite]; rfl) (fun k => by kernel_rfl) hg
/-- the contract out of a closed form -/
theorem okfCk14 {g : LP} {fuel : KCk14 → Nat} {ok : KCk14 → Bool} {F : KCk14 → Fx ECk14} (hF : ∀ k, ok k = true → iter stepCk14 (fuel k) k = some (F k)) (hg : ∀ st K, g st K = (match uCk14 st with | some k => if ok k = true then (F k).k 1 XCk14 XCk14 K else none | none => none)) : OKL 15 14 g := oklCk14 fun st K q h => by
  rw [hg] at h
  split at h
  · rename_i k hu
    split at h
    · rename_i hok; exact ⟨k, _, _, uCk14_spec hu, hF k hok, h⟩
    · cases h
  · cases h
abbrev B_Ck14 := Unit
def fCk14 (k : KCk14) (b : B_Ck14) (x : GNode) : Option (B_Ck14 ⊕ ECk14) :=
  if (x.block.size + 1).blt 4611686018427387904 = true then
   if (!decide ((inpR (findD x.block libL) (↑x.inputs.length : Int)).snd = 0)) = true then
    some (.inr ⟨(k.x0), (k.x3), ((inpR (findD x.block libL) (↑x.inputs.length : Int)).snd)⟩)
   else
    some (.inl ())
  else
   none
def xCk14 (k : KCk14) (b : B_Ck14) : ECk14 := ⟨(k.x0), (k.x3), (k.x4)⟩
def putCk14 (k : KCk14) (b : B_Ck14) (j : Nat) : KCk14 := ⟨k.x0, k.x3, k.x4, k.x63, k.x64, (j : Int)⟩
def bCk14 (k : KCk14) : B_Ck14 := ()
def oCk14 (k : KCk14) : Option (B_Ck14 ⊕ ECk14) := scanO (fCk14 k) (bCk14 k) k.x63
def okCk14 (k : KCk14) : Bool := decide (k.x65 = 0) && (decide (k.x64 = (k.x63.length : Int)) && (Nat.ble k.x63.length 9223372036854775807 && isOO (oCk14 k)))
def FCk14 (k : KCk14) : Fx ECk14 := fxO (xCk14 k) (bCk14 k) (xCk14 k (bCk14 k)) (oCk14 k)
theorem sCk14 (k : KCk14) (hn : k.x64 = (k.x63.length : Int)) (hm : k.x63.length ≤ 9223372036854775807) (b : B_Ck14) (j : Nat) (h : j < k.x63.length) : stepCk14 (putCk14 k b j) = nxO (fun b' => putCk14 k b' (j + 1)) (fCk14 k b k.x63[j]) := by
  unfold stepCk14 stCk14 fCk14 putCk14
  dsimp only
  simp only [hn, nxO_ite, cnt' h hm, gtj' _ _ _ h, if_pos (lt1' h), if_pos (lt0' (j := j)), if_pos (lt2' h)]
  rfl
theorem eCk14 (k : KCk14) (hn : k.x64 = (k.x63.length : Int)) (b : B_Ck14) : stepCk14 (putCk14 k b k.x63.length) = .ex (xCk14 k b) := by
  unfold stepCk14 stCk14 putCk14
  dsimp only
  rw [hn, if_neg lt3']
  rfl
theorem iCk14 (k : KCk14) (h : okCk14 k = true) : iter stepCk14 (k.x63).length k = some (FCk14 k) := by
  unfold okCk14 at h
  simp only [Bool.and_eq_true, decide_eq_true_eq] at h
  obtain ⟨h0, h1, h2, h3⟩ := h
  replace h2 := Nat.le_of_ble_eq_true h2
  have e : k = putCk14 k (bCk14 k) 0 := by cases k; dsimp only at h0; subst h0; rfl
  have := iter_scanO (step := stepCk14) k.x63 (putCk14 k) (fCk14 k) (xCk14 k) (bCk14 k) (xCk14 k (bCk14 k)) (fun b j h => sCk14 k h1 h2 b j h) (fun b => eCk14 k h1 b) k.x63.length 0 (bCk14 k) (by simp) (by rw [List.drop_zero]; exact h3)
  rw [List.drop_zero, ← e] at this
  exact this
def gCk14 : LP := fun st K => match uCk14 st with | some k => if okCk14 k = true then (if isLO (oCk14 k) = true then K (.ex 1) (XCk14 (⟨(k.x0), (k.x3), (k.x4)⟩ : ECk14)) else K .ret (XCk14 (getRO (xCk14 k (bCk14 k)) (oCk14 k)))) else none | none => none
theorem okgCk14 : OKL 15 14 gCk14 := okfCk14 (fuel := fun k => (k.x63).length) (ok := okCk14) (F := FCk14) iCk14 fun st K => by
  unfold gCk14
  cases hu : uCk14 st with
  | none => rfl
  | some k =>
    dsimp only
    split
    · unfold FCk14 fxO
      cases isLO (oCk14 k) <;> rfl
    · rfl
def CCk : Cfg := { cs := libCf3, ks := CCk28.ks ++ CCk21.ks ++ CCk14.ks, xs := CCk28.xs ++ CCk21.xs ++ CCk14.xs, lps := [((15, 28), gCk28), ((15, 21), gCk21), ((15, 14), gCk14)] }
theorem CCk_ok : CfgOK CCk := { con := libCf3_ok, lp := .cons okgCk28 (.cons okgCk21 (.cons okgCk14 .nil)) }
def RCk (a0 : List GPoint) (a1 : GProgram) : Option (Res At) :=
  if decide ((↑a1.nodes.length : Int) > 64) = false then
   if decide ((↑a1.drives.length : Int) > 256) = true then
    some ((.int .i64 7), [])
   else
    if cNm a1.name = true then
     if (!vNm a1.name) = false then
      if cCf1 a1.nodes () = true then
       if vCf1 a1.nodes () = true then
        some ((.int .i64 4), [])
       else
        if cLk a1 = true then
         if cCf2 (vLk a1) () = true then
          if vCf2 (vLk a1) () = true then
           some ((.int .i64 1), [])
          else
           if decide (a1.period < 1) = false then
            if decide (a1.period > 86400) = false then
             if cCf3 a1.drives () = true then
              if vCf3 a1.drives () = true then
               some ((.int .i64 6), [])
              else
               if cTw a1 = true then
                if vTw a1 = true then
                 some ((.int .i64 5), [])
                else
                 if cUk a0 a1 = true then
                  if vUk a0 a1 = true then
                   some ((.int .i64 3), [])
                  else
                   if okCk14 { x0 := a0, x3 := a1, x4 := 0, x63 := a1.nodes, x64 := (↑a1.nodes.length : Int), x65 := 0 : KCk14 } = true then
                    if isLO (oCk14 { x0 := a0, x3 := a1, x4 := 0, x63 := a1.nodes, x64 := (↑a1.nodes.length : Int), x65 := 0 : KCk14 }) = true then
                     if okCk21 { x0 := a0, x3 := a1, x4 := 0, x83 := a1.nodes, x84 := (↑a1.nodes.length : Int), x85 := 0 : KCk21 } = true then
                      if isLO (oCk21 { x0 := a0, x3 := a1, x4 := 0, x83 := a1.nodes, x84 := (↑a1.nodes.length : Int), x85 := 0 : KCk21 }) = true then
                       if okCk28 { x0 := a0, x4 := 0, x102 := a1.drives, x103 := (↑a1.drives.length : Int), x104 := 0 : KCk28 } = true then
                        if isLO (oCk28 { x0 := a0, x4 := 0, x102 := a1.drives, x103 := (↑a1.drives.length : Int), x104 := 0 : KCk28 }) = true then
                         some ((.int .i64 0), [])
                        else
                         some ((.int .i64 ((getRO (xCk28 { x0 := a0, x4 := 0, x102 := a1.drives, x103 := (↑a1.drives.length : Int), x104 := 0 : KCk28 } (bCk28 { x0 := a0, x4 := 0, x102 := a1.drives, x103 := (↑a1.drives.length : Int), x104 := 0 : KCk28 })) (oCk28 { x0 := a0, x4 := 0, x102 := a1.drives, x103 := (↑a1.drives.length : Int), x104 := 0 : KCk28 })).x4)), [])
                       else
                        none
                      else
                       some ((.int .i64 ((getRO (xCk21 { x0 := a0, x3 := a1, x4 := 0, x83 := a1.nodes, x84 := (↑a1.nodes.length : Int), x85 := 0 : KCk21 } (bCk21 { x0 := a0, x3 := a1, x4 := 0, x83 := a1.nodes, x84 := (↑a1.nodes.length : Int), x85 := 0 : KCk21 })) (oCk21 { x0 := a0, x3 := a1, x4 := 0, x83 := a1.nodes, x84 := (↑a1.nodes.length : Int), x85 := 0 : KCk21 })).x4)), [])
                     else
                      none
                    else
                     some ((.int .i64 ((getRO (xCk14 { x0 := a0, x3 := a1, x4 := 0, x63 := a1.nodes, x64 := (↑a1.nodes.length : Int), x65 := 0 : KCk14 } (bCk14 { x0 := a0, x3 := a1, x4 := 0, x63 := a1.nodes, x64 := (↑a1.nodes.length : Int), x65 := 0 : KCk14 })) (oCk14 { x0 := a0, x3 := a1, x4 := 0, x63 := a1.nodes, x64 := (↑a1.nodes.length : Int), x65 := 0 : KCk14 })).x4)), [])
                   else
                    none
                 else
                  none
               else
                none
             else
              none
            else
             some ((.int .i64 6), [])
           else
            some ((.int .i64 6), [])
         else
          none
        else
         none
      else
       none
     else
      some ((.int .i64 4), [])
    else
     none
  else
   some ((.int .i64 7), [])
theorem run_RCk (a0 : List GPoint) (a1 : GProgram) : runF CCk 80 15 [.ro 66 a0, .agg (enc31 a1)] = RCk a0 a1 := by kernel_rfl
def oCk (a0 : List GPoint) (a1 : GProgram) : Option (Res At) := crR [none] (RCk a0 a1)
def vCk (a0 : List GPoint) (a1 : GProgram) : Int := valO (rI .i64) 0 (oCk a0 a1)
def cCk (a0 : List GPoint) (a1 : GProgram) : Bool := okO (rI .i64) (oCk a0 a1)
def conCk : CON := on2 (rR 66) (rA ex31 enc31 fun _ _ h => ex31_spec h) fun a0 a1 => some (cCk a0 a1, (.int .i64 (vCk a0 a1), []))
theorem okCk : OK 15 conCk := okc2 CCk_ok (n := 80) (ts := [none]) (a := (rR 66)) (b := (rA ex31 enc31 fun _ _ h => ex31_spec h)) (r := (rI .i64)) (d := 0) (R := fun a0 a1 => RCk a0 a1) (by kernel_rfl) fun a0 a1 => run_RCk a0 a1
def libCk : List (Nat × CON) := (15, conCk) :: libCf3
theorem libCk_ok : AllOK libCk := .cons okCk libCf3_ok
end
end Go.Proofs.YtpbpebjfglfjfaaGreatDoor.X
