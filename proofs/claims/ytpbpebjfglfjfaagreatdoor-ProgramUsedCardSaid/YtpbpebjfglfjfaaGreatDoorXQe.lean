/-
  Check, of the program.
-/
import Derived.Test.YtpbpebjfglfjfaaGreatDoorXQc
import Derived.Test.YtpbpebjfglfjfaaGreatDoorXR
set_option autoImplicit false
set_option linter.unusedVariables false
set_option linter.unusedSimpArgs false
set_option maxRecDepth 100000
namespace Go.Proofs.YtpbpebjfglfjfaaGreatDoor.X
open Go Go.Proofs Go.RowKit Go.Proofs.YtpbpebjfglfjfaaGreatDoor
noncomputable section
def CCf1 : Cfg := { cs := libUk }
theorem CCf1_ok : CfgOK CCf1 := { con := libUk_ok }
def RCf1 (a0 : List GNode) (a1 : Unit) : Option (Res At) :=
  if cIn2 a0 () = true then
   some ((.bool (decide (vIn2 a0 () ≥ 0))), [])
  else
   none
theorem run_RCf1 (a0 : List GNode) (a1 : Unit) : runF CCf1 80 49 [.ro 58 a0, .fn 50 []] = RCf1 a0 a1 := by kernel_rfl
def oCf1 (a0 : List GNode) (a1 : Unit) : Option (Res At) := crR [none] (RCf1 a0 a1)
def vCf1 (a0 : List GNode) (a1 : Unit) : Bool := valO rB false (oCf1 a0 a1)
def cCf1 (a0 : List GNode) (a1 : Unit) : Bool := okO rB (oCf1 a0 a1)
def conCf1 : CON := on2 (rR 58) (rF0 50) fun a0 a1 => some (cCf1 a0 a1, (.bool (vCf1 a0 a1), []))
theorem okCf1 : OK 49 conCf1 := okc2 CCf1_ok (n := 80) (ts := [none]) (a := (rR 58)) (b := (rF0 50)) (r := rB) (d := false) (R := fun a0 a1 => RCf1 a0 a1) (by kernel_rfl) fun a0 a1 => run_RCf1 a0 a1
def libCf1 : List (Nat × CON) := (49, conCf1) :: libUk
theorem libCf1_ok : AllOK libCf1 := .cons okCf1 libUk_ok
def CCf2 : Cfg := { cs := libCf1 }
theorem CCf2_ok : CfgOK CCf2 := { con := libCf1_ok }
def RCf2 (a0 : List GLink) (a1 : Unit) : Option (Res At) :=
  if cIl a0 () = true then
   some ((.bool (decide (vIl a0 () ≥ 0))), [])
  else
   none
theorem run_RCf2 (a0 : List GLink) (a1 : Unit) : runF CCf2 80 51 [.ro 55 a0, .fn 52 []] = RCf2 a0 a1 := by kernel_rfl
def oCf2 (a0 : List GLink) (a1 : Unit) : Option (Res At) := crR [none] (RCf2 a0 a1)
def vCf2 (a0 : List GLink) (a1 : Unit) : Bool := valO rB false (oCf2 a0 a1)
def cCf2 (a0 : List GLink) (a1 : Unit) : Bool := okO rB (oCf2 a0 a1)
def conCf2 : CON := on2 (rR 55) (rF0 52) fun a0 a1 => some (cCf2 a0 a1, (.bool (vCf2 a0 a1), []))
theorem okCf2 : OK 51 conCf2 := okc2 CCf2_ok (n := 80) (ts := [none]) (a := (rR 55)) (b := (rF0 52)) (r := rB) (d := false) (R := fun a0 a1 => RCf2 a0 a1) (by kernel_rfl) fun a0 a1 => run_RCf2 a0 a1
def libCf2 : List (Nat × CON) := (51, conCf2) :: libCf1
theorem libCf2_ok : AllOK libCf2 := .cons okCf2 libCf1_ok
def CCf3 : Cfg := { cs := libCf2 }
theorem CCf3_ok : CfgOK CCf3 := { con := libCf2_ok }
def RCf3 (a0 : List GDrive) (a1 : Unit) : Option (Res At) :=
  if cId1 a0 () = true then
   some ((.bool (decide (vId1 a0 () ≥ 0))), [])
  else
   none
theorem run_RCf3 (a0 : List GDrive) (a1 : Unit) : runF CCf3 80 54 [.ro 89 a0, .fn 55 []] = RCf3 a0 a1 := by kernel_rfl
def oCf3 (a0 : List GDrive) (a1 : Unit) : Option (Res At) := crR [none] (RCf3 a0 a1)
def vCf3 (a0 : List GDrive) (a1 : Unit) : Bool := valO rB false (oCf3 a0 a1)
def cCf3 (a0 : List GDrive) (a1 : Unit) : Bool := okO rB (oCf3 a0 a1)
def conCf3 : CON := on2 (rR 89) (rF0 55) fun a0 a1 => some (cCf3 a0 a1, (.bool (vCf3 a0 a1), []))
theorem okCf3 : OK 54 conCf3 := okc2 CCf3_ok (n := 80) (ts := [none]) (a := (rR 89)) (b := (rF0 55)) (r := rB) (d := false) (R := fun a0 a1 => RCf3 a0 a1) (by kernel_rfl) fun a0 a1 => run_RCf3 a0 a1
def libCf3 : List (Nat × CON) := (54, conCf3) :: libCf2
theorem libCf3_ok : AllOK libCf3 := .cons okCf3 libCf2_ok
structure KCk28 where
  x0 : List GPoint
  x4 : Int
  x102 : List GDrive
  x103 : Int
  x104 : Int
structure ECk28 where
  x4 : Int
def SCk28 (k : KCk28) : St At := { env := [(0, .ro 66 k.x0), (4, .int .i64 k.x4), (102, .ro 89 k.x102), (103, .int .i64 k.x103), (104, .int .i64 k.x104)], stk := [], hp := [], nx := 0 }
def XCk28 (k : ECk28) : St At := { env := [(4, .int .i64 k.x4)], stk := [], hp := [], nx := 0 }
def CCk28 : Cfg := { cs := libCf3, ks := [((15, 28), [(0, none), (4, none), (102, none), (103, none), (104, none)])], xs := [((15, 28), [(4, none)])], lps := [] }
theorem CCk28_ok : CfgOK CCk28 := { con := libCf3_ok }
def stCk28 {α : Type} (k : KCk28) (go : KCk28 → α) (ex ret : ECk28 → α) (no : α) : α :=
  if decide (k.x104 < k.x103) = true then
   if 0 ≤ k.x104 then
    if k.x104 < (↑k.x102.length : Int) then
     if cIp2 k.x0 (gt { point := { data := #[] : ByteArray }, level := 0, from_ := { node := { data := #[] : ByteArray }, port := 0, point := { data := #[] : ByteArray }, const := { kind := 0, n := 0 : GValue }, delayed := false, initial := { kind := 0, n := 0 : GValue } : GLink } : GDrive } k.x102 k.x104.toNat) = true then
      if 0 ≤ vIp2 k.x0 (gt { point := { data := #[] : ByteArray }, level := 0, from_ := { node := { data := #[] : ByteArray }, port := 0, point := { data := #[] : ByteArray }, const := { kind := 0, n := 0 : GValue }, delayed := false, initial := { kind := 0, n := 0 : GValue } : GLink } : GDrive } k.x102 k.x104.toNat) then
       if vIp2 k.x0 (gt { point := { data := #[] : ByteArray }, level := 0, from_ := { node := { data := #[] : ByteArray }, port := 0, point := { data := #[] : ByteArray }, const := { kind := 0, n := 0 : GValue }, delayed := false, initial := { kind := 0, n := 0 : GValue } : GLink } : GDrive } k.x102 k.x104.toNat) < (↑k.x0.length : Int) then
        if cCm (gt { name := { data := #[] : ByteArray }, kind := 0, role := 0, unit_ := { data := #[] : ByteArray }, low := 0, high := 0, step := 0, states := [], default_ := { kind := 0, n := 0 : GValue }, minOn := 0, minOff := 0 : GPoint } k.x0 (vIp2 k.x0 (gt { point := { data := #[] : ByteArray }, level := 0, from_ := { node := { data := #[] : ByteArray }, port := 0, point := { data := #[] : ByteArray }, const := { kind := 0, n := 0 : GValue }, delayed := false, initial := { kind := 0, n := 0 : GValue } : GLink } : GDrive } k.x102 k.x104.toNat)).toNat) = true then
         if (!vCm (gt { name := { data := #[] : ByteArray }, kind := 0, role := 0, unit_ := { data := #[] : ByteArray }, low := 0, high := 0, step := 0, states := [], default_ := { kind := 0, n := 0 : GValue }, minOn := 0, minOff := 0 : GPoint } k.x0 (vIp2 k.x0 (gt { point := { data := #[] : ByteArray }, level := 0, from_ := { node := { data := #[] : ByteArray }, port := 0, point := { data := #[] : ByteArray }, const := { kind := 0, n := 0 : GValue }, delayed := false, initial := { kind := 0, n := 0 : GValue } : GLink } : GDrive } k.x102 k.x104.toNat)).toNat)) = true then
          ret ⟨(11)⟩
         else
          go ⟨(k.x0), (k.x4), (k.x102), (k.x103), (IntKind.i64.wrap (k.x104 + 1))⟩
        else
         no
       else
        no
      else
       no
     else
      no
    else
     no
   else
    no
  else
   ex ⟨(k.x4)⟩
def stepCk28 (k : KCk28) : Nx KCk28 ECk28 := stCk28 k .go .ex .ret .no
theorem BCk28 (k : KCk28) (m : Nat) (R : St At → Option (Res At)) (K : Xit → St At → Option (Res At)) : B CCk28 15 28 (m + 60) (SCk28 k) R K = stCk28 k (fun k => R (SCk28 k)) (fun x => K (.ex 5) (XCk28 x)) (fun x => K .ret (XCk28 x)) none := by kernel_rfl
def uCk28 (st : St At) : Option KCk28 := match st with
  | ⟨[(0, vx0), (4, .int .i64 x4), (102, vx102), (103, .int .i64 x103), (104, .int .i64 x104)], [], [], 0⟩ => (match roV 66 vx0, roV 89 vx102 with | some x0, some x102 => some ⟨x0, x4, x102, x103, x104⟩ | _, _ => none)
  | _ => none
theorem uCk28_spec {st : St At} {k : KCk28} (h : uCk28 st = some k) : st = SCk28 k := by
  unfold uCk28 at h
  split at h
  · split at h
    · rename_i h0 h1
      obtain rfl := Option.some.inj h
      rw [roV_spec h0, roV_spec h1]
      rfl
    · cases h
  · cases h
theorem oklCk28 {g : LP} (hg : ∀ st K q, g st K = some q → ∃ k n e, st = SCk28 k ∧ iter stepCk28 n k = some e ∧ e.k 5 XCk28 XCk28 K = some q) : OKL 15 28 g := okl_iter CCk28_ok (S := SCk28) (X := XCk28) (Y := XCk28) (step := stepCk28) (id := 5) (by kernel_rfl) (by kernel_rfl)
  (fun k m R K => by rw [BCk28]; unfold stepCk28 stCk28; simp only [Nx.k_ite]; rfl) (fun k => by kernel_rfl) hg
theorem okfCk28 {g : LP} {fuel : KCk28 → Nat} {ok : KCk28 → Bool} {F : KCk28 → Fx ECk28} (hF : ∀ k, ok k = true → iter stepCk28 (fuel k) k = some (F k)) (hg : ∀ st K, g st K = (match uCk28 st with | some k => if ok k = true then (F k).k 5 XCk28 XCk28 K else none | none => none)) : OKL 15 28 g := oklCk28 fun st K q h => by
  rw [hg] at h
  split at h
  · rename_i k hu
    split at h
    · rename_i hok; exact ⟨k, _, _, uCk28_spec hu, hF k hok, h⟩
    · cases h
  · cases h
abbrev B_Ck28 := Unit
def fCk28 (k : KCk28) (b : B_Ck28) (x : GDrive) : Option (B_Ck28 ⊕ ECk28) :=
  if cIp2 k.x0 x = true then
   if 0 ≤ vIp2 k.x0 x then
    if vIp2 k.x0 x < (↑k.x0.length : Int) then
     if cCm (gt { name := { data := #[] : ByteArray }, kind := 0, role := 0, unit_ := { data := #[] : ByteArray }, low := 0, high := 0, step := 0, states := [], default_ := { kind := 0, n := 0 : GValue }, minOn := 0, minOff := 0 : GPoint } k.x0 (vIp2 k.x0 x).toNat) = true then
      if (!vCm (gt { name := { data := #[] : ByteArray }, kind := 0, role := 0, unit_ := { data := #[] : ByteArray }, low := 0, high := 0, step := 0, states := [], default_ := { kind := 0, n := 0 : GValue }, minOn := 0, minOff := 0 : GPoint } k.x0 (vIp2 k.x0 x).toNat)) = true then
       some (.inr ⟨(11)⟩)
      else
       some (.inl ())
     else
      none
    else
     none
   else
    none
  else
   none
def xCk28 (k : KCk28) (b : B_Ck28) : ECk28 := ⟨(k.x4)⟩
def putCk28 (k : KCk28) (b : B_Ck28) (j : Nat) : KCk28 := ⟨k.x0, k.x4, k.x102, k.x103, (j : Int)⟩
def bCk28 (k : KCk28) : B_Ck28 := ()
def oCk28 (k : KCk28) : Option (B_Ck28 ⊕ ECk28) := scanO (fCk28 k) (bCk28 k) k.x102
def okCk28 (k : KCk28) : Bool := decide (k.x104 = 0) && (decide (k.x103 = (k.x102.length : Int)) && (Nat.ble k.x102.length 9223372036854775807 && isOO (oCk28 k)))
def FCk28 (k : KCk28) : Fx ECk28 := fxO (xCk28 k) (bCk28 k) (xCk28 k (bCk28 k)) (oCk28 k)
theorem sCk28 (k : KCk28) (hn : k.x103 = (k.x102.length : Int)) (hm : k.x102.length ≤ 9223372036854775807) (b : B_Ck28) (j : Nat) (h : j < k.x102.length) : stepCk28 (putCk28 k b j) = nxO (fun b' => putCk28 k b' (j + 1)) (fCk28 k b k.x102[j]) := by
  unfold stepCk28 stCk28 fCk28 putCk28
  dsimp only
  simp only [hn, nxO_ite, cnt' h hm, gtj' _ _ _ h, if_pos (lt1' h), if_pos (lt0' (j := j)), if_pos (lt2' h)]
  rfl
theorem eCk28 (k : KCk28) (hn : k.x103 = (k.x102.length : Int)) (b : B_Ck28) : stepCk28 (putCk28 k b k.x102.length) = .ex (xCk28 k b) := by
  unfold stepCk28 stCk28 putCk28
  dsimp only
  rw [hn, if_neg lt3']
  rfl
theorem iCk28 (k : KCk28) (h : okCk28 k = true) : iter stepCk28 (k.x102).length k = some (FCk28 k) := by
  unfold okCk28 at h
  simp only [Bool.and_eq_true, decide_eq_true_eq] at h
  obtain ⟨h0, h1, h2, h3⟩ := h
  replace h2 := Nat.le_of_ble_eq_true h2
  have e : k = putCk28 k (bCk28 k) 0 := by cases k; dsimp only at h0; subst h0; rfl
  have := iter_scanO (step := stepCk28) k.x102 (putCk28 k) (fCk28 k) (xCk28 k) (bCk28 k) (xCk28 k (bCk28 k)) (fun b j h => sCk28 k h1 h2 b j h) (fun b => eCk28 k h1 b) k.x102.length 0 (bCk28 k) (by simp) (by rw [List.drop_zero]; exact h3)
  rw [List.drop_zero, ← e] at this
  exact this
def gCk28 : LP := fun st K => match uCk28 st with | some k => if okCk28 k = true then (if isLO (oCk28 k) = true then K (.ex 5) (XCk28 (⟨(k.x4)⟩ : ECk28)) else K .ret (XCk28 (getRO (xCk28 k (bCk28 k)) (oCk28 k)))) else none | none => none
theorem okgCk28 : OKL 15 28 gCk28 := okfCk28 (fuel := fun k => (k.x102).length) (ok := okCk28) (F := FCk28) iCk28 fun st K => by
  unfold gCk28
  cases hu : uCk28 st with
  | none => rfl
  | some k =>
    dsimp only
    split
    · unfold FCk28 fxO
      cases isLO (oCk28 k) <;> rfl
    · rfl
structure KCk21 where
  x0 : List GPoint
  x3 : GProgram
  x4 : Int
  x83 : List GNode
  x84 : Int
  x85 : Int
structure ECk21 where
  x0 : List GPoint
  x3 : GProgram
  x4 : Int
def SCk21 (k : KCk21) : St At := { env := [(0, .ro 66 k.x0), (3, .ptr 0 0), (4, .int .i64 k.x4), (83, .ro 58 k.x83), (84, .int .i64 k.x84), (85, .int .i64 k.x85)], stk := [], hp := [(0, .var (enc31 k.x3) false)], nx := 1 }
def XCk21 (k : ECk21) : St At := { env := [(0, .ro 66 k.x0), (3, .ptr 0 0), (4, .int .i64 k.x4)], stk := [], hp := [(0, .var (enc31 k.x3) false)], nx := 1 }
def CCk21 : Cfg := { cs := libCf3, ks := [((15, 21), [(0, none), (3, none), (4, none), (83, none), (84, none), (85, none)])], xs := [((15, 21), [(0, none), (3, none), (4, none)])], lps := [] }
theorem CCk21_ok : CfgOK CCk21 := { con := libCf3_ok }
def stCk21 {α : Type} (k : KCk21) (go : KCk21 → α) (ex ret : ECk21 → α) (no : α) : α :=
  if decide (k.x85 < k.x84) = true then
   if 0 ≤ k.x85 then
    if k.x85 < (↑k.x83.length : Int) then
     if andP (((gt { name := { data := #[] : ByteArray }, block := { data := #[] : ByteArray }, params := [], inputs := [] : GNode } k.x83 k.x85.toNat).block.size + 1).blt 4611686018427387904) ((gt { name := { data := #[] : ByteArray }, block := { data := #[] : ByteArray }, params := [], inputs := [] : GNode } k.x83 k.x85.toNat).params.length.ble 9223372036854775807) = true then
      if (!decide ((parE (findD (gt { name := { data := #[] : ByteArray }, block := { data := #[] : ByteArray }, params := [], inputs := [] : GNode } k.x83 k.x85.toNat).block libL) (gt { name := { data := #[] : ByteArray }, block := { data := #[] : ByteArray }, params := [], inputs := [] : GNode } k.x83 k.x85.toNat).block (gt { name := { data := #[] : ByteArray }, block := { data := #[] : ByteArray }, params := [], inputs := [] : GNode } k.x83 k.x85.toNat).params).snd = 0)) = true then
       ret ⟨(k.x0), (k.x3), ((parE (findD (gt { name := { data := #[] : ByteArray }, block := { data := #[] : ByteArray }, params := [], inputs := [] : GNode } k.x83 k.x85.toNat).block libL) (gt { name := { data := #[] : ByteArray }, block := { data := #[] : ByteArray }, params := [], inputs := [] : GNode } k.x83 k.x85.toNat).block (gt { name := { data := #[] : ByteArray }, block := { data := #[] : ByteArray }, params := [], inputs := [] : GNode } k.x83 k.x85.toNat).params).snd)⟩
      else
       go ⟨(k.x0), (k.x3), (k.x4), (k.x83), (k.x84), (IntKind.i64.wrap (k.x85 + 1))⟩
     else
      no
    else
     no
   else
    no
  else
   ex ⟨(k.x0), (k.x3), (k.x4)⟩
def stepCk21 (k : KCk21) : Nx KCk21 ECk21 := stCk21 k .go .ex .ret .no
theorem BCk21 (k : KCk21) (m : Nat) (R : St At → Option (Res At)) (K : Xit → St At → Option (Res At)) : B CCk21 15 21 (m + 60) (SCk21 k) R K = stCk21 k (fun k => R (SCk21 k)) (fun x => K (.ex 3) (XCk21 x)) (fun x => K .ret (XCk21 x)) none := by kernel_rfl
def uCk21 (st : St At) : Option KCk21 := match st with
  | ⟨[(0, vx0), (3, .ptr 0 0), (4, .int .i64 x4), (83, vx83), (84, .int .i64 x84), (85, .int .i64 x85)], [], [(0, .var wx3 false)], 1⟩ => (match roV 66 vx0, ex31 wx3, roV 58 vx83 with | some x0, some x3, some x83 => some ⟨x0, x3, x4, x83, x84, x85⟩ | _, _, _ => none)
  | _ => none
theorem uCk21_spec {st : St At} {k : KCk21} (h : uCk21 st = some k) : st = SCk21 k := by
  unfold uCk21 at h
  split at h
  · split at h
    · rename_i h0 h1 h2
      obtain rfl := Option.some.inj h
      rw [roV_spec h0, ex31_spec h1, roV_spec h2]
      rfl
    · cases h
  · cases h
theorem oklCk21 {g : LP} (hg : ∀ st K q, g st K = some q → ∃ k n e, st = SCk21 k ∧ iter stepCk21 n k = some e ∧ e.k 3 XCk21 XCk21 K = some q) : OKL 15 21 g := okl_iter CCk21_ok (S := SCk21) (X := XCk21) (Y := XCk21) (step := stepCk21) (id := 3) (by kernel_rfl) (by kernel_rfl)
  (fun k m R K => by rw [BCk21]; unfold stepCk21 stCk21; simp only [Nx.k_ite]; rfl) (fun k => by kernel_rfl) hg
theorem okfCk21 {g : LP} {fuel : KCk21 → Nat} {ok : KCk21 → Bool} {F : KCk21 → Fx ECk21} (hF : ∀ k, ok k = true → iter stepCk21 (fuel k) k = some (F k)) (hg : ∀ st K, g st K = (match uCk21 st with | some k => if ok k = true then (F k).k 3 XCk21 XCk21 K else none | none => none)) : OKL 15 21 g := oklCk21 fun st K q h => by
  rw [hg] at h
  split at h
  · rename_i k hu
    split at h
    · rename_i hok; exact ⟨k, _, _, uCk21_spec hu, hF k hok, h⟩
    · cases h
  · cases h
abbrev B_Ck21 := Unit
def fCk21 (k : KCk21) (b : B_Ck21) (x : GNode) : Option (B_Ck21 ⊕ ECk21) :=
  if andP ((x.block.size + 1).blt 4611686018427387904) (x.params.length.ble 9223372036854775807) = true then
   if (!decide ((parE (findD x.block libL) x.block x.params).snd = 0)) = true then
    some (.inr ⟨(k.x0), (k.x3), ((parE (findD x.block libL) x.block x.params).snd)⟩)
   else
    some (.inl ())
  else
   none
def xCk21 (k : KCk21) (b : B_Ck21) : ECk21 := ⟨(k.x0), (k.x3), (k.x4)⟩
def putCk21 (k : KCk21) (b : B_Ck21) (j : Nat) : KCk21 := ⟨k.x0, k.x3, k.x4, k.x83, k.x84, (j : Int)⟩
def bCk21 (k : KCk21) : B_Ck21 := ()
def oCk21 (k : KCk21) : Option (B_Ck21 ⊕ ECk21) := scanO (fCk21 k) (bCk21 k) k.x83
def okCk21 (k : KCk21) : Bool := decide (k.x85 = 0) && (decide (k.x84 = (k.x83.length : Int)) && (Nat.ble k.x83.length 9223372036854775807 && isOO (oCk21 k)))
def FCk21 (k : KCk21) : Fx ECk21 := fxO (xCk21 k) (bCk21 k) (xCk21 k (bCk21 k)) (oCk21 k)
theorem sCk21 (k : KCk21) (hn : k.x84 = (k.x83.length : Int)) (hm : k.x83.length ≤ 9223372036854775807) (b : B_Ck21) (j : Nat) (h : j < k.x83.length) : stepCk21 (putCk21 k b j) = nxO (fun b' => putCk21 k b' (j + 1)) (fCk21 k b k.x83[j]) := by
  unfold stepCk21 stCk21 fCk21 putCk21
  dsimp only
  simp only [hn, nxO_ite, cnt' h hm, gtj' _ _ _ h, if_pos (lt1' h), if_pos (lt0' (j := j)), if_pos (lt2' h)]
  rfl
theorem eCk21 (k : KCk21) (hn : k.x84 = (k.x83.length : Int)) (b : B_Ck21) : stepCk21 (putCk21 k b k.x83.length) = .ex (xCk21 k b) := by
  unfold stepCk21 stCk21 putCk21
  dsimp only
  rw [hn, if_neg lt3']
  rfl
theorem iCk21 (k : KCk21) (h : okCk21 k = true) : iter stepCk21 (k.x83).length k = some (FCk21 k) := by
  unfold okCk21 at h
  simp only [Bool.and_eq_true, decide_eq_true_eq] at h
  obtain ⟨h0, h1, h2, h3⟩ := h
  replace h2 := Nat.le_of_ble_eq_true h2
  have e : k = putCk21 k (bCk21 k) 0 := by cases k; dsimp only at h0; subst h0; rfl
  have := iter_scanO (step := stepCk21) k.x83 (putCk21 k) (fCk21 k) (xCk21 k) (bCk21 k) (xCk21 k (bCk21 k)) (fun b j h => sCk21 k h1 h2 b j h) (fun b => eCk21 k h1 b) k.x83.length 0 (bCk21 k) (by simp) (by rw [List.drop_zero]; exact h3)
  rw [List.drop_zero, ← e] at this
  exact this
def gCk21 : LP := fun st K => match uCk21 st with | some k => if okCk21 k = true then (if isLO (oCk21 k) = true then K (.ex 3) (XCk21 (⟨(k.x0), (k.x3), (k.x4)⟩ : ECk21)) else K .ret (XCk21 (getRO (xCk21 k (bCk21 k)) (oCk21 k)))) else none | none => none
theorem okgCk21 : OKL 15 21 gCk21 := okfCk21 (fuel := fun k => (k.x83).length) (ok := okCk21) (F := FCk21) iCk21 fun st K => by
  unfold gCk21
  cases hu : uCk21 st with
  | none => rfl
  | some k =>
    dsimp only
    split
    · unfold FCk21 fxO
      cases isLO (oCk21 k) <;> rfl
    · rfl
structure KCk14 where
  x0 : List GPoint
  x3 : GProgram
  x4 : Int
  x63 : List GNode
  x64 : Int
  x65 : Int
structure ECk14 where
  x0 : List GPoint
  x3 : GProgram
  x4 : Int
def SCk14 (k : KCk14) : St At := { env := [(0, .ro 66 k.x0), (3, .ptr 0 0), (4, .int .i64 k.x4), (63, .ro 58 k.x63), (64, .int .i64 k.x64), (65, .int .i64 k.x65)], stk := [], hp := [(0, .var (enc31 k.x3) false)], nx := 1 }
def XCk14 (k : ECk14) : St At := { env := [(0, .ro 66 k.x0), (3, .ptr 0 0), (4, .int .i64 k.x4)], stk := [], hp := [(0, .var (enc31 k.x3) false)], nx := 1 }
def CCk14 : Cfg := { cs := libCf3, ks := [((15, 14), [(0, none), (3, none), (4, none), (63, none), (64, none), (65, none)])], xs := [((15, 14), [(0, none), (3, none), (4, none)])], lps := [] }
theorem CCk14_ok : CfgOK CCk14 := { con := libCf3_ok }
def stCk14 {α : Type} (k : KCk14) (go : KCk14 → α) (ex ret : ECk14 → α) (no : α) : α :=
  if decide (k.x65 < k.x64) = true then
   if 0 ≤ k.x65 then
    if k.x65 < (↑k.x63.length : Int) then
     if ((gt { name := { data := #[] : ByteArray }, block := { data := #[] : ByteArray }, params := [], inputs := [] : GNode } k.x63 k.x65.toNat).block.size + 1).blt 4611686018427387904 = true then
      if (!decide ((inpR (findD (gt { name := { data := #[] : ByteArray }, block := { data := #[] : ByteArray }, params := [], inputs := [] : GNode } k.x63 k.x65.toNat).block libL) (↑(gt { name := { data := #[] : ByteArray }, block := { data := #[] : ByteArray }, params := [], inputs := [] : GNode } k.x63 k.x65.toNat).inputs.length : Int)).snd = 0)) = true then
       ret ⟨(k.x0), (k.x3), ((inpR (findD (gt { name := { data := #[] : ByteArray }, block := { data := #[] : ByteArray }, params := [], inputs := [] : GNode } k.x63 k.x65.toNat).block libL) (↑(gt { name := { data := #[] : ByteArray }, block := { data := #[] : ByteArray }, params := [], inputs := [] : GNode } k.x63 k.x65.toNat).inputs.length : Int)).snd)⟩
      else
       go ⟨(k.x0), (k.x3), (k.x4), (k.x63), (k.x64), (IntKind.i64.wrap (k.x65 + 1))⟩
     else
      no
    else
     no
   else
    no
  else
   ex ⟨(k.x0), (k.x3), (k.x4)⟩
def stepCk14 (k : KCk14) : Nx KCk14 ECk14 := stCk14 k .go .ex .ret .no
theorem BCk14 (k : KCk14) (m : Nat) (R : St At → Option (Res At)) (K : Xit → St At → Option (Res At)) : B CCk14 15 14 (m + 60) (SCk14 k) R K = stCk14 k (fun k => R (SCk14 k)) (fun x => K (.ex 1) (XCk14 x)) (fun x => K .ret (XCk14 x)) none := by kernel_rfl
def uCk14 (st : St At) : Option KCk14 := match st with
  | ⟨[(0, vx0), (3, .ptr 0 0), (4, .int .i64 x4), (63, vx63), (64, .int .i64 x64), (65, .int .i64 x65)], [], [(0, .var wx3 false)], 1⟩ => (match roV 66 vx0, ex31 wx3, roV 58 vx63 with | some x0, some x3, some x63 => some ⟨x0, x3, x4, x63, x64, x65⟩ | _, _, _ => none)
  | _ => none
theorem uCk14_spec {st : St At} {k : KCk14} (h : uCk14 st = some k) : st = SCk14 k := by
  unfold uCk14 at h
  split at h
  · split at h
    · rename_i h0 h1 h2
      obtain rfl := Option.some.inj h
      rw [roV_spec h0, ex31_spec h1, roV_spec h2]
      rfl
    · cases h
  · cases h
theorem oklCk14 {g : LP} (hg : ∀ st K q, g st K = some q → ∃ k n e, st = SCk14 k ∧ iter stepCk14 n k = some e ∧ e.k 1 XCk14 XCk14 K = some q) : OKL 15 14 g := okl_iter CCk14_ok (S := SCk14) (X := XCk14) (Y := XCk14) (step := stepCk14) (id := 1) (by kernel_rfl) (by kernel_rfl)
  (fun k m R K => by rw [BCk14]; unfold stepCk14 stCk14; simp only [Nx.k_ite]; rfl) (fun k => by kernel_rfl) hg
theorem okfCk14 {g : LP} {fuel : KCk14 → Nat} {ok : KCk14 → Bool} {F : KCk14 → Fx ECk14} (hF : ∀ k, ok k = true → iter stepCk14 (fuel k) k = some (F k)) (hg : ∀ st K, g st K = (match uCk14 st with | some k => if ok k = true then (F k).k 1 XCk14 XCk14 K else none | none => none)) : OKL 15 14 g := oklCk14 fun st K q h => by
  rw [hg] at h
  split at h
  · rename_i k hu
    split at h
    · rename_i hok; exact ⟨k, _, _, uCk14_spec hu, hF k hok, h⟩
    · cases h
  · cases h
abbrev B_Ck14 := Unit
def fCk14 (k : KCk14) (b : B_Ck14) (x : GNode) : Option (B_Ck14 ⊕ ECk14) :=
  if (x.block.size + 1).blt 4611686018427387904 = true then
   if (!decide ((inpR (findD x.block libL) (↑x.inputs.length : Int)).snd = 0)) = true then
    some (.inr ⟨(k.x0), (k.x3), ((inpR (findD x.block libL) (↑x.inputs.length : Int)).snd)⟩)
   else
    some (.inl ())
  else
   none
def xCk14 (k : KCk14) (b : B_Ck14) : ECk14 := ⟨(k.x0), (k.x3), (k.x4)⟩
def putCk14 (k : KCk14) (b : B_Ck14) (j : Nat) : KCk14 := ⟨k.x0, k.x3, k.x4, k.x63, k.x64, (j : Int)⟩
def bCk14 (k : KCk14) : B_Ck14 := ()
def oCk14 (k : KCk14) : Option (B_Ck14 ⊕ ECk14) := scanO (fCk14 k) (bCk14 k) k.x63
def okCk14 (k : KCk14) : Bool := decide (k.x65 = 0) && (decide (k.x64 = (k.x63.length : Int)) && (Nat.ble k.x63.length 9223372036854775807 && isOO (oCk14 k)))
def FCk14 (k : KCk14) : Fx ECk14 := fxO (xCk14 k) (bCk14 k) (xCk14 k (bCk14 k)) (oCk14 k)
theorem sCk14 (k : KCk14) (hn : k.x64 = (k.x63.length : Int)) (hm : k.x63.length ≤ 9223372036854775807) (b : B_Ck14) (j : Nat) (h : j < k.x63.length) : stepCk14 (putCk14 k b j) = nxO (fun b' => putCk14 k b' (j + 1)) (fCk14 k b k.x63[j]) := by
  unfold stepCk14 stCk14 fCk14 putCk14
  dsimp only
  simp only [hn, nxO_ite, cnt' h hm, gtj' _ _ _ h, if_pos (lt1' h), if_pos (lt0' (j := j)), if_pos (lt2' h)]
  rfl
theorem eCk14 (k : KCk14) (hn : k.x64 = (k.x63.length : Int)) (b : B_Ck14) : stepCk14 (putCk14 k b k.x63.length) = .ex (xCk14 k b) := by
  unfold stepCk14 stCk14 putCk14
  dsimp only
  rw [hn, if_neg lt3']
  rfl
theorem iCk14 (k : KCk14) (h : okCk14 k = true) : iter stepCk14 (k.x63).length k = some (FCk14 k) := by
  unfold okCk14 at h
  simp only [Bool.and_eq_true, decide_eq_true_eq] at h
  obtain ⟨h0, h1, h2, h3⟩ := h
  replace h2 := Nat.le_of_ble_eq_true h2
  have e : k = putCk14 k (bCk14 k) 0 := by cases k; dsimp only at h0; subst h0; rfl
  have := iter_scanO (step := stepCk14) k.x63 (putCk14 k) (fCk14 k) (xCk14 k) (bCk14 k) (xCk14 k (bCk14 k)) (fun b j h => sCk14 k h1 h2 b j h) (fun b => eCk14 k h1 b) k.x63.length 0 (bCk14 k) (by simp) (by rw [List.drop_zero]; exact h3)
  rw [List.drop_zero, ← e] at this
  exact this
def gCk14 : LP := fun st K => match uCk14 st with | some k => if okCk14 k = true then (if isLO (oCk14 k) = true then K (.ex 1) (XCk14 (⟨(k.x0), (k.x3), (k.x4)⟩ : ECk14)) else K .ret (XCk14 (getRO (xCk14 k (bCk14 k)) (oCk14 k)))) else none | none => none
theorem okgCk14 : OKL 15 14 gCk14 := okfCk14 (fuel := fun k => (k.x63).length) (ok := okCk14) (F := FCk14) iCk14 fun st K => by
  unfold gCk14
  cases hu : uCk14 st with
  | none => rfl
  | some k =>
    dsimp only
    split
    · unfold FCk14 fxO
      cases isLO (oCk14 k) <;> rfl
    · rfl
def CCk : Cfg := { cs := libCf3, ks := CCk28.ks ++ CCk21.ks ++ CCk14.ks, xs := CCk28.xs ++ CCk21.xs ++ CCk14.xs, lps := [((15, 28), gCk28), ((15, 21), gCk21), ((15, 14), gCk14)] }
theorem CCk_ok : CfgOK CCk := { con := libCf3_ok, lp := .cons okgCk28 (.cons okgCk21 (.cons okgCk14 .nil)) }
def RCk (a0 : List GPoint) (a1 : GProgram) : Option (Res At) :=
  if decide ((↑a1.nodes.length : Int) > 64) = false then
   if decide ((↑a1.drives.length : Int) > 256) = true then
    some ((.int .i64 7), [])
   else
    if cNm a1.name = true then
     if (!vNm a1.name) = false then
      if cCf1 a1.nodes () = true then
       if vCf1 a1.nodes () = true then
        some ((.int .i64 4), [])
       else
        if cLk a1 = true then
         if cCf2 (vLk a1) () = true then
          if vCf2 (vLk a1) () = true then
           some ((.int .i64 1), [])
          else
           if decide (a1.period < 1) = false then
            if decide (a1.period > 86400) = false then
             if cCf3 a1.drives () = true then
              if vCf3 a1.drives () = true then
               some ((.int .i64 6), [])
              else
               if cTw a1 = true then
                if vTw a1 = true then
                 some ((.int .i64 5), [])
                else
                 if cUk a0 a1 = true then
                  if vUk a0 a1 = true then
                   some ((.int .i64 3), [])
                  else
                   if okCk14 { x0 := a0, x3 := a1, x4 := 0, x63 := a1.nodes, x64 := (↑a1.nodes.length : Int), x65 := 0 : KCk14 } = true then
                    if isLO (oCk14 { x0 := a0, x3 := a1, x4 := 0, x63 := a1.nodes, x64 := (↑a1.nodes.length : Int), x65 := 0 : KCk14 }) = true then
                     if okCk21 { x0 := a0, x3 := a1, x4 := 0, x83 := a1.nodes, x84 := (↑a1.nodes.length : Int), x85 := 0 : KCk21 } = true then
                      if isLO (oCk21 { x0 := a0, x3 := a1, x4 := 0, x83 := a1.nodes, x84 := (↑a1.nodes.length : Int), x85 := 0 : KCk21 }) = true then
                       if okCk28 { x0 := a0, x4 := 0, x102 := a1.drives, x103 := (↑a1.drives.length : Int), x104 := 0 : KCk28 } = true then
                        if isLO (oCk28 { x0 := a0, x4 := 0, x102 := a1.drives, x103 := (↑a1.drives.length : Int), x104 := 0 : KCk28 }) = true then
                         some ((.int .i64 0), [])
                        else
                         some ((.int .i64 ((getRO (xCk28 { x0 := a0, x4 := 0, x102 := a1.drives, x103 := (↑a1.drives.length : Int), x104 := 0 : KCk28 } (bCk28 { x0 := a0, x4 := 0, x102 := a1.drives, x103 := (↑a1.drives.length : Int), x104 := 0 : KCk28 })) (oCk28 { x0 := a0, x4 := 0, x102 := a1.drives, x103 := (↑a1.drives.length : Int), x104 := 0 : KCk28 })).x4)), [])
                       else
                        none
                      else
                       some ((.int .i64 ((getRO (xCk21 { x0 := a0, x3 := a1, x4 := 0, x83 := a1.nodes, x84 := (↑a1.nodes.length : Int), x85 := 0 : KCk21 } (bCk21 { x0 := a0, x3 := a1, x4 := 0, x83 := a1.nodes, x84 := (↑a1.nodes.length : Int), x85 := 0 : KCk21 })) (oCk21 { x0 := a0, x3 := a1, x4 := 0, x83 := a1.nodes, x84 := (↑a1.nodes.length : Int), x85 := 0 : KCk21 })).x4)), [])
                     else
                      none
                    else
                     some ((.int .i64 ((getRO (xCk14 { x0 := a0, x3 := a1, x4 := 0, x63 := a1.nodes, x64 := (↑a1.nodes.length : Int), x65 := 0 : KCk14 } (bCk14 { x0 := a0, x3 := a1, x4 := 0, x63 := a1.nodes, x64 := (↑a1.nodes.length : Int), x65 := 0 : KCk14 })) (oCk14 { x0 := a0, x3 := a1, x4 := 0, x63 := a1.nodes, x64 := (↑a1.nodes.length : Int), x65 := 0 : KCk14 })).x4)), [])
                   else
                    none
                 else
                  none
               else
                none
             else
              none
            else
             some ((.int .i64 6), [])
           else
            some ((.int .i64 6), [])
         else
          none
        else
         none
      else
       none
     else
      some ((.int .i64 4), [])
    else
     none
  else
   some ((.int .i64 7), [])
theorem run_RCk (a0 : List GPoint) (a1 : GProgram) : runF CCk 80 15 [.ro 66 a0, .agg (enc31 a1)] = RCk a0 a1 := by kernel_rfl
def oCk (a0 : List GPoint) (a1 : GProgram) : Option (Res At) := crR [none] (RCk a0 a1)
def vCk (a0 : List GPoint) (a1 : GProgram) : Int := valO (rI .i64) 0 (oCk a0 a1)
def cCk (a0 : List GPoint) (a1 : GProgram) : Bool := okO (rI .i64) (oCk a0 a1)
def conCk : CON := on2 (rR 66) (rA ex31 enc31 fun _ _ h => ex31_spec h) fun a0 a1 => some (cCk a0 a1, (.int .i64 (vCk a0 a1), []))
theorem okCk : OK 15 conCk := okc2 CCk_ok (n := 80) (ts := [none]) (a := (rR 66)) (b := (rA ex31 enc31 fun _ _ h => ex31_spec h)) (r := (rI .i64)) (d := 0) (R := fun a0 a1 => RCk a0 a1) (by kernel_rfl) fun a0 a1 => run_RCk a0 a1
def libCk : List (Nat × CON) := (15, conCk) :: libCf3
theorem libCk_ok : AllOK libCk := .cons okCk libCf3_ok
end
end Go.Proofs.YtpbpebjfglfjfaaGreatDoor.X
/-! Check, of the reference. -/
namespace Go.Proofs.YtpbpebjfglfjfaaGreatDoor.X
open Go Go.Proofs Go.RowKit Go.Proofs.YtpbpebjfglfjfaaGreatDoor
noncomputable section
def libNs : List (Nat × CON) := libCk
theorem libNs_ok : AllOK libNs := libCk_ok
def libUkR : List (Nat × CON) := libNs
theorem libUkR_ok : AllOK libUkR := libNs_ok
def libCkR : List (Nat × CON) := libUkR
theorem libCkR_ok : AllOK libCkR := libUkR_ok
structure KSm21 where
  x1 : GProgram
  x2 : Bool
  x8 : Int
structure ESm21 where
  x2 : Bool
def SSm21 (k : KSm21) : St At := { env := [(1, .ptr 0 0), (2, .bool k.x2), (8, .int .i64 k.x8)], stk := [], hp := [(0, .var (enc31 k.x1) false)], nx := 1 }
def XSm21 (k : ESm21) : St At := { env := [(2, .bool k.x2)], stk := [], hp := [], nx := 0 }
def CSm21 : Cfg := { cs := libCkR, ks := [((14, 21), [(1, none), (2, none), (8, none)])], xs := [((14, 21), [(2, none)])], lps := [] }
theorem CSm21_ok : CfgOK CSm21 := { con := libCkR_ok }
def stSm21 {α : Type} (k : KSm21) (go : KSm21 → α) (ex ret : ESm21 → α) (no : α) : α :=
  if decide (k.x8 < (↑k.x1.drives.length : Int)) = true then
   if 0 ≤ k.x8 then
    if k.x8 < (↑k.x1.drives.length : Int) then
     if decide ((↑(gt { point := { data := #[] : ByteArray }, level := 0, from_ := { node := { data := #[] : ByteArray }, port := 0, point := { data := #[] : ByteArray }, const := { kind := 0, n := 0 : GValue }, delayed := false, initial := { kind := 0, n := 0 : GValue } : GLink } : GDrive } k.x1.drives k.x8.toNat).point.size : Int) > 60) = true then
      ret ⟨(false)⟩
     else
      go ⟨(k.x1), (k.x2), (IntKind.i64.wrap (k.x8 + 1))⟩
    else
     no
   else
    no
  else
   ex ⟨(k.x2)⟩
def stepSm21 (k : KSm21) : Nx KSm21 ESm21 := stSm21 k .go .ex .ret .no
theorem BSm21 (k : KSm21) (m : Nat) (R : St At → Option (Res At)) (K : Xit → St At → Option (Res At)) : B CSm21 14 21 (m + 60) (SSm21 k) R K = stSm21 k (fun k => R (SSm21 k)) (fun x => K (.ex 6) (XSm21 x)) (fun x => K .ret (XSm21 x)) none := by kernel_rfl
def uSm21 (st : St At) : Option KSm21 := match st with
  | ⟨[(1, .ptr 0 0), (2, .bool x2), (8, .int .i64 x8)], [], [(0, .var wx1 false)], 1⟩ => (match ex31 wx1 with | some x1 => some ⟨x1, x2, x8⟩ | _ => none)
  | _ => none
theorem uSm21_spec {st : St At} {k : KSm21} (h : uSm21 st = some k) : st = SSm21 k := by
  unfold uSm21 at h
  split at h
  · split at h
    · rename_i h0
      obtain rfl := Option.some.inj h
      rw [ex31_spec h0]
      rfl
    · cases h
  · cases h
theorem oklSm21 {g : LP} (hg : ∀ st K q, g st K = some q → ∃ k n e, st = SSm21 k ∧ iter stepSm21 n k = some e ∧ e.k 6 XSm21 XSm21 K = some q) : OKL 14 21 g := okl_iter CSm21_ok (S := SSm21) (X := XSm21) (Y := XSm21) (step := stepSm21) (id := 6) (by kernel_rfl) (by kernel_rfl)
  (fun k m R K => by rw [BSm21]; unfold stepSm21 stSm21; simp only [Nx.k_ite]; rfl) (fun k => by kernel_rfl) hg
theorem okfSm21 {g : LP} {fuel : KSm21 → Nat} {ok : KSm21 → Bool} {F : KSm21 → Fx ESm21} (hF : ∀ k, ok k = true → iter stepSm21 (fuel k) k = some (F k)) (hg : ∀ st K, g st K = (match uSm21 st with | some k => if ok k = true then (F k).k 6 XSm21 XSm21 K else none | none => none)) : OKL 14 21 g := oklSm21 fun st K q h => by
  rw [hg] at h
  split at h
  · rename_i k hu
    split at h
    · rename_i hok; exact ⟨k, _, _, uSm21_spec hu, hF k hok, h⟩
    · cases h
  · cases h
abbrev B_Sm21 := Unit
def fSm21 (k : KSm21) (b : B_Sm21) (x : GDrive) : Option (B_Sm21 ⊕ ESm21) :=
  if decide ((↑x.point.size : Int) > 60) = true then
   some (.inr ⟨(false)⟩)
  else
   some (.inl ())
def xSm21 (k : KSm21) (b : B_Sm21) : ESm21 := ⟨(k.x2)⟩
def putSm21 (k : KSm21) (b : B_Sm21) (j : Nat) : KSm21 := ⟨k.x1, k.x2, (j : Int)⟩
def bSm21 (k : KSm21) : B_Sm21 := ()
def oSm21 (k : KSm21) : Option (B_Sm21 ⊕ ESm21) := scanO (fSm21 k) (bSm21 k) k.x1.drives
def okSm21 (k : KSm21) : Bool := decide (k.x8 = 0) && ((Nat.ble k.x1.drives.length 9223372036854775807 && isOO (oSm21 k)))
def FSm21 (k : KSm21) : Fx ESm21 := fxO (xSm21 k) (bSm21 k) (xSm21 k (bSm21 k)) (oSm21 k)
theorem sSm21 (k : KSm21) (hm : k.x1.drives.length ≤ 9223372036854775807) (b : B_Sm21) (j : Nat) (h : j < k.x1.drives.length) : stepSm21 (putSm21 k b j) = nxO (fun b' => putSm21 k b' (j + 1)) (fSm21 k b k.x1.drives[j]) := by
  unfold stepSm21 stSm21 fSm21 putSm21
  dsimp only
  simp only [nxO_ite, cnt' h hm, gtj' _ _ _ h, if_pos (lt1' h), if_pos (lt0' (j := j)), if_pos (lt2' h)]
  rfl
theorem eSm21 (k : KSm21) (b : B_Sm21) : stepSm21 (putSm21 k b k.x1.drives.length) = .ex (xSm21 k b) := by
  unfold stepSm21 stSm21 putSm21
  dsimp only
  rw [if_neg lt3']
  rfl
theorem iSm21 (k : KSm21) (h : okSm21 k = true) : iter stepSm21 (k.x1.drives).length k = some (FSm21 k) := by
  unfold okSm21 at h
  simp only [Bool.and_eq_true, decide_eq_true_eq] at h
  obtain ⟨h0, h2, h3⟩ := h
  replace h2 := Nat.le_of_ble_eq_true h2
  have e : k = putSm21 k (bSm21 k) 0 := by cases k; dsimp only at h0; subst h0; rfl
  have := iter_scanO (step := stepSm21) k.x1.drives (putSm21 k) (fSm21 k) (xSm21 k) (bSm21 k) (xSm21 k (bSm21 k)) (fun b j h => sSm21 k h2 b j h) (fun b => eSm21 k b) k.x1.drives.length 0 (bSm21 k) (by simp) (by rw [List.drop_zero]; exact h3)
  rw [List.drop_zero, ← e] at this
  exact this
def gSm21 : LP := fun st K => match uSm21 st with | some k => if okSm21 k = true then (if isLO (oSm21 k) = true then K (.ex 6) (XSm21 (⟨(k.x2)⟩ : ESm21)) else K .ret (XSm21 (getRO (xSm21 k (bSm21 k)) (oSm21 k)))) else none | none => none
theorem okgSm21 : OKL 14 21 gSm21 := okfSm21 (fuel := fun k => (k.x1.drives).length) (ok := okSm21) (F := FSm21) iSm21 fun st K => by
  unfold gSm21
  cases hu : uSm21 st with
  | none => rfl
  | some k =>
    dsimp only
    split
    · unfold FSm21 fxO
      cases isLO (oSm21 k) <;> rfl
    · rfl
structure KSm16 where
  x1 : GProgram
  x2 : Bool
  x6 : List GLink
  x7 : Int
structure ESm16 where
  x1 : GProgram
  x2 : Bool
def SSm16 (k : KSm16) : St At := { env := [(1, .ptr 0 0), (2, .bool k.x2), (6, .ro 55 k.x6), (7, .int .i64 k.x7)], stk := [], hp := [(0, .var (enc31 k.x1) false)], nx := 1 }
def XSm16 (k : ESm16) : St At := { env := [(1, .ptr 0 0), (2, .bool k.x2)], stk := [], hp := [(0, .var (enc31 k.x1) false)], nx := 1 }
def CSm16 : Cfg := { cs := libCkR, ks := [((14, 16), [(1, none), (2, none), (6, none), (7, none)])], xs := [((14, 16), [(1, none), (2, none)])], lps := [] }
theorem CSm16_ok : CfgOK CSm16 := { con := libCkR_ok }
def stSm16 {α : Type} (k : KSm16) (go : KSm16 → α) (ex ret : ESm16 → α) (no : α) : α :=
  if decide (k.x7 < (↑k.x6.length : Int)) = true then
   if 0 ≤ k.x7 then
    if k.x7 < (↑k.x6.length : Int) then
     if decide ((↑(gt { node := { data := #[] : ByteArray }, port := 0, point := { data := #[] : ByteArray }, const := { kind := 0, n := 0 : GValue }, delayed := false, initial := { kind := 0, n := 0 : GValue } : GLink } k.x6 k.x7.toNat).node.size : Int) > 60) = false then
      if 0 ≤ k.x7 then
       if k.x7 < (↑k.x6.length : Int) then
        if decide ((↑(gt { node := { data := #[] : ByteArray }, port := 0, point := { data := #[] : ByteArray }, const := { kind := 0, n := 0 : GValue }, delayed := false, initial := { kind := 0, n := 0 : GValue } : GLink } k.x6 k.x7.toNat).point.size : Int) > 60) = true then
         ret ⟨(k.x1), (false)⟩
        else
         go ⟨(k.x1), (k.x2), (k.x6), (IntKind.i64.wrap (k.x7 + 1))⟩
       else
        no
      else
       no
     else
      ret ⟨(k.x1), (false)⟩
    else
     no
   else
    no
  else
   ex ⟨(k.x1), (k.x2)⟩
def stepSm16 (k : KSm16) : Nx KSm16 ESm16 := stSm16 k .go .ex .ret .no
theorem BSm16 (k : KSm16) (m : Nat) (R : St At → Option (Res At)) (K : Xit → St At → Option (Res At)) : B CSm16 14 16 (m + 60) (SSm16 k) R K = stSm16 k (fun k => R (SSm16 k)) (fun x => K (.ex 4) (XSm16 x)) (fun x => K .ret (XSm16 x)) none := by kernel_rfl
def uSm16 (st : St At) : Option KSm16 := match st with
  | ⟨[(1, .ptr 0 0), (2, .bool x2), (6, vx6), (7, .int .i64 x7)], [], [(0, .var wx1 false)], 1⟩ => (match ex31 wx1, roV 55 vx6 with | some x1, some x6 => some ⟨x1, x2, x6, x7⟩ | _, _ => none)
  | _ => none
theorem uSm16_spec {st : St At} {k : KSm16} (h : uSm16 st = some k) : st = SSm16 k := by
  unfold uSm16 at h
  split at h
  · split at h
    · rename_i h0 h1
      obtain rfl := Option.some.inj h
      rw [ex31_spec h0, roV_spec h1]
      rfl
    · cases h
  · cases h
theorem oklSm16 {g : LP} (hg : ∀ st K q, g st K = some q → ∃ k n e, st = SSm16 k ∧ iter stepSm16 n k = some e ∧ e.k 4 XSm16 XSm16 K = some q) : OKL 14 16 g := okl_iter CSm16_ok (S := SSm16) (X := XSm16) (Y := XSm16) (step := stepSm16) (id := 4) (by kernel_rfl) (by kernel_rfl)
  (fun k m R K => by rw [BSm16]; unfold stepSm16 stSm16; simp only [Nx.k_ite]; rfl) (fun k => by kernel_rfl) hg
theorem okfSm16 {g : LP} {fuel : KSm16 → Nat} {ok : KSm16 → Bool} {F : KSm16 → Fx ESm16} (hF : ∀ k, ok k = true → iter stepSm16 (fuel k) k = some (F k)) (hg : ∀ st K, g st K = (match uSm16 st with | some k => if ok k = true then (F k).k 4 XSm16 XSm16 K else none | none => none)) : OKL 14 16 g := oklSm16 fun st K q h => by
  rw [hg] at h
  split at h
  · rename_i k hu
    split at h
    · rename_i hok; exact ⟨k, _, _, uSm16_spec hu, hF k hok, h⟩
    · cases h
  · cases h
abbrev B_Sm16 := Unit
def fSm16 (k : KSm16) (b : B_Sm16) (x : GLink) : Option (B_Sm16 ⊕ ESm16) :=
  if decide ((↑x.node.size : Int) > 60) = false then
   if decide ((↑x.point.size : Int) > 60) = true then
    some (.inr ⟨(k.x1), (false)⟩)
   else
    some (.inl ())
  else
   some (.inr ⟨(k.x1), (false)⟩)
def xSm16 (k : KSm16) (b : B_Sm16) : ESm16 := ⟨(k.x1), (k.x2)⟩
def putSm16 (k : KSm16) (b : B_Sm16) (j : Nat) : KSm16 := ⟨k.x1, k.x2, k.x6, (j : Int)⟩
def bSm16 (k : KSm16) : B_Sm16 := ()
def oSm16 (k : KSm16) : Option (B_Sm16 ⊕ ESm16) := scanO (fSm16 k) (bSm16 k) k.x6
def okSm16 (k : KSm16) : Bool := decide (k.x7 = 0) && ((Nat.ble k.x6.length 9223372036854775807 && isOO (oSm16 k)))
def FSm16 (k : KSm16) : Fx ESm16 := fxO (xSm16 k) (bSm16 k) (xSm16 k (bSm16 k)) (oSm16 k)
theorem sSm16 (k : KSm16) (hm : k.x6.length ≤ 9223372036854775807) (b : B_Sm16) (j : Nat) (h : j < k.x6.length) : stepSm16 (putSm16 k b j) = nxO (fun b' => putSm16 k b' (j + 1)) (fSm16 k b k.x6[j]) := by
  unfold stepSm16 stSm16 fSm16 putSm16
  dsimp only
  simp only [nxO_ite, cnt' h hm, gtj' _ _ _ h, if_pos (lt1' h), if_pos (lt0' (j := j)), if_pos (lt2' h)]
  rfl
theorem eSm16 (k : KSm16) (b : B_Sm16) : stepSm16 (putSm16 k b k.x6.length) = .ex (xSm16 k b) := by
  unfold stepSm16 stSm16 putSm16
  dsimp only
  rw [if_neg lt3']
  rfl
theorem iSm16 (k : KSm16) (h : okSm16 k = true) : iter stepSm16 (k.x6).length k = some (FSm16 k) := by
  unfold okSm16 at h
  simp only [Bool.and_eq_true, decide_eq_true_eq] at h
  obtain ⟨h0, h2, h3⟩ := h
  replace h2 := Nat.le_of_ble_eq_true h2
  have e : k = putSm16 k (bSm16 k) 0 := by cases k; dsimp only at h0; subst h0; rfl
  have := iter_scanO (step := stepSm16) k.x6 (putSm16 k) (fSm16 k) (xSm16 k) (bSm16 k) (xSm16 k (bSm16 k)) (fun b j h => sSm16 k h2 b j h) (fun b => eSm16 k b) k.x6.length 0 (bSm16 k) (by simp) (by rw [List.drop_zero]; exact h3)
  rw [List.drop_zero, ← e] at this
  exact this
def gSm16 : LP := fun st K => match uSm16 st with | some k => if okSm16 k = true then (if isLO (oSm16 k) = true then K (.ex 4) (XSm16 (⟨(k.x1), (k.x2)⟩ : ESm16)) else K .ret (XSm16 (getRO (xSm16 k (bSm16 k)) (oSm16 k)))) else none | none => none
theorem okgSm16 : OKL 14 16 gSm16 := okfSm16 (fuel := fun k => (k.x6).length) (ok := okSm16) (F := FSm16) iSm16 fun st K => by
  unfold gSm16
  cases hu : uSm16 st with
  | none => rfl
  | some k =>
    dsimp only
    split
    · unfold FSm16 fxO
      cases isLO (oSm16 k) <;> rfl
    · rfl
structure KSm10 where
  x1 : GProgram
  x2 : Bool
  x3 : Int
  x4 : GNode
  x5 : Int
structure ESm10 where
  x1 : GProgram
  x2 : Bool
  x3 : Int
def SSm10 (k : KSm10) : St At := { env := [(1, .ptr 0 0), (2, .bool k.x2), (3, .int .i64 k.x3), (4, .ptr 1 0), (5, .int .i64 k.x5)], stk := [], hp := [(0, .var (enc31 k.x1) false), (1, .var (enc58 k.x4) false)], nx := 2 }
def XSm10 (k : ESm10) : St At := { env := [(1, .ptr 0 0), (2, .bool k.x2), (3, .int .i64 k.x3)], stk := [], hp := [(0, .var (enc31 k.x1) false)], nx := 1 }
def CSm10 : Cfg := { cs := libCkR, ks := [((14, 10), [(1, none), (2, none), (3, none), (4, none), (5, none)])], xs := [((14, 10), [(1, none), (2, none), (3, none)])], lps := [] }
theorem CSm10_ok : CfgOK CSm10 := { con := libCkR_ok }
def stSm10 {α : Type} (k : KSm10) (go : KSm10 → α) (ex ret : ESm10 → α) (no : α) : α :=
  if decide (k.x5 < (↑k.x4.params.length : Int)) = true then
   if 0 ≤ k.x5 then
    if k.x5 < (↑k.x4.params.length : Int) then
     if decide ((↑(gt { name := { data := #[] : ByteArray }, value := 0 : GParam } k.x4.params k.x5.toNat).name.size : Int) > 60) = true then
      ret ⟨(k.x1), (false), (k.x3)⟩
     else
      go ⟨(k.x1), (k.x2), (k.x3), (k.x4), (IntKind.i64.wrap (k.x5 + 1))⟩
    else
     no
   else
    no
  else
   ex ⟨(k.x1), (k.x2), (k.x3)⟩
def stepSm10 (k : KSm10) : Nx KSm10 ESm10 := stSm10 k .go .ex .ret .no
theorem BSm10 (k : KSm10) (m : Nat) (R : St At → Option (Res At)) (K : Xit → St At → Option (Res At)) : B CSm10 14 10 (m + 60) (SSm10 k) R K = stSm10 k (fun k => R (SSm10 k)) (fun x => K (.ex 2) (XSm10 x)) (fun x => K .ret (XSm10 x)) none := by kernel_rfl
def uSm10 (st : St At) : Option KSm10 := match st with
  | ⟨[(1, .ptr 0 0), (2, .bool x2), (3, .int .i64 x3), (4, .ptr 1 0), (5, .int .i64 x5)], [], [(0, .var wx1 false), (1, .var wx4 false)], 2⟩ => (match ex31 wx1, ex58 wx4 with | some x1, some x4 => some ⟨x1, x2, x3, x4, x5⟩ | _, _ => none)
  | _ => none
theorem uSm10_spec {st : St At} {k : KSm10} (h : uSm10 st = some k) : st = SSm10 k := by
  unfold uSm10 at h
  split at h
  · split at h
    · rename_i h0 h1
      obtain rfl := Option.some.inj h
      rw [ex31_spec h0, ex58_spec h1]
      rfl
    · cases h
  · cases h
theorem oklSm10 {g : LP} (hg : ∀ st K q, g st K = some q → ∃ k n e, st = SSm10 k ∧ iter stepSm10 n k = some e ∧ e.k 2 XSm10 XSm10 K = some q) : OKL 14 10 g := okl_iter CSm10_ok (S := SSm10) (X := XSm10) (Y := XSm10) (step := stepSm10) (id := 2) (by kernel_rfl) (by kernel_rfl)
  (fun k m R K => by rw [BSm10]; unfold stepSm10 stSm10; simp only [Nx.k_ite]; rfl) (fun k => by kernel_rfl) hg
theorem okfSm10 {g : LP} {fuel : KSm10 → Nat} {ok : KSm10 → Bool} {F : KSm10 → Fx ESm10} (hF : ∀ k, ok k = true → iter stepSm10 (fuel k) k = some (F k)) (hg : ∀ st K, g st K = (match uSm10 st with | some k => if ok k = true then (F k).k 2 XSm10 XSm10 K else none | none => none)) : OKL 14 10 g := oklSm10 fun st K q h => by
  rw [hg] at h
  split at h
  · rename_i k hu
    split at h
    · rename_i hok; exact ⟨k, _, _, uSm10_spec hu, hF k hok, h⟩
    · cases h
  · cases h
abbrev B_Sm10 := Unit
def fSm10 (k : KSm10) (b : B_Sm10) (x : GParam) : Option (B_Sm10 ⊕ ESm10) :=
  if decide ((↑x.name.size : Int) > 60) = true then
   some (.inr ⟨(k.x1), (false), (k.x3)⟩)
  else
   some (.inl ())
def xSm10 (k : KSm10) (b : B_Sm10) : ESm10 := ⟨(k.x1), (k.x2), (k.x3)⟩
def putSm10 (k : KSm10) (b : B_Sm10) (j : Nat) : KSm10 := ⟨k.x1, k.x2, k.x3, k.x4, (j : Int)⟩
def bSm10 (k : KSm10) : B_Sm10 := ()
def oSm10 (k : KSm10) : Option (B_Sm10 ⊕ ESm10) := scanO (fSm10 k) (bSm10 k) k.x4.params
def okSm10 (k : KSm10) : Bool := decide (k.x5 = 0) && ((Nat.ble k.x4.params.length 9223372036854775807 && isOO (oSm10 k)))
def FSm10 (k : KSm10) : Fx ESm10 := fxO (xSm10 k) (bSm10 k) (xSm10 k (bSm10 k)) (oSm10 k)
theorem sSm10 (k : KSm10) (hm : k.x4.params.length ≤ 9223372036854775807) (b : B_Sm10) (j : Nat) (h : j < k.x4.params.length) : stepSm10 (putSm10 k b j) = nxO (fun b' => putSm10 k b' (j + 1)) (fSm10 k b k.x4.params[j]) := by
  unfold stepSm10 stSm10 fSm10 putSm10
  dsimp only
  simp only [nxO_ite, cnt' h hm, gtj' _ _ _ h, if_pos (lt1' h), if_pos (lt0' (j := j)), if_pos (lt2' h)]
  rfl
theorem eSm10 (k : KSm10) (b : B_Sm10) : stepSm10 (putSm10 k b k.x4.params.length) = .ex (xSm10 k b) := by
  unfold stepSm10 stSm10 putSm10
  dsimp only
  rw [if_neg lt3']
  rfl
theorem iSm10 (k : KSm10) (h : okSm10 k = true) : iter stepSm10 (k.x4.params).length k = some (FSm10 k) := by
  unfold okSm10 at h
  simp only [Bool.and_eq_true, decide_eq_true_eq] at h
  obtain ⟨h0, h2, h3⟩ := h
  replace h2 := Nat.le_of_ble_eq_true h2
  have e : k = putSm10 k (bSm10 k) 0 := by cases k; dsimp only at h0; subst h0; rfl
  have := iter_scanO (step := stepSm10) k.x4.params (putSm10 k) (fSm10 k) (xSm10 k) (bSm10 k) (xSm10 k (bSm10 k)) (fun b j h => sSm10 k h2 b j h) (fun b => eSm10 k b) k.x4.params.length 0 (bSm10 k) (by simp) (by rw [List.drop_zero]; exact h3)
  rw [List.drop_zero, ← e] at this
  exact this
def gSm10 : LP := fun st K => match uSm10 st with | some k => if okSm10 k = true then (if isLO (oSm10 k) = true then K (.ex 2) (XSm10 (⟨(k.x1), (k.x2), (k.x3)⟩ : ESm10)) else K .ret (XSm10 (getRO (xSm10 k (bSm10 k)) (oSm10 k)))) else none | none => none
theorem okgSm10 : OKL 14 10 gSm10 := okfSm10 (fuel := fun k => (k.x4.params).length) (ok := okSm10) (F := FSm10) iSm10 fun st K => by
  unfold gSm10
  cases hu : uSm10 st with
  | none => rfl
  | some k =>
    dsimp only
    split
    · unfold FSm10 fxO
      cases isLO (oSm10 k) <;> rfl
    · rfl
structure KSm4 where
  x1 : GProgram
  x2 : Bool
  x3 : Int
structure ESm4 where
  x1 : GProgram
  x2 : Bool
def SSm4 (k : KSm4) : St At := { env := [(1, .ptr 0 0), (2, .bool k.x2), (3, .int .i64 k.x3)], stk := [], hp := [(0, .var (enc31 k.x1) false)], nx := 1 }
def XSm4 (k : ESm4) : St At := { env := [(1, .ptr 0 0), (2, .bool k.x2)], stk := [], hp := [(0, .var (enc31 k.x1) false)], nx := 1 }
def CSm4 : Cfg := { cs := libCkR, ks := [((14, 4), [(1, none), (2, none), (3, none)])] ++ CSm10.ks, xs := [((14, 4), [(1, none), (2, none)])] ++ CSm10.xs, lps := [((14, 10), gSm10)] }
theorem CSm4_ok : CfgOK CSm4 := { con := libCkR_ok, lp := .cons okgSm10 .nil }
def stSm4 {α : Type} (k : KSm4) (go : KSm4 → α) (ex ret : ESm4 → α) (no : α) : α :=
  if decide (k.x3 < (↑k.x1.nodes.length : Int)) = true then
   if 0 ≤ k.x3 then
    if k.x3 < (↑k.x1.nodes.length : Int) then
     if decide ((↑(gt { name := { data := #[] : ByteArray }, block := { data := #[] : ByteArray }, params := [], inputs := [] : GNode } k.x1.nodes k.x3.toNat).params.length : Int) > 12) = false then
      if decide ((↑(gt { name := { data := #[] : ByteArray }, block := { data := #[] : ByteArray }, params := [], inputs := [] : GNode } k.x1.nodes k.x3.toNat).inputs.length : Int) > 12) = false then
       if decide ((↑(gt { name := { data := #[] : ByteArray }, block := { data := #[] : ByteArray }, params := [], inputs := [] : GNode } k.x1.nodes k.x3.toNat).name.size : Int) > 60) = false then
        if decide ((↑(gt { name := { data := #[] : ByteArray }, block := { data := #[] : ByteArray }, params := [], inputs := [] : GNode } k.x1.nodes k.x3.toNat).block.size : Int) > 60) = true then
         ret ⟨(k.x1), (false)⟩
        else
         if okSm10 { x1 := k.x1, x2 := k.x2, x3 := k.x3, x4 := gt { name := { data := #[] : ByteArray }, block := { data := #[] : ByteArray }, params := [], inputs := [] : GNode } k.x1.nodes k.x3.toNat, x5 := 0 : KSm10 } = true then
          if isLO (oSm10 { x1 := k.x1, x2 := k.x2, x3 := k.x3, x4 := gt { name := { data := #[] : ByteArray }, block := { data := #[] : ByteArray }, params := [], inputs := [] : GNode } k.x1.nodes k.x3.toNat, x5 := 0 : KSm10 }) = true then
           go ⟨(k.x1), (k.x2), (IntKind.i64.wrap (k.x3 + 1))⟩
          else
           ret ⟨((getRO (xSm10 { x1 := k.x1, x2 := k.x2, x3 := k.x3, x4 := gt { name := { data := #[] : ByteArray }, block := { data := #[] : ByteArray }, params := [], inputs := [] : GNode } k.x1.nodes k.x3.toNat, x5 := 0 : KSm10 } (bSm10 { x1 := k.x1, x2 := k.x2, x3 := k.x3, x4 := gt { name := { data := #[] : ByteArray }, block := { data := #[] : ByteArray }, params := [], inputs := [] : GNode } k.x1.nodes k.x3.toNat, x5 := 0 : KSm10 })) (oSm10 { x1 := k.x1, x2 := k.x2, x3 := k.x3, x4 := gt { name := { data := #[] : ByteArray }, block := { data := #[] : ByteArray }, params := [], inputs := [] : GNode } k.x1.nodes k.x3.toNat, x5 := 0 : KSm10 })).x1), ((getRO (xSm10 { x1 := k.x1, x2 := k.x2, x3 := k.x3, x4 := gt { name := { data := #[] : ByteArray }, block := { data := #[] : ByteArray }, params := [], inputs := [] : GNode } k.x1.nodes k.x3.toNat, x5 := 0 : KSm10 } (bSm10 { x1 := k.x1, x2 := k.x2, x3 := k.x3, x4 := gt { name := { data := #[] : ByteArray }, block := { data := #[] : ByteArray }, params := [], inputs := [] : GNode } k.x1.nodes k.x3.toNat, x5 := 0 : KSm10 })) (oSm10 { x1 := k.x1, x2 := k.x2, x3 := k.x3, x4 := gt { name := { data := #[] : ByteArray }, block := { data := #[] : ByteArray }, params := [], inputs := [] : GNode } k.x1.nodes k.x3.toNat, x5 := 0 : KSm10 })).x2)⟩
         else
          no
       else
        ret ⟨(k.x1), (false)⟩
      else
       ret ⟨(k.x1), (false)⟩
     else
      ret ⟨(k.x1), (false)⟩
    else
     no
   else
    no
  else
   ex ⟨(k.x1), (k.x2)⟩
def stepSm4 (k : KSm4) : Nx KSm4 ESm4 := stSm4 k .go .ex .ret .no
theorem BSm4 (k : KSm4) (m : Nat) (R : St At → Option (Res At)) (K : Xit → St At → Option (Res At)) : B CSm4 14 4 (m + 60) (SSm4 k) R K = stSm4 k (fun k => R (SSm4 k)) (fun x => K (.ex 0) (XSm4 x)) (fun x => K .ret (XSm4 x)) none := by kernel_rfl
def uSm4 (st : St At) : Option KSm4 := match st with
  | ⟨[(1, .ptr 0 0), (2, .bool x2), (3, .int .i64 x3)], [], [(0, .var wx1 false)], 1⟩ => (match ex31 wx1 with | some x1 => some ⟨x1, x2, x3⟩ | _ => none)
  | _ => none
theorem uSm4_spec {st : St At} {k : KSm4} (h : uSm4 st = some k) : st = SSm4 k := by
  unfold uSm4 at h
  split at h
  · split at h
    · rename_i h0
      obtain rfl := Option.some.inj h
      rw [ex31_spec h0]
      rfl
    · cases h
  · cases h
theorem oklSm4 {g : LP} (hg : ∀ st K q, g st K = some q → ∃ k n e, st = SSm4 k ∧ iter stepSm4 n k = some e ∧ e.k 0 XSm4 XSm4 K = some q) : OKL 14 4 g := okl_iter CSm4_ok (S := SSm4) (X := XSm4) (Y := XSm4) (step := stepSm4) (id := 0) (by kernel_rfl) (by kernel_rfl)
  (fun k m R K => by rw [BSm4]; unfold stepSm4 stSm4; simp only [Nx.k_ite]; rfl) (fun k => by kernel_rfl) hg
theorem okfSm4 {g : LP} {fuel : KSm4 → Nat} {ok : KSm4 → Bool} {F : KSm4 → Fx ESm4} (hF : ∀ k, ok k = true → iter stepSm4 (fuel k) k = some (F k)) (hg : ∀ st K, g st K = (match uSm4 st with | some k => if ok k = true then (F k).k 0 XSm4 XSm4 K else none | none => none)) : OKL 14 4 g := oklSm4 fun st K q h => by
  rw [hg] at h
  split at h
  · rename_i k hu
    split at h
    · rename_i hok; exact ⟨k, _, _, uSm4_spec hu, hF k hok, h⟩
    · cases h
  · cases h
abbrev B_Sm4 := Unit
def fSm4 (k : KSm4) (b : B_Sm4) (p : GNode × Nat) : Option (B_Sm4 ⊕ ESm4) :=
  if decide ((↑p.1.params.length : Int) > 12) = false then
   if decide ((↑p.1.inputs.length : Int) > 12) = false then
    if decide ((↑p.1.name.size : Int) > 60) = false then
     if decide ((↑p.1.block.size : Int) > 60) = true then
      some (.inr ⟨(k.x1), (false)⟩)
     else
      if okSm10 { x1 := k.x1, x2 := k.x2, x3 := (p.2 : Int), x4 := p.1, x5 := 0 : KSm10 } = true then
       if isLO (oSm10 { x1 := k.x1, x2 := k.x2, x3 := (p.2 : Int), x4 := p.1, x5 := 0 : KSm10 }) = true then
        some (.inl ())
       else
        some (.inr ⟨((getRO (xSm10 { x1 := k.x1, x2 := k.x2, x3 := (p.2 : Int), x4 := p.1, x5 := 0 : KSm10 } (bSm10 { x1 := k.x1, x2 := k.x2, x3 := (p.2 : Int), x4 := p.1, x5 := 0 : KSm10 })) (oSm10 { x1 := k.x1, x2 := k.x2, x3 := (p.2 : Int), x4 := p.1, x5 := 0 : KSm10 })).x1), ((getRO (xSm10 { x1 := k.x1, x2 := k.x2, x3 := (p.2 : Int), x4 := p.1, x5 := 0 : KSm10 } (bSm10 { x1 := k.x1, x2 := k.x2, x3 := (p.2 : Int), x4 := p.1, x5 := 0 : KSm10 })) (oSm10 { x1 := k.x1, x2 := k.x2, x3 := (p.2 : Int), x4 := p.1, x5 := 0 : KSm10 })).x2)⟩)
      else
       none
    else
     some (.inr ⟨(k.x1), (false)⟩)
   else
    some (.inr ⟨(k.x1), (false)⟩)
  else
   some (.inr ⟨(k.x1), (false)⟩)
def xSm4 (k : KSm4) (b : B_Sm4) : ESm4 := ⟨(k.x1), (k.x2)⟩
def putSm4 (k : KSm4) (b : B_Sm4) (j : Nat) : KSm4 := ⟨k.x1, k.x2, (j : Int)⟩
def bSm4 (k : KSm4) : B_Sm4 := ()
def oSm4 (k : KSm4) : Option (B_Sm4 ⊕ ESm4) := scanO (fSm4 k) (bSm4 k) (k.x1.nodes.zipIdx)
def okSm4 (k : KSm4) : Bool := decide (k.x3 = 0) && ((Nat.ble k.x1.nodes.length 9223372036854775807 && isOO (oSm4 k)))
def FSm4 (k : KSm4) : Fx ESm4 := fxO (xSm4 k) (bSm4 k) (xSm4 k (bSm4 k)) (oSm4 k)
theorem sSm4 (k : KSm4) (hm : k.x1.nodes.length ≤ 9223372036854775807) (b : B_Sm4) (j : Nat) (h : j < k.x1.nodes.length) : stepSm4 (putSm4 k b j) = nxO (fun b' => putSm4 k b' (j + 1)) (fSm4 k b (k.x1.nodes[j], j)) := by
  unfold stepSm4 stSm4 fSm4 putSm4
  dsimp only
  simp only [nxO_ite, cnt' h hm, gtj' _ _ _ h, if_pos (lt1' h), if_pos (lt0' (j := j)), if_pos (lt2' h)]
  rfl
theorem eSm4 (k : KSm4) (b : B_Sm4) : stepSm4 (putSm4 k b k.x1.nodes.length) = .ex (xSm4 k b) := by
  unfold stepSm4 stSm4 putSm4
  dsimp only
  rw [if_neg lt3']
  rfl
theorem iSm4 (k : KSm4) (h : okSm4 k = true) : iter stepSm4 (k.x1.nodes.zipIdx).length k = some (FSm4 k) := by
  unfold okSm4 at h
  simp only [Bool.and_eq_true, decide_eq_true_eq] at h
  obtain ⟨h0, h2, h3⟩ := h
  replace h2 := Nat.le_of_ble_eq_true h2
  have e : k = putSm4 k (bSm4 k) 0 := by cases k; dsimp only at h0; subst h0; rfl
  have := iter_scanO (step := stepSm4) (k.x1.nodes.zipIdx) (putSm4 k) (fSm4 k) (xSm4 k) (bSm4 k) (xSm4 k (bSm4 k)) (fun b j h => (by rw [show (k.x1.nodes.zipIdx)[j] = (k.x1.nodes[j]'(by simpa using h), j) by simp]; exact sSm4 k h2 b j (by simpa using h))) (fun b => (by rw [show (k.x1.nodes.zipIdx).length = k.x1.nodes.length by simp]; exact eSm4 k b)) (k.x1.nodes.zipIdx).length 0 (bSm4 k) (by simp) (by rw [List.drop_zero]; exact h3)
  rw [List.drop_zero, ← e] at this
  exact this
def gSm4 : LP := fun st K => match uSm4 st with | some k => if okSm4 k = true then (if isLO (oSm4 k) = true then K (.ex 0) (XSm4 (⟨(k.x1), (k.x2)⟩ : ESm4)) else K .ret (XSm4 (getRO (xSm4 k (bSm4 k)) (oSm4 k)))) else none | none => none
theorem okgSm4 : OKL 14 4 gSm4 := okfSm4 (fuel := fun k => (k.x1.nodes.zipIdx).length) (ok := okSm4) (F := FSm4) iSm4 fun st K => by
  unfold gSm4
  cases hu : uSm4 st with
  | none => rfl
  | some k =>
    dsimp only
    split
    · unfold FSm4 fxO
      cases isLO (oSm4 k) <;> rfl
    · rfl
def CSm : Cfg := { cs := libCkR, ks := CSm21.ks ++ CSm16.ks ++ CSm4.ks, xs := CSm21.xs ++ CSm16.xs ++ CSm4.xs, lps := [((14, 21), gSm21), ((14, 16), gSm16), ((14, 4), gSm4)] }
theorem CSm_ok : CfgOK CSm := { con := libCkR_ok, lp := .cons okgSm21 (.cons okgSm16 (.cons okgSm4 .nil)) }
def RSm (a0 : GProgram) : Option (Res At) :=
  if decide (IntKind.i64.wrap ((↑a0.nodes.length : Int) + (↑a0.drives.length : Int)) > 80) = false then
   if decide ((↑a0.name.size : Int) > 60) = true then
    some ((.bool false), [])
   else
    if okSm4 { x1 := a0, x2 := false, x3 := 0 : KSm4 } = true then
     if isLO (oSm4 { x1 := a0, x2 := false, x3 := 0 : KSm4 }) = true then
      if cLkR a0 = true then
       if okSm16 { x1 := a0, x2 := false, x6 := vLkR a0, x7 := 0 : KSm16 } = true then
        if isLO (oSm16 { x1 := a0, x2 := false, x6 := vLkR a0, x7 := 0 : KSm16 }) = true then
         if okSm21 { x1 := a0, x2 := false, x8 := 0 : KSm21 } = true then
          if isLO (oSm21 { x1 := a0, x2 := false, x8 := 0 : KSm21 }) = true then
           some ((.bool true), [])
          else
           some ((.bool ((getRO (xSm21 { x1 := a0, x2 := false, x8 := 0 : KSm21 } (bSm21 { x1 := a0, x2 := false, x8 := 0 : KSm21 })) (oSm21 { x1 := a0, x2 := false, x8 := 0 : KSm21 })).x2)), [])
         else
          none
        else
         some ((.bool ((getRO (xSm16 { x1 := a0, x2 := false, x6 := vLkR a0, x7 := 0 : KSm16 } (bSm16 { x1 := a0, x2 := false, x6 := vLkR a0, x7 := 0 : KSm16 })) (oSm16 { x1 := a0, x2 := false, x6 := vLkR a0, x7 := 0 : KSm16 })).x2)), [])
       else
        none
      else
       none
     else
      some ((.bool ((getRO (xSm4 { x1 := a0, x2 := false, x3 := 0 : KSm4 } (bSm4 { x1 := a0, x2 := false, x3 := 0 : KSm4 })) (oSm4 { x1 := a0, x2 := false, x3 := 0 : KSm4 })).x2)), [])
    else
     none
  else
   some ((.bool false), [])
theorem run_RSm (a0 : GProgram) : runF CSm 80 14 [.agg (enc31 a0)] = RSm a0 := by kernel_rfl
def oSm (a0 : GProgram) : Option (Res At) := crR [none] (RSm a0)
def vSm (a0 : GProgram) : Bool := valO rB false (oSm a0)
def cSm (a0 : GProgram) : Bool := okO rB (oSm a0)
def conSm : CON := on1 (rA ex31 enc31 fun _ _ h => ex31_spec h) fun a0 => some (cSm a0, (.bool (vSm a0), []))
theorem okSm : OK 14 conSm := okc1 CSm_ok (n := 80) (ts := [none]) (a := (rA ex31 enc31 fun _ _ h => ex31_spec h)) (r := rB) (d := false) (R := fun a0 => RSm a0) (by kernel_rfl) fun a0 => run_RSm a0
def libSm : List (Nat × CON) := (14, conSm) :: libCkR
theorem libSm_ok : AllOK libSm := .cons okSm libCkR_ok
end
end Go.Proofs.YtpbpebjfglfjfaaGreatDoor.X
/-! The law of Check. -/
namespace Go.Proofs.YtpbpebjfglfjfaaGreatDoor.X
open Go Go.Proofs Go.RowKit Go.Proofs.YtpbpebjfglfjfaaGreatDoor
noncomputable section
def libAw := (9, conAwake) :: libSm
theorem libAw_ok : AllOK libAw := .cons okAwake libSm_ok
end
end Go.Proofs.YtpbpebjfglfjfaaGreatDoor.X
