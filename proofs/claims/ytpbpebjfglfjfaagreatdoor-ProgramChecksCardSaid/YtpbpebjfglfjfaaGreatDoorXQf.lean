/-
  Check, of the reference.
-/
import Derived.Test.YtpbpebjfglfjfaaGreatDoorXQe
set_option autoImplicit false
set_option linter.unusedVariables false
set_option linter.unusedSimpArgs false
set_option maxRecDepth 100000
namespace Go.Proofs.YtpbpebjfglfjfaaGreatDoor.X
open Go Go.Proofs Go.RowKit Go.Proofs.YtpbpebjfglfjfaaGreatDoor
noncomputable section
structure KNs38 where
  x1 : GProgram
  x2 : Int
  x10 : Int
  x11 : Int
structure ENs38 where
  x1 : GProgram
  x2 : Int
  x10 : Int
def SNs38 (k : KNs38) : St At := { env := [(1, .ptr 0 0), (2, .int .i64 k.x2), (10, .int .i64 k.x10), (11, .int .i64 k.x11)], stk := [], hp := [(0, .var (enc31 k.x1) false)], nx := 1 }
def XNs38 (k : ENs38) : St At := { env := [(1, .ptr 0 0), (2, .int .i64 k.x2), (10, .int .i64 k.x10)], stk := [], hp := [(0, .var (enc31 k.x1) false)], nx := 1 }
def CNs38 : Cfg := { cs := libCk, ks := [((64, 38), [(1, none), (2, none), (10, none), (11, none)])], xs := [((64, 38), [(1, none), (2, none), (10, none)])], lps := [] }
theorem CNs38_ok : CfgOK CNs38 := { con := libCk_ok }
def stNs38 {α : Type} (k : KNs38) (go : KNs38 → α) (ex ret : ENs38 → α) (no : α) : α :=
  if decide (k.x11 < k.x10) = true then
   if 0 ≤ k.x11 then
    if k.x11 < (↑k.x1.drives.length : Int) then
     if 0 ≤ k.x10 then
      if k.x10 < (↑k.x1.drives.length : Int) then
       if eqB (gt { point := { data := #[] : ByteArray }, level := 0, from_ := { node := { data := #[] : ByteArray }, port := 0, point := { data := #[] : ByteArray }, const := { kind := 0, n := 0 : GValue }, delayed := false, initial := { kind := 0, n := 0 : GValue } : GLink } : GDrive } k.x1.drives k.x11.toNat).point (gt { point := { data := #[] : ByteArray }, level := 0, from_ := { node := { data := #[] : ByteArray }, port := 0, point := { data := #[] : ByteArray }, const := { kind := 0, n := 0 : GValue }, delayed := false, initial := { kind := 0, n := 0 : GValue } : GLink } : GDrive } k.x1.drives k.x10.toNat).point = true then
        ret ⟨(k.x1), (5), (k.x10)⟩
       else
        go ⟨(k.x1), (k.x2), (k.x10), (IntKind.i64.wrap (k.x11 + 1))⟩
      else
       no
     else
      no
    else
     no
   else
    no
  else
   ex ⟨(k.x1), (k.x2), (k.x10)⟩
def stepNs38 (k : KNs38) : Nx KNs38 ENs38 := stNs38 k .go .ex .ret .no
theorem BNs38 (k : KNs38) (m : Nat) (R : St At → Option (Res At)) (K : Xit → St At → Option (Res At)) : B CNs38 64 38 (m + 60) (SNs38 k) R K = stNs38 k (fun k => R (SNs38 k)) (fun x => K (.ex 12) (XNs38 x)) (fun x => K .ret (XNs38 x)) none := by kernel_rfl
def uNs38 (st : St At) : Option KNs38 := match st with
  | ⟨[(1, .ptr 0 0), (2, .int .i64 x2), (10, .int .i64 x10), (11, .int .i64 x11)], [], [(0, .var wx1 false)], 1⟩ => (match ex31 wx1 with | some x1 => some ⟨x1, x2, x10, x11⟩ | _ => none)
  | _ => none
theorem uNs38_spec {st : St At} {k : KNs38} (h : uNs38 st = some k) : st = SNs38 k := by
  unfold uNs38 at h
  split at h
  · split at h
    · rename_i h0
      obtain rfl := Option.some.inj h
      rw [ex31_spec h0]
      rfl
    · cases h
  · cases h
theorem oklNs38 {g : LP} (hg : ∀ st K q, g st K = some q → ∃ k n e, st = SNs38 k ∧ iter stepNs38 n k = some e ∧ e.k 12 XNs38 XNs38 K = some q) : OKL 64 38 g := okl_iter CNs38_ok (S := SNs38) (X := XNs38) (Y := XNs38) (step := stepNs38) (id := 12) (by kernel_rfl) (by kernel_rfl)
  (fun k m R K => by rw [BNs38]; unfold stepNs38 stNs38; simp only [Nx.k_ite]; rfl) (fun k => by kernel_rfl) hg
/-- the contract out of a closed form -/
theorem okfNs38 {g : LP} {fuel : KNs38 → Nat} {ok : KNs38 → Bool} {F : KNs38 → Fx ENs38} (hF : ∀ k, ok k = true → iter stepNs38 (fuel k) k = some (F k)) (hg : ∀ st K, g st K = (match uNs38 st with | some k => if ok k = true then (F k).k 12 XNs38 XNs38 K else none | none => none)) : OKL 64 38 g := oklNs38 fun st K q h => by
  rw [hg] at h
  split at h
  · rename_i k hu
    split at h
    · rename_i hok; exact ⟨k, _, _, uNs38_spec hu, hF k hok, h⟩
    · cases h
  · cases h
structure B_Ns38 where
  x11 : Int
abbrev P_Ns38 := Unit
structure Q_Ns38 where
  x2 : Int
def putNs38 (k : KNs38) (b : B_Ns38) : KNs38 := ⟨k.x1, k.x2, k.x10, b.x11⟩
def bNs38 (k : KNs38) : B_Ns38 := ⟨k.x11⟩
def xeNs38 (k : KNs38) (e : P_Ns38) : ENs38 := ⟨k.x1, k.x2, k.x10⟩
def xrNs38 (k : KNs38) (e : Q_Ns38) : ENs38 := ⟨k.x1, e.x2, k.x10⟩
def sNs38 (k : KNs38) (b : B_Ns38) : Nx2 B_Ns38 P_Ns38 Q_Ns38 := stNs38 (putNs38 k b) (fun k => .go ⟨k.x11⟩) (fun k => .ex ()) (fun k => .ret ⟨k.x2⟩) .no
def iNs38 (k : KNs38) : Option (P_Ns38 ⊕ Q_Ns38) := iter2 (sNs38 k) (k.x1.drives.length) (bNs38 k)
def okNs38 (k : KNs38) : Bool := isO (iNs38 k)
def FNs38 (k : KNs38) : Fx ENs38 := if isLO (iNs38 k) = true then .ex (xeNs38 k (getLO () (iNs38 k))) else .ret (xrNs38 k (getRO ⟨k.x2⟩ (iNs38 k)))
theorem hNs38 (k : KNs38) (b : B_Ns38) : stepNs38 (putNs38 k b) = (sNs38 k b).up (putNs38 k) (xeNs38 k) (xrNs38 k) := by
  unfold stepNs38 sNs38 stNs38 putNs38
  dsimp only
  simp only [Nx2.up_ite]
  rfl
theorem iNs38_ok (k : KNs38) (h : okNs38 k = true) : iter stepNs38 (k.x1.drives.length) k = some (FNs38 k) := iter2_ok (bNs38 k) (hNs38 k) h
def gNs38 : LP := fun st K => match uNs38 st with | some k => if okNs38 k = true then (if isLO (iNs38 k) = true then K (.ex 12) (XNs38 (⟨k.x1, k.x2, k.x10⟩ : ENs38)) else K .ret (XNs38 (⟨k.x1, (getRO ⟨k.x2⟩ (iNs38 k)).x2, k.x10⟩ : ENs38))) else none | none => none
theorem okgNs38 : OKL 64 38 gNs38 := okfNs38 (fuel := fun k => k.x1.drives.length) (ok := okNs38) (F := FNs38) iNs38_ok fun st K => by
  unfold gNs38
  cases hu : uNs38 st with
  | none => rfl
  | some k =>
    dsimp only
    split
    · unfold FNs38
      cases isLO (iNs38 k) <;> rfl
    · rfl
structure KNs30 where
  x1 : GProgram
  x2 : Int
  x8 : Int
  x9 : Int
structure ENs30 where
  x1 : GProgram
  x2 : Int
  x8 : Int
def SNs30 (k : KNs30) : St At := { env := [(1, .ptr 0 0), (2, .int .i64 k.x2), (8, .int .i64 k.x8), (9, .int .i64 k.x9)], stk := [], hp := [(0, .var (enc31 k.x1) false)], nx := 1 }
def XNs30 (k : ENs30) : St At := { env := [(1, .ptr 0 0), (2, .int .i64 k.x2), (8, .int .i64 k.x8)], stk := [], hp := [(0, .var (enc31 k.x1) false)], nx := 1 }
def CNs30 : Cfg := { cs := libCk, ks := [((64, 30), [(1, none), (2, none), (8, none), (9, none)])], xs := [((64, 30), [(1, none), (2, none), (8, none)])], lps := [] }
theorem CNs30_ok : CfgOK CNs30 := { con := libCk_ok }
def stNs30 {α : Type} (k : KNs30) (go : KNs30 → α) (ex ret : ENs30 → α) (no : α) : α :=
  if 0 ≤ k.x8 then
   if k.x8 < (↑k.x1.nodes.length : Int) then
    if decide (k.x9 < (↑(gt { name := { data := #[] : ByteArray }, block := { data := #[] : ByteArray }, params := [], inputs := [] : GNode } k.x1.nodes k.x8.toNat).params.length : Int)) = true then
     if 0 ≤ k.x8 then
      if k.x8 < (↑k.x1.nodes.length : Int) then
       if 0 ≤ IntKind.i64.wrap (k.x9 - 1) then
        if IntKind.i64.wrap (k.x9 - 1) < (↑(gt { name := { data := #[] : ByteArray }, block := { data := #[] : ByteArray }, params := [], inputs := [] : GNode } k.x1.nodes k.x8.toNat).params.length : Int) then
         if 0 ≤ k.x8 then
          if k.x8 < (↑k.x1.nodes.length : Int) then
           if 0 ≤ k.x9 then
            if k.x9 < (↑(gt { name := { data := #[] : ByteArray }, block := { data := #[] : ByteArray }, params := [], inputs := [] : GNode } k.x1.nodes k.x8.toNat).params.length : Int) then
             if (!ltB (gt { name := { data := #[] : ByteArray }, value := 0 : GParam } (gt { name := { data := #[] : ByteArray }, block := { data := #[] : ByteArray }, params := [], inputs := [] : GNode } k.x1.nodes k.x8.toNat).params (IntKind.i64.wrap (k.x9 - 1)).toNat).name (gt { name := { data := #[] : ByteArray }, value := 0 : GParam } (gt { name := { data := #[] : ByteArray }, block := { data := #[] : ByteArray }, params := [], inputs := [] : GNode } k.x1.nodes k.x8.toNat).params k.x9.toNat).name) = true then
              ret ⟨(k.x1), (5), (k.x8)⟩
             else
              go ⟨(k.x1), (k.x2), (k.x8), (IntKind.i64.wrap (k.x9 + 1))⟩
            else
             no
           else
            no
          else
           no
         else
          no
        else
         no
       else
        no
      else
       no
     else
      no
    else
     ex ⟨(k.x1), (k.x2), (k.x8)⟩
   else
    no
  else
   no
def stepNs30 (k : KNs30) : Nx KNs30 ENs30 := stNs30 k .go .ex .ret .no
theorem BNs30 (k : KNs30) (m : Nat) (R : St At → Option (Res At)) (K : Xit → St At → Option (Res At)) : B CNs30 64 30 (m + 60) (SNs30 k) R K = stNs30 k (fun k => R (SNs30 k)) (fun x => K (.ex 8) (XNs30 x)) (fun x => K .ret (XNs30 x)) none := by kernel_rfl
def uNs30 (st : St At) : Option KNs30 := match st with
  | ⟨[(1, .ptr 0 0), (2, .int .i64 x2), (8, .int .i64 x8), (9, .int .i64 x9)], [], [(0, .var wx1 false)], 1⟩ => (match ex31 wx1 with | some x1 => some ⟨x1, x2, x8, x9⟩ | _ => none)
  | _ => none
theorem uNs30_spec {st : St At} {k : KNs30} (h : uNs30 st = some k) : st = SNs30 k := by
  unfold uNs30 at h
  split at h
  · split at h
    · rename_i h0
      obtain rfl := Option.some.inj h
      rw [ex31_spec h0]
      rfl
    · cases h
  · cases h
theorem oklNs30 {g : LP} (hg : ∀ st K q, g st K = some q → ∃ k n e, st = SNs30 k ∧ iter stepNs30 n k = some e ∧ e.k 8 XNs30 XNs30 K = some q) : OKL 64 30 g := okl_iter CNs30_ok (S := SNs30) (X := XNs30) (Y := XNs30) (step := stepNs30) (id := 8) (by kernel_rfl) (by kernel_rfl)
  (fun k m R K => by rw [BNs30]; unfold stepNs30 stNs30; simp only [Nx.k_ite]; rfl) (fun k => by kernel_rfl) hg
/-- the contract out of a closed form -/
theorem okfNs30 {g : LP} {fuel : KNs30 → Nat} {ok : KNs30 → Bool} {F : KNs30 → Fx ENs30} (hF : ∀ k, ok k = true → iter stepNs30 (fuel k) k = some (F k)) (hg : ∀ st K, g st K = (match uNs30 st with | some k => if ok k = true then (F k).k 8 XNs30 XNs30 K else none | none => none)) : OKL 64 30 g := oklNs30 fun st K q h => by
  rw [hg] at h
  split at h
  · rename_i k hu
    split at h
    · rename_i hok; exact ⟨k, _, _, uNs30_spec hu, hF k hok, h⟩
    · cases h
  · cases h
structure B_Ns30 where
  x9 : Int
abbrev P_Ns30 := Unit
structure Q_Ns30 where
  x2 : Int
def putNs30 (k : KNs30) (b : B_Ns30) : KNs30 := ⟨k.x1, k.x2, k.x8, b.x9⟩
def bNs30 (k : KNs30) : B_Ns30 := ⟨k.x9⟩
def xeNs30 (k : KNs30) (e : P_Ns30) : ENs30 := ⟨k.x1, k.x2, k.x8⟩
def xrNs30 (k : KNs30) (e : Q_Ns30) : ENs30 := ⟨k.x1, e.x2, k.x8⟩
def sNs30 (k : KNs30) (b : B_Ns30) : Nx2 B_Ns30 P_Ns30 Q_Ns30 := stNs30 (putNs30 k b) (fun k => .go ⟨k.x9⟩) (fun k => .ex ()) (fun k => .ret ⟨k.x2⟩) .no
def iNs30 (k : KNs30) : Option (P_Ns30 ⊕ Q_Ns30) := iter2 (sNs30 k) ((gt ((ptT 58).d : GNode) k.x1.nodes k.x8.toNat).params.length) (bNs30 k)
def okNs30 (k : KNs30) : Bool := isO (iNs30 k)
def FNs30 (k : KNs30) : Fx ENs30 := if isLO (iNs30 k) = true then .ex (xeNs30 k (getLO () (iNs30 k))) else .ret (xrNs30 k (getRO ⟨k.x2⟩ (iNs30 k)))
theorem hNs30 (k : KNs30) (b : B_Ns30) : stepNs30 (putNs30 k b) = (sNs30 k b).up (putNs30 k) (xeNs30 k) (xrNs30 k) := by
  unfold stepNs30 sNs30 stNs30 putNs30
  dsimp only
  simp only [Nx2.up_ite]
  rfl
theorem iNs30_ok (k : KNs30) (h : okNs30 k = true) : iter stepNs30 ((gt ((ptT 58).d : GNode) k.x1.nodes k.x8.toNat).params.length) k = some (FNs30 k) := iter2_ok (bNs30 k) (hNs30 k) h
def gNs30 : LP := fun st K => match uNs30 st with | some k => if okNs30 k = true then (if isLO (iNs30 k) = true then K (.ex 8) (XNs30 (⟨k.x1, k.x2, k.x8⟩ : ENs30)) else K .ret (XNs30 (⟨k.x1, (getRO ⟨k.x2⟩ (iNs30 k)).x2, k.x8⟩ : ENs30))) else none | none => none
theorem okgNs30 : OKL 64 30 gNs30 := okfNs30 (fuel := fun k => (gt ((ptT 58).d : GNode) k.x1.nodes k.x8.toNat).params.length) (ok := okNs30) (F := FNs30) iNs30_ok fun st K => by
  unfold gNs30
  cases hu : uNs30 st with
  | none => rfl
  | some k =>
    dsimp only
    split
    · unfold FNs30
      cases isLO (iNs30 k) <;> rfl
    · rfl
structure KNs19 where
  x1 : GProgram
  x2 : Int
  x6 : Int
structure ENs19 where
  x1 : GProgram
  x2 : Int
def SNs19 (k : KNs19) : St At := { env := [(1, .ptr 0 0), (2, .int .i64 k.x2), (6, .int .i64 k.x6)], stk := [], hp := [(0, .var (enc31 k.x1) false)], nx := 1 }
def XNs19 (k : ENs19) : St At := { env := [(1, .ptr 0 0), (2, .int .i64 k.x2)], stk := [], hp := [(0, .var (enc31 k.x1) false)], nx := 1 }
def CNs19 : Cfg := { cs := libCk, ks := [((64, 19), [(1, none), (2, none), (6, none)])], xs := [((64, 19), [(1, none), (2, none)])], lps := [] }
theorem CNs19_ok : CfgOK CNs19 := { con := libCk_ok }
def stNs19 {α : Type} (k : KNs19) (go : KNs19 → α) (ex ret : ENs19 → α) (no : α) : α :=
  if decide (k.x6 < (↑k.x1.drives.length : Int)) = true then
   if 0 ≤ k.x6 then
    if k.x6 < (↑k.x1.drives.length : Int) then
     if decide ((gt { point := { data := #[] : ByteArray }, level := 0, from_ := { node := { data := #[] : ByteArray }, port := 0, point := { data := #[] : ByteArray }, const := { kind := 0, n := 0 : GValue }, delayed := false, initial := { kind := 0, n := 0 : GValue } : GLink } : GDrive } k.x1.drives k.x6.toNat).level < 1) = false then
      if decide ((gt { point := { data := #[] : ByteArray }, level := 0, from_ := { node := { data := #[] : ByteArray }, port := 0, point := { data := #[] : ByteArray }, const := { kind := 0, n := 0 : GValue }, delayed := false, initial := { kind := 0, n := 0 : GValue } : GLink } : GDrive } k.x1.drives k.x6.toNat).level > 16) = false then
       if decide ((gt { point := { data := #[] : ByteArray }, level := 0, from_ := { node := { data := #[] : ByteArray }, port := 0, point := { data := #[] : ByteArray }, const := { kind := 0, n := 0 : GValue }, delayed := false, initial := { kind := 0, n := 0 : GValue } : GLink } : GDrive } k.x1.drives k.x6.toNat).level = 1) = false then
        if decide ((gt { point := { data := #[] : ByteArray }, level := 0, from_ := { node := { data := #[] : ByteArray }, port := 0, point := { data := #[] : ByteArray }, const := { kind := 0, n := 0 : GValue }, delayed := false, initial := { kind := 0, n := 0 : GValue } : GLink } : GDrive } k.x1.drives k.x6.toNat).level = 2) = false then
         if decide ((gt { point := { data := #[] : ByteArray }, level := 0, from_ := { node := { data := #[] : ByteArray }, port := 0, point := { data := #[] : ByteArray }, const := { kind := 0, n := 0 : GValue }, delayed := false, initial := { kind := 0, n := 0 : GValue } : GLink } : GDrive } k.x1.drives k.x6.toNat).level = 6) = false then
          if decide ((gt { point := { data := #[] : ByteArray }, level := 0, from_ := { node := { data := #[] : ByteArray }, port := 0, point := { data := #[] : ByteArray }, const := { kind := 0, n := 0 : GValue }, delayed := false, initial := { kind := 0, n := 0 : GValue } : GLink } : GDrive } k.x1.drives k.x6.toNat).level = 8) = true then
           ret ⟨(k.x1), (6)⟩
          else
           go ⟨(k.x1), (k.x2), (IntKind.i64.wrap (k.x6 + 1))⟩
         else
          ret ⟨(k.x1), (6)⟩
        else
         ret ⟨(k.x1), (6)⟩
       else
        ret ⟨(k.x1), (6)⟩
      else
       ret ⟨(k.x1), (6)⟩
     else
      ret ⟨(k.x1), (6)⟩
    else
     no
   else
    no
  else
   ex ⟨(k.x1), (k.x2)⟩
def stepNs19 (k : KNs19) : Nx KNs19 ENs19 := stNs19 k .go .ex .ret .no
theorem BNs19 (k : KNs19) (m : Nat) (R : St At → Option (Res At)) (K : Xit → St At → Option (Res At)) : B CNs19 64 19 (m + 60) (SNs19 k) R K = stNs19 k (fun k => R (SNs19 k)) (fun x => K (.ex 4) (XNs19 x)) (fun x => K .ret (XNs19 x)) none := by kernel_rfl
def uNs19 (st : St At) : Option KNs19 := match st with
  | ⟨[(1, .ptr 0 0), (2, .int .i64 x2), (6, .int .i64 x6)], [], [(0, .var wx1 false)], 1⟩ => (match ex31 wx1 with | some x1 => some ⟨x1, x2, x6⟩ | _ => none)
  | _ => none
theorem uNs19_spec {st : St At} {k : KNs19} (h : uNs19 st = some k) : st = SNs19 k := by
  unfold uNs19 at h
  split at h
  · split at h
    · rename_i h0
      obtain rfl := Option.some.inj h
      rw [ex31_spec h0]
      rfl
    · cases h
  · cases h
theorem oklNs19 {g : LP} (hg : ∀ st K q, g st K = some q → ∃ k n e, st = SNs19 k ∧ iter stepNs19 n k = some e ∧ e.k 4 XNs19 XNs19 K = some q) : OKL 64 19 g := okl_iter CNs19_ok (S := SNs19) (X := XNs19) (Y := XNs19) (step := stepNs19) (id := 4) (by kernel_rfl) (by kernel_rfl)
  (fun k m R K => by rw [BNs19]; unfold stepNs19 stNs19; simp only [Nx.k_ite]; rfl) (fun k => by kernel_rfl) hg
/-- the contract out of a closed form -/
theorem okfNs19 {g : LP} {fuel : KNs19 → Nat} {ok : KNs19 → Bool} {F : KNs19 → Fx ENs19} (hF : ∀ k, ok k = true → iter stepNs19 (fuel k) k = some (F k)) (hg : ∀ st K, g st K = (match uNs19 st with | some k => if ok k = true then (F k).k 4 XNs19 XNs19 K else none | none => none)) : OKL 64 19 g := oklNs19 fun st K q h => by
  rw [hg] at h
  split at h
  · rename_i k hu
    split at h
    · rename_i hok; exact ⟨k, _, _, uNs19_spec hu, hF k hok, h⟩
    · cases h
  · cases h
abbrev B_Ns19 := Unit
def fNs19 (k : KNs19) (b : B_Ns19) (x : GDrive) : Option (B_Ns19 ⊕ ENs19) :=
  if decide (x.level < 1) = false then
   if decide (x.level > 16) = false then
    if decide (x.level = 1) = false then
     if decide (x.level = 2) = false then
      if decide (x.level = 6) = false then
       if decide (x.level = 8) = true then
        some (.inr ⟨(k.x1), (6)⟩)
       else
        some (.inl ())
      else
       some (.inr ⟨(k.x1), (6)⟩)
     else
      some (.inr ⟨(k.x1), (6)⟩)
    else
     some (.inr ⟨(k.x1), (6)⟩)
   else
    some (.inr ⟨(k.x1), (6)⟩)
  else
   some (.inr ⟨(k.x1), (6)⟩)
def xNs19 (k : KNs19) (b : B_Ns19) : ENs19 := ⟨(k.x1), (k.x2)⟩
def putNs19 (k : KNs19) (b : B_Ns19) (j : Nat) : KNs19 := ⟨k.x1, k.x2, (j : Int)⟩
def bNs19 (k : KNs19) : B_Ns19 := ()
def oNs19 (k : KNs19) : Option (B_Ns19 ⊕ ENs19) := scanO (fNs19 k) (bNs19 k) k.x1.drives
def okNs19 (k : KNs19) : Bool := decide (k.x6 = 0) && ((Nat.ble k.x1.drives.length 9223372036854775807 && isOO (oNs19 k)))
def FNs19 (k : KNs19) : Fx ENs19 := fxO (xNs19 k) (bNs19 k) (xNs19 k (bNs19 k)) (oNs19 k)
theorem sNs19 (k : KNs19) (hm : k.x1.drives.length ≤ 9223372036854775807) (b : B_Ns19) (j : Nat) (h : j < k.x1.drives.length) : stepNs19 (putNs19 k b j) = nxO (fun b' => putNs19 k b' (j + 1)) (fNs19 k b k.x1.drives[j]) := by
  unfold stepNs19 stNs19 fNs19 putNs19
  dsimp only
  simp only [nxO_ite, cnt' h hm, gtj' _ _ _ h, if_pos (lt1' h), if_pos (lt0' (j := j)), if_pos (lt2' h)]
  rfl
theorem eNs19 (k : KNs19) (b : B_Ns19) : stepNs19 (putNs19 k b k.x1.drives.length) = .ex (xNs19 k b) := by
  unfold stepNs19 stNs19 putNs19
  dsimp only
  rw [if_neg lt3']
  rfl
theorem iNs19 (k : KNs19) (h : okNs19 k = true) : iter stepNs19 (k.x1.drives).length k = some (FNs19 k) := by
  unfold okNs19 at h
  simp only [Bool.and_eq_true, decide_eq_true_eq] at h
  obtain ⟨h0, h2, h3⟩ := h
  replace h2 := Nat.le_of_ble_eq_true h2
  have e : k = putNs19 k (bNs19 k) 0 := by cases k; dsimp only at h0; subst h0; rfl
  have := iter_scanO (step := stepNs19) k.x1.drives (putNs19 k) (fNs19 k) (xNs19 k) (bNs19 k) (xNs19 k (bNs19 k)) (fun b j h => sNs19 k h2 b j h) (fun b => eNs19 k b) k.x1.drives.length 0 (bNs19 k) (by simp) (by rw [List.drop_zero]; exact h3)
  rw [List.drop_zero, ← e] at this
  exact this
def gNs19 : LP := fun st K => match uNs19 st with | some k => if okNs19 k = true then (if isLO (oNs19 k) = true then K (.ex 4) (XNs19 (⟨(k.x1), (k.x2)⟩ : ENs19)) else K .ret (XNs19 (getRO (xNs19 k (bNs19 k)) (oNs19 k)))) else none | none => none
theorem okgNs19 : OKL 64 19 gNs19 := okfNs19 (fuel := fun k => (k.x1.drives).length) (ok := okNs19) (F := FNs19) iNs19 fun st K => by
  unfold gNs19
  cases hu : uNs19 st with
  | none => rfl
  | some k =>
    dsimp only
    split
    · unfold FNs19 fxO
      cases isLO (oNs19 k) <;> rfl
    · rfl
structure KNs12 where
  x1 : GProgram
  x2 : Int
  x4 : List GLink
  x5 : Int
structure ENs12 where
  x1 : GProgram
  x2 : Int
def SNs12 (k : KNs12) : St At := { env := [(1, .ptr 0 0), (2, .int .i64 k.x2), (4, .ro 55 k.x4), (5, .int .i64 k.x5)], stk := [], hp := [(0, .var (enc31 k.x1) false)], nx := 1 }
def XNs12 (k : ENs12) : St At := { env := [(1, .ptr 0 0), (2, .int .i64 k.x2)], stk := [], hp := [(0, .var (enc31 k.x1) false)], nx := 1 }
def CNs12 : Cfg := { cs := libCk, ks := [((64, 12), [(1, none), (2, none), (4, none), (5, none)])], xs := [((64, 12), [(1, none), (2, none)])], lps := [] }
theorem CNs12_ok : CfgOK CNs12 := { con := libCk_ok }
def stNs12 {α : Type} (k : KNs12) (go : KNs12 → α) (ex ret : ENs12 → α) (no : α) : α :=
  if decide (k.x5 < (↑k.x4.length : Int)) = true then
   if 0 ≤ k.x5 then
    if k.x5 < (↑k.x4.length : Int) then
     if cFmR (gt { node := { data := #[] : ByteArray }, port := 0, point := { data := #[] : ByteArray }, const := { kind := 0, n := 0 : GValue }, delayed := false, initial := { kind := 0, n := 0 : GValue } : GLink } k.x4 k.x5.toNat) = true then
      if (!vFmR (gt { node := { data := #[] : ByteArray }, port := 0, point := { data := #[] : ByteArray }, const := { kind := 0, n := 0 : GValue }, delayed := false, initial := { kind := 0, n := 0 : GValue } : GLink } k.x4 k.x5.toNat)) = true then
       ret ⟨(k.x1), (1)⟩
      else
       go ⟨(k.x1), (k.x2), (k.x4), (IntKind.i64.wrap (k.x5 + 1))⟩
     else
      no
    else
     no
   else
    no
  else
   ex ⟨(k.x1), (k.x2)⟩
def stepNs12 (k : KNs12) : Nx KNs12 ENs12 := stNs12 k .go .ex .ret .no
theorem BNs12 (k : KNs12) (m : Nat) (R : St At → Option (Res At)) (K : Xit → St At → Option (Res At)) : B CNs12 64 12 (m + 60) (SNs12 k) R K = stNs12 k (fun k => R (SNs12 k)) (fun x => K (.ex 2) (XNs12 x)) (fun x => K .ret (XNs12 x)) none := by kernel_rfl
def uNs12 (st : St At) : Option KNs12 := match st with
  | ⟨[(1, .ptr 0 0), (2, .int .i64 x2), (4, vx4), (5, .int .i64 x5)], [], [(0, .var wx1 false)], 1⟩ => (match ex31 wx1, roV 55 vx4 with | some x1, some x4 => some ⟨x1, x2, x4, x5⟩ | _, _ => none)
  | _ => none
theorem uNs12_spec {st : St At} {k : KNs12} (h : uNs12 st = some k) : st = SNs12 k := by
  unfold uNs12 at h
  split at h
  · split at h
    · rename_i h0 h1
      obtain rfl := Option.some.inj h
      rw [ex31_spec h0, roV_spec h1]
      rfl
    · cases h
  · cases h
theorem oklNs12 {g : LP} (hg : ∀ st K q, g st K = some q → ∃ k n e, st = SNs12 k ∧ iter stepNs12 n k = some e ∧ e.k 2 XNs12 XNs12 K = some q) : OKL 64 12 g := okl_iter CNs12_ok (S := SNs12) (X := XNs12) (Y := XNs12) (step := stepNs12) (id := 2) (by kernel_rfl) (by kernel_rfl)
  (fun k m R K => by rw [BNs12]; unfold stepNs12 stNs12; simp only [Nx.k_ite]; rfl) (fun k => by kernel_rfl) hg
/-- the contract out of a closed form -/
theorem okfNs12 {g : LP} {fuel : KNs12 → Nat} {ok : KNs12 → Bool} {F : KNs12 → Fx ENs12} (hF : ∀ k, ok k = true → iter stepNs12 (fuel k) k = some (F k)) (hg : ∀ st K, g st K = (match uNs12 st with | some k => if ok k = true then (F k).k 2 XNs12 XNs12 K else none | none => none)) : OKL 64 12 g := oklNs12 fun st K q h => by
  rw [hg] at h
  split at h
  · rename_i k hu
    split at h
    · rename_i hok; exact ⟨k, _, _, uNs12_spec hu, hF k hok, h⟩
    · cases h
  · cases h
abbrev B_Ns12 := Unit
def fNs12 (k : KNs12) (b : B_Ns12) (x : GLink) : Option (B_Ns12 ⊕ ENs12) :=
  if cFmR x = true then
   if (!vFmR x) = true then
    some (.inr ⟨(k.x1), (1)⟩)
   else
    some (.inl ())
  else
   none
def xNs12 (k : KNs12) (b : B_Ns12) : ENs12 := ⟨(k.x1), (k.x2)⟩
def putNs12 (k : KNs12) (b : B_Ns12) (j : Nat) : KNs12 := ⟨k.x1, k.x2, k.x4, (j : Int)⟩
def bNs12 (k : KNs12) : B_Ns12 := ()
def oNs12 (k : KNs12) : Option (B_Ns12 ⊕ ENs12) := scanO (fNs12 k) (bNs12 k) k.x4
def okNs12 (k : KNs12) : Bool := decide (k.x5 = 0) && ((Nat.ble k.x4.length 9223372036854775807 && isOO (oNs12 k)))
def FNs12 (k : KNs12) : Fx ENs12 := fxO (xNs12 k) (bNs12 k) (xNs12 k (bNs12 k)) (oNs12 k)
theorem sNs12 (k : KNs12) (hm : k.x4.length ≤ 9223372036854775807) (b : B_Ns12) (j : Nat) (h : j < k.x4.length) : stepNs12 (putNs12 k b j) = nxO (fun b' => putNs12 k b' (j + 1)) (fNs12 k b k.x4[j]) := by
  unfold stepNs12 stNs12 fNs12 putNs12
  dsimp only
  simp only [nxO_ite, cnt' h hm, gtj' _ _ _ h, if_pos (lt1' h), if_pos (lt0' (j := j)), if_pos (lt2' h)]
  rfl
theorem eNs12 (k : KNs12) (b : B_Ns12) : stepNs12 (putNs12 k b k.x4.length) = .ex (xNs12 k b) := by
  unfold stepNs12 stNs12 putNs12
  dsimp only
  rw [if_neg lt3']
  rfl
theorem iNs12 (k : KNs12) (h : okNs12 k = true) : iter stepNs12 (k.x4).length k = some (FNs12 k) := by
  unfold okNs12 at h
  simp only [Bool.and_eq_true, decide_eq_true_eq] at h
  obtain ⟨h0, h2, h3⟩ := h
  replace h2 := Nat.le_of_ble_eq_true h2
  have e : k = putNs12 k (bNs12 k) 0 := by cases k; dsimp only at h0; subst h0; rfl
  have := iter_scanO (step := stepNs12) k.x4 (putNs12 k) (fNs12 k) (xNs12 k) (bNs12 k) (xNs12 k (bNs12 k)) (fun b j h => sNs12 k h2 b j h) (fun b => eNs12 k b) k.x4.length 0 (bNs12 k) (by simp) (by rw [List.drop_zero]; exact h3)
  rw [List.drop_zero, ← e] at this
  exact this
def gNs12 : LP := fun st K => match uNs12 st with | some k => if okNs12 k = true then (if isLO (oNs12 k) = true then K (.ex 2) (XNs12 (⟨(k.x1), (k.x2)⟩ : ENs12)) else K .ret (XNs12 (getRO (xNs12 k (bNs12 k)) (oNs12 k)))) else none | none => none
theorem okgNs12 : OKL 64 12 gNs12 := okfNs12 (fuel := fun k => (k.x4).length) (ok := okNs12) (F := FNs12) iNs12 fun st K => by
  unfold gNs12
  cases hu : uNs12 st with
  | none => rfl
  | some k =>
    dsimp only
    split
    · unfold FNs12 fxO
      cases isLO (oNs12 k) <;> rfl
    · rfl
structure KNs6 where
  x1 : GProgram
  x2 : Int
  x3 : Int
structure ENs6 where
  x1 : GProgram
  x2 : Int
def SNs6 (k : KNs6) : St At := { env := [(1, .ptr 0 0), (2, .int .i64 k.x2), (3, .int .i64 k.x3)], stk := [], hp := [(0, .var (enc31 k.x1) false)], nx := 1 }
def XNs6 (k : ENs6) : St At := { env := [(1, .ptr 0 0), (2, .int .i64 k.x2)], stk := [], hp := [(0, .var (enc31 k.x1) false)], nx := 1 }
def CNs6 : Cfg := { cs := libCk, ks := [((64, 6), [(1, none), (2, none), (3, none)])], xs := [((64, 6), [(1, none), (2, none)])], lps := [] }
theorem CNs6_ok : CfgOK CNs6 := { con := libCk_ok }
def stNs6 {α : Type} (k : KNs6) (go : KNs6 → α) (ex ret : ENs6 → α) (no : α) : α :=
  if decide (k.x3 < (↑k.x1.nodes.length : Int)) = true then
   if 0 ≤ k.x3 then
    if k.x3 < (↑k.x1.nodes.length : Int) then
     if cNr (gt { name := { data := #[] : ByteArray }, block := { data := #[] : ByteArray }, params := [], inputs := [] : GNode } k.x1.nodes k.x3.toNat).name = true then
      if (!vNr (gt { name := { data := #[] : ByteArray }, block := { data := #[] : ByteArray }, params := [], inputs := [] : GNode } k.x1.nodes k.x3.toNat).name) = true then
       ret ⟨(k.x1), (4)⟩
      else
       go ⟨(k.x1), (k.x2), (IntKind.i64.wrap (k.x3 + 1))⟩
     else
      no
    else
     no
   else
    no
  else
   ex ⟨(k.x1), (k.x2)⟩
def stepNs6 (k : KNs6) : Nx KNs6 ENs6 := stNs6 k .go .ex .ret .no
theorem BNs6 (k : KNs6) (m : Nat) (R : St At → Option (Res At)) (K : Xit → St At → Option (Res At)) : B CNs6 64 6 (m + 60) (SNs6 k) R K = stNs6 k (fun k => R (SNs6 k)) (fun x => K (.ex 0) (XNs6 x)) (fun x => K .ret (XNs6 x)) none := by kernel_rfl
def uNs6 (st : St At) : Option KNs6 := match st with
  | ⟨[(1, .ptr 0 0), (2, .int .i64 x2), (3, .int .i64 x3)], [], [(0, .var wx1 false)], 1⟩ => (match ex31 wx1 with | some x1 => some ⟨x1, x2, x3⟩ | _ => none)
  | _ => none
theorem uNs6_spec {st : St At} {k : KNs6} (h : uNs6 st = some k) : st = SNs6 k := by
  unfold uNs6 at h
  split at h
  · split at h
    · rename_i h0
      obtain rfl := Option.some.inj h
      rw [ex31_spec h0]
      rfl
    · cases h
  · cases h
theorem oklNs6 {g : LP} (hg : ∀ st K q, g st K = some q → ∃ k n e, st = SNs6 k ∧ iter stepNs6 n k = some e ∧ e.k 0 XNs6 XNs6 K = some q) : OKL 64 6 g := okl_iter CNs6_ok (S := SNs6) (X := XNs6) (Y := XNs6) (step := stepNs6) (id := 0) (by kernel_rfl) (by kernel_rfl)
  (fun k m R K => by rw [BNs6]; unfold stepNs6 stNs6; simp only [Nx.k_ite]; rfl) (fun k => by kernel_rfl) hg
/-- the contract out of a closed form -/
theorem okfNs6 {g : LP} {fuel : KNs6 → Nat} {ok : KNs6 → Bool} {F : KNs6 → Fx ENs6} (hF : ∀ k, ok k = true → iter stepNs6 (fuel k) k = some (F k)) (hg : ∀ st K, g st K = (match uNs6 st with | some k => if ok k = true then (F k).k 0 XNs6 XNs6 K else none | none => none)) : OKL 64 6 g := oklNs6 fun st K q h => by
  rw [hg] at h
  split at h
  · rename_i k hu
    split at h
    · rename_i hok; exact ⟨k, _, _, uNs6_spec hu, hF k hok, h⟩
    · cases h
  · cases h
abbrev B_Ns6 := Unit
def fNs6 (k : KNs6) (b : B_Ns6) (x : GNode) : Option (B_Ns6 ⊕ ENs6) :=
  if cNr x.name = true then
   if (!vNr x.name) = true then
    some (.inr ⟨(k.x1), (4)⟩)
   else
    some (.inl ())
  else
   none
def xNs6 (k : KNs6) (b : B_Ns6) : ENs6 := ⟨(k.x1), (k.x2)⟩
def putNs6 (k : KNs6) (b : B_Ns6) (j : Nat) : KNs6 := ⟨k.x1, k.x2, (j : Int)⟩
def bNs6 (k : KNs6) : B_Ns6 := ()
def oNs6 (k : KNs6) : Option (B_Ns6 ⊕ ENs6) := scanO (fNs6 k) (bNs6 k) k.x1.nodes
def okNs6 (k : KNs6) : Bool := decide (k.x3 = 0) && ((Nat.ble k.x1.nodes.length 9223372036854775807 && isOO (oNs6 k)))
def FNs6 (k : KNs6) : Fx ENs6 := fxO (xNs6 k) (bNs6 k) (xNs6 k (bNs6 k)) (oNs6 k)
theorem sNs6 (k : KNs6) (hm : k.x1.nodes.length ≤ 9223372036854775807) (b : B_Ns6) (j : Nat) (h : j < k.x1.nodes.length) : stepNs6 (putNs6 k b j) = nxO (fun b' => putNs6 k b' (j + 1)) (fNs6 k b k.x1.nodes[j]) := by
  unfold stepNs6 stNs6 fNs6 putNs6
  dsimp only
  simp only [nxO_ite, cnt' h hm, gtj' _ _ _ h, if_pos (lt1' h), if_pos (lt0' (j := j)), if_pos (lt2' h)]
  rfl
theorem eNs6 (k : KNs6) (b : B_Ns6) : stepNs6 (putNs6 k b k.x1.nodes.length) = .ex (xNs6 k b) := by
  unfold stepNs6 stNs6 putNs6
  dsimp only
  rw [if_neg lt3']
  rfl
theorem iNs6 (k : KNs6) (h : okNs6 k = true) : iter stepNs6 (k.x1.nodes).length k = some (FNs6 k) := by
  unfold okNs6 at h
  simp only [Bool.and_eq_true, decide_eq_true_eq] at h
  obtain ⟨h0, h2, h3⟩ := h
  replace h2 := Nat.le_of_ble_eq_true h2
  have e : k = putNs6 k (bNs6 k) 0 := by cases k; dsimp only at h0; subst h0; rfl
  have := iter_scanO (step := stepNs6) k.x1.nodes (putNs6 k) (fNs6 k) (xNs6 k) (bNs6 k) (xNs6 k (bNs6 k)) (fun b j h => sNs6 k h2 b j h) (fun b => eNs6 k b) k.x1.nodes.length 0 (bNs6 k) (by simp) (by rw [List.drop_zero]; exact h3)
  rw [List.drop_zero, ← e] at this
  exact this
def gNs6 : LP := fun st K => match uNs6 st with | some k => if okNs6 k = true then (if isLO (oNs6 k) = true then K (.ex 0) (XNs6 (⟨(k.x1), (k.x2)⟩ : ENs6)) else K .ret (XNs6 (getRO (xNs6 k (bNs6 k)) (oNs6 k)))) else none | none => none
theorem okgNs6 : OKL 64 6 gNs6 := okfNs6 (fuel := fun k => (k.x1.nodes).length) (ok := okNs6) (F := FNs6) iNs6 fun st K => by
  unfold gNs6
  cases hu : uNs6 st with
  | none => rfl
  | some k =>
    dsimp only
    split
    · unfold FNs6 fxO
      cases isLO (oNs6 k) <;> rfl
    · rfl
structure KNs35 where
  x1 : GProgram
  x2 : Int
  x10 : Int
structure ENs35 where
  x2 : Int
def SNs35 (k : KNs35) : St At := { env := [(1, .ptr 0 0), (2, .int .i64 k.x2), (10, .int .i64 k.x10)], stk := [], hp := [(0, .var (enc31 k.x1) false)], nx := 1 }
def XNs35 (k : ENs35) : St At := { env := [(2, .int .i64 k.x2)], stk := [], hp := [], nx := 0 }
def CNs35 : Cfg := { cs := libCk, ks := [((64, 35), [(1, none), (2, none), (10, none)])] ++ CNs38.ks, xs := [((64, 35), [(2, none)])] ++ CNs38.xs, lps := [((64, 38), gNs38)] }
theorem CNs35_ok : CfgOK CNs35 := { con := libCk_ok, lp := .cons okgNs38 .nil }
def stNs35 {α : Type} (k : KNs35) (go : KNs35 → α) (ex ret : ENs35 → α) (no : α) : α :=
  if decide (k.x10 < (↑k.x1.drives.length : Int)) = true then
   if okNs38 { x1 := k.x1, x2 := k.x2, x10 := k.x10, x11 := 0 : KNs38 } = true then
    if isLO (iNs38 { x1 := k.x1, x2 := k.x2, x10 := k.x10, x11 := 0 : KNs38 }) = true then
     go ⟨(k.x1), (k.x2), (IntKind.i64.wrap (k.x10 + 1))⟩
    else
     ret ⟨((getRO { x2 := k.x2 : Q_Ns38 } (iNs38 { x1 := k.x1, x2 := k.x2, x10 := k.x10, x11 := 0 : KNs38 })).x2)⟩
   else
    no
  else
   ex ⟨(k.x2)⟩
def stepNs35 (k : KNs35) : Nx KNs35 ENs35 := stNs35 k .go .ex .ret .no
theorem BNs35 (k : KNs35) (m : Nat) (R : St At → Option (Res At)) (K : Xit → St At → Option (Res At)) : B CNs35 64 35 (m + 60) (SNs35 k) R K = stNs35 k (fun k => R (SNs35 k)) (fun x => K (.ex 10) (XNs35 x)) (fun x => K .ret (XNs35 x)) none := by kernel_rfl
def uNs35 (st : St At) : Option KNs35 := match st with
  | ⟨[(1, .ptr 0 0), (2, .int .i64 x2), (10, .int .i64 x10)], [], [(0, .var wx1 false)], 1⟩ => (match ex31 wx1 with | some x1 => some ⟨x1, x2, x10⟩ | _ => none)
  | _ => none
theorem uNs35_spec {st : St At} {k : KNs35} (h : uNs35 st = some k) : st = SNs35 k := by
  unfold uNs35 at h
  split at h
  · split at h
    · rename_i h0
      obtain rfl := Option.some.inj h
      rw [ex31_spec h0]
      rfl
    · cases h
  · cases h
theorem oklNs35 {g : LP} (hg : ∀ st K q, g st K = some q → ∃ k n e, st = SNs35 k ∧ iter stepNs35 n k = some e ∧ e.k 10 XNs35 XNs35 K = some q) : OKL 64 35 g := okl_iter CNs35_ok (S := SNs35) (X := XNs35) (Y := XNs35) (step := stepNs35) (id := 10) (by kernel_rfl) (by kernel_rfl)
  (fun k m R K => by rw [BNs35]; unfold stepNs35 stNs35; simp only [Nx.k_ite]; rfl) (fun k => by kernel_rfl) hg
/-- the contract out of a closed form -/
theorem okfNs35 {g : LP} {fuel : KNs35 → Nat} {ok : KNs35 → Bool} {F : KNs35 → Fx ENs35} (hF : ∀ k, ok k = true → iter stepNs35 (fuel k) k = some (F k)) (hg : ∀ st K, g st K = (match uNs35 st with | some k => if ok k = true then (F k).k 10 XNs35 XNs35 K else none | none => none)) : OKL 64 35 g := oklNs35 fun st K q h => by
  rw [hg] at h
  split at h
  · rename_i k hu
    split at h
    · rename_i hok; exact ⟨k, _, _, uNs35_spec hu, hF k hok, h⟩
    · cases h
  · cases h
structure B_Ns35 where
  x10 : Int
abbrev P_Ns35 := Unit
structure Q_Ns35 where
  x2 : Int
def putNs35 (k : KNs35) (b : B_Ns35) : KNs35 := ⟨k.x1, k.x2, b.x10⟩
def bNs35 (k : KNs35) : B_Ns35 := ⟨k.x10⟩
def xeNs35 (k : KNs35) (e : P_Ns35) : ENs35 := ⟨k.x2⟩
def xrNs35 (k : KNs35) (e : Q_Ns35) : ENs35 := ⟨e.x2⟩
def sNs35 (k : KNs35) (b : B_Ns35) : Nx2 B_Ns35 P_Ns35 Q_Ns35 := stNs35 (putNs35 k b) (fun k => .go ⟨k.x10⟩) (fun k => .ex ()) (fun k => .ret ⟨k.x2⟩) .no
def iNs35 (k : KNs35) : Option (P_Ns35 ⊕ Q_Ns35) := iter2 (sNs35 k) (k.x1.drives.length) (bNs35 k)
def okNs35 (k : KNs35) : Bool := isO (iNs35 k)
def FNs35 (k : KNs35) : Fx ENs35 := if isLO (iNs35 k) = true then .ex (xeNs35 k (getLO () (iNs35 k))) else .ret (xrNs35 k (getRO ⟨k.x2⟩ (iNs35 k)))
theorem hNs35 (k : KNs35) (b : B_Ns35) : stepNs35 (putNs35 k b) = (sNs35 k b).up (putNs35 k) (xeNs35 k) (xrNs35 k) := by
  unfold stepNs35 sNs35 stNs35 putNs35
  dsimp only
  simp only [Nx2.up_ite]
  rfl
theorem iNs35_ok (k : KNs35) (h : okNs35 k = true) : iter stepNs35 (k.x1.drives.length) k = some (FNs35 k) := iter2_ok (bNs35 k) (hNs35 k) h
def gNs35 : LP := fun st K => match uNs35 st with | some k => if okNs35 k = true then (if isLO (iNs35 k) = true then K (.ex 10) (XNs35 (⟨k.x2⟩ : ENs35)) else K .ret (XNs35 (⟨(getRO ⟨k.x2⟩ (iNs35 k)).x2⟩ : ENs35))) else none | none => none
theorem okgNs35 : OKL 64 35 gNs35 := okfNs35 (fuel := fun k => k.x1.drives.length) (ok := okNs35) (F := FNs35) iNs35_ok fun st K => by
  unfold gNs35
  cases hu : uNs35 st with
  | none => rfl
  | some k =>
    dsimp only
    split
    · unfold FNs35
      cases isLO (iNs35 k) <;> rfl
    · rfl
structure KNs25 where
  x1 : GProgram
  x2 : Int
  x8 : Int
structure ENs25 where
  x1 : GProgram
  x2 : Int
def SNs25 (k : KNs25) : St At := { env := [(1, .ptr 0 0), (2, .int .i64 k.x2), (8, .int .i64 k.x8)], stk := [], hp := [(0, .var (enc31 k.x1) false)], nx := 1 }
def XNs25 (k : ENs25) : St At := { env := [(1, .ptr 0 0), (2, .int .i64 k.x2)], stk := [], hp := [(0, .var (enc31 k.x1) false)], nx := 1 }
def CNs25 : Cfg := { cs := libCk, ks := [((64, 25), [(1, none), (2, none), (8, none)])] ++ CNs30.ks, xs := [((64, 25), [(1, none), (2, none)])] ++ CNs30.xs, lps := [((64, 30), gNs30)] }
theorem CNs25_ok : CfgOK CNs25 := { con := libCk_ok, lp := .cons okgNs30 .nil }
def stNs25 {α : Type} (k : KNs25) (go : KNs25 → α) (ex ret : ENs25 → α) (no : α) : α :=
  if decide (k.x8 < (↑k.x1.nodes.length : Int)) = true then
   if 0 ≤ k.x8 then
    if k.x8 < (↑k.x1.nodes.length : Int) then
     if cFiR k.x1 (gt { name := { data := #[] : ByteArray }, block := { data := #[] : ByteArray }, params := [], inputs := [] : GNode } k.x1.nodes k.x8.toNat).name = true then
      if (!decide (vFiR k.x1 (gt { name := { data := #[] : ByteArray }, block := { data := #[] : ByteArray }, params := [], inputs := [] : GNode } k.x1.nodes k.x8.toNat).name = k.x8)) = true then
       ret ⟨(k.x1), (5)⟩
      else
       if okNs30 { x1 := k.x1, x2 := k.x2, x8 := k.x8, x9 := 1 : KNs30 } = true then
        if isLO (iNs30 { x1 := k.x1, x2 := k.x2, x8 := k.x8, x9 := 1 : KNs30 }) = true then
         go ⟨(k.x1), (k.x2), (IntKind.i64.wrap (k.x8 + 1))⟩
        else
         ret ⟨(k.x1), ((getRO { x2 := k.x2 : Q_Ns30 } (iNs30 { x1 := k.x1, x2 := k.x2, x8 := k.x8, x9 := 1 : KNs30 })).x2)⟩
       else
        no
     else
      no
    else
     no
   else
    no
  else
   ex ⟨(k.x1), (k.x2)⟩
def stepNs25 (k : KNs25) : Nx KNs25 ENs25 := stNs25 k .go .ex .ret .no
theorem BNs25 (k : KNs25) (m : Nat) (R : St At → Option (Res At)) (K : Xit → St At → Option (Res At)) : B CNs25 64 25 (m + 60) (SNs25 k) R K = stNs25 k (fun k => R (SNs25 k)) (fun x => K (.ex 6) (XNs25 x)) (fun x => K .ret (XNs25 x)) none := by kernel_rfl
def uNs25 (st : St At) : Option KNs25 := match st with
  | ⟨[(1, .ptr 0 0), (2, .int .i64 x2), (8, .int .i64 x8)], [], [(0, .var wx1 false)], 1⟩ => (match ex31 wx1 with | some x1 => some ⟨x1, x2, x8⟩ | _ => none)
  | _ => none
theorem uNs25_spec {st : St At} {k : KNs25} (h : uNs25 st = some k) : st = SNs25 k := by
  unfold uNs25 at h
  split at h
  · split at h
    · rename_i h0
      obtain rfl := Option.some.inj h
      rw [ex31_spec h0]
      rfl
    · cases h
  · cases h
theorem oklNs25 {g : LP} (hg : ∀ st K q, g st K = some q → ∃ k n e, st = SNs25 k ∧ iter stepNs25 n k = some e ∧ e.k 6 XNs25 XNs25 K = some q) : OKL 64 25 g := okl_iter CNs25_ok (S := SNs25) (X := XNs25) (Y := XNs25) (step := stepNs25) (id := 6) (by kernel_rfl) (by kernel_rfl)
  (fun k m R K => by rw [BNs25]; unfold stepNs25 stNs25; simp only [Nx.k_ite]; rfl) (fun k => by kernel_rfl) hg
/-- the contract out of a closed form -/
theorem okfNs25 {g : LP} {fuel : KNs25 → Nat} {ok : KNs25 → Bool} {F : KNs25 → Fx ENs25} (hF : ∀ k, ok k = true → iter stepNs25 (fuel k) k = some (F k)) (hg : ∀ st K, g st K = (match uNs25 st with | some k => if ok k = true then (F k).k 6 XNs25 XNs25 K else none | none => none)) : OKL 64 25 g := oklNs25 fun st K q h => by
  rw [hg] at h
  split at h
  · rename_i k hu
    split at h
    · rename_i hok; exact ⟨k, _, _, uNs25_spec hu, hF k hok, h⟩
    · cases h
  · cases h
structure B_Ns25 where
  x8 : Int
abbrev P_Ns25 := Unit
structure Q_Ns25 where
  x2 : Int
def putNs25 (k : KNs25) (b : B_Ns25) : KNs25 := ⟨k.x1, k.x2, b.x8⟩
def bNs25 (k : KNs25) : B_Ns25 := ⟨k.x8⟩
def xeNs25 (k : KNs25) (e : P_Ns25) : ENs25 := ⟨k.x1, k.x2⟩
def xrNs25 (k : KNs25) (e : Q_Ns25) : ENs25 := ⟨k.x1, e.x2⟩
def sNs25 (k : KNs25) (b : B_Ns25) : Nx2 B_Ns25 P_Ns25 Q_Ns25 := stNs25 (putNs25 k b) (fun k => .go ⟨k.x8⟩) (fun k => .ex ()) (fun k => .ret ⟨k.x2⟩) .no
def iNs25 (k : KNs25) : Option (P_Ns25 ⊕ Q_Ns25) := iter2 (sNs25 k) (k.x1.nodes.length) (bNs25 k)
def okNs25 (k : KNs25) : Bool := isO (iNs25 k)
def FNs25 (k : KNs25) : Fx ENs25 := if isLO (iNs25 k) = true then .ex (xeNs25 k (getLO () (iNs25 k))) else .ret (xrNs25 k (getRO ⟨k.x2⟩ (iNs25 k)))
theorem hNs25 (k : KNs25) (b : B_Ns25) : stepNs25 (putNs25 k b) = (sNs25 k b).up (putNs25 k) (xeNs25 k) (xrNs25 k) := by
  unfold stepNs25 sNs25 stNs25 putNs25
  dsimp only
  simp only [Nx2.up_ite]
  rfl
theorem iNs25_ok (k : KNs25) (h : okNs25 k = true) : iter stepNs25 (k.x1.nodes.length) k = some (FNs25 k) := iter2_ok (bNs25 k) (hNs25 k) h
def gNs25 : LP := fun st K => match uNs25 st with | some k => if okNs25 k = true then (if isLO (iNs25 k) = true then K (.ex 6) (XNs25 (⟨k.x1, k.x2⟩ : ENs25)) else K .ret (XNs25 (⟨k.x1, (getRO ⟨k.x2⟩ (iNs25 k)).x2⟩ : ENs25))) else none | none => none
theorem okgNs25 : OKL 64 25 gNs25 := okfNs25 (fuel := fun k => k.x1.nodes.length) (ok := okNs25) (F := FNs25) iNs25_ok fun st K => by
  unfold gNs25
  cases hu : uNs25 st with
  | none => rfl
  | some k =>
    dsimp only
    split
    · unfold FNs25
      cases isLO (iNs25 k) <;> rfl
    · rfl
def CNs : Cfg := { cs := libCk, ks := CNs19.ks ++ CNs12.ks ++ CNs6.ks ++ CNs35.ks ++ CNs25.ks, xs := CNs19.xs ++ CNs12.xs ++ CNs6.xs ++ CNs35.xs ++ CNs25.xs, lps := [((64, 19), gNs19), ((64, 12), gNs12), ((64, 6), gNs6), ((64, 35), gNs35), ((64, 25), gNs25)] }
theorem CNs_ok : CfgOK CNs := { con := libCk_ok, lp := .cons okgNs19 (.cons okgNs12 (.cons okgNs6 (.cons okgNs35 (.cons okgNs25 .nil)))) }
def RNs (a0 : GProgram) : Option (Res At) :=
  if decide ((↑a0.nodes.length : Int) > 64) = false then
   if decide ((↑a0.drives.length : Int) > 256) = true then
    some ((.int .i64 7), [])
   else
    if cNr a0.name = true then
     if (!vNr a0.name) = true then
      some ((.int .i64 4), [])
     else
      if okNs6 { x1 := a0, x2 := 0, x3 := 0 : KNs6 } = true then
       if isLO (oNs6 { x1 := a0, x2 := 0, x3 := 0 : KNs6 }) = true then
        if cLkR a0 = true then
         if okNs12 { x1 := a0, x2 := 0, x4 := vLkR a0, x5 := 0 : KNs12 } = true then
          if isLO (oNs12 { x1 := a0, x2 := 0, x4 := vLkR a0, x5 := 0 : KNs12 }) = true then
           if decide (a0.period < 1) = false then
            if decide (a0.period > 86400) = true then
             some ((.int .i64 6), [])
            else
             if okNs19 { x1 := a0, x2 := 0, x6 := 0 : KNs19 } = true then
              if isLO (oNs19 { x1 := a0, x2 := 0, x6 := 0 : KNs19 }) = true then
               if okNs25 { x1 := a0, x2 := 0, x8 := 0 : KNs25 } = true then
                if isLO (iNs25 { x1 := a0, x2 := 0, x8 := 0 : KNs25 }) = true then
                 if okNs35 { x1 := a0, x2 := 0, x10 := 0 : KNs35 } = true then
                  if isLO (iNs35 { x1 := a0, x2 := 0, x10 := 0 : KNs35 }) = true then
                   some ((.int .i64 0), [])
                  else
                   some ((.int .i64 ((getRO { x2 := 0 : Q_Ns35 } (iNs35 { x1 := a0, x2 := 0, x10 := 0 : KNs35 })).x2)), [])
                 else
                  none
                else
                 some ((.int .i64 ((getRO { x2 := 0 : Q_Ns25 } (iNs25 { x1 := a0, x2 := 0, x8 := 0 : KNs25 })).x2)), [])
               else
                none
              else
               some ((.int .i64 ((getRO (xNs19 { x1 := a0, x2 := 0, x6 := 0 : KNs19 } (bNs19 { x1 := a0, x2 := 0, x6 := 0 : KNs19 })) (oNs19 { x1 := a0, x2 := 0, x6 := 0 : KNs19 })).x2)), [])
             else
              none
           else
            some ((.int .i64 6), [])
          else
           some ((.int .i64 ((getRO (xNs12 { x1 := a0, x2 := 0, x4 := vLkR a0, x5 := 0 : KNs12 } (bNs12 { x1 := a0, x2 := 0, x4 := vLkR a0, x5 := 0 : KNs12 })) (oNs12 { x1 := a0, x2 := 0, x4 := vLkR a0, x5 := 0 : KNs12 })).x2)), [])
         else
          none
        else
         none
       else
        some ((.int .i64 ((getRO (xNs6 { x1 := a0, x2 := 0, x3 := 0 : KNs6 } (bNs6 { x1 := a0, x2 := 0, x3 := 0 : KNs6 })) (oNs6 { x1 := a0, x2 := 0, x3 := 0 : KNs6 })).x2)), [])
      else
       none
    else
     none
  else
   some ((.int .i64 7), [])
theorem run_RNs (a0 : GProgram) : runF CNs 80 64 [.agg (enc31 a0)] = RNs a0 := by kernel_rfl
def oNs (a0 : GProgram) : Option (Res At) := crR [none] (RNs a0)
def vNs (a0 : GProgram) : Int := valO (rI .i64) 0 (oNs a0)
def cNs (a0 : GProgram) : Bool := okO (rI .i64) (oNs a0)
def conNs : CON := on1 (rA ex31 enc31 fun _ _ h => ex31_spec h) fun a0 => some (cNs a0, (.int .i64 (vNs a0), []))
theorem okNs : OK 64 conNs := okc1 CNs_ok (n := 80) (ts := [none]) (a := (rA ex31 enc31 fun _ _ h => ex31_spec h)) (r := (rI .i64)) (d := 0) (R := fun a0 => RNs a0) (by kernel_rfl) fun a0 => run_RNs a0
def libNs : List (Nat × CON) := (64, conNs) :: libCk
theorem libNs_ok : AllOK libNs := .cons okNs libCk_ok
structure KUkR24 where
  x0 : List GPoint
  x3 : GProgram
  x4 : Bool
  x13 : Int
structure EUkR24 where
  x4 : Bool
def SUkR24 (k : KUkR24) : St At := { env := [(0, .ro 66 k.x0), (3, .ptr 0 0), (4, .bool k.x4), (13, .int .i64 k.x13)], stk := [], hp := [(0, .var (enc31 k.x3) false)], nx := 1 }
def XUkR24 (k : EUkR24) : St At := { env := [(4, .bool k.x4)], stk := [], hp := [], nx := 0 }
def CUkR24 : Cfg := { cs := libNs, ks := [((65, 24), [(0, none), (3, none), (4, none), (13, none)])], xs := [((65, 24), [(4, none)])], lps := [] }
theorem CUkR24_ok : CfgOK CUkR24 := { con := libNs_ok }
def stUkR24 {α : Type} (k : KUkR24) (go : KUkR24 → α) (ex ret : EUkR24 → α) (no : α) : α :=
  if decide (k.x13 < (↑k.x3.drives.length : Int)) = true then
   if 0 ≤ k.x13 then
    if k.x13 < (↑k.x3.drives.length : Int) then
     if cPoR k.x0 (gt { point := { data := #[] : ByteArray }, level := 0, from_ := { node := { data := #[] : ByteArray }, port := 0, point := { data := #[] : ByteArray }, const := { kind := 0, n := 0 : GValue }, delayed := false, initial := { kind := 0, n := 0 : GValue } : GLink } : GDrive } k.x3.drives k.x13.toNat).point = true then
      if decide (vPoR k.x0 (gt { point := { data := #[] : ByteArray }, level := 0, from_ := { node := { data := #[] : ByteArray }, port := 0, point := { data := #[] : ByteArray }, const := { kind := 0, n := 0 : GValue }, delayed := false, initial := { kind := 0, n := 0 : GValue } : GLink } : GDrive } k.x3.drives k.x13.toNat).point < 0) = true then
       ret ⟨(true)⟩
      else
       go ⟨(k.x0), (k.x3), (k.x4), (IntKind.i64.wrap (k.x13 + 1))⟩
     else
      no
    else
     no
   else
    no
  else
   ex ⟨(k.x4)⟩
def stepUkR24 (k : KUkR24) : Nx KUkR24 EUkR24 := stUkR24 k .go .ex .ret .no
theorem BUkR24 (k : KUkR24) (m : Nat) (R : St At → Option (Res At)) (K : Xit → St At → Option (Res At)) : B CUkR24 65 24 (m + 60) (SUkR24 k) R K = stUkR24 k (fun k => R (SUkR24 k)) (fun x => K (.ex 8) (XUkR24 x)) (fun x => K .ret (XUkR24 x)) none := by kernel_rfl
def uUkR24 (st : St At) : Option KUkR24 := match st with
  | ⟨[(0, vx0), (3, .ptr 0 0), (4, .bool x4), (13, .int .i64 x13)], [], [(0, .var wx3 false)], 1⟩ => (match roV 66 vx0, ex31 wx3 with | some x0, some x3 => some ⟨x0, x3, x4, x13⟩ | _, _ => none)
  | _ => none
theorem uUkR24_spec {st : St At} {k : KUkR24} (h : uUkR24 st = some k) : st = SUkR24 k := by
  unfold uUkR24 at h
  split at h
  · split at h
    · rename_i h0 h1
      obtain rfl := Option.some.inj h
      rw [roV_spec h0, ex31_spec h1]
      rfl
    · cases h
  · cases h
theorem oklUkR24 {g : LP} (hg : ∀ st K q, g st K = some q → ∃ k n e, st = SUkR24 k ∧ iter stepUkR24 n k = some e ∧ e.k 8 XUkR24 XUkR24 K = some q) : OKL 65 24 g := okl_iter CUkR24_ok (S := SUkR24) (X := XUkR24) (Y := XUkR24) (step := stepUkR24) (id := 8) (by kernel_rfl) (by kernel_rfl)
  (fun k m R K => by rw [BUkR24]; unfold stepUkR24 stUkR24; simp only [Nx.k_ite]; rfl) (fun k => by kernel_rfl) hg
/-- the contract out of a closed form -/
theorem okfUkR24 {g : LP} {fuel : KUkR24 → Nat} {ok : KUkR24 → Bool} {F : KUkR24 → Fx EUkR24} (hF : ∀ k, ok k = true → iter stepUkR24 (fuel k) k = some (F k)) (hg : ∀ st K, g st K = (match uUkR24 st with | some k => if ok k = true then (F k).k 8 XUkR24 XUkR24 K else none | none => none)) : OKL 65 24 g := oklUkR24 fun st K q h => by
  rw [hg] at h
  split at h
  · rename_i k hu
    split at h
    · rename_i hok; exact ⟨k, _, _, uUkR24_spec hu, hF k hok, h⟩
    · cases h
  · cases h
abbrev B_UkR24 := Unit
def fUkR24 (k : KUkR24) (b : B_UkR24) (x : GDrive) : Option (B_UkR24 ⊕ EUkR24) :=
  if cPoR k.x0 x.point = true then
   if decide (vPoR k.x0 x.point < 0) = true then
    some (.inr ⟨(true)⟩)
   else
    some (.inl ())
  else
   none
def xUkR24 (k : KUkR24) (b : B_UkR24) : EUkR24 := ⟨(k.x4)⟩
def putUkR24 (k : KUkR24) (b : B_UkR24) (j : Nat) : KUkR24 := ⟨k.x0, k.x3, k.x4, (j : Int)⟩
def bUkR24 (k : KUkR24) : B_UkR24 := ()
def oUkR24 (k : KUkR24) : Option (B_UkR24 ⊕ EUkR24) := scanO (fUkR24 k) (bUkR24 k) k.x3.drives
def okUkR24 (k : KUkR24) : Bool := decide (k.x13 = 0) && ((Nat.ble k.x3.drives.length 9223372036854775807 && isOO (oUkR24 k)))
def FUkR24 (k : KUkR24) : Fx EUkR24 := fxO (xUkR24 k) (bUkR24 k) (xUkR24 k (bUkR24 k)) (oUkR24 k)
theorem sUkR24 (k : KUkR24) (hm : k.x3.drives.length ≤ 9223372036854775807) (b : B_UkR24) (j : Nat) (h : j < k.x3.drives.length) : stepUkR24 (putUkR24 k b j) = nxO (fun b' => putUkR24 k b' (j + 1)) (fUkR24 k b k.x3.drives[j]) := by
  unfold stepUkR24 stUkR24 fUkR24 putUkR24
  dsimp only
  simp only [nxO_ite, cnt' h hm, gtj' _ _ _ h, if_pos (lt1' h), if_pos (lt0' (j := j)), if_pos (lt2' h)]
  rfl
theorem eUkR24 (k : KUkR24) (b : B_UkR24) : stepUkR24 (putUkR24 k b k.x3.drives.length) = .ex (xUkR24 k b) := by
  unfold stepUkR24 stUkR24 putUkR24
  dsimp only
  rw [if_neg lt3']
  rfl
theorem iUkR24 (k : KUkR24) (h : okUkR24 k = true) : iter stepUkR24 (k.x3.drives).length k = some (FUkR24 k) := by
  unfold okUkR24 at h
  simp only [Bool.and_eq_true, decide_eq_true_eq] at h
  obtain ⟨h0, h2, h3⟩ := h
  replace h2 := Nat.le_of_ble_eq_true h2
  have e : k = putUkR24 k (bUkR24 k) 0 := by cases k; dsimp only at h0; subst h0; rfl
  have := iter_scanO (step := stepUkR24) k.x3.drives (putUkR24 k) (fUkR24 k) (xUkR24 k) (bUkR24 k) (xUkR24 k (bUkR24 k)) (fun b j h => sUkR24 k h2 b j h) (fun b => eUkR24 k b) k.x3.drives.length 0 (bUkR24 k) (by simp) (by rw [List.drop_zero]; exact h3)
  rw [List.drop_zero, ← e] at this
  exact this
def gUkR24 : LP := fun st K => match uUkR24 st with | some k => if okUkR24 k = true then (if isLO (oUkR24 k) = true then K (.ex 8) (XUkR24 (⟨(k.x4)⟩ : EUkR24)) else K .ret (XUkR24 (getRO (xUkR24 k (bUkR24 k)) (oUkR24 k)))) else none | none => none
theorem okgUkR24 : OKL 65 24 gUkR24 := okfUkR24 (fuel := fun k => (k.x3.drives).length) (ok := okUkR24) (F := FUkR24) iUkR24 fun st K => by
  unfold gUkR24
  cases hu : uUkR24 st with
  | none => rfl
  | some k =>
    dsimp only
    split
    · unfold FUkR24 fxO
      cases isLO (oUkR24 k) <;> rfl
    · rfl
structure KUkR19 where
  x0 : List GPoint
  x3 : GProgram
  x4 : Bool
  x11 : List GLink
  x12 : Int
structure EUkR19 where
  x0 : List GPoint
  x3 : GProgram
  x4 : Bool
def SUkR19 (k : KUkR19) : St At := { env := [(0, .ro 66 k.x0), (3, .ptr 0 0), (4, .bool k.x4), (11, .ro 55 k.x11), (12, .int .i64 k.x12)], stk := [], hp := [(0, .var (enc31 k.x3) false)], nx := 1 }
def XUkR19 (k : EUkR19) : St At := { env := [(0, .ro 66 k.x0), (3, .ptr 0 0), (4, .bool k.x4)], stk := [], hp := [(0, .var (enc31 k.x3) false)], nx := 1 }
def CUkR19 : Cfg := { cs := libNs, ks := [((65, 19), [(0, none), (3, none), (4, none), (11, none), (12, none)])], xs := [((65, 19), [(0, none), (3, none), (4, none)])], lps := [] }
theorem CUkR19_ok : CfgOK CUkR19 := { con := libNs_ok }
def stUkR19 {α : Type} (k : KUkR19) (go : KUkR19 → α) (ex ret : EUkR19 → α) (no : α) : α :=
  if decide (k.x12 < (↑k.x11.length : Int)) = true then
   if 0 ≤ k.x12 then
    if k.x12 < (↑k.x11.length : Int) then
     if (!eqB (gt { node := { data := #[] : ByteArray }, port := 0, point := { data := #[] : ByteArray }, const := { kind := 0, n := 0 : GValue }, delayed := false, initial := { kind := 0, n := 0 : GValue } : GLink } k.x11 k.x12.toNat).node { data := #[] : ByteArray }) = true then
      if 0 ≤ k.x12 then
       if k.x12 < (↑k.x11.length : Int) then
        if cFiR k.x3 (gt { node := { data := #[] : ByteArray }, port := 0, point := { data := #[] : ByteArray }, const := { kind := 0, n := 0 : GValue }, delayed := false, initial := { kind := 0, n := 0 : GValue } : GLink } k.x11 k.x12.toNat).node = true then
         if decide (vFiR k.x3 (gt { node := { data := #[] : ByteArray }, port := 0, point := { data := #[] : ByteArray }, const := { kind := 0, n := 0 : GValue }, delayed := false, initial := { kind := 0, n := 0 : GValue } : GLink } k.x11 k.x12.toNat).node < 0) = false then
          if 0 ≤ k.x12 then
           if k.x12 < (↑k.x11.length : Int) then
            if (!eqB (gt { node := { data := #[] : ByteArray }, port := 0, point := { data := #[] : ByteArray }, const := { kind := 0, n := 0 : GValue }, delayed := false, initial := { kind := 0, n := 0 : GValue } : GLink } k.x11 k.x12.toNat).point { data := #[] : ByteArray }) = true then
             if 0 ≤ k.x12 then
              if k.x12 < (↑k.x11.length : Int) then
               if cPoR k.x0 (gt { node := { data := #[] : ByteArray }, port := 0, point := { data := #[] : ByteArray }, const := { kind := 0, n := 0 : GValue }, delayed := false, initial := { kind := 0, n := 0 : GValue } : GLink } k.x11 k.x12.toNat).point = true then
                if decide (vPoR k.x0 (gt { node := { data := #[] : ByteArray }, port := 0, point := { data := #[] : ByteArray }, const := { kind := 0, n := 0 : GValue }, delayed := false, initial := { kind := 0, n := 0 : GValue } : GLink } k.x11 k.x12.toNat).point < 0) = true then
                 ret ⟨(k.x0), (k.x3), (true)⟩
                else
                 go ⟨(k.x0), (k.x3), (k.x4), (k.x11), (IntKind.i64.wrap (k.x12 + 1))⟩
               else
                no
              else
               no
             else
              no
            else
             go ⟨(k.x0), (k.x3), (k.x4), (k.x11), (IntKind.i64.wrap (k.x12 + 1))⟩
           else
            no
          else
           no
         else
          ret ⟨(k.x0), (k.x3), (true)⟩
        else
         no
       else
        no
      else
       no
     else
      if 0 ≤ k.x12 then
       if k.x12 < (↑k.x11.length : Int) then
        if (!eqB (gt { node := { data := #[] : ByteArray }, port := 0, point := { data := #[] : ByteArray }, const := { kind := 0, n := 0 : GValue }, delayed := false, initial := { kind := 0, n := 0 : GValue } : GLink } k.x11 k.x12.toNat).point { data := #[] : ByteArray }) = true then
         if 0 ≤ k.x12 then
          if k.x12 < (↑k.x11.length : Int) then
           if cPoR k.x0 (gt { node := { data := #[] : ByteArray }, port := 0, point := { data := #[] : ByteArray }, const := { kind := 0, n := 0 : GValue }, delayed := false, initial := { kind := 0, n := 0 : GValue } : GLink } k.x11 k.x12.toNat).point = true then
            if decide (vPoR k.x0 (gt { node := { data := #[] : ByteArray }, port := 0, point := { data := #[] : ByteArray }, const := { kind := 0, n := 0 : GValue }, delayed := false, initial := { kind := 0, n := 0 : GValue } : GLink } k.x11 k.x12.toNat).point < 0) = true then
             ret ⟨(k.x0), (k.x3), (true)⟩
            else
             go ⟨(k.x0), (k.x3), (k.x4), (k.x11), (IntKind.i64.wrap (k.x12 + 1))⟩
           else
            no
          else
           no
         else
          no
        else
         go ⟨(k.x0), (k.x3), (k.x4), (k.x11), (IntKind.i64.wrap (k.x12 + 1))⟩
       else
        no
      else
       no
    else
     no
   else
    no
  else
   ex ⟨(k.x0), (k.x3), (k.x4)⟩
def stepUkR19 (k : KUkR19) : Nx KUkR19 EUkR19 := stUkR19 k .go .ex .ret .no
theorem BUkR19 (k : KUkR19) (m : Nat) (R : St At → Option (Res At)) (K : Xit → St At → Option (Res At)) : B CUkR19 65 19 (m + 60) (SUkR19 k) R K = stUkR19 k (fun k => R (SUkR19 k)) (fun x => K (.ex 6) (XUkR19 x)) (fun x => K .ret (XUkR19 x)) none := by kernel_rfl
def uUkR19 (st : St At) : Option KUkR19 := match st with
  | ⟨[(0, vx0), (3, .ptr 0 0), (4, .bool x4), (11, vx11), (12, .int .i64 x12)], [], [(0, .var wx3 false)], 1⟩ => (match roV 66 vx0, ex31 wx3, roV 55 vx11 with | some x0, some x3, some x11 => some ⟨x0, x3, x4, x11, x12⟩ | _, _, _ => none)
  | _ => none
theorem uUkR19_spec {st : St At} {k : KUkR19} (h : uUkR19 st = some k) : st = SUkR19 k := by
  unfold uUkR19 at h
  split at h
  · split at h
    · rename_i h0 h1 h2
      obtain rfl := Option.some.inj h
      rw [roV_spec h0, ex31_spec h1, roV_spec h2]
      rfl
    · cases h
  · cases h
theorem oklUkR19 {g : LP} (hg : ∀ st K q, g st K = some q → ∃ k n e, st = SUkR19 k ∧ iter stepUkR19 n k = some e ∧ e.k 6 XUkR19 XUkR19 K = some q) : OKL 65 19 g := okl_iter CUkR19_ok (S := SUkR19) (X := XUkR19) (Y := XUkR19) (step := stepUkR19) (id := 6) (by kernel_rfl) (by kernel_rfl)
  (fun k m R K => by rw [BUkR19]; unfold stepUkR19 stUkR19; simp only [Nx.k_ite]; rfl) (fun k => by kernel_rfl) hg
/-- the contract out of a closed form -/
theorem okfUkR19 {g : LP} {fuel : KUkR19 → Nat} {ok : KUkR19 → Bool} {F : KUkR19 → Fx EUkR19} (hF : ∀ k, ok k = true → iter stepUkR19 (fuel k) k = some (F k)) (hg : ∀ st K, g st K = (match uUkR19 st with | some k => if ok k = true then (F k).k 6 XUkR19 XUkR19 K else none | none => none)) : OKL 65 19 g := oklUkR19 fun st K q h => by
  rw [hg] at h
  split at h
  · rename_i k hu
    split at h
    · rename_i hok; exact ⟨k, _, _, uUkR19_spec hu, hF k hok, h⟩
    · cases h
  · cases h
abbrev B_UkR19 := Unit
def fUkR19 (k : KUkR19) (b : B_UkR19) (x : GLink) : Option (B_UkR19 ⊕ EUkR19) :=
  if (!eqB x.node { data := #[] : ByteArray }) = true then
   if cFiR k.x3 x.node = true then
    if decide (vFiR k.x3 x.node < 0) = false then
     if (!eqB x.point { data := #[] : ByteArray }) = true then
      if cPoR k.x0 x.point = true then
       if decide (vPoR k.x0 x.point < 0) = true then
        some (.inr ⟨(k.x0), (k.x3), (true)⟩)
       else
        some (.inl ())
      else
       none
     else
      some (.inl ())
    else
     some (.inr ⟨(k.x0), (k.x3), (true)⟩)
   else
    none
  else
   if (!eqB x.point { data := #[] : ByteArray }) = true then
    if cPoR k.x0 x.point = true then
     if decide (vPoR k.x0 x.point < 0) = true then
      some (.inr ⟨(k.x0), (k.x3), (true)⟩)
     else
      some (.inl ())
    else
     none
   else
    some (.inl ())
def xUkR19 (k : KUkR19) (b : B_UkR19) : EUkR19 := ⟨(k.x0), (k.x3), (k.x4)⟩
def putUkR19 (k : KUkR19) (b : B_UkR19) (j : Nat) : KUkR19 := ⟨k.x0, k.x3, k.x4, k.x11, (j : Int)⟩
def bUkR19 (k : KUkR19) : B_UkR19 := ()
def oUkR19 (k : KUkR19) : Option (B_UkR19 ⊕ EUkR19) := scanO (fUkR19 k) (bUkR19 k) k.x11
def okUkR19 (k : KUkR19) : Bool := decide (k.x12 = 0) && ((Nat.ble k.x11.length 9223372036854775807 && isOO (oUkR19 k)))
def FUkR19 (k : KUkR19) : Fx EUkR19 := fxO (xUkR19 k) (bUkR19 k) (xUkR19 k (bUkR19 k)) (oUkR19 k)
theorem sUkR19 (k : KUkR19) (hm : k.x11.length ≤ 9223372036854775807) (b : B_UkR19) (j : Nat) (h : j < k.x11.length) : stepUkR19 (putUkR19 k b j) = nxO (fun b' => putUkR19 k b' (j + 1)) (fUkR19 k b k.x11[j]) := by
  unfold stepUkR19 stUkR19 fUkR19 putUkR19
  dsimp only
  simp only [nxO_ite, cnt' h hm, gtj' _ _ _ h, if_pos (lt1' h), if_pos (lt0' (j := j)), if_pos (lt2' h)]
  rfl
theorem eUkR19 (k : KUkR19) (b : B_UkR19) : stepUkR19 (putUkR19 k b k.x11.length) = .ex (xUkR19 k b) := by
  unfold stepUkR19 stUkR19 putUkR19
  dsimp only
  rw [if_neg lt3']
  rfl
theorem iUkR19 (k : KUkR19) (h : okUkR19 k = true) : iter stepUkR19 (k.x11).length k = some (FUkR19 k) := by
  unfold okUkR19 at h
  simp only [Bool.and_eq_true, decide_eq_true_eq] at h
  obtain ⟨h0, h2, h3⟩ := h
  replace h2 := Nat.le_of_ble_eq_true h2
  have e : k = putUkR19 k (bUkR19 k) 0 := by cases k; dsimp only at h0; subst h0; rfl
  have := iter_scanO (step := stepUkR19) k.x11 (putUkR19 k) (fUkR19 k) (xUkR19 k) (bUkR19 k) (xUkR19 k (bUkR19 k)) (fun b j h => sUkR19 k h2 b j h) (fun b => eUkR19 k b) k.x11.length 0 (bUkR19 k) (by simp) (by rw [List.drop_zero]; exact h3)
  rw [List.drop_zero, ← e] at this
  exact this
def gUkR19 : LP := fun st K => match uUkR19 st with | some k => if okUkR19 k = true then (if isLO (oUkR19 k) = true then K (.ex 6) (XUkR19 (⟨(k.x0), (k.x3), (k.x4)⟩ : EUkR19)) else K .ret (XUkR19 (getRO (xUkR19 k (bUkR19 k)) (oUkR19 k)))) else none | none => none
theorem okgUkR19 : OKL 65 19 gUkR19 := okfUkR19 (fuel := fun k => (k.x11).length) (ok := okUkR19) (F := FUkR19) iUkR19 fun st K => by
  unfold gUkR19
  cases hu : uUkR19 st with
  | none => rfl
  | some k =>
    dsimp only
    split
    · unfold FUkR19 fxO
      cases isLO (oUkR19 k) <;> rfl
    · rfl
structure KUkR12 where
  x0 : List GPoint
  x3 : GProgram
  x4 : Bool
  x5 : Int
  x6 : GDescriptor
  x8 : Int
  x9 : Bool
  x10 : Int
structure EUkR12 where
  x0 : List GPoint
  x3 : GProgram
  x4 : Bool
  x5 : Int
  x6 : GDescriptor
  x8 : Int
  x9 : Bool
def SUkR12 (k : KUkR12) : St At := { env := [(0, .ro 66 k.x0), (3, .ptr 0 0), (4, .bool k.x4), (5, .int .i64 k.x5), (6, .ptr 1 0), (8, .int .i64 k.x8), (9, .bool k.x9), (10, .int .i64 k.x10)], stk := [], hp := [(0, .var (enc31 k.x3) false), (1, .var (enc150 k.x6) false)], nx := 2 }
def XUkR12 (k : EUkR12) : St At := { env := [(0, .ro 66 k.x0), (3, .ptr 0 0), (4, .bool k.x4), (5, .int .i64 k.x5), (6, .ptr 1 0), (8, .int .i64 k.x8), (9, .bool k.x9)], stk := [], hp := [(0, .var (enc31 k.x3) false), (1, .var (enc150 k.x6) false)], nx := 2 }
def CUkR12 : Cfg := { cs := libNs, ks := [((65, 12), [(0, none), (3, none), (4, none), (5, none), (6, none), (8, none), (9, none), (10, none)])], xs := [((65, 12), [(0, none), (3, none), (4, none), (5, none), (6, none), (8, none), (9, none)])], lps := [] }
theorem CUkR12_ok : CfgOK CUkR12 := { con := libNs_ok }
def stUkR12 {α : Type} (k : KUkR12) (go : KUkR12 → α) (ex ret : EUkR12 → α) (no : α) : α :=
  if decide (k.x10 < (↑k.x6.params.length : Int)) = true then
   if k.x9 = false then
    if 0 ≤ k.x10 then
     if k.x10 < (↑k.x6.params.length : Int) then
      if 0 ≤ k.x5 then
       if k.x5 < (↑k.x3.nodes.length : Int) then
        if 0 ≤ k.x8 then
         if k.x8 < (↑(gt { name := { data := #[] : ByteArray }, block := { data := #[] : ByteArray }, params := [], inputs := [] : GNode } k.x3.nodes k.x5.toNat).params.length : Int) then
          go ⟨(k.x0), (k.x3), (k.x4), (k.x5), (k.x6), (k.x8), (eqB (gt { name := { data := #[] : ByteArray }, lo := 0, hi := 0, default_ := 0 : GBound } k.x6.params k.x10.toNat).name (gt { name := { data := #[] : ByteArray }, value := 0 : GParam } (gt { name := { data := #[] : ByteArray }, block := { data := #[] : ByteArray }, params := [], inputs := [] : GNode } k.x3.nodes k.x5.toNat).params k.x8.toNat).name), (IntKind.i64.wrap (k.x10 + 1))⟩
         else
          no
        else
         no
       else
        no
      else
       no
     else
      no
    else
     no
   else
    go ⟨(k.x0), (k.x3), (k.x4), (k.x5), (k.x6), (k.x8), (true), (IntKind.i64.wrap (k.x10 + 1))⟩
  else
   ex ⟨(k.x0), (k.x3), (k.x4), (k.x5), (k.x6), (k.x8), (k.x9)⟩
def stepUkR12 (k : KUkR12) : Nx KUkR12 EUkR12 := stUkR12 k .go .ex .ret .no
theorem BUkR12 (k : KUkR12) (m : Nat) (R : St At → Option (Res At)) (K : Xit → St At → Option (Res At)) : B CUkR12 65 12 (m + 60) (SUkR12 k) R K = stUkR12 k (fun k => R (SUkR12 k)) (fun x => K (.ex 4) (XUkR12 x)) (fun x => K .ret (XUkR12 x)) none := by kernel_rfl
def uUkR12 (st : St At) : Option KUkR12 := match st with
  | ⟨[(0, vx0), (3, .ptr 0 0), (4, .bool x4), (5, .int .i64 x5), (6, .ptr 1 0), (8, .int .i64 x8), (9, .bool x9), (10, .int .i64 x10)], [], [(0, .var wx3 false), (1, .var wx6 false)], 2⟩ => (match roV 66 vx0, ex31 wx3, ex150 wx6 with | some x0, some x3, some x6 => some ⟨x0, x3, x4, x5, x6, x8, x9, x10⟩ | _, _, _ => none)
  | _ => none
theorem uUkR12_spec {st : St At} {k : KUkR12} (h : uUkR12 st = some k) : st = SUkR12 k := by
  unfold uUkR12 at h
  split at h
  · split at h
    · rename_i h0 h1 h2
      obtain rfl := Option.some.inj h
      rw [roV_spec h0, ex31_spec h1, ex150_spec h2]
      rfl
    · cases h
  · cases h
theorem oklUkR12 {g : LP} (hg : ∀ st K q, g st K = some q → ∃ k n e, st = SUkR12 k ∧ iter stepUkR12 n k = some e ∧ e.k 4 XUkR12 XUkR12 K = some q) : OKL 65 12 g := okl_iter CUkR12_ok (S := SUkR12) (X := XUkR12) (Y := XUkR12) (step := stepUkR12) (id := 4) (by kernel_rfl) (by kernel_rfl)
  (fun k m R K => by rw [BUkR12]; unfold stepUkR12 stUkR12; simp only [Nx.k_ite]; rfl) (fun k => by kernel_rfl) hg
/-- the contract out of a closed form -/
theorem okfUkR12 {g : LP} {fuel : KUkR12 → Nat} {ok : KUkR12 → Bool} {F : KUkR12 → Fx EUkR12} (hF : ∀ k, ok k = true → iter stepUkR12 (fuel k) k = some (F k)) (hg : ∀ st K, g st K = (match uUkR12 st with | some k => if ok k = true then (F k).k 4 XUkR12 XUkR12 K else none | none => none)) : OKL 65 12 g := oklUkR12 fun st K q h => by
  rw [hg] at h
  split at h
  · rename_i k hu
    split at h
    · rename_i hok; exact ⟨k, _, _, uUkR12_spec hu, hF k hok, h⟩
    · cases h
  · cases h
structure B_UkR12 where
  x9 : Bool
  x10 : Int
structure P_UkR12 where
  x9 : Bool
structure Q_UkR12 where
  x9 : Bool
def putUkR12 (k : KUkR12) (b : B_UkR12) : KUkR12 := ⟨k.x0, k.x3, k.x4, k.x5, k.x6, k.x8, b.x9, b.x10⟩
def bUkR12 (k : KUkR12) : B_UkR12 := ⟨k.x9, k.x10⟩
def xeUkR12 (k : KUkR12) (e : P_UkR12) : EUkR12 := ⟨k.x0, k.x3, k.x4, k.x5, k.x6, k.x8, e.x9⟩
def xrUkR12 (k : KUkR12) (e : Q_UkR12) : EUkR12 := ⟨k.x0, k.x3, k.x4, k.x5, k.x6, k.x8, e.x9⟩
def sUkR12 (k : KUkR12) (b : B_UkR12) : Nx2 B_UkR12 P_UkR12 Q_UkR12 := stUkR12 (putUkR12 k b) (fun k => .go ⟨k.x9, k.x10⟩) (fun k => .ex ⟨k.x9⟩) (fun k => .ret ⟨k.x9⟩) .no
def iUkR12 (k : KUkR12) : Option (P_UkR12 ⊕ Q_UkR12) := iter2 (sUkR12 k) (k.x6.params.length) (bUkR12 k)
def okUkR12 (k : KUkR12) : Bool := isO (iUkR12 k)
def FUkR12 (k : KUkR12) : Fx EUkR12 := if isLO (iUkR12 k) = true then .ex (xeUkR12 k (getLO ⟨k.x9⟩ (iUkR12 k))) else .ret (xrUkR12 k (getRO ⟨k.x9⟩ (iUkR12 k)))
theorem hUkR12 (k : KUkR12) (b : B_UkR12) : stepUkR12 (putUkR12 k b) = (sUkR12 k b).up (putUkR12 k) (xeUkR12 k) (xrUkR12 k) := by
  unfold stepUkR12 sUkR12 stUkR12 putUkR12
  dsimp only
  simp only [Nx2.up_ite]
  rfl
theorem iUkR12_ok (k : KUkR12) (h : okUkR12 k = true) : iter stepUkR12 (k.x6.params.length) k = some (FUkR12 k) := iter2_ok (bUkR12 k) (hUkR12 k) h
def gUkR12 : LP := fun st K => match uUkR12 st with | some k => if okUkR12 k = true then (if isLO (iUkR12 k) = true then K (.ex 4) (XUkR12 (⟨k.x0, k.x3, k.x4, k.x5, k.x6, k.x8, (getLO ⟨k.x9⟩ (iUkR12 k)).x9⟩ : EUkR12)) else K .ret (XUkR12 (⟨k.x0, k.x3, k.x4, k.x5, k.x6, k.x8, (getRO ⟨k.x9⟩ (iUkR12 k)).x9⟩ : EUkR12))) else none | none => none
theorem okgUkR12 : OKL 65 12 gUkR12 := okfUkR12 (fuel := fun k => k.x6.params.length) (ok := okUkR12) (F := FUkR12) iUkR12_ok fun st K => by
  unfold gUkR12
  cases hu : uUkR12 st with
  | none => rfl
  | some k =>
    dsimp only
    split
    · unfold FUkR12
      cases isLO (iUkR12 k) <;> rfl
    · rfl
structure KUkR8 where
  x0 : List GPoint
  x3 : GProgram
  x4 : Bool
  x5 : Int
  x6 : GDescriptor
  x8 : Int
structure EUkR8 where
  x0 : List GPoint
  x3 : GProgram
  x4 : Bool
  x5 : Int
def SUkR8 (k : KUkR8) : St At := { env := [(0, .ro 66 k.x0), (3, .ptr 0 0), (4, .bool k.x4), (5, .int .i64 k.x5), (6, .ptr 1 0), (8, .int .i64 k.x8)], stk := [], hp := [(0, .var (enc31 k.x3) false), (1, .var (enc150 k.x6) false)], nx := 2 }
def XUkR8 (k : EUkR8) : St At := { env := [(0, .ro 66 k.x0), (3, .ptr 0 0), (4, .bool k.x4), (5, .int .i64 k.x5)], stk := [], hp := [(0, .var (enc31 k.x3) false)], nx := 1 }
def CUkR8 : Cfg := { cs := libNs, ks := [((65, 8), [(0, none), (3, none), (4, none), (5, none), (6, none), (8, none)])] ++ CUkR12.ks, xs := [((65, 8), [(0, none), (3, none), (4, none), (5, none)])] ++ CUkR12.xs, lps := [((65, 12), gUkR12)] }
theorem CUkR8_ok : CfgOK CUkR8 := { con := libNs_ok, lp := .cons okgUkR12 .nil }
def stUkR8 {α : Type} (k : KUkR8) (go : KUkR8 → α) (ex ret : EUkR8 → α) (no : α) : α :=
  if 0 ≤ k.x5 then
   if k.x5 < (↑k.x3.nodes.length : Int) then
    if decide (k.x8 < (↑(gt { name := { data := #[] : ByteArray }, block := { data := #[] : ByteArray }, params := [], inputs := [] : GNode } k.x3.nodes k.x5.toNat).params.length : Int)) = true then
     if okUkR12 { x0 := k.x0, x3 := k.x3, x4 := k.x4, x5 := k.x5, x6 := k.x6, x8 := k.x8, x9 := false, x10 := 0 : KUkR12 } = true then
      if isLO (iUkR12 { x0 := k.x0, x3 := k.x3, x4 := k.x4, x5 := k.x5, x6 := k.x6, x8 := k.x8, x9 := false, x10 := 0 : KUkR12 }) = true then
       if (!(getLO { x9 := false : P_UkR12 } (iUkR12 { x0 := k.x0, x3 := k.x3, x4 := k.x4, x5 := k.x5, x6 := k.x6, x8 := k.x8, x9 := false, x10 := 0 : KUkR12 })).x9) = true then
        ret ⟨(k.x0), (k.x3), (true), (k.x5)⟩
       else
        go ⟨(k.x0), (k.x3), (k.x4), (k.x5), (k.x6), (IntKind.i64.wrap (k.x8 + 1))⟩
      else
       ret ⟨(k.x0), (k.x3), (k.x4), (k.x5)⟩
     else
      no
    else
     ex ⟨(k.x0), (k.x3), (k.x4), (k.x5)⟩
   else
    no
  else
   no
def stepUkR8 (k : KUkR8) : Nx KUkR8 EUkR8 := stUkR8 k .go .ex .ret .no
theorem BUkR8 (k : KUkR8) (m : Nat) (R : St At → Option (Res At)) (K : Xit → St At → Option (Res At)) : B CUkR8 65 8 (m + 60) (SUkR8 k) R K = stUkR8 k (fun k => R (SUkR8 k)) (fun x => K (.ex 2) (XUkR8 x)) (fun x => K .ret (XUkR8 x)) none := by kernel_rfl
def uUkR8 (st : St At) : Option KUkR8 := match st with
  | ⟨[(0, vx0), (3, .ptr 0 0), (4, .bool x4), (5, .int .i64 x5), (6, .ptr 1 0), (8, .int .i64 x8)], [], [(0, .var wx3 false), (1, .var wx6 false)], 2⟩ => (match roV 66 vx0, ex31 wx3, ex150 wx6 with | some x0, some x3, some x6 => some ⟨x0, x3, x4, x5, x6, x8⟩ | _, _, _ => none)
  | _ => none
theorem uUkR8_spec {st : St At} {k : KUkR8} (h : uUkR8 st = some k) : st = SUkR8 k := by
  unfold uUkR8 at h
  split at h
  · split at h
    · rename_i h0 h1 h2
      obtain rfl := Option.some.inj h
      rw [roV_spec h0, ex31_spec h1, ex150_spec h2]
      rfl
    · cases h
  · cases h
theorem oklUkR8 {g : LP} (hg : ∀ st K q, g st K = some q → ∃ k n e, st = SUkR8 k ∧ iter stepUkR8 n k = some e ∧ e.k 2 XUkR8 XUkR8 K = some q) : OKL 65 8 g := okl_iter CUkR8_ok (S := SUkR8) (X := XUkR8) (Y := XUkR8) (step := stepUkR8) (id := 2) (by kernel_rfl) (by kernel_rfl)
  (fun k m R K => by rw [BUkR8]; unfold stepUkR8 stUkR8; simp only [Nx.k_ite]; rfl) (fun k => by kernel_rfl) hg
/-- the contract out of a closed form -/
theorem okfUkR8 {g : LP} {fuel : KUkR8 → Nat} {ok : KUkR8 → Bool} {F : KUkR8 → Fx EUkR8} (hF : ∀ k, ok k = true → iter stepUkR8 (fuel k) k = some (F k)) (hg : ∀ st K, g st K = (match uUkR8 st with | some k => if ok k = true then (F k).k 2 XUkR8 XUkR8 K else none | none => none)) : OKL 65 8 g := oklUkR8 fun st K q h => by
  rw [hg] at h
  split at h
  · rename_i k hu
    split at h
    · rename_i hok; exact ⟨k, _, _, uUkR8_spec hu, hF k hok, h⟩
    · cases h
  · cases h
structure B_UkR8 where
  x8 : Int
abbrev P_UkR8 := Unit
structure Q_UkR8 where
  x4 : Bool
def putUkR8 (k : KUkR8) (b : B_UkR8) : KUkR8 := ⟨k.x0, k.x3, k.x4, k.x5, k.x6, b.x8⟩
def bUkR8 (k : KUkR8) : B_UkR8 := ⟨k.x8⟩
def xeUkR8 (k : KUkR8) (e : P_UkR8) : EUkR8 := ⟨k.x0, k.x3, k.x4, k.x5⟩
def xrUkR8 (k : KUkR8) (e : Q_UkR8) : EUkR8 := ⟨k.x0, k.x3, e.x4, k.x5⟩
def sUkR8 (k : KUkR8) (b : B_UkR8) : Nx2 B_UkR8 P_UkR8 Q_UkR8 := stUkR8 (putUkR8 k b) (fun k => .go ⟨k.x8⟩) (fun k => .ex ()) (fun k => .ret ⟨k.x4⟩) .no
def iUkR8 (k : KUkR8) : Option (P_UkR8 ⊕ Q_UkR8) := iter2 (sUkR8 k) ((gt ((ptT 58).d : GNode) k.x3.nodes k.x5.toNat).params.length) (bUkR8 k)
def okUkR8 (k : KUkR8) : Bool := isO (iUkR8 k)
def FUkR8 (k : KUkR8) : Fx EUkR8 := if isLO (iUkR8 k) = true then .ex (xeUkR8 k (getLO () (iUkR8 k))) else .ret (xrUkR8 k (getRO ⟨k.x4⟩ (iUkR8 k)))
theorem hUkR8 (k : KUkR8) (b : B_UkR8) : stepUkR8 (putUkR8 k b) = (sUkR8 k b).up (putUkR8 k) (xeUkR8 k) (xrUkR8 k) := by
  unfold stepUkR8 sUkR8 stUkR8 putUkR8
  dsimp only
  simp only [Nx2.up_ite]
  rfl
theorem iUkR8_ok (k : KUkR8) (h : okUkR8 k = true) : iter stepUkR8 ((gt ((ptT 58).d : GNode) k.x3.nodes k.x5.toNat).params.length) k = some (FUkR8 k) := iter2_ok (bUkR8 k) (hUkR8 k) h
def gUkR8 : LP := fun st K => match uUkR8 st with | some k => if okUkR8 k = true then (if isLO (iUkR8 k) = true then K (.ex 2) (XUkR8 (⟨k.x0, k.x3, k.x4, k.x5⟩ : EUkR8)) else K .ret (XUkR8 (⟨k.x0, k.x3, (getRO ⟨k.x4⟩ (iUkR8 k)).x4, k.x5⟩ : EUkR8))) else none | none => none
theorem okgUkR8 : OKL 65 8 gUkR8 := okfUkR8 (fuel := fun k => (gt ((ptT 58).d : GNode) k.x3.nodes k.x5.toNat).params.length) (ok := okUkR8) (F := FUkR8) iUkR8_ok fun st K => by
  unfold gUkR8
  cases hu : uUkR8 st with
  | none => rfl
  | some k =>
    dsimp only
    split
    · unfold FUkR8
      cases isLO (iUkR8 k) <;> rfl
    · rfl
structure KUkR2 where
  x0 : List GPoint
  x3 : GProgram
  x4 : Bool
  x5 : Int
structure EUkR2 where
  x0 : List GPoint
  x3 : GProgram
  x4 : Bool
def SUkR2 (k : KUkR2) : St At := { env := [(0, .ro 66 k.x0), (3, .ptr 0 0), (4, .bool k.x4), (5, .int .i64 k.x5)], stk := [], hp := [(0, .var (enc31 k.x3) false)], nx := 1 }
def XUkR2 (k : EUkR2) : St At := { env := [(0, .ro 66 k.x0), (3, .ptr 0 0), (4, .bool k.x4)], stk := [], hp := [(0, .var (enc31 k.x3) false)], nx := 1 }
def CUkR2 : Cfg := { cs := libNs, ks := [((65, 2), [(0, none), (3, none), (4, none), (5, none)])] ++ CUkR12.ks ++ CUkR8.ks, xs := [((65, 2), [(0, none), (3, none), (4, none)])] ++ CUkR12.xs ++ CUkR8.xs, lps := [((65, 12), gUkR12), ((65, 8), gUkR8)] }
theorem CUkR2_ok : CfgOK CUkR2 := { con := libNs_ok, lp := .cons okgUkR12 (.cons okgUkR8 .nil) }
def stUkR2 {α : Type} (k : KUkR2) (go : KUkR2 → α) (ex ret : EUkR2 → α) (no : α) : α :=
  if decide (k.x5 < (↑k.x3.nodes.length : Int)) = true then
   if 0 ≤ k.x5 then
    if k.x5 < (↑k.x3.nodes.length : Int) then
     if (!isD (findD (gt { name := { data := #[] : ByteArray }, block := { data := #[] : ByteArray }, params := [], inputs := [] : GNode } k.x3.nodes k.x5.toNat).block libL)) = true then
      ret ⟨(k.x0), (k.x3), (true)⟩
     else
      if okUkR8 { x0 := k.x0, x3 := k.x3, x4 := k.x4, x5 := k.x5, x6 := orD (findD (gt { name := { data := #[] : ByteArray }, block := { data := #[] : ByteArray }, params := [], inputs := [] : GNode } k.x3.nodes k.x5.toNat).block libL), x8 := 0 : KUkR8 } = true then
       if isLO (iUkR8 { x0 := k.x0, x3 := k.x3, x4 := k.x4, x5 := k.x5, x6 := orD (findD (gt { name := { data := #[] : ByteArray }, block := { data := #[] : ByteArray }, params := [], inputs := [] : GNode } k.x3.nodes k.x5.toNat).block libL), x8 := 0 : KUkR8 }) = true then
        go ⟨(k.x0), (k.x3), (k.x4), (IntKind.i64.wrap (k.x5 + 1))⟩
       else
        ret ⟨(k.x0), (k.x3), ((getRO { x4 := k.x4 : Q_UkR8 } (iUkR8 { x0 := k.x0, x3 := k.x3, x4 := k.x4, x5 := k.x5, x6 := orD (findD (gt { name := { data := #[] : ByteArray }, block := { data := #[] : ByteArray }, params := [], inputs := [] : GNode } k.x3.nodes k.x5.toNat).block libL), x8 := 0 : KUkR8 })).x4)⟩
      else
       no
    else
     no
   else
    no
  else
   ex ⟨(k.x0), (k.x3), (k.x4)⟩
def stepUkR2 (k : KUkR2) : Nx KUkR2 EUkR2 := stUkR2 k .go .ex .ret .no
theorem BUkR2 (k : KUkR2) (m : Nat) (R : St At → Option (Res At)) (K : Xit → St At → Option (Res At)) : B CUkR2 65 2 (m + 60) (SUkR2 k) R K = stUkR2 k (fun k => R (SUkR2 k)) (fun x => K (.ex 0) (XUkR2 x)) (fun x => K .ret (XUkR2 x)) none := by kernel_rfl
def uUkR2 (st : St At) : Option KUkR2 := match st with
  | ⟨[(0, vx0), (3, .ptr 0 0), (4, .bool x4), (5, .int .i64 x5)], [], [(0, .var wx3 false)], 1⟩ => (match roV 66 vx0, ex31 wx3 with | some x0, some x3 => some ⟨x0, x3, x4, x5⟩ | _, _ => none)
  | _ => none
theorem uUkR2_spec {st : St At} {k : KUkR2} (h : uUkR2 st = some k) : st = SUkR2 k := by
  unfold uUkR2 at h
  split at h
  · split at h
    · rename_i h0 h1
      obtain rfl := Option.some.inj h
      rw [roV_spec h0, ex31_spec h1]
      rfl
    · cases h
  · cases h
theorem oklUkR2 {g : LP} (hg : ∀ st K q, g st K = some q → ∃ k n e, st = SUkR2 k ∧ iter stepUkR2 n k = some e ∧ e.k 0 XUkR2 XUkR2 K = some q) : OKL 65 2 g := okl_iter CUkR2_ok (S := SUkR2) (X := XUkR2) (Y := XUkR2) (step := stepUkR2) (id := 0) (by kernel_rfl) (by kernel_rfl)
  (fun k m R K => by rw [BUkR2]; unfold stepUkR2 stUkR2; simp only [Nx.k_ite]; rfl) (fun k => by kernel_rfl) hg
/-- the contract out of a closed form -/
theorem okfUkR2 {g : LP} {fuel : KUkR2 → Nat} {ok : KUkR2 → Bool} {F : KUkR2 → Fx EUkR2} (hF : ∀ k, ok k = true → iter stepUkR2 (fuel k) k = some (F k)) (hg : ∀ st K, g st K = (match uUkR2 st with | some k => if ok k = true then (F k).k 0 XUkR2 XUkR2 K else none | none => none)) : OKL 65 2 g := oklUkR2 fun st K q h => by
  rw [hg] at h
  split at h
  · rename_i k hu
    split at h
    · rename_i hok; exact ⟨k, _, _, uUkR2_spec hu, hF k hok, h⟩
    · cases h
  · cases h
structure B_UkR2 where
  x5 : Int
abbrev P_UkR2 := Unit
structure Q_UkR2 where
  x4 : Bool
def putUkR2 (k : KUkR2) (b : B_UkR2) : KUkR2 := ⟨k.x0, k.x3, k.x4, b.x5⟩
def bUkR2 (k : KUkR2) : B_UkR2 := ⟨k.x5⟩
def xeUkR2 (k : KUkR2) (e : P_UkR2) : EUkR2 := ⟨k.x0, k.x3, k.x4⟩
def xrUkR2 (k : KUkR2) (e : Q_UkR2) : EUkR2 := ⟨k.x0, k.x3, e.x4⟩
def sUkR2 (k : KUkR2) (b : B_UkR2) : Nx2 B_UkR2 P_UkR2 Q_UkR2 := stUkR2 (putUkR2 k b) (fun k => .go ⟨k.x5⟩) (fun k => .ex ()) (fun k => .ret ⟨k.x4⟩) .no
def iUkR2 (k : KUkR2) : Option (P_UkR2 ⊕ Q_UkR2) := iter2 (sUkR2 k) (k.x3.nodes.length) (bUkR2 k)
def okUkR2 (k : KUkR2) : Bool := isO (iUkR2 k)
def FUkR2 (k : KUkR2) : Fx EUkR2 := if isLO (iUkR2 k) = true then .ex (xeUkR2 k (getLO () (iUkR2 k))) else .ret (xrUkR2 k (getRO ⟨k.x4⟩ (iUkR2 k)))
theorem hUkR2 (k : KUkR2) (b : B_UkR2) : stepUkR2 (putUkR2 k b) = (sUkR2 k b).up (putUkR2 k) (xeUkR2 k) (xrUkR2 k) := by
  unfold stepUkR2 sUkR2 stUkR2 putUkR2
  dsimp only
  simp only [Nx2.up_ite]
  rfl
theorem iUkR2_ok (k : KUkR2) (h : okUkR2 k = true) : iter stepUkR2 (k.x3.nodes.length) k = some (FUkR2 k) := iter2_ok (bUkR2 k) (hUkR2 k) h
def gUkR2 : LP := fun st K => match uUkR2 st with | some k => if okUkR2 k = true then (if isLO (iUkR2 k) = true then K (.ex 0) (XUkR2 (⟨k.x0, k.x3, k.x4⟩ : EUkR2)) else K .ret (XUkR2 (⟨k.x0, k.x3, (getRO ⟨k.x4⟩ (iUkR2 k)).x4⟩ : EUkR2))) else none | none => none
theorem okgUkR2 : OKL 65 2 gUkR2 := okfUkR2 (fuel := fun k => k.x3.nodes.length) (ok := okUkR2) (F := FUkR2) iUkR2_ok fun st K => by
  unfold gUkR2
  cases hu : uUkR2 st with
  | none => rfl
  | some k =>
    dsimp only
    split
    · unfold FUkR2
      cases isLO (iUkR2 k) <;> rfl
    · rfl
def CUkR : Cfg := { cs := libNs, ks := CUkR24.ks ++ CUkR19.ks ++ CUkR2.ks, xs := CUkR24.xs ++ CUkR19.xs ++ CUkR2.xs, lps := [((65, 24), gUkR24), ((65, 19), gUkR19), ((65, 2), gUkR2)] }
theorem CUkR_ok : CfgOK CUkR := { con := libNs_ok, lp := .cons okgUkR24 (.cons okgUkR19 (.cons okgUkR2 .nil)) }
def RUkR (a0 : List GPoint) (a1 : GProgram) : Option (Res At) :=
  if okUkR2 { x0 := a0, x3 := a1, x4 := false, x5 := 0 : KUkR2 } = true then
   if isLO (iUkR2 { x0 := a0, x3 := a1, x4 := false, x5 := 0 : KUkR2 }) = true then
    if cLkR a1 = true then
     if okUkR19 { x0 := a0, x3 := a1, x4 := false, x11 := vLkR a1, x12 := 0 : KUkR19 } = true then
      if isLO (oUkR19 { x0 := a0, x3 := a1, x4 := false, x11 := vLkR a1, x12 := 0 : KUkR19 }) = true then
       if okUkR24 { x0 := a0, x3 := a1, x4 := false, x13 := 0 : KUkR24 } = true then
        if isLO (oUkR24 { x0 := a0, x3 := a1, x4 := false, x13 := 0 : KUkR24 }) = true then
         some ((.bool false), [])
        else
         some ((.bool ((getRO (xUkR24 { x0 := a0, x3 := a1, x4 := false, x13 := 0 : KUkR24 } (bUkR24 { x0 := a0, x3 := a1, x4 := false, x13 := 0 : KUkR24 })) (oUkR24 { x0 := a0, x3 := a1, x4 := false, x13 := 0 : KUkR24 })).x4)), [])
       else
        none
      else
       some ((.bool ((getRO (xUkR19 { x0 := a0, x3 := a1, x4 := false, x11 := vLkR a1, x12 := 0 : KUkR19 } (bUkR19 { x0 := a0, x3 := a1, x4 := false, x11 := vLkR a1, x12 := 0 : KUkR19 })) (oUkR19 { x0 := a0, x3 := a1, x4 := false, x11 := vLkR a1, x12 := 0 : KUkR19 })).x4)), [])
     else
      none
    else
     none
   else
    some ((.bool ((getRO { x4 := false : Q_UkR2 } (iUkR2 { x0 := a0, x3 := a1, x4 := false, x5 := 0 : KUkR2 })).x4)), [])
  else
   none
theorem run_RUkR (a0 : List GPoint) (a1 : GProgram) : runF CUkR 80 65 [.ro 66 a0, .agg (enc31 a1)] = RUkR a0 a1 := by kernel_rfl
def oUkR (a0 : List GPoint) (a1 : GProgram) : Option (Res At) := crR [none] (RUkR a0 a1)
def vUkR (a0 : List GPoint) (a1 : GProgram) : Bool := valO rB false (oUkR a0 a1)
def cUkR (a0 : List GPoint) (a1 : GProgram) : Bool := okO rB (oUkR a0 a1)
def conUkR : CON := on2 (rR 66) (rA ex31 enc31 fun _ _ h => ex31_spec h) fun a0 a1 => some (cUkR a0 a1, (.bool (vUkR a0 a1), []))
theorem okUkR : OK 65 conUkR := okc2 CUkR_ok (n := 80) (ts := [none]) (a := (rR 66)) (b := (rA ex31 enc31 fun _ _ h => ex31_spec h)) (r := rB) (d := false) (R := fun a0 a1 => RUkR a0 a1) (by kernel_rfl) fun a0 a1 => run_RUkR a0 a1
def libUkR : List (Nat × CON) := (65, conUkR) :: libNs
theorem libUkR_ok : AllOK libUkR := .cons okUkR libNs_ok
structure KCkR19 where
  x0 : List GPoint
  x3 : GProgram
  x4 : Int
  x12 : Int
structure ECkR19 where
  x4 : Int
def SCkR19 (k : KCkR19) : St At := { env := [(0, .ro 66 k.x0), (3, .ptr 0 0), (4, .int .i64 k.x4), (12, .int .i64 k.x12)], stk := [], hp := [(0, .var (enc31 k.x3) false)], nx := 1 }
def XCkR19 (k : ECkR19) : St At := { env := [(4, .int .i64 k.x4)], stk := [], hp := [], nx := 0 }
def CCkR19 : Cfg := { cs := libUkR, ks := [((16, 19), [(0, none), (3, none), (4, none), (12, none)])], xs := [((16, 19), [(4, none)])], lps := [] }
theorem CCkR19_ok : CfgOK CCkR19 := { con := libUkR_ok }
def stCkR19 {α : Type} (k : KCkR19) (go : KCkR19 → α) (ex ret : ECkR19 → α) (no : α) : α :=
  if decide (k.x12 < (↑k.x3.drives.length : Int)) = true then
   if 0 ≤ k.x12 then
    if k.x12 < (↑k.x3.drives.length : Int) then
     if cPoR k.x0 (gt { point := { data := #[] : ByteArray }, level := 0, from_ := { node := { data := #[] : ByteArray }, port := 0, point := { data := #[] : ByteArray }, const := { kind := 0, n := 0 : GValue }, delayed := false, initial := { kind := 0, n := 0 : GValue } : GLink } : GDrive } k.x3.drives k.x12.toNat).point = true then
      if 0 ≤ vPoR k.x0 (gt { point := { data := #[] : ByteArray }, level := 0, from_ := { node := { data := #[] : ByteArray }, port := 0, point := { data := #[] : ByteArray }, const := { kind := 0, n := 0 : GValue }, delayed := false, initial := { kind := 0, n := 0 : GValue } : GLink } : GDrive } k.x3.drives k.x12.toNat).point then
       if vPoR k.x0 (gt { point := { data := #[] : ByteArray }, level := 0, from_ := { node := { data := #[] : ByteArray }, port := 0, point := { data := #[] : ByteArray }, const := { kind := 0, n := 0 : GValue }, delayed := false, initial := { kind := 0, n := 0 : GValue } : GLink } : GDrive } k.x3.drives k.x12.toNat).point < (↑k.x0.length : Int) then
        if (!decide ((gt { name := { data := #[] : ByteArray }, kind := 0, role := 0, unit_ := { data := #[] : ByteArray }, low := 0, high := 0, step := 0, states := [], default_ := { kind := 0, n := 0 : GValue }, minOn := 0, minOff := 0 : GPoint } k.x0 (vPoR k.x0 (gt { point := { data := #[] : ByteArray }, level := 0, from_ := { node := { data := #[] : ByteArray }, port := 0, point := { data := #[] : ByteArray }, const := { kind := 0, n := 0 : GValue }, delayed := false, initial := { kind := 0, n := 0 : GValue } : GLink } : GDrive } k.x3.drives k.x12.toNat).point).toNat).role = 2)) = true then
         if (!decide ((gt { name := { data := #[] : ByteArray }, kind := 0, role := 0, unit_ := { data := #[] : ByteArray }, low := 0, high := 0, step := 0, states := [], default_ := { kind := 0, n := 0 : GValue }, minOn := 0, minOff := 0 : GPoint } k.x0 (vPoR k.x0 (gt { point := { data := #[] : ByteArray }, level := 0, from_ := { node := { data := #[] : ByteArray }, port := 0, point := { data := #[] : ByteArray }, const := { kind := 0, n := 0 : GValue }, delayed := false, initial := { kind := 0, n := 0 : GValue } : GLink } : GDrive } k.x3.drives k.x12.toNat).point).toNat).role = 3)) = true then
          ret ⟨(11)⟩
         else
          go ⟨(k.x0), (k.x3), (k.x4), (IntKind.i64.wrap (k.x12 + 1))⟩
        else
         go ⟨(k.x0), (k.x3), (k.x4), (IntKind.i64.wrap (k.x12 + 1))⟩
       else
        no
      else
       no
     else
      no
    else
     no
   else
    no
  else
   ex ⟨(k.x4)⟩
def stepCkR19 (k : KCkR19) : Nx KCkR19 ECkR19 := stCkR19 k .go .ex .ret .no
theorem BCkR19 (k : KCkR19) (m : Nat) (R : St At → Option (Res At)) (K : Xit → St At → Option (Res At)) : B CCkR19 16 19 (m + 60) (SCkR19 k) R K = stCkR19 k (fun k => R (SCkR19 k)) (fun x => K (.ex 4) (XCkR19 x)) (fun x => K .ret (XCkR19 x)) none := by kernel_rfl
def uCkR19 (st : St At) : Option KCkR19 := match st with
  | ⟨[(0, vx0), (3, .ptr 0 0), (4, .int .i64 x4), (12, .int .i64 x12)], [], [(0, .var wx3 false)], 1⟩ => (match roV 66 vx0, ex31 wx3 with | some x0, some x3 => some ⟨x0, x3, x4, x12⟩ | _, _ => none)
  | _ => none
theorem uCkR19_spec {st : St At} {k : KCkR19} (h : uCkR19 st = some k) : st = SCkR19 k := by
  unfold uCkR19 at h
  split at h
  · split at h
    · rename_i h0 h1
      obtain rfl := Option.some.inj h
      rw [roV_spec h0, ex31_spec h1]
      rfl
    · cases h
  · cases h
theorem oklCkR19 {g : LP} (hg : ∀ st K q, g st K = some q → ∃ k n e, st = SCkR19 k ∧ iter stepCkR19 n k = some e ∧ e.k 4 XCkR19 XCkR19 K = some q) : OKL 16 19 g := okl_iter CCkR19_ok (S := SCkR19) (X := XCkR19) (Y := XCkR19) (step := stepCkR19) (id := 4) (by kernel_rfl) (by kernel_rfl)
  (fun k m R K => by rw [BCkR19]; unfold stepCkR19 stCkR19; simp only [Nx.k_ite]; rfl) (fun k => by kernel_rfl) hg
/-- the contract out of a closed form -/
theorem okfCkR19 {g : LP} {fuel : KCkR19 → Nat} {ok : KCkR19 → Bool} {F : KCkR19 → Fx ECkR19} (hF : ∀ k, ok k = true → iter stepCkR19 (fuel k) k = some (F k)) (hg : ∀ st K, g st K = (match uCkR19 st with | some k => if ok k = true then (F k).k 4 XCkR19 XCkR19 K else none | none => none)) : OKL 16 19 g := oklCkR19 fun st K q h => by
  rw [hg] at h
  split at h
  · rename_i k hu
    split at h
    · rename_i hok; exact ⟨k, _, _, uCkR19_spec hu, hF k hok, h⟩
    · cases h
  · cases h
abbrev B_CkR19 := Unit
def fCkR19 (k : KCkR19) (b : B_CkR19) (x : GDrive) : Option (B_CkR19 ⊕ ECkR19) :=
  if cPoR k.x0 x.point = true then
   if 0 ≤ vPoR k.x0 x.point then
    if vPoR k.x0 x.point < (↑k.x0.length : Int) then
     if (!decide ((gt { name := { data := #[] : ByteArray }, kind := 0, role := 0, unit_ := { data := #[] : ByteArray }, low := 0, high := 0, step := 0, states := [], default_ := { kind := 0, n := 0 : GValue }, minOn := 0, minOff := 0 : GPoint } k.x0 (vPoR k.x0 x.point).toNat).role = 2)) = true then
      if (!decide ((gt { name := { data := #[] : ByteArray }, kind := 0, role := 0, unit_ := { data := #[] : ByteArray }, low := 0, high := 0, step := 0, states := [], default_ := { kind := 0, n := 0 : GValue }, minOn := 0, minOff := 0 : GPoint } k.x0 (vPoR k.x0 x.point).toNat).role = 3)) = true then
       some (.inr ⟨(11)⟩)
      else
       some (.inl ())
     else
      some (.inl ())
    else
     none
   else
    none
  else
   none
def xCkR19 (k : KCkR19) (b : B_CkR19) : ECkR19 := ⟨(k.x4)⟩
def putCkR19 (k : KCkR19) (b : B_CkR19) (j : Nat) : KCkR19 := ⟨k.x0, k.x3, k.x4, (j : Int)⟩
def bCkR19 (k : KCkR19) : B_CkR19 := ()
def oCkR19 (k : KCkR19) : Option (B_CkR19 ⊕ ECkR19) := scanO (fCkR19 k) (bCkR19 k) k.x3.drives
def okCkR19 (k : KCkR19) : Bool := decide (k.x12 = 0) && ((Nat.ble k.x3.drives.length 9223372036854775807 && isOO (oCkR19 k)))
def FCkR19 (k : KCkR19) : Fx ECkR19 := fxO (xCkR19 k) (bCkR19 k) (xCkR19 k (bCkR19 k)) (oCkR19 k)
theorem sCkR19 (k : KCkR19) (hm : k.x3.drives.length ≤ 9223372036854775807) (b : B_CkR19) (j : Nat) (h : j < k.x3.drives.length) : stepCkR19 (putCkR19 k b j) = nxO (fun b' => putCkR19 k b' (j + 1)) (fCkR19 k b k.x3.drives[j]) := by
  unfold stepCkR19 stCkR19 fCkR19 putCkR19
  dsimp only
  simp only [nxO_ite, cnt' h hm, gtj' _ _ _ h, if_pos (lt1' h), if_pos (lt0' (j := j)), if_pos (lt2' h)]
  rfl
theorem eCkR19 (k : KCkR19) (b : B_CkR19) : stepCkR19 (putCkR19 k b k.x3.drives.length) = .ex (xCkR19 k b) := by
  unfold stepCkR19 stCkR19 putCkR19
  dsimp only
  rw [if_neg lt3']
  rfl
theorem iCkR19 (k : KCkR19) (h : okCkR19 k = true) : iter stepCkR19 (k.x3.drives).length k = some (FCkR19 k) := by
  unfold okCkR19 at h
  simp only [Bool.and_eq_true, decide_eq_true_eq] at h
  obtain ⟨h0, h2, h3⟩ := h
  replace h2 := Nat.le_of_ble_eq_true h2
  have e : k = putCkR19 k (bCkR19 k) 0 := by cases k; dsimp only at h0; subst h0; rfl
  have := iter_scanO (step := stepCkR19) k.x3.drives (putCkR19 k) (fCkR19 k) (xCkR19 k) (bCkR19 k) (xCkR19 k (bCkR19 k)) (fun b j h => sCkR19 k h2 b j h) (fun b => eCkR19 k b) k.x3.drives.length 0 (bCkR19 k) (by simp) (by rw [List.drop_zero]; exact h3)
  rw [List.drop_zero, ← e] at this
  exact this
def gCkR19 : LP := fun st K => match uCkR19 st with | some k => if okCkR19 k = true then (if isLO (oCkR19 k) = true then K (.ex 4) (XCkR19 (⟨(k.x4)⟩ : ECkR19)) else K .ret (XCkR19 (getRO (xCkR19 k (bCkR19 k)) (oCkR19 k)))) else none | none => none
theorem okgCkR19 : OKL 16 19 gCkR19 := okfCkR19 (fuel := fun k => (k.x3.drives).length) (ok := okCkR19) (F := FCkR19) iCkR19 fun st K => by
  unfold gCkR19
  cases hu : uCkR19 st with
  | none => rfl
  | some k =>
    dsimp only
    split
    · unfold FCkR19 fxO
      cases isLO (oCkR19 k) <;> rfl
    · rfl
structure KCkR13 where
  x0 : List GPoint
  x3 : GProgram
  x4 : Int
  x9 : Int
structure ECkR13 where
  x0 : List GPoint
  x3 : GProgram
  x4 : Int
def SCkR13 (k : KCkR13) : St At := { env := [(0, .ro 66 k.x0), (3, .ptr 0 0), (4, .int .i64 k.x4), (9, .int .i64 k.x9)], stk := [], hp := [(0, .var (enc31 k.x3) false)], nx := 1 }
def XCkR13 (k : ECkR13) : St At := { env := [(0, .ro 66 k.x0), (3, .ptr 0 0), (4, .int .i64 k.x4)], stk := [], hp := [(0, .var (enc31 k.x3) false)], nx := 1 }
def CCkR13 : Cfg := { cs := libUkR, ks := [((16, 13), [(0, none), (3, none), (4, none), (9, none)])], xs := [((16, 13), [(0, none), (3, none), (4, none)])], lps := [] }
theorem CCkR13_ok : CfgOK CCkR13 := { con := libUkR_ok }
def stCkR13 {α : Type} (k : KCkR13) (go : KCkR13 → α) (ex ret : ECkR13 → α) (no : α) : α :=
  if decide (k.x9 < (↑k.x3.nodes.length : Int)) = true then
   if 0 ≤ k.x9 then
    if k.x9 < (↑k.x3.nodes.length : Int) then
     if 0 ≤ k.x9 then
      if k.x9 < (↑k.x3.nodes.length : Int) then
       if (gt { name := { data := #[] : ByteArray }, block := { data := #[] : ByteArray }, params := [], inputs := [] : GNode } k.x3.nodes k.x9.toNat).params.length.ble 9223372036854775807 = true then
        if (!decide ((parE (findD (gt { name := { data := #[] : ByteArray }, block := { data := #[] : ByteArray }, params := [], inputs := [] : GNode } k.x3.nodes k.x9.toNat).block libL) (gt { name := { data := #[] : ByteArray }, block := { data := #[] : ByteArray }, params := [], inputs := [] : GNode } k.x3.nodes k.x9.toNat).block (gt { name := { data := #[] : ByteArray }, block := { data := #[] : ByteArray }, params := [], inputs := [] : GNode } k.x3.nodes k.x9.toNat).params).snd = 0)) = true then
         ret ⟨(k.x0), (k.x3), ((parE (findD (gt { name := { data := #[] : ByteArray }, block := { data := #[] : ByteArray }, params := [], inputs := [] : GNode } k.x3.nodes k.x9.toNat).block libL) (gt { name := { data := #[] : ByteArray }, block := { data := #[] : ByteArray }, params := [], inputs := [] : GNode } k.x3.nodes k.x9.toNat).block (gt { name := { data := #[] : ByteArray }, block := { data := #[] : ByteArray }, params := [], inputs := [] : GNode } k.x3.nodes k.x9.toNat).params).snd)⟩
        else
         go ⟨(k.x0), (k.x3), (k.x4), (IntKind.i64.wrap (k.x9 + 1))⟩
       else
        no
      else
       no
     else
      no
    else
     no
   else
    no
  else
   ex ⟨(k.x0), (k.x3), (k.x4)⟩
def stepCkR13 (k : KCkR13) : Nx KCkR13 ECkR13 := stCkR13 k .go .ex .ret .no
theorem BCkR13 (k : KCkR13) (m : Nat) (R : St At → Option (Res At)) (K : Xit → St At → Option (Res At)) : B CCkR13 16 13 (m + 60) (SCkR13 k) R K = stCkR13 k (fun k => R (SCkR13 k)) (fun x => K (.ex 2) (XCkR13 x)) (fun x => K .ret (XCkR13 x)) none := by kernel_rfl
def uCkR13 (st : St At) : Option KCkR13 := match st with
  | ⟨[(0, vx0), (3, .ptr 0 0), (4, .int .i64 x4), (9, .int .i64 x9)], [], [(0, .var wx3 false)], 1⟩ => (match roV 66 vx0, ex31 wx3 with | some x0, some x3 => some ⟨x0, x3, x4, x9⟩ | _, _ => none)
  | _ => none
theorem uCkR13_spec {st : St At} {k : KCkR13} (h : uCkR13 st = some k) : st = SCkR13 k := by
  unfold uCkR13 at h
  split at h
  · split at h
    · rename_i h0 h1
      obtain rfl := Option.some.inj h
      rw [roV_spec h0, ex31_spec h1]
      rfl
    · cases h
  · cases h
theorem oklCkR13 {g : LP} (hg : ∀ st K q, g st K = some q → ∃ k n e, st = SCkR13 k ∧ iter stepCkR13 n k = some e ∧ e.k 2 XCkR13 XCkR13 K = some q) : OKL 16 13 g := okl_iter CCkR13_ok (S := SCkR13) (X := XCkR13) (Y := XCkR13) (step := stepCkR13) (id := 2) (by kernel_rfl) (by kernel_rfl)
  (fun k m R K => by rw [BCkR13]; unfold stepCkR13 stCkR13; simp only [Nx.k_ite]; rfl) (fun k => by kernel_rfl) hg
/-- the contract out of a closed form -/
theorem okfCkR13 {g : LP} {fuel : KCkR13 → Nat} {ok : KCkR13 → Bool} {F : KCkR13 → Fx ECkR13} (hF : ∀ k, ok k = true → iter stepCkR13 (fuel k) k = some (F k)) (hg : ∀ st K, g st K = (match uCkR13 st with | some k => if ok k = true then (F k).k 2 XCkR13 XCkR13 K else none | none => none)) : OKL 16 13 g := oklCkR13 fun st K q h => by
  rw [hg] at h
  split at h
  · rename_i k hu
    split at h
    · rename_i hok; exact ⟨k, _, _, uCkR13_spec hu, hF k hok, h⟩
    · cases h
  · cases h
abbrev B_CkR13 := Unit
def fCkR13 (k : KCkR13) (b : B_CkR13) (x : GNode) : Option (B_CkR13 ⊕ ECkR13) :=
  if x.params.length.ble 9223372036854775807 = true then
   if (!decide ((parE (findD x.block libL) x.block x.params).snd = 0)) = true then
    some (.inr ⟨(k.x0), (k.x3), ((parE (findD x.block libL) x.block x.params).snd)⟩)
   else
    some (.inl ())
  else
   none
def xCkR13 (k : KCkR13) (b : B_CkR13) : ECkR13 := ⟨(k.x0), (k.x3), (k.x4)⟩
def putCkR13 (k : KCkR13) (b : B_CkR13) (j : Nat) : KCkR13 := ⟨k.x0, k.x3, k.x4, (j : Int)⟩
def bCkR13 (k : KCkR13) : B_CkR13 := ()
def oCkR13 (k : KCkR13) : Option (B_CkR13 ⊕ ECkR13) := scanO (fCkR13 k) (bCkR13 k) k.x3.nodes
def okCkR13 (k : KCkR13) : Bool := decide (k.x9 = 0) && ((Nat.ble k.x3.nodes.length 9223372036854775807 && isOO (oCkR13 k)))
def FCkR13 (k : KCkR13) : Fx ECkR13 := fxO (xCkR13 k) (bCkR13 k) (xCkR13 k (bCkR13 k)) (oCkR13 k)
theorem sCkR13 (k : KCkR13) (hm : k.x3.nodes.length ≤ 9223372036854775807) (b : B_CkR13) (j : Nat) (h : j < k.x3.nodes.length) : stepCkR13 (putCkR13 k b j) = nxO (fun b' => putCkR13 k b' (j + 1)) (fCkR13 k b k.x3.nodes[j]) := by
  unfold stepCkR13 stCkR13 fCkR13 putCkR13
  dsimp only
  simp only [nxO_ite, cnt' h hm, gtj' _ _ _ h, if_pos (lt1' h), if_pos (lt0' (j := j)), if_pos (lt2' h)]
  rfl
theorem eCkR13 (k : KCkR13) (b : B_CkR13) : stepCkR13 (putCkR13 k b k.x3.nodes.length) = .ex (xCkR13 k b) := by
  unfold stepCkR13 stCkR13 putCkR13
  dsimp only
  rw [if_neg lt3']
  rfl
theorem iCkR13 (k : KCkR13) (h : okCkR13 k = true) : iter stepCkR13 (k.x3.nodes).length k = some (FCkR13 k) := by
  unfold okCkR13 at h
  simp only [Bool.and_eq_true, decide_eq_true_eq] at h
  obtain ⟨h0, h2, h3⟩ := h
  replace h2 := Nat.le_of_ble_eq_true h2
  have e : k = putCkR13 k (bCkR13 k) 0 := by cases k; dsimp only at h0; subst h0; rfl
  have := iter_scanO (step := stepCkR13) k.x3.nodes (putCkR13 k) (fCkR13 k) (xCkR13 k) (bCkR13 k) (xCkR13 k (bCkR13 k)) (fun b j h => sCkR13 k h2 b j h) (fun b => eCkR13 k b) k.x3.nodes.length 0 (bCkR13 k) (by simp) (by rw [List.drop_zero]; exact h3)
  rw [List.drop_zero, ← e] at this
  exact this
def gCkR13 : LP := fun st K => match uCkR13 st with | some k => if okCkR13 k = true then (if isLO (oCkR13 k) = true then K (.ex 2) (XCkR13 (⟨(k.x0), (k.x3), (k.x4)⟩ : ECkR13)) else K .ret (XCkR13 (getRO (xCkR13 k (bCkR13 k)) (oCkR13 k)))) else none | none => none
theorem okgCkR13 : OKL 16 13 gCkR13 := okfCkR13 (fuel := fun k => (k.x3.nodes).length) (ok := okCkR13) (F := FCkR13) iCkR13 fun st K => by
  unfold gCkR13
  cases hu : uCkR13 st with
  | none => rfl
  | some k =>
    dsimp only
    split
    · unfold FCkR13 fxO
      cases isLO (oCkR13 k) <;> rfl
    · rfl
structure KCkR7 where
  x0 : List GPoint
  x3 : GProgram
  x4 : Int
  x6 : Int
structure ECkR7 where
  x0 : List GPoint
  x3 : GProgram
  x4 : Int
def SCkR7 (k : KCkR7) : St At := { env := [(0, .ro 66 k.x0), (3, .ptr 0 0), (4, .int .i64 k.x4), (6, .int .i64 k.x6)], stk := [], hp := [(0, .var (enc31 k.x3) false)], nx := 1 }
def XCkR7 (k : ECkR7) : St At := { env := [(0, .ro 66 k.x0), (3, .ptr 0 0), (4, .int .i64 k.x4)], stk := [], hp := [(0, .var (enc31 k.x3) false)], nx := 1 }
def CCkR7 : Cfg := { cs := libUkR, ks := [((16, 7), [(0, none), (3, none), (4, none), (6, none)])], xs := [((16, 7), [(0, none), (3, none), (4, none)])], lps := [] }
theorem CCkR7_ok : CfgOK CCkR7 := { con := libUkR_ok }
def stCkR7 {α : Type} (k : KCkR7) (go : KCkR7 → α) (ex ret : ECkR7 → α) (no : α) : α :=
  if decide (k.x6 < (↑k.x3.nodes.length : Int)) = true then
   if 0 ≤ k.x6 then
    if k.x6 < (↑k.x3.nodes.length : Int) then
     if 0 ≤ k.x6 then
      if k.x6 < (↑k.x3.nodes.length : Int) then
       if (!decide ((inpR (findD (gt { name := { data := #[] : ByteArray }, block := { data := #[] : ByteArray }, params := [], inputs := [] : GNode } k.x3.nodes k.x6.toNat).block libL) (↑(gt { name := { data := #[] : ByteArray }, block := { data := #[] : ByteArray }, params := [], inputs := [] : GNode } k.x3.nodes k.x6.toNat).inputs.length : Int)).snd = 0)) = true then
        ret ⟨(k.x0), (k.x3), (1)⟩
       else
        go ⟨(k.x0), (k.x3), (k.x4), (IntKind.i64.wrap (k.x6 + 1))⟩
      else
       no
     else
      no
    else
     no
   else
    no
  else
   ex ⟨(k.x0), (k.x3), (k.x4)⟩
def stepCkR7 (k : KCkR7) : Nx KCkR7 ECkR7 := stCkR7 k .go .ex .ret .no
theorem BCkR7 (k : KCkR7) (m : Nat) (R : St At → Option (Res At)) (K : Xit → St At → Option (Res At)) : B CCkR7 16 7 (m + 60) (SCkR7 k) R K = stCkR7 k (fun k => R (SCkR7 k)) (fun x => K (.ex 0) (XCkR7 x)) (fun x => K .ret (XCkR7 x)) none := by kernel_rfl
def uCkR7 (st : St At) : Option KCkR7 := match st with
  | ⟨[(0, vx0), (3, .ptr 0 0), (4, .int .i64 x4), (6, .int .i64 x6)], [], [(0, .var wx3 false)], 1⟩ => (match roV 66 vx0, ex31 wx3 with | some x0, some x3 => some ⟨x0, x3, x4, x6⟩ | _, _ => none)
  | _ => none
theorem uCkR7_spec {st : St At} {k : KCkR7} (h : uCkR7 st = some k) : st = SCkR7 k := by
  unfold uCkR7 at h
  split at h
  · split at h
    · rename_i h0 h1
      obtain rfl := Option.some.inj h
      rw [roV_spec h0, ex31_spec h1]
      rfl
    · cases h
  · cases h
theorem oklCkR7 {g : LP} (hg : ∀ st K q, g st K = some q → ∃ k n e, st = SCkR7 k ∧ iter stepCkR7 n k = some e ∧ e.k 0 XCkR7 XCkR7 K = some q) : OKL 16 7 g := okl_iter CCkR7_ok (S := SCkR7) (X := XCkR7) (Y := XCkR7) (step := stepCkR7) (id := 0) (by kernel_rfl) (by kernel_rfl)
  (fun k m R K => by rw [BCkR7]; unfold stepCkR7 stCkR7; simp only [Nx.k_ite]; rfl) (fun k => by kernel_rfl) hg
/-- the contract out of a closed form -/
theorem okfCkR7 {g : LP} {fuel : KCkR7 → Nat} {ok : KCkR7 → Bool} {F : KCkR7 → Fx ECkR7} (hF : ∀ k, ok k = true → iter stepCkR7 (fuel k) k = some (F k)) (hg : ∀ st K, g st K = (match uCkR7 st with | some k => if ok k = true then (F k).k 0 XCkR7 XCkR7 K else none | none => none)) : OKL 16 7 g := oklCkR7 fun st K q h => by
  rw [hg] at h
  split at h
  · rename_i k hu
    split at h
    · rename_i hok; exact ⟨k, _, _, uCkR7_spec hu, hF k hok, h⟩
    · cases h
  · cases h
abbrev B_CkR7 := Unit
def fCkR7 (k : KCkR7) (b : B_CkR7) (x : GNode) : Option (B_CkR7 ⊕ ECkR7) :=
  if (!decide ((inpR (findD x.block libL) (↑x.inputs.length : Int)).snd = 0)) = true then
   some (.inr ⟨(k.x0), (k.x3), (1)⟩)
  else
   some (.inl ())
def xCkR7 (k : KCkR7) (b : B_CkR7) : ECkR7 := ⟨(k.x0), (k.x3), (k.x4)⟩
def putCkR7 (k : KCkR7) (b : B_CkR7) (j : Nat) : KCkR7 := ⟨k.x0, k.x3, k.x4, (j : Int)⟩
def bCkR7 (k : KCkR7) : B_CkR7 := ()
def oCkR7 (k : KCkR7) : Option (B_CkR7 ⊕ ECkR7) := scanO (fCkR7 k) (bCkR7 k) k.x3.nodes
def okCkR7 (k : KCkR7) : Bool := decide (k.x6 = 0) && ((Nat.ble k.x3.nodes.length 9223372036854775807 && isOO (oCkR7 k)))
def FCkR7 (k : KCkR7) : Fx ECkR7 := fxO (xCkR7 k) (bCkR7 k) (xCkR7 k (bCkR7 k)) (oCkR7 k)
theorem sCkR7 (k : KCkR7) (hm : k.x3.nodes.length ≤ 9223372036854775807) (b : B_CkR7) (j : Nat) (h : j < k.x3.nodes.length) : stepCkR7 (putCkR7 k b j) = nxO (fun b' => putCkR7 k b' (j + 1)) (fCkR7 k b k.x3.nodes[j]) := by
  unfold stepCkR7 stCkR7 fCkR7 putCkR7
  dsimp only
  simp only [nxO_ite, cnt' h hm, gtj' _ _ _ h, if_pos (lt1' h), if_pos (lt0' (j := j)), if_pos (lt2' h)]
  rfl
theorem eCkR7 (k : KCkR7) (b : B_CkR7) : stepCkR7 (putCkR7 k b k.x3.nodes.length) = .ex (xCkR7 k b) := by
  unfold stepCkR7 stCkR7 putCkR7
  dsimp only
  rw [if_neg lt3']
  rfl
theorem iCkR7 (k : KCkR7) (h : okCkR7 k = true) : iter stepCkR7 (k.x3.nodes).length k = some (FCkR7 k) := by
  unfold okCkR7 at h
  simp only [Bool.and_eq_true, decide_eq_true_eq] at h
  obtain ⟨h0, h2, h3⟩ := h
  replace h2 := Nat.le_of_ble_eq_true h2
  have e : k = putCkR7 k (bCkR7 k) 0 := by cases k; dsimp only at h0; subst h0; rfl
  have := iter_scanO (step := stepCkR7) k.x3.nodes (putCkR7 k) (fCkR7 k) (xCkR7 k) (bCkR7 k) (xCkR7 k (bCkR7 k)) (fun b j h => sCkR7 k h2 b j h) (fun b => eCkR7 k b) k.x3.nodes.length 0 (bCkR7 k) (by simp) (by rw [List.drop_zero]; exact h3)
  rw [List.drop_zero, ← e] at this
  exact this
def gCkR7 : LP := fun st K => match uCkR7 st with | some k => if okCkR7 k = true then (if isLO (oCkR7 k) = true then K (.ex 0) (XCkR7 (⟨(k.x0), (k.x3), (k.x4)⟩ : ECkR7)) else K .ret (XCkR7 (getRO (xCkR7 k (bCkR7 k)) (oCkR7 k)))) else none | none => none
theorem okgCkR7 : OKL 16 7 gCkR7 := okfCkR7 (fuel := fun k => (k.x3.nodes).length) (ok := okCkR7) (F := FCkR7) iCkR7 fun st K => by
  unfold gCkR7
  cases hu : uCkR7 st with
  | none => rfl
  | some k =>
    dsimp only
    split
    · unfold FCkR7 fxO
      cases isLO (oCkR7 k) <;> rfl
    · rfl
def CCkR : Cfg := { cs := libUkR, ks := CCkR19.ks ++ CCkR13.ks ++ CCkR7.ks, xs := CCkR19.xs ++ CCkR13.xs ++ CCkR7.xs, lps := [((16, 19), gCkR19), ((16, 13), gCkR13), ((16, 7), gCkR7)] }
theorem CCkR_ok : CfgOK CCkR := { con := libUkR_ok, lp := .cons okgCkR19 (.cons okgCkR13 (.cons okgCkR7 .nil)) }
def RCkR (a0 : List GPoint) (a1 : GProgram) : Option (Res At) :=
  if cNs a1 = true then
   if (!decide (vNs a1 = 0)) = true then
    some ((.int .i64 (vNs a1)), [])
   else
    if cUkR a0 a1 = true then
     if vUkR a0 a1 = true then
      some ((.int .i64 3), [])
     else
      if okCkR7 { x0 := a0, x3 := a1, x4 := 0, x6 := 0 : KCkR7 } = true then
       if isLO (oCkR7 { x0 := a0, x3 := a1, x4 := 0, x6 := 0 : KCkR7 }) = true then
        if okCkR13 { x0 := a0, x3 := a1, x4 := 0, x9 := 0 : KCkR13 } = true then
         if isLO (oCkR13 { x0 := a0, x3 := a1, x4 := 0, x9 := 0 : KCkR13 }) = true then
          if okCkR19 { x0 := a0, x3 := a1, x4 := 0, x12 := 0 : KCkR19 } = true then
           if isLO (oCkR19 { x0 := a0, x3 := a1, x4 := 0, x12 := 0 : KCkR19 }) = true then
            some ((.int .i64 0), [])
           else
            some ((.int .i64 ((getRO (xCkR19 { x0 := a0, x3 := a1, x4 := 0, x12 := 0 : KCkR19 } (bCkR19 { x0 := a0, x3 := a1, x4 := 0, x12 := 0 : KCkR19 })) (oCkR19 { x0 := a0, x3 := a1, x4 := 0, x12 := 0 : KCkR19 })).x4)), [])
          else
           none
         else
          some ((.int .i64 ((getRO (xCkR13 { x0 := a0, x3 := a1, x4 := 0, x9 := 0 : KCkR13 } (bCkR13 { x0 := a0, x3 := a1, x4 := 0, x9 := 0 : KCkR13 })) (oCkR13 { x0 := a0, x3 := a1, x4 := 0, x9 := 0 : KCkR13 })).x4)), [])
        else
         none
       else
        some ((.int .i64 ((getRO (xCkR7 { x0 := a0, x3 := a1, x4 := 0, x6 := 0 : KCkR7 } (bCkR7 { x0 := a0, x3 := a1, x4 := 0, x6 := 0 : KCkR7 })) (oCkR7 { x0 := a0, x3 := a1, x4 := 0, x6 := 0 : KCkR7 })).x4)), [])
      else
       none
    else
     none
  else
   none
theorem run_RCkR (a0 : List GPoint) (a1 : GProgram) : runF CCkR 80 16 [.ro 66 a0, .agg (enc31 a1)] = RCkR a0 a1 := by kernel_rfl
def oCkR (a0 : List GPoint) (a1 : GProgram) : Option (Res At) := crR [none] (RCkR a0 a1)
def vCkR (a0 : List GPoint) (a1 : GProgram) : Int := valO (rI .i64) 0 (oCkR a0 a1)
def cCkR (a0 : List GPoint) (a1 : GProgram) : Bool := okO (rI .i64) (oCkR a0 a1)
def conCkR : CON := on2 (rR 66) (rA ex31 enc31 fun _ _ h => ex31_spec h) fun a0 a1 => some (cCkR a0 a1, (.int .i64 (vCkR a0 a1), []))
theorem okCkR : OK 16 conCkR := okc2 CCkR_ok (n := 80) (ts := [none]) (a := (rR 66)) (b := (rA ex31 enc31 fun _ _ h => ex31_spec h)) (r := (rI .i64)) (d := 0) (R := fun a0 a1 => RCkR a0 a1) (by kernel_rfl) fun a0 a1 => run_RCkR a0 a1
def libCkR : List (Nat × CON) := (16, conCkR) :: libUkR
theorem libCkR_ok : AllOK libCkR := .cons okCkR libUkR_ok
structure KSm21 where
  x1 : GProgram
  x2 : Bool
  x8 : Int
structure ESm21 where
  x2 : Bool
def SSm21 (k : KSm21) : St At := { env := [(1, .ptr 0 0), (2, .bool k.x2), (8, .int .i64 k.x8)], stk := [], hp := [(0, .var (enc31 k.x1) false)], nx := 1 }
def XSm21 (k : ESm21) : St At := { env := [(2, .bool k.x2)], stk := [], hp := [], nx := 0 }
def CSm21 : Cfg := { cs := libCkR, ks := [((14, 21), [(1, none), (2, none), (8, none)])], xs := [((14, 21), [(2, none)])], lps := [] }
theorem CSm21_ok : CfgOK CSm21 := { con := libCkR_ok }
def stSm21 {α : Type} (k : KSm21) (go : KSm21 → α) (ex ret : ESm21 → α) (no : α) : α :=
  if decide (k.x8 < (↑k.x1.drives.length : Int)) = true then
   if 0 ≤ k.x8 then
    if k.x8 < (↑k.x1.drives.length : Int) then
     if decide ((↑(gt { point := { data := #[] : ByteArray }, level := 0, from_ := { node := { data := #[] : ByteArray }, port := 0, point := { data := #[] : ByteArray }, const := { kind := 0, n := 0 : GValue }, delayed := false, initial := { kind := 0, n := 0 : GValue } : GLink } : GDrive } k.x1.drives k.x8.toNat).point.size : Int) > 60) = true then
      ret ⟨(false)⟩
     else
      go ⟨(k.x1), (k.x2), (IntKind.i64.wrap (k.x8 + 1))⟩
    else
     no
   else
    no
  else
   ex ⟨(k.x2)⟩
def stepSm21 (k : KSm21) : Nx KSm21 ESm21 := stSm21 k .go .ex .ret .no
theorem BSm21 (k : KSm21) (m : Nat) (R : St At → Option (Res At)) (K : Xit → St At → Option (Res At)) : B CSm21 14 21 (m + 60) (SSm21 k) R K = stSm21 k (fun k => R (SSm21 k)) (fun x => K (.ex 6) (XSm21 x)) (fun x => K .ret (XSm21 x)) none := by kernel_rfl
def uSm21 (st : St At) : Option KSm21 := match st with
  | ⟨[(1, .ptr 0 0), (2, .bool x2), (8, .int .i64 x8)], [], [(0, .var wx1 false)], 1⟩ => (match ex31 wx1 with | some x1 => some ⟨x1, x2, x8⟩ | _ => none)
  | _ => none
theorem uSm21_spec {st : St At} {k : KSm21} (h : uSm21 st = some k) : st = SSm21 k := by
  unfold uSm21 at h
  split at h
  · split at h
    · rename_i h0
      obtain rfl := Option.some.inj h
      rw [ex31_spec h0]
      rfl
    · cases h
  · cases h
theorem oklSm21 {g : LP} (hg : ∀ st K q, g st K = some q → ∃ k n e, st = SSm21 k ∧ iter stepSm21 n k = some e ∧ e.k 6 XSm21 XSm21 K = some q) : OKL 14 21 g := okl_iter CSm21_ok (S := SSm21) (X := XSm21) (Y := XSm21) (step := stepSm21) (id := 6) (by kernel_rfl) (by kernel_rfl)
  (fun k m R K => by rw [BSm21]; unfold stepSm21 stSm21; simp only [Nx.k_ite]; rfl) (fun k => by kernel_rfl) hg
/-- the contract out of a closed form -/
theorem okfSm21 {g : LP} {fuel : KSm21 → Nat} {ok : KSm21 → Bool} {F : KSm21 → Fx ESm21} (hF : ∀ k, ok k = true → iter stepSm21 (fuel k) k = some (F k)) (hg : ∀ st K, g st K = (match uSm21 st with | some k => if ok k = true then (F k).k 6 XSm21 XSm21 K else none | none => none)) : OKL 14 21 g := oklSm21 fun st K q h => by
  rw [hg] at h
  split at h
  · rename_i k hu
    split at h
    · rename_i hok; exact ⟨k, _, _, uSm21_spec hu, hF k hok, h⟩
    · cases h
  · cases h
abbrev B_Sm21 := Unit
def fSm21 (k : KSm21) (b : B_Sm21) (x : GDrive) : Option (B_Sm21 ⊕ ESm21) :=
  if decide ((↑x.point.size : Int) > 60) = true then
   some (.inr ⟨(false)⟩)
  else
   some (.inl ())
def xSm21 (k : KSm21) (b : B_Sm21) : ESm21 := ⟨(k.x2)⟩
def putSm21 (k : KSm21) (b : B_Sm21) (j : Nat) : KSm21 := ⟨k.x1, k.x2, (j : Int)⟩
def bSm21 (k : KSm21) : B_Sm21 := ()
def oSm21 (k : KSm21) : Option (B_Sm21 ⊕ ESm21) := scanO (fSm21 k) (bSm21 k) k.x1.drives
def okSm21 (k : KSm21) : Bool := decide (k.x8 = 0) && ((Nat.ble k.x1.drives.length 9223372036854775807 && isOO (oSm21 k)))
def FSm21 (k : KSm21) : Fx ESm21 := fxO (xSm21 k) (bSm21 k) (xSm21 k (bSm21 k)) (oSm21 k)
theorem sSm21 (k : KSm21) (hm : k.x1.drives.length ≤ 9223372036854775807) (b : B_Sm21) (j : Nat) (h : j < k.x1.drives.length) : stepSm21 (putSm21 k b j) = nxO (fun b' => putSm21 k b' (j + 1)) (fSm21 k b k.x1.drives[j]) := by
  unfold stepSm21 stSm21 fSm21 putSm21
  dsimp only
  simp only [nxO_ite, cnt' h hm, gtj' _ _ _ h, if_pos (lt1' h), if_pos (lt0' (j := j)), if_pos (lt2' h)]
  rfl
theorem eSm21 (k : KSm21) (b : B_Sm21) : stepSm21 (putSm21 k b k.x1.drives.length) = .ex (xSm21 k b) := by
  unfold stepSm21 stSm21 putSm21
  dsimp only
  rw [if_neg lt3']
  rfl
theorem iSm21 (k : KSm21) (h : okSm21 k = true) : iter stepSm21 (k.x1.drives).length k = some (FSm21 k) := by
  unfold okSm21 at h
  simp only [Bool.and_eq_true, decide_eq_true_eq] at h
  obtain ⟨h0, h2, h3⟩ := h
  replace h2 := Nat.le_of_ble_eq_true h2
  have e : k = putSm21 k (bSm21 k) 0 := by cases k; dsimp only at h0; subst h0; rfl
  have := iter_scanO (step := stepSm21) k.x1.drives (putSm21 k) (fSm21 k) (xSm21 k) (bSm21 k) (xSm21 k (bSm21 k)) (fun b j h => sSm21 k h2 b j h) (fun b => eSm21 k b) k.x1.drives.length 0 (bSm21 k) (by simp) (by rw [List.drop_zero]; exact h3)
  rw [List.drop_zero, ← e] at this
  exact this
def gSm21 : LP := fun st K => match uSm21 st with | some k => if okSm21 k = true then (if isLO (oSm21 k) = true then K (.ex 6) (XSm21 (⟨(k.x2)⟩ : ESm21)) else K .ret (XSm21 (getRO (xSm21 k (bSm21 k)) (oSm21 k)))) else none | none => none
theorem okgSm21 : OKL 14 21 gSm21 := okfSm21 (fuel := fun k => (k.x1.drives).length) (ok := okSm21) (F := FSm21) iSm21 fun st K => by
  unfold gSm21
  cases hu : uSm21 st with
  | none => rfl
  | some k =>
    dsimp only
    split
    · unfold FSm21 fxO
      cases isLO (oSm21 k) <;> rfl
    · rfl
structure KSm16 where
  x1 : GProgram
  x2 : Bool
  x6 : List GLink
  x7 : Int
structure ESm16 where
  x1 : GProgram
  x2 : Bool
def SSm16 (k : KSm16) : St At := { env := [(1, .ptr 0 0), (2, .bool k.x2), (6, .ro 55 k.x6), (7, .int .i64 k.x7)], stk := [], hp := [(0, .var (enc31 k.x1) false)], nx := 1 }
def XSm16 (k : ESm16) : St At := { env := [(1, .ptr 0 0), (2, .bool k.x2)], stk := [], hp := [(0, .var (enc31 k.x1) false)], nx := 1 }
def CSm16 : Cfg := { cs := libCkR, ks := [((14, 16), [(1, none), (2, none), (6, none), (7, none)])], xs := [((14, 16), [(1, none), (2, none)])], lps := [] }
theorem CSm16_ok : CfgOK CSm16 := { con := libCkR_ok }
def stSm16 {α : Type} (k : KSm16) (go : KSm16 → α) (ex ret : ESm16 → α) (no : α) : α :=
  if decide (k.x7 < (↑k.x6.length : Int)) = true then
   if 0 ≤ k.x7 then
    if k.x7 < (↑k.x6.length : Int) then
     if decide ((↑(gt { node := { data := #[] : ByteArray }, port := 0, point := { data := #[] : ByteArray }, const := { kind := 0, n := 0 : GValue }, delayed := false, initial := { kind := 0, n := 0 : GValue } : GLink } k.x6 k.x7.toNat).node.size : Int) > 60) = false then
      if 0 ≤ k.x7 then
       if k.x7 < (↑k.x6.length : Int) then
        if decide ((↑(gt { node := { data := #[] : ByteArray }, port := 0, point := { data := #[] : ByteArray }, const := { kind := 0, n := 0 : GValue }, delayed := false, initial := { kind := 0, n := 0 : GValue } : GLink } k.x6 k.x7.toNat).point.size : Int) > 60) = true then
         ret ⟨(k.x1), (false)⟩
        else
         go ⟨(k.x1), (k.x2), (k.x6), (IntKind.i64.wrap (k.x7 + 1))⟩
       else
        no
      else
       no
     else
      ret ⟨(k.x1), (false)⟩
    else
     no
   else
    no
  else
   ex ⟨(k.x1), (k.x2)⟩
def stepSm16 (k : KSm16) : Nx KSm16 ESm16 := stSm16 k .go .ex .ret .no
theorem BSm16 (k : KSm16) (m : Nat) (R : St At → Option (Res At)) (K : Xit → St At → Option (Res At)) : B CSm16 14 16 (m + 60) (SSm16 k) R K = stSm16 k (fun k => R (SSm16 k)) (fun x => K (.ex 4) (XSm16 x)) (fun x => K .ret (XSm16 x)) none := by kernel_rfl
def uSm16 (st : St At) : Option KSm16 := match st with
  | ⟨[(1, .ptr 0 0), (2, .bool x2), (6, vx6), (7, .int .i64 x7)], [], [(0, .var wx1 false)], 1⟩ => (match ex31 wx1, roV 55 vx6 with | some x1, some x6 => some ⟨x1, x2, x6, x7⟩ | _, _ => none)
  | _ => none
theorem uSm16_spec {st : St At} {k : KSm16} (h : uSm16 st = some k) : st = SSm16 k := by
  unfold uSm16 at h
  split at h
  · split at h
    · rename_i h0 h1
      obtain rfl := Option.some.inj h
      rw [ex31_spec h0, roV_spec h1]
      rfl
    · cases h
  · cases h
theorem oklSm16 {g : LP} (hg : ∀ st K q, g st K = some q → ∃ k n e, st = SSm16 k ∧ iter stepSm16 n k = some e ∧ e.k 4 XSm16 XSm16 K = some q) : OKL 14 16 g := okl_iter CSm16_ok (S := SSm16) (X := XSm16) (Y := XSm16) (step := stepSm16) (id := 4) (by kernel_rfl) (by kernel_rfl)
  (fun k m R K => by rw [BSm16]; unfold stepSm16 stSm16; simp only [Nx.k_ite]; rfl) (fun k => by kernel_rfl) hg
/-- the contract out of a closed form -/
theorem okfSm16 {g : LP} {fuel : KSm16 → Nat} {ok : KSm16 → Bool} {F : KSm16 → Fx ESm16} (hF : ∀ k, ok k = true → iter stepSm16 (fuel k) k = some (F k)) (hg : ∀ st K, g st K = (match uSm16 st with | some k => if ok k = true then (F k).k 4 XSm16 XSm16 K else none | none => none)) : OKL 14 16 g := oklSm16 fun st K q h => by
  rw [hg] at h
  split at h
  · rename_i k hu
    split at h
    · rename_i hok; exact ⟨k, _, _, uSm16_spec hu, hF k hok, h⟩
    · cases h
  · cases h
abbrev B_Sm16 := Unit
def fSm16 (k : KSm16) (b : B_Sm16) (x : GLink) : Option (B_Sm16 ⊕ ESm16) :=
  if decide ((↑x.node.size : Int) > 60) = false then
   if decide ((↑x.point.size : Int) > 60) = true then
    some (.inr ⟨(k.x1), (false)⟩)
   else
    some (.inl ())
  else
   some (.inr ⟨(k.x1), (false)⟩)
def xSm16 (k : KSm16) (b : B_Sm16) : ESm16 := ⟨(k.x1), (k.x2)⟩
def putSm16 (k : KSm16) (b : B_Sm16) (j : Nat) : KSm16 := ⟨k.x1, k.x2, k.x6, (j : Int)⟩
def bSm16 (k : KSm16) : B_Sm16 := ()
def oSm16 (k : KSm16) : Option (B_Sm16 ⊕ ESm16) := scanO (fSm16 k) (bSm16 k) k.x6
def okSm16 (k : KSm16) : Bool := decide (k.x7 = 0) && ((Nat.ble k.x6.length 9223372036854775807 && isOO (oSm16 k)))
def FSm16 (k : KSm16) : Fx ESm16 := fxO (xSm16 k) (bSm16 k) (xSm16 k (bSm16 k)) (oSm16 k)
theorem sSm16 (k : KSm16) (hm : k.x6.length ≤ 9223372036854775807) (b : B_Sm16) (j : Nat) (h : j < k.x6.length) : stepSm16 (putSm16 k b j) = nxO (fun b' => putSm16 k b' (j + 1)) (fSm16 k b k.x6[j]) := by
  unfold stepSm16 stSm16 fSm16 putSm16
  dsimp only
  simp only [nxO_ite, cnt' h hm, gtj' _ _ _ h, if_pos (lt1' h), if_pos (lt0' (j := j)), if_pos (lt2' h)]
  rfl
theorem eSm16 (k : KSm16) (b : B_Sm16) : stepSm16 (putSm16 k b k.x6.length) = .ex (xSm16 k b) := by
  unfold stepSm16 stSm16 putSm16
  dsimp only
  rw [if_neg lt3']
  rfl
theorem iSm16 (k : KSm16) (h : okSm16 k = true) : iter stepSm16 (k.x6).length k = some (FSm16 k) := by
  unfold okSm16 at h
  simp only [Bool.and_eq_true, decide_eq_true_eq] at h
  obtain ⟨h0, h2, h3⟩ := h
  replace h2 := Nat.le_of_ble_eq_true h2
  have e : k = putSm16 k (bSm16 k) 0 := by cases k; dsimp only at h0; subst h0; rfl
  have := iter_scanO (step := stepSm16) k.x6 (putSm16 k) (fSm16 k) (xSm16 k) (bSm16 k) (xSm16 k (bSm16 k)) (fun b j h => sSm16 k h2 b j h) (fun b => eSm16 k b) k.x6.length 0 (bSm16 k) (by simp) (by rw [List.drop_zero]; exact h3)
  rw [List.drop_zero, ← e] at this
  exact this
def gSm16 : LP := fun st K => match uSm16 st with | some k => if okSm16 k = true then (if isLO (oSm16 k) = true then K (.ex 4) (XSm16 (⟨(k.x1), (k.x2)⟩ : ESm16)) else K .ret (XSm16 (getRO (xSm16 k (bSm16 k)) (oSm16 k)))) else none | none => none
theorem okgSm16 : OKL 14 16 gSm16 := okfSm16 (fuel := fun k => (k.x6).length) (ok := okSm16) (F := FSm16) iSm16 fun st K => by
  unfold gSm16
  cases hu : uSm16 st with
  | none => rfl
  | some k =>
    dsimp only
    split
    · unfold FSm16 fxO
      cases isLO (oSm16 k) <;> rfl
    · rfl
structure KSm10 where
  x1 : GProgram
  x2 : Bool
  x3 : Int
  x4 : GNode
  x5 : Int
structure ESm10 where
  x1 : GProgram
  x2 : Bool
  x3 : Int
def SSm10 (k : KSm10) : St At := { env := [(1, .ptr 0 0), (2, .bool k.x2), (3, .int .i64 k.x3), (4, .ptr 1 0), (5, .int .i64 k.x5)], stk := [], hp := [(0, .var (enc31 k.x1) false), (1, .var (enc58 k.x4) false)], nx := 2 }
def XSm10 (k : ESm10) : St At := { env := [(1, .ptr 0 0), (2, .bool k.x2), (3, .int .i64 k.x3)], stk := [], hp := [(0, .var (enc31 k.x1) false)], nx := 1 }
def CSm10 : Cfg := { cs := libCkR, ks := [((14, 10), [(1, none), (2, none), (3, none), (4, none), (5, none)])], xs := [((14, 10), [(1, none), (2, none), (3, none)])], lps := [] }
theorem CSm10_ok : CfgOK CSm10 := { con := libCkR_ok }
def stSm10 {α : Type} (k : KSm10) (go : KSm10 → α) (ex ret : ESm10 → α) (no : α) : α :=
  if decide (k.x5 < (↑k.x4.params.length : Int)) = true then
   if 0 ≤ k.x5 then
    if k.x5 < (↑k.x4.params.length : Int) then
     if decide ((↑(gt { name := { data := #[] : ByteArray }, value := 0 : GParam } k.x4.params k.x5.toNat).name.size : Int) > 60) = true then
      ret ⟨(k.x1), (false), (k.x3)⟩
     else
      go ⟨(k.x1), (k.x2), (k.x3), (k.x4), (IntKind.i64.wrap (k.x5 + 1))⟩
    else
     no
   else
    no
  else
   ex ⟨(k.x1), (k.x2), (k.x3)⟩
def stepSm10 (k : KSm10) : Nx KSm10 ESm10 := stSm10 k .go .ex .ret .no
theorem BSm10 (k : KSm10) (m : Nat) (R : St At → Option (Res At)) (K : Xit → St At → Option (Res At)) : B CSm10 14 10 (m + 60) (SSm10 k) R K = stSm10 k (fun k => R (SSm10 k)) (fun x => K (.ex 2) (XSm10 x)) (fun x => K .ret (XSm10 x)) none := by kernel_rfl
def uSm10 (st : St At) : Option KSm10 := match st with
  | ⟨[(1, .ptr 0 0), (2, .bool x2), (3, .int .i64 x3), (4, .ptr 1 0), (5, .int .i64 x5)], [], [(0, .var wx1 false), (1, .var wx4 false)], 2⟩ => (match ex31 wx1, ex58 wx4 with | some x1, some x4 => some ⟨x1, x2, x3, x4, x5⟩ | _, _ => none)
  | _ => none
theorem uSm10_spec {st : St At} {k : KSm10} (h : uSm10 st = some k) : st = SSm10 k := by
  unfold uSm10 at h
  split at h
  · split at h
    · rename_i h0 h1
      obtain rfl := Option.some.inj h
      rw [ex31_spec h0, ex58_spec h1]
      rfl
    · cases h
  · cases h
theorem oklSm10 {g : LP} (hg : ∀ st K q, g st K = some q → ∃ k n e, st = SSm10 k ∧ iter stepSm10 n k = some e ∧ e.k 2 XSm10 XSm10 K = some q) : OKL 14 10 g := okl_iter CSm10_ok (S := SSm10) (X := XSm10) (Y := XSm10) (step := stepSm10) (id := 2) (by kernel_rfl) (by kernel_rfl)
  (fun k m R K => by rw [BSm10]; unfold stepSm10 stSm10; simp only [Nx.k_ite]; rfl) (fun k => by kernel_rfl) hg
/-- the contract out of a closed form -/
theorem okfSm10 {g : LP} {fuel : KSm10 → Nat} {ok : KSm10 → Bool} {F : KSm10 → Fx ESm10} (hF : ∀ k, ok k = true → iter stepSm10 (fuel k) k = some (F k)) (hg : ∀ st K, g st K = (match uSm10 st with | some k => if ok k = true then (F k).k 2 XSm10 XSm10 K else none | none => none)) : OKL 14 10 g := oklSm10 fun st K q h => by
  rw [hg] at h
  split at h
  · rename_i k hu
    split at h
    · rename_i hok; exact ⟨k, _, _, uSm10_spec hu, hF k hok, h⟩
    · cases h
  · cases h
abbrev B_Sm10 := Unit
def fSm10 (k : KSm10) (b : B_Sm10) (x : GParam) : Option (B_Sm10 ⊕ ESm10) :=
  if decide ((↑x.name.size : Int) > 60) = true then
   some (.inr ⟨(k.x1), (false), (k.x3)⟩)
  else
   some (.inl ())
def xSm10 (k : KSm10) (b : B_Sm10) : ESm10 := ⟨(k.x1), (k.x2), (k.x3)⟩
def putSm10 (k : KSm10) (b : B_Sm10) (j : Nat) : KSm10 := ⟨k.x1, k.x2, k.x3, k.x4, (j : Int)⟩
def bSm10 (k : KSm10) : B_Sm10 := ()
def oSm10 (k : KSm10) : Option (B_Sm10 ⊕ ESm10) := scanO (fSm10 k) (bSm10 k) k.x4.params
def okSm10 (k : KSm10) : Bool := decide (k.x5 = 0) && ((Nat.ble k.x4.params.length 9223372036854775807 && isOO (oSm10 k)))
def FSm10 (k : KSm10) : Fx ESm10 := fxO (xSm10 k) (bSm10 k) (xSm10 k (bSm10 k)) (oSm10 k)
theorem sSm10 (k : KSm10) (hm : k.x4.params.length ≤ 9223372036854775807) (b : B_Sm10) (j : Nat) (h : j < k.x4.params.length) : stepSm10 (putSm10 k b j) = nxO (fun b' => putSm10 k b' (j + 1)) (fSm10 k b k.x4.params[j]) := by
  unfold stepSm10 stSm10 fSm10 putSm10
  dsimp only
  simp only [nxO_ite, cnt' h hm, gtj' _ _ _ h, if_pos (lt1' h), if_pos (lt0' (j := j)), if_pos (lt2' h)]
  rfl
theorem eSm10 (k : KSm10) (b : B_Sm10) : stepSm10 (putSm10 k b k.x4.params.length) = .ex (xSm10 k b) := by
  unfold stepSm10 stSm10 putSm10
  dsimp only
  rw [if_neg lt3']
  rfl
theorem iSm10 (k : KSm10) (h : okSm10 k = true) : iter stepSm10 (k.x4.params).length k = some (FSm10 k) := by
  unfold okSm10 at h
  simp only [Bool.and_eq_true, decide_eq_true_eq] at h
  obtain ⟨h0, h2, h3⟩ := h
  replace h2 := Nat.le_of_ble_eq_true h2
  have e : k = putSm10 k (bSm10 k) 0 := by cases k; dsimp only at h0; subst h0; rfl
  have := iter_scanO (step := stepSm10) k.x4.params (putSm10 k) (fSm10 k) (xSm10 k) (bSm10 k) (xSm10 k (bSm10 k)) (fun b j h => sSm10 k h2 b j h) (fun b => eSm10 k b) k.x4.params.length 0 (bSm10 k) (by simp) (by rw [List.drop_zero]; exact h3)
  rw [List.drop_zero, ← e] at this
  exact this
def gSm10 : LP := fun st K => match uSm10 st with | some k => if okSm10 k = true then (if isLO (oSm10 k) = true then K (.ex 2) (XSm10 (⟨(k.x1), (k.x2), (k.x3)⟩ : ESm10)) else K .ret (XSm10 (getRO (xSm10 k (bSm10 k)) (oSm10 k)))) else none | none => none
theorem okgSm10 : OKL 14 10 gSm10 := okfSm10 (fuel := fun k => (k.x4.params).length) (ok := okSm10) (F := FSm10) iSm10 fun st K => by
  unfold gSm10
  cases hu : uSm10 st with
  | none => rfl
  | some k =>
    dsimp only
    split
    · unfold FSm10 fxO
      cases isLO (oSm10 k) <;> rfl
    · rfl
structure KSm4 where
  x1 : GProgram
  x2 : Bool
  x3 : Int
structure ESm4 where
  x1 : GProgram
  x2 : Bool
def SSm4 (k : KSm4) : St At := { env := [(1, .ptr 0 0), (2, .bool k.x2), (3, .int .i64 k.x3)], stk := [], hp := [(0, .var (enc31 k.x1) false)], nx := 1 }
def XSm4 (k : ESm4) : St At := { env := [(1, .ptr 0 0), (2, .bool k.x2)], stk := [], hp := [(0, .var (enc31 k.x1) false)], nx := 1 }
def CSm4 : Cfg := { cs := libCkR, ks := [((14, 4), [(1, none), (2, none), (3, none)])] ++ CSm10.ks, xs := [((14, 4), [(1, none), (2, none)])] ++ CSm10.xs, lps := [((14, 10), gSm10)] }
theorem CSm4_ok : CfgOK CSm4 := { con := libCkR_ok, lp := .cons okgSm10 .nil }
def stSm4 {α : Type} (k : KSm4) (go : KSm4 → α) (ex ret : ESm4 → α) (no : α) : α :=
  if decide (k.x3 < (↑k.x1.nodes.length : Int)) = true then
   if 0 ≤ k.x3 then
    if k.x3 < (↑k.x1.nodes.length : Int) then
     if decide ((↑(gt { name := { data := #[] : ByteArray }, block := { data := #[] : ByteArray }, params := [], inputs := [] : GNode } k.x1.nodes k.x3.toNat).params.length : Int) > 12) = false then
      if decide ((↑(gt { name := { data := #[] : ByteArray }, block := { data := #[] : ByteArray }, params := [], inputs := [] : GNode } k.x1.nodes k.x3.toNat).inputs.length : Int) > 12) = false then
       if decide ((↑(gt { name := { data := #[] : ByteArray }, block := { data := #[] : ByteArray }, params := [], inputs := [] : GNode } k.x1.nodes k.x3.toNat).name.size : Int) > 60) = false then
        if decide ((↑(gt { name := { data := #[] : ByteArray }, block := { data := #[] : ByteArray }, params := [], inputs := [] : GNode } k.x1.nodes k.x3.toNat).block.size : Int) > 60) = true then
         ret ⟨(k.x1), (false)⟩
        else
         if okSm10 { x1 := k.x1, x2 := k.x2, x3 := k.x3, x4 := gt { name := { data := #[] : ByteArray }, block := { data := #[] : ByteArray }, params := [], inputs := [] : GNode } k.x1.nodes k.x3.toNat, x5 := 0 : KSm10 } = true then
          if isLO (oSm10 { x1 := k.x1, x2 := k.x2, x3 := k.x3, x4 := gt { name := { data := #[] : ByteArray }, block := { data := #[] : ByteArray }, params := [], inputs := [] : GNode } k.x1.nodes k.x3.toNat, x5 := 0 : KSm10 }) = true then
           go ⟨(k.x1), (k.x2), (IntKind.i64.wrap (k.x3 + 1))⟩
          else
           ret ⟨((getRO (xSm10 { x1 := k.x1, x2 := k.x2, x3 := k.x3, x4 := gt { name := { data := #[] : ByteArray }, block := { data := #[] : ByteArray }, params := [], inputs := [] : GNode } k.x1.nodes k.x3.toNat, x5 := 0 : KSm10 } (bSm10 { x1 := k.x1, x2 := k.x2, x3 := k.x3, x4 := gt { name := { data := #[] : ByteArray }, block := { data := #[] : ByteArray }, params := [], inputs := [] : GNode } k.x1.nodes k.x3.toNat, x5 := 0 : KSm10 })) (oSm10 { x1 := k.x1, x2 := k.x2, x3 := k.x3, x4 := gt { name := { data := #[] : ByteArray }, block := { data := #[] : ByteArray }, params := [], inputs := [] : GNode } k.x1.nodes k.x3.toNat, x5 := 0 : KSm10 })).x1), ((getRO (xSm10 { x1 := k.x1, x2 := k.x2, x3 := k.x3, x4 := gt { name := { data := #[] : ByteArray }, block := { data := #[] : ByteArray }, params := [], inputs := [] : GNode } k.x1.nodes k.x3.toNat, x5 := 0 : KSm10 } (bSm10 { x1 := k.x1, x2 := k.x2, x3 := k.x3, x4 := gt { name := { data := #[] : ByteArray }, block := { data := #[] : ByteArray }, params := [], inputs := [] : GNode } k.x1.nodes k.x3.toNat, x5 := 0 : KSm10 })) (oSm10 { x1 := k.x1, x2 := k.x2, x3 := k.x3, x4 := gt { name := { data := #[] : ByteArray }, block := { data := #[] : ByteArray }, params := [], inputs := [] : GNode } k.x1.nodes k.x3.toNat, x5 := 0 : KSm10 })).x2)⟩
         else
          no
       else
        ret ⟨(k.x1), (false)⟩
      else
       ret ⟨(k.x1), (false)⟩
     else
      ret ⟨(k.x1), (false)⟩
    else
     no
   else
    no
  else
   ex ⟨(k.x1), (k.x2)⟩
def stepSm4 (k : KSm4) : Nx KSm4 ESm4 := stSm4 k .go .ex .ret .no
theorem BSm4 (k : KSm4) (m : Nat) (R : St At → Option (Res At)) (K : Xit → St At → Option (Res At)) : B CSm4 14 4 (m + 60) (SSm4 k) R K = stSm4 k (fun k => R (SSm4 k)) (fun x => K (.ex 0) (XSm4 x)) (fun x => K .ret (XSm4 x)) none := by kernel_rfl
def uSm4 (st : St At) : Option KSm4 := match st with
  | ⟨[(1, .ptr 0 0), (2, .bool x2), (3, .int .i64 x3)], [], [(0, .var wx1 false)], 1⟩ => (match ex31 wx1 with | some x1 => some ⟨x1, x2, x3⟩ | _ => none)
  | _ => none
theorem uSm4_spec {st : St At} {k : KSm4} (h : uSm4 st = some k) : st = SSm4 k := by
  unfold uSm4 at h
  split at h
  · split at h
    · rename_i h0
      obtain rfl := Option.some.inj h
      rw [ex31_spec h0]
      rfl
    · cases h
  · cases h
theorem oklSm4 {g : LP} (hg : ∀ st K q, g st K = some q → ∃ k n e, st = SSm4 k ∧ iter stepSm4 n k = some e ∧ e.k 0 XSm4 XSm4 K = some q) : OKL 14 4 g := okl_iter CSm4_ok (S := SSm4) (X := XSm4) (Y := XSm4) (step := stepSm4) (id := 0) (by kernel_rfl) (by kernel_rfl)
  (fun k m R K => by rw [BSm4]; unfold stepSm4 stSm4; simp only [Nx.k_ite]; rfl) (fun k => by kernel_rfl) hg
/-- the contract out of a closed form -/
theorem okfSm4 {g : LP} {fuel : KSm4 → Nat} {ok : KSm4 → Bool} {F : KSm4 → Fx ESm4} (hF : ∀ k, ok k = true → iter stepSm4 (fuel k) k = some (F k)) (hg : ∀ st K, g st K = (match uSm4 st with | some k => if ok k = true then (F k).k 0 XSm4 XSm4 K else none | none => none)) : OKL 14 4 g := oklSm4 fun st K q h => by
  rw [hg] at h
  split at h
  · rename_i k hu
    split at h
    · rename_i hok; exact ⟨k, _, _, uSm4_spec hu, hF k hok, h⟩
    · cases h
  · cases h
abbrev B_Sm4 := Unit
def fSm4 (k : KSm4) (b : B_Sm4) (p : GNode × Nat) : Option (B_Sm4 ⊕ ESm4) :=
  if decide ((↑p.1.params.length : Int) > 12) = false then
   if decide ((↑p.1.inputs.length : Int) > 12) = false then
    if decide ((↑p.1.name.size : Int) > 60) = false then
     if decide ((↑p.1.block.size : Int) > 60) = true then
      some (.inr ⟨(k.x1), (false)⟩)
     else
      if okSm10 { x1 := k.x1, x2 := k.x2, x3 := (p.2 : Int), x4 := p.1, x5 := 0 : KSm10 } = true then
       if isLO (oSm10 { x1 := k.x1, x2 := k.x2, x3 := (p.2 : Int), x4 := p.1, x5 := 0 : KSm10 }) = true then
        some (.inl ())
       else
        some (.inr ⟨((getRO (xSm10 { x1 := k.x1, x2 := k.x2, x3 := (p.2 : Int), x4 := p.1, x5 := 0 : KSm10 } (bSm10 { x1 := k.x1, x2 := k.x2, x3 := (p.2 : Int), x4 := p.1, x5 := 0 : KSm10 })) (oSm10 { x1 := k.x1, x2 := k.x2, x3 := (p.2 : Int), x4 := p.1, x5 := 0 : KSm10 })).x1), ((getRO (xSm10 { x1 := k.x1, x2 := k.x2, x3 := (p.2 : Int), x4 := p.1, x5 := 0 : KSm10 } (bSm10 { x1 := k.x1, x2 := k.x2, x3 := (p.2 : Int), x4 := p.1, x5 := 0 : KSm10 })) (oSm10 { x1 := k.x1, x2 := k.x2, x3 := (p.2 : Int), x4 := p.1, x5 := 0 : KSm10 })).x2)⟩)
      else
       none
    else
     some (.inr ⟨(k.x1), (false)⟩)
   else
    some (.inr ⟨(k.x1), (false)⟩)
  else
   some (.inr ⟨(k.x1), (false)⟩)
def xSm4 (k : KSm4) (b : B_Sm4) : ESm4 := ⟨(k.x1), (k.x2)⟩
def putSm4 (k : KSm4) (b : B_Sm4) (j : Nat) : KSm4 := ⟨k.x1, k.x2, (j : Int)⟩
def bSm4 (k : KSm4) : B_Sm4 := ()
def oSm4 (k : KSm4) : Option (B_Sm4 ⊕ ESm4) := scanO (fSm4 k) (bSm4 k) (k.x1.nodes.zipIdx)
def okSm4 (k : KSm4) : Bool := decide (k.x3 = 0) && ((Nat.ble k.x1.nodes.length 9223372036854775807 && isOO (oSm4 k)))
def FSm4 (k : KSm4) : Fx ESm4 := fxO (xSm4 k) (bSm4 k) (xSm4 k (bSm4 k)) (oSm4 k)
theorem sSm4 (k : KSm4) (hm : k.x1.nodes.length ≤ 9223372036854775807) (b : B_Sm4) (j : Nat) (h : j < k.x1.nodes.length) : stepSm4 (putSm4 k b j) = nxO (fun b' => putSm4 k b' (j + 1)) (fSm4 k b (k.x1.nodes[j], j)) := by
  unfold stepSm4 stSm4 fSm4 putSm4
  dsimp only
  simp only [nxO_ite, cnt' h hm, gtj' _ _ _ h, if_pos (lt1' h), if_pos (lt0' (j := j)), if_pos (lt2' h)]
  rfl
theorem eSm4 (k : KSm4) (b : B_Sm4) : stepSm4 (putSm4 k b k.x1.nodes.length) = .ex (xSm4 k b) := by
  unfold stepSm4 stSm4 putSm4
  dsimp only
  rw [if_neg lt3']
  rfl
theorem iSm4 (k : KSm4) (h : okSm4 k = true) : iter stepSm4 (k.x1.nodes.zipIdx).length k = some (FSm4 k) := by
  unfold okSm4 at h
  simp only [Bool.and_eq_true, decide_eq_true_eq] at h
  obtain ⟨h0, h2, h3⟩ := h
  replace h2 := Nat.le_of_ble_eq_true h2
  have e : k = putSm4 k (bSm4 k) 0 := by cases k; dsimp only at h0; subst h0; rfl
  have := iter_scanO (step := stepSm4) (k.x1.nodes.zipIdx) (putSm4 k) (fSm4 k) (xSm4 k) (bSm4 k) (xSm4 k (bSm4 k)) (fun b j h => (by rw [show (k.x1.nodes.zipIdx)[j] = (k.x1.nodes[j]'(by simpa using h), j) by simp]; exact sSm4 k h2 b j (by simpa using h))) (fun b => (by rw [show (k.x1.nodes.zipIdx).length = k.x1.nodes.length by simp]; exact eSm4 k b)) (k.x1.nodes.zipIdx).length 0 (bSm4 k) (by simp) (by rw [List.drop_zero]; exact h3)
  rw [List.drop_zero, ← e] at this
  exact this
def gSm4 : LP := fun st K => match uSm4 st with | some k => if okSm4 k = true then (if isLO (oSm4 k) = true then K (.ex 0) (XSm4 (⟨(k.x1), (k.x2)⟩ : ESm4)) else K .ret (XSm4 (getRO (xSm4 k (bSm4 k)) (oSm4 k)))) else none | none => none
theorem okgSm4 : OKL 14 4 gSm4 := okfSm4 (fuel := fun k => (k.x1.nodes.zipIdx).length) (ok := okSm4) (F := FSm4) iSm4 fun st K => by
  unfold gSm4
  cases hu : uSm4 st with
  | none => rfl
  | some k =>
    dsimp only
    split
    · unfold FSm4 fxO
      cases isLO (oSm4 k) <;> rfl
    · rfl
def CSm : Cfg := { cs := libCkR, ks := CSm21.ks ++ CSm16.ks ++ CSm4.ks, xs := CSm21.xs ++ CSm16.xs ++ CSm4.xs, lps := [((14, 21), gSm21), ((14, 16), gSm16), ((14, 4), gSm4)] }
theorem CSm_ok : CfgOK CSm := { con := libCkR_ok, lp := .cons okgSm21 (.cons okgSm16 (.cons okgSm4 .nil)) }
def RSm (a0 : GProgram) : Option (Res At) :=
  if decide (IntKind.i64.wrap ((↑a0.nodes.length : Int) + (↑a0.drives.length : Int)) > 80) = false then
   if decide ((↑a0.name.size : Int) > 60) = true then
    some ((.bool false), [])
   else
    if okSm4 { x1 := a0, x2 := false, x3 := 0 : KSm4 } = true then
     if isLO (oSm4 { x1 := a0, x2 := false, x3 := 0 : KSm4 }) = true then
      if cLkR a0 = true then
       if okSm16 { x1 := a0, x2 := false, x6 := vLkR a0, x7 := 0 : KSm16 } = true then
        if isLO (oSm16 { x1 := a0, x2 := false, x6 := vLkR a0, x7 := 0 : KSm16 }) = true then
         if okSm21 { x1 := a0, x2 := false, x8 := 0 : KSm21 } = true then
          if isLO (oSm21 { x1 := a0, x2 := false, x8 := 0 : KSm21 }) = true then
           some ((.bool true), [])
          else
           some ((.bool ((getRO (xSm21 { x1 := a0, x2 := false, x8 := 0 : KSm21 } (bSm21 { x1 := a0, x2 := false, x8 := 0 : KSm21 })) (oSm21 { x1 := a0, x2 := false, x8 := 0 : KSm21 })).x2)), [])
         else
          none
        else
         some ((.bool ((getRO (xSm16 { x1 := a0, x2 := false, x6 := vLkR a0, x7 := 0 : KSm16 } (bSm16 { x1 := a0, x2 := false, x6 := vLkR a0, x7 := 0 : KSm16 })) (oSm16 { x1 := a0, x2 := false, x6 := vLkR a0, x7 := 0 : KSm16 })).x2)), [])
       else
        none
      else
       none
     else
      some ((.bool ((getRO (xSm4 { x1 := a0, x2 := false, x3 := 0 : KSm4 } (bSm4 { x1 := a0, x2 := false, x3 := 0 : KSm4 })) (oSm4 { x1 := a0, x2 := false, x3 := 0 : KSm4 })).x2)), [])
    else
     none
  else
   some ((.bool false), [])
theorem run_RSm (a0 : GProgram) : runF CSm 80 14 [.agg (enc31 a0)] = RSm a0 := by kernel_rfl
def oSm (a0 : GProgram) : Option (Res At) := crR [none] (RSm a0)
def vSm (a0 : GProgram) : Bool := valO rB false (oSm a0)
def cSm (a0 : GProgram) : Bool := okO rB (oSm a0)
def conSm : CON := on1 (rA ex31 enc31 fun _ _ h => ex31_spec h) fun a0 => some (cSm a0, (.bool (vSm a0), []))
theorem okSm : OK 14 conSm := okc1 CSm_ok (n := 80) (ts := [none]) (a := (rA ex31 enc31 fun _ _ h => ex31_spec h)) (r := rB) (d := false) (R := fun a0 => RSm a0) (by kernel_rfl) fun a0 => run_RSm a0
def libSm : List (Nat × CON) := (14, conSm) :: libCkR
theorem libSm_ok : AllOK libSm := .cons okSm libCkR_ok
end
end Go.Proofs.YtpbpebjfglfjfaaGreatDoor.X
