/-
  What occurs twice, what is not known.
-/
import Derived.Test.YtpbpebjfglfjfaaGreatDoorXQc
set_option autoImplicit false
set_option linter.unusedVariables false
set_option linter.unusedSimpArgs false
set_option maxRecDepth 100000
namespace Go.Proofs.YtpbpebjfglfjfaaGreatDoor.X
open Go Go.Proofs Go.RowKit Go.Proofs.YtpbpebjfglfjfaaGreatDoor
noncomputable section
def mlook9_4 (s : ByteArray) (m : List (ByteArray × Bool)) : Option Bool := tlook TT Tryz.prog 9 4 s m
def mupd9_4 (s : ByteArray) (v : Bool) (m : List (ByteArray × Bool)) : List (ByteArray × Bool) := tupd TT Tryz.prog 9 4 s v m
structure KTw15 where
  x2 : Bool
  x4 : List (ByteArray × Bool)
  x49 : List GDrive
  x50 : Int
  x51 : Int
structure ETw15 where
  x2 : Bool
def STw15 (k : KTw15) : St At := { env := [(2, .bool k.x2), (4, .mapr 0), (49, .ro 89 k.x49), (50, .int .i64 k.x50), (51, .int .i64 k.x51)], stk := [], hp := [(0, .map (.ty 9 4 k.x4) false)], nx := 1 }
def XTw15 (k : ETw15) : St At := { env := [(2, .bool k.x2)], stk := [], hp := [], nx := 0 }
def CTw15 : Cfg := { cs := libFi, ks := [((57, 15), [(2, none), (4, none), (49, none), (50, none), (51, none)])], xs := [((57, 15), [(2, none)])], lps := [] }
theorem CTw15_ok : CfgOK CTw15 := { con := libFi_ok }
def stTw15 {α : Type} (k : KTw15) (go : KTw15 → α) (ex ret : ETw15 → α) (no : α) : α :=
  if decide (k.x51 < k.x50) = true then
   if 0 ≤ k.x51 then
    if k.x51 < (↑k.x49.length : Int) then
     if getO false (mlook9_4 (gt { point := { data := #[] : ByteArray }, level := 0, from_ := { node := { data := #[] : ByteArray }, port := 0, point := { data := #[] : ByteArray }, const := { kind := 0, n := 0 : GValue }, delayed := false, initial := { kind := 0, n := 0 : GValue } : GLink } : GDrive } k.x49 k.x51.toNat).point k.x4) = true then
      ret ⟨(true)⟩
     else
      go ⟨(k.x2), (mupd9_4 (gt { point := { data := #[] : ByteArray }, level := 0, from_ := { node := { data := #[] : ByteArray }, port := 0, point := { data := #[] : ByteArray }, const := { kind := 0, n := 0 : GValue }, delayed := false, initial := { kind := 0, n := 0 : GValue } : GLink } : GDrive } k.x49 k.x51.toNat).point true k.x4), (k.x49), (k.x50), (IntKind.i64.wrap (k.x51 + 1))⟩
    else
     no
   else
    no
  else
   ex ⟨(k.x2)⟩
def stepTw15 (k : KTw15) : Nx KTw15 ETw15 := stTw15 k .go .ex .ret .no
theorem BTw15 (k : KTw15) (m : Nat) (R : St At → Option (Res At)) (K : Xit → St At → Option (Res At)) : B CTw15 57 15 (m + 60) (STw15 k) R K = stTw15 k (fun k => R (STw15 k)) (fun x => K (.ex 4) (XTw15 x)) (fun x => K .ret (XTw15 x)) none := by kernel_rfl
def uTw15 (st : St At) : Option KTw15 := match st with
  | ⟨[(2, .bool x2), (4, .mapr 0), (49, vx49), (50, .int .i64 x50), (51, .int .i64 x51)], [], [(0, bx4)], 1⟩ => (match mapB 9 4 bx4, roV 89 vx49 with | some x4, some x49 => some ⟨x2, x4, x49, x50, x51⟩ | _, _ => none)
  | _ => none
theorem uTw15_spec {st : St At} {k : KTw15} (h : uTw15 st = some k) : st = STw15 k := by
  unfold uTw15 at h
  split at h
  · split at h
    · rename_i h0 h1
      obtain rfl := Option.some.inj h
      rw [mapB_spec h0, roV_spec h1]
      rfl
    · cases h
  · cases h
theorem oklTw15 {g : LP} (hg : ∀ st K q, g st K = some q → ∃ k n e, st = STw15 k ∧ iter stepTw15 n k = some e ∧ e.k 4 XTw15 XTw15 K = some q) : OKL 57 15 g := okl_iter CTw15_ok (S := STw15) (X := XTw15) (Y := XTw15) (step := stepTw15) (id := 4) (by kernel_rfl) (by kernel_rfl)
  (fun k m R K => by rw [BTw15]; unfold stepTw15 stTw15; simp only [Nx.k_ite]; rfl) (fun k => by kernel_rfl) hg
/-- the contract out of a closed form -/
theorem okfTw15 {g : LP} {fuel : KTw15 → Nat} {ok : KTw15 → Bool} {F : KTw15 → Fx ETw15} (hF : ∀ k, ok k = true → iter stepTw15 (fuel k) k = some (F k)) (hg : ∀ st K, g st K = (match uTw15 st with | some k => if ok k = true then (F k).k 4 XTw15 XTw15 K else none | none => none)) : OKL 57 15 g := oklTw15 fun st K q h => by
  rw [hg] at h
  split at h
  · rename_i k hu
    split at h
    · rename_i hok; exact ⟨k, _, _, uTw15_spec hu, hF k hok, h⟩
    · cases h
  · cases h
structure B_Tw15 where
  x4 : List (ByteArray × Bool)
def fTw15 (k : KTw15) (b : B_Tw15) (x : GDrive) : Option (B_Tw15 ⊕ ETw15) :=
  if getO false (mlook9_4 x.point b.x4) = true then
   some (.inr ⟨(true)⟩)
  else
   some (.inl ⟨(mupd9_4 x.point true b.x4)⟩)
def xTw15 (k : KTw15) (b : B_Tw15) : ETw15 := ⟨(k.x2)⟩
def putTw15 (k : KTw15) (b : B_Tw15) (j : Nat) : KTw15 := ⟨k.x2, b.x4, k.x49, k.x50, (j : Int)⟩
def bTw15 (k : KTw15) : B_Tw15 := ⟨k.x4⟩
def oTw15 (k : KTw15) : Option (B_Tw15 ⊕ ETw15) := scanO (fTw15 k) (bTw15 k) k.x49
def okTw15 (k : KTw15) : Bool := decide (k.x51 = 0) && (decide (k.x50 = (k.x49.length : Int)) && (Nat.ble k.x49.length 9223372036854775807 && isOO (oTw15 k)))
def FTw15 (k : KTw15) : Fx ETw15 := fxO (xTw15 k) (bTw15 k) (xTw15 k (bTw15 k)) (oTw15 k)
theorem sTw15 (k : KTw15) (hn : k.x50 = (k.x49.length : Int)) (hm : k.x49.length ≤ 9223372036854775807) (b : B_Tw15) (j : Nat) (h : j < k.x49.length) : stepTw15 (putTw15 k b j) = nxO (fun b' => putTw15 k b' (j + 1)) (fTw15 k b k.x49[j]) := by
  unfold stepTw15 stTw15 fTw15 putTw15
  dsimp only
  simp only [hn, nxO_ite, cnt' h hm, gtj' _ _ _ h, if_pos (lt1' h), if_pos (lt0' (j := j)), if_pos (lt2' h)]
  rfl
theorem eTw15 (k : KTw15) (hn : k.x50 = (k.x49.length : Int)) (b : B_Tw15) : stepTw15 (putTw15 k b k.x49.length) = .ex (xTw15 k b) := by
  unfold stepTw15 stTw15 putTw15
  dsimp only
  rw [hn, if_neg lt3']
  rfl
theorem iTw15 (k : KTw15) (h : okTw15 k = true) : iter stepTw15 (k.x49).length k = some (FTw15 k) := by
  unfold okTw15 at h
  simp only [Bool.and_eq_true, decide_eq_true_eq] at h
  obtain ⟨h0, h1, h2, h3⟩ := h
  replace h2 := Nat.le_of_ble_eq_true h2
  have e : k = putTw15 k (bTw15 k) 0 := by cases k; dsimp only at h0; subst h0; rfl
  have := iter_scanO (step := stepTw15) k.x49 (putTw15 k) (fTw15 k) (xTw15 k) (bTw15 k) (xTw15 k (bTw15 k)) (fun b j h => sTw15 k h1 h2 b j h) (fun b => eTw15 k h1 b) k.x49.length 0 (bTw15 k) (by simp) (by rw [List.drop_zero]; exact h3)
  rw [List.drop_zero, ← e] at this
  exact this
def gTw15 : LP := fun st K => match uTw15 st with | some k => if okTw15 k = true then (if isLO (oTw15 k) = true then K (.ex 4) (XTw15 (⟨(k.x2)⟩ : ETw15)) else K .ret (XTw15 (getRO (xTw15 k (bTw15 k)) (oTw15 k)))) else none | none => none
theorem okgTw15 : OKL 57 15 gTw15 := okfTw15 (fuel := fun k => (k.x49).length) (ok := okTw15) (F := FTw15) iTw15 fun st K => by
  unfold gTw15
  cases hu : uTw15 st with
  | none => rfl
  | some k =>
    dsimp only
    split
    · unfold FTw15 fxO
      cases isLO (oTw15 k) <;> rfl
    · rfl
structure KTw9 where
  x1 : GProgram
  x2 : Bool
  x3 : List (ByteArray × Bool)
  x4 : List (ByteArray × Bool)
  x6 : GNode
  x7 : Int
  x13 : List GNode
  x14 : Int
  x15 : Int
structure ETw9 where
  x1 : GProgram
  x2 : Bool
  x3 : List (ByteArray × Bool)
  x4 : List (ByteArray × Bool)
  x13 : List GNode
  x14 : Int
  x15 : Int
def STw9 (k : KTw9) : St At := { env := [(1, .ptr 0 0), (2, .bool k.x2), (3, .mapr 1), (4, .mapr 2), (6, .ptr 3 0), (7, .int .i64 k.x7), (13, .ro 58 k.x13), (14, .int .i64 k.x14), (15, .int .i64 k.x15)], stk := [], hp := [(0, .var (enc31 k.x1) false), (1, .map (.ty 9 4 k.x3) false), (2, .map (.ty 9 4 k.x4) false), (3, .var (enc58 k.x6) false)], nx := 4 }
def XTw9 (k : ETw9) : St At := { env := [(1, .ptr 0 0), (2, .bool k.x2), (3, .mapr 1), (4, .mapr 2), (13, .ro 58 k.x13), (14, .int .i64 k.x14), (15, .int .i64 k.x15)], stk := [], hp := [(0, .var (enc31 k.x1) false), (1, .map (.ty 9 4 k.x3) false), (2, .map (.ty 9 4 k.x4) false)], nx := 3 }
def CTw9 : Cfg := { cs := libFi, ks := [((57, 9), [(1, none), (2, none), (3, none), (4, none), (6, none), (7, none), (13, none), (14, none), (15, none)])], xs := [((57, 9), [(1, none), (2, none), (3, none), (4, none), (13, none), (14, none), (15, none)])], lps := [] }
theorem CTw9_ok : CfgOK CTw9 := { con := libFi_ok }
def stTw9 {α : Type} (k : KTw9) (go : KTw9 → α) (ex ret : ETw9 → α) (no : α) : α :=
  if decide (k.x7 < (↑k.x6.params.length : Int)) = true then
   if 0 ≤ IntKind.i64.wrap (k.x7 - 1) then
    if IntKind.i64.wrap (k.x7 - 1) < (↑k.x6.params.length : Int) then
     if 0 ≤ k.x7 then
      if k.x7 < (↑k.x6.params.length : Int) then
       if (!ltB (gt { name := { data := #[] : ByteArray }, value := 0 : GParam } k.x6.params (IntKind.i64.wrap (k.x7 - 1)).toNat).name (gt { name := { data := #[] : ByteArray }, value := 0 : GParam } k.x6.params k.x7.toNat).name) = true then
        ret ⟨(k.x1), (true), (k.x3), (k.x4), (k.x13), (k.x14), (k.x15)⟩
       else
        go ⟨(k.x1), (k.x2), (k.x3), (k.x4), (k.x6), (IntKind.i64.wrap (k.x7 + 1)), (k.x13), (k.x14), (k.x15)⟩
      else
       no
     else
      no
    else
     no
   else
    no
  else
   ex ⟨(k.x1), (k.x2), (k.x3), (k.x4), (k.x13), (k.x14), (k.x15)⟩
def stepTw9 (k : KTw9) : Nx KTw9 ETw9 := stTw9 k .go .ex .ret .no
theorem BTw9 (k : KTw9) (m : Nat) (R : St At → Option (Res At)) (K : Xit → St At → Option (Res At)) : B CTw9 57 9 (m + 60) (STw9 k) R K = stTw9 k (fun k => R (STw9 k)) (fun x => K (.ex 2) (XTw9 x)) (fun x => K .ret (XTw9 x)) none := by kernel_rfl
def uTw9 (st : St At) : Option KTw9 := match st with
  | ⟨[(1, .ptr 0 0), (2, .bool x2), (3, .mapr 1), (4, .mapr 2), (6, .ptr 3 0), (7, .int .i64 x7), (13, vx13), (14, .int .i64 x14), (15, .int .i64 x15)], [], [(0, .var wx1 false), (1, bx3), (2, bx4), (3, .var wx6 false)], 4⟩ => (match ex31 wx1, mapB 9 4 bx3, mapB 9 4 bx4, ex58 wx6, roV 58 vx13 with | some x1, some x3, some x4, some x6, some x13 => some ⟨x1, x2, x3, x4, x6, x7, x13, x14, x15⟩ | _, _, _, _, _ => none)
  | _ => none
theorem uTw9_spec {st : St At} {k : KTw9} (h : uTw9 st = some k) : st = STw9 k := by
  unfold uTw9 at h
  split at h
  · split at h
    · rename_i h0 h1 h2 h3 h4
      obtain rfl := Option.some.inj h
      rw [ex31_spec h0, mapB_spec h1, mapB_spec h2, ex58_spec h3, roV_spec h4]
      rfl
    · cases h
  · cases h
theorem oklTw9 {g : LP} (hg : ∀ st K q, g st K = some q → ∃ k n e, st = STw9 k ∧ iter stepTw9 n k = some e ∧ e.k 2 XTw9 XTw9 K = some q) : OKL 57 9 g := okl_iter CTw9_ok (S := STw9) (X := XTw9) (Y := XTw9) (step := stepTw9) (id := 2) (by kernel_rfl) (by kernel_rfl)
  (fun k m R K => by rw [BTw9]; unfold stepTw9 stTw9; simp only [Nx.k_ite]; rfl) (fun k => by kernel_rfl) hg
/-- the contract out of a closed form -/
theorem okfTw9 {g : LP} {fuel : KTw9 → Nat} {ok : KTw9 → Bool} {F : KTw9 → Fx ETw9} (hF : ∀ k, ok k = true → iter stepTw9 (fuel k) k = some (F k)) (hg : ∀ st K, g st K = (match uTw9 st with | some k => if ok k = true then (F k).k 2 XTw9 XTw9 K else none | none => none)) : OKL 57 9 g := oklTw9 fun st K q h => by
  rw [hg] at h
  split at h
  · rename_i k hu
    split at h
    · rename_i hok; exact ⟨k, _, _, uTw9_spec hu, hF k hok, h⟩
    · cases h
  · cases h
structure B_Tw9 where
  x7 : Int
abbrev P_Tw9 := Unit
structure Q_Tw9 where
  x2 : Bool
def putTw9 (k : KTw9) (b : B_Tw9) : KTw9 := ⟨k.x1, k.x2, k.x3, k.x4, k.x6, b.x7, k.x13, k.x14, k.x15⟩
def bTw9 (k : KTw9) : B_Tw9 := ⟨k.x7⟩
def xeTw9 (k : KTw9) (e : P_Tw9) : ETw9 := ⟨k.x1, k.x2, k.x3, k.x4, k.x13, k.x14, k.x15⟩
def xrTw9 (k : KTw9) (e : Q_Tw9) : ETw9 := ⟨k.x1, e.x2, k.x3, k.x4, k.x13, k.x14, k.x15⟩
def sTw9 (k : KTw9) (b : B_Tw9) : Nx2 B_Tw9 P_Tw9 Q_Tw9 := stTw9 (putTw9 k b) (fun k => .go ⟨k.x7⟩) (fun k => .ex ()) (fun k => .ret ⟨k.x2⟩) .no
def iTw9 (k : KTw9) : Option (P_Tw9 ⊕ Q_Tw9) := iter2 (sTw9 k) (k.x6.params.length) (bTw9 k)
def okTw9 (k : KTw9) : Bool := isO (iTw9 k)
def FTw9 (k : KTw9) : Fx ETw9 := if isLO (iTw9 k) = true then .ex (xeTw9 k (getLO () (iTw9 k))) else .ret (xrTw9 k (getRO ⟨k.x2⟩ (iTw9 k)))
theorem hTw9 (k : KTw9) (b : B_Tw9) : stepTw9 (putTw9 k b) = (sTw9 k b).up (putTw9 k) (xeTw9 k) (xrTw9 k) := by
  unfold stepTw9 sTw9 stTw9 putTw9
  dsimp only
  simp only [Nx2.up_ite]
  rfl
theorem iTw9_ok (k : KTw9) (h : okTw9 k = true) : iter stepTw9 (k.x6.params.length) k = some (FTw9 k) := iter2_ok (bTw9 k) (hTw9 k) h
def gTw9 : LP := fun st K => match uTw9 st with | some k => if okTw9 k = true then (if isLO (iTw9 k) = true then K (.ex 2) (XTw9 (⟨k.x1, k.x2, k.x3, k.x4, k.x13, k.x14, k.x15⟩ : ETw9)) else K .ret (XTw9 (⟨k.x1, (getRO ⟨k.x2⟩ (iTw9 k)).x2, k.x3, k.x4, k.x13, k.x14, k.x15⟩ : ETw9))) else none | none => none
theorem okgTw9 : OKL 57 9 gTw9 := okfTw9 (fuel := fun k => k.x6.params.length) (ok := okTw9) (F := FTw9) iTw9_ok fun st K => by
  unfold gTw9
  cases hu : uTw9 st with
  | none => rfl
  | some k =>
    dsimp only
    split
    · unfold FTw9
      cases isLO (iTw9 k) <;> rfl
    · rfl
structure KTw3 where
  x1 : GProgram
  x2 : Bool
  x3 : List (ByteArray × Bool)
  x4 : List (ByteArray × Bool)
  x13 : List GNode
  x14 : Int
  x15 : Int
structure ETw3 where
  x1 : GProgram
  x2 : Bool
  x4 : List (ByteArray × Bool)
def STw3 (k : KTw3) : St At := { env := [(1, .ptr 0 0), (2, .bool k.x2), (3, .mapr 1), (4, .mapr 2), (13, .ro 58 k.x13), (14, .int .i64 k.x14), (15, .int .i64 k.x15)], stk := [], hp := [(0, .var (enc31 k.x1) false), (1, .map (.ty 9 4 k.x3) false), (2, .map (.ty 9 4 k.x4) false)], nx := 3 }
def XTw3 (k : ETw3) : St At := { env := [(1, .ptr 0 0), (2, .bool k.x2), (4, .mapr 1)], stk := [], hp := [(0, .var (enc31 k.x1) false), (1, .map (.ty 9 4 k.x4) false)], nx := 2 }
def CTw3 : Cfg := { cs := libFi, ks := [((57, 3), [(1, none), (2, none), (3, none), (4, none), (13, none), (14, none), (15, none)])] ++ CTw9.ks, xs := [((57, 3), [(1, none), (2, none), (4, none)])] ++ CTw9.xs, lps := [((57, 9), gTw9)] }
theorem CTw3_ok : CfgOK CTw3 := { con := libFi_ok, lp := .cons okgTw9 .nil }
def stTw3 {α : Type} (k : KTw3) (go : KTw3 → α) (ex ret : ETw3 → α) (no : α) : α :=
  if decide (k.x15 < k.x14) = true then
   if 0 ≤ k.x15 then
    if k.x15 < (↑k.x13.length : Int) then
     if getO false (mlook9_4 (gt { name := { data := #[] : ByteArray }, block := { data := #[] : ByteArray }, params := [], inputs := [] : GNode } k.x13 k.x15.toNat).name k.x3) = true then
      ret ⟨(k.x1), (true), (k.x4)⟩
     else
      if okTw9 { x1 := k.x1, x2 := k.x2, x3 := mupd9_4 (gt { name := { data := #[] : ByteArray }, block := { data := #[] : ByteArray }, params := [], inputs := [] : GNode } k.x13 k.x15.toNat).name true k.x3, x4 := k.x4, x6 := gt { name := { data := #[] : ByteArray }, block := { data := #[] : ByteArray }, params := [], inputs := [] : GNode } k.x13 k.x15.toNat, x7 := 1, x13 := k.x13, x14 := k.x14, x15 := k.x15 : KTw9 } = true then
       if isLO (iTw9 { x1 := k.x1, x2 := k.x2, x3 := mupd9_4 (gt { name := { data := #[] : ByteArray }, block := { data := #[] : ByteArray }, params := [], inputs := [] : GNode } k.x13 k.x15.toNat).name true k.x3, x4 := k.x4, x6 := gt { name := { data := #[] : ByteArray }, block := { data := #[] : ByteArray }, params := [], inputs := [] : GNode } k.x13 k.x15.toNat, x7 := 1, x13 := k.x13, x14 := k.x14, x15 := k.x15 : KTw9 }) = true then
        go ⟨(k.x1), (k.x2), (mupd9_4 (gt { name := { data := #[] : ByteArray }, block := { data := #[] : ByteArray }, params := [], inputs := [] : GNode } k.x13 k.x15.toNat).name true k.x3), (k.x4), (k.x13), (k.x14), (IntKind.i64.wrap (k.x15 + 1))⟩
       else
        ret ⟨(k.x1), ((getRO { x2 := k.x2 : Q_Tw9 } (iTw9 { x1 := k.x1, x2 := k.x2, x3 := mupd9_4 (gt { name := { data := #[] : ByteArray }, block := { data := #[] : ByteArray }, params := [], inputs := [] : GNode } k.x13 k.x15.toNat).name true k.x3, x4 := k.x4, x6 := gt { name := { data := #[] : ByteArray }, block := { data := #[] : ByteArray }, params := [], inputs := [] : GNode } k.x13 k.x15.toNat, x7 := 1, x13 := k.x13, x14 := k.x14, x15 := k.x15 : KTw9 })).x2), (k.x4)⟩
      else
       no
    else
     no
   else
    no
  else
   ex ⟨(k.x1), (k.x2), (k.x4)⟩
def stepTw3 (k : KTw3) : Nx KTw3 ETw3 := stTw3 k .go .ex .ret .no
theorem BTw3 (k : KTw3) (m : Nat) (R : St At → Option (Res At)) (K : Xit → St At → Option (Res At)) : B CTw3 57 3 (m + 60) (STw3 k) R K = stTw3 k (fun k => R (STw3 k)) (fun x => K (.ex 0) (XTw3 x)) (fun x => K .ret (XTw3 x)) none := by kernel_rfl
def uTw3 (st : St At) : Option KTw3 := match st with
  | ⟨[(1, .ptr 0 0), (2, .bool x2), (3, .mapr 1), (4, .mapr 2), (13, vx13), (14, .int .i64 x14), (15, .int .i64 x15)], [], [(0, .var wx1 false), (1, bx3), (2, bx4)], 3⟩ => (match ex31 wx1, mapB 9 4 bx3, mapB 9 4 bx4, roV 58 vx13 with | some x1, some x3, some x4, some x13 => some ⟨x1, x2, x3, x4, x13, x14, x15⟩ | _, _, _, _ => none)
  | _ => none
theorem uTw3_spec {st : St At} {k : KTw3} (h : uTw3 st = some k) : st = STw3 k := by
  unfold uTw3 at h
  split at h
  · split at h
    · rename_i h0 h1 h2 h3
      obtain rfl := Option.some.inj h
      rw [ex31_spec h0, mapB_spec h1, mapB_spec h2, roV_spec h3]
      rfl
    · cases h
  · cases h
theorem oklTw3 {g : LP} (hg : ∀ st K q, g st K = some q → ∃ k n e, st = STw3 k ∧ iter stepTw3 n k = some e ∧ e.k 0 XTw3 XTw3 K = some q) : OKL 57 3 g := okl_iter CTw3_ok (S := STw3) (X := XTw3) (Y := XTw3) (step := stepTw3) (id := 0) (by kernel_rfl) (by kernel_rfl)
  (fun k m R K => by rw [BTw3]; unfold stepTw3 stTw3; simp only [Nx.k_ite]; rfl) (fun k => by kernel_rfl) hg
/-- the contract out of a closed form -/
theorem okfTw3 {g : LP} {fuel : KTw3 → Nat} {ok : KTw3 → Bool} {F : KTw3 → Fx ETw3} (hF : ∀ k, ok k = true → iter stepTw3 (fuel k) k = some (F k)) (hg : ∀ st K, g st K = (match uTw3 st with | some k => if ok k = true then (F k).k 0 XTw3 XTw3 K else none | none => none)) : OKL 57 3 g := oklTw3 fun st K q h => by
  rw [hg] at h
  split at h
  · rename_i k hu
    split at h
    · rename_i hok; exact ⟨k, _, _, uTw3_spec hu, hF k hok, h⟩
    · cases h
  · cases h
structure B_Tw3 where
  x3 : List (ByteArray × Bool)
def fTw3 (k : KTw3) (b : B_Tw3) (p : GNode × Nat) : Option (B_Tw3 ⊕ ETw3) :=
  if getO false (mlook9_4 p.1.name b.x3) = true then
   some (.inr ⟨(k.x1), (true), (k.x4)⟩)
  else
   if okTw9 { x1 := k.x1, x2 := k.x2, x3 := mupd9_4 p.1.name true b.x3, x4 := k.x4, x6 := p.1, x7 := 1, x13 := k.x13, x14 := k.x14, x15 := (p.2 : Int) : KTw9 } = true then
    if isLO (iTw9 { x1 := k.x1, x2 := k.x2, x3 := mupd9_4 p.1.name true b.x3, x4 := k.x4, x6 := p.1, x7 := 1, x13 := k.x13, x14 := k.x14, x15 := (p.2 : Int) : KTw9 }) = true then
     some (.inl ⟨(mupd9_4 p.1.name true b.x3)⟩)
    else
     some (.inr ⟨(k.x1), ((getRO { x2 := k.x2 : Q_Tw9 } (iTw9 { x1 := k.x1, x2 := k.x2, x3 := mupd9_4 p.1.name true b.x3, x4 := k.x4, x6 := p.1, x7 := 1, x13 := k.x13, x14 := k.x14, x15 := (p.2 : Int) : KTw9 })).x2), (k.x4)⟩)
   else
    none
def xTw3 (k : KTw3) (b : B_Tw3) : ETw3 := ⟨(k.x1), (k.x2), (k.x4)⟩
def putTw3 (k : KTw3) (b : B_Tw3) (j : Nat) : KTw3 := ⟨k.x1, k.x2, b.x3, k.x4, k.x13, k.x14, (j : Int)⟩
def bTw3 (k : KTw3) : B_Tw3 := ⟨k.x3⟩
def oTw3 (k : KTw3) : Option (B_Tw3 ⊕ ETw3) := scanO (fTw3 k) (bTw3 k) (k.x13.zipIdx)
def okTw3 (k : KTw3) : Bool := decide (k.x15 = 0) && (decide (k.x14 = (k.x13.length : Int)) && (Nat.ble k.x13.length 9223372036854775807 && isOO (oTw3 k)))
def FTw3 (k : KTw3) : Fx ETw3 := fxO (xTw3 k) (bTw3 k) (xTw3 k (bTw3 k)) (oTw3 k)
theorem sTw3 (k : KTw3) (hn : k.x14 = (k.x13.length : Int)) (hm : k.x13.length ≤ 9223372036854775807) (b : B_Tw3) (j : Nat) (h : j < k.x13.length) : stepTw3 (putTw3 k b j) = nxO (fun b' => putTw3 k b' (j + 1)) (fTw3 k b (k.x13[j], j)) := by
  unfold stepTw3 stTw3 fTw3 putTw3
  dsimp only
  simp only [hn, nxO_ite, cnt' h hm, gtj' _ _ _ h, if_pos (lt1' h), if_pos (lt0' (j := j)), if_pos (lt2' h)]
  rfl
theorem eTw3 (k : KTw3) (hn : k.x14 = (k.x13.length : Int)) (b : B_Tw3) : stepTw3 (putTw3 k b k.x13.length) = .ex (xTw3 k b) := by
  unfold stepTw3 stTw3 putTw3
  dsimp only
  rw [hn, if_neg lt3']
  rfl
theorem iTw3 (k : KTw3) (h : okTw3 k = true) : iter stepTw3 (k.x13.zipIdx).length k = some (FTw3 k) := by
  unfold okTw3 at h
  simp only [Bool.and_eq_true, decide_eq_true_eq] at h
  obtain ⟨h0, h1, h2, h3⟩ := h
  replace h2 := Nat.le_of_ble_eq_true h2
  have e : k = putTw3 k (bTw3 k) 0 := by cases k; dsimp only at h0; subst h0; rfl
  have := iter_scanO (step := stepTw3) (k.x13.zipIdx) (putTw3 k) (fTw3 k) (xTw3 k) (bTw3 k) (xTw3 k (bTw3 k)) (fun b j h => (by rw [show (k.x13.zipIdx)[j] = (k.x13[j]'(by simpa using h), j) by simp]; exact sTw3 k h1 h2 b j (by simpa using h))) (fun b => (by rw [show (k.x13.zipIdx).length = k.x13.length by simp]; exact eTw3 k h1 b)) (k.x13.zipIdx).length 0 (bTw3 k) (by simp) (by rw [List.drop_zero]; exact h3)
  rw [List.drop_zero, ← e] at this
  exact this
def gTw3 : LP := fun st K => match uTw3 st with | some k => if okTw3 k = true then (if isLO (oTw3 k) = true then K (.ex 0) (XTw3 (⟨(k.x1), (k.x2), (k.x4)⟩ : ETw3)) else K .ret (XTw3 (getRO (xTw3 k (bTw3 k)) (oTw3 k)))) else none | none => none
theorem okgTw3 : OKL 57 3 gTw3 := okfTw3 (fuel := fun k => (k.x13.zipIdx).length) (ok := okTw3) (F := FTw3) iTw3 fun st K => by
  unfold gTw3
  cases hu : uTw3 st with
  | none => rfl
  | some k =>
    dsimp only
    split
    · unfold FTw3 fxO
      cases isLO (oTw3 k) <;> rfl
    · rfl
def CTw : Cfg := { cs := libFi, ks := CTw15.ks ++ CTw3.ks, xs := CTw15.xs ++ CTw3.xs, lps := [((57, 15), gTw15), ((57, 3), gTw3)] }
theorem CTw_ok : CfgOK CTw := { con := libFi_ok, lp := .cons okgTw15 (.cons okgTw3 .nil) }
def RTw (a0 : GProgram) : Option (Res At) :=
  if okTw3 { x1 := a0, x2 := false, x3 := [], x4 := [], x13 := a0.nodes, x14 := (↑a0.nodes.length : Int), x15 := 0 : KTw3 } = true then
   if isLO (oTw3 { x1 := a0, x2 := false, x3 := [], x4 := [], x13 := a0.nodes, x14 := (↑a0.nodes.length : Int), x15 := 0 : KTw3 }) = true then
    if okTw15 { x2 := false, x4 := [], x49 := a0.drives, x50 := (↑a0.drives.length : Int), x51 := 0 : KTw15 } = true then
     if isLO (oTw15 { x2 := false, x4 := [], x49 := a0.drives, x50 := (↑a0.drives.length : Int), x51 := 0 : KTw15 }) = true then
      some ((.bool false), [])
     else
      some ((.bool ((getRO (xTw15 { x2 := false, x4 := [], x49 := a0.drives, x50 := (↑a0.drives.length : Int), x51 := 0 : KTw15 } (bTw15 { x2 := false, x4 := [], x49 := a0.drives, x50 := (↑a0.drives.length : Int), x51 := 0 : KTw15 })) (oTw15 { x2 := false, x4 := [], x49 := a0.drives, x50 := (↑a0.drives.length : Int), x51 := 0 : KTw15 })).x2)), [])
    else
     none
   else
    some ((.bool ((getRO (xTw3 { x1 := a0, x2 := false, x3 := [], x4 := [], x13 := a0.nodes, x14 := (↑a0.nodes.length : Int), x15 := 0 : KTw3 } (bTw3 { x1 := a0, x2 := false, x3 := [], x4 := [], x13 := a0.nodes, x14 := (↑a0.nodes.length : Int), x15 := 0 : KTw3 })) (oTw3 { x1 := a0, x2 := false, x3 := [], x4 := [], x13 := a0.nodes, x14 := (↑a0.nodes.length : Int), x15 := 0 : KTw3 })).x2)), [])
  else
   none
theorem run_RTw (a0 : GProgram) : runF CTw 80 57 [.agg (enc31 a0)] = RTw a0 := by kernel_rfl
def oTw (a0 : GProgram) : Option (Res At) := crR [none] (RTw a0)
def vTw (a0 : GProgram) : Bool := valO rB false (oTw a0)
def cTw (a0 : GProgram) : Bool := okO rB (oTw a0)
def conTw : CON := on1 (rA ex31 enc31 fun _ _ h => ex31_spec h) fun a0 => some (cTw a0, (.bool (vTw a0), []))
theorem okTw : OK 57 conTw := okc1 CTw_ok (n := 80) (ts := [none]) (a := (rA ex31 enc31 fun _ _ h => ex31_spec h)) (r := rB) (d := false) (R := fun a0 => RTw a0) (by kernel_rfl) fun a0 => run_RTw a0
def libTw : List (Nat × CON) := (57, conTw) :: libFi
theorem libTw_ok : AllOK libTw := .cons okTw libFi_ok
structure KUk16 where
  x2 : List GPoint
  x3 : GProgram
  x4 : Bool
  x45 : List GLink
  x46 : Int
  x47 : Int
structure EUk16 where
  x2 : List GPoint
  x3 : GProgram
  x4 : Bool
def SUk16 (k : KUk16) : St At := { env := [(2, .ptr 0 0), (3, .ptr 1 0), (4, .bool k.x4), (5, .ptr 2 0), (45, .ro 55 k.x45), (46, .int .i64 k.x46), (47, .int .i64 k.x47)], stk := [], hp := [(0, .var [.ro 66 k.x2] false), (1, .var (enc31 k.x3) false), (2, .var [.fn 113 [.ptr 0 0]] false)], nx := 3 }
def XUk16 (k : EUk16) : St At := { env := [(2, .ptr 0 0), (3, .ptr 1 0), (4, .bool k.x4), (5, .ptr 2 0)], stk := [], hp := [(0, .var [.ro 66 k.x2] false), (1, .var (enc31 k.x3) false), (2, .var [.fn 113 [.ptr 0 0]] false)], nx := 3 }
def CUk16 : Cfg := { cs := libTw, ks := [((58, 16), [(2, none), (3, none), (4, none), (5, none), (45, none), (46, none), (47, none)])], xs := [((58, 16), [(2, none), (3, none), (4, none), (5, none)])], lps := [] }
theorem CUk16_ok : CfgOK CUk16 := { con := libTw_ok }
def stUk16 {α : Type} (k : KUk16) (go : KUk16 → α) (ex ret : EUk16 → α) (no : α) : α :=
  if decide (k.x47 < k.x46) = true then
   if 0 ≤ k.x47 then
    if k.x47 < (↑k.x45.length : Int) then
     if (!eqB (gt { node := { data := #[] : ByteArray }, port := 0, point := { data := #[] : ByteArray }, const := { kind := 0, n := 0 : GValue }, delayed := false, initial := { kind := 0, n := 0 : GValue } : GLink } k.x45 k.x47.toNat).node { data := #[] : ByteArray }) = true then
      if cFi k.x3 (gt { node := { data := #[] : ByteArray }, port := 0, point := { data := #[] : ByteArray }, const := { kind := 0, n := 0 : GValue }, delayed := false, initial := { kind := 0, n := 0 : GValue } : GLink } k.x45 k.x47.toNat).node = true then
       if decide (vFi k.x3 (gt { node := { data := #[] : ByteArray }, port := 0, point := { data := #[] : ByteArray }, const := { kind := 0, n := 0 : GValue }, delayed := false, initial := { kind := 0, n := 0 : GValue } : GLink } k.x45 k.x47.toNat).node < 0) = false then
        if (!eqB (gt { node := { data := #[] : ByteArray }, port := 0, point := { data := #[] : ByteArray }, const := { kind := 0, n := 0 : GValue }, delayed := false, initial := { kind := 0, n := 0 : GValue } : GLink } k.x45 k.x47.toNat).point { data := #[] : ByteArray }) = true then
         if cU1 (gt { node := { data := #[] : ByteArray }, port := 0, point := { data := #[] : ByteArray }, const := { kind := 0, n := 0 : GValue }, delayed := false, initial := { kind := 0, n := 0 : GValue } : GLink } k.x45 k.x47.toNat).point k.x2 = true then
          if (!vU1 (gt { node := { data := #[] : ByteArray }, port := 0, point := { data := #[] : ByteArray }, const := { kind := 0, n := 0 : GValue }, delayed := false, initial := { kind := 0, n := 0 : GValue } : GLink } k.x45 k.x47.toNat).point k.x2) = true then
           ret ⟨(k.x2), (k.x3), (true)⟩
          else
           go ⟨(k.x2), (k.x3), (k.x4), (k.x45), (k.x46), (IntKind.i64.wrap (k.x47 + 1))⟩
         else
          no
        else
         go ⟨(k.x2), (k.x3), (k.x4), (k.x45), (k.x46), (IntKind.i64.wrap (k.x47 + 1))⟩
       else
        ret ⟨(k.x2), (k.x3), (true)⟩
      else
       no
     else
      if (!eqB (gt { node := { data := #[] : ByteArray }, port := 0, point := { data := #[] : ByteArray }, const := { kind := 0, n := 0 : GValue }, delayed := false, initial := { kind := 0, n := 0 : GValue } : GLink } k.x45 k.x47.toNat).point { data := #[] : ByteArray }) = true then
       if cU1 (gt { node := { data := #[] : ByteArray }, port := 0, point := { data := #[] : ByteArray }, const := { kind := 0, n := 0 : GValue }, delayed := false, initial := { kind := 0, n := 0 : GValue } : GLink } k.x45 k.x47.toNat).point k.x2 = true then
        if (!vU1 (gt { node := { data := #[] : ByteArray }, port := 0, point := { data := #[] : ByteArray }, const := { kind := 0, n := 0 : GValue }, delayed := false, initial := { kind := 0, n := 0 : GValue } : GLink } k.x45 k.x47.toNat).point k.x2) = true then
         ret ⟨(k.x2), (k.x3), (true)⟩
        else
         go ⟨(k.x2), (k.x3), (k.x4), (k.x45), (k.x46), (IntKind.i64.wrap (k.x47 + 1))⟩
       else
        no
      else
       go ⟨(k.x2), (k.x3), (k.x4), (k.x45), (k.x46), (IntKind.i64.wrap (k.x47 + 1))⟩
    else
     no
   else
    no
  else
   ex ⟨(k.x2), (k.x3), (k.x4)⟩
def stepUk16 (k : KUk16) : Nx KUk16 EUk16 := stUk16 k .go .ex .ret .no
theorem BUk16 (k : KUk16) (m : Nat) (R : St At → Option (Res At)) (K : Xit → St At → Option (Res At)) : B CUk16 58 16 (m + 60) (SUk16 k) R K = stUk16 k (fun k => R (SUk16 k)) (fun x => K (.ex 4) (XUk16 x)) (fun x => K .ret (XUk16 x)) none := by kernel_rfl
def uUk16 (st : St At) : Option KUk16 := match st with
  | ⟨[(2, .ptr 0 0), (3, .ptr 1 0), (4, .bool x4), (5, .ptr 2 0), (45, vx45), (46, .int .i64 x46), (47, .int .i64 x47)], [], [(0, .var [vx2] false), (1, .var wx3 false), (2, .var [.fn 113 [.ptr 0 0]] false)], 3⟩ => (match roV 66 vx2, ex31 wx3, roV 55 vx45 with | some x2, some x3, some x45 => some ⟨x2, x3, x4, x45, x46, x47⟩ | _, _, _ => none)
  | _ => none
theorem uUk16_spec {st : St At} {k : KUk16} (h : uUk16 st = some k) : st = SUk16 k := by
  unfold uUk16 at h
  split at h
  · split at h
    · rename_i h0 h1 h2
      obtain rfl := Option.some.inj h
      rw [roV_spec h0, ex31_spec h1, roV_spec h2]
      rfl
    · cases h
  · cases h
theorem oklUk16 {g : LP} (hg : ∀ st K q, g st K = some q → ∃ k n e, st = SUk16 k ∧ iter stepUk16 n k = some e ∧ e.k 4 XUk16 XUk16 K = some q) : OKL 58 16 g := okl_iter CUk16_ok (S := SUk16) (X := XUk16) (Y := XUk16) (step := stepUk16) (id := 4) (by kernel_rfl) (by kernel_rfl)
  (fun k m R K => by rw [BUk16]; unfold stepUk16 stUk16; simp only [Nx.k_ite]; rfl) (fun k => by kernel_rfl) hg
/-- the contract out of a closed form -/
theorem okfUk16 {g : LP} {fuel : KUk16 → Nat} {ok : KUk16 → Bool} {F : KUk16 → Fx EUk16} (hF : ∀ k, ok k = true → iter stepUk16 (fuel k) k = some (F k)) (hg : ∀ st K, g st K = (match uUk16 st with | some k => if ok k = true then (F k).k 4 XUk16 XUk16 K else none | none => none)) : OKL 58 16 g := oklUk16 fun st K q h => by
  rw [hg] at h
  split at h
  · rename_i k hu
    split at h
    · rename_i hok; exact ⟨k, _, _, uUk16_spec hu, hF k hok, h⟩
    · cases h
  · cases h
abbrev B_Uk16 := Unit
def fUk16 (k : KUk16) (b : B_Uk16) (x : GLink) : Option (B_Uk16 ⊕ EUk16) :=
  if (!eqB x.node { data := #[] : ByteArray }) = true then
   if cFi k.x3 x.node = true then
    if decide (vFi k.x3 x.node < 0) = false then
     if (!eqB x.point { data := #[] : ByteArray }) = true then
      if cU1 x.point k.x2 = true then
       if (!vU1 x.point k.x2) = true then
        some (.inr ⟨(k.x2), (k.x3), (true)⟩)
       else
        some (.inl ())
      else
       none
     else
      some (.inl ())
    else
     some (.inr ⟨(k.x2), (k.x3), (true)⟩)
   else
    none
  else
   if (!eqB x.point { data := #[] : ByteArray }) = true then
    if cU1 x.point k.x2 = true then
     if (!vU1 x.point k.x2) = true then
      some (.inr ⟨(k.x2), (k.x3), (true)⟩)
     else
      some (.inl ())
    else
     none
   else
    some (.inl ())
def xUk16 (k : KUk16) (b : B_Uk16) : EUk16 := ⟨(k.x2), (k.x3), (k.x4)⟩
def putUk16 (k : KUk16) (b : B_Uk16) (j : Nat) : KUk16 := ⟨k.x2, k.x3, k.x4, k.x45, k.x46, (j : Int)⟩
def bUk16 (k : KUk16) : B_Uk16 := ()
def oUk16 (k : KUk16) : Option (B_Uk16 ⊕ EUk16) := scanO (fUk16 k) (bUk16 k) k.x45
def okUk16 (k : KUk16) : Bool := decide (k.x47 = 0) && (decide (k.x46 = (k.x45.length : Int)) && (Nat.ble k.x45.length 9223372036854775807 && isOO (oUk16 k)))
def FUk16 (k : KUk16) : Fx EUk16 := fxO (xUk16 k) (bUk16 k) (xUk16 k (bUk16 k)) (oUk16 k)
theorem sUk16 (k : KUk16) (hn : k.x46 = (k.x45.length : Int)) (hm : k.x45.length ≤ 9223372036854775807) (b : B_Uk16) (j : Nat) (h : j < k.x45.length) : stepUk16 (putUk16 k b j) = nxO (fun b' => putUk16 k b' (j + 1)) (fUk16 k b k.x45[j]) := by
  unfold stepUk16 stUk16 fUk16 putUk16
  dsimp only
  simp only [hn, nxO_ite, cnt' h hm, gtj' _ _ _ h, if_pos (lt1' h), if_pos (lt0' (j := j)), if_pos (lt2' h)]
  rfl
theorem eUk16 (k : KUk16) (hn : k.x46 = (k.x45.length : Int)) (b : B_Uk16) : stepUk16 (putUk16 k b k.x45.length) = .ex (xUk16 k b) := by
  unfold stepUk16 stUk16 putUk16
  dsimp only
  rw [hn, if_neg lt3']
  rfl
theorem iUk16 (k : KUk16) (h : okUk16 k = true) : iter stepUk16 (k.x45).length k = some (FUk16 k) := by
  unfold okUk16 at h
  simp only [Bool.and_eq_true, decide_eq_true_eq] at h
  obtain ⟨h0, h1, h2, h3⟩ := h
  replace h2 := Nat.le_of_ble_eq_true h2
  have e : k = putUk16 k (bUk16 k) 0 := by cases k; dsimp only at h0; subst h0; rfl
  have := iter_scanO (step := stepUk16) k.x45 (putUk16 k) (fUk16 k) (xUk16 k) (bUk16 k) (xUk16 k (bUk16 k)) (fun b j h => sUk16 k h1 h2 b j h) (fun b => eUk16 k h1 b) k.x45.length 0 (bUk16 k) (by simp) (by rw [List.drop_zero]; exact h3)
  rw [List.drop_zero, ← e] at this
  exact this
def gUk16 : LP := fun st K => match uUk16 st with | some k => if okUk16 k = true then (if isLO (oUk16 k) = true then K (.ex 4) (XUk16 (⟨(k.x2), (k.x3), (k.x4)⟩ : EUk16)) else K .ret (XUk16 (getRO (xUk16 k (bUk16 k)) (oUk16 k)))) else none | none => none
theorem okgUk16 : OKL 58 16 gUk16 := okfUk16 (fuel := fun k => (k.x45).length) (ok := okUk16) (F := FUk16) iUk16 fun st K => by
  unfold gUk16
  cases hu : uUk16 st with
  | none => rfl
  | some k =>
    dsimp only
    split
    · unfold FUk16 fxO
      cases isLO (oUk16 k) <;> rfl
    · rfl
structure KUk9 where
  x2 : List GPoint
  x3 : GProgram
  x4 : Bool
  x8 : GDescriptor
  x16 : List GNode
  x17 : Int
  x18 : Int
  x31 : List GParam
  x32 : Int
  x33 : Int
structure EUk9 where
  x2 : List GPoint
  x3 : GProgram
  x4 : Bool
  x16 : List GNode
  x17 : Int
  x18 : Int
def SUk9 (k : KUk9) : St At := { env := [(2, .ptr 0 0), (3, .ptr 1 0), (4, .bool k.x4), (5, .ptr 2 0), (8, .ptr 3 0), (16, .ro 58 k.x16), (17, .int .i64 k.x17), (18, .int .i64 k.x18), (31, .ro 93 k.x31), (32, .int .i64 k.x32), (33, .int .i64 k.x33)], stk := [], hp := [(0, .var [.ro 66 k.x2] false), (1, .var (enc31 k.x3) false), (2, .var [.fn 113 [.ptr 0 0]] false), (3, .var (enc150 k.x8) false)], nx := 4 }
def XUk9 (k : EUk9) : St At := { env := [(2, .ptr 0 0), (3, .ptr 1 0), (4, .bool k.x4), (5, .ptr 2 0), (16, .ro 58 k.x16), (17, .int .i64 k.x17), (18, .int .i64 k.x18)], stk := [], hp := [(0, .var [.ro 66 k.x2] false), (1, .var (enc31 k.x3) false), (2, .var [.fn 113 [.ptr 0 0]] false)], nx := 3 }
def CUk9 : Cfg := { cs := libTw, ks := [((58, 9), [(2, none), (3, none), (4, none), (5, none), (8, none), (16, none), (17, none), (18, none), (31, none), (32, none), (33, none)])], xs := [((58, 9), [(2, none), (3, none), (4, none), (5, none), (16, none), (17, none), (18, none)])], lps := [] }
theorem CUk9_ok : CfgOK CUk9 := { con := libTw_ok }
def stUk9 {α : Type} (k : KUk9) (go : KUk9 → α) (ex ret : EUk9 → α) (no : α) : α :=
  if decide (k.x33 < k.x32) = true then
   if 0 ≤ k.x33 then
    if k.x33 < (↑k.x31.length : Int) then
     if cIb k.x8.params (gt { name := { data := #[] : ByteArray }, value := 0 : GParam } k.x31 k.x33.toNat) = true then
      if (!decide (vIb k.x8.params (gt { name := { data := #[] : ByteArray }, value := 0 : GParam } k.x31 k.x33.toNat) ≥ 0)) = true then
       ret ⟨(k.x2), (k.x3), (true), (k.x16), (k.x17), (k.x18)⟩
      else
       go ⟨(k.x2), (k.x3), (k.x4), (k.x8), (k.x16), (k.x17), (k.x18), (k.x31), (k.x32), (IntKind.i64.wrap (k.x33 + 1))⟩
     else
      no
    else
     no
   else
    no
  else
   ex ⟨(k.x2), (k.x3), (k.x4), (k.x16), (k.x17), (k.x18)⟩
def stepUk9 (k : KUk9) : Nx KUk9 EUk9 := stUk9 k .go .ex .ret .no
theorem BUk9 (k : KUk9) (m : Nat) (R : St At → Option (Res At)) (K : Xit → St At → Option (Res At)) : B CUk9 58 9 (m + 60) (SUk9 k) R K = stUk9 k (fun k => R (SUk9 k)) (fun x => K (.ex 2) (XUk9 x)) (fun x => K .ret (XUk9 x)) none := by kernel_rfl
def uUk9 (st : St At) : Option KUk9 := match st with
  | ⟨[(2, .ptr 0 0), (3, .ptr 1 0), (4, .bool x4), (5, .ptr 2 0), (8, .ptr 3 0), (16, vx16), (17, .int .i64 x17), (18, .int .i64 x18), (31, vx31), (32, .int .i64 x32), (33, .int .i64 x33)], [], [(0, .var [vx2] false), (1, .var wx3 false), (2, .var [.fn 113 [.ptr 0 0]] false), (3, .var wx8 false)], 4⟩ => (match roV 66 vx2, ex31 wx3, ex150 wx8, roV 58 vx16, roV 93 vx31 with | some x2, some x3, some x8, some x16, some x31 => some ⟨x2, x3, x4, x8, x16, x17, x18, x31, x32, x33⟩ | _, _, _, _, _ => none)
  | _ => none
theorem uUk9_spec {st : St At} {k : KUk9} (h : uUk9 st = some k) : st = SUk9 k := by
  unfold uUk9 at h
  split at h
  · split at h
    · rename_i h0 h1 h2 h3 h4
      obtain rfl := Option.some.inj h
      rw [roV_spec h0, ex31_spec h1, ex150_spec h2, roV_spec h3, roV_spec h4]
      rfl
    · cases h
  · cases h
theorem oklUk9 {g : LP} (hg : ∀ st K q, g st K = some q → ∃ k n e, st = SUk9 k ∧ iter stepUk9 n k = some e ∧ e.k 2 XUk9 XUk9 K = some q) : OKL 58 9 g := okl_iter CUk9_ok (S := SUk9) (X := XUk9) (Y := XUk9) (step := stepUk9) (id := 2) (by kernel_rfl) (by kernel_rfl)
  (fun k m R K => by rw [BUk9]; unfold stepUk9 stUk9; simp only [Nx.k_ite]; rfl) (fun k => by kernel_rfl) hg
/-- the contract out of a closed form -/
theorem okfUk9 {g : LP} {fuel : KUk9 → Nat} {ok : KUk9 → Bool} {F : KUk9 → Fx EUk9} (hF : ∀ k, ok k = true → iter stepUk9 (fuel k) k = some (F k)) (hg : ∀ st K, g st K = (match uUk9 st with | some k => if ok k = true then (F k).k 2 XUk9 XUk9 K else none | none => none)) : OKL 58 9 g := oklUk9 fun st K q h => by
  rw [hg] at h
  split at h
  · rename_i k hu
    split at h
    · rename_i hok; exact ⟨k, _, _, uUk9_spec hu, hF k hok, h⟩
    · cases h
  · cases h
abbrev B_Uk9 := Unit
def fUk9 (k : KUk9) (b : B_Uk9) (x : GParam) : Option (B_Uk9 ⊕ EUk9) :=
  if cIb k.x8.params x = true then
   if (!decide (vIb k.x8.params x ≥ 0)) = true then
    some (.inr ⟨(k.x2), (k.x3), (true), (k.x16), (k.x17), (k.x18)⟩)
   else
    some (.inl ())
  else
   none
def xUk9 (k : KUk9) (b : B_Uk9) : EUk9 := ⟨(k.x2), (k.x3), (k.x4), (k.x16), (k.x17), (k.x18)⟩
def putUk9 (k : KUk9) (b : B_Uk9) (j : Nat) : KUk9 := ⟨k.x2, k.x3, k.x4, k.x8, k.x16, k.x17, k.x18, k.x31, k.x32, (j : Int)⟩
def bUk9 (k : KUk9) : B_Uk9 := ()
def oUk9 (k : KUk9) : Option (B_Uk9 ⊕ EUk9) := scanO (fUk9 k) (bUk9 k) k.x31
def okUk9 (k : KUk9) : Bool := decide (k.x33 = 0) && (decide (k.x32 = (k.x31.length : Int)) && (Nat.ble k.x31.length 9223372036854775807 && isOO (oUk9 k)))
def FUk9 (k : KUk9) : Fx EUk9 := fxO (xUk9 k) (bUk9 k) (xUk9 k (bUk9 k)) (oUk9 k)
theorem sUk9 (k : KUk9) (hn : k.x32 = (k.x31.length : Int)) (hm : k.x31.length ≤ 9223372036854775807) (b : B_Uk9) (j : Nat) (h : j < k.x31.length) : stepUk9 (putUk9 k b j) = nxO (fun b' => putUk9 k b' (j + 1)) (fUk9 k b k.x31[j]) := by
  unfold stepUk9 stUk9 fUk9 putUk9
  dsimp only
  simp only [hn, nxO_ite, cnt' h hm, gtj' _ _ _ h, if_pos (lt1' h), if_pos (lt0' (j := j)), if_pos (lt2' h)]
  rfl
theorem eUk9 (k : KUk9) (hn : k.x32 = (k.x31.length : Int)) (b : B_Uk9) : stepUk9 (putUk9 k b k.x31.length) = .ex (xUk9 k b) := by
  unfold stepUk9 stUk9 putUk9
  dsimp only
  rw [hn, if_neg lt3']
  rfl
theorem iUk9 (k : KUk9) (h : okUk9 k = true) : iter stepUk9 (k.x31).length k = some (FUk9 k) := by
  unfold okUk9 at h
  simp only [Bool.and_eq_true, decide_eq_true_eq] at h
  obtain ⟨h0, h1, h2, h3⟩ := h
  replace h2 := Nat.le_of_ble_eq_true h2
  have e : k = putUk9 k (bUk9 k) 0 := by cases k; dsimp only at h0; subst h0; rfl
  have := iter_scanO (step := stepUk9) k.x31 (putUk9 k) (fUk9 k) (xUk9 k) (bUk9 k) (xUk9 k (bUk9 k)) (fun b j h => sUk9 k h1 h2 b j h) (fun b => eUk9 k h1 b) k.x31.length 0 (bUk9 k) (by simp) (by rw [List.drop_zero]; exact h3)
  rw [List.drop_zero, ← e] at this
  exact this
def gUk9 : LP := fun st K => match uUk9 st with | some k => if okUk9 k = true then (if isLO (oUk9 k) = true then K (.ex 2) (XUk9 (⟨(k.x2), (k.x3), (k.x4), (k.x16), (k.x17), (k.x18)⟩ : EUk9)) else K .ret (XUk9 (getRO (xUk9 k (bUk9 k)) (oUk9 k)))) else none | none => none
theorem okgUk9 : OKL 58 9 gUk9 := okfUk9 (fuel := fun k => (k.x31).length) (ok := okUk9) (F := FUk9) iUk9 fun st K => by
  unfold gUk9
  cases hu : uUk9 st with
  | none => rfl
  | some k =>
    dsimp only
    split
    · unfold FUk9 fxO
      cases isLO (oUk9 k) <;> rfl
    · rfl
structure KUk3 where
  x2 : List GPoint
  x3 : GProgram
  x4 : Bool
  x16 : List GNode
  x17 : Int
  x18 : Int
structure EUk3 where
  x2 : List GPoint
  x3 : GProgram
  x4 : Bool
def SUk3 (k : KUk3) : St At := { env := [(2, .ptr 0 0), (3, .ptr 1 0), (4, .bool k.x4), (5, .ptr 2 0), (16, .ro 58 k.x16), (17, .int .i64 k.x17), (18, .int .i64 k.x18)], stk := [], hp := [(0, .var [.ro 66 k.x2] false), (1, .var (enc31 k.x3) false), (2, .var [.fn 113 [.ptr 0 0]] false)], nx := 3 }
def XUk3 (k : EUk3) : St At := { env := [(2, .ptr 0 0), (3, .ptr 1 0), (4, .bool k.x4), (5, .ptr 2 0)], stk := [], hp := [(0, .var [.ro 66 k.x2] false), (1, .var (enc31 k.x3) false), (2, .var [.fn 113 [.ptr 0 0]] false)], nx := 3 }
def CUk3 : Cfg := { cs := libTw, ks := [((58, 3), [(2, none), (3, none), (4, none), (5, none), (16, none), (17, none), (18, none)])] ++ CUk9.ks, xs := [((58, 3), [(2, none), (3, none), (4, none), (5, none)])] ++ CUk9.xs, lps := [((58, 9), gUk9)] }
theorem CUk3_ok : CfgOK CUk3 := { con := libTw_ok, lp := .cons okgUk9 .nil }
def stUk3 {α : Type} (k : KUk3) (go : KUk3 → α) (ex ret : EUk3 → α) (no : α) : α :=
  if decide (k.x18 < k.x17) = true then
   if 0 ≤ k.x18 then
    if k.x18 < (↑k.x16.length : Int) then
     if ((gt { name := { data := #[] : ByteArray }, block := { data := #[] : ByteArray }, params := [], inputs := [] : GNode } k.x16 k.x18.toNat).block.size + 1).blt 4611686018427387904 = true then
      if (!decide (erD (findD (gt { name := { data := #[] : ByteArray }, block := { data := #[] : ByteArray }, params := [], inputs := [] : GNode } k.x16 k.x18.toNat).block libL) = 0)) = true then
       ret ⟨(k.x2), (k.x3), (true)⟩
      else
       if okUk9 { x2 := k.x2, x3 := k.x3, x4 := k.x4, x8 := orD (findD (gt { name := { data := #[] : ByteArray }, block := { data := #[] : ByteArray }, params := [], inputs := [] : GNode } k.x16 k.x18.toNat).block libL), x16 := k.x16, x17 := k.x17, x18 := k.x18, x31 := (gt { name := { data := #[] : ByteArray }, block := { data := #[] : ByteArray }, params := [], inputs := [] : GNode } k.x16 k.x18.toNat).params, x32 := (↑(gt { name := { data := #[] : ByteArray }, block := { data := #[] : ByteArray }, params := [], inputs := [] : GNode } k.x16 k.x18.toNat).params.length : Int), x33 := 0 : KUk9 } = true then
        if isLO (oUk9 { x2 := k.x2, x3 := k.x3, x4 := k.x4, x8 := orD (findD (gt { name := { data := #[] : ByteArray }, block := { data := #[] : ByteArray }, params := [], inputs := [] : GNode } k.x16 k.x18.toNat).block libL), x16 := k.x16, x17 := k.x17, x18 := k.x18, x31 := (gt { name := { data := #[] : ByteArray }, block := { data := #[] : ByteArray }, params := [], inputs := [] : GNode } k.x16 k.x18.toNat).params, x32 := (↑(gt { name := { data := #[] : ByteArray }, block := { data := #[] : ByteArray }, params := [], inputs := [] : GNode } k.x16 k.x18.toNat).params.length : Int), x33 := 0 : KUk9 }) = true then
         go ⟨(k.x2), (k.x3), (k.x4), (k.x16), (k.x17), (IntKind.i64.wrap (k.x18 + 1))⟩
        else
         ret ⟨((getRO (xUk9 { x2 := k.x2, x3 := k.x3, x4 := k.x4, x8 := orD (findD (gt { name := { data := #[] : ByteArray }, block := { data := #[] : ByteArray }, params := [], inputs := [] : GNode } k.x16 k.x18.toNat).block libL), x16 := k.x16, x17 := k.x17, x18 := k.x18, x31 := (gt { name := { data := #[] : ByteArray }, block := { data := #[] : ByteArray }, params := [], inputs := [] : GNode } k.x16 k.x18.toNat).params, x32 := (↑(gt { name := { data := #[] : ByteArray }, block := { data := #[] : ByteArray }, params := [], inputs := [] : GNode } k.x16 k.x18.toNat).params.length : Int), x33 := 0 : KUk9 } (bUk9 { x2 := k.x2, x3 := k.x3, x4 := k.x4, x8 := orD (findD (gt { name := { data := #[] : ByteArray }, block := { data := #[] : ByteArray }, params := [], inputs := [] : GNode } k.x16 k.x18.toNat).block libL), x16 := k.x16, x17 := k.x17, x18 := k.x18, x31 := (gt { name := { data := #[] : ByteArray }, block := { data := #[] : ByteArray }, params := [], inputs := [] : GNode } k.x16 k.x18.toNat).params, x32 := (↑(gt { name := { data := #[] : ByteArray }, block := { data := #[] : ByteArray }, params := [], inputs := [] : GNode } k.x16 k.x18.toNat).params.length : Int), x33 := 0 : KUk9 })) (oUk9 { x2 := k.x2, x3 := k.x3, x4 := k.x4, x8 := orD (findD (gt { name := { data := #[] : ByteArray }, block := { data := #[] : ByteArray }, params := [], inputs := [] : GNode } k.x16 k.x18.toNat).block libL), x16 := k.x16, x17 := k.x17, x18 := k.x18, x31 := (gt { name := { data := #[] : ByteArray }, block := { data := #[] : ByteArray }, params := [], inputs := [] : GNode } k.x16 k.x18.toNat).params, x32 := (↑(gt { name := { data := #[] : ByteArray }, block := { data := #[] : ByteArray }, params := [], inputs := [] : GNode } k.x16 k.x18.toNat).params.length : Int), x33 := 0 : KUk9 })).x2), ((getRO (xUk9 { x2 := k.x2, x3 := k.x3, x4 := k.x4, x8 := orD (findD (gt { name := { data := #[] : ByteArray }, block := { data := #[] : ByteArray }, params := [], inputs := [] : GNode } k.x16 k.x18.toNat).block libL), x16 := k.x16, x17 := k.x17, x18 := k.x18, x31 := (gt { name := { data := #[] : ByteArray }, block := { data := #[] : ByteArray }, params := [], inputs := [] : GNode } k.x16 k.x18.toNat).params, x32 := (↑(gt { name := { data := #[] : ByteArray }, block := { data := #[] : ByteArray }, params := [], inputs := [] : GNode } k.x16 k.x18.toNat).params.length : Int), x33 := 0 : KUk9 } (bUk9 { x2 := k.x2, x3 := k.x3, x4 := k.x4, x8 := orD (findD (gt { name := { data := #[] : ByteArray }, block := { data := #[] : ByteArray }, params := [], inputs := [] : GNode } k.x16 k.x18.toNat).block libL), x16 := k.x16, x17 := k.x17, x18 := k.x18, x31 := (gt { name := { data := #[] : ByteArray }, block := { data := #[] : ByteArray }, params := [], inputs := [] : GNode } k.x16 k.x18.toNat).params, x32 := (↑(gt { name := { data := #[] : ByteArray }, block := { data := #[] : ByteArray }, params := [], inputs := [] : GNode } k.x16 k.x18.toNat).params.length : Int), x33 := 0 : KUk9 })) (oUk9 { x2 := k.x2, x3 := k.x3, x4 := k.x4, x8 := orD (findD (gt { name := { data := #[] : ByteArray }, block := { data := #[] : ByteArray }, params := [], inputs := [] : GNode } k.x16 k.x18.toNat).block libL), x16 := k.x16, x17 := k.x17, x18 := k.x18, x31 := (gt { name := { data := #[] : ByteArray }, block := { data := #[] : ByteArray }, params := [], inputs := [] : GNode } k.x16 k.x18.toNat).params, x32 := (↑(gt { name := { data := #[] : ByteArray }, block := { data := #[] : ByteArray }, params := [], inputs := [] : GNode } k.x16 k.x18.toNat).params.length : Int), x33 := 0 : KUk9 })).x3), ((getRO (xUk9 { x2 := k.x2, x3 := k.x3, x4 := k.x4, x8 := orD (findD (gt { name := { data := #[] : ByteArray }, block := { data := #[] : ByteArray }, params := [], inputs := [] : GNode } k.x16 k.x18.toNat).block libL), x16 := k.x16, x17 := k.x17, x18 := k.x18, x31 := (gt { name := { data := #[] : ByteArray }, block := { data := #[] : ByteArray }, params := [], inputs := [] : GNode } k.x16 k.x18.toNat).params, x32 := (↑(gt { name := { data := #[] : ByteArray }, block := { data := #[] : ByteArray }, params := [], inputs := [] : GNode } k.x16 k.x18.toNat).params.length : Int), x33 := 0 : KUk9 } (bUk9 { x2 := k.x2, x3 := k.x3, x4 := k.x4, x8 := orD (findD (gt { name := { data := #[] : ByteArray }, block := { data := #[] : ByteArray }, params := [], inputs := [] : GNode } k.x16 k.x18.toNat).block libL), x16 := k.x16, x17 := k.x17, x18 := k.x18, x31 := (gt { name := { data := #[] : ByteArray }, block := { data := #[] : ByteArray }, params := [], inputs := [] : GNode } k.x16 k.x18.toNat).params, x32 := (↑(gt { name := { data := #[] : ByteArray }, block := { data := #[] : ByteArray }, params := [], inputs := [] : GNode } k.x16 k.x18.toNat).params.length : Int), x33 := 0 : KUk9 })) (oUk9 { x2 := k.x2, x3 := k.x3, x4 := k.x4, x8 := orD (findD (gt { name := { data := #[] : ByteArray }, block := { data := #[] : ByteArray }, params := [], inputs := [] : GNode } k.x16 k.x18.toNat).block libL), x16 := k.x16, x17 := k.x17, x18 := k.x18, x31 := (gt { name := { data := #[] : ByteArray }, block := { data := #[] : ByteArray }, params := [], inputs := [] : GNode } k.x16 k.x18.toNat).params, x32 := (↑(gt { name := { data := #[] : ByteArray }, block := { data := #[] : ByteArray }, params := [], inputs := [] : GNode } k.x16 k.x18.toNat).params.length : Int), x33 := 0 : KUk9 })).x4)⟩
       else
        no
     else
      no
    else
     no
   else
    no
  else
   ex ⟨(k.x2), (k.x3), (k.x4)⟩
def stepUk3 (k : KUk3) : Nx KUk3 EUk3 := stUk3 k .go .ex .ret .no
theorem BUk3 (k : KUk3) (m : Nat) (R : St At → Option (Res At)) (K : Xit → St At → Option (Res At)) : B CUk3 58 3 (m + 60) (SUk3 k) R K = stUk3 k (fun k => R (SUk3 k)) (fun x => K (.ex 0) (XUk3 x)) (fun x => K .ret (XUk3 x)) none := by kernel_rfl
def uUk3 (st : St At) : Option KUk3 := match st with
  | ⟨[(2, .ptr 0 0), (3, .ptr 1 0), (4, .bool x4), (5, .ptr 2 0), (16, vx16), (17, .int .i64 x17), (18, .int .i64 x18)], [], [(0, .var [vx2] false), (1, .var wx3 false), (2, .var [.fn 113 [.ptr 0 0]] false)], 3⟩ => (match roV 66 vx2, ex31 wx3, roV 58 vx16 with | some x2, some x3, some x16 => some ⟨x2, x3, x4, x16, x17, x18⟩ | _, _, _ => none)
  | _ => none
theorem uUk3_spec {st : St At} {k : KUk3} (h : uUk3 st = some k) : st = SUk3 k := by
  unfold uUk3 at h
  split at h
  · split at h
    · rename_i h0 h1 h2
      obtain rfl := Option.some.inj h
      rw [roV_spec h0, ex31_spec h1, roV_spec h2]
      rfl
    · cases h
  · cases h
theorem oklUk3 {g : LP} (hg : ∀ st K q, g st K = some q → ∃ k n e, st = SUk3 k ∧ iter stepUk3 n k = some e ∧ e.k 0 XUk3 XUk3 K = some q) : OKL 58 3 g := okl_iter CUk3_ok (S := SUk3) (X := XUk3) (Y := XUk3) (step := stepUk3) (id := 0) (by kernel_rfl) (by kernel_rfl)
  (fun k m R K => by rw [BUk3]; unfold stepUk3 stUk3; simp only [Nx.k_ite]; rfl) (fun k => by kernel_rfl) hg
/-- the contract out of a closed form -/
theorem okfUk3 {g : LP} {fuel : KUk3 → Nat} {ok : KUk3 → Bool} {F : KUk3 → Fx EUk3} (hF : ∀ k, ok k = true → iter stepUk3 (fuel k) k = some (F k)) (hg : ∀ st K, g st K = (match uUk3 st with | some k => if ok k = true then (F k).k 0 XUk3 XUk3 K else none | none => none)) : OKL 58 3 g := oklUk3 fun st K q h => by
  rw [hg] at h
  split at h
  · rename_i k hu
    split at h
    · rename_i hok; exact ⟨k, _, _, uUk3_spec hu, hF k hok, h⟩
    · cases h
  · cases h
abbrev B_Uk3 := Unit
def fUk3 (k : KUk3) (b : B_Uk3) (p : GNode × Nat) : Option (B_Uk3 ⊕ EUk3) :=
  if (p.1.block.size + 1).blt 4611686018427387904 = true then
   if (!decide (erD (findD p.1.block libL) = 0)) = true then
    some (.inr ⟨(k.x2), (k.x3), (true)⟩)
   else
    if okUk9 { x2 := k.x2, x3 := k.x3, x4 := k.x4, x8 := orD (findD p.1.block libL), x16 := k.x16, x17 := k.x17, x18 := (p.2 : Int), x31 := p.1.params, x32 := (↑p.1.params.length : Int), x33 := 0 : KUk9 } = true then
     if isLO (oUk9 { x2 := k.x2, x3 := k.x3, x4 := k.x4, x8 := orD (findD p.1.block libL), x16 := k.x16, x17 := k.x17, x18 := (p.2 : Int), x31 := p.1.params, x32 := (↑p.1.params.length : Int), x33 := 0 : KUk9 }) = true then
      some (.inl ())
     else
      some (.inr ⟨((getRO (xUk9 { x2 := k.x2, x3 := k.x3, x4 := k.x4, x8 := orD (findD p.1.block libL), x16 := k.x16, x17 := k.x17, x18 := (p.2 : Int), x31 := p.1.params, x32 := (↑p.1.params.length : Int), x33 := 0 : KUk9 } (bUk9 { x2 := k.x2, x3 := k.x3, x4 := k.x4, x8 := orD (findD p.1.block libL), x16 := k.x16, x17 := k.x17, x18 := (p.2 : Int), x31 := p.1.params, x32 := (↑p.1.params.length : Int), x33 := 0 : KUk9 })) (oUk9 { x2 := k.x2, x3 := k.x3, x4 := k.x4, x8 := orD (findD p.1.block libL), x16 := k.x16, x17 := k.x17, x18 := (p.2 : Int), x31 := p.1.params, x32 := (↑p.1.params.length : Int), x33 := 0 : KUk9 })).x2), ((getRO (xUk9 { x2 := k.x2, x3 := k.x3, x4 := k.x4, x8 := orD (findD p.1.block libL), x16 := k.x16, x17 := k.x17, x18 := (p.2 : Int), x31 := p.1.params, x32 := (↑p.1.params.length : Int), x33 := 0 : KUk9 } (bUk9 { x2 := k.x2, x3 := k.x3, x4 := k.x4, x8 := orD (findD p.1.block libL), x16 := k.x16, x17 := k.x17, x18 := (p.2 : Int), x31 := p.1.params, x32 := (↑p.1.params.length : Int), x33 := 0 : KUk9 })) (oUk9 { x2 := k.x2, x3 := k.x3, x4 := k.x4, x8 := orD (findD p.1.block libL), x16 := k.x16, x17 := k.x17, x18 := (p.2 : Int), x31 := p.1.params, x32 := (↑p.1.params.length : Int), x33 := 0 : KUk9 })).x3), ((getRO (xUk9 { x2 := k.x2, x3 := k.x3, x4 := k.x4, x8 := orD (findD p.1.block libL), x16 := k.x16, x17 := k.x17, x18 := (p.2 : Int), x31 := p.1.params, x32 := (↑p.1.params.length : Int), x33 := 0 : KUk9 } (bUk9 { x2 := k.x2, x3 := k.x3, x4 := k.x4, x8 := orD (findD p.1.block libL), x16 := k.x16, x17 := k.x17, x18 := (p.2 : Int), x31 := p.1.params, x32 := (↑p.1.params.length : Int), x33 := 0 : KUk9 })) (oUk9 { x2 := k.x2, x3 := k.x3, x4 := k.x4, x8 := orD (findD p.1.block libL), x16 := k.x16, x17 := k.x17, x18 := (p.2 : Int), x31 := p.1.params, x32 := (↑p.1.params.length : Int), x33 := 0 : KUk9 })).x4)⟩)
    else
     none
  else
   none
def xUk3 (k : KUk3) (b : B_Uk3) : EUk3 := ⟨(k.x2), (k.x3), (k.x4)⟩
def putUk3 (k : KUk3) (b : B_Uk3) (j : Nat) : KUk3 := ⟨k.x2, k.x3, k.x4, k.x16, k.x17, (j : Int)⟩
def bUk3 (k : KUk3) : B_Uk3 := ()
def oUk3 (k : KUk3) : Option (B_Uk3 ⊕ EUk3) := scanO (fUk3 k) (bUk3 k) (k.x16.zipIdx)
def okUk3 (k : KUk3) : Bool := decide (k.x18 = 0) && (decide (k.x17 = (k.x16.length : Int)) && (Nat.ble k.x16.length 9223372036854775807 && isOO (oUk3 k)))
def FUk3 (k : KUk3) : Fx EUk3 := fxO (xUk3 k) (bUk3 k) (xUk3 k (bUk3 k)) (oUk3 k)
theorem sUk3 (k : KUk3) (hn : k.x17 = (k.x16.length : Int)) (hm : k.x16.length ≤ 9223372036854775807) (b : B_Uk3) (j : Nat) (h : j < k.x16.length) : stepUk3 (putUk3 k b j) = nxO (fun b' => putUk3 k b' (j + 1)) (fUk3 k b (k.x16[j], j)) := by
  unfold stepUk3 stUk3 fUk3 putUk3
  dsimp only
  simp only [hn, nxO_ite, cnt' h hm, gtj' _ _ _ h, if_pos (lt1' h), if_pos (lt0' (j := j)), if_pos (lt2' h)]
  rfl
theorem eUk3 (k : KUk3) (hn : k.x17 = (k.x16.length : Int)) (b : B_Uk3) : stepUk3 (putUk3 k b k.x16.length) = .ex (xUk3 k b) := by
  unfold stepUk3 stUk3 putUk3
  dsimp only
  rw [hn, if_neg lt3']
  rfl
theorem iUk3 (k : KUk3) (h : okUk3 k = true) : iter stepUk3 (k.x16.zipIdx).length k = some (FUk3 k) := by
  unfold okUk3 at h
  simp only [Bool.and_eq_true, decide_eq_true_eq] at h
  obtain ⟨h0, h1, h2, h3⟩ := h
  replace h2 := Nat.le_of_ble_eq_true h2
  have e : k = putUk3 k (bUk3 k) 0 := by cases k; dsimp only at h0; subst h0; rfl
  have := iter_scanO (step := stepUk3) (k.x16.zipIdx) (putUk3 k) (fUk3 k) (xUk3 k) (bUk3 k) (xUk3 k (bUk3 k)) (fun b j h => (by rw [show (k.x16.zipIdx)[j] = (k.x16[j]'(by simpa using h), j) by simp]; exact sUk3 k h1 h2 b j (by simpa using h))) (fun b => (by rw [show (k.x16.zipIdx).length = k.x16.length by simp]; exact eUk3 k h1 b)) (k.x16.zipIdx).length 0 (bUk3 k) (by simp) (by rw [List.drop_zero]; exact h3)
  rw [List.drop_zero, ← e] at this
  exact this
def gUk3 : LP := fun st K => match uUk3 st with | some k => if okUk3 k = true then (if isLO (oUk3 k) = true then K (.ex 0) (XUk3 (⟨(k.x2), (k.x3), (k.x4)⟩ : EUk3)) else K .ret (XUk3 (getRO (xUk3 k (bUk3 k)) (oUk3 k)))) else none | none => none
theorem okgUk3 : OKL 58 3 gUk3 := okfUk3 (fuel := fun k => (k.x16.zipIdx).length) (ok := okUk3) (F := FUk3) iUk3 fun st K => by
  unfold gUk3
  cases hu : uUk3 st with
  | none => rfl
  | some k =>
    dsimp only
    split
    · unfold FUk3 fxO
      cases isLO (oUk3 k) <;> rfl
    · rfl
def CUk : Cfg := { cs := libTw, ks := CUk16.ks ++ CUk3.ks, xs := CUk16.xs ++ CUk3.xs, lps := [((58, 16), gUk16), ((58, 3), gUk3)] }
theorem CUk_ok : CfgOK CUk := { con := libTw_ok, lp := .cons okgUk16 (.cons okgUk3 .nil) }
def RUk (a0 : List GPoint) (a1 : GProgram) : Option (Res At) :=
  if okUk3 { x2 := a0, x3 := a1, x4 := false, x16 := a1.nodes, x17 := (↑a1.nodes.length : Int), x18 := 0 : KUk3 } = true then
   if isLO (oUk3 { x2 := a0, x3 := a1, x4 := false, x16 := a1.nodes, x17 := (↑a1.nodes.length : Int), x18 := 0 : KUk3 }) = true then
    if cLk a1 = true then
     if okUk16 { x2 := a0, x3 := a1, x4 := false, x45 := vLk a1, x46 := (↑(vLk a1).length : Int), x47 := 0 : KUk16 } = true then
      if isLO (oUk16 { x2 := a0, x3 := a1, x4 := false, x45 := vLk a1, x46 := (↑(vLk a1).length : Int), x47 := 0 : KUk16 }) = true then
       if cId2 a1.drives a0 = true then
        some ((.bool (decide (vId2 a1.drives a0 ≥ 0))), [])
       else
        none
      else
       some ((.bool ((getRO (xUk16 { x2 := a0, x3 := a1, x4 := false, x45 := vLk a1, x46 := (↑(vLk a1).length : Int), x47 := 0 : KUk16 } (bUk16 { x2 := a0, x3 := a1, x4 := false, x45 := vLk a1, x46 := (↑(vLk a1).length : Int), x47 := 0 : KUk16 })) (oUk16 { x2 := a0, x3 := a1, x4 := false, x45 := vLk a1, x46 := (↑(vLk a1).length : Int), x47 := 0 : KUk16 })).x4)), [])
     else
      none
    else
     none
   else
    some ((.bool ((getRO (xUk3 { x2 := a0, x3 := a1, x4 := false, x16 := a1.nodes, x17 := (↑a1.nodes.length : Int), x18 := 0 : KUk3 } (bUk3 { x2 := a0, x3 := a1, x4 := false, x16 := a1.nodes, x17 := (↑a1.nodes.length : Int), x18 := 0 : KUk3 })) (oUk3 { x2 := a0, x3 := a1, x4 := false, x16 := a1.nodes, x17 := (↑a1.nodes.length : Int), x18 := 0 : KUk3 })).x4)), [])
  else
   none
theorem run_RUk (a0 : List GPoint) (a1 : GProgram) : runF CUk 80 58 [.ro 66 a0, .agg (enc31 a1)] = RUk a0 a1 := by kernel_rfl
def oUk (a0 : List GPoint) (a1 : GProgram) : Option (Res At) := crR [none] (RUk a0 a1)
def vUk (a0 : List GPoint) (a1 : GProgram) : Bool := valO rB false (oUk a0 a1)
def cUk (a0 : List GPoint) (a1 : GProgram) : Bool := okO rB (oUk a0 a1)
def conUk : CON := on2 (rR 66) (rA ex31 enc31 fun _ _ h => ex31_spec h) fun a0 a1 => some (cUk a0 a1, (.bool (vUk a0 a1), []))
theorem okUk : OK 58 conUk := okc2 CUk_ok (n := 80) (ts := [none]) (a := (rR 66)) (b := (rA ex31 enc31 fun _ _ h => ex31_spec h)) (r := rB) (d := false) (R := fun a0 a1 => RUk a0 a1) (by kernel_rfl) fun a0 a1 => run_RUk a0 a1
def libUk : List (Nat × CON) := (58, conUk) :: libTw
theorem libUk_ok : AllOK libUk := .cons okUk libTw_ok
end
end Go.Proofs.YtpbpebjfglfjfaaGreatDoor.X
