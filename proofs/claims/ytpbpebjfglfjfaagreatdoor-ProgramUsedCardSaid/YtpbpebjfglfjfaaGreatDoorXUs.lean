/-
  Used.
-/
import Derived.Test.YtpbpebjfglfjfaaGreatDoorXQe
import Derived.Test.YtpbpebjfglfjfaaGreatDoorXY
set_option autoImplicit false
set_option linter.unusedVariables false
set_option linter.unusedSimpArgs false
set_option maxRecDepth 100000
namespace Go.Proofs.YtpbpebjfglfjfaaGreatDoor.X
open Go Go.Proofs Go.RowKit Go.Proofs.YtpbpebjfglfjfaaGreatDoor
noncomputable section
def libCl : List (Nat × CON) := (132, conClone 93) :: (133, conClone 55) :: (130, conClone 58) :: (131, conClone 89) :: libAw
def mlook3_4 (s : Int) (m : List (Int × Bool)) : Option Bool := tlook TT Tryz.prog 3 4 s m
def mupd3_4 (s : Int) (v : Bool) (m : List (Int × Bool)) : List (Int × Bool) := tupd TT Tryz.prog 3 4 s v m
theorem libCl_ok : AllOK libCl := .cons okClonePa (.cons okCloneLi (.cons okCloneNo (.cons okCloneDr libAw_ok)))
structure KCp3 where
  x1 : GProgram
  x14 : Int
  x15 : Int
structure ECp3 where
  x1 : GProgram
def SCp3 (k : KCp3) : St At := { env := [(1, .ptr 0 0), (2, .ptr 3 0), (14, .int .i64 k.x14), (15, .int .i64 k.x15)], stk := [], hp := [(0, .var [.str k.x1.name, .int .i64 k.x1.period, .own 1, .own 2] false), (1, .row 58 k.x1.nodes false), (2, .row 89 k.x1.drives false), (3, .var [.str ⟨⟨[]⟩⟩, .int .i64 0, .nils, .nils] false)], nx := 4 }
def XCp3 (k : ECp3) : St At := { env := [(1, .ptr 0 0), (2, .ptr 3 0)], stk := [], hp := [(0, .var [.str k.x1.name, .int .i64 k.x1.period, .own 1, .own 2] false), (1, .row 58 k.x1.nodes false), (2, .row 89 k.x1.drives false), (3, .var [.str ⟨⟨[]⟩⟩, .int .i64 0, .nils, .nils] false)], nx := 4 }
def CCp3 : Cfg := { cs := libCl, ks := [((70, 3), [(1, none), (2, none), (14, none), (15, none)])], xs := [((70, 3), [(1, none), (2, none)])], lps := [] }
theorem CCp3_ok : CfgOK CCp3 := { con := libCl_ok }
def stCp3 {α : Type} (k : KCp3) (go : KCp3 → α) (ex ret : ECp3 → α) (no : α) : α :=
  if decide (k.x15 < k.x14) = true then
   if 0 ≤ k.x15 then
    if k.x15 < (↑k.x1.nodes.length : Int) then
     if (gt { name := { data := #[] : ByteArray }, block := { data := #[] : ByteArray }, params := [], inputs := [] : GNode } k.x1.nodes k.x15.toNat).params.length.blt 16777216 = true then
      if 0 ≤ k.x15 then
       if k.x15 < (↑k.x1.nodes.length : Int) then
        if (gt { name := { data := #[] : ByteArray }, block := { data := #[] : ByteArray }, params := [], inputs := [] : GNode } k.x1.nodes k.x15.toNat).inputs.length.blt 16777216 = true then
         if 0 ≤ k.x15 then
          if k.x15 < (↑k.x1.nodes.length : Int) then
           if 0 ≤ k.x15 then
            if k.x15 < (↑(k.x1.nodes.set k.x15.toNat (gt { name := { data := #[] : ByteArray }, block := { data := #[] : ByteArray }, params := [], inputs := [] : GNode } k.x1.nodes k.x15.toNat)).length : Int) then
             go ⟨(⟨(k.x1.name), (k.x1.period), ((k.x1.nodes.set k.x15.toNat (gt { name := { data := #[] : ByteArray }, block := { data := #[] : ByteArray }, params := [], inputs := [] : GNode } k.x1.nodes k.x15.toNat)).set k.x15.toNat { name := (gt { name := { data := #[] : ByteArray }, block := { data := #[] : ByteArray }, params := [], inputs := [] : GNode } (k.x1.nodes.set k.x15.toNat (gt { name := { data := #[] : ByteArray }, block := { data := #[] : ByteArray }, params := [], inputs := [] : GNode } k.x1.nodes k.x15.toNat)) k.x15.toNat).name, block := (gt { name := { data := #[] : ByteArray }, block := { data := #[] : ByteArray }, params := [], inputs := [] : GNode } (k.x1.nodes.set k.x15.toNat (gt { name := { data := #[] : ByteArray }, block := { data := #[] : ByteArray }, params := [], inputs := [] : GNode } k.x1.nodes k.x15.toNat)) k.x15.toNat).block, params := (gt { name := { data := #[] : ByteArray }, block := { data := #[] : ByteArray }, params := [], inputs := [] : GNode } (k.x1.nodes.set k.x15.toNat (gt { name := { data := #[] : ByteArray }, block := { data := #[] : ByteArray }, params := [], inputs := [] : GNode } k.x1.nodes k.x15.toNat)) k.x15.toNat).params, inputs := (gt { name := { data := #[] : ByteArray }, block := { data := #[] : ByteArray }, params := [], inputs := [] : GNode } k.x1.nodes k.x15.toNat).inputs : GNode }), (k.x1.drives)⟩ : GProgram), (k.x14), (IntKind.i64.wrap (k.x15 + 1))⟩
            else
             no
           else
            no
          else
           no
         else
          no
        else
         no
       else
        no
      else
       no
     else
      no
    else
     no
   else
    no
  else
   ex ⟨(k.x1)⟩
def stepCp3 (k : KCp3) : Nx KCp3 ECp3 := stCp3 k .go .ex .ret .no
theorem BCp3 (k : KCp3) (m : Nat) (R : St At → Option (Res At)) (K : Xit → St At → Option (Res At)) : B CCp3 70 3 (m + 60) (SCp3 k) R K = stCp3 k (fun k => R (SCp3 k)) (fun x => K (.ex 0) (XCp3 x)) (fun x => K .ret (XCp3 x)) none := by kernel_rfl
def uCp3 (st : St At) : Option KCp3 := match st with
  | ⟨[(1, .ptr 0 0), (2, .ptr 3 0), (14, .int .i64 x14), (15, .int .i64 x15)], [], [(0, .var [.str x1_0, .int .i64 x1_1, .own 1, .own 2] false), (1, bx1_2), (2, bx1_3), (3, .var [.str ⟨⟨[]⟩⟩, .int .i64 0, .nils, .nils] false)], 4⟩ => (match rowB 58 bx1_2, rowB 89 bx1_3 with | some x1_2, some x1_3 => some ⟨⟨x1_0, x1_1, x1_2, x1_3⟩, x14, x15⟩ | _, _ => none)
  | _ => none
theorem uCp3_spec {st : St At} {k : KCp3} (h : uCp3 st = some k) : st = SCp3 k := by
  unfold uCp3 at h
  split at h
  · split at h
    · rename_i h0 h1
      obtain rfl := Option.some.inj h
      rw [rowB_spec h0, rowB_spec h1]
      rfl
    · cases h
  · cases h
theorem oklCp3 {g : LP} (hg : ∀ st K q, g st K = some q → ∃ k n e, st = SCp3 k ∧ iter stepCp3 n k = some e ∧ e.k 0 XCp3 XCp3 K = some q) : OKL 70 3 g := okl_iter CCp3_ok (S := SCp3) (X := XCp3) (Y := XCp3) (step := stepCp3) (id := 0) (by kernel_rfl) (by kernel_rfl)
  (fun k m R K => by rw [BCp3]; unfold stepCp3 stCp3; simp only [Nx.k_ite]; rfl) (fun k => by kernel_rfl) hg
theorem okfCp3 {g : LP} {fuel : KCp3 → Nat} {ok : KCp3 → Bool} {F : KCp3 → Fx ECp3} (hF : ∀ k, ok k = true → iter stepCp3 (fuel k) k = some (F k)) (hg : ∀ st K, g st K = (match uCp3 st with | some k => if ok k = true then (F k).k 0 XCp3 XCp3 K else none | none => none)) : OKL 70 3 g := oklCp3 fun st K q h => by
  rw [hg] at h
  split at h
  · rename_i k hu
    split at h
    · rename_i hok; exact ⟨k, _, _, uCp3_spec hu, hF k hok, h⟩
    · cases h
  · cases h
structure B_Cp3 where
  x1 : GProgram
  x15 : Int
structure P_Cp3 where
  x1 : GProgram
structure Q_Cp3 where
  x1 : GProgram
def putCp3 (k : KCp3) (b : B_Cp3) : KCp3 := ⟨b.x1, k.x14, b.x15⟩
def bCp3 (k : KCp3) : B_Cp3 := ⟨k.x1, k.x15⟩
def xeCp3 (k : KCp3) (e : P_Cp3) : ECp3 := ⟨e.x1⟩
def xrCp3 (k : KCp3) (e : Q_Cp3) : ECp3 := ⟨e.x1⟩
def sCp3 (k : KCp3) (b : B_Cp3) : Nx2 B_Cp3 P_Cp3 Q_Cp3 := stCp3 (putCp3 k b) (fun k => .go ⟨k.x1, k.x15⟩) (fun k => .ex ⟨k.x1⟩) (fun k => .ret ⟨k.x1⟩) .no
def iCp3 (k : KCp3) : Option (P_Cp3 ⊕ Q_Cp3) := iter2 (sCp3 k) (k.x1.nodes.length) (bCp3 k)
def okCp3 (k : KCp3) : Bool := isO (iCp3 k)
def FCp3 (k : KCp3) : Fx ECp3 := if isLO (iCp3 k) = true then .ex (xeCp3 k (getLO ⟨k.x1⟩ (iCp3 k))) else .ret (xrCp3 k (getRO ⟨k.x1⟩ (iCp3 k)))
theorem hCp3 (k : KCp3) (b : B_Cp3) : stepCp3 (putCp3 k b) = (sCp3 k b).up (putCp3 k) (xeCp3 k) (xrCp3 k) := by
  unfold stepCp3 sCp3 stCp3 putCp3
  dsimp only
  simp only [Nx2.up_ite]
  rfl
theorem iCp3_ok (k : KCp3) (h : okCp3 k = true) : iter stepCp3 (k.x1.nodes.length) k = some (FCp3 k) := iter2_ok (bCp3 k) (hCp3 k) h
def gCp3 : LP := fun st K => match uCp3 st with | some k => if okCp3 k = true then (if isLO (iCp3 k) = true then K (.ex 0) (XCp3 (⟨(getLO ⟨k.x1⟩ (iCp3 k)).x1⟩ : ECp3)) else K .ret (XCp3 (⟨(getRO ⟨k.x1⟩ (iCp3 k)).x1⟩ : ECp3))) else none | none => none
theorem okgCp3 : OKL 70 3 gCp3 := okfCp3 (fuel := fun k => k.x1.nodes.length) (ok := okCp3) (F := FCp3) iCp3_ok fun st K => by
  unfold gCp3
  cases hu : uCp3 st with
  | none => rfl
  | some k =>
    dsimp only
    split
    · unfold FCp3
      cases isLO (iCp3 k) <;> rfl
    · rfl
def CCp : Cfg := { cs := libCl, ks := CCp3.ks, xs := CCp3.xs, lps := [((70, 3), gCp3)] }
theorem CCp_ok : CfgOK CCp := { con := libCl_ok, lp := .cons okgCp3 .nil }
def RCp (a0 : GProgram) : Option (Res At) :=
  if a0.nodes.length.blt 16777216 = true then
   if a0.drives.length.blt 16777216 = true then
    if okCp3 { x1 := a0, x14 := (↑a0.nodes.length : Int), x15 := 0 : KCp3 } = true then
     if isLO (iCp3 { x1 := a0, x14 := (↑a0.nodes.length : Int), x15 := 0 : KCp3 }) = true then
      some ((.agg [(.str ((getLO { x1 := a0 : P_Cp3 } (iCp3 { x1 := a0, x14 := (↑a0.nodes.length : Int), x15 := 0 : KCp3 })).x1.name)), (.int .i64 ((getLO { x1 := a0 : P_Cp3 } (iCp3 { x1 := a0, x14 := (↑a0.nodes.length : Int), x15 := 0 : KCp3 })).x1.period)), (.own 0), (.own 1)]), [(0, (.row 58 ((getLO { x1 := a0 : P_Cp3 } (iCp3 { x1 := a0, x14 := (↑a0.nodes.length : Int), x15 := 0 : KCp3 })).x1.nodes) false)), (1, (.row 89 ((getLO { x1 := a0 : P_Cp3 } (iCp3 { x1 := a0, x14 := (↑a0.nodes.length : Int), x15 := 0 : KCp3 })).x1.drives) false))])
     else
      some ((.agg [(.str ⟨#[]⟩), (.int .i64 0), .nils, .nils]), [])
    else
     none
   else
    none
  else
   none
theorem run_RCp (a0 : GProgram) : runF CCp 80 70 [.agg (enc31 a0)] = RCp a0 := by kernel_rfl
def oCp (a0 : GProgram) : Option (Res At) := crR [some 31] (RCp a0)
def vCp (a0 : GProgram) : GProgram := valO (rA ex31 enc31 fun _ _ h => ex31_spec h) ((ptT 31).d) (oCp a0)
def cCp (a0 : GProgram) : Bool := okO (rA ex31 enc31 fun _ _ h => ex31_spec h) (oCp a0)
def conCp : CON := on1 (rA ex31 enc31 fun _ _ h => ex31_spec h) fun a0 => some (cCp a0, (.agg (enc31 (vCp a0)), []))
theorem okCp : OK 70 conCp := okc1 CCp_ok (n := 80) (ts := [some 31]) (a := (rA ex31 enc31 fun _ _ h => ex31_spec h)) (r := (rA ex31 enc31 fun _ _ h => ex31_spec h)) (d := ((ptT 31).d)) (R := fun a0 => RCp a0) (by kernel_rfl) fun a0 => run_RCp a0
def libCp : List (Nat × CON) := (70, conCp) :: libCl
theorem libCp_ok : AllOK libCp := .cons okCp libCl_ok
structure KUs21 where
  x4 : List (Int × Bool)
  x10 : GProgram
  x11 : List GNode
  x63 : List GNode
  x64 : Int
  x65 : Int
structure EUs21 where
  x10 : GProgram
  x11 : List GNode
def SUs21 (k : KUs21) : St At := { env := [(2, .ptr 0 0), (4, .mapr 1), (10, .ptr 2 0), (11, .own 3), (63, .ro 58 k.x63), (64, .int .i64 k.x64), (65, .int .i64 k.x65)], stk := [], hp := [(0, .var [.str ⟨⟨[]⟩⟩, .int .i64 0, .nils, .nils] false), (1, .map (.ty 3 4 k.x4) false), (2, .var (enc31 k.x10) false), (3, .row 58 k.x11 false)], nx := 4 }
def XUs21 (k : EUs21) : St At := { env := [(2, .ptr 0 0), (10, .ptr 1 0), (11, .own 2)], stk := [], hp := [(0, .var [.str ⟨⟨[]⟩⟩, .int .i64 0, .nils, .nils] false), (1, .var (enc31 k.x10) false), (2, .row 58 k.x11 false)], nx := 3 }
def CUs21 : Cfg := { cs := libCp, ks := [((17, 21), [(2, none), (4, none), (10, none), (11, some 58), (63, none), (64, none), (65, none)])], xs := [((17, 21), [(2, none), (10, none), (11, some 58)])], lps := [] }
theorem CUs21_ok : CfgOK CUs21 := { con := libCp_ok }
def stUs21 {α : Type} (k : KUs21) (go : KUs21 → α) (ex ret : EUs21 → α) (no : α) : α :=
  if decide (k.x65 < k.x64) = true then
   if 0 ≤ k.x65 then
    if k.x65 < (↑k.x63.length : Int) then
     if getO false (mlook3_4 k.x65 k.x4) = true then
      if k.x11.length + [gt { name := { data := #[] : ByteArray }, block := { data := #[] : ByteArray }, params := [], inputs := [] : GNode } k.x63 k.x65.toNat].length < 16777216 then
       go ⟨(k.x4), (k.x10), (k.x11 ++ [gt { name := { data := #[] : ByteArray }, block := { data := #[] : ByteArray }, params := [], inputs := [] : GNode } k.x63 k.x65.toNat]), (k.x63), (k.x64), (IntKind.i64.wrap (k.x65 + 1))⟩
      else
       no
     else
      go ⟨(k.x4), (k.x10), (k.x11), (k.x63), (k.x64), (IntKind.i64.wrap (k.x65 + 1))⟩
    else
     no
   else
    no
  else
   ex ⟨(k.x10), (k.x11)⟩
def stepUs21 (k : KUs21) : Nx KUs21 EUs21 := stUs21 k .go .ex .ret .no
theorem BUs21 (k : KUs21) (m : Nat) (R : St At → Option (Res At)) (K : Xit → St At → Option (Res At)) : B CUs21 17 21 (m + 60) (SUs21 k) R K = stUs21 k (fun k => R (SUs21 k)) (fun x => K (.ex 4) (XUs21 x)) (fun x => K .ret (XUs21 x)) none := by kernel_rfl
def uUs21 (st : St At) : Option KUs21 := match st with
  | ⟨[(2, .ptr 0 0), (4, .mapr 1), (10, .ptr 2 0), (11, .own 3), (63, vx63), (64, .int .i64 x64), (65, .int .i64 x65)], [], [(0, .var [.str ⟨⟨[]⟩⟩, .int .i64 0, .nils, .nils] false), (1, bx4), (2, .var wx10 false), (3, bx11)], 4⟩ => (match mapB 3 4 bx4, ex31 wx10, rowB 58 bx11, roV 58 vx63 with | some x4, some x10, some x11, some x63 => some ⟨x4, x10, x11, x63, x64, x65⟩ | _, _, _, _ => none)
  | _ => none
theorem uUs21_spec {st : St At} {k : KUs21} (h : uUs21 st = some k) : st = SUs21 k := by
  unfold uUs21 at h
  split at h
  · split at h
    · rename_i h0 h1 h2 h3
      obtain rfl := Option.some.inj h
      rw [mapB_spec h0, ex31_spec h1, rowB_spec h2, roV_spec h3]
      rfl
    · cases h
  · cases h
theorem oklUs21 {g : LP} (hg : ∀ st K q, g st K = some q → ∃ k n e, st = SUs21 k ∧ iter stepUs21 n k = some e ∧ e.k 4 XUs21 XUs21 K = some q) : OKL 17 21 g := okl_iter CUs21_ok (S := SUs21) (X := XUs21) (Y := XUs21) (step := stepUs21) (id := 4) (by kernel_rfl) (by kernel_rfl)
  (fun k m R K => by rw [BUs21]; unfold stepUs21 stUs21; simp only [Nx.k_ite]; rfl) (fun k => by kernel_rfl) hg
theorem okfUs21 {g : LP} {fuel : KUs21 → Nat} {ok : KUs21 → Bool} {F : KUs21 → Fx EUs21} (hF : ∀ k, ok k = true → iter stepUs21 (fuel k) k = some (F k)) (hg : ∀ st K, g st K = (match uUs21 st with | some k => if ok k = true then (F k).k 4 XUs21 XUs21 K else none | none => none)) : OKL 17 21 g := oklUs21 fun st K q h => by
  rw [hg] at h
  split at h
  · rename_i k hu
    split at h
    · rename_i hok; exact ⟨k, _, _, uUs21_spec hu, hF k hok, h⟩
    · cases h
  · cases h
structure B_Us21 where
  x11 : List GNode
def fUs21 (k : KUs21) (b : B_Us21) (p : GNode × Nat) : Option (B_Us21 ⊕ EUs21) :=
  if getO false (mlook3_4 (p.2 : Int) k.x4) = true then
   if b.x11.length + [p.1].length < 16777216 then
    some (.inl ⟨(b.x11 ++ [p.1])⟩)
   else
    none
  else
   some (.inl ⟨(b.x11)⟩)
def xUs21 (k : KUs21) (b : B_Us21) : EUs21 := ⟨(k.x10), (b.x11)⟩
def putUs21 (k : KUs21) (b : B_Us21) (j : Nat) : KUs21 := ⟨k.x4, k.x10, b.x11, k.x63, k.x64, (j : Int)⟩
def bUs21 (k : KUs21) : B_Us21 := ⟨k.x11⟩
def oUs21 (k : KUs21) : Option (B_Us21 ⊕ EUs21) := scanO (fUs21 k) (bUs21 k) (k.x63.zipIdx)
def okUs21 (k : KUs21) : Bool := decide (k.x65 = 0) && (decide (k.x64 = (k.x63.length : Int)) && (Nat.ble k.x63.length 9223372036854775807 && isOO (oUs21 k)))
def FUs21 (k : KUs21) : Fx EUs21 := fxO (xUs21 k) (bUs21 k) (xUs21 k (bUs21 k)) (oUs21 k)
theorem sUs21 (k : KUs21) (hn : k.x64 = (k.x63.length : Int)) (hm : k.x63.length ≤ 9223372036854775807) (b : B_Us21) (j : Nat) (h : j < k.x63.length) : stepUs21 (putUs21 k b j) = nxO (fun b' => putUs21 k b' (j + 1)) (fUs21 k b (k.x63[j], j)) := by
  unfold stepUs21 stUs21 fUs21 putUs21
  dsimp only
  simp only [hn, nxO_ite, cnt' h hm, gtj' _ _ _ h, if_pos (lt1' h), if_pos (lt0' (j := j)), if_pos (lt2' h)]
  rfl
theorem eUs21 (k : KUs21) (hn : k.x64 = (k.x63.length : Int)) (b : B_Us21) : stepUs21 (putUs21 k b k.x63.length) = .ex (xUs21 k b) := by
  unfold stepUs21 stUs21 putUs21
  dsimp only
  rw [hn, if_neg lt3']
  rfl
theorem iUs21 (k : KUs21) (h : okUs21 k = true) : iter stepUs21 (k.x63.zipIdx).length k = some (FUs21 k) := by
  unfold okUs21 at h
  simp only [Bool.and_eq_true, decide_eq_true_eq] at h
  obtain ⟨h0, h1, h2, h3⟩ := h
  replace h2 := Nat.le_of_ble_eq_true h2
  have e : k = putUs21 k (bUs21 k) 0 := by cases k; dsimp only at h0; subst h0; rfl
  have := iter_scanO (step := stepUs21) (k.x63.zipIdx) (putUs21 k) (fUs21 k) (xUs21 k) (bUs21 k) (xUs21 k (bUs21 k)) (fun b j h => (by rw [show (k.x63.zipIdx)[j] = (k.x63[j]'(by simpa using h), j) by simp]; exact sUs21 k h1 h2 b j (by simpa using h))) (fun b => (by rw [show (k.x63.zipIdx).length = k.x63.length by simp]; exact eUs21 k h1 b)) (k.x63.zipIdx).length 0 (bUs21 k) (by simp) (by rw [List.drop_zero]; exact h3)
  rw [List.drop_zero, ← e] at this
  exact this
def gUs21 : LP := fun st K => match uUs21 st with | some k => if okUs21 k = true then (if isLO (oUs21 k) = true then K (.ex 4) (XUs21 (⟨(k.x10), ((getLO (bUs21 k) (oUs21 k)).x11)⟩ : EUs21)) else K .ret (XUs21 (getRO (xUs21 k (bUs21 k)) (oUs21 k)))) else none | none => none
theorem okgUs21 : OKL 17 21 gUs21 := okfUs21 (fuel := fun k => (k.x63.zipIdx).length) (ok := okUs21) (F := FUs21) iUs21 fun st K => by
  unfold gUs21
  cases hu : uUs21 st with
  | none => rfl
  | some k =>
    dsimp only
    split
    · unfold FUs21 fxO
      cases isLO (oUs21 k) <;> rfl
    · rfl
structure KUs8 where
  x1 : GProgram
  x3 : Int
  x4 : List (Int × Bool)
  x5 : List GLink
structure EUs8 where
  x1 : GProgram
  x3 : Int
  x4 : List (Int × Bool)
def SUs8 (k : KUs8) : St At := { env := [(1, .ptr 0 0), (2, .ptr 1 0), (3, .int .i64 k.x3), (4, .mapr 2), (5, .own 3)], stk := [], hp := [(0, .var (enc31 k.x1) false), (1, .var [.str ⟨⟨[]⟩⟩, .int .i64 0, .nils, .nils] false), (2, .map (.ty 3 4 k.x4) false), (3, .row 55 k.x5 false)], nx := 4 }
def XUs8 (k : EUs8) : St At := { env := [(1, .ptr 0 0), (2, .ptr 1 0), (3, .int .i64 k.x3), (4, .mapr 2)], stk := [], hp := [(0, .var (enc31 k.x1) false), (1, .var [.str ⟨⟨[]⟩⟩, .int .i64 0, .nils, .nils] false), (2, .map (.ty 3 4 k.x4) false)], nx := 3 }
def CUs8 : Cfg := { cs := libCp, ks := [((17, 8), [(1, none), (2, none), (3, none), (4, none), (5, some 55)])], xs := [((17, 8), [(1, none), (2, none), (3, none), (4, none)])], lps := [] }
theorem CUs8_ok : CfgOK CUs8 := { con := libCp_ok }
def stUs8 {α : Type} (k : KUs8) (go : KUs8 → α) (ex ret : EUs8 → α) (no : α) : α :=
  if decide ((↑k.x5.length : Int) > 0) = true then
   if 0 < (↑k.x5.length : Int) then
    if 1 ≤ (↑k.x5.length : Int) then
     if eqB (gt { node := { data := #[] : ByteArray }, port := 0, point := { data := #[] : ByteArray }, const := { kind := 0, n := 0 : GValue }, delayed := false, initial := { kind := 0, n := 0 : GValue } : GLink } k.x5 (Int.toNat 0)).node { data := #[] : ByteArray } = true then
      go ⟨(k.x1), (k.x3), (k.x4), (List.drop (Int.toNat 1) k.x5)⟩
     else
      if cFi k.x1 (gt { node := { data := #[] : ByteArray }, port := 0, point := { data := #[] : ByteArray }, const := { kind := 0, n := 0 : GValue }, delayed := false, initial := { kind := 0, n := 0 : GValue } : GLink } k.x5 (Int.toNat 0)).node = true then
       if decide (vFi k.x1 (gt { node := { data := #[] : ByteArray }, port := 0, point := { data := #[] : ByteArray }, const := { kind := 0, n := 0 : GValue }, delayed := false, initial := { kind := 0, n := 0 : GValue } : GLink } k.x5 (Int.toNat 0)).node < 0) = true then
        ret ⟨(k.x1), (3), (k.x4)⟩
       else
        if (!getO false (mlook3_4 (vFi k.x1 (gt { node := { data := #[] : ByteArray }, port := 0, point := { data := #[] : ByteArray }, const := { kind := 0, n := 0 : GValue }, delayed := false, initial := { kind := 0, n := 0 : GValue } : GLink } k.x5 (Int.toNat 0)).node) k.x4)) = true then
         if 0 ≤ vFi k.x1 (gt { node := { data := #[] : ByteArray }, port := 0, point := { data := #[] : ByteArray }, const := { kind := 0, n := 0 : GValue }, delayed := false, initial := { kind := 0, n := 0 : GValue } : GLink } k.x5 (Int.toNat 0)).node then
          if vFi k.x1 (gt { node := { data := #[] : ByteArray }, port := 0, point := { data := #[] : ByteArray }, const := { kind := 0, n := 0 : GValue }, delayed := false, initial := { kind := 0, n := 0 : GValue } : GLink } k.x5 (Int.toNat 0)).node < (↑k.x1.nodes.length : Int) then
           if (List.drop (Int.toNat 1) k.x5).length + (gt { name := { data := #[] : ByteArray }, block := { data := #[] : ByteArray }, params := [], inputs := [] : GNode } k.x1.nodes (vFi k.x1 (gt { node := { data := #[] : ByteArray }, port := 0, point := { data := #[] : ByteArray }, const := { kind := 0, n := 0 : GValue }, delayed := false, initial := { kind := 0, n := 0 : GValue } : GLink } k.x5 (Int.toNat 0)).node).toNat).inputs.length < 16777216 then
            go ⟨(k.x1), (k.x3), (mupd3_4 (vFi k.x1 (gt { node := { data := #[] : ByteArray }, port := 0, point := { data := #[] : ByteArray }, const := { kind := 0, n := 0 : GValue }, delayed := false, initial := { kind := 0, n := 0 : GValue } : GLink } k.x5 (Int.toNat 0)).node) true k.x4), (List.drop (Int.toNat 1) k.x5 ++ (gt { name := { data := #[] : ByteArray }, block := { data := #[] : ByteArray }, params := [], inputs := [] : GNode } k.x1.nodes (vFi k.x1 (gt { node := { data := #[] : ByteArray }, port := 0, point := { data := #[] : ByteArray }, const := { kind := 0, n := 0 : GValue }, delayed := false, initial := { kind := 0, n := 0 : GValue } : GLink } k.x5 (Int.toNat 0)).node).toNat).inputs)⟩
           else
            no
          else
           no
         else
          no
        else
         go ⟨(k.x1), (k.x3), (k.x4), (List.drop (Int.toNat 1) k.x5)⟩
      else
       no
    else
     no
   else
    no
  else
   ex ⟨(k.x1), (k.x3), (k.x4)⟩
def stepUs8 (k : KUs8) : Nx KUs8 EUs8 := stUs8 k .go .ex .ret .no
theorem BUs8 (k : KUs8) (m : Nat) (R : St At → Option (Res At)) (K : Xit → St At → Option (Res At)) : B CUs8 17 8 (m + 60) (SUs8 k) R K = stUs8 k (fun k => R (SUs8 k)) (fun x => K (.ex 2) (XUs8 x)) (fun x => K .ret (XUs8 x)) none := by kernel_rfl
def uUs8 (st : St At) : Option KUs8 := match st with
  | ⟨[(1, .ptr 0 0), (2, .ptr 1 0), (3, .int .i64 x3), (4, .mapr 2), (5, .own 3)], [], [(0, .var wx1 false), (1, .var [.str ⟨⟨[]⟩⟩, .int .i64 0, .nils, .nils] false), (2, bx4), (3, bx5)], 4⟩ => (match ex31 wx1, mapB 3 4 bx4, rowB 55 bx5 with | some x1, some x4, some x5 => some ⟨x1, x3, x4, x5⟩ | _, _, _ => none)
  | _ => none
theorem uUs8_spec {st : St At} {k : KUs8} (h : uUs8 st = some k) : st = SUs8 k := by
  unfold uUs8 at h
  split at h
  · split at h
    · rename_i h0 h1 h2
      obtain rfl := Option.some.inj h
      rw [ex31_spec h0, mapB_spec h1, rowB_spec h2]
      rfl
    · cases h
  · cases h
theorem oklUs8 {g : LP} (hg : ∀ st K q, g st K = some q → ∃ k n e, st = SUs8 k ∧ iter stepUs8 n k = some e ∧ e.k 2 XUs8 XUs8 K = some q) : OKL 17 8 g := okl_iter CUs8_ok (S := SUs8) (X := XUs8) (Y := XUs8) (step := stepUs8) (id := 2) (by kernel_rfl) (by kernel_rfl)
  (fun k m R K => by rw [BUs8]; unfold stepUs8 stUs8; simp only [Nx.k_ite]; rfl) (fun k => by kernel_rfl) hg
theorem okfUs8 {g : LP} {fuel : KUs8 → Nat} {ok : KUs8 → Bool} {F : KUs8 → Fx EUs8} (hF : ∀ k, ok k = true → iter stepUs8 (fuel k) k = some (F k)) (hg : ∀ st K, g st K = (match uUs8 st with | some k => if ok k = true then (F k).k 2 XUs8 XUs8 K else none | none => none)) : OKL 17 8 g := oklUs8 fun st K q h => by
  rw [hg] at h
  split at h
  · rename_i k hu
    split at h
    · rename_i hok; exact ⟨k, _, _, uUs8_spec hu, hF k hok, h⟩
    · cases h
  · cases h
structure B_Us8 where
  x4 : List (Int × Bool)
  x5 : List GLink
structure P_Us8 where
  x4 : List (Int × Bool)
structure Q_Us8 where
  x3 : Int
  x4 : List (Int × Bool)
def putUs8 (k : KUs8) (b : B_Us8) : KUs8 := ⟨k.x1, k.x3, b.x4, b.x5⟩
def bUs8 (k : KUs8) : B_Us8 := ⟨k.x4, k.x5⟩
def xeUs8 (k : KUs8) (e : P_Us8) : EUs8 := ⟨k.x1, k.x3, e.x4⟩
def xrUs8 (k : KUs8) (e : Q_Us8) : EUs8 := ⟨k.x1, e.x3, e.x4⟩
def sUs8 (k : KUs8) (b : B_Us8) : Nx2 B_Us8 P_Us8 Q_Us8 := stUs8 (putUs8 k b) (fun k => .go ⟨k.x4, k.x5⟩) (fun k => .ex ⟨k.x4⟩) (fun k => .ret ⟨k.x3, k.x4⟩) .no
def iUs8 (k : KUs8) : Option (P_Us8 ⊕ Q_Us8) := iter2 (sUs8 k) (k.x5.length + (k.x1.nodes.flatMap fun x => x.inputs).length) (bUs8 k)
def okUs8 (k : KUs8) : Bool := isO (iUs8 k)
def FUs8 (k : KUs8) : Fx EUs8 := if isLO (iUs8 k) = true then .ex (xeUs8 k (getLO ⟨k.x4⟩ (iUs8 k))) else .ret (xrUs8 k (getRO ⟨k.x3, k.x4⟩ (iUs8 k)))
theorem hUs8 (k : KUs8) (b : B_Us8) : stepUs8 (putUs8 k b) = (sUs8 k b).up (putUs8 k) (xeUs8 k) (xrUs8 k) := by
  unfold stepUs8 sUs8 stUs8 putUs8
  dsimp only
  simp only [Nx2.up_ite]
  rfl
theorem iUs8_ok (k : KUs8) (h : okUs8 k = true) : iter stepUs8 (k.x5.length + (k.x1.nodes.flatMap fun x => x.inputs).length) k = some (FUs8 k) := iter2_ok (bUs8 k) (hUs8 k) h
def gUs8 : LP := fun st K => match uUs8 st with | some k => if okUs8 k = true then (if isLO (iUs8 k) = true then K (.ex 2) (XUs8 (⟨k.x1, k.x3, (getLO ⟨k.x4⟩ (iUs8 k)).x4⟩ : EUs8)) else K .ret (XUs8 (⟨k.x1, (getRO ⟨k.x3, k.x4⟩ (iUs8 k)).x3, (getRO ⟨k.x3, k.x4⟩ (iUs8 k)).x4⟩ : EUs8))) else none | none => none
theorem okgUs8 : OKL 17 8 gUs8 := okfUs8 (fuel := fun k => k.x5.length + (k.x1.nodes.flatMap fun x => x.inputs).length) (ok := okUs8) (F := FUs8) iUs8_ok fun st K => by
  unfold gUs8
  cases hu : uUs8 st with
  | none => rfl
  | some k =>
    dsimp only
    split
    · unfold FUs8
      cases isLO (iUs8 k) <;> rfl
    · rfl
structure KUs4 where
  x1 : GProgram
  x3 : Int
  x4 : List (Int × Bool)
  x5 : List GLink
  x16 : List GDrive
  x17 : Int
  x18 : Int
structure EUs4 where
  x1 : GProgram
  x3 : Int
  x4 : List (Int × Bool)
  x5 : List GLink
def SUs4 (k : KUs4) : St At := { env := [(1, .ptr 0 0), (2, .ptr 1 0), (3, .int .i64 k.x3), (4, .mapr 2), (5, .own 3), (16, .ro 89 k.x16), (17, .int .i64 k.x17), (18, .int .i64 k.x18)], stk := [], hp := [(0, .var (enc31 k.x1) false), (1, .var [.str ⟨⟨[]⟩⟩, .int .i64 0, .nils, .nils] false), (2, .map (.ty 3 4 k.x4) false), (3, .row 55 k.x5 false)], nx := 4 }
def XUs4 (k : EUs4) : St At := { env := [(1, .ptr 0 0), (2, .ptr 1 0), (3, .int .i64 k.x3), (4, .mapr 2), (5, .own 3)], stk := [], hp := [(0, .var (enc31 k.x1) false), (1, .var [.str ⟨⟨[]⟩⟩, .int .i64 0, .nils, .nils] false), (2, .map (.ty 3 4 k.x4) false), (3, .row 55 k.x5 false)], nx := 4 }
def CUs4 : Cfg := { cs := libCp, ks := [((17, 4), [(1, none), (2, none), (3, none), (4, none), (5, some 55), (16, none), (17, none), (18, none)])], xs := [((17, 4), [(1, none), (2, none), (3, none), (4, none), (5, some 55)])], lps := [] }
theorem CUs4_ok : CfgOK CUs4 := { con := libCp_ok }
def stUs4 {α : Type} (k : KUs4) (go : KUs4 → α) (ex ret : EUs4 → α) (no : α) : α :=
  if decide (k.x18 < k.x17) = true then
   if 0 ≤ k.x18 then
    if k.x18 < (↑k.x16.length : Int) then
     if k.x5.length + [(gt { point := { data := #[] : ByteArray }, level := 0, from_ := { node := { data := #[] : ByteArray }, port := 0, point := { data := #[] : ByteArray }, const := { kind := 0, n := 0 : GValue }, delayed := false, initial := { kind := 0, n := 0 : GValue } : GLink } : GDrive } k.x16 k.x18.toNat).from_].length < 16777216 then
      go ⟨(k.x1), (k.x3), (k.x4), (k.x5 ++ [(gt { point := { data := #[] : ByteArray }, level := 0, from_ := { node := { data := #[] : ByteArray }, port := 0, point := { data := #[] : ByteArray }, const := { kind := 0, n := 0 : GValue }, delayed := false, initial := { kind := 0, n := 0 : GValue } : GLink } : GDrive } k.x16 k.x18.toNat).from_]), (k.x16), (k.x17), (IntKind.i64.wrap (k.x18 + 1))⟩
     else
      no
    else
     no
   else
    no
  else
   ex ⟨(k.x1), (k.x3), (k.x4), (k.x5)⟩
def stepUs4 (k : KUs4) : Nx KUs4 EUs4 := stUs4 k .go .ex .ret .no
theorem BUs4 (k : KUs4) (m : Nat) (R : St At → Option (Res At)) (K : Xit → St At → Option (Res At)) : B CUs4 17 4 (m + 60) (SUs4 k) R K = stUs4 k (fun k => R (SUs4 k)) (fun x => K (.ex 0) (XUs4 x)) (fun x => K .ret (XUs4 x)) none := by kernel_rfl
def uUs4 (st : St At) : Option KUs4 := match st with
  | ⟨[(1, .ptr 0 0), (2, .ptr 1 0), (3, .int .i64 x3), (4, .mapr 2), (5, .own 3), (16, vx16), (17, .int .i64 x17), (18, .int .i64 x18)], [], [(0, .var wx1 false), (1, .var [.str ⟨⟨[]⟩⟩, .int .i64 0, .nils, .nils] false), (2, bx4), (3, bx5)], 4⟩ => (match ex31 wx1, mapB 3 4 bx4, rowB 55 bx5, roV 89 vx16 with | some x1, some x4, some x5, some x16 => some ⟨x1, x3, x4, x5, x16, x17, x18⟩ | _, _, _, _ => none)
  | _ => none
theorem uUs4_spec {st : St At} {k : KUs4} (h : uUs4 st = some k) : st = SUs4 k := by
  unfold uUs4 at h
  split at h
  · split at h
    · rename_i h0 h1 h2 h3
      obtain rfl := Option.some.inj h
      rw [ex31_spec h0, mapB_spec h1, rowB_spec h2, roV_spec h3]
      rfl
    · cases h
  · cases h
theorem oklUs4 {g : LP} (hg : ∀ st K q, g st K = some q → ∃ k n e, st = SUs4 k ∧ iter stepUs4 n k = some e ∧ e.k 0 XUs4 XUs4 K = some q) : OKL 17 4 g := okl_iter CUs4_ok (S := SUs4) (X := XUs4) (Y := XUs4) (step := stepUs4) (id := 0) (by kernel_rfl) (by kernel_rfl)
  (fun k m R K => by rw [BUs4]; unfold stepUs4 stUs4; simp only [Nx.k_ite]; rfl) (fun k => by kernel_rfl) hg
theorem okfUs4 {g : LP} {fuel : KUs4 → Nat} {ok : KUs4 → Bool} {F : KUs4 → Fx EUs4} (hF : ∀ k, ok k = true → iter stepUs4 (fuel k) k = some (F k)) (hg : ∀ st K, g st K = (match uUs4 st with | some k => if ok k = true then (F k).k 0 XUs4 XUs4 K else none | none => none)) : OKL 17 4 g := oklUs4 fun st K q h => by
  rw [hg] at h
  split at h
  · rename_i k hu
    split at h
    · rename_i hok; exact ⟨k, _, _, uUs4_spec hu, hF k hok, h⟩
    · cases h
  · cases h
structure B_Us4 where
  x5 : List GLink
def fUs4 (k : KUs4) (b : B_Us4) (x : GDrive) : Option (B_Us4 ⊕ EUs4) :=
  if b.x5.length + [x.from_].length < 16777216 then
   some (.inl ⟨(b.x5 ++ [x.from_])⟩)
  else
   none
def xUs4 (k : KUs4) (b : B_Us4) : EUs4 := ⟨(k.x1), (k.x3), (k.x4), (b.x5)⟩
def putUs4 (k : KUs4) (b : B_Us4) (j : Nat) : KUs4 := ⟨k.x1, k.x3, k.x4, b.x5, k.x16, k.x17, (j : Int)⟩
def bUs4 (k : KUs4) : B_Us4 := ⟨k.x5⟩
def oUs4 (k : KUs4) : Option (B_Us4 ⊕ EUs4) := scanO (fUs4 k) (bUs4 k) k.x16
def okUs4 (k : KUs4) : Bool := decide (k.x18 = 0) && (decide (k.x17 = (k.x16.length : Int)) && (Nat.ble k.x16.length 9223372036854775807 && isOO (oUs4 k)))
def FUs4 (k : KUs4) : Fx EUs4 := fxO (xUs4 k) (bUs4 k) (xUs4 k (bUs4 k)) (oUs4 k)
theorem sUs4 (k : KUs4) (hn : k.x17 = (k.x16.length : Int)) (hm : k.x16.length ≤ 9223372036854775807) (b : B_Us4) (j : Nat) (h : j < k.x16.length) : stepUs4 (putUs4 k b j) = nxO (fun b' => putUs4 k b' (j + 1)) (fUs4 k b k.x16[j]) := by
  unfold stepUs4 stUs4 fUs4 putUs4
  dsimp only
  simp only [hn, nxO_ite, cnt' h hm, gtj' _ _ _ h, if_pos (lt1' h), if_pos (lt0' (j := j)), if_pos (lt2' h)]
  rfl
theorem eUs4 (k : KUs4) (hn : k.x17 = (k.x16.length : Int)) (b : B_Us4) : stepUs4 (putUs4 k b k.x16.length) = .ex (xUs4 k b) := by
  unfold stepUs4 stUs4 putUs4
  dsimp only
  rw [hn, if_neg lt3']
  rfl
theorem iUs4 (k : KUs4) (h : okUs4 k = true) : iter stepUs4 (k.x16).length k = some (FUs4 k) := by
  unfold okUs4 at h
  simp only [Bool.and_eq_true, decide_eq_true_eq] at h
  obtain ⟨h0, h1, h2, h3⟩ := h
  replace h2 := Nat.le_of_ble_eq_true h2
  have e : k = putUs4 k (bUs4 k) 0 := by cases k; dsimp only at h0; subst h0; rfl
  have := iter_scanO (step := stepUs4) k.x16 (putUs4 k) (fUs4 k) (xUs4 k) (bUs4 k) (xUs4 k (bUs4 k)) (fun b j h => sUs4 k h1 h2 b j h) (fun b => eUs4 k h1 b) k.x16.length 0 (bUs4 k) (by simp) (by rw [List.drop_zero]; exact h3)
  rw [List.drop_zero, ← e] at this
  exact this
def gUs4 : LP := fun st K => match uUs4 st with | some k => if okUs4 k = true then (if isLO (oUs4 k) = true then K (.ex 0) (XUs4 (⟨(k.x1), (k.x3), (k.x4), ((getLO (bUs4 k) (oUs4 k)).x5)⟩ : EUs4)) else K .ret (XUs4 (getRO (xUs4 k (bUs4 k)) (oUs4 k)))) else none | none => none
theorem okgUs4 : OKL 17 4 gUs4 := okfUs4 (fuel := fun k => (k.x16).length) (ok := okUs4) (F := FUs4) iUs4 fun st K => by
  unfold gUs4
  cases hu : uUs4 st with
  | none => rfl
  | some k =>
    dsimp only
    split
    · unfold FUs4 fxO
      cases isLO (oUs4 k) <;> rfl
    · rfl
def CUs : Cfg := { cs := libCp, ks := CUs21.ks ++ CUs8.ks ++ CUs4.ks, xs := CUs21.xs ++ CUs8.xs ++ CUs4.xs, lps := [((17, 21), gUs21), ((17, 8), gUs8), ((17, 4), gUs4)] }
theorem CUs_ok : CfgOK CUs := { con := libCp_ok, lp := .cons okgUs21 (.cons okgUs8 (.cons okgUs4 .nil)) }
def RUs (a0 : GProgram) : Option (Res At) :=
  if okUs4 { x1 := a0, x3 := 0, x4 := [], x5 := [], x16 := a0.drives, x17 := (↑a0.drives.length : Int), x18 := 0 : KUs4 } = true then
   if isLO (oUs4 { x1 := a0, x3 := 0, x4 := [], x5 := [], x16 := a0.drives, x17 := (↑a0.drives.length : Int), x18 := 0 : KUs4 }) = true then
    if okUs8 { x1 := a0, x3 := 0, x4 := [], x5 := (getLO (bUs4 { x1 := a0, x3 := 0, x4 := [], x5 := [], x16 := a0.drives, x17 := (↑a0.drives.length : Int), x18 := 0 : KUs4 }) (oUs4 { x1 := a0, x3 := 0, x4 := [], x5 := [], x16 := a0.drives, x17 := (↑a0.drives.length : Int), x18 := 0 : KUs4 })).x5 : KUs8 } = true then
     if isLO (iUs8 { x1 := a0, x3 := 0, x4 := [], x5 := (getLO (bUs4 { x1 := a0, x3 := 0, x4 := [], x5 := [], x16 := a0.drives, x17 := (↑a0.drives.length : Int), x18 := 0 : KUs4 }) (oUs4 { x1 := a0, x3 := 0, x4 := [], x5 := [], x16 := a0.drives, x17 := (↑a0.drives.length : Int), x18 := 0 : KUs4 })).x5 : KUs8 }) = true then
      if cCp a0 = true then
       if okUs21 { x4 := (getLO { x4 := [] : P_Us8 } (iUs8 { x1 := a0, x3 := 0, x4 := [], x5 := (getLO (bUs4 { x1 := a0, x3 := 0, x4 := [], x5 := [], x16 := a0.drives, x17 := (↑a0.drives.length : Int), x18 := 0 : KUs4 }) (oUs4 { x1 := a0, x3 := 0, x4 := [], x5 := [], x16 := a0.drives, x17 := (↑a0.drives.length : Int), x18 := 0 : KUs4 })).x5 : KUs8 })).x4, x10 := vCp a0, x11 := [], x63 := (vCp a0).nodes, x64 := (↑(vCp a0).nodes.length : Int), x65 := 0 : KUs21 } = true then
        if isLO (oUs21 { x4 := (getLO { x4 := [] : P_Us8 } (iUs8 { x1 := a0, x3 := 0, x4 := [], x5 := (getLO (bUs4 { x1 := a0, x3 := 0, x4 := [], x5 := [], x16 := a0.drives, x17 := (↑a0.drives.length : Int), x18 := 0 : KUs4 }) (oUs4 { x1 := a0, x3 := 0, x4 := [], x5 := [], x16 := a0.drives, x17 := (↑a0.drives.length : Int), x18 := 0 : KUs4 })).x5 : KUs8 })).x4, x10 := vCp a0, x11 := [], x63 := (vCp a0).nodes, x64 := (↑(vCp a0).nodes.length : Int), x65 := 0 : KUs21 }) = true then
         some ((.tup [(.agg [(.str ((vCp a0).name)), (.int .i64 ((vCp a0).period)), (.own 0), (.ro 89 ((vCp a0).drives))]), (.int .i64 0)]), [(0, (.row 58 ((getLO (bUs21 { x4 := (getLO { x4 := [] : P_Us8 } (iUs8 { x1 := a0, x3 := 0, x4 := [], x5 := (getLO (bUs4 { x1 := a0, x3 := 0, x4 := [], x5 := [], x16 := a0.drives, x17 := (↑a0.drives.length : Int), x18 := 0 : KUs4 }) (oUs4 { x1 := a0, x3 := 0, x4 := [], x5 := [], x16 := a0.drives, x17 := (↑a0.drives.length : Int), x18 := 0 : KUs4 })).x5 : KUs8 })).x4, x10 := vCp a0, x11 := [], x63 := (vCp a0).nodes, x64 := (↑(vCp a0).nodes.length : Int), x65 := 0 : KUs21 }) (oUs21 { x4 := (getLO { x4 := [] : P_Us8 } (iUs8 { x1 := a0, x3 := 0, x4 := [], x5 := (getLO (bUs4 { x1 := a0, x3 := 0, x4 := [], x5 := [], x16 := a0.drives, x17 := (↑a0.drives.length : Int), x18 := 0 : KUs4 }) (oUs4 { x1 := a0, x3 := 0, x4 := [], x5 := [], x16 := a0.drives, x17 := (↑a0.drives.length : Int), x18 := 0 : KUs4 })).x5 : KUs8 })).x4, x10 := vCp a0, x11 := [], x63 := (vCp a0).nodes, x64 := (↑(vCp a0).nodes.length : Int), x65 := 0 : KUs21 })).x11) false))])
        else
         some ((.tup [(.agg [(.str ⟨#[]⟩), (.int .i64 0), .nils, .nils]), .unk]), [])
       else
        none
      else
       none
     else
      some ((.tup [(.agg [(.str ⟨#[]⟩), (.int .i64 0), .nils, .nils]), (.int .i64 ((getRO { x3 := 0, x4 := [] : Q_Us8 } (iUs8 { x1 := a0, x3 := 0, x4 := [], x5 := (getLO (bUs4 { x1 := a0, x3 := 0, x4 := [], x5 := [], x16 := a0.drives, x17 := (↑a0.drives.length : Int), x18 := 0 : KUs4 }) (oUs4 { x1 := a0, x3 := 0, x4 := [], x5 := [], x16 := a0.drives, x17 := (↑a0.drives.length : Int), x18 := 0 : KUs4 })).x5 : KUs8 })).x3))]), [])
    else
     none
   else
    some ((.tup [(.agg [(.str ⟨#[]⟩), (.int .i64 0), .nils, .nils]), (.int .i64 ((getRO (xUs4 { x1 := a0, x3 := 0, x4 := [], x5 := [], x16 := a0.drives, x17 := (↑a0.drives.length : Int), x18 := 0 : KUs4 } (bUs4 { x1 := a0, x3 := 0, x4 := [], x5 := [], x16 := a0.drives, x17 := (↑a0.drives.length : Int), x18 := 0 : KUs4 })) (oUs4 { x1 := a0, x3 := 0, x4 := [], x5 := [], x16 := a0.drives, x17 := (↑a0.drives.length : Int), x18 := 0 : KUs4 })).x3))]), [])
  else
   none
theorem run_RUs (a0 : GProgram) : runF CUs 80 17 [.agg (enc31 a0)] = RUs a0 := by kernel_rfl
def oUs (a0 : GProgram) : Option (Res At) := crR [some 31, none] (RUs a0)
def vUs (a0 : GProgram) : GProgram × Int := valO (rT2 (rA ex31 enc31 fun _ _ h => ex31_spec h) (rI .i64)) (((ptT 31).d), 0) (oUs a0)
def cUs (a0 : GProgram) : Bool := okO (rT2 (rA ex31 enc31 fun _ _ h => ex31_spec h) (rI .i64)) (oUs a0)
def conUs : CON := on1 (rA ex31 enc31 fun _ _ h => ex31_spec h) fun a0 => some (cUs a0, (.tup [.agg (enc31 (vUs a0).1), .int .i64 (vUs a0).2], []))
theorem okUs : OK 17 conUs := okc1 CUs_ok (n := 80) (ts := [some 31, none]) (a := (rA ex31 enc31 fun _ _ h => ex31_spec h)) (r := (rT2 (rA ex31 enc31 fun _ _ h => ex31_spec h) (rI .i64))) (d := (((ptT 31).d), 0)) (R := fun a0 => RUs a0) (by kernel_rfl) fun a0 => run_RUs a0
def libUs : List (Nat × CON) := (17, conUs) :: libCp
theorem libUs_ok : AllOK libUs := .cons okUs libCp_ok
end
end Go.Proofs.YtpbpebjfglfjfaaGreatDoor.X
/-! Equal. -/
namespace Go.Proofs.YtpbpebjfglfjfaaGreatDoor.X
open Go Go.Proofs Go.RowKit Go.Proofs.YtpbpebjfglfjfaaGreatDoor
noncomputable section
structure KEd4 where
  x0 : List GDrive
  x1 : List GDrive
  x4 : Bool
  x12 : Int
  x13 : Int
structure EEd4 where
  x4 : Bool
def SEd4 (k : KEd4) : St At := { env := [(0, .ro 89 k.x0), (1, .ro 89 k.x1), (4, .bool k.x4), (12, .int .i64 k.x12), (13, .int .i64 k.x13)], stk := [], hp := [], nx := 0 }
def XEd4 (k : EEd4) : St At := { env := [(4, .bool k.x4)], stk := [], hp := [], nx := 0 }
def CEd4 : Cfg := { cs := libUs, ks := [((71, 4), [(0, none), (1, none), (4, none), (12, none), (13, none)])], xs := [((71, 4), [(4, none)])], lps := [] }
theorem CEd4_ok : CfgOK CEd4 := { con := libUs_ok }
def stEd4 {α : Type} (k : KEd4) (go : KEd4 → α) (ex ret : EEd4 → α) (no : α) : α :=
  if decide (k.x13 < k.x12) = true then
   if 0 ≤ k.x13 then
    if k.x13 < (↑k.x0.length : Int) then
     if 0 ≤ k.x13 then
      if k.x13 < (↑k.x1.length : Int) then
       if (!(eqB (gt { point := { data := #[] : ByteArray }, level := 0, from_ := { node := { data := #[] : ByteArray }, port := 0, point := { data := #[] : ByteArray }, const := { kind := 0, n := 0 : GValue }, delayed := false, initial := { kind := 0, n := 0 : GValue } : GLink } : GDrive } k.x0 k.x13.toNat).point (gt { point := { data := #[] : ByteArray }, level := 0, from_ := { node := { data := #[] : ByteArray }, port := 0, point := { data := #[] : ByteArray }, const := { kind := 0, n := 0 : GValue }, delayed := false, initial := { kind := 0, n := 0 : GValue } : GLink } : GDrive } k.x1 k.x13.toNat).point && (decide ((gt { point := { data := #[] : ByteArray }, level := 0, from_ := { node := { data := #[] : ByteArray }, port := 0, point := { data := #[] : ByteArray }, const := { kind := 0, n := 0 : GValue }, delayed := false, initial := { kind := 0, n := 0 : GValue } : GLink } : GDrive } k.x0 k.x13.toNat).level = (gt { point := { data := #[] : ByteArray }, level := 0, from_ := { node := { data := #[] : ByteArray }, port := 0, point := { data := #[] : ByteArray }, const := { kind := 0, n := 0 : GValue }, delayed := false, initial := { kind := 0, n := 0 : GValue } : GLink } : GDrive } k.x1 k.x13.toNat).level) && (eqB (gt { point := { data := #[] : ByteArray }, level := 0, from_ := { node := { data := #[] : ByteArray }, port := 0, point := { data := #[] : ByteArray }, const := { kind := 0, n := 0 : GValue }, delayed := false, initial := { kind := 0, n := 0 : GValue } : GLink } : GDrive } k.x0 k.x13.toNat).from_.node (gt { point := { data := #[] : ByteArray }, level := 0, from_ := { node := { data := #[] : ByteArray }, port := 0, point := { data := #[] : ByteArray }, const := { kind := 0, n := 0 : GValue }, delayed := false, initial := { kind := 0, n := 0 : GValue } : GLink } : GDrive } k.x1 k.x13.toNat).from_.node && (decide ((gt { point := { data := #[] : ByteArray }, level := 0, from_ := { node := { data := #[] : ByteArray }, port := 0, point := { data := #[] : ByteArray }, const := { kind := 0, n := 0 : GValue }, delayed := false, initial := { kind := 0, n := 0 : GValue } : GLink } : GDrive } k.x0 k.x13.toNat).from_.port = (gt { point := { data := #[] : ByteArray }, level := 0, from_ := { node := { data := #[] : ByteArray }, port := 0, point := { data := #[] : ByteArray }, const := { kind := 0, n := 0 : GValue }, delayed := false, initial := { kind := 0, n := 0 : GValue } : GLink } : GDrive } k.x1 k.x13.toNat).from_.port) && (eqB (gt { point := { data := #[] : ByteArray }, level := 0, from_ := { node := { data := #[] : ByteArray }, port := 0, point := { data := #[] : ByteArray }, const := { kind := 0, n := 0 : GValue }, delayed := false, initial := { kind := 0, n := 0 : GValue } : GLink } : GDrive } k.x0 k.x13.toNat).from_.point (gt { point := { data := #[] : ByteArray }, level := 0, from_ := { node := { data := #[] : ByteArray }, port := 0, point := { data := #[] : ByteArray }, const := { kind := 0, n := 0 : GValue }, delayed := false, initial := { kind := 0, n := 0 : GValue } : GLink } : GDrive } k.x1 k.x13.toNat).from_.point && (decide ((gt { point := { data := #[] : ByteArray }, level := 0, from_ := { node := { data := #[] : ByteArray }, port := 0, point := { data := #[] : ByteArray }, const := { kind := 0, n := 0 : GValue }, delayed := false, initial := { kind := 0, n := 0 : GValue } : GLink } : GDrive } k.x0 k.x13.toNat).from_.const.kind = (gt { point := { data := #[] : ByteArray }, level := 0, from_ := { node := { data := #[] : ByteArray }, port := 0, point := { data := #[] : ByteArray }, const := { kind := 0, n := 0 : GValue }, delayed := false, initial := { kind := 0, n := 0 : GValue } : GLink } : GDrive } k.x1 k.x13.toNat).from_.const.kind) && (decide ((gt { point := { data := #[] : ByteArray }, level := 0, from_ := { node := { data := #[] : ByteArray }, port := 0, point := { data := #[] : ByteArray }, const := { kind := 0, n := 0 : GValue }, delayed := false, initial := { kind := 0, n := 0 : GValue } : GLink } : GDrive } k.x0 k.x13.toNat).from_.const.n = (gt { point := { data := #[] : ByteArray }, level := 0, from_ := { node := { data := #[] : ByteArray }, port := 0, point := { data := #[] : ByteArray }, const := { kind := 0, n := 0 : GValue }, delayed := false, initial := { kind := 0, n := 0 : GValue } : GLink } : GDrive } k.x1 k.x13.toNat).from_.const.n) && true) && ((gt { point := { data := #[] : ByteArray }, level := 0, from_ := { node := { data := #[] : ByteArray }, port := 0, point := { data := #[] : ByteArray }, const := { kind := 0, n := 0 : GValue }, delayed := false, initial := { kind := 0, n := 0 : GValue } : GLink } : GDrive } k.x0 k.x13.toNat).from_.delayed == (gt { point := { data := #[] : ByteArray }, level := 0, from_ := { node := { data := #[] : ByteArray }, port := 0, point := { data := #[] : ByteArray }, const := { kind := 0, n := 0 : GValue }, delayed := false, initial := { kind := 0, n := 0 : GValue } : GLink } : GDrive } k.x1 k.x13.toNat).from_.delayed && (decide ((gt { point := { data := #[] : ByteArray }, level := 0, from_ := { node := { data := #[] : ByteArray }, port := 0, point := { data := #[] : ByteArray }, const := { kind := 0, n := 0 : GValue }, delayed := false, initial := { kind := 0, n := 0 : GValue } : GLink } : GDrive } k.x0 k.x13.toNat).from_.initial.kind = (gt { point := { data := #[] : ByteArray }, level := 0, from_ := { node := { data := #[] : ByteArray }, port := 0, point := { data := #[] : ByteArray }, const := { kind := 0, n := 0 : GValue }, delayed := false, initial := { kind := 0, n := 0 : GValue } : GLink } : GDrive } k.x1 k.x13.toNat).from_.initial.kind) && (decide ((gt { point := { data := #[] : ByteArray }, level := 0, from_ := { node := { data := #[] : ByteArray }, port := 0, point := { data := #[] : ByteArray }, const := { kind := 0, n := 0 : GValue }, delayed := false, initial := { kind := 0, n := 0 : GValue } : GLink } : GDrive } k.x0 k.x13.toNat).from_.initial.n = (gt { point := { data := #[] : ByteArray }, level := 0, from_ := { node := { data := #[] : ByteArray }, port := 0, point := { data := #[] : ByteArray }, const := { kind := 0, n := 0 : GValue }, delayed := false, initial := { kind := 0, n := 0 : GValue } : GLink } : GDrive } k.x1 k.x13.toNat).from_.initial.n) && true) && true))))) && true)))) = true then
        ret ⟨(false)⟩
       else
        go ⟨(k.x0), (k.x1), (k.x4), (k.x12), (IntKind.i64.wrap (k.x13 + 1))⟩
      else
       no
     else
      no
    else
     no
   else
    no
  else
   ex ⟨(k.x4)⟩
def stepEd4 (k : KEd4) : Nx KEd4 EEd4 := stEd4 k .go .ex .ret .no
theorem BEd4 (k : KEd4) (m : Nat) (R : St At → Option (Res At)) (K : Xit → St At → Option (Res At)) : B CEd4 71 4 (m + 60) (SEd4 k) R K = stEd4 k (fun k => R (SEd4 k)) (fun x => K (.ex 0) (XEd4 x)) (fun x => K .ret (XEd4 x)) none := by kernel_rfl
def uEd4 (st : St At) : Option KEd4 := match st with
  | ⟨[(0, vx0), (1, vx1), (4, .bool x4), (12, .int .i64 x12), (13, .int .i64 x13)], [], [], 0⟩ => (match roV 89 vx0, roV 89 vx1 with | some x0, some x1 => some ⟨x0, x1, x4, x12, x13⟩ | _, _ => none)
  | _ => none
theorem uEd4_spec {st : St At} {k : KEd4} (h : uEd4 st = some k) : st = SEd4 k := by
  unfold uEd4 at h
  split at h
  · split at h
    · rename_i h0 h1
      obtain rfl := Option.some.inj h
      rw [roV_spec h0, roV_spec h1]
      rfl
    · cases h
  · cases h
theorem oklEd4 {g : LP} (hg : ∀ st K q, g st K = some q → ∃ k n e, st = SEd4 k ∧ iter stepEd4 n k = some e ∧ e.k 0 XEd4 XEd4 K = some q) : OKL 71 4 g := okl_iter CEd4_ok (S := SEd4) (X := XEd4) (Y := XEd4) (step := stepEd4) (id := 0) (by kernel_rfl) (by kernel_rfl)
  (fun k m R K => by rw [BEd4]; unfold stepEd4 stEd4; simp only [Nx.k_ite]; rfl) (fun k => by kernel_rfl) hg
theorem okfEd4 {g : LP} {fuel : KEd4 → Nat} {ok : KEd4 → Bool} {F : KEd4 → Fx EEd4} (hF : ∀ k, ok k = true → iter stepEd4 (fuel k) k = some (F k)) (hg : ∀ st K, g st K = (match uEd4 st with | some k => if ok k = true then (F k).k 0 XEd4 XEd4 K else none | none => none)) : OKL 71 4 g := oklEd4 fun st K q h => by
  rw [hg] at h
  split at h
  · rename_i k hu
    split at h
    · rename_i hok; exact ⟨k, _, _, uEd4_spec hu, hF k hok, h⟩
    · cases h
  · cases h
structure B_Ed4 where
  x13 : Int
abbrev P_Ed4 := Unit
structure Q_Ed4 where
  x4 : Bool
def putEd4 (k : KEd4) (b : B_Ed4) : KEd4 := ⟨k.x0, k.x1, k.x4, k.x12, b.x13⟩
def bEd4 (k : KEd4) : B_Ed4 := ⟨k.x13⟩
def xeEd4 (k : KEd4) (e : P_Ed4) : EEd4 := ⟨k.x4⟩
def xrEd4 (k : KEd4) (e : Q_Ed4) : EEd4 := ⟨e.x4⟩
def sEd4 (k : KEd4) (b : B_Ed4) : Nx2 B_Ed4 P_Ed4 Q_Ed4 := stEd4 (putEd4 k b) (fun k => .go ⟨k.x13⟩) (fun k => .ex ()) (fun k => .ret ⟨k.x4⟩) .no
def iEd4 (k : KEd4) : Option (P_Ed4 ⊕ Q_Ed4) := iter2 (sEd4 k) (k.x0.length) (bEd4 k)
def okEd4 (k : KEd4) : Bool := isO (iEd4 k)
def FEd4 (k : KEd4) : Fx EEd4 := if isLO (iEd4 k) = true then .ex (xeEd4 k (getLO () (iEd4 k))) else .ret (xrEd4 k (getRO ⟨k.x4⟩ (iEd4 k)))
theorem hEd4 (k : KEd4) (b : B_Ed4) : stepEd4 (putEd4 k b) = (sEd4 k b).up (putEd4 k) (xeEd4 k) (xrEd4 k) := by
  unfold stepEd4 sEd4 stEd4 putEd4
  dsimp only
  simp only [Nx2.up_ite]
  rfl
theorem iEd4_ok (k : KEd4) (h : okEd4 k = true) : iter stepEd4 (k.x0.length) k = some (FEd4 k) := iter2_ok (bEd4 k) (hEd4 k) h
def gEd4 : LP := fun st K => match uEd4 st with | some k => if okEd4 k = true then (if isLO (iEd4 k) = true then K (.ex 0) (XEd4 (⟨k.x4⟩ : EEd4)) else K .ret (XEd4 (⟨(getRO ⟨k.x4⟩ (iEd4 k)).x4⟩ : EEd4))) else none | none => none
theorem okgEd4 : OKL 71 4 gEd4 := okfEd4 (fuel := fun k => k.x0.length) (ok := okEd4) (F := FEd4) iEd4_ok fun st K => by
  unfold gEd4
  cases hu : uEd4 st with
  | none => rfl
  | some k =>
    dsimp only
    split
    · unfold FEd4
      cases isLO (iEd4 k) <;> rfl
    · rfl
def CEd : Cfg := { cs := libUs, ks := CEd4.ks, xs := CEd4.xs, lps := [((71, 4), gEd4)] }
theorem CEd_ok : CfgOK CEd := { con := libUs_ok, lp := .cons okgEd4 .nil }
def REd (a0 : List GDrive) (a1 : List GDrive) : Option (Res At) :=
  if (!decide ((↑a0.length : Int) = (↑a1.length : Int))) = true then
   some ((.bool false), [])
  else
   if okEd4 { x0 := a0, x1 := a1, x4 := false, x12 := (↑a0.length : Int), x13 := 0 : KEd4 } = true then
    if isLO (iEd4 { x0 := a0, x1 := a1, x4 := false, x12 := (↑a0.length : Int), x13 := 0 : KEd4 }) = true then
     some ((.bool true), [])
    else
     some ((.bool ((getRO { x4 := false : Q_Ed4 } (iEd4 { x0 := a0, x1 := a1, x4 := false, x12 := (↑a0.length : Int), x13 := 0 : KEd4 })).x4)), [])
   else
    none
theorem run_REd (a0 : List GDrive) (a1 : List GDrive) : runF CEd 80 71 [.ro 89 a0, .ro 89 a1] = REd a0 a1 := by kernel_rfl
def oEd (a0 : List GDrive) (a1 : List GDrive) : Option (Res At) := crR [none] (REd a0 a1)
def vEd (a0 : List GDrive) (a1 : List GDrive) : Bool := valO rB false (oEd a0 a1)
def cEd (a0 : List GDrive) (a1 : List GDrive) : Bool := okO rB (oEd a0 a1)
def conEd : CON := on2 (rR 89) (rR 89) fun a0 a1 => some (cEd a0 a1, (.bool (vEd a0 a1), []))
theorem okEd : OK 71 conEd := okc2 CEd_ok (n := 80) (ts := [none]) (a := (rR 89)) (b := (rR 89)) (r := rB) (d := false) (R := fun a0 a1 => REd a0 a1) (by kernel_rfl) fun a0 a1 => run_REd a0 a1
def libEd : List (Nat × CON) := (71, conEd) :: libUs
theorem libEd_ok : AllOK libEd := .cons okEd libUs_ok
structure KEa4 where
  x0 : List GParam
  x1 : List GParam
  x4 : Bool
  x12 : Int
  x13 : Int
structure EEa4 where
  x4 : Bool
def SEa4 (k : KEa4) : St At := { env := [(0, .ro 93 k.x0), (1, .ro 93 k.x1), (4, .bool k.x4), (12, .int .i64 k.x12), (13, .int .i64 k.x13)], stk := [], hp := [], nx := 0 }
def XEa4 (k : EEa4) : St At := { env := [(4, .bool k.x4)], stk := [], hp := [], nx := 0 }
def CEa4 : Cfg := { cs := libEd, ks := [((74, 4), [(0, none), (1, none), (4, none), (12, none), (13, none)])], xs := [((74, 4), [(4, none)])], lps := [] }
theorem CEa4_ok : CfgOK CEa4 := { con := libEd_ok }
def stEa4 {α : Type} (k : KEa4) (go : KEa4 → α) (ex ret : EEa4 → α) (no : α) : α :=
  if decide (k.x13 < k.x12) = true then
   if 0 ≤ k.x13 then
    if k.x13 < (↑k.x0.length : Int) then
     if 0 ≤ k.x13 then
      if k.x13 < (↑k.x1.length : Int) then
       if (!(eqB (gt { name := { data := #[] : ByteArray }, value := 0 : GParam } k.x0 k.x13.toNat).name (gt { name := { data := #[] : ByteArray }, value := 0 : GParam } k.x1 k.x13.toNat).name && (decide ((gt { name := { data := #[] : ByteArray }, value := 0 : GParam } k.x0 k.x13.toNat).value = (gt { name := { data := #[] : ByteArray }, value := 0 : GParam } k.x1 k.x13.toNat).value) && true))) = true then
        ret ⟨(false)⟩
       else
        go ⟨(k.x0), (k.x1), (k.x4), (k.x12), (IntKind.i64.wrap (k.x13 + 1))⟩
      else
       no
     else
      no
    else
     no
   else
    no
  else
   ex ⟨(k.x4)⟩
def stepEa4 (k : KEa4) : Nx KEa4 EEa4 := stEa4 k .go .ex .ret .no
theorem BEa4 (k : KEa4) (m : Nat) (R : St At → Option (Res At)) (K : Xit → St At → Option (Res At)) : B CEa4 74 4 (m + 60) (SEa4 k) R K = stEa4 k (fun k => R (SEa4 k)) (fun x => K (.ex 0) (XEa4 x)) (fun x => K .ret (XEa4 x)) none := by kernel_rfl
def uEa4 (st : St At) : Option KEa4 := match st with
  | ⟨[(0, vx0), (1, vx1), (4, .bool x4), (12, .int .i64 x12), (13, .int .i64 x13)], [], [], 0⟩ => (match roV 93 vx0, roV 93 vx1 with | some x0, some x1 => some ⟨x0, x1, x4, x12, x13⟩ | _, _ => none)
  | _ => none
theorem uEa4_spec {st : St At} {k : KEa4} (h : uEa4 st = some k) : st = SEa4 k := by
  unfold uEa4 at h
  split at h
  · split at h
    · rename_i h0 h1
      obtain rfl := Option.some.inj h
      rw [roV_spec h0, roV_spec h1]
      rfl
    · cases h
  · cases h
theorem oklEa4 {g : LP} (hg : ∀ st K q, g st K = some q → ∃ k n e, st = SEa4 k ∧ iter stepEa4 n k = some e ∧ e.k 0 XEa4 XEa4 K = some q) : OKL 74 4 g := okl_iter CEa4_ok (S := SEa4) (X := XEa4) (Y := XEa4) (step := stepEa4) (id := 0) (by kernel_rfl) (by kernel_rfl)
  (fun k m R K => by rw [BEa4]; unfold stepEa4 stEa4; simp only [Nx.k_ite]; rfl) (fun k => by kernel_rfl) hg
theorem okfEa4 {g : LP} {fuel : KEa4 → Nat} {ok : KEa4 → Bool} {F : KEa4 → Fx EEa4} (hF : ∀ k, ok k = true → iter stepEa4 (fuel k) k = some (F k)) (hg : ∀ st K, g st K = (match uEa4 st with | some k => if ok k = true then (F k).k 0 XEa4 XEa4 K else none | none => none)) : OKL 74 4 g := oklEa4 fun st K q h => by
  rw [hg] at h
  split at h
  · rename_i k hu
    split at h
    · rename_i hok; exact ⟨k, _, _, uEa4_spec hu, hF k hok, h⟩
    · cases h
  · cases h
structure B_Ea4 where
  x13 : Int
abbrev P_Ea4 := Unit
structure Q_Ea4 where
  x4 : Bool
def putEa4 (k : KEa4) (b : B_Ea4) : KEa4 := ⟨k.x0, k.x1, k.x4, k.x12, b.x13⟩
def bEa4 (k : KEa4) : B_Ea4 := ⟨k.x13⟩
def xeEa4 (k : KEa4) (e : P_Ea4) : EEa4 := ⟨k.x4⟩
def xrEa4 (k : KEa4) (e : Q_Ea4) : EEa4 := ⟨e.x4⟩
def sEa4 (k : KEa4) (b : B_Ea4) : Nx2 B_Ea4 P_Ea4 Q_Ea4 := stEa4 (putEa4 k b) (fun k => .go ⟨k.x13⟩) (fun k => .ex ()) (fun k => .ret ⟨k.x4⟩) .no
def iEa4 (k : KEa4) : Option (P_Ea4 ⊕ Q_Ea4) := iter2 (sEa4 k) (k.x0.length) (bEa4 k)
def okEa4 (k : KEa4) : Bool := isO (iEa4 k)
def FEa4 (k : KEa4) : Fx EEa4 := if isLO (iEa4 k) = true then .ex (xeEa4 k (getLO () (iEa4 k))) else .ret (xrEa4 k (getRO ⟨k.x4⟩ (iEa4 k)))
theorem hEa4 (k : KEa4) (b : B_Ea4) : stepEa4 (putEa4 k b) = (sEa4 k b).up (putEa4 k) (xeEa4 k) (xrEa4 k) := by
  unfold stepEa4 sEa4 stEa4 putEa4
  dsimp only
  simp only [Nx2.up_ite]
  rfl
theorem iEa4_ok (k : KEa4) (h : okEa4 k = true) : iter stepEa4 (k.x0.length) k = some (FEa4 k) := iter2_ok (bEa4 k) (hEa4 k) h
def gEa4 : LP := fun st K => match uEa4 st with | some k => if okEa4 k = true then (if isLO (iEa4 k) = true then K (.ex 0) (XEa4 (⟨k.x4⟩ : EEa4)) else K .ret (XEa4 (⟨(getRO ⟨k.x4⟩ (iEa4 k)).x4⟩ : EEa4))) else none | none => none
theorem okgEa4 : OKL 74 4 gEa4 := okfEa4 (fuel := fun k => k.x0.length) (ok := okEa4) (F := FEa4) iEa4_ok fun st K => by
  unfold gEa4
  cases hu : uEa4 st with
  | none => rfl
  | some k =>
    dsimp only
    split
    · unfold FEa4
      cases isLO (iEa4 k) <;> rfl
    · rfl
def CEa : Cfg := { cs := libEd, ks := CEa4.ks, xs := CEa4.xs, lps := [((74, 4), gEa4)] }
theorem CEa_ok : CfgOK CEa := { con := libEd_ok, lp := .cons okgEa4 .nil }
def REa (a0 : List GParam) (a1 : List GParam) : Option (Res At) :=
  if (!decide ((↑a0.length : Int) = (↑a1.length : Int))) = true then
   some ((.bool false), [])
  else
   if okEa4 { x0 := a0, x1 := a1, x4 := false, x12 := (↑a0.length : Int), x13 := 0 : KEa4 } = true then
    if isLO (iEa4 { x0 := a0, x1 := a1, x4 := false, x12 := (↑a0.length : Int), x13 := 0 : KEa4 }) = true then
     some ((.bool true), [])
    else
     some ((.bool ((getRO { x4 := false : Q_Ea4 } (iEa4 { x0 := a0, x1 := a1, x4 := false, x12 := (↑a0.length : Int), x13 := 0 : KEa4 })).x4)), [])
   else
    none
theorem run_REa (a0 : List GParam) (a1 : List GParam) : runF CEa 80 74 [.ro 93 a0, .ro 93 a1] = REa a0 a1 := by kernel_rfl
def oEa (a0 : List GParam) (a1 : List GParam) : Option (Res At) := crR [none] (REa a0 a1)
def vEa (a0 : List GParam) (a1 : List GParam) : Bool := valO rB false (oEa a0 a1)
def cEa (a0 : List GParam) (a1 : List GParam) : Bool := okO rB (oEa a0 a1)
def conEa : CON := on2 (rR 93) (rR 93) fun a0 a1 => some (cEa a0 a1, (.bool (vEa a0 a1), []))
theorem okEa : OK 74 conEa := okc2 CEa_ok (n := 80) (ts := [none]) (a := (rR 93)) (b := (rR 93)) (r := rB) (d := false) (R := fun a0 a1 => REa a0 a1) (by kernel_rfl) fun a0 a1 => run_REa a0 a1
def libEa : List (Nat × CON) := (74, conEa) :: libEd
theorem libEa_ok : AllOK libEa := .cons okEa libEd_ok
structure KEl4 where
  x0 : List GLink
  x1 : List GLink
  x4 : Bool
  x12 : Int
  x13 : Int
structure EEl4 where
  x4 : Bool
def SEl4 (k : KEl4) : St At := { env := [(0, .ro 55 k.x0), (1, .ro 55 k.x1), (4, .bool k.x4), (12, .int .i64 k.x12), (13, .int .i64 k.x13)], stk := [], hp := [], nx := 0 }
def XEl4 (k : EEl4) : St At := { env := [(4, .bool k.x4)], stk := [], hp := [], nx := 0 }
def CEl4 : Cfg := { cs := libEa, ks := [((75, 4), [(0, none), (1, none), (4, none), (12, none), (13, none)])], xs := [((75, 4), [(4, none)])], lps := [] }
theorem CEl4_ok : CfgOK CEl4 := { con := libEa_ok }
def stEl4 {α : Type} (k : KEl4) (go : KEl4 → α) (ex ret : EEl4 → α) (no : α) : α :=
  if decide (k.x13 < k.x12) = true then
   if 0 ≤ k.x13 then
    if k.x13 < (↑k.x0.length : Int) then
     if 0 ≤ k.x13 then
      if k.x13 < (↑k.x1.length : Int) then
       if (!(eqB (gt { node := { data := #[] : ByteArray }, port := 0, point := { data := #[] : ByteArray }, const := { kind := 0, n := 0 : GValue }, delayed := false, initial := { kind := 0, n := 0 : GValue } : GLink } k.x0 k.x13.toNat).node (gt { node := { data := #[] : ByteArray }, port := 0, point := { data := #[] : ByteArray }, const := { kind := 0, n := 0 : GValue }, delayed := false, initial := { kind := 0, n := 0 : GValue } : GLink } k.x1 k.x13.toNat).node && (decide ((gt { node := { data := #[] : ByteArray }, port := 0, point := { data := #[] : ByteArray }, const := { kind := 0, n := 0 : GValue }, delayed := false, initial := { kind := 0, n := 0 : GValue } : GLink } k.x0 k.x13.toNat).port = (gt { node := { data := #[] : ByteArray }, port := 0, point := { data := #[] : ByteArray }, const := { kind := 0, n := 0 : GValue }, delayed := false, initial := { kind := 0, n := 0 : GValue } : GLink } k.x1 k.x13.toNat).port) && (eqB (gt { node := { data := #[] : ByteArray }, port := 0, point := { data := #[] : ByteArray }, const := { kind := 0, n := 0 : GValue }, delayed := false, initial := { kind := 0, n := 0 : GValue } : GLink } k.x0 k.x13.toNat).point (gt { node := { data := #[] : ByteArray }, port := 0, point := { data := #[] : ByteArray }, const := { kind := 0, n := 0 : GValue }, delayed := false, initial := { kind := 0, n := 0 : GValue } : GLink } k.x1 k.x13.toNat).point && (decide ((gt { node := { data := #[] : ByteArray }, port := 0, point := { data := #[] : ByteArray }, const := { kind := 0, n := 0 : GValue }, delayed := false, initial := { kind := 0, n := 0 : GValue } : GLink } k.x0 k.x13.toNat).const.kind = (gt { node := { data := #[] : ByteArray }, port := 0, point := { data := #[] : ByteArray }, const := { kind := 0, n := 0 : GValue }, delayed := false, initial := { kind := 0, n := 0 : GValue } : GLink } k.x1 k.x13.toNat).const.kind) && (decide ((gt { node := { data := #[] : ByteArray }, port := 0, point := { data := #[] : ByteArray }, const := { kind := 0, n := 0 : GValue }, delayed := false, initial := { kind := 0, n := 0 : GValue } : GLink } k.x0 k.x13.toNat).const.n = (gt { node := { data := #[] : ByteArray }, port := 0, point := { data := #[] : ByteArray }, const := { kind := 0, n := 0 : GValue }, delayed := false, initial := { kind := 0, n := 0 : GValue } : GLink } k.x1 k.x13.toNat).const.n) && true) && ((gt { node := { data := #[] : ByteArray }, port := 0, point := { data := #[] : ByteArray }, const := { kind := 0, n := 0 : GValue }, delayed := false, initial := { kind := 0, n := 0 : GValue } : GLink } k.x0 k.x13.toNat).delayed == (gt { node := { data := #[] : ByteArray }, port := 0, point := { data := #[] : ByteArray }, const := { kind := 0, n := 0 : GValue }, delayed := false, initial := { kind := 0, n := 0 : GValue } : GLink } k.x1 k.x13.toNat).delayed && (decide ((gt { node := { data := #[] : ByteArray }, port := 0, point := { data := #[] : ByteArray }, const := { kind := 0, n := 0 : GValue }, delayed := false, initial := { kind := 0, n := 0 : GValue } : GLink } k.x0 k.x13.toNat).initial.kind = (gt { node := { data := #[] : ByteArray }, port := 0, point := { data := #[] : ByteArray }, const := { kind := 0, n := 0 : GValue }, delayed := false, initial := { kind := 0, n := 0 : GValue } : GLink } k.x1 k.x13.toNat).initial.kind) && (decide ((gt { node := { data := #[] : ByteArray }, port := 0, point := { data := #[] : ByteArray }, const := { kind := 0, n := 0 : GValue }, delayed := false, initial := { kind := 0, n := 0 : GValue } : GLink } k.x0 k.x13.toNat).initial.n = (gt { node := { data := #[] : ByteArray }, port := 0, point := { data := #[] : ByteArray }, const := { kind := 0, n := 0 : GValue }, delayed := false, initial := { kind := 0, n := 0 : GValue } : GLink } k.x1 k.x13.toNat).initial.n) && true) && true))))))) = true then
        ret ⟨(false)⟩
       else
        go ⟨(k.x0), (k.x1), (k.x4), (k.x12), (IntKind.i64.wrap (k.x13 + 1))⟩
      else
       no
     else
      no
    else
     no
   else
    no
  else
   ex ⟨(k.x4)⟩
def stepEl4 (k : KEl4) : Nx KEl4 EEl4 := stEl4 k .go .ex .ret .no
theorem BEl4 (k : KEl4) (m : Nat) (R : St At → Option (Res At)) (K : Xit → St At → Option (Res At)) : B CEl4 75 4 (m + 60) (SEl4 k) R K = stEl4 k (fun k => R (SEl4 k)) (fun x => K (.ex 0) (XEl4 x)) (fun x => K .ret (XEl4 x)) none := by kernel_rfl
def uEl4 (st : St At) : Option KEl4 := match st with
  | ⟨[(0, vx0), (1, vx1), (4, .bool x4), (12, .int .i64 x12), (13, .int .i64 x13)], [], [], 0⟩ => (match roV 55 vx0, roV 55 vx1 with | some x0, some x1 => some ⟨x0, x1, x4, x12, x13⟩ | _, _ => none)
  | _ => none
theorem uEl4_spec {st : St At} {k : KEl4} (h : uEl4 st = some k) : st = SEl4 k := by
  unfold uEl4 at h
  split at h
  · split at h
    · rename_i h0 h1
      obtain rfl := Option.some.inj h
      rw [roV_spec h0, roV_spec h1]
      rfl
    · cases h
  · cases h
theorem oklEl4 {g : LP} (hg : ∀ st K q, g st K = some q → ∃ k n e, st = SEl4 k ∧ iter stepEl4 n k = some e ∧ e.k 0 XEl4 XEl4 K = some q) : OKL 75 4 g := okl_iter CEl4_ok (S := SEl4) (X := XEl4) (Y := XEl4) (step := stepEl4) (id := 0) (by kernel_rfl) (by kernel_rfl)
  (fun k m R K => by rw [BEl4]; unfold stepEl4 stEl4; simp only [Nx.k_ite]; rfl) (fun k => by kernel_rfl) hg
theorem okfEl4 {g : LP} {fuel : KEl4 → Nat} {ok : KEl4 → Bool} {F : KEl4 → Fx EEl4} (hF : ∀ k, ok k = true → iter stepEl4 (fuel k) k = some (F k)) (hg : ∀ st K, g st K = (match uEl4 st with | some k => if ok k = true then (F k).k 0 XEl4 XEl4 K else none | none => none)) : OKL 75 4 g := oklEl4 fun st K q h => by
  rw [hg] at h
  split at h
  · rename_i k hu
    split at h
    · rename_i hok; exact ⟨k, _, _, uEl4_spec hu, hF k hok, h⟩
    · cases h
  · cases h
structure B_El4 where
  x13 : Int
abbrev P_El4 := Unit
structure Q_El4 where
  x4 : Bool
def putEl4 (k : KEl4) (b : B_El4) : KEl4 := ⟨k.x0, k.x1, k.x4, k.x12, b.x13⟩
def bEl4 (k : KEl4) : B_El4 := ⟨k.x13⟩
def xeEl4 (k : KEl4) (e : P_El4) : EEl4 := ⟨k.x4⟩
def xrEl4 (k : KEl4) (e : Q_El4) : EEl4 := ⟨e.x4⟩
def sEl4 (k : KEl4) (b : B_El4) : Nx2 B_El4 P_El4 Q_El4 := stEl4 (putEl4 k b) (fun k => .go ⟨k.x13⟩) (fun k => .ex ()) (fun k => .ret ⟨k.x4⟩) .no
def iEl4 (k : KEl4) : Option (P_El4 ⊕ Q_El4) := iter2 (sEl4 k) (k.x0.length) (bEl4 k)
def okEl4 (k : KEl4) : Bool := isO (iEl4 k)
def FEl4 (k : KEl4) : Fx EEl4 := if isLO (iEl4 k) = true then .ex (xeEl4 k (getLO () (iEl4 k))) else .ret (xrEl4 k (getRO ⟨k.x4⟩ (iEl4 k)))
theorem hEl4 (k : KEl4) (b : B_El4) : stepEl4 (putEl4 k b) = (sEl4 k b).up (putEl4 k) (xeEl4 k) (xrEl4 k) := by
  unfold stepEl4 sEl4 stEl4 putEl4
  dsimp only
  simp only [Nx2.up_ite]
  rfl
theorem iEl4_ok (k : KEl4) (h : okEl4 k = true) : iter stepEl4 (k.x0.length) k = some (FEl4 k) := iter2_ok (bEl4 k) (hEl4 k) h
def gEl4 : LP := fun st K => match uEl4 st with | some k => if okEl4 k = true then (if isLO (iEl4 k) = true then K (.ex 0) (XEl4 (⟨k.x4⟩ : EEl4)) else K .ret (XEl4 (⟨(getRO ⟨k.x4⟩ (iEl4 k)).x4⟩ : EEl4))) else none | none => none
theorem okgEl4 : OKL 75 4 gEl4 := okfEl4 (fuel := fun k => k.x0.length) (ok := okEl4) (F := FEl4) iEl4_ok fun st K => by
  unfold gEl4
  cases hu : uEl4 st with
  | none => rfl
  | some k =>
    dsimp only
    split
    · unfold FEl4
      cases isLO (iEl4 k) <;> rfl
    · rfl
def CEl : Cfg := { cs := libEa, ks := CEl4.ks, xs := CEl4.xs, lps := [((75, 4), gEl4)] }
theorem CEl_ok : CfgOK CEl := { con := libEa_ok, lp := .cons okgEl4 .nil }
def REl (a0 : List GLink) (a1 : List GLink) : Option (Res At) :=
  if (!decide ((↑a0.length : Int) = (↑a1.length : Int))) = true then
   some ((.bool false), [])
  else
   if okEl4 { x0 := a0, x1 := a1, x4 := false, x12 := (↑a0.length : Int), x13 := 0 : KEl4 } = true then
    if isLO (iEl4 { x0 := a0, x1 := a1, x4 := false, x12 := (↑a0.length : Int), x13 := 0 : KEl4 }) = true then
     some ((.bool true), [])
    else
     some ((.bool ((getRO { x4 := false : Q_El4 } (iEl4 { x0 := a0, x1 := a1, x4 := false, x12 := (↑a0.length : Int), x13 := 0 : KEl4 })).x4)), [])
   else
    none
theorem run_REl (a0 : List GLink) (a1 : List GLink) : runF CEl 80 75 [.ro 55 a0, .ro 55 a1] = REl a0 a1 := by kernel_rfl
def oEl (a0 : List GLink) (a1 : List GLink) : Option (Res At) := crR [none] (REl a0 a1)
def vEl (a0 : List GLink) (a1 : List GLink) : Bool := valO rB false (oEl a0 a1)
def cEl (a0 : List GLink) (a1 : List GLink) : Bool := okO rB (oEl a0 a1)
def conEl : CON := on2 (rR 55) (rR 55) fun a0 a1 => some (cEl a0 a1, (.bool (vEl a0 a1), []))
theorem okEl : OK 75 conEl := okc2 CEl_ok (n := 80) (ts := [none]) (a := (rR 55)) (b := (rR 55)) (r := rB) (d := false) (R := fun a0 a1 => REl a0 a1) (by kernel_rfl) fun a0 a1 => run_REl a0 a1
def libEl : List (Nat × CON) := (75, conEl) :: libEa
theorem libEl_ok : AllOK libEl := .cons okEl libEa_ok
def CEp : Cfg := { cs := libEl }
theorem CEp_ok : CfgOK CEp := { con := libEl_ok }
def REp (a0 : GNode) (a1 : GNode) : Option (Res At) :=
  if eqB a0.name a1.name = true then
   if eqB a0.block a1.block = true then
    if cEa a0.params a1.params = true then
     if vEa a0.params a1.params = true then
      if cEl a0.inputs a1.inputs = true then
       some ((.bool (vEl a0.inputs a1.inputs)), [])
      else
       none
     else
      some ((.bool false), [])
    else
     none
   else
    some ((.bool false), [])
  else
   some ((.bool false), [])
theorem run_REp (a0 : GNode) (a1 : GNode) : runF CEp 80 73 [.agg (enc58 a0), .agg (enc58 a1)] = REp a0 a1 := by kernel_rfl
def oEp (a0 : GNode) (a1 : GNode) : Option (Res At) := crR [none] (REp a0 a1)
def vEp (a0 : GNode) (a1 : GNode) : Bool := valO rB false (oEp a0 a1)
def cEp (a0 : GNode) (a1 : GNode) : Bool := okO rB (oEp a0 a1)
def conEp : CON := on2 (rA ex58 enc58 fun _ _ h => ex58_spec h) (rA ex58 enc58 fun _ _ h => ex58_spec h) fun a0 a1 => some (cEp a0 a1, (.bool (vEp a0 a1), []))
theorem okEp : OK 73 conEp := okc2 CEp_ok (n := 80) (ts := [none]) (a := (rA ex58 enc58 fun _ _ h => ex58_spec h)) (b := (rA ex58 enc58 fun _ _ h => ex58_spec h)) (r := rB) (d := false) (R := fun a0 a1 => REp a0 a1) (by kernel_rfl) fun a0 a1 => run_REp a0 a1
def libEp : List (Nat × CON) := (73, conEp) :: libEl
theorem libEp_ok : AllOK libEp := .cons okEp libEl_ok
structure KEn4 where
  x1 : List GNode
  x6 : Bool
  x15 : List GNode
  x16 : Int
  x17 : Int
structure EEn4 where
  x6 : Bool
def SEn4 (k : KEn4) : St At := { env := [(1, .ro 58 k.x1), (2, .fn 73 []), (6, .bool k.x6), (15, .ro 58 k.x15), (16, .int .i64 k.x16), (17, .int .i64 k.x17)], stk := [], hp := [], nx := 0 }
def XEn4 (k : EEn4) : St At := { env := [(6, .bool k.x6)], stk := [], hp := [], nx := 0 }
def CEn4 : Cfg := { cs := libEp, ks := [((72, 4), [(1, none), (2, none), (6, none), (15, none), (16, none), (17, none)])], xs := [((72, 4), [(6, none)])], lps := [] }
theorem CEn4_ok : CfgOK CEn4 := { con := libEp_ok }
def stEn4 {α : Type} (k : KEn4) (go : KEn4 → α) (ex ret : EEn4 → α) (no : α) : α :=
  if decide (k.x17 < k.x16) = true then
   if 0 ≤ k.x17 then
    if k.x17 < (↑k.x15.length : Int) then
     if 0 ≤ k.x17 then
      if k.x17 < (↑k.x1.length : Int) then
       if cEp (gt { name := { data := #[] : ByteArray }, block := { data := #[] : ByteArray }, params := [], inputs := [] : GNode } k.x15 k.x17.toNat) (gt { name := { data := #[] : ByteArray }, block := { data := #[] : ByteArray }, params := [], inputs := [] : GNode } k.x1 k.x17.toNat) = true then
        if (!vEp (gt { name := { data := #[] : ByteArray }, block := { data := #[] : ByteArray }, params := [], inputs := [] : GNode } k.x15 k.x17.toNat) (gt { name := { data := #[] : ByteArray }, block := { data := #[] : ByteArray }, params := [], inputs := [] : GNode } k.x1 k.x17.toNat)) = true then
         ret ⟨(false)⟩
        else
         go ⟨(k.x1), (k.x6), (k.x15), (k.x16), (IntKind.i64.wrap (k.x17 + 1))⟩
       else
        no
      else
       no
     else
      no
    else
     no
   else
    no
  else
   ex ⟨(k.x6)⟩
def stepEn4 (k : KEn4) : Nx KEn4 EEn4 := stEn4 k .go .ex .ret .no
theorem BEn4 (k : KEn4) (m : Nat) (R : St At → Option (Res At)) (K : Xit → St At → Option (Res At)) : B CEn4 72 4 (m + 60) (SEn4 k) R K = stEn4 k (fun k => R (SEn4 k)) (fun x => K (.ex 0) (XEn4 x)) (fun x => K .ret (XEn4 x)) none := by kernel_rfl
def uEn4 (st : St At) : Option KEn4 := match st with
  | ⟨[(1, vx1), (2, .fn 73 []), (6, .bool x6), (15, vx15), (16, .int .i64 x16), (17, .int .i64 x17)], [], [], 0⟩ => (match roV 58 vx1, roV 58 vx15 with | some x1, some x15 => some ⟨x1, x6, x15, x16, x17⟩ | _, _ => none)
  | _ => none
theorem uEn4_spec {st : St At} {k : KEn4} (h : uEn4 st = some k) : st = SEn4 k := by
  unfold uEn4 at h
  split at h
  · split at h
    · rename_i h0 h1
      obtain rfl := Option.some.inj h
      rw [roV_spec h0, roV_spec h1]
      rfl
    · cases h
  · cases h
theorem oklEn4 {g : LP} (hg : ∀ st K q, g st K = some q → ∃ k n e, st = SEn4 k ∧ iter stepEn4 n k = some e ∧ e.k 0 XEn4 XEn4 K = some q) : OKL 72 4 g := okl_iter CEn4_ok (S := SEn4) (X := XEn4) (Y := XEn4) (step := stepEn4) (id := 0) (by kernel_rfl) (by kernel_rfl)
  (fun k m R K => by rw [BEn4]; unfold stepEn4 stEn4; simp only [Nx.k_ite]; rfl) (fun k => by kernel_rfl) hg
theorem okfEn4 {g : LP} {fuel : KEn4 → Nat} {ok : KEn4 → Bool} {F : KEn4 → Fx EEn4} (hF : ∀ k, ok k = true → iter stepEn4 (fuel k) k = some (F k)) (hg : ∀ st K, g st K = (match uEn4 st with | some k => if ok k = true then (F k).k 0 XEn4 XEn4 K else none | none => none)) : OKL 72 4 g := oklEn4 fun st K q h => by
  rw [hg] at h
  split at h
  · rename_i k hu
    split at h
    · rename_i hok; exact ⟨k, _, _, uEn4_spec hu, hF k hok, h⟩
    · cases h
  · cases h
structure B_En4 where
  x17 : Int
abbrev P_En4 := Unit
structure Q_En4 where
  x6 : Bool
def putEn4 (k : KEn4) (b : B_En4) : KEn4 := ⟨k.x1, k.x6, k.x15, k.x16, b.x17⟩
def bEn4 (k : KEn4) : B_En4 := ⟨k.x17⟩
def xeEn4 (k : KEn4) (e : P_En4) : EEn4 := ⟨k.x6⟩
def xrEn4 (k : KEn4) (e : Q_En4) : EEn4 := ⟨e.x6⟩
def sEn4 (k : KEn4) (b : B_En4) : Nx2 B_En4 P_En4 Q_En4 := stEn4 (putEn4 k b) (fun k => .go ⟨k.x17⟩) (fun k => .ex ()) (fun k => .ret ⟨k.x6⟩) .no
def iEn4 (k : KEn4) : Option (P_En4 ⊕ Q_En4) := iter2 (sEn4 k) (k.x15.length) (bEn4 k)
def okEn4 (k : KEn4) : Bool := isO (iEn4 k)
def FEn4 (k : KEn4) : Fx EEn4 := if isLO (iEn4 k) = true then .ex (xeEn4 k (getLO () (iEn4 k))) else .ret (xrEn4 k (getRO ⟨k.x6⟩ (iEn4 k)))
theorem hEn4 (k : KEn4) (b : B_En4) : stepEn4 (putEn4 k b) = (sEn4 k b).up (putEn4 k) (xeEn4 k) (xrEn4 k) := by
  unfold stepEn4 sEn4 stEn4 putEn4
  dsimp only
  simp only [Nx2.up_ite]
  rfl
theorem iEn4_ok (k : KEn4) (h : okEn4 k = true) : iter stepEn4 (k.x15.length) k = some (FEn4 k) := iter2_ok (bEn4 k) (hEn4 k) h
def gEn4 : LP := fun st K => match uEn4 st with | some k => if okEn4 k = true then (if isLO (iEn4 k) = true then K (.ex 0) (XEn4 (⟨k.x6⟩ : EEn4)) else K .ret (XEn4 (⟨(getRO ⟨k.x6⟩ (iEn4 k)).x6⟩ : EEn4))) else none | none => none
theorem okgEn4 : OKL 72 4 gEn4 := okfEn4 (fuel := fun k => k.x15.length) (ok := okEn4) (F := FEn4) iEn4_ok fun st K => by
  unfold gEn4
  cases hu : uEn4 st with
  | none => rfl
  | some k =>
    dsimp only
    split
    · unfold FEn4
      cases isLO (iEn4 k) <;> rfl
    · rfl
def CEn : Cfg := { cs := libEp, ks := CEn4.ks, xs := CEn4.xs, lps := [((72, 4), gEn4)] }
theorem CEn_ok : CfgOK CEn := { con := libEp_ok, lp := .cons okgEn4 .nil }
def REn (a0 : List GNode) (a1 : List GNode) (a2 : Unit) : Option (Res At) :=
  if (!decide ((↑a0.length : Int) = (↑a1.length : Int))) = true then
   some ((.bool false), [])
  else
   if okEn4 { x1 := a1, x6 := false, x15 := a0, x16 := (↑a0.length : Int), x17 := 0 : KEn4 } = true then
    if isLO (iEn4 { x1 := a1, x6 := false, x15 := a0, x16 := (↑a0.length : Int), x17 := 0 : KEn4 }) = true then
     some ((.bool true), [])
    else
     some ((.bool ((getRO { x6 := false : Q_En4 } (iEn4 { x1 := a1, x6 := false, x15 := a0, x16 := (↑a0.length : Int), x17 := 0 : KEn4 })).x6)), [])
   else
    none
theorem run_REn (a0 : List GNode) (a1 : List GNode) (a2 : Unit) : runF CEn 80 72 [.ro 58 a0, .ro 58 a1, .fn 73 []] = REn a0 a1 a2 := by kernel_rfl
def oEn (a0 : List GNode) (a1 : List GNode) (a2 : Unit) : Option (Res At) := crR [none] (REn a0 a1 a2)
def vEn (a0 : List GNode) (a1 : List GNode) (a2 : Unit) : Bool := valO rB false (oEn a0 a1 a2)
def cEn (a0 : List GNode) (a1 : List GNode) (a2 : Unit) : Bool := okO rB (oEn a0 a1 a2)
def conEn : CON := on3 (rR 58) (rR 58) (rF0 73) fun a0 a1 a2 => some (cEn a0 a1 a2, (.bool (vEn a0 a1 a2), []))
theorem okEn : OK 72 conEn := okc3 CEn_ok (n := 80) (ts := [none]) (a := (rR 58)) (b := (rR 58)) (c := (rF0 73)) (r := rB) (d := false) (R := fun a0 a1 a2 => REn a0 a1 a2) (by kernel_rfl) fun a0 a1 a2 => run_REn a0 a1 a2
def libEn : List (Nat × CON) := (72, conEn) :: libEp
theorem libEn_ok : AllOK libEn := .cons okEn libEp_ok
def CEq : Cfg := { cs := libEn }
theorem CEq_ok : CfgOK CEq := { con := libEn_ok }
def REq (a0 : GProgram) (a1 : GProgram) : Option (Res At) :=
  if eqB a0.name a1.name = true then
   if decide (a0.period = a1.period) = true then
    if cEd a0.drives a1.drives = true then
     if vEd a0.drives a1.drives = true then
      if cEn a0.nodes a1.nodes () = true then
       some ((.bool (vEn a0.nodes a1.nodes ())), [])
      else
       none
     else
      some ((.bool false), [])
    else
     none
   else
    some ((.bool false), [])
  else
   some ((.bool false), [])
theorem run_REq (a0 : GProgram) (a1 : GProgram) : runF CEq 80 18 [.agg (enc31 a0), .agg (enc31 a1)] = REq a0 a1 := by kernel_rfl
def oEq (a0 : GProgram) (a1 : GProgram) : Option (Res At) := crR [none] (REq a0 a1)
def vEq (a0 : GProgram) (a1 : GProgram) : Bool := valO rB false (oEq a0 a1)
def cEq (a0 : GProgram) (a1 : GProgram) : Bool := okO rB (oEq a0 a1)
def conEq : CON := on2 (rA ex31 enc31 fun _ _ h => ex31_spec h) (rA ex31 enc31 fun _ _ h => ex31_spec h) fun a0 a1 => some (cEq a0 a1, (.bool (vEq a0 a1), []))
theorem okEq : OK 18 conEq := okc2 CEq_ok (n := 80) (ts := [none]) (a := (rA ex31 enc31 fun _ _ h => ex31_spec h)) (b := (rA ex31 enc31 fun _ _ h => ex31_spec h)) (r := rB) (d := false) (R := fun a0 a1 => REq a0 a1) (by kernel_rfl) fun a0 a1 => run_REq a0 a1
def libEq : List (Nat × CON) := (18, conEq) :: libEn
theorem libEq_ok : AllOK libEq := .cons okEq libEn_ok
end
end Go.Proofs.YtpbpebjfglfjfaaGreatDoor.X
/-! Find; lists of texts compared. -/
namespace Go.Proofs.YtpbpebjfglfjfaaGreatDoor.X
open Go Go.Proofs Go.RowKit Go.Proofs.YtpbpebjfglfjfaaGreatDoor
noncomputable section
def CFd : Cfg := { cs := libEq }
theorem CFd_ok : CfgOK CFd := { con := libEq_ok }
def RFd (a0 : GProgram) (a1 : ByteArray) : Option (Res At) :=
  if cFi a0 a1 = true then
   if decide (vFi a0 a1 < 0) = true then
    some ((.tup [(.int .i64 0), (.int .i64 3)]), [])
   else
    some ((.tup [(.int .i64 (vFi a0 a1)), (.int .i64 0)]), [])
  else
   none
theorem run_RFd (a0 : GProgram) (a1 : ByteArray) : runF CFd 80 22 [.agg (enc31 a0), .str a1] = RFd a0 a1 := by kernel_rfl
def oFd (a0 : GProgram) (a1 : ByteArray) : Option (Res At) := crR [none, none] (RFd a0 a1)
def vFd (a0 : GProgram) (a1 : ByteArray) : Int × Int := valO (rT2 (rI .i64) (rI .i64)) (0, 0) (oFd a0 a1)
def cFd (a0 : GProgram) (a1 : ByteArray) : Bool := okO (rT2 (rI .i64) (rI .i64)) (oFd a0 a1)
def conFd : CON := on2 (rA ex31 enc31 fun _ _ h => ex31_spec h) rS fun a0 a1 => some (cFd a0 a1, (.tup [.int .i64 (vFd a0 a1).1, .int .i64 (vFd a0 a1).2], []))
theorem okFd : OK 22 conFd := okc2 CFd_ok (n := 80) (ts := [none, none]) (a := (rA ex31 enc31 fun _ _ h => ex31_spec h)) (b := rS) (r := (rT2 (rI .i64) (rI .i64))) (d := (0, 0)) (R := fun a0 a1 => RFd a0 a1) (by kernel_rfl) fun a0 a1 => run_RFd a0 a1
def libFd : List (Nat × CON) := (22, conFd) :: libEq
theorem libFd_ok : AllOK libFd := .cons okFd libEq_ok
structure KSa4 where
  x0 : List ByteArray
  x1 : List ByteArray
  x4 : Bool
  x5 : Int
structure ESa4 where
  x4 : Bool
def SSa4 (k : KSa4) : St At := { env := [(0, .ro 9 k.x0), (1, .ro 9 k.x1), (4, .bool k.x4), (5, .int .i64 k.x5)], stk := [], hp := [], nx := 0 }
def XSa4 (k : ESa4) : St At := { env := [(4, .bool k.x4)], stk := [], hp := [], nx := 0 }
def CSa4 : Cfg := { cs := libFd, ks := [((19, 4), [(0, none), (1, none), (4, none), (5, none)])], xs := [((19, 4), [(4, none)])], lps := [] }
theorem CSa4_ok : CfgOK CSa4 := { con := libFd_ok }
def stSa4 {α : Type} (k : KSa4) (go : KSa4 → α) (ex ret : ESa4 → α) (no : α) : α :=
  if decide (k.x5 < (↑k.x0.length : Int)) = true then
   if 0 ≤ k.x5 then
    if k.x5 < (↑k.x0.length : Int) then
     if 0 ≤ k.x5 then
      if k.x5 < (↑k.x1.length : Int) then
       if (!eqB (gt { data := #[] : ByteArray } k.x0 k.x5.toNat) (gt { data := #[] : ByteArray } k.x1 k.x5.toNat)) = true then
        ret ⟨(false)⟩
       else
        go ⟨(k.x0), (k.x1), (k.x4), (IntKind.i64.wrap (k.x5 + 1))⟩
      else
       no
     else
      no
    else
     no
   else
    no
  else
   ex ⟨(k.x4)⟩
def stepSa4 (k : KSa4) : Nx KSa4 ESa4 := stSa4 k .go .ex .ret .no
theorem BSa4 (k : KSa4) (m : Nat) (R : St At → Option (Res At)) (K : Xit → St At → Option (Res At)) : B CSa4 19 4 (m + 60) (SSa4 k) R K = stSa4 k (fun k => R (SSa4 k)) (fun x => K (.ex 0) (XSa4 x)) (fun x => K .ret (XSa4 x)) none := by kernel_rfl
def uSa4 (st : St At) : Option KSa4 := match st with
  | ⟨[(0, vx0), (1, vx1), (4, .bool x4), (5, .int .i64 x5)], [], [], 0⟩ => (match roV 9 vx0, roV 9 vx1 with | some x0, some x1 => some ⟨x0, x1, x4, x5⟩ | _, _ => none)
  | _ => none
theorem uSa4_spec {st : St At} {k : KSa4} (h : uSa4 st = some k) : st = SSa4 k := by
  unfold uSa4 at h
  split at h
  · split at h
    · rename_i h0 h1
      obtain rfl := Option.some.inj h
      rw [roV_spec h0, roV_spec h1]
      rfl
    · cases h
  · cases h
theorem oklSa4 {g : LP} (hg : ∀ st K q, g st K = some q → ∃ k n e, st = SSa4 k ∧ iter stepSa4 n k = some e ∧ e.k 0 XSa4 XSa4 K = some q) : OKL 19 4 g := okl_iter CSa4_ok (S := SSa4) (X := XSa4) (Y := XSa4) (step := stepSa4) (id := 0) (by kernel_rfl) (by kernel_rfl)
  (fun k m R K => by rw [BSa4]; unfold stepSa4 stSa4; simp only [Nx.k_ite]; rfl) (fun k => by kernel_rfl) hg
theorem okfSa4 {g : LP} {fuel : KSa4 → Nat} {ok : KSa4 → Bool} {F : KSa4 → Fx ESa4} (hF : ∀ k, ok k = true → iter stepSa4 (fuel k) k = some (F k)) (hg : ∀ st K, g st K = (match uSa4 st with | some k => if ok k = true then (F k).k 0 XSa4 XSa4 K else none | none => none)) : OKL 19 4 g := oklSa4 fun st K q h => by
  rw [hg] at h
  split at h
  · rename_i k hu
    split at h
    · rename_i hok; exact ⟨k, _, _, uSa4_spec hu, hF k hok, h⟩
    · cases h
  · cases h
structure B_Sa4 where
  x5 : Int
abbrev P_Sa4 := Unit
structure Q_Sa4 where
  x4 : Bool
def putSa4 (k : KSa4) (b : B_Sa4) : KSa4 := ⟨k.x0, k.x1, k.x4, b.x5⟩
def bSa4 (k : KSa4) : B_Sa4 := ⟨k.x5⟩
def xeSa4 (k : KSa4) (e : P_Sa4) : ESa4 := ⟨k.x4⟩
def xrSa4 (k : KSa4) (e : Q_Sa4) : ESa4 := ⟨e.x4⟩
def sSa4 (k : KSa4) (b : B_Sa4) : Nx2 B_Sa4 P_Sa4 Q_Sa4 := stSa4 (putSa4 k b) (fun k => .go ⟨k.x5⟩) (fun k => .ex ()) (fun k => .ret ⟨k.x4⟩) .no
def iSa4 (k : KSa4) : Option (P_Sa4 ⊕ Q_Sa4) := iter2 (sSa4 k) (k.x0.length) (bSa4 k)
def okSa4 (k : KSa4) : Bool := isO (iSa4 k)
def FSa4 (k : KSa4) : Fx ESa4 := if isLO (iSa4 k) = true then .ex (xeSa4 k (getLO () (iSa4 k))) else .ret (xrSa4 k (getRO ⟨k.x4⟩ (iSa4 k)))
theorem hSa4 (k : KSa4) (b : B_Sa4) : stepSa4 (putSa4 k b) = (sSa4 k b).up (putSa4 k) (xeSa4 k) (xrSa4 k) := by
  unfold stepSa4 sSa4 stSa4 putSa4
  dsimp only
  simp only [Nx2.up_ite]
  rfl
theorem iSa4_ok (k : KSa4) (h : okSa4 k = true) : iter stepSa4 (k.x0.length) k = some (FSa4 k) := iter2_ok (bSa4 k) (hSa4 k) h
def gSa4 : LP := fun st K => match uSa4 st with | some k => if okSa4 k = true then (if isLO (iSa4 k) = true then K (.ex 0) (XSa4 (⟨k.x4⟩ : ESa4)) else K .ret (XSa4 (⟨(getRO ⟨k.x4⟩ (iSa4 k)).x4⟩ : ESa4))) else none | none => none
theorem okgSa4 : OKL 19 4 gSa4 := okfSa4 (fuel := fun k => k.x0.length) (ok := okSa4) (F := FSa4) iSa4_ok fun st K => by
  unfold gSa4
  cases hu : uSa4 st with
  | none => rfl
  | some k =>
    dsimp only
    split
    · unfold FSa4
      cases isLO (iSa4 k) <;> rfl
    · rfl
def CSa : Cfg := { cs := libFd, ks := CSa4.ks, xs := CSa4.xs, lps := [((19, 4), gSa4)] }
theorem CSa_ok : CfgOK CSa := { con := libFd_ok, lp := .cons okgSa4 .nil }
def RSa (a0 : List ByteArray) (a1 : List ByteArray) : Option (Res At) :=
  if (!decide ((↑a0.length : Int) = (↑a1.length : Int))) = true then
   some ((.bool false), [])
  else
   if okSa4 { x0 := a0, x1 := a1, x4 := false, x5 := 0 : KSa4 } = true then
    if isLO (iSa4 { x0 := a0, x1 := a1, x4 := false, x5 := 0 : KSa4 }) = true then
     some ((.bool true), [])
    else
     some ((.bool ((getRO { x4 := false : Q_Sa4 } (iSa4 { x0 := a0, x1 := a1, x4 := false, x5 := 0 : KSa4 })).x4)), [])
   else
    none
theorem run_RSa (a0 : List ByteArray) (a1 : List ByteArray) : runF CSa 80 19 [.ro 9 a0, .ro 9 a1] = RSa a0 a1 := by kernel_rfl
def oSa (a0 : List ByteArray) (a1 : List ByteArray) : Option (Res At) := crR [none] (RSa a0 a1)
def vSa (a0 : List ByteArray) (a1 : List ByteArray) : Bool := valO rB false (oSa a0 a1)
def cSa (a0 : List ByteArray) (a1 : List ByteArray) : Bool := okO rB (oSa a0 a1)
def conSa : CON := on2 (rR 9) (rR 9) fun a0 a1 => some (cSa a0 a1, (.bool (vSa a0 a1), []))
theorem okSa : OK 19 conSa := okc2 CSa_ok (n := 80) (ts := [none]) (a := (rR 9)) (b := (rR 9)) (r := rB) (d := false) (R := fun a0 a1 => RSa a0 a1) (by kernel_rfl) fun a0 a1 => run_RSa a0 a1
def libSa : List (Nat × CON) := (19, conSa) :: libFd
theorem libSa_ok : AllOK libSa := .cons okSa libFd_ok
end
end Go.Proofs.YtpbpebjfglfjfaaGreatDoor.X
/-! Drives; the law of Used. -/
namespace Go.Proofs.YtpbpebjfglfjfaaGreatDoor.X
open Go Go.Proofs Go.RowKit Go.Proofs.YtpbpebjfglfjfaaGreatDoor
noncomputable section
structure KDr3 where
  x3 : List ByteArray
  x7 : List GDrive
  x8 : Int
  x9 : Int
structure EDr3 where
  x3 : List ByteArray
def SDr3 (k : KDr3) : St At := { env := [(3, .own 0), (7, .ro 89 k.x7), (8, .int .i64 k.x8), (9, .int .i64 k.x9)], stk := [], hp := [(0, .row 9 k.x3 false)], nx := 1 }
def XDr3 (k : EDr3) : St At := { env := [(3, .own 0)], stk := [], hp := [(0, .row 9 k.x3 false)], nx := 1 }
def CDr3 : Cfg := { cs := libSa, ks := [((20, 3), [(3, some 9), (7, none), (8, none), (9, none)])], xs := [((20, 3), [(3, some 9)])], lps := [], ins := [76], ps := [(134, pSort), (135, pComp)] }
theorem CDr3_ok : CfgOK CDr3 := { con := libSa_ok, pc := .cons okSort (.cons okComp .nil) }
def stDr3 {α : Type} (k : KDr3) (go : KDr3 → α) (ex ret : EDr3 → α) (no : α) : α :=
  if decide (k.x9 < k.x8) = true then
   if 0 ≤ k.x9 then
    if k.x9 < (↑k.x7.length : Int) then
     if k.x3.length + [(gt { point := { data := #[] : ByteArray }, level := 0, from_ := { node := { data := #[] : ByteArray }, port := 0, point := { data := #[] : ByteArray }, const := { kind := 0, n := 0 : GValue }, delayed := false, initial := { kind := 0, n := 0 : GValue } : GLink } : GDrive } k.x7 k.x9.toNat).point].length < 16777216 then
      go ⟨(k.x3 ++ [(gt { point := { data := #[] : ByteArray }, level := 0, from_ := { node := { data := #[] : ByteArray }, port := 0, point := { data := #[] : ByteArray }, const := { kind := 0, n := 0 : GValue }, delayed := false, initial := { kind := 0, n := 0 : GValue } : GLink } : GDrive } k.x7 k.x9.toNat).point]), (k.x7), (k.x8), (IntKind.i64.wrap (k.x9 + 1))⟩
     else
      no
    else
     no
   else
    no
  else
   ex ⟨(k.x3)⟩
def stepDr3 (k : KDr3) : Nx KDr3 EDr3 := stDr3 k .go .ex .ret .no
theorem BDr3 (k : KDr3) (m : Nat) (R : St At → Option (Res At)) (K : Xit → St At → Option (Res At)) : B CDr3 20 3 (m + 60) (SDr3 k) R K = stDr3 k (fun k => R (SDr3 k)) (fun x => K (.ex 0) (XDr3 x)) (fun x => K .ret (XDr3 x)) none := by kernel_rfl
def uDr3 (st : St At) : Option KDr3 := match st with
  | ⟨[(3, .own 0), (7, vx7), (8, .int .i64 x8), (9, .int .i64 x9)], [], [(0, bx3)], 1⟩ => (match rowB 9 bx3, roV 89 vx7 with | some x3, some x7 => some ⟨x3, x7, x8, x9⟩ | _, _ => none)
  | _ => none
theorem uDr3_spec {st : St At} {k : KDr3} (h : uDr3 st = some k) : st = SDr3 k := by
  unfold uDr3 at h
  split at h
  · split at h
    · rename_i h0 h1
      obtain rfl := Option.some.inj h
      rw [rowB_spec h0, roV_spec h1]
      rfl
    · cases h
  · cases h
theorem oklDr3 {g : LP} (hg : ∀ st K q, g st K = some q → ∃ k n e, st = SDr3 k ∧ iter stepDr3 n k = some e ∧ e.k 0 XDr3 XDr3 K = some q) : OKL 20 3 g := okl_iter CDr3_ok (S := SDr3) (X := XDr3) (Y := XDr3) (step := stepDr3) (id := 0) (by kernel_rfl) (by kernel_rfl)
  (fun k m R K => by rw [BDr3]; unfold stepDr3 stDr3; simp only [Nx.k_ite]; rfl) (fun k => by kernel_rfl) hg
theorem okfDr3 {g : LP} {fuel : KDr3 → Nat} {ok : KDr3 → Bool} {F : KDr3 → Fx EDr3} (hF : ∀ k, ok k = true → iter stepDr3 (fuel k) k = some (F k)) (hg : ∀ st K, g st K = (match uDr3 st with | some k => if ok k = true then (F k).k 0 XDr3 XDr3 K else none | none => none)) : OKL 20 3 g := oklDr3 fun st K q h => by
  rw [hg] at h
  split at h
  · rename_i k hu
    split at h
    · rename_i hok; exact ⟨k, _, _, uDr3_spec hu, hF k hok, h⟩
    · cases h
  · cases h
structure B_Dr3 where
  x3 : List ByteArray
def fDr3 (k : KDr3) (b : B_Dr3) (x : GDrive) : Option (B_Dr3 ⊕ EDr3) :=
  if b.x3.length + [x.point].length < 16777216 then
   some (.inl ⟨(b.x3 ++ [x.point])⟩)
  else
   none
def xDr3 (k : KDr3) (b : B_Dr3) : EDr3 := ⟨(b.x3)⟩
def putDr3 (k : KDr3) (b : B_Dr3) (j : Nat) : KDr3 := ⟨b.x3, k.x7, k.x8, (j : Int)⟩
def bDr3 (k : KDr3) : B_Dr3 := ⟨k.x3⟩
def oDr3 (k : KDr3) : Option (B_Dr3 ⊕ EDr3) := scanO (fDr3 k) (bDr3 k) k.x7
def okDr3 (k : KDr3) : Bool := decide (k.x9 = 0) && (decide (k.x8 = (k.x7.length : Int)) && (Nat.ble k.x7.length 9223372036854775807 && isOO (oDr3 k)))
def FDr3 (k : KDr3) : Fx EDr3 := fxO (xDr3 k) (bDr3 k) (xDr3 k (bDr3 k)) (oDr3 k)
theorem sDr3 (k : KDr3) (hn : k.x8 = (k.x7.length : Int)) (hm : k.x7.length ≤ 9223372036854775807) (b : B_Dr3) (j : Nat) (h : j < k.x7.length) : stepDr3 (putDr3 k b j) = nxO (fun b' => putDr3 k b' (j + 1)) (fDr3 k b k.x7[j]) := by
  unfold stepDr3 stDr3 fDr3 putDr3
  dsimp only
  simp only [hn, nxO_ite, cnt' h hm, gtj' _ _ _ h, if_pos (lt1' h), if_pos (lt0' (j := j)), if_pos (lt2' h)]
  rfl
theorem eDr3 (k : KDr3) (hn : k.x8 = (k.x7.length : Int)) (b : B_Dr3) : stepDr3 (putDr3 k b k.x7.length) = .ex (xDr3 k b) := by
  unfold stepDr3 stDr3 putDr3
  dsimp only
  rw [hn, if_neg lt3']
  rfl
theorem iDr3 (k : KDr3) (h : okDr3 k = true) : iter stepDr3 (k.x7).length k = some (FDr3 k) := by
  unfold okDr3 at h
  simp only [Bool.and_eq_true, decide_eq_true_eq] at h
  obtain ⟨h0, h1, h2, h3⟩ := h
  replace h2 := Nat.le_of_ble_eq_true h2
  have e : k = putDr3 k (bDr3 k) 0 := by cases k; dsimp only at h0; subst h0; rfl
  have := iter_scanO (step := stepDr3) k.x7 (putDr3 k) (fDr3 k) (xDr3 k) (bDr3 k) (xDr3 k (bDr3 k)) (fun b j h => sDr3 k h1 h2 b j h) (fun b => eDr3 k h1 b) k.x7.length 0 (bDr3 k) (by simp) (by rw [List.drop_zero]; exact h3)
  rw [List.drop_zero, ← e] at this
  exact this
def gDr3 : LP := fun st K => match uDr3 st with | some k => if okDr3 k = true then (if isLO (oDr3 k) = true then K (.ex 0) (XDr3 (⟨((getLO (bDr3 k) (oDr3 k)).x3)⟩ : EDr3)) else K .ret (XDr3 (getRO (xDr3 k (bDr3 k)) (oDr3 k)))) else none | none => none
theorem okgDr3 : OKL 20 3 gDr3 := okfDr3 (fuel := fun k => (k.x7).length) (ok := okDr3) (F := FDr3) iDr3 fun st K => by
  unfold gDr3
  cases hu : uDr3 st with
  | none => rfl
  | some k =>
    dsimp only
    split
    · unfold FDr3 fxO
      cases isLO (oDr3 k) <;> rfl
    · rfl
def CDr : Cfg := { cs := libSa, ks := CDr3.ks, xs := CDr3.xs, lps := [((20, 3), gDr3)], ins := [76], ps := [(134, pSort), (135, pComp)] }
theorem CDr_ok : CfgOK CDr := { con := libSa_ok, lp := .cons okgDr3 .nil, pc := .cons okSort (.cons okComp .nil) }
def RDr (a0 : GProgram) : Option (Res At) :=
  if okDr3 { x3 := [], x7 := a0.drives, x8 := (↑a0.drives.length : Int), x9 := 0 : KDr3 } = true then
   if isLO (oDr3 { x3 := [], x7 := a0.drives, x8 := (↑a0.drives.length : Int), x9 := 0 : KDr3 }) = true then
    if (getLO (bDr3 { x3 := [], x7 := a0.drives, x8 := (↑a0.drives.length : Int), x9 := 0 : KDr3 }) (oDr3 { x3 := [], x7 := a0.drives, x8 := (↑a0.drives.length : Int), x9 := 0 : KDr3 })).x3.length.blt 4611686018427387904 = true then
     if (sortB (getLO (bDr3 { x3 := [], x7 := a0.drives, x8 := (↑a0.drives.length : Int), x9 := 0 : KDr3 }) (oDr3 { x3 := [], x7 := a0.drives, x8 := (↑a0.drives.length : Int), x9 := 0 : KDr3 })).x3).length.ble 9223372036854775807 = true then
      some ((.own 0), [(0, (.row 9 (compB (sortB (getLO (bDr3 { x3 := [], x7 := a0.drives, x8 := (↑a0.drives.length : Int), x9 := 0 : KDr3 }) (oDr3 { x3 := [], x7 := a0.drives, x8 := (↑a0.drives.length : Int), x9 := 0 : KDr3 })).x3)) false))])
     else
      none
    else
     none
   else
    some (.unk, [])
  else
   none
theorem run_RDr (a0 : GProgram) : runF CDr 80 20 [.agg (enc31 a0)] = RDr a0 := by kernel_rfl
def oDr (a0 : GProgram) : Option (Res At) := crR [some 9] (RDr a0)
def vDr (a0 : GProgram) : List ByteArray := valO (rR 9) [] (oDr a0)
def cDr (a0 : GProgram) : Bool := okO (rR 9) (oDr a0)
def conDr : CON := on1 (rA ex31 enc31 fun _ _ h => ex31_spec h) fun a0 => some (cDr a0, (.ro 9 (vDr a0), []))
theorem okDr : OK 20 conDr := okc1 CDr_ok (n := 80) (ts := [some 9]) (a := (rA ex31 enc31 fun _ _ h => ex31_spec h)) (r := (rR 9)) (d := []) (R := fun a0 => RDr a0) (by kernel_rfl) fun a0 => run_RDr a0
def libDr : List (Nat × CON) := (20, conDr) :: libSa
theorem libDr_ok : AllOK libDr := .cons okDr libSa_ok
structure KUl21 where
  x4 : Bool
  x5 : GProgram
  x9 : List GLink
  x13 : Int
  x14 : Bool
  x15 : Int
structure EUl21 where
  x4 : Bool
  x5 : GProgram
  x9 : List GLink
  x13 : Int
  x14 : Bool
def SUl21 (k : KUl21) : St At := { env := [(4, .bool k.x4), (5, .ptr 0 0), (9, .ro 55 k.x9), (13, .int .i64 k.x13), (14, .bool k.x14), (15, .int .i64 k.x15)], stk := [], hp := [(0, .var (enc31 k.x5) false)], nx := 1 }
def XUl21 (k : EUl21) : St At := { env := [(4, .bool k.x4), (5, .ptr 0 0), (9, .ro 55 k.x9), (13, .int .i64 k.x13), (14, .bool k.x14)], stk := [], hp := [(0, .var (enc31 k.x5) false)], nx := 1 }
def CUl21 : Cfg := { cs := libDr, ks := [((5, 21), [(4, none), (5, none), (9, none), (13, none), (14, none), (15, none)])], xs := [((5, 21), [(4, none), (5, none), (9, none), (13, none), (14, none)])], lps := [] }
theorem CUl21_ok : CfgOK CUl21 := { con := libDr_ok }
def stUl21 {α : Type} (k : KUl21) (go : KUl21 → α) (ex ret : EUl21 → α) (no : α) : α :=
  if decide (k.x15 < (↑k.x9.length : Int)) = true then
   if k.x14 = false then
    if 0 ≤ k.x15 then
     if k.x15 < (↑k.x9.length : Int) then
      if 0 ≤ k.x13 then
       if k.x13 < (↑k.x5.nodes.length : Int) then
        go ⟨(k.x4), (k.x5), (k.x9), (k.x13), (eqB (gt { node := { data := #[] : ByteArray }, port := 0, point := { data := #[] : ByteArray }, const := { kind := 0, n := 0 : GValue }, delayed := false, initial := { kind := 0, n := 0 : GValue } : GLink } k.x9 k.x15.toNat).node (gt { name := { data := #[] : ByteArray }, block := { data := #[] : ByteArray }, params := [], inputs := [] : GNode } k.x5.nodes k.x13.toNat).name), (IntKind.i64.wrap (k.x15 + 1))⟩
       else
        no
      else
       no
     else
      no
    else
     no
   else
    go ⟨(k.x4), (k.x5), (k.x9), (k.x13), (true), (IntKind.i64.wrap (k.x15 + 1))⟩
  else
   ex ⟨(k.x4), (k.x5), (k.x9), (k.x13), (k.x14)⟩
def stepUl21 (k : KUl21) : Nx KUl21 EUl21 := stUl21 k .go .ex .ret .no
theorem BUl21 (k : KUl21) (m : Nat) (R : St At → Option (Res At)) (K : Xit → St At → Option (Res At)) : B CUl21 5 21 (m + 60) (SUl21 k) R K = stUl21 k (fun k => R (SUl21 k)) (fun x => K (.ex 4) (XUl21 x)) (fun x => K .ret (XUl21 x)) none := by kernel_rfl
def uUl21 (st : St At) : Option KUl21 := match st with
  | ⟨[(4, .bool x4), (5, .ptr 0 0), (9, vx9), (13, .int .i64 x13), (14, .bool x14), (15, .int .i64 x15)], [], [(0, .var wx5 false)], 1⟩ => (match ex31 wx5, roV 55 vx9 with | some x5, some x9 => some ⟨x4, x5, x9, x13, x14, x15⟩ | _, _ => none)
  | _ => none
theorem uUl21_spec {st : St At} {k : KUl21} (h : uUl21 st = some k) : st = SUl21 k := by
  unfold uUl21 at h
  split at h
  · split at h
    · rename_i h0 h1
      obtain rfl := Option.some.inj h
      rw [ex31_spec h0, roV_spec h1]
      rfl
    · cases h
  · cases h
theorem oklUl21 {g : LP} (hg : ∀ st K q, g st K = some q → ∃ k n e, st = SUl21 k ∧ iter stepUl21 n k = some e ∧ e.k 4 XUl21 XUl21 K = some q) : OKL 5 21 g := okl_iter CUl21_ok (S := SUl21) (X := XUl21) (Y := XUl21) (step := stepUl21) (id := 4) (by kernel_rfl) (by kernel_rfl)
  (fun k m R K => by rw [BUl21]; unfold stepUl21 stUl21; simp only [Nx.k_ite]; rfl) (fun k => by kernel_rfl) hg
theorem okfUl21 {g : LP} {fuel : KUl21 → Nat} {ok : KUl21 → Bool} {F : KUl21 → Fx EUl21} (hF : ∀ k, ok k = true → iter stepUl21 (fuel k) k = some (F k)) (hg : ∀ st K, g st K = (match uUl21 st with | some k => if ok k = true then (F k).k 4 XUl21 XUl21 K else none | none => none)) : OKL 5 21 g := oklUl21 fun st K q h => by
  rw [hg] at h
  split at h
  · rename_i k hu
    split at h
    · rename_i hok; exact ⟨k, _, _, uUl21_spec hu, hF k hok, h⟩
    · cases h
  · cases h
structure B_Ul21 where
  x14 : Bool
  x15 : Int
structure P_Ul21 where
  x14 : Bool
structure Q_Ul21 where
  x14 : Bool
def putUl21 (k : KUl21) (b : B_Ul21) : KUl21 := ⟨k.x4, k.x5, k.x9, k.x13, b.x14, b.x15⟩
def bUl21 (k : KUl21) : B_Ul21 := ⟨k.x14, k.x15⟩
def xeUl21 (k : KUl21) (e : P_Ul21) : EUl21 := ⟨k.x4, k.x5, k.x9, k.x13, e.x14⟩
def xrUl21 (k : KUl21) (e : Q_Ul21) : EUl21 := ⟨k.x4, k.x5, k.x9, k.x13, e.x14⟩
def sUl21 (k : KUl21) (b : B_Ul21) : Nx2 B_Ul21 P_Ul21 Q_Ul21 := stUl21 (putUl21 k b) (fun k => .go ⟨k.x14, k.x15⟩) (fun k => .ex ⟨k.x14⟩) (fun k => .ret ⟨k.x14⟩) .no
def iUl21 (k : KUl21) : Option (P_Ul21 ⊕ Q_Ul21) := iter2 (sUl21 k) (k.x9.length) (bUl21 k)
def okUl21 (k : KUl21) : Bool := isO (iUl21 k)
def FUl21 (k : KUl21) : Fx EUl21 := if isLO (iUl21 k) = true then .ex (xeUl21 k (getLO ⟨k.x14⟩ (iUl21 k))) else .ret (xrUl21 k (getRO ⟨k.x14⟩ (iUl21 k)))
theorem hUl21 (k : KUl21) (b : B_Ul21) : stepUl21 (putUl21 k b) = (sUl21 k b).up (putUl21 k) (xeUl21 k) (xrUl21 k) := by
  unfold stepUl21 sUl21 stUl21 putUl21
  dsimp only
  simp only [Nx2.up_ite]
  rfl
theorem iUl21_ok (k : KUl21) (h : okUl21 k = true) : iter stepUl21 (k.x9.length) k = some (FUl21 k) := iter2_ok (bUl21 k) (hUl21 k) h
def gUl21 : LP := fun st K => match uUl21 st with | some k => if okUl21 k = true then (if isLO (iUl21 k) = true then K (.ex 4) (XUl21 (⟨k.x4, k.x5, k.x9, k.x13, (getLO ⟨k.x14⟩ (iUl21 k)).x14⟩ : EUl21)) else K .ret (XUl21 (⟨k.x4, k.x5, k.x9, k.x13, (getRO ⟨k.x14⟩ (iUl21 k)).x14⟩ : EUl21))) else none | none => none
theorem okgUl21 : OKL 5 21 gUl21 := okfUl21 (fuel := fun k => k.x9.length) (ok := okUl21) (F := FUl21) iUl21_ok fun st K => by
  unfold gUl21
  cases hu : uUl21 st with
  | none => rfl
  | some k =>
    dsimp only
    split
    · unfold FUl21
      cases isLO (iUl21 k) <;> rfl
    · rfl
structure KUl11 where
  x4 : Bool
  x5 : GProgram
  x9 : List GLink
  x10 : Int
structure EUl11 where
  x4 : Bool
  x5 : GProgram
  x9 : List GLink
def SUl11 (k : KUl11) : St At := { env := [(4, .bool k.x4), (5, .ptr 0 0), (9, .ro 55 k.x9), (10, .int .i64 k.x10)], stk := [], hp := [(0, .var (enc31 k.x5) false)], nx := 1 }
def XUl11 (k : EUl11) : St At := { env := [(4, .bool k.x4), (5, .ptr 0 0), (9, .ro 55 k.x9)], stk := [], hp := [(0, .var (enc31 k.x5) false)], nx := 1 }
def CUl11 : Cfg := { cs := libDr, ks := [((5, 11), [(4, none), (5, none), (9, none), (10, none)])], xs := [((5, 11), [(4, none), (5, none), (9, none)])], lps := [] }
theorem CUl11_ok : CfgOK CUl11 := { con := libDr_ok }
def stUl11 {α : Type} (k : KUl11) (go : KUl11 → α) (ex ret : EUl11 → α) (no : α) : α :=
  if decide (k.x10 < (↑k.x9.length : Int)) = true then
   if 0 ≤ k.x10 then
    if k.x10 < (↑k.x9.length : Int) then
     if cFd k.x5 (gt { node := { data := #[] : ByteArray }, port := 0, point := { data := #[] : ByteArray }, const := { kind := 0, n := 0 : GValue }, delayed := false, initial := { kind := 0, n := 0 : GValue } : GLink } k.x9 k.x10.toNat).node = true then
      if 0 ≤ k.x10 then
       if k.x10 < (↑k.x9.length : Int) then
        if (!eqB (gt { node := { data := #[] : ByteArray }, port := 0, point := { data := #[] : ByteArray }, const := { kind := 0, n := 0 : GValue }, delayed := false, initial := { kind := 0, n := 0 : GValue } : GLink } k.x9 k.x10.toNat).node { data := #[] : ByteArray }) = true then
         if (!decide ((vFd k.x5 (gt { node := { data := #[] : ByteArray }, port := 0, point := { data := #[] : ByteArray }, const := { kind := 0, n := 0 : GValue }, delayed := false, initial := { kind := 0, n := 0 : GValue } : GLink } k.x9 k.x10.toNat).node).snd = 0)) = true then
          ret ⟨(false), (k.x5), (k.x9)⟩
         else
          go ⟨(k.x4), (k.x5), (k.x9), (IntKind.i64.wrap (k.x10 + 1))⟩
        else
         go ⟨(k.x4), (k.x5), (k.x9), (IntKind.i64.wrap (k.x10 + 1))⟩
       else
        no
      else
       no
     else
      no
    else
     no
   else
    no
  else
   ex ⟨(k.x4), (k.x5), (k.x9)⟩
def stepUl11 (k : KUl11) : Nx KUl11 EUl11 := stUl11 k .go .ex .ret .no
theorem BUl11 (k : KUl11) (m : Nat) (R : St At → Option (Res At)) (K : Xit → St At → Option (Res At)) : B CUl11 5 11 (m + 60) (SUl11 k) R K = stUl11 k (fun k => R (SUl11 k)) (fun x => K (.ex 0) (XUl11 x)) (fun x => K .ret (XUl11 x)) none := by kernel_rfl
def uUl11 (st : St At) : Option KUl11 := match st with
  | ⟨[(4, .bool x4), (5, .ptr 0 0), (9, vx9), (10, .int .i64 x10)], [], [(0, .var wx5 false)], 1⟩ => (match ex31 wx5, roV 55 vx9 with | some x5, some x9 => some ⟨x4, x5, x9, x10⟩ | _, _ => none)
  | _ => none
theorem uUl11_spec {st : St At} {k : KUl11} (h : uUl11 st = some k) : st = SUl11 k := by
  unfold uUl11 at h
  split at h
  · split at h
    · rename_i h0 h1
      obtain rfl := Option.some.inj h
      rw [ex31_spec h0, roV_spec h1]
      rfl
    · cases h
  · cases h
theorem oklUl11 {g : LP} (hg : ∀ st K q, g st K = some q → ∃ k n e, st = SUl11 k ∧ iter stepUl11 n k = some e ∧ e.k 0 XUl11 XUl11 K = some q) : OKL 5 11 g := okl_iter CUl11_ok (S := SUl11) (X := XUl11) (Y := XUl11) (step := stepUl11) (id := 0) (by kernel_rfl) (by kernel_rfl)
  (fun k m R K => by rw [BUl11]; unfold stepUl11 stUl11; simp only [Nx.k_ite]; rfl) (fun k => by kernel_rfl) hg
theorem okfUl11 {g : LP} {fuel : KUl11 → Nat} {ok : KUl11 → Bool} {F : KUl11 → Fx EUl11} (hF : ∀ k, ok k = true → iter stepUl11 (fuel k) k = some (F k)) (hg : ∀ st K, g st K = (match uUl11 st with | some k => if ok k = true then (F k).k 0 XUl11 XUl11 K else none | none => none)) : OKL 5 11 g := oklUl11 fun st K q h => by
  rw [hg] at h
  split at h
  · rename_i k hu
    split at h
    · rename_i hok; exact ⟨k, _, _, uUl11_spec hu, hF k hok, h⟩
    · cases h
  · cases h
structure B_Ul11 where
  x10 : Int
abbrev P_Ul11 := Unit
structure Q_Ul11 where
  x4 : Bool
def putUl11 (k : KUl11) (b : B_Ul11) : KUl11 := ⟨k.x4, k.x5, k.x9, b.x10⟩
def bUl11 (k : KUl11) : B_Ul11 := ⟨k.x10⟩
def xeUl11 (k : KUl11) (e : P_Ul11) : EUl11 := ⟨k.x4, k.x5, k.x9⟩
def xrUl11 (k : KUl11) (e : Q_Ul11) : EUl11 := ⟨e.x4, k.x5, k.x9⟩
def sUl11 (k : KUl11) (b : B_Ul11) : Nx2 B_Ul11 P_Ul11 Q_Ul11 := stUl11 (putUl11 k b) (fun k => .go ⟨k.x10⟩) (fun k => .ex ()) (fun k => .ret ⟨k.x4⟩) .no
def iUl11 (k : KUl11) : Option (P_Ul11 ⊕ Q_Ul11) := iter2 (sUl11 k) (k.x9.length) (bUl11 k)
def okUl11 (k : KUl11) : Bool := isO (iUl11 k)
def FUl11 (k : KUl11) : Fx EUl11 := if isLO (iUl11 k) = true then .ex (xeUl11 k (getLO () (iUl11 k))) else .ret (xrUl11 k (getRO ⟨k.x4⟩ (iUl11 k)))
theorem hUl11 (k : KUl11) (b : B_Ul11) : stepUl11 (putUl11 k b) = (sUl11 k b).up (putUl11 k) (xeUl11 k) (xrUl11 k) := by
  unfold stepUl11 sUl11 stUl11 putUl11
  dsimp only
  simp only [Nx2.up_ite]
  rfl
theorem iUl11_ok (k : KUl11) (h : okUl11 k = true) : iter stepUl11 (k.x9.length) k = some (FUl11 k) := iter2_ok (bUl11 k) (hUl11 k) h
def gUl11 : LP := fun st K => match uUl11 st with | some k => if okUl11 k = true then (if isLO (iUl11 k) = true then K (.ex 0) (XUl11 (⟨k.x4, k.x5, k.x9⟩ : EUl11)) else K .ret (XUl11 (⟨(getRO ⟨k.x4⟩ (iUl11 k)).x4, k.x5, k.x9⟩ : EUl11))) else none | none => none
theorem okgUl11 : OKL 5 11 gUl11 := okfUl11 (fuel := fun k => k.x9.length) (ok := okUl11) (F := FUl11) iUl11_ok fun st K => by
  unfold gUl11
  cases hu : uUl11 st with
  | none => rfl
  | some k =>
    dsimp only
    split
    · unfold FUl11
      cases isLO (iUl11 k) <;> rfl
    · rfl
structure KUl17 where
  x4 : Bool
  x5 : GProgram
  x9 : List GLink
  x13 : Int
structure EUl17 where
  x4 : Bool
def SUl17 (k : KUl17) : St At := { env := [(4, .bool k.x4), (5, .ptr 0 0), (9, .ro 55 k.x9), (13, .int .i64 k.x13)], stk := [], hp := [(0, .var (enc31 k.x5) false)], nx := 1 }
def XUl17 (k : EUl17) : St At := { env := [(4, .bool k.x4)], stk := [], hp := [], nx := 0 }
def CUl17 : Cfg := { cs := libDr, ks := [((5, 17), [(4, none), (5, none), (9, none), (13, none)])] ++ CUl21.ks, xs := [((5, 17), [(4, none)])] ++ CUl21.xs, lps := [((5, 21), gUl21)] }
theorem CUl17_ok : CfgOK CUl17 := { con := libDr_ok, lp := .cons okgUl21 .nil }
def stUl17 {α : Type} (k : KUl17) (go : KUl17 → α) (ex ret : EUl17 → α) (no : α) : α :=
  if decide (k.x13 < (↑k.x5.nodes.length : Int)) = true then
   if okUl21 { x4 := k.x4, x5 := k.x5, x9 := k.x9, x13 := k.x13, x14 := false, x15 := 0 : KUl21 } = true then
    if isLO (iUl21 { x4 := k.x4, x5 := k.x5, x9 := k.x9, x13 := k.x13, x14 := false, x15 := 0 : KUl21 }) = true then
     if (!(getLO { x14 := false : P_Ul21 } (iUl21 { x4 := k.x4, x5 := k.x5, x9 := k.x9, x13 := k.x13, x14 := false, x15 := 0 : KUl21 })).x14) = true then
      ret ⟨(false)⟩
     else
      go ⟨(k.x4), (k.x5), (k.x9), (IntKind.i64.wrap (k.x13 + 1))⟩
    else
     ret ⟨(k.x4)⟩
   else
    no
  else
   ex ⟨(k.x4)⟩
def stepUl17 (k : KUl17) : Nx KUl17 EUl17 := stUl17 k .go .ex .ret .no
theorem BUl17 (k : KUl17) (m : Nat) (R : St At → Option (Res At)) (K : Xit → St At → Option (Res At)) : B CUl17 5 17 (m + 60) (SUl17 k) R K = stUl17 k (fun k => R (SUl17 k)) (fun x => K (.ex 2) (XUl17 x)) (fun x => K .ret (XUl17 x)) none := by kernel_rfl
def uUl17 (st : St At) : Option KUl17 := match st with
  | ⟨[(4, .bool x4), (5, .ptr 0 0), (9, vx9), (13, .int .i64 x13)], [], [(0, .var wx5 false)], 1⟩ => (match ex31 wx5, roV 55 vx9 with | some x5, some x9 => some ⟨x4, x5, x9, x13⟩ | _, _ => none)
  | _ => none
theorem uUl17_spec {st : St At} {k : KUl17} (h : uUl17 st = some k) : st = SUl17 k := by
  unfold uUl17 at h
  split at h
  · split at h
    · rename_i h0 h1
      obtain rfl := Option.some.inj h
      rw [ex31_spec h0, roV_spec h1]
      rfl
    · cases h
  · cases h
theorem oklUl17 {g : LP} (hg : ∀ st K q, g st K = some q → ∃ k n e, st = SUl17 k ∧ iter stepUl17 n k = some e ∧ e.k 2 XUl17 XUl17 K = some q) : OKL 5 17 g := okl_iter CUl17_ok (S := SUl17) (X := XUl17) (Y := XUl17) (step := stepUl17) (id := 2) (by kernel_rfl) (by kernel_rfl)
  (fun k m R K => by rw [BUl17]; unfold stepUl17 stUl17; simp only [Nx.k_ite]; rfl) (fun k => by kernel_rfl) hg
theorem okfUl17 {g : LP} {fuel : KUl17 → Nat} {ok : KUl17 → Bool} {F : KUl17 → Fx EUl17} (hF : ∀ k, ok k = true → iter stepUl17 (fuel k) k = some (F k)) (hg : ∀ st K, g st K = (match uUl17 st with | some k => if ok k = true then (F k).k 2 XUl17 XUl17 K else none | none => none)) : OKL 5 17 g := oklUl17 fun st K q h => by
  rw [hg] at h
  split at h
  · rename_i k hu
    split at h
    · rename_i hok; exact ⟨k, _, _, uUl17_spec hu, hF k hok, h⟩
    · cases h
  · cases h
structure B_Ul17 where
  x13 : Int
abbrev P_Ul17 := Unit
structure Q_Ul17 where
  x4 : Bool
def putUl17 (k : KUl17) (b : B_Ul17) : KUl17 := ⟨k.x4, k.x5, k.x9, b.x13⟩
def bUl17 (k : KUl17) : B_Ul17 := ⟨k.x13⟩
def xeUl17 (k : KUl17) (e : P_Ul17) : EUl17 := ⟨k.x4⟩
def xrUl17 (k : KUl17) (e : Q_Ul17) : EUl17 := ⟨e.x4⟩
def sUl17 (k : KUl17) (b : B_Ul17) : Nx2 B_Ul17 P_Ul17 Q_Ul17 := stUl17 (putUl17 k b) (fun k => .go ⟨k.x13⟩) (fun k => .ex ()) (fun k => .ret ⟨k.x4⟩) .no
def iUl17 (k : KUl17) : Option (P_Ul17 ⊕ Q_Ul17) := iter2 (sUl17 k) (k.x5.nodes.length) (bUl17 k)
def okUl17 (k : KUl17) : Bool := isO (iUl17 k)
def FUl17 (k : KUl17) : Fx EUl17 := if isLO (iUl17 k) = true then .ex (xeUl17 k (getLO () (iUl17 k))) else .ret (xrUl17 k (getRO ⟨k.x4⟩ (iUl17 k)))
theorem hUl17 (k : KUl17) (b : B_Ul17) : stepUl17 (putUl17 k b) = (sUl17 k b).up (putUl17 k) (xeUl17 k) (xrUl17 k) := by
  unfold stepUl17 sUl17 stUl17 putUl17
  dsimp only
  simp only [Nx2.up_ite]
  rfl
theorem iUl17_ok (k : KUl17) (h : okUl17 k = true) : iter stepUl17 (k.x5.nodes.length) k = some (FUl17 k) := iter2_ok (bUl17 k) (hUl17 k) h
def gUl17 : LP := fun st K => match uUl17 st with | some k => if okUl17 k = true then (if isLO (iUl17 k) = true then K (.ex 2) (XUl17 (⟨k.x4⟩ : EUl17)) else K .ret (XUl17 (⟨(getRO ⟨k.x4⟩ (iUl17 k)).x4⟩ : EUl17))) else none | none => none
theorem okgUl17 : OKL 5 17 gUl17 := okfUl17 (fuel := fun k => k.x5.nodes.length) (ok := okUl17) (F := FUl17) iUl17_ok fun st K => by
  unfold gUl17
  cases hu : uUl17 st with
  | none => rfl
  | some k =>
    dsimp only
    split
    · unfold FUl17
      cases isLO (iUl17 k) <;> rfl
    · rfl
def CUl : Cfg := { cs := libDr, ks := CUl11.ks ++ CUl17.ks, xs := CUl11.xs ++ CUl17.xs, lps := [((5, 11), gUl11), ((5, 17), gUl17)] }
theorem CUl_ok : CfgOK CUl := { con := libDr_ok, lp := .cons okgUl11 (.cons okgUl17 .nil) }
def RUl (a0 : List GPoint) (a1 : GProgram) : Option (Res At) :=
  if decide ((↑a0.length : Int) > 40) = false then
   if cSm a1 = true then
    if (!vSm a1) = false then
     if cCk a0 a1 = true then
      if (!decide (vCk a0 a1 = 0)) = true then
       some ((.bool true), [])
      else
       if cUs a1 = true then
        if cUs (vUs a1).fst = true then
         if (!decide ((vUs a1).snd = 0)) = false then
          if (!decide ((vUs (vUs a1).fst).snd = 0)) = false then
           if cEq (vUs a1).fst (vUs (vUs a1).fst).fst = true then
            if (!vEq (vUs a1).fst (vUs (vUs a1).fst).fst) = false then
             if cCk a0 (vUs a1).fst = true then
              if (!decide (vCk a0 (vUs a1).fst = 0)) = false then
               if cDr (vUs a1).fst = true then
                if cDr a1 = true then
                 if cSa (vDr (vUs a1).fst) (vDr a1) = true then
                  if (!vSa (vDr (vUs a1).fst) (vDr a1)) = true then
                   some ((.bool false), [])
                  else
                   if cLk (vUs a1).fst = true then
                    if okUl11 { x4 := false, x5 := (vUs a1).fst, x9 := vLk (vUs a1).fst, x10 := 0 : KUl11 } = true then
                     if isLO (iUl11 { x4 := false, x5 := (vUs a1).fst, x9 := vLk (vUs a1).fst, x10 := 0 : KUl11 }) = true then
                      if okUl17 { x4 := false, x5 := (vUs a1).fst, x9 := vLk (vUs a1).fst, x13 := 0 : KUl17 } = true then
                       if isLO (iUl17 { x4 := false, x5 := (vUs a1).fst, x9 := vLk (vUs a1).fst, x13 := 0 : KUl17 }) = true then
                        some ((.bool true), [])
                       else
                        some ((.bool ((getRO { x4 := false : Q_Ul17 } (iUl17 { x4 := false, x5 := (vUs a1).fst, x9 := vLk (vUs a1).fst, x13 := 0 : KUl17 })).x4)), [])
                      else
                       none
                     else
                      some ((.bool ((getRO { x4 := false : Q_Ul11 } (iUl11 { x4 := false, x5 := (vUs a1).fst, x9 := vLk (vUs a1).fst, x10 := 0 : KUl11 })).x4)), [])
                    else
                     none
                   else
                    none
                 else
                  none
                else
                 none
               else
                none
              else
               some ((.bool false), [])
             else
              none
            else
             some ((.bool false), [])
           else
            none
          else
           some ((.bool false), [])
         else
          some ((.bool false), [])
        else
         none
       else
        none
     else
      none
    else
     some ((.bool true), [])
   else
    none
  else
   some ((.bool true), [])
theorem run_RUl (a0 : List GPoint) (a1 : GProgram) : runF CUl 80 5 [.ro 66 a0, .agg (enc31 a1)] = RUl a0 a1 := by kernel_rfl
def oUl (a0 : List GPoint) (a1 : GProgram) : Option (Res At) := crR [none] (RUl a0 a1)
def vUl (a0 : List GPoint) (a1 : GProgram) : Bool := valO rB false (oUl a0 a1)
def cUl (a0 : List GPoint) (a1 : GProgram) : Bool := okO rB (oUl a0 a1)
def conUl : CON := on2 (rR 66) (rA ex31 enc31 fun _ _ h => ex31_spec h) fun a0 a1 => some (cUl a0 a1, (.bool (vUl a0 a1), []))
theorem okUl : OK 5 conUl := okc2 CUl_ok (n := 80) (ts := [none]) (a := (rR 66)) (b := (rA ex31 enc31 fun _ _ h => ex31_spec h)) (r := rB) (d := false) (R := fun a0 a1 => RUl a0 a1) (by kernel_rfl) fun a0 a1 => run_RUl a0 a1
end
end Go.Proofs.YtpbpebjfglfjfaaGreatDoor.X
