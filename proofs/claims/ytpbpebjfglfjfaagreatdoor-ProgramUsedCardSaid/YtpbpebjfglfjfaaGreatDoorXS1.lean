/-
  Plain laws: names, constants, what is formed: the program and the reference say the same.
-/
import Derived.Test.YtpbpebjfglfjfaaGreatDoorXQc
import Derived.Test.YtpbpebjfglfjfaaGreatDoorXQe
set_option autoImplicit false
set_option linter.unusedVariables false
set_option linter.unusedSimpArgs false
set_option maxRecDepth 100000
namespace Go.Proofs.YtpbpebjfglfjfaaGreatDoor.X
open Go Go.Proofs Go.RowKit Go.Proofs.YtpbpebjfglfjfaaGreatDoor
noncomputable section
theorem eqB_refl (s : ByteArray) : eqB s s = true := eqB_t.2 rfl
theorem lr_at (s : ByteArray) (h : s.size ≤ 9223372036854775807) : cLr s 0 s = true ∧ vLr s 0 s = (twN s.data.toList : Int) := by
  have e : okLr1 { x0 := s, x1 := 0, x2 := s : KLr1 } = true := by
    unfold okLr1
    rw [eqB_refl, Nat.ble_eq_true_of_le h]
    rfl
  unfold cLr vLr oLr RLr
  rw [if_pos e]
  exact ⟨rfl, rfl⟩
theorem tw_all : ∀ l : List UInt8, decide ((twN l : Int) = (l.length : Int)) = l.all nmU
  | [] => rfl
  | x :: l => by
    rw [List.all_cons, ← tw_all l]
    unfold twN
    by_cases h : nmU x = true
    · rw [List.takeWhile_cons_of_pos h, h, Bool.true_and]
      simp
    · rw [List.takeWhile_cons_of_neg h, Bool.eq_false_iff.2 h, Bool.false_and]
      simp
      omega
theorem ge_lt (x a : Int) : decide (x ≥ a) = !decide (x < a) := by
  by_cases h : x < a
  · rw [decide_eq_true h, decide_eq_false (by omega)]; rfl
  · rw [decide_eq_false h, decide_eq_true (by omega)]; rfl
theorem le_gt (x a : Int) : decide (x ≤ a) = !decide (x > a) := by
  by_cases h : x > a
  · rw [decide_eq_true h, decide_eq_false (by omega)]; rfl
  · rw [decide_eq_false h, decide_eq_true (by omega)]; rfl
def nameV (s : ByteArray) : Bool := Nat.blt 0 s.size && (Nat.ble s.size 24 && (lowB (byteAt s 0) && s.data.toList.all nmU))
theorem nm_run (s : ByteArray) : RNm s = some (.bool (nameV s), []) := by
  unfold RNm nameV
  by_cases h1 : s.size < 1
  · rw [if_neg (by simp; omega), show Nat.blt 0 s.size = false by rw [Bool.eq_false_iff]; intro e; have : 0 < s.size := Nat.le_of_ble_eq_true e; omega]
    rfl
  · rw [if_pos (by simp; omega), show Nat.blt 0 s.size = true from Nat.ble_eq_true_of_le (show 0 < s.size by omega), Bool.true_and]
    by_cases h2 : s.size > 24
    · rw [if_neg (by simp; omega), show Nat.ble s.size 24 = false by rw [Bool.eq_false_iff]; intro e; have := Nat.le_of_ble_eq_true e; omega]
      rfl
    · obtain ⟨l1, l2⟩ := lr_at s (by omega)
      rw [if_pos (by simp; omega), Nat.ble_eq_true_of_le (show s.size ≤ 24 by omega), Bool.true_and, if_pos (by omega), l1, l2, ← toL_len, tw_all, toL_len]
      unfold lowB
      rw [ge_lt, le_gt]
      rw [if_pos (show (0 : Int) < (s.size : Int) by omega), if_pos rfl]
      cases decide (byteAt s 0 < 97) <;> cases decide (byteAt s 0 > 122) <;> rfl
theorem nm_eq (s : ByteArray) : cNm s = true ∧ vNm s = nameV s := by unfold cNm vNm oNm; rw [nm_run]; exact ⟨rfl, rfl⟩
def constV (v : GValue) : Bool := if decide (v.kind = 1) = true then decide (v.n ≥ -1000000000000) && decide (v.n ≤ 1000000000000) else if decide (v.kind = 2) = true then decide (v.n = 0) || decide (v.n = 1) else if decide (v.kind = 3) = true then decide (v.n ≥ 1) && decide (v.n ≤ 16) else false
theorem cn_run (v : GValue) : RCn v = some (.bool (constV v), []) := by
  unfold RCn constV
  cases decide (v.kind = 1) <;> cases decide (v.kind = 2) <;> cases decide (v.kind = 3) <;> cases decide (v.n ≥ -1000000000000) <;> cases decide (v.n = 0) <;> cases decide (v.n ≥ 1) <;> rfl
theorem cn_eq (s : GValue) : cCn s = true ∧ vCn s = constV s := by unfold cCn vCn oCn; rw [cn_run]; exact ⟨rfl, rfl⟩
def bE : ByteArray := ⟨#[]⟩
def zV (v : GValue) : Bool := decide (v.kind = 0) && (decide (v.n = 0) && true)
def formedV (a : GLink) : Bool := decide (a.port = 0) && ((if a.delayed = true then constV a.initial else zV a.initial) && (if (eqB a.node ⟨#[]⟩ && eqB a.point ⟨#[]⟩) = true then constV a.const else ((eqB a.node ⟨#[]⟩ || eqB a.point ⟨#[]⟩) && (zV a.const && nameV (catB a.node a.point)))))
theorem fm_run (a : GLink) (hs : a.node.size + a.point.size < 4611686018427387904) : RFm a = some (.bool (formedV a), []) := by
  unfold RFm formedV zV
  simp only [(cn_eq a.initial).1, (cn_eq a.const).1, (cn_eq a.initial).2, (cn_eq a.const).2, (nm_eq (catB a.node a.point)).1, (nm_eq (catB a.node a.point)).2, if_pos hs, if_true]
  generalize decide (a.port = 0) = p
  generalize a.delayed = d
  generalize constV a.initial = ci
  generalize constV a.const = cc
  generalize (decide (a.initial.kind = 0) && (decide (a.initial.n = 0) && true)) = zi
  generalize (decide (a.const.kind = 0) && (decide (a.const.n = 0) && true)) = zc
  generalize eqB a.node ⟨#[]⟩ = n0
  generalize eqB a.point ⟨#[]⟩ = q0
  generalize nameV (catB a.node a.point) = nm
  cases p <;> cases d <;> cases ci <;> cases zi <;> cases n0 <;> cases q0 <;> cases zc <;> rfl
theorem fm_eq (a : GLink) (hs : a.node.size + a.point.size < 4611686018427387904) : cFm a = true ∧ vFm a = formedV a := by unfold cFm vFm oFm; rw [fm_run a hs]; exact ⟨rfl, rfl⟩
end
end Go.Proofs.YtpbpebjfglfjfaaGreatDoor.X
/-! Plain laws: finding, level, links: the loops as they read. -/
namespace Go.Proofs.YtpbpebjfglfjfaaGreatDoor.X
open Go Go.Proofs Go.RowKit Go.Proofs.YtpbpebjfglfjfaaGreatDoor
noncomputable section
theorem scan_idx {α γ : Type} {f : Unit → α × Nat → Option (Unit ⊕ γ)} {P : α → Bool} {y : Nat → γ} : ∀ (l : List α) (n : Nat), (∀ x i, x ∈ l → f () (x, i) = if P x = true then some (.inr (y i)) else some (.inl ())) →
    scanO f () (l.zipIdx n) = match l.findIdx? P with | some i => some (.inr (y (n + i))) | none => some (.inl ())
  | [], n, h => rfl
  | x :: l, n, h => by
    rw [List.zipIdx_cons, scanO, h x n (List.mem_cons_self ..), List.findIdx?_cons]
    by_cases hp : P x = true
    · rw [if_pos hp, if_pos hp]; rfl
    · rw [if_neg hp, if_neg hp]
      dsimp only
      rw [scan_idx l (n + 1) fun x i hx => h x i (List.mem_cons_of_mem _ hx)]
      cases l.findIdx? P with
      | none => rfl
      | some i => exact congrArg (fun q => some (Sum.inr (y q))) (show n + 1 + i = n + (i + 1) by omega)
def idxP {α : Type} (P : α → Bool) (l : List α) : Int := match l.findIdx? P with | some i => (i : Int) | none => -1
theorem idxP_ge {α : Type} (P : α → Bool) (l : List α) : decide (idxP P l ≥ 0) = l.any P := by
  unfold idxP
  cases h : l.findIdx? P with
  | none =>
    rw [List.findIdx?_eq_none_iff] at h
    rw [show l.any P = false by rw [List.any_eq_false]; intro x hx; rw [h x hx]; simp]
    rfl
  | some i =>
    obtain ⟨h1, h2, _⟩ := List.findIdx?_eq_some_iff_getElem.1 h
    rw [show l.any P = true by rw [List.any_eq_true]; exact ⟨l[i], List.getElem_mem h1, h2⟩]
    simp
theorem idxP_lt {α : Type} (P : α → Bool) (l : List α) : decide (idxP P l < 0) = !l.any P := by
  rw [← idxP_ge, ge_lt, Bool.not_not]
def levelV (n : Int) : Bool := decide (n ≥ 3) && (decide (n ≤ 16) && (!decide (n = 6) && !decide (n = 8)))
theorem lv_eq (n : Int) : cLv n = true ∧ vLv n = levelV n := by
  have h : RLv n = some (.bool (levelV n), []) := by
    unfold RLv levelV
    cases decide (n ≥ 3) <;> cases decide (n ≤ 16) <;> cases decide (n = 6) <;> rfl
  unfold cLv vLv oLv; rw [h]; exact ⟨rfl, rfl⟩
theorem k1_eq (x : GNode) : cK1 x = true ∧ vK1 x = !nameV x.name := by
  have h : RK1 x = some (.bool (!nameV x.name), []) := by unfold RK1; rw [if_pos (nm_eq _).1, (nm_eq _).2]
  unfold cK1 vK1 oK1; rw [h]; exact ⟨rfl, rfl⟩
def szL (x : GLink) : Prop := x.node.size + x.point.size < 4611686018427387904
theorem k2_eq (x : GLink) (hs : szL x) : cK2 x = true ∧ vK2 x = !formedV x := by
  have h : RK2 x = some (.bool (!formedV x), []) := by unfold RK2; rw [if_pos (fm_eq _ hs).1, (fm_eq _ hs).2]
  unfold cK2 vK2 oK2; rw [h]; exact ⟨rfl, rfl⟩
theorem k3_eq (x : GDrive) : cK3 x = true ∧ vK3 x = !levelV x.level := by
  have h : RK3 x = some (.bool (!levelV x.level), []) := by unfold RK3; rw [if_pos (lv_eq _).1, (lv_eq _).2]
  unfold cK3 vK3 oK3; rw [h]; exact ⟨rfl, rfl⟩
theorem In1_run (a0 : List GNode) (a1 : ByteArray) (hm : a0.length ≤ 9223372036854775807) : RIn1 a0 a1 = some (.int .i64 (idxP (fun x : GNode => eqB x.name a1) a0), []) := by
  have e : oIn12 { x0 := a0, x1 := a1, x4 := 0, x7 := (↑a0.length : Int), x8 := 0 : KIn12 } = (match a0.findIdx? (fun x : GNode => eqB x.name a1) with | some i => some (.inr ⟨((0 + i : Nat) : Int)⟩) | none => some (.inl ())) := scan_idx (y := fun i => (⟨(i : Int)⟩ : EIn12)) a0 0 fun x i hx => rfl
  have ok : okIn12 { x0 := a0, x1 := a1, x4 := 0, x7 := (↑a0.length : Int), x8 := 0 : KIn12 } = true := by
    unfold okIn12
    rw [e]
    dsimp only
    rw [Nat.ble_eq_true_of_le hm]
    cases a0.findIdx? (fun x : GNode => eqB x.name a1) <;> simp [isOO]
  unfold RIn1
  rw [if_pos ok, e]
  unfold idxP
  cases a0.findIdx? (fun x : GNode => eqB x.name a1) with
  | none => rfl
  | some i => show some ((V.int .i64 ((0 + i : Nat) : Int), []) : Res At) = _; rw [Nat.zero_add]
theorem In1_eq (a0 : List GNode) (a1 : ByteArray) (hm : a0.length ≤ 9223372036854775807) : cIn1 a0 a1 = true ∧ vIn1 a0 a1 = idxP (fun x : GNode => eqB x.name a1) a0 := by
  unfold cIn1 vIn1 oIn1
  rw [In1_run a0 a1 hm]
  exact ⟨rfl, rfl⟩
theorem In2_run (a0 : List GNode) (a1 : Unit) (hm : a0.length ≤ 9223372036854775807) : RIn2 a0 a1 = some (.int .i64 (idxP (fun x : GNode => !nameV x.name) a0), []) := by
  have e : oIn22 { x0 := a0, x4 := 0, x7 := (↑a0.length : Int), x8 := 0 : KIn22 } = (match a0.findIdx? (fun x : GNode => !nameV x.name) with | some i => some (.inr ⟨((0 + i : Nat) : Int)⟩) | none => some (.inl ())) := scan_idx (y := fun i => (⟨(i : Int)⟩ : EIn22)) a0 0 fun x i hx => by unfold fIn22; rw [if_pos (k1_eq x).1, (k1_eq x).2]
  have ok : okIn22 { x0 := a0, x4 := 0, x7 := (↑a0.length : Int), x8 := 0 : KIn22 } = true := by
    unfold okIn22
    rw [e]
    dsimp only
    rw [Nat.ble_eq_true_of_le hm]
    cases a0.findIdx? (fun x : GNode => !nameV x.name) <;> simp [isOO]
  unfold RIn2
  rw [if_pos ok, e]
  unfold idxP
  cases a0.findIdx? (fun x : GNode => !nameV x.name) with
  | none => rfl
  | some i => show some ((V.int .i64 ((0 + i : Nat) : Int), []) : Res At) = _; rw [Nat.zero_add]
theorem In2_eq (a0 : List GNode) (a1 : Unit) (hm : a0.length ≤ 9223372036854775807) : cIn2 a0 a1 = true ∧ vIn2 a0 a1 = idxP (fun x : GNode => !nameV x.name) a0 := by
  unfold cIn2 vIn2 oIn2
  rw [In2_run a0 a1 hm]
  exact ⟨rfl, rfl⟩
theorem Il_run (a0 : List GLink) (a1 : Unit) (hm : a0.length ≤ 9223372036854775807) (hs : ∀ x ∈ a0, szL x) : RIl a0 a1 = some (.int .i64 (idxP (fun x : GLink => !formedV x) a0), []) := by
  have e : oIl2 { x0 := a0, x4 := 0, x7 := (↑a0.length : Int), x8 := 0 : KIl2 } = (match a0.findIdx? (fun x : GLink => !formedV x) with | some i => some (.inr ⟨((0 + i : Nat) : Int)⟩) | none => some (.inl ())) := scan_idx (y := fun i => (⟨(i : Int)⟩ : EIl2)) a0 0 fun x i hx => by unfold fIl2; rw [if_pos (k2_eq x (hs x hx)).1, (k2_eq x (hs x hx)).2]
  have ok : okIl2 { x0 := a0, x4 := 0, x7 := (↑a0.length : Int), x8 := 0 : KIl2 } = true := by
    unfold okIl2
    rw [e]
    dsimp only
    rw [Nat.ble_eq_true_of_le hm]
    cases a0.findIdx? (fun x : GLink => !formedV x) <;> simp [isOO]
  unfold RIl
  rw [if_pos ok, e]
  unfold idxP
  cases a0.findIdx? (fun x : GLink => !formedV x) with
  | none => rfl
  | some i => show some ((V.int .i64 ((0 + i : Nat) : Int), []) : Res At) = _; rw [Nat.zero_add]
theorem Il_eq (a0 : List GLink) (a1 : Unit) (hm : a0.length ≤ 9223372036854775807) (hs : ∀ x ∈ a0, szL x) : cIl a0 a1 = true ∧ vIl a0 a1 = idxP (fun x : GLink => !formedV x) a0 := by
  unfold cIl vIl oIl
  rw [Il_run a0 a1 hm hs]
  exact ⟨rfl, rfl⟩
theorem Id1_run (a0 : List GDrive) (a1 : Unit) (hm : a0.length ≤ 9223372036854775807) : RId1 a0 a1 = some (.int .i64 (idxP (fun x : GDrive => !levelV x.level) a0), []) := by
  have e : oId12 { x0 := a0, x4 := 0, x7 := (↑a0.length : Int), x8 := 0 : KId12 } = (match a0.findIdx? (fun x : GDrive => !levelV x.level) with | some i => some (.inr ⟨((0 + i : Nat) : Int)⟩) | none => some (.inl ())) := scan_idx (y := fun i => (⟨(i : Int)⟩ : EId12)) a0 0 fun x i hx => by unfold fId12; rw [if_pos (k3_eq x).1, (k3_eq x).2]
  have ok : okId12 { x0 := a0, x4 := 0, x7 := (↑a0.length : Int), x8 := 0 : KId12 } = true := by
    unfold okId12
    rw [e]
    dsimp only
    rw [Nat.ble_eq_true_of_le hm]
    cases a0.findIdx? (fun x : GDrive => !levelV x.level) <;> simp [isOO]
  unfold RId1
  rw [if_pos ok, e]
  unfold idxP
  cases a0.findIdx? (fun x : GDrive => !levelV x.level) with
  | none => rfl
  | some i => show some ((V.int .i64 ((0 + i : Nat) : Int), []) : Res At) = _; rw [Nat.zero_add]
theorem Id1_eq (a0 : List GDrive) (a1 : Unit) (hm : a0.length ≤ 9223372036854775807) : cId1 a0 a1 = true ∧ vId1 a0 a1 = idxP (fun x : GDrive => !levelV x.level) a0 := by
  unfold cId1 vId1 oId1
  rw [Id1_run a0 a1 hm]
  exact ⟨rfl, rfl⟩
theorem Ip1_run (a0 : List GPoint) (a1 : ByteArray) (hm : a0.length ≤ 9223372036854775807) : RIp1 a0 a1 = some (.int .i64 (idxP (fun x : GPoint => eqB x.name a1) a0), []) := by
  have e : oIp12 { x0 := a0, x1 := a1, x4 := 0, x7 := (↑a0.length : Int), x8 := 0 : KIp12 } = (match a0.findIdx? (fun x : GPoint => eqB x.name a1) with | some i => some (.inr ⟨((0 + i : Nat) : Int)⟩) | none => some (.inl ())) := scan_idx (y := fun i => (⟨(i : Int)⟩ : EIp12)) a0 0 fun x i hx => rfl
  have ok : okIp12 { x0 := a0, x1 := a1, x4 := 0, x7 := (↑a0.length : Int), x8 := 0 : KIp12 } = true := by
    unfold okIp12
    rw [e]
    dsimp only
    rw [Nat.ble_eq_true_of_le hm]
    cases a0.findIdx? (fun x : GPoint => eqB x.name a1) <;> simp [isOO]
  unfold RIp1
  rw [if_pos ok, e]
  unfold idxP
  cases a0.findIdx? (fun x : GPoint => eqB x.name a1) with
  | none => rfl
  | some i => show some ((V.int .i64 ((0 + i : Nat) : Int), []) : Res At) = _; rw [Nat.zero_add]
theorem Ip1_eq (a0 : List GPoint) (a1 : ByteArray) (hm : a0.length ≤ 9223372036854775807) : cIp1 a0 a1 = true ∧ vIp1 a0 a1 = idxP (fun x : GPoint => eqB x.name a1) a0 := by
  unfold cIp1 vIp1 oIp1
  rw [Ip1_run a0 a1 hm]
  exact ⟨rfl, rfl⟩
theorem Ip2_run (a0 : List GPoint) (a1 : GDrive) (hm : a0.length ≤ 9223372036854775807) : RIp2 a0 a1 = some (.int .i64 (idxP (fun x : GPoint => eqB x.name a1.point) a0), []) := by
  have e : oIp22 { x0 := a0, x1 := a1, x4 := 0, x7 := (↑a0.length : Int), x8 := 0 : KIp22 } = (match a0.findIdx? (fun x : GPoint => eqB x.name a1.point) with | some i => some (.inr ⟨((0 + i : Nat) : Int)⟩) | none => some (.inl ())) := scan_idx (y := fun i => (⟨(i : Int)⟩ : EIp22)) a0 0 fun x i hx => rfl
  have ok : okIp22 { x0 := a0, x1 := a1, x4 := 0, x7 := (↑a0.length : Int), x8 := 0 : KIp22 } = true := by
    unfold okIp22
    rw [e]
    dsimp only
    rw [Nat.ble_eq_true_of_le hm]
    cases a0.findIdx? (fun x : GPoint => eqB x.name a1.point) <;> simp [isOO]
  unfold RIp2
  rw [if_pos ok, e]
  unfold idxP
  cases a0.findIdx? (fun x : GPoint => eqB x.name a1.point) with
  | none => rfl
  | some i => show some ((V.int .i64 ((0 + i : Nat) : Int), []) : Res At) = _; rw [Nat.zero_add]
theorem Ip2_eq (a0 : List GPoint) (a1 : GDrive) (hm : a0.length ≤ 9223372036854775807) : cIp2 a0 a1 = true ∧ vIp2 a0 a1 = idxP (fun x : GPoint => eqB x.name a1.point) a0 := by
  unfold cIp2 vIp2 oIp2
  rw [Ip2_run a0 a1 hm]
  exact ⟨rfl, rfl⟩
def knownV (pts : List GPoint) (s : ByteArray) : Bool := pts.any fun x => eqB x.name s
theorem u1_eq (s : ByteArray) (pts : List GPoint) (hm : pts.length ≤ 9223372036854775807) : cU1 s pts = true ∧ vU1 s pts = knownV pts s := by
  have h : RU1 s pts = some (.bool (knownV pts s), []) := by unfold RU1; rw [if_pos (Ip1_eq _ _ hm).1, (Ip1_eq _ _ hm).2, idxP_ge]; rfl
  unfold cU1 vU1 oU1; rw [h]; exact ⟨rfl, rfl⟩
theorem u3_eq (d : GDrive) (pts : List GPoint) (hm : pts.length ≤ 9223372036854775807) : cU3 d pts = true ∧ vU3 d pts = !knownV pts d.point := by
  have h : RU3 d pts = some (.bool (!knownV pts d.point), []) := by unfold RU3; rw [if_pos (u1_eq _ _ hm).1, (u1_eq _ _ hm).2]
  unfold cU3 vU3 oU3; rw [h]; exact ⟨rfl, rfl⟩
theorem Id2_run (a0 : List GDrive) (a1 : List GPoint) (hm : a0.length ≤ 9223372036854775807) (hs : a1.length ≤ 9223372036854775807) : RId2 a0 a1 = some (.int .i64 (idxP (fun x : GDrive => !knownV a1 x.point) a0), []) := by
  have e : oId22 { x0 := a0, x1 := a1, x4 := 0, x7 := (↑a0.length : Int), x8 := 0 : KId22 } = (match a0.findIdx? (fun x : GDrive => !knownV a1 x.point) with | some i => some (.inr ⟨((0 + i : Nat) : Int)⟩) | none => some (.inl ())) := scan_idx (y := fun i => (⟨(i : Int)⟩ : EId22)) a0 0 fun x i hx => by unfold fId22; rw [if_pos (u3_eq x a1 hs).1, (u3_eq x a1 hs).2]
  have ok : okId22 { x0 := a0, x1 := a1, x4 := 0, x7 := (↑a0.length : Int), x8 := 0 : KId22 } = true := by
    unfold okId22
    rw [e]
    dsimp only
    rw [Nat.ble_eq_true_of_le hm]
    cases a0.findIdx? (fun x : GDrive => !knownV a1 x.point) <;> simp [isOO]
  unfold RId2
  rw [if_pos ok, e]
  unfold idxP
  cases a0.findIdx? (fun x : GDrive => !knownV a1 x.point) with
  | none => rfl
  | some i => show some ((V.int .i64 ((0 + i : Nat) : Int), []) : Res At) = _; rw [Nat.zero_add]
theorem Id2_eq (a0 : List GDrive) (a1 : List GPoint) (hm : a0.length ≤ 9223372036854775807) (hs : a1.length ≤ 9223372036854775807) : cId2 a0 a1 = true ∧ vId2 a0 a1 = idxP (fun x : GDrive => !knownV a1 x.point) a0 := by
  unfold cId2 vId2 oId2
  rw [Id2_run a0 a1 hm hs]
  exact ⟨rfl, rfl⟩
theorem Ib_run (a0 : List GBound) (a1 : GParam) (hm : a0.length ≤ 9223372036854775807) : RIb a0 a1 = some (.int .i64 (idxP (fun x : GBound => eqB x.name a1.name) a0), []) := by
  have e : oIb2 { x0 := a0, x1 := a1, x4 := 0, x7 := (↑a0.length : Int), x8 := 0 : KIb2 } = (match a0.findIdx? (fun x : GBound => eqB x.name a1.name) with | some i => some (.inr ⟨((0 + i : Nat) : Int)⟩) | none => some (.inl ())) := scan_idx (y := fun i => (⟨(i : Int)⟩ : EIb2)) a0 0 fun x i hx => rfl
  have ok : okIb2 { x0 := a0, x1 := a1, x4 := 0, x7 := (↑a0.length : Int), x8 := 0 : KIb2 } = true := by
    unfold okIb2
    rw [e]
    dsimp only
    rw [Nat.ble_eq_true_of_le hm]
    cases a0.findIdx? (fun x : GBound => eqB x.name a1.name) <;> simp [isOO]
  unfold RIb
  rw [if_pos ok, e]
  unfold idxP
  cases a0.findIdx? (fun x : GBound => eqB x.name a1.name) with
  | none => rfl
  | some i => show some ((V.int .i64 ((0 + i : Nat) : Int), []) : Res At) = _; rw [Nat.zero_add]
theorem Ib_eq (a0 : List GBound) (a1 : GParam) (hm : a0.length ≤ 9223372036854775807) : cIb a0 a1 = true ∧ vIb a0 a1 = idxP (fun x : GBound => eqB x.name a1.name) a0 := by
  unfold cIb vIb oIb
  rw [Ib_run a0 a1 hm]
  exact ⟨rfl, rfl⟩
end
end Go.Proofs.YtpbpebjfglfjfaaGreatDoor.X
/-! Plain laws: links, what occurs twice. -/
namespace Go.Proofs.YtpbpebjfglfjfaaGreatDoor.X
open Go Go.Proofs Go.RowKit Go.Proofs.YtpbpebjfglfjfaaGreatDoor
noncomputable section
theorem isLO_inl {β γ : Type} (b : β) : isLO (some (.inl b) : Option (β ⊕ γ)) = true := rfl
theorem scan_app {α β γ δ : Type} (mk : List β → δ) (g : α → List β) (f : δ → α → Option (δ ⊕ γ)) (hf : ∀ b x, f (mk b) x = if b.length + (g x).length < 16777216 then some (.inl (mk (b ++ g x))) else none) : ∀ (l : List α) (b : List β), b.length + (l.flatMap g).length < 16777216 → scanO f (mk b) l = some (.inl (mk (b ++ l.flatMap g)))
  | [], b, h => by rw [scanO, List.flatMap_nil, List.append_nil]
  | x :: l, b, h => by
    rw [List.flatMap_cons, List.length_append] at h
    rw [scanO, hf, if_pos (by omega)]
    dsimp only
    rw [scan_app mk g f hf l (b ++ g x) (by rw [List.length_append]; omega), List.flatMap_cons, List.append_assoc]
def linksV (p : GProgram) : List GLink := p.nodes.flatMap (fun x => x.inputs) ++ p.drives.flatMap (fun x => [x.from_])
theorem lk_run (p : GProgram) (hn : p.nodes.length ≤ 9223372036854775807) (hd : p.drives.length ≤ 9223372036854775807) (h : (linksV p).length < 16777216) : crR [some 55] (RLk p) = some (.ro 55 (linksV p), []) := by
  unfold linksV at h ⊢
  rw [List.length_append] at h
  have e1 : oLk3 { x1 := p, x3 := [], x9 := p.nodes, x10 := (↑p.nodes.length : Int), x11 := 0 : KLk3 } = some (.inl ⟨p.nodes.flatMap (fun x => x.inputs)⟩) := scan_app (fun b => (⟨b⟩ : B_Lk3)) (fun x : GNode => x.inputs) _ (fun b x => rfl) p.nodes [] (by simp at h ⊢; omega)
  have e2 : ∀ q, q = p.nodes.flatMap (fun x => x.inputs) → oLk8 { x3 := q, x21 := p.drives, x22 := (↑p.drives.length : Int), x23 := 0 : KLk8 } = some (.inl ⟨q ++ p.drives.flatMap (fun x => [x.from_])⟩) := fun q hq => scan_app (fun b => (⟨b⟩ : B_Lk8)) (fun x : GDrive => [x.from_]) _ (fun b x => rfl) p.drives q (by rw [hq]; exact h)
  have o1 : okLk3 { x1 := p, x3 := [], x9 := p.nodes, x10 := (↑p.nodes.length : Int), x11 := 0 : KLk3 } = true := by
    unfold okLk3; rw [e1]; dsimp only; rw [Nat.ble_eq_true_of_le hn]; simp [isOO]
  have o2 : ∀ q, q = p.nodes.flatMap (fun x => x.inputs) → okLk8 { x3 := q, x21 := p.drives, x22 := (↑p.drives.length : Int), x23 := 0 : KLk8 } = true := fun q hq => by
    unfold okLk8; rw [e2 q hq]; dsimp only; rw [Nat.ble_eq_true_of_le hd]; simp [isOO]
  unfold RLk
  rw [if_pos o1, e1, if_pos (isLO_inl _)]
  have e3 : (getLO (bLk3 { x1 := p, x3 := [], x9 := p.nodes, x10 := (↑p.nodes.length : Int), x11 := 0 : KLk3 }) (some (.inl ⟨p.nodes.flatMap (fun x => x.inputs)⟩) : Option (B_Lk3 ⊕ ELk3))).x3 = p.nodes.flatMap (fun x => x.inputs) := rfl
  rw [e3, if_pos (o2 _ rfl), e2 _ rfl, if_pos (isLO_inl _)]
  rfl
theorem lk_eq (p : GProgram) (hn : p.nodes.length ≤ 9223372036854775807) (hd : p.drives.length ≤ 9223372036854775807) (h : (linksV p).length < 16777216) : cLk p = true ∧ vLk p = linksV p := by
  unfold cLk vLk oLk; rw [lk_run p hn hd h]; exact ⟨rfl, rfl⟩
theorem lkR_run (p : GProgram) (hn : p.nodes.length ≤ 9223372036854775807) (hd : p.drives.length ≤ 9223372036854775807) (h : (linksV p).length < 16777216) : crR [some 55] (RLkR p) = some (.ro 55 (linksV p), []) := by
  unfold linksV at h ⊢
  rw [List.length_append] at h
  have e1 : oLkR3 { x1 := p, x3 := [], x4 := 0 : KLkR3 } = some (.inl ⟨p.nodes.flatMap (fun x => x.inputs)⟩) := scan_app (fun b => (⟨b⟩ : B_LkR3)) (fun x : GNode => x.inputs) _ (fun b x => rfl) p.nodes [] (by simp at h ⊢; omega)
  have e2 : ∀ q, q = p.nodes.flatMap (fun x => x.inputs) → oLkR7 { x1 := p, x3 := q, x5 := 0 : KLkR7 } = some (.inl ⟨q ++ p.drives.flatMap (fun x => [x.from_])⟩) := fun q hq => scan_app (fun b => (⟨b⟩ : B_LkR7)) (fun x : GDrive => [x.from_]) _ (fun b x => rfl) p.drives q (by rw [hq]; exact h)
  have o1 : okLkR3 { x1 := p, x3 := [], x4 := 0 : KLkR3 } = true := by
    unfold okLkR3; rw [e1]; dsimp only; rw [Nat.ble_eq_true_of_le hn]; simp [isOO]
  have o2 : ∀ q, q = p.nodes.flatMap (fun x => x.inputs) → okLkR7 { x1 := p, x3 := q, x5 := 0 : KLkR7 } = true := fun q hq => by
    unfold okLkR7; rw [e2 q hq]; dsimp only; rw [Nat.ble_eq_true_of_le hd]; simp [isOO]
  unfold RLkR
  rw [if_pos o1, e1, if_pos (isLO_inl _)]
  have e3 : (getLO (bLkR3 { x1 := p, x3 := [], x4 := 0 : KLkR3 }) (some (.inl ⟨p.nodes.flatMap (fun x => x.inputs)⟩) : Option (B_LkR3 ⊕ ELkR3))).x3 = p.nodes.flatMap (fun x => x.inputs) := rfl
  rw [e3, if_pos (o2 _ rfl), e2 _ rfl, if_pos (isLO_inl _)]
  rfl
theorem lkR_eq (p : GProgram) (hn : p.nodes.length ≤ 9223372036854775807) (hd : p.drives.length ≤ 9223372036854775807) (h : (linksV p).length < 16777216) : cLkR p = true ∧ vLkR p = linksV p := by
  unfold cLkR vLkR oLkR; rw [lkR_run p hn hd h]; exact ⟨rfl, rfl⟩
def srt : List GParam → Bool
  | a :: b :: l => ltB a.name b.name && srt (b :: l)
  | _ => true
theorem srt_iter {σ ε ρ : Type} (l : List GParam) (S : Nat → σ) (e : ε) (r : ρ) (step : σ → Nx2 σ ε ρ) (hgo : ∀ j, (h1 : 1 ≤ j) → (h : j < l.length) → step (S j) = if ltB (l[j - 1]).name (l[j]).name = true then .go (S (j + 1)) else .ret r) (hex : ∀ j, l.length ≤ j → step (S j) = .ex e) :
    ∀ m j, 1 ≤ j → l.length ≤ j + m → iter2 step m (S j) = some (if srt (l.drop (j - 1)) = true then .inl e else .inr r) := by
  have done : ∀ j, l.length ≤ j → srt (l.drop (j - 1)) = true := fun j hj => by
    have hlen : (l.drop (j - 1)).length ≤ 1 := by rw [List.length_drop]; omega
    match l.drop (j - 1), hlen with
    | [], _ => rfl
    | [a], _ => rfl
    | a :: b :: t, h => simp at h
  intro m
  induction m with
  | zero =>
    intro j h1 h2
    rw [iter2, hex j (by omega), if_pos (done j (by omega))]
  | succ m ih =>
    intro j h1 h2
    rw [iter2]
    by_cases hj : j < l.length
    · rw [hgo j h1 hj]
      have e1 : l.drop (j - 1) = l[j - 1] :: l.drop j := by
        rw [List.drop_eq_getElem_cons (show j - 1 < l.length by omega), show j - 1 + 1 = j by omega]
      have e2 : l.drop j = l[j] :: l.drop (j + 1) := List.drop_eq_getElem_cons hj
      have e3 : srt (l.drop (j - 1)) = (ltB (l[j - 1]).name (l[j]).name && srt (l.drop j)) := by rw [e1, e2]; rfl
      rw [e3]
      by_cases hl : ltB (l[j - 1]).name (l[j]).name = true
      · rw [if_pos hl]
        dsimp only
        rw [ih (j + 1) (by omega) (by omega), hl, Bool.true_and, show j + 1 - 1 = j by omega]
      · rw [if_neg hl, Bool.eq_false_iff.2 hl, Bool.false_and]
        rfl
    · rw [hex j (by omega), if_pos (done j (by omega))]
theorem wrap_pred {j : Nat} (h : 1 ≤ j) (hm : j ≤ 9223372036854775807) : IntKind.i64.wrap ((j : Int) - 1) = ((j - 1 : Nat) : Int) := by
  rw [show (j : Int) - 1 = ((j - 1 : Nat) : Int) by omega]
  exact wrap_small (by omega) (by omega)
theorem tw9_eq (k : KTw9) (h1 : k.x7 = 1) (hm : k.x6.params.length ≤ 9223372036854775807) : iTw9 k = some (if srt k.x6.params = true then .inl () else .inr ⟨true⟩) := by
  have e : bTw9 k = ⟨((1 : Nat) : Int)⟩ := by unfold bTw9; rw [h1]; rfl
  unfold iTw9
  rw [e]
  have := srt_iter (ε := P_Tw9) k.x6.params (fun j => (⟨(j : Int)⟩ : B_Tw9)) () (⟨true⟩ : Q_Tw9) (sTw9 k) (fun j h1 h => by
    have a0 : decide ((j : Int) < (k.x6.params.length : Int)) = true := lt1' h
    have a1 : (0 : Int) ≤ ((j - 1 : Nat) : Int) := by omega
    have a2 : ((j - 1 : Nat) : Int) < (k.x6.params.length : Int) := by omega
    have a3 : (0 : Int) ≤ (j : Int) := by omega
    have a4 : (j : Int) < (k.x6.params.length : Int) := by omega
    unfold sTw9 stTw9 putTw9
    dsimp only
    rw [wrap_pred h1 (by omega), if_pos a0, if_pos a1, if_pos a2, if_pos a3, if_pos a4, gtj' _ _ _ h, gtj' _ _ _ (show j - 1 < k.x6.params.length by omega), cnt' h hm]
    cases ltB (k.x6.params[j - 1]).name (k.x6.params[j]).name <;> rfl) (fun j h => by
    unfold sTw9 stTw9 putTw9
    dsimp only
    rw [if_neg (by simp; omega)]) k.x6.params.length 1 (by omega) (by omega)
  exact this
theorem look_cons94 (t k : ByteArray) (v : Bool) (m : List (ByteArray × Bool)) : mlook9_4 t ((k, v) :: m) = (match eqB t k with | true => some v | false => mlook9_4 t m) := by kernel_rfl
theorem upd_cons94 (s k : ByteArray) (v w : Bool) (m : List (ByteArray × Bool)) : mupd9_4 s v ((k, w) :: m) = (match eqB s k with | true => (s, v) :: m | false => (k, w) :: mupd9_4 s v m) := by kernel_rfl
theorem look_nil94 (t : ByteArray) : mlook9_4 t [] = none := rfl
theorem upd_nil94 (s : ByteArray) (v : Bool) : mupd9_4 s v [] = [(s, v)] := rfl
theorem look_upd94 (s t : ByteArray) (v : Bool) : ∀ m : List (ByteArray × Bool), mlook9_4 t (mupd9_4 s v m) = if t = s then some v else mlook9_4 t m
  | [] => by
    rw [upd_nil94, look_cons94, look_nil94]
    by_cases h : t = s
    · rw [if_pos h, eqB_t.2 h]
    · rw [if_neg h, Bool.eq_false_iff.2 (fun e => h (eqB_t.1 e))]
  | (k, w) :: m => by
    rw [upd_cons94]
    by_cases h : s = k
    · subst h
      rw [eqB_t.2 rfl]
      dsimp only
      rw [look_cons94, look_cons94]
      by_cases h2 : t = s
      · rw [if_pos h2, eqB_t.2 h2]
      · rw [if_neg h2, Bool.eq_false_iff.2 (fun e => h2 (eqB_t.1 e))]
    · rw [Bool.eq_false_iff.2 (fun e => h (eqB_t.1 e))]
      dsimp only
      rw [look_cons94, look_cons94, look_upd94 s t v m]
      by_cases h2 : t = k
      · rw [eqB_t.2 h2]
        dsimp only
        rw [if_neg (fun e => h (e.symm.trans h2))]
      · rw [Bool.eq_false_iff.2 (fun e => h2 (eqB_t.1 e))]
def Seen (m : List (ByteArray × Bool)) (S : List ByteArray) : Prop := ∀ t, getO false (mlook9_4 t m) = S.any fun s => eqB t s
theorem seen_nil : Seen [] [] := fun t => rfl
theorem seen_cons {m : List (ByteArray × Bool)} {S : List ByteArray} (h : Seen m S) (s : ByteArray) : Seen (mupd9_4 s true m) (s :: S) := fun t => by
  rw [look_upd94, List.any_cons]
  by_cases e : t = s
  · rw [if_pos e, eqB_t.2 e]; rfl
  · rw [if_neg e, Bool.eq_false_iff.2 (fun x => e (eqB_t.1 x)), Bool.false_or]; exact h t
def dupN : List ByteArray → List GNode → Bool
  | _, [] => false
  | S, n :: l => (S.any fun s => eqB n.name s) || (!srt n.params || dupN (n.name :: S) l)
def dupD : List ByteArray → List GDrive → Bool
  | _, [] => false
  | S, n :: l => (S.any fun s => eqB n.point s) || dupD (n.point :: S) l
def twiceV (p : GProgram) : Bool := dupN [] p.nodes || dupD [] p.drives
theorem tw3_eq (k : KTw3) : ∀ (l : List GNode) (n : Nat) (m : List (ByteArray × Bool)) (S : List ByteArray), Seen m S → (∀ x ∈ l, x.params.length ≤ 9223372036854775807) →
    (dupN S l = true ∧ scanO (fTw3 k) ⟨m⟩ (l.zipIdx n) = some (.inr ⟨k.x1, true, k.x4⟩)) ∨ (dupN S l = false ∧ ∃ m', scanO (fTw3 k) ⟨m⟩ (l.zipIdx n) = some (.inl ⟨m'⟩))
  | [], n, m, S, h, hp => .inr ⟨rfl, m, rfl⟩
  | x :: l, n, m, S, h, hp => by
    rw [List.zipIdx_cons, scanO, dupN]
    unfold fTw3
    dsimp only
    rw [h x.name]
    cases hs : S.any fun s => eqB x.name s with
    | true => exact .inl ⟨rfl, rfl⟩
    | false =>
      have e9 := tw9_eq { x1 := k.x1, x2 := k.x2, x3 := mupd9_4 x.name true m, x4 := k.x4, x6 := x, x7 := 1, x13 := k.x13, x14 := k.x14, x15 := (n : Int) : KTw9 } rfl (hp x (List.mem_cons_self ..))
      unfold okTw9
      rw [e9]
      dsimp only
      cases hr : srt x.params with
      | false => exact .inl ⟨rfl, rfl⟩
      | true =>
        have := tw3_eq k l (n + 1) (mupd9_4 x.name true m) (x.name :: S) (seen_cons h x.name) fun y hy => hp y (List.mem_cons_of_mem _ hy)
        exact this
theorem tw15_eq (k : KTw15) : ∀ (l : List GDrive) (m : List (ByteArray × Bool)) (S : List ByteArray), Seen m S →
    (dupD S l = true ∧ scanO (fTw15 k) ⟨m⟩ l = some (.inr ⟨true⟩)) ∨ (dupD S l = false ∧ ∃ m', scanO (fTw15 k) ⟨m⟩ l = some (.inl ⟨m'⟩))
  | [], m, S, h => .inr ⟨rfl, m, rfl⟩
  | x :: l, m, S, h => by
    rw [scanO, dupD]
    unfold fTw15
    dsimp only
    rw [h x.point]
    cases hs : S.any fun s => eqB x.point s with
    | true => exact .inl ⟨rfl, rfl⟩
    | false => exact tw15_eq k l (mupd9_4 x.point true m) (x.point :: S) (seen_cons h x.point)
theorem tw_run (p : GProgram) (hn : p.nodes.length ≤ 9223372036854775807) (hd : p.drives.length ≤ 9223372036854775807) (hp : ∀ x ∈ p.nodes, x.params.length ≤ 9223372036854775807) : RTw p = some (.bool (twiceV p), []) := by
  have h3 := tw3_eq { x1 := p, x2 := false, x3 := [], x4 := [], x13 := p.nodes, x14 := (↑p.nodes.length : Int), x15 := 0 : KTw3 } p.nodes 0 [] [] seen_nil hp
  have h15 := tw15_eq { x2 := false, x4 := [], x49 := p.drives, x50 := (↑p.drives.length : Int), x51 := 0 : KTw15 } p.drives [] [] seen_nil
  have ok3 : ∀ z, oTw3 { x1 := p, x2 := false, x3 := [], x4 := [], x13 := p.nodes, x14 := (↑p.nodes.length : Int), x15 := 0 : KTw3 } = some z → okTw3 { x1 := p, x2 := false, x3 := [], x4 := [], x13 := p.nodes, x14 := (↑p.nodes.length : Int), x15 := 0 : KTw3 } = true := fun z hz => by
    unfold okTw3; rw [hz]; dsimp only; rw [Nat.ble_eq_true_of_le hn]; simp [isOO]
  have ok15 : ∀ z, oTw15 { x2 := false, x4 := [], x49 := p.drives, x50 := (↑p.drives.length : Int), x51 := 0 : KTw15 } = some z → okTw15 { x2 := false, x4 := [], x49 := p.drives, x50 := (↑p.drives.length : Int), x51 := 0 : KTw15 } = true := fun z hz => by
    unfold okTw15; rw [hz]; dsimp only; rw [Nat.ble_eq_true_of_le hd]; simp [isOO]
  unfold RTw twiceV
  rcases h3 with ⟨d3, h3⟩ | ⟨d3, m3, h3⟩
  · replace h3 : oTw3 { x1 := p, x2 := false, x3 := [], x4 := [], x13 := p.nodes, x14 := (↑p.nodes.length : Int), x15 := 0 : KTw3 } = _ := h3
    rw [if_pos (ok3 _ h3), h3, d3]
    rfl
  · replace h3 : oTw3 { x1 := p, x2 := false, x3 := [], x4 := [], x13 := p.nodes, x14 := (↑p.nodes.length : Int), x15 := 0 : KTw3 } = _ := h3
    rw [if_pos (ok3 _ h3), h3, d3, if_pos (isLO_inl _)]
    rcases h15 with ⟨d15, h15⟩ | ⟨d15, m15, h15⟩
    · replace h15 : oTw15 { x2 := false, x4 := [], x49 := p.drives, x50 := (↑p.drives.length : Int), x51 := 0 : KTw15 } = _ := h15
      rw [if_pos (ok15 _ h15), h15, d15]
      rfl
    · replace h15 : oTw15 { x2 := false, x4 := [], x49 := p.drives, x50 := (↑p.drives.length : Int), x51 := 0 : KTw15 } = _ := h15
      rw [if_pos (ok15 _ h15), h15, d15]
      rfl
theorem tw_eq (p : GProgram) (hn : p.nodes.length ≤ 9223372036854775807) (hd : p.drives.length ≤ 9223372036854775807) (hp : ∀ x ∈ p.nodes, x.params.length ≤ 9223372036854775807) : cTw p = true ∧ vTw p = twiceV p := by
  unfold cTw vTw oTw; rw [tw_run p hn hd hp]; exact ⟨rfl, rfl⟩
end
end Go.Proofs.YtpbpebjfglfjfaaGreatDoor.X
/-! Plain laws: the names of a program, in the reference. -/
namespace Go.Proofs.YtpbpebjfglfjfaaGreatDoor.X
open Go Go.Proofs Go.RowKit Go.Proofs.YtpbpebjfglfjfaaGreatDoor
noncomputable section
abbrev dD : GDrive := ⟨⟨#[]⟩, 0, ⟨⟨#[]⟩, 0, ⟨#[]⟩, ⟨0, 0⟩, false, ⟨0, 0⟩⟩⟩
abbrev dN : GNode := ⟨⟨#[]⟩, ⟨#[]⟩, [], []⟩
structure SmallP (p : GProgram) : Prop where
  nd : p.nodes.length + p.drives.length ≤ 80
  pa : ∀ x ∈ p.nodes, x.params.length ≤ 12
  inp : ∀ x ∈ p.nodes, x.inputs.length ≤ 12
  li : ∀ x ∈ linksV p, x.node.size ≤ 60 ∧ x.point.size ≤ 60
  bl : ∀ x ∈ p.nodes, x.block.size ≤ 60
theorem flat_le {α β : Type} (g : α → List β) (c : Nat) : ∀ l : List α, (∀ x ∈ l, (g x).length ≤ c) → (l.flatMap g).length ≤ l.length * c
  | [], h => by simp
  | x :: l, h => by
    have h1 := h x (List.mem_cons_self ..)
    have h2 := flat_le g c l fun y hy => h y (List.mem_cons_of_mem _ hy)
    rw [List.flatMap_cons, List.length_append, List.length_cons, Nat.add_mul]
    omega
theorem SmallP.links {p : GProgram} (h : SmallP p) : (linksV p).length < 16777216 := by
  have h1 := flat_le (fun x : GNode => x.inputs) 12 p.nodes h.inp
  have h2 := flat_le (fun x : GDrive => [x.from_]) 1 p.drives fun x _ => by simp
  have h3 := h.nd
  unfold linksV
  rw [List.length_append]
  omega
theorem SmallP.szl {p : GProgram} (h : SmallP p) : ∀ x ∈ linksV p, szL x := fun x hx => by
  have := h.li x hx
  unfold szL
  omega
theorem SmallP.nl {p : GProgram} (h : SmallP p) : p.nodes.length ≤ 9223372036854775807 := by have := h.nd; omega
theorem SmallP.dl {p : GProgram} (h : SmallP p) : p.drives.length ≤ 9223372036854775807 := by have := h.nd; omega
theorem SmallP.pl {p : GProgram} (h : SmallP p) : ∀ x ∈ p.nodes, x.params.length ≤ 9223372036854775807 := fun x hx => by have := h.pa x hx; omega
theorem scan_anyU {α γ : Type} {f : Unit → α → Option (Unit ⊕ γ)} {P : α → Bool} {y : γ} : ∀ (l : List α), (∀ x ∈ l, f () x = if P x = true then some (.inr y) else some (.inl ())) →
    scanO f () l = some (if l.any P = true then .inr y else .inl ())
  | [], h => rfl
  | x :: l, h => by
    rw [scanO, h x (List.mem_cons_self ..), List.any_cons]
    cases hp : P x with
    | true => rfl
    | false =>
      rw [if_neg (by simp), Bool.false_or]
      exact scan_anyU l fun y hy => h y (List.mem_cons_of_mem _ hy)
theorem iter2_any {σ ε ρ : Type} (n : Nat) (S : Nat → σ) (e : ε) (r : ρ) (P : Nat → Bool) (step : σ → Nx2 σ ε ρ) (hgo : ∀ j, j < n → step (S j) = if P j = true then .ret r else .go (S (j + 1))) (hex : ∀ j, n ≤ j → step (S j) = .ex e) :
    ∀ m j, n ≤ j + m → iter2 step m (S j) = some (if (List.range' j (n - j)).any P = true then .inr r else .inl e) := by
  intro m
  induction m with
  | zero =>
    intro j h2
    rw [iter2, hex j (by omega), show n - j = 0 by omega]
    rfl
  | succ m ih =>
    intro j h2
    rw [iter2]
    by_cases hj : j < n
    · rw [hgo j hj, show n - j = (n - (j + 1)) + 1 by omega, List.range'_succ, List.any_cons]
      cases hp : P j with
      | true => rfl
      | false =>
        rw [if_neg (by simp), Bool.false_or]
        exact ih (j + 1) (by omega)
    · rw [hex j (by omega), show n - j = 0 by omega]
      rfl
theorem isO_some {α : Type} (x : α) : isO (some x) = true := rfl
theorem ltno {j n : Nat} (h : n ≤ j) : decide ((j : Int) < (n : Int)) = false := by simp; omega
theorem any_range {P : Nat → Bool} (n : Nat) : (List.range' 0 (n - 0)).any P = true ↔ ∃ i, i < n ∧ P i = true := by
  rw [List.any_eq_true]
  constructor
  · rintro ⟨i, h, hp⟩
    rw [List.mem_range'] at h
    obtain ⟨k, h1, h2⟩ := h
    exact ⟨i, by omega, hp⟩
  · rintro ⟨i, h, hp⟩
    exact ⟨i, List.mem_range'.2 ⟨i, by omega, by omega⟩, hp⟩
theorem dupN_iff : ∀ (l : List GNode) (S : List ByteArray), dupN S l = true ↔ ∃ i, ∃ (h : i < l.length), (l[i].name ∈ S ∨ ∃ k, ∃ (hk : k < i), l[k].name = l[i].name) ∨ srt l[i].params = false
  | [], S => by simp [dupN]
  | x :: l, S => by
    rw [dupN, Bool.or_eq_true, Bool.or_eq_true, dupN_iff l (x.name :: S), List.any_eq_true]
    constructor
    · rintro (⟨s, hs, he⟩ | hs | ⟨i, h, (hi | ⟨k, hk, hi⟩) | hi⟩)
      · exact ⟨0, by simp, .inl (.inl (by rw [List.getElem_cons_zero, eqB_t.1 he]; exact hs))⟩
      · exact ⟨0, by simp, .inr (by simpa using hs)⟩
      · rcases List.mem_cons.1 hi with hi | hi
        · exact ⟨i + 1, by simp; omega, .inl (.inr ⟨0, by omega, by simpa using hi.symm⟩)⟩
        · exact ⟨i + 1, by simp; omega, .inl (.inl (by simpa using hi))⟩
      · exact ⟨i + 1, by simp; omega, .inl (.inr ⟨k + 1, by omega, by simpa using hi⟩)⟩
      · exact ⟨i + 1, by simp; omega, .inr (by simpa using hi)⟩
    · rintro ⟨i, h, (hi | ⟨k, hk, hi⟩) | hi⟩
      · cases i with
        | zero => exact .inl ⟨_, by simpa using hi, eqB_refl _⟩
        | succ i => exact .inr (.inr ⟨i, by simp at h; omega, .inl (.inl (List.mem_cons_of_mem _ (by simpa using hi)))⟩)
      · cases i with
        | zero => omega
        | succ i =>
          cases k with
          | zero => exact .inr (.inr ⟨i, by simp at h; omega, .inl (.inl (List.mem_cons.2 (.inl (by simpa using hi.symm))))⟩)
          | succ k => exact .inr (.inr ⟨i, by simp at h; omega, .inl (.inr ⟨k, by omega, by simpa using hi⟩)⟩)
      · cases i with
        | zero => exact .inr (.inl (by simpa using hi))
        | succ i => exact .inr (.inr ⟨i, by simp at h; omega, .inr (by simpa using hi)⟩)
def specN (p : GProgram) : Int :=
  if (decide ((p.nodes.length : Int) > 64) || decide ((p.drives.length : Int) > 256)) = true then 7 else
  if (!nameV p.name || p.nodes.any fun x => !nameV x.name) = true then 4 else
  if (linksV p).any (fun x => !formedV x) = true then 1 else
  if (decide (p.period < 1) || (decide (p.period > 86400) || p.drives.any fun x => !levelV x.level)) = true then 6 else
  if twiceV p = true then 5 else 0
end
end Go.Proofs.YtpbpebjfglfjfaaGreatDoor.X
/-! Plain laws: what is unknown. -/
namespace Go.Proofs.YtpbpebjfglfjfaaGreatDoor.X
open Go Go.Proofs Go.RowKit Go.Proofs.YtpbpebjfglfjfaaGreatDoor
noncomputable section
theorem lib_par : ∀ d ∈ libL, d.params.length ≤ 64 := fun d hd => Nat.le_of_ble_eq_true (List.all_eq_true.1 (show libL.all (fun d => Nat.ble d.params.length 64) = true by kernel_rfl) d hd)
def prmD (n : ByteArray) : List GBound := (orD (findD n libL)).params
theorem prmD_le (n : ByteArray) : (prmD n).length ≤ 64 := by
  unfold prmD
  cases h : findD n libL with
  | none => exact Nat.zero_le _
  | some d => exact lib_par d (findD_mem h)
theorem er_is (o : Option GDescriptor) : (!decide (erD o = 0)) = !isD o := by cases o <;> rfl
theorem scan_zip {α γ : Type} {f : Unit → α × Nat → Option (Unit ⊕ γ)} {P : α → Bool} {y : γ} : ∀ (l : List α) (n : Nat), (∀ x i, x ∈ l → f () (x, i) = if P x = true then some (.inr y) else some (.inl ())) →
    scanO f () (l.zipIdx n) = some (if l.any P = true then .inr y else .inl ())
  | [], n, h => rfl
  | x :: l, n, h => by
    rw [List.zipIdx_cons, scanO, h x n (List.mem_cons_self ..), List.any_cons]
    cases hp : P x with
    | true => rfl
    | false =>
      rw [if_neg (by simp), Bool.false_or]
      exact scan_zip l (n + 1) fun y i hy => h y i (List.mem_cons_of_mem _ hy)
theorem any_gt {α : Type} (d : α) (l : List α) (P : α → Bool) : (List.range' 0 (l.length - 0)).any (fun j => P (gt d l j)) = l.any P := by
  rw [Bool.eq_iff_iff, any_range, List.any_eq_true]
  constructor
  · rintro ⟨i, h, hp⟩
    rw [gt_at _ _ _ h] at hp
    exact ⟨_, List.getElem_mem h, hp⟩
  · rintro ⟨x, hx, hp⟩
    obtain ⟨i, h, rfl⟩ := List.getElem_of_mem hx
    exact ⟨i, h, by rw [gt_at _ _ _ h]; exact hp⟩
theorem fi_eq (p : GProgram) (s : ByteArray) (hm : p.nodes.length ≤ 9223372036854775807) : cFi p s = true ∧ vFi p s = idxP (fun x : GNode => eqB x.name s) p.nodes := by
  have h : RFi p s = some (.int .i64 (idxP (fun x : GNode => eqB x.name s) p.nodes), []) := by unfold RFi; rw [if_pos (In1_eq _ _ hm).1, (In1_eq _ _ hm).2]
  unfold cFi vFi oFi; rw [h]; exact ⟨rfl, rfl⟩
def unkP (n : ByteArray) (q : GParam) : Bool := !(prmD n).any fun b => eqB b.name q.name
def unkN (x : GNode) : Bool := !isD (findD x.block libL) || x.params.any (unkP x.block)
def unkL (pts : List GPoint) (p : GProgram) (x : GLink) : Bool := (!eqB x.node ⟨#[]⟩ && !p.nodes.any fun n => eqB n.name x.node) || (!eqB x.point ⟨#[]⟩ && !knownV pts x.point)
def unknownV (pts : List GPoint) (p : GProgram) : Bool := p.nodes.any unkN || ((linksV p).any (unkL pts p) || p.drives.any fun d => !knownV pts d.point)
theorem uk9 (x2 : List GPoint) (x3 : GProgram) (x4 : Bool) (n : ByteArray) (x16 : List GNode) (x17 x18 : Int) (q : List GParam) (hq : q.length ≤ 9223372036854775807) :
    oUk9 { x2 := x2, x3 := x3, x4 := x4, x8 := orD (findD n libL), x16 := x16, x17 := x17, x18 := x18, x31 := q, x32 := (↑q.length : Int), x33 := 0 : KUk9 } = some (if q.any (unkP n) = true then .inr ⟨x2, x3, true, x16, x17, x18⟩ else .inl ()) := by
  refine scan_anyU (y := (⟨x2, x3, true, x16, x17, x18⟩ : EUk9)) q fun x hx => ?_
  have hm : (orD (findD n libL)).params.length ≤ 9223372036854775807 := by have := prmD_le n; unfold prmD at this; omega
  have h := Ib_eq (orD (findD n libL)).params x hm
  unfold fUk9
  dsimp only
  rw [if_pos h.1, h.2, idxP_ge]
  rfl
theorem uk3 (pts : List GPoint) (p : GProgram) (h : SmallP p) : oUk3 { x2 := pts, x3 := p, x4 := false, x16 := p.nodes, x17 := (↑p.nodes.length : Int), x18 := 0 : KUk3 } = some (if p.nodes.any unkN = true then .inr ⟨pts, p, true⟩ else .inl ()) := by
  refine scan_zip (y := (⟨pts, p, true⟩ : EUk3)) p.nodes 0 fun x i hx => ?_
  have hb : (x.block.size + 1).blt 4611686018427387904 = true := by have := h.bl x hx; exact Nat.ble_eq_true_of_le (by omega)
  have e9 := uk9 pts p false x.block p.nodes (↑p.nodes.length : Int) (i : Int) x.params (h.pl x hx)
  unfold fUk3 unkN okUk9
  dsimp only
  rw [if_pos hb, er_is, e9]
  cases isD (findD x.block libL) with
  | false => rfl
  | true =>
    have o9 : (decide ((0 : Int) = 0) && (decide ((↑x.params.length : Int) = ↑x.params.length) && (Nat.ble x.params.length 9223372036854775807 && isOO (some (if x.params.any (unkP x.block) = true then (.inr ⟨pts, p, true, p.nodes, (↑p.nodes.length : Int), (i : Int)⟩ : B_Uk9 ⊕ EUk9) else .inl ()))))) = true := by
      rw [Nat.ble_eq_true_of_le (h.pl x hx)]; simp [isOO]
    rw [if_neg (by simp), if_pos o9]
    cases x.params.any (unkP x.block) <;> rfl
theorem link_case {γ : Type} (a b c d : Bool) (y : γ) : (if (!a) = true then if (!b) = false then if (!c) = true then if (!d) = true then some (.inr y) else some (.inl ()) else some (.inl ()) else some (.inr y) else if (!c) = true then if (!d) = true then some (.inr y) else some (.inl ()) else some (.inl ()) : Option (Unit ⊕ γ)) =
    if ((!a && !b) || (!c && !d)) = true then some (.inr y) else some (.inl ()) := by cases a <;> cases b <;> cases c <;> cases d <;> rfl
theorem uk16 (pts : List GPoint) (p : GProgram) (h : SmallP p) (hp : pts.length ≤ 9223372036854775807) : oUk16 { x2 := pts, x3 := p, x4 := false, x45 := linksV p, x46 := (↑(linksV p).length : Int), x47 := 0 : KUk16 } = some (if (linksV p).any (unkL pts p) = true then .inr ⟨pts, p, true⟩ else .inl ()) := by
  refine scan_anyU (y := (⟨pts, p, true⟩ : EUk16)) (linksV p) fun x hx => ?_
  unfold fUk16 unkL
  dsimp only
  rw [if_pos (fi_eq p x.node h.nl).1, (fi_eq p x.node h.nl).2, idxP_lt, if_pos (u1_eq x.point pts hp).1, (u1_eq x.point pts hp).2]
  exact link_case _ _ _ _ _
theorem uk_run (pts : List GPoint) (p : GProgram) (h : SmallP p) (hp : pts.length ≤ 9223372036854775807) : RUk pts p = some (.bool (unknownV pts p), []) := by
  have lk := lk_eq p h.nl h.dl h.links
  have id2 := Id2_eq p.drives pts h.dl hp
  have o3 : okUk3 { x2 := pts, x3 := p, x4 := false, x16 := p.nodes, x17 := (↑p.nodes.length : Int), x18 := 0 : KUk3 } = true := by unfold okUk3; rw [uk3 pts p h]; dsimp only; rw [Nat.ble_eq_true_of_le h.nl]; simp [isOO]
  have o16 : okUk16 { x2 := pts, x3 := p, x4 := false, x45 := linksV p, x46 := (↑(linksV p).length : Int), x47 := 0 : KUk16 } = true := by
    unfold okUk16; rw [uk16 pts p h hp]; dsimp only; rw [Nat.ble_eq_true_of_le (show (linksV p).length ≤ 9223372036854775807 by have := h.links; omega)]; simp [isOO]
  unfold RUk unknownV
  rw [lk.2, if_pos o3, if_pos lk.1, if_pos o16, if_pos id2.1, id2.2, uk3 pts p h, uk16 pts p h hp, idxP_ge]
  cases p.nodes.any unkN with
  | true => rfl
  | false => cases (linksV p).any (unkL pts p) <;> rfl
theorem uk_eq (pts : List GPoint) (p : GProgram) (h : SmallP p) (hp : pts.length ≤ 9223372036854775807) : cUk pts p = true ∧ vUk pts p = unknownV pts p := by
  unfold cUk vUk oUk; rw [uk_run pts p h hp]; exact ⟨rfl, rfl⟩
theorem iter2_or {σ ε ρ : Type} (n : Nat) (S : Bool → Nat → σ) (E : Bool → ε) (P : Nat → Bool) (step : σ → Nx2 σ ε ρ) (hgo : ∀ b j, j < n → step (S b j) = .go (S (b || P j) (j + 1))) (hex : ∀ b j, n ≤ j → step (S b j) = .ex (E b)) :
    ∀ m b j, n ≤ j + m → iter2 step m (S b j) = some (.inl (E (b || (List.range' j (n - j)).any P))) := by
  intro m
  induction m with
  | zero =>
    intro b j h2
    rw [iter2, hex b j (by omega), show n - j = 0 by omega]
    simp
  | succ m ih =>
    intro b j h2
    rw [iter2]
    by_cases hj : j < n
    · rw [hgo b j hj, show n - j = (n - (j + 1)) + 1 by omega, List.range'_succ, List.any_cons]
      dsimp only
      rw [ih _ (j + 1) (by omega), Bool.or_assoc]
    · rw [hex b j (by omega), show n - j = 0 by omega]
      simp
end
end Go.Proofs.YtpbpebjfglfjfaaGreatDoor.X
/-! Plain laws: Check answers as the reference does; what is small. -/
namespace Go.Proofs.YtpbpebjfglfjfaaGreatDoor.X
open Go Go.Proofs Go.RowKit Go.Proofs.YtpbpebjfglfjfaaGreatDoor
noncomputable section
def firstE {α : Type} (E : α → Int) : List α → Int
  | [] => 0
  | x :: l => if (!decide (E x = 0)) = true then E x else firstE E l
theorem scan_err {α γ : Type} {f : Unit → α → Option (Unit ⊕ γ)} {E : α → Int} {y : Int → γ} : ∀ (l : List α), (∀ x ∈ l, f () x = if (!decide (E x = 0)) = true then some (.inr (y (E x))) else some (.inl ())) →
    scanO f () l = some (if (!decide (firstE E l = 0)) = true then .inr (y (firstE E l)) else .inl ())
  | [], h => rfl
  | x :: l, h => by
    rw [scanO, h x (List.mem_cons_self ..), firstE]
    cases hp : (!decide (E x = 0)) with
    | true => rw [if_pos rfl, if_pos rfl, hp]; rfl
    | false =>
      rw [if_neg (show ¬(false = true) by simp), if_neg (show ¬(false = true) by simp)]
      exact scan_err l fun y hy => h y (List.mem_cons_of_mem _ hy)
def eI (x : GNode) : Int := (inpR (findD x.block libL) (↑x.inputs.length : Int)).snd
def eP (x : GNode) : Int := (parE (findD x.block libL) x.block x.params).snd
abbrev dPt : GPoint := ⟨⟨#[]⟩, 0, 0, ⟨#[]⟩, 0, 0, 0, [], ⟨0, 0⟩, 0, 0⟩
def roleOk (x : GPoint) : Bool := decide (x.role = 2) || decide (x.role = 3)
def eC (pts : List GPoint) (d : GDrive) : Int := if roleOk (gt dPt pts (idxP (fun x : GPoint => eqB x.name d.point) pts).toNat) = true then 0 else 11
def specV (pts : List GPoint) (p : GProgram) : Int :=
  if (!decide (specN p = 0)) = true then specN p else
  if unknownV pts p = true then 3 else
  if (!decide (firstE eI p.nodes = 0)) = true then firstE eI p.nodes else
  if (!decide (firstE eP p.nodes = 0)) = true then firstE eP p.nodes else
  if (!decide (firstE (eC pts) p.drives = 0)) = true then firstE (eC pts) p.drives else 0
theorem cm_eq (x : GPoint) : cCm x = true ∧ vCm x = roleOk x := by
  have h : RCm x = some (.bool (roleOk x), []) := by unfold RCm roleOk; cases decide (x.role = 2) <;> rfl
  unfold cCm vCm oCm; rw [h]; exact ⟨rfl, rfl⟩
theorem cf1_eq (l : List GNode) (hm : l.length ≤ 9223372036854775807) : cCf1 l () = true ∧ vCf1 l () = l.any fun x => !nameV x.name := by
  have h : RCf1 l () = some (.bool (l.any fun x => !nameV x.name), []) := by unfold RCf1; rw [if_pos (In2_eq l () hm).1, (In2_eq l () hm).2, idxP_ge]
  unfold cCf1 vCf1 oCf1; rw [h]; exact ⟨rfl, rfl⟩
theorem cf2_eq (l : List GLink) (hm : l.length ≤ 9223372036854775807) (hs : ∀ x ∈ l, szL x) : cCf2 l () = true ∧ vCf2 l () = l.any fun x => !formedV x := by
  have h : RCf2 l () = some (.bool (l.any fun x => !formedV x), []) := by unfold RCf2; rw [if_pos (Il_eq l () hm hs).1, (Il_eq l () hm hs).2, idxP_ge]
  unfold cCf2 vCf2 oCf2; rw [h]; exact ⟨rfl, rfl⟩
theorem cf3_eq (l : List GDrive) (hm : l.length ≤ 9223372036854775807) : cCf3 l () = true ∧ vCf3 l () = l.any fun x => !levelV x.level := by
  have h : RCf3 l () = some (.bool (l.any fun x => !levelV x.level), []) := by unfold RCf3; rw [if_pos (Id1_eq l () hm).1, (Id1_eq l () hm).2, idxP_ge]
  unfold cCf3 vCf3 oCf3; rw [h]; exact ⟨rfl, rfl⟩
theorem known_drive {pts : List GPoint} {p : GProgram} (h : unknownV pts p = false) : ∀ d ∈ p.drives, knownV pts d.point = true := fun d hd => by
  unfold unknownV at h
  rw [Bool.or_eq_false_iff, Bool.or_eq_false_iff] at h
  have := List.any_eq_false.1 h.2.2 d hd
  simpa using this
theorem idx_in {pts : List GPoint} {s : ByteArray} (h : knownV pts s = true) : 0 ≤ idxP (fun x : GPoint => eqB x.name s) pts ∧ idxP (fun x : GPoint => eqB x.name s) pts < (pts.length : Int) := by
  have h1 := idxP_ge (fun x : GPoint => eqB x.name s) pts
  unfold knownV at h
  rw [h] at h1
  refine ⟨of_decide_eq_true h1, ?_⟩
  unfold idxP
  cases hf : pts.findIdx? (fun x : GPoint => eqB x.name s) with
  | none => dsimp only; omega
  | some i =>
    obtain ⟨h2, _⟩ := List.findIdx?_eq_some_iff_getElem.1 hf
    dsimp only
    omega
theorem ck14 (pts : List GPoint) (p : GProgram) (h : SmallP p) (hk : unknownV pts p = false) : oCk14 { x0 := pts, x3 := p, x4 := 0, x63 := p.nodes, x64 := (↑p.nodes.length : Int), x65 := 0 : KCk14 } = some (if (!decide (firstE eI p.nodes = 0)) = true then .inr ⟨pts, p, firstE eI p.nodes⟩ else .inl ()) := by
  refine scan_err (y := fun e => (⟨pts, p, e⟩ : ECk14)) p.nodes fun x hx => ?_
  have hb : (x.block.size + 1).blt 4611686018427387904 = true := by have := h.bl x hx; exact Nat.ble_eq_true_of_le (by omega)
  unfold fCk14
  rw [if_pos hb]
  rfl
theorem ck21 (pts : List GPoint) (p : GProgram) (h : SmallP p) : oCk21 { x0 := pts, x3 := p, x4 := 0, x83 := p.nodes, x84 := (↑p.nodes.length : Int), x85 := 0 : KCk21 } = some (if (!decide (firstE eP p.nodes = 0)) = true then .inr ⟨pts, p, firstE eP p.nodes⟩ else .inl ()) := by
  refine scan_err (y := fun e => (⟨pts, p, e⟩ : ECk21)) p.nodes fun x hx => ?_
  have hb : (x.block.size + 1).blt 4611686018427387904 = true := by have := h.bl x hx; exact Nat.ble_eq_true_of_le (by omega)
  have hl : x.params.length.ble 9223372036854775807 = true := Nat.ble_eq_true_of_le (h.pl x hx)
  unfold fCk21 andP
  rw [hb]
  dsimp only
  rw [if_pos hl]
  rfl
theorem ck28 (pts : List GPoint) (p : GProgram) (h : SmallP p) (hp : pts.length ≤ 9223372036854775807) (hk : unknownV pts p = false) : oCk28 { x0 := pts, x4 := 0, x102 := p.drives, x103 := (↑p.drives.length : Int), x104 := 0 : KCk28 } = some (if (!decide (firstE (eC pts) p.drives = 0)) = true then .inr ⟨firstE (eC pts) p.drives⟩ else .inl ()) := by
  refine scan_err (y := fun e => (⟨e⟩ : ECk28)) p.drives fun x hx => ?_
  have hi := Ip2_eq pts x hp
  have hb := idx_in (known_drive hk x hx)
  unfold fCk28
  dsimp only
  rw [if_pos hi.1, hi.2, if_pos hb.1, if_pos hb.2, if_pos (cm_eq _).1, (cm_eq _).2]
  unfold eC
  cases roleOk (gt dPt pts (idxP (fun x_1 : GPoint => eqB x_1.name x.point) pts).toNat) <;> rfl
theorem ck_run (pts : List GPoint) (p : GProgram) (h : SmallP p) (hp : pts.length ≤ 9223372036854775807) : RCk pts p = some (.int .i64 (specV pts p), []) := by
  have lk := lk_eq p h.nl h.dl h.links
  have hl : (linksV p).length ≤ 9223372036854775807 := by have := h.links; omega
  have tw := tw_eq p h.nl h.dl h.pl
  unfold RCk specV specN
  rw [lk.2, if_pos (nm_eq p.name).1, (nm_eq p.name).2, if_pos (cf1_eq p.nodes h.nl).1, (cf1_eq p.nodes h.nl).2, if_pos lk.1, if_pos (cf2_eq _ hl h.szl).1, (cf2_eq _ hl h.szl).2, if_pos (cf3_eq p.drives h.dl).1, (cf3_eq p.drives h.dl).2, if_pos tw.1, tw.2, if_pos (uk_eq pts p h hp).1, (uk_eq pts p h hp).2]
  cases decide ((p.nodes.length : Int) > 64) with
  | true => rfl
  | false =>
  cases decide ((p.drives.length : Int) > 256) with
  | true => rfl
  | false =>
  cases nameV p.name with
  | false => rfl
  | true =>
  cases p.nodes.any fun x => !nameV x.name with
  | true => rfl
  | false =>
  cases (linksV p).any fun x => !formedV x with
  | true => rfl
  | false =>
  cases decide (p.period < 1) with
  | true => rfl
  | false =>
  cases decide (p.period > 86400) with
  | true => rfl
  | false =>
  cases p.drives.any fun x => !levelV x.level with
  | true => rfl
  | false =>
  cases twiceV p with
  | true => rfl
  | false =>
  cases hk : unknownV pts p with
  | true => rfl
  | false =>
  have o14 : okCk14 { x0 := pts, x3 := p, x4 := 0, x63 := p.nodes, x64 := (↑p.nodes.length : Int), x65 := 0 : KCk14 } = true := by unfold okCk14; rw [ck14 pts p h hk]; dsimp only; rw [Nat.ble_eq_true_of_le h.nl]; simp [isOO]
  have o21 : okCk21 { x0 := pts, x3 := p, x4 := 0, x83 := p.nodes, x84 := (↑p.nodes.length : Int), x85 := 0 : KCk21 } = true := by unfold okCk21; rw [ck21 pts p h]; dsimp only; rw [Nat.ble_eq_true_of_le h.nl]; simp [isOO]
  have o28 : okCk28 { x0 := pts, x4 := 0, x102 := p.drives, x103 := (↑p.drives.length : Int), x104 := 0 : KCk28 } = true := by unfold okCk28; rw [ck28 pts p h hp hk]; dsimp only; rw [Nat.ble_eq_true_of_le h.dl]; simp [isOO]
  rw [if_pos o14, if_pos o21, if_pos o28, ck14 pts p h hk, ck21 pts p h, ck28 pts p h hp hk]
  cases (!decide (firstE eI p.nodes = 0)) with
  | true => rfl
  | false =>
  cases (!decide (firstE eP p.nodes = 0)) with
  | true => rfl
  | false => cases (!decide (firstE (eC pts) p.drives = 0)) <;> rfl
theorem ck_eq (pts : List GPoint) (p : GProgram) (h : SmallP p) (hp : pts.length ≤ 9223372036854775807) : cCk pts p = true ∧ vCk pts p = specV pts p := by
  unfold cCk vCk oCk; rw [ck_run pts p h hp]; exact ⟨rfl, rfl⟩
def bigN (x : GNode) : Bool := decide ((x.params.length : Int) > 12) || (decide ((x.inputs.length : Int) > 12) || (decide ((x.name.size : Int) > 60) || (decide ((x.block.size : Int) > 60) || x.params.any fun q => decide ((q.name.size : Int) > 60))))
def bigL (x : GLink) : Bool := decide ((x.node.size : Int) > 60) || decide ((x.point.size : Int) > 60)
def smallV (p : GProgram) : Bool := !decide (((p.nodes.length + p.drives.length : Nat) : Int) > 80) && (!decide ((p.name.size : Int) > 60) && (!p.nodes.any bigN && (!(linksV p).any bigL && !p.drives.any fun d => decide ((d.point.size : Int) > 60))))
theorem sm10 (p : GProgram) (i : Int) (x : GNode) : oSm10 { x1 := p, x2 := false, x3 := i, x4 := x, x5 := 0 : KSm10 } = some (if (x.params.any fun q => decide ((q.name.size : Int) > 60)) = true then .inr ⟨p, false, i⟩ else .inl ()) := scan_anyU (y := (⟨p, false, i⟩ : ESm10)) x.params fun q _ => rfl
theorem sm4 (p : GProgram) (hd : p.nodes.length ≤ 9223372036854775807) : oSm4 { x1 := p, x2 := false, x3 := 0 : KSm4 } = some (if p.nodes.any bigN = true then .inr ⟨p, false⟩ else .inl ()) := by
  refine scan_zip (y := (⟨p, false⟩ : ESm4)) p.nodes 0 fun x i hx => ?_
  unfold fSm4 bigN okSm10
  dsimp only
  rw [sm10]
  cases h1 : decide ((x.params.length : Int) > 12) with
  | true => rfl
  | false =>
  cases decide ((x.inputs.length : Int) > 12) with
  | true => rfl
  | false =>
  cases decide ((x.name.size : Int) > 60) with
  | true => rfl
  | false =>
  cases decide ((x.block.size : Int) > 60) with
  | true => rfl
  | false =>
  rw [Nat.ble_eq_true_of_le (show x.params.length ≤ 9223372036854775807 by have := of_decide_eq_false h1; omega)]
  cases (x.params.any fun q => decide ((q.name.size : Int) > 60)) <;> rfl
theorem sm16 (p : GProgram) : oSm16 { x1 := p, x2 := false, x6 := linksV p, x7 := 0 : KSm16 } = some (if (linksV p).any bigL = true then .inr ⟨p, false⟩ else .inl ()) := by
  refine scan_anyU (y := (⟨p, false⟩ : ESm16)) (linksV p) fun x _ => ?_
  unfold fSm16 bigL
  cases decide ((x.node.size : Int) > 60) <;> rfl
theorem sm21 (p : GProgram) : oSm21 { x1 := p, x2 := false, x8 := 0 : KSm21 } = some (if (p.drives.any fun d => decide ((d.point.size : Int) > 60)) = true then .inr ⟨false⟩ else .inl ()) := scan_anyU (y := (⟨false⟩ : ESm21)) p.drives fun q _ => rfl
theorem links_few {p : GProgram} (h : p.nodes.length + p.drives.length ≤ 80) (hi : ∀ x ∈ p.nodes, x.inputs.length ≤ 12) : (linksV p).length < 16777216 := by
  have h1 := flat_le (fun x : GNode => x.inputs) 12 p.nodes hi
  have h2 := flat_le (fun x : GDrive => [x.from_]) 1 p.drives fun x _ => by simp
  unfold linksV
  rw [List.length_append]
  omega
theorem big_in {l : List GNode} (h : l.any bigN = false) : ∀ x ∈ l, x.params.length ≤ 12 ∧ x.inputs.length ≤ 12 ∧ x.block.size ≤ 60 := fun x hx => by
  have := List.any_eq_false.1 h x hx
  unfold bigN at this
  simp only [Bool.or_eq_true, decide_eq_true_eq, not_or] at this
  omega
theorem small_p {p : GProgram} (h : smallV p = true) : SmallP p := by
  unfold smallV at h
  simp only [Bool.and_eq_true, Bool.not_eq_true', decide_eq_false_iff_not] at h
  obtain ⟨h1, h2, h3, h4, h5⟩ := h
  refine ⟨by omega, fun x hx => (big_in h3 x hx).1, fun x hx => (big_in h3 x hx).2.1, fun x hx => ?_, fun x hx => (big_in h3 x hx).2.2⟩
  have := List.any_eq_false.1 h4 x hx
  unfold bigL at this
  simp only [Bool.or_eq_true, decide_eq_true_eq, not_or] at this
  omega
theorem sm_run (p : GProgram) (hs : p.nodes.length + p.drives.length ≤ 9223372036854775807) : RSm p = some (.bool (smallV p), []) := by
  have hn : p.nodes.length ≤ 9223372036854775807 := by omega
  have hd : p.drives.length ≤ 9223372036854775807 := by omega
  have e0 : IntKind.i64.wrap ((↑p.nodes.length : Int) + (↑p.drives.length : Int)) = ((p.nodes.length + p.drives.length : Nat) : Int) := by
    rw [show (↑p.nodes.length : Int) + (↑p.drives.length : Int) = ((p.nodes.length + p.drives.length : Nat) : Int) by omega]
    exact wrap_small (by omega) (by omega)
  have o4 : okSm4 { x1 := p, x2 := false, x3 := 0 : KSm4 } = true := by unfold okSm4; rw [sm4 p hn]; dsimp only; rw [Nat.ble_eq_true_of_le hn]; rfl
  have o21 : okSm21 { x1 := p, x2 := false, x8 := 0 : KSm21 } = true := by unfold okSm21; rw [sm21 p]; dsimp only; rw [Nat.ble_eq_true_of_le hd]; rfl
  unfold RSm smallV
  rw [e0, if_pos o4, if_pos o21, sm4 p hn, sm21 p]
  cases h0 : decide (((p.nodes.length + p.drives.length : Nat) : Int) > 80) with
  | true => rfl
  | false =>
  cases decide ((p.name.size : Int) > 60) with
  | true => rfl
  | false =>
  cases h4 : p.nodes.any bigN with
  | true => rfl
  | false =>
  have hl := links_few (p := p) (by have := of_decide_eq_false h0; omega) fun x hx => (big_in h4 x hx).2.1
  have lk := lkR_eq p hn hd hl
  have o16 : okSm16 { x1 := p, x2 := false, x6 := linksV p, x7 := 0 : KSm16 } = true := by
    unfold okSm16; rw [sm16 p]; dsimp only; rw [Nat.ble_eq_true_of_le (show (linksV p).length ≤ 9223372036854775807 by omega)]; rfl
  rw [lk.2, if_pos lk.1, if_pos o16, sm16 p]
  cases (linksV p).any bigL with
  | true => rfl
  | false => cases p.drives.any fun d => decide ((d.point.size : Int) > 60) <;> rfl
theorem sm_eq (p : GProgram) (hs : p.nodes.length + p.drives.length ≤ 9223372036854775807) : cSm p = true ∧ vSm p = smallV p := by
  unfold cSm vSm oSm; rw [sm_run p hs]; exact ⟨rfl, rfl⟩
end
end Go.Proofs.YtpbpebjfglfjfaaGreatDoor.X
