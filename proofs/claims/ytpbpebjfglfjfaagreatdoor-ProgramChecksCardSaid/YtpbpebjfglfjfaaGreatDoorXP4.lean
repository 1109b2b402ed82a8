/-
  Params: both answer the same.
-/
import Derived.Test.YtpbpebjfglfjfaaGreatDoorXP3
import Derived.Test.YtpbpebjfglfjfaaGreatDoorXCl
set_option autoImplicit false
set_option linter.unusedVariables false
set_option linter.unusedSimpArgs false
set_option maxRecDepth 100000
namespace Go.Proofs.YtpbpebjfglfjfaaGreatDoor.X
open Go Go.Proofs Go.RowKit Go.Proofs.YtpbpebjfglfjfaaGreatDoor
noncomputable section
theorem eqB_t {a b : ByteArray} : eqB a b = true ↔ a = b := by rw [eqB_iff]; simp
/-! scans -/
theorem scanL_inl {α β γ : Type} {f : β → α → β ⊕ γ} {b b' : β} {a : α} {l : List α} (h : f b a = .inl b') : scanL f b (a :: l) = scanL f b' l := by rw [scanL, h]
theorem scanL_inr {α β γ : Type} {f : β → α → β ⊕ γ} {b : β} {y : γ} {a : α} {l : List α} (h : f b a = .inr y) : scanL f b (a :: l) = .inr y := by rw [scanL, h]
theorem scan_if {α : Type} (p : α → Bool) : ∀ l : List α, isL (scanL (fun (_ : Unit) x => if p x = true then (.inr () : Unit ⊕ Unit) else .inl ()) () l) = l.all fun x => !p x
  | [] => rfl
  | x :: l => by
    unfold scanL
    by_cases h : p x = true
    · rw [if_pos h, List.all_cons, h]; rfl
    · rw [if_neg h, List.all_cons, Bool.eq_false_iff.2 h]
      show isL (scanL _ () l) = _
      rw [scan_if p l]; rfl
theorem scan_all2 {α : Type} (p : α → Bool) : ∀ l : List α, isL (scanL (fun (_ : Unit) x => if p x = true then (.inl () : Unit ⊕ Unit) else .inr ()) () l) = l.all p
  | [] => rfl
  | x :: l => by
    unfold scanL
    by_cases h : p x = true
    · rw [if_pos h, List.all_cons, h]
      show isL (scanL _ () l) = _
      rw [scan_all2 p l]; rfl
    · rw [if_neg h, List.all_cons, Bool.eq_false_iff.2 h]; rfl
theorem scan_J (l : List GParam) : ∀ r : List Nat, isL (scanL (stpJ l) () r) = r.all fun j => !dupAt l j
  | [] => rfl
  | j :: r => by
    unfold scanL stpJ
    by_cases h : dupAt l j = false
    · rw [if_pos h, List.all_cons, h]
      show isL (scanL (stpJ l) () r) = _
      rw [scan_J l r]; rfl
    · have h2 : dupAt l j = true := by revert h; cases dupAt l j <;> simp
      rw [if_neg h, List.all_cons, h2]; rfl
/-! the index of a name -/
def IdxS (s : ByteArray) (l : List GBound) (k : Nat) (o : Nat ⊕ Nat) : Prop := match o with
  | .inl _ => ∀ b ∈ l, b.name ≠ s
  | .inr j => k ≤ j ∧ ∃ h : j - k < l.length, (l[j - k]).name = s
theorem idx_scan (s : ByteArray) : ∀ (l : List GBound) (k : Nat), IdxS s l k (scanL (stpI s) k l)
  | [], k => fun b hb => by cases hb
  | b :: l, k => by
    unfold scanL stpI
    by_cases h : eqB b.name s = true
    · rw [if_pos h]
      refine ⟨Nat.le_refl k, ?_⟩
      rw [Nat.sub_self]
      exact ⟨Nat.succ_pos _, eqB_t.1 h⟩
    · rw [if_neg h]
      have ih := idx_scan s l (k + 1)
      show IdxS s (b :: l) k (scanL (stpI s) (k + 1) l)
      revert ih
      cases scanL (stpI s) (k + 1) l with
      | inl x =>
        intro ih c hc
        rcases List.mem_cons.1 hc with rfl | hc
        · exact fun e => h (eqB_t.2 e)
        · exact ih c hc
      | inr j =>
        rintro ⟨h1, h2, h3⟩
        refine ⟨by omega, ?_⟩
        have e : j - k = (j - (k + 1)) + 1 := by omega
        refine ⟨by simp; omega, ?_⟩
        simp only [e, List.getElem_cons_succ]
        exact h3
theorem idx_pos {s : ByteArray} {l : List GBound} (h : 0 ≤ idxB s l) : ∃ h2 : (idxB s l).toNat < l.length, (l[(idxB s l).toNat]).name = s ∧ idxB s l < (l.length : Int) := by
  have hs := idx_scan s l 0
  unfold idxB at h ⊢
  revert h hs
  cases scanL (stpI s) 0 l with
  | inl x => intro h; exact absurd h (by unfold endI; simp)
  | inr j =>
    rintro _ ⟨_, h2, h3⟩
    simp only [Nat.sub_zero] at h2 h3
    exact ⟨h2, h3, by show (j : Int) < _; omega⟩
theorem known_idxC {d : GDescriptor} {l : List GParam} (h : isL (scanL (stp1 d) () l) = true) : idxC d l = true ∧ ∀ x ∈ l, 0 ≤ idxB x.name d.params := by
  have h1 : (l.all fun x => !decide (idxB x.name d.params < 0)) = true := (scan_if (fun x : GParam => decide (idxB x.name d.params < 0)) l).symm.trans h
  have h2 : ∀ x ∈ l, 0 ≤ idxB x.name d.params := fun x hx => by
    have := List.all_eq_true.1 h1 x hx
    simp only [Bool.not_eq_true', decide_eq_false_iff_not] at this
    omega
  refine ⟨List.all_eq_true.2 fun x hx => ?_, h2⟩
  obtain ⟨_, _, h3⟩ := idx_pos (h2 x hx)
  simp only [Bool.and_eq_true, decide_eq_true_eq]
  exact ⟨h2 x hx, h3⟩
/-! the map -/
theorem look_cons9 (t k : ByteArray) (v : Int) (m : List (ByteArray × Int)) : mlook9_2 t ((k, v) :: m) = (match eqB t k with | true => some v | false => mlook9_2 t m) := by kernel_rfl
theorem upd_cons9 (s k : ByteArray) (v w : Int) (m : List (ByteArray × Int)) : mupd9_2 s v ((k, w) :: m) = (match eqB s k with | true => (s, v) :: m | false => (k, w) :: mupd9_2 s v m) := by kernel_rfl
theorem look_nil9 (t : ByteArray) : mlook9_2 t [] = none := rfl
theorem upd_nil9 (s : ByteArray) (v : Int) : mupd9_2 s v [] = [(s, v)] := rfl
theorem look_upd (s t : ByteArray) (v : Int) : ∀ m : List (ByteArray × Int), mlook9_2 t (mupd9_2 s v m) = if t = s then some v else mlook9_2 t m
  | [] => by
    rw [upd_nil9, look_cons9, look_nil9]
    by_cases h : t = s
    · rw [if_pos h, eqB_t.2 h]
    · rw [if_neg h, Bool.eq_false_iff.2 (fun e => h (eqB_t.1 e))]
  | (k, w) :: m => by
    rw [upd_cons9]
    by_cases h : s = k
    · subst h
      rw [eqB_t.2 rfl]
      dsimp only
      rw [look_cons9, look_cons9]
      by_cases h2 : t = s
      · rw [if_pos h2, eqB_t.2 h2]
      · rw [if_neg h2, Bool.eq_false_iff.2 (fun e => h2 (eqB_t.1 e))]
    · rw [Bool.eq_false_iff.2 (fun e => h (eqB_t.1 e))]
      dsimp only
      rw [look_cons9, look_cons9, look_upd s t v m]
      by_cases h2 : t = k
      · rw [eqB_t.2 h2]
        dsimp only
        rw [if_neg (fun e => h (e.symm.trans h2))]
      · rw [Bool.eq_false_iff.2 (fun e => h2 (eqB_t.1 e))]
theorem dup_map : ∀ (l : List GParam) (m : List (ByteArray × Int)), isL (scanL stp2 m l) = true ↔ (∀ x ∈ l, mlook9_2 x.name m = none) ∧ l.Pairwise fun a b => a.name ≠ b.name
  | [], m => by simp [scanL, isL]
  | x :: l, m => by
    unfold scanL stp2
    cases hx : mlook9_2 x.name m with
    | some v =>
      rw [if_pos (show isO (some v) = true from rfl)]
      constructor
      · intro h; cases h
      · rintro ⟨h, _⟩; have := h x (List.mem_cons_self ..); rw [hx] at this; cases this
    | none =>
      rw [if_neg (show ¬ isO (none : Option Int) = true by simp [isO])]
      show isL (scanL stp2 (mupd9_2 x.name x.value m) l) = true ↔ _
      rw [dup_map l, List.pairwise_cons]
      constructor
      · rintro ⟨h1, h2⟩
        have h3 : ∀ y ∈ l, x.name ≠ y.name ∧ mlook9_2 y.name m = none := fun y hy => by
          have := h1 y hy
          rw [look_upd] at this
          by_cases e : y.name = x.name
          · rw [if_pos e] at this; cases this
          · rw [if_neg e] at this; exact ⟨fun q => e q.symm, this⟩
        exact ⟨fun y hy => (List.mem_cons.1 hy).elim (fun e => by rw [e]; exact hx) (fun hy => (h3 y hy).2), fun y hy => (h3 y hy).1, h2⟩
      · rintro ⟨h1, h2, h3⟩
        refine ⟨fun y hy => ?_, h3⟩
        rw [look_upd, if_neg (fun e => h2 y hy e.symm)]
        exact h1 y (List.mem_cons_of_mem _ hy)
theorem dup_at (l : List GParam) : ((List.range l.length).all fun j => !dupAt l j) = true ↔ l.Pairwise fun a b => a.name ≠ b.name := by
  rw [List.all_eq_true, List.pairwise_iff_getElem]
  constructor
  · intro h i j hi hj hij e
    have := h j (List.mem_range.2 hj)
    unfold dupAt at this
    rw [gt_at gp00 l j hj] at this
    simp only [Bool.not_eq_true', List.any_eq_false] at this
    have hm : l[i] ∈ l.take j := List.mem_take_iff_getElem.2 ⟨i, by omega, rfl⟩
    exact this _ hm (eqB_t.2 e.symm)
  · intro h j hj
    have hj := List.mem_range.1 hj
    unfold dupAt
    rw [gt_at gp00 l j hj]
    simp only [Bool.not_eq_true', List.any_eq_false]
    intro y hy e
    obtain ⟨i, hi, rfl⟩ := List.mem_take_iff_getElem.1 hy
    exact h i j (by omega) hj (by omega) (eqB_t.1 e).symm
theorem dup_same (l : List GParam) : isL (scanL (stpJ l) () (List.range l.length)) = isL (scanL stp2 [] l) := by
  rw [scan_J, Bool.eq_iff_iff, dup_at, dup_map]
  simp [look_nil9]
/-! the values -/
def distB : List GBound → Bool
  | [] => true
  | b :: l => (l.all fun c => !eqB b.name c.name) && distB l
theorem distB_pair : ∀ {l : List GBound}, distB l = true → l.Pairwise fun a b => a.name ≠ b.name
  | [], _ => .nil
  | b :: l, h => by
    unfold distB at h
    rw [Bool.and_eq_true] at h
    refine .cons (fun c hc e => ?_) (distB_pair h.2)
    have := List.all_eq_true.1 h.1 c hc
    rw [eqB_t.2 e] at this
    cases this
theorem dist_inj {l : List GBound} (h : distB l = true) {i j : Nat} (hi : i < l.length) (hj : j < l.length) (e : (l[i]).name = (l[j]).name) : i = j := by
  have hp := List.pairwise_iff_getElem.1 (distB_pair h)
  rcases Nat.lt_trichotomy i j with h1 | h1 | h1
  · exact absurd e (hp i j hi hj h1)
  · exact h1
  · exact absurd e.symm (hp j i hj hi h1)
theorem parV_upd (s : ByteArray) (v : Int) (m : List (ByteArray × Int)) (b : GBound) : parV (mupd9_2 s v m) b = if b.name = s then v else parV m b := by
  unfold parV
  rw [look_upd]
  by_cases h : b.name = s
  · rw [if_pos h, if_pos h]; rfl
  · rw [if_neg h, if_neg h]
theorem set_map {ps : List GBound} (hd : distB ps = true) {s : ByteArray} (hi : 0 ≤ idxB s ps) (v : Int) (m : List (ByteArray × Int)) : (ps.map (parV m)).set (idxB s ps).toNat v = ps.map (parV (mupd9_2 s v m)) := by
  obtain ⟨h1, h2, _⟩ := idx_pos hi
  refine List.ext_getElem (by simp) fun k hk1 hk2 => ?_
  have hk : k < ps.length := by simpa using hk2
  rw [List.getElem_set, List.getElem_map, List.getElem_map, parV_upd]
  by_cases h : (idxB s ps).toNat = k
  · rw [if_pos h, if_pos]
    simp only [← h]; exact h2
  · rw [if_neg h, if_neg]
    intro e
    exact h (dist_inj hd h1 hk (h2.trans e.symm))
theorem out_same {d : GDescriptor} (hd : distB d.params = true) : ∀ (l : List GParam) (m : List (ByteArray × Int)), (∀ x ∈ l, 0 ≤ idxB x.name d.params) → isL (scanL stp2 m l) = true →
    (isL (scanL (stp4 d) (d.params.map (parV m)) l) = isL (scanL (stp3 d) () l)) ∧ (isL (scanL (stp3 d) () l) = true → getL [] (scanL (stp4 d) (d.params.map (parV m)) l) = d.params.map (parV (getL [] (scanL stp2 m l))))
  | [], m, _, _ => ⟨rfl, fun _ => rfl⟩
  | x :: l, m, hx, hm => by
    unfold scanL stp2 at hm
    have hno : ¬ isO (mlook9_2 x.name m) = true := fun e => by rw [if_pos e] at hm; cases hm
    rw [if_neg hno] at hm
    replace hm : isL (scanL stp2 (mupd9_2 x.name x.value m) l) = true := hm
    have ih := out_same hd l (mupd9_2 x.name x.value m) (fun y hy => hx y (List.mem_cons_of_mem _ hy)) hm
    rw [← set_map hd (hx x (List.mem_cons_self ..)) x.value m] at ih
    have e2 : scanL stp2 m (x :: l) = scanL stp2 (mupd9_2 x.name x.value m) l := scanL_inl (by unfold stp2; rw [if_neg hno])
    rw [e2]
    have e4 : scanL (stp4 d) (d.params.map (parV m)) (x :: l) = if rngB d x = true then .inr (d.params.map (parV m)) else scanL (stp4 d) ((d.params.map (parV m)).set (idxB x.name d.params).toNat x.value) l := by
      by_cases h : rngB d x = true
      · rw [if_pos h, scanL_inr (by unfold stp4; rw [if_pos h])]
      · rw [if_neg h, scanL_inl (by unfold stp4; rw [if_neg h])]
    have e3 : scanL (stp3 d) () (x :: l) = if rngB d x = true then .inr () else scanL (stp3 d) () l := by
      by_cases h : rngB d x = true
      · rw [if_pos h, scanL_inr (by unfold stp3; rw [if_pos h])]
      · rw [if_neg h, scanL_inl (by unfold stp3; rw [if_neg h])]
    rw [e4, e3]
    by_cases h : rngB d x = true
    · rw [if_pos h, if_pos h]
      exact ⟨rfl, fun e => by cases e⟩
    · rw [if_neg h, if_neg h]
      exact ih
/-! the conditions, at each descriptor of the library -/
def plainName (n : ByteArray) : Bool := !eqB n bLimit && (!eqB n bPid && (!eqB n bLine && !eqB n bHyst))
theorem holds_plain (d : GDescriptor) (ps : List Int) (h : plainName d.name = true) : RholdR d ps = some (.bool (holdsV d.name ps), []) := by
  unfold plainName at h
  simp only [Bool.and_eq_true, Bool.not_eq_true'] at h
  obtain ⟨h1, h2, h3, h4⟩ := h
  have e : holdsV d.name ps = true := by
    unfold holdsV
    rw [if_neg (by rw [h1]; simp), if_neg (by rw [h2]; simp), if_neg (by rw [h3]; simp), if_neg (by rw [h4]; simp)]
  rw [e]
  unfold RholdR
  exact (if_neg (show ¬ eqB d.name bLimit = true by rw [h1]; simp)).trans ((if_neg (show ¬ eqB d.name bPid = true by rw [h2]; simp)).trans ((if_neg (show ¬ eqB d.name bLine = true by rw [h3]; simp)).trans (if_neg (show ¬ eqB d.name bHyst = true by rw [h4]; simp))))
/-- the descriptors with conditions -/
def condB (d : GDescriptor) : Bool := plainName d.name
theorem lib_split : libL.all (fun d => plainName d.name || eqB d.name bLimit || eqB d.name bPid || eqB d.name bLine || eqB d.name bHyst) = true := by kernel_rfl
def dOf (s : ByteArray) : GDescriptor := orD (findD s libL)
theorem hold_limit (a b : Int) : RholdR (dOf bLimit) [a, b] = some (.bool (holdsV bLimit [a, b]), []) := by kernel_rfl
theorem hold_pid (a b c d e : Int) : RholdR (dOf bPid) [a, b, c, d, e] = some (.bool (holdsV bPid [a, b, c, d, e]), []) := by kernel_rfl
theorem hold_line (a b c d : Int) : RholdR (dOf bLine) [a, b, c, d] = some (.bool (holdsV bLine [a, b, c, d]), []) := by kernel_rfl
theorem hold_hyst (a b : Int) : RholdR (dOf bHyst) [a, b] = some (.bool (holdsV bHyst [a, b]), []) := by kernel_rfl
theorem find_name {n : ByteArray} : ∀ {l : List GDescriptor} {d : GDescriptor}, findD n l = some d → d.name = n
  | [], d, h => by cases h
  | x :: l, d, h => by
    replace h : (if eqB x.name n = true then some x else findD n l) = some d := h
    split at h
    · rename_i e
      obtain rfl := Option.some.inj h; exact eqB_t.1 e
    · exact find_name h
theorem holds_lib {n : ByteArray} {d : GDescriptor} (h : findD n libL = some d) (ps : List Int) (hp : ps.length = d.params.length) : RholdR d ps = some (.bool (holdsV n ps), []) := by
  have hn := find_name h
  have h1 := List.all_eq_true.1 lib_split d (findD_mem h)
  simp only [Bool.or_eq_true] at h1
  have hd : ∀ s, d.name = s → d = dOf s := fun s e => by unfold dOf; rw [← e, hn, h]; rfl
  rcases h1 with (((h1 | h1) | h1) | h1) | h1
  · rw [holds_plain d ps h1, hn]
  · have e := eqB_t.1 h1
    have e2 := hd _ e
    rw [← hn, e]
    subst e2
    match ps, hp with
    | [a, b], _ => exact hold_limit a b
  · have e := eqB_t.1 h1
    have e2 := hd _ e
    rw [← hn, e]
    subst e2
    match ps, hp with
    | [a, b, c, d, e], _ => exact hold_pid a b c d e
  · have e := eqB_t.1 h1
    have e2 := hd _ e
    rw [← hn, e]
    subst e2
    match ps, hp with
    | [a, b, c, d], _ => exact hold_line a b c d
  · have e := eqB_t.1 h1
    have e2 := hd _ e
    rw [← hn, e]
    subst e2
    match ps, hp with
    | [a, b], _ => exact hold_hyst a b
/-! what both answer -/
def parD (n : ByteArray) (d : GDescriptor) (l : List GParam) : List Int × Int :=
  if isL (scanL (stp1 d) () l) = true then
   (if isL (scanL stp2 [] l) = true then
    (if isL (scanL (stp3 d) () l) = true then
     (if holdsV n (d.params.map (parV (getL [] (scanL stp2 [] l)))) = true then (d.params.map (parV (getL [] (scanL stp2 [] l))), 0) else ([], 10))
    else ([], 6))
   else ([], 5))
  else ([], 3)
def parE (o : Option GDescriptor) (n : ByteArray) (l : List GParam) : List Int × Int := match o with | none => ([], 3) | some d => parD n d l
def parW (p : List Int × Int) : Res At := (.tup [.ro 2 p.1, .int .i64 p.2], [])
def crI (z : Option (Res At)) : Option (Res At) := coRes TT [some 2] (shutRes z)
theorem lib_dist : libL.all (fun d => distB d.params && Nat.ble (holdsN d.name) d.params.length) = true := by kernel_rfl
theorem find_dist {n : ByteArray} {d : GDescriptor} (h : findD n libL = some d) : distB d.params = true ∧ holdsN n ≤ d.params.length := by
  have h1 := List.all_eq_true.1 lib_dist d (findD_mem h)
  simp only [Bool.and_eq_true] at h1
  exact ⟨h1.1, by rw [← find_name h]; exact Nat.le_of_ble_eq_true h1.2⟩
theorem par_eq (n : ByteArray) (l : List GParam) (hn : (n.size + 1).blt 4611686018427387904 = true) (hl : l.length ≤ 9223372036854775807) : crI (Rpar n l) = some (parW (parE (findD n libL) n l)) := by
  unfold Rpar
  rw [if_pos hn]
  cases ho : findD n libL with
  | none => rfl
  | some d =>
    obtain ⟨_, _, _, _, h5⟩ := find_good ho
    obtain ⟨hd, hN⟩ := find_dist ho
    have hB : lenB d.params = true := Nat.ble_eq_true_of_le (show d.params.length ≤ 9223372036854775807 by omega)
    have hL : Nat.ble l.length 9223372036854775807 = true := Nat.ble_eq_true_of_le hl
    rw [show orD (some d) = d from rfl]
    refine congrArg crI ((if_neg (by simp [erD])).trans (if_pos (by unfold okpa1; simp only [Bool.and_eq_true, decide_eq_true_eq]; exact ⟨trivial, trivial, hL, hB⟩))) |>.trans ?_
    show _ = some (parW (parD n d l))
    unfold parD
    by_cases h1 : ¬ isL (scanL (stp1 d) () l) = true
    · rw [if_neg h1, if_neg h1]; rfl
    have h1 : isL (scanL (stp1 d) () l) = true := Decidable.not_not.1 h1
    obtain ⟨hC, hI⟩ := known_idxC h1
    rw [if_pos h1, if_pos h1]
    refine congrArg crI (if_pos (by unfold okpa2; simp only [Bool.and_eq_true, decide_eq_true_eq]; exact ⟨trivial, trivial, hL⟩)) |>.trans ?_
    by_cases h2 : ¬ isL (scanL stp2 [] l) = true
    · rw [if_neg h2, if_neg h2]; rfl
    have h2 : isL (scanL stp2 [] l) = true := Decidable.not_not.1 h2
    rw [if_pos h2, if_pos h2]
    refine congrArg crI (if_pos (by unfold okpa3; simp only [Bool.and_eq_true, decide_eq_true_eq]; exact ⟨trivial, trivial, hL, hB, hC⟩)) |>.trans ?_
    by_cases h3 : ¬ isL (scanL (stp3 d) () l) = true
    · rw [if_neg h3, if_neg h3]; rfl
    have h3 : isL (scanL (stp3 d) () l) = true := Decidable.not_not.1 h3
    rw [if_pos h3, if_pos h3, List.nil_append]
    refine congrArg crI ((if_pos (by unfold okpa4; simp only [Bool.and_eq_true, decide_eq_true_eq]; exact ⟨trivial, trivial, Nat.ble_eq_true_of_le (show 0 + d.params.length + 1 ≤ 16777216 by omega)⟩)).trans (if_pos (Nat.ble_eq_true_of_le (by rw [List.length_map]; exact hN)))) |>.trans ?_
    cases holdsV n (d.params.map (parV (getL [] (scanL stp2 [] l)))) <;> rfl
def rowP (o : List Int) : Option (Res At) := some ((.tup [(.own 0), (.int .i64 0)]), [(0, (.row 2 o false))])
theorem parR_eq (n : ByteArray) (l : List GParam) (hl : l.length ≤ 9223372036854775807) : crI (RparR n l) = some (parW (parE (findD n libL) n l)) := by
  unfold RparR
  cases ho : findD n libL with
  | none => rfl
  | some d =>
    obtain ⟨_, _, _, _, h5⟩ := find_good ho
    obtain ⟨hd, hN⟩ := find_dist ho
    have hB : lenB d.params = true := Nat.ble_eq_true_of_le (show d.params.length ≤ 9223372036854775807 by omega)
    have hL : Nat.ble l.length 9223372036854775807 = true := Nat.ble_eq_true_of_le hl
    rw [show orD (some d) = d from rfl]
    refine congrArg crI ((if_neg (by simp [isD])).trans (if_pos (by unfold okra1; simp only [Bool.and_eq_true, decide_eq_true_eq]; exact ⟨trivial, hL, hB⟩))) |>.trans ?_
    show _ = some (parW (parD n d l))
    unfold parD
    by_cases h1 : ¬ isL (scanL (stp1 d) () l) = true
    · rw [if_neg h1, if_neg h1]; rfl
    have h1 : isL (scanL (stp1 d) () l) = true := Decidable.not_not.1 h1
    obtain ⟨hC, hI⟩ := known_idxC h1
    rw [if_pos h1, if_pos h1]
    refine congrArg crI (if_pos (by unfold okra2; simp only [Bool.and_eq_true, decide_eq_true_eq]; exact ⟨trivial, hL⟩)) |>.trans ?_
    rw [dup_same l]
    by_cases h2 : ¬ isL (scanL stp2 [] l) = true
    · rw [if_neg h2, if_neg h2]; rfl
    have h2 : isL (scanL stp2 [] l) = true := Decidable.not_not.1 h2
    rw [if_pos h2, if_pos h2]
    have ed : defL d = d.params.map (parV []) := List.map_congr_left fun b _ => rfl
    obtain ⟨g1, g2⟩ := out_same hd l [] hI h2
    rw [List.nil_append, ed]
    refine congrArg crI ((if_pos (by unfold okra3; simp only [Bool.and_eq_true, decide_eq_true_eq]; exact ⟨trivial, Nat.ble_eq_true_of_le (show 0 + d.params.length + 1 ≤ 16777216 by omega)⟩)).trans (if_pos (by unfold okra4; simp only [Bool.and_eq_true, decide_eq_true_eq]; exact ⟨trivial, hL, hB, hC, (by rw [List.length_map]; exact Nat.beq_refl _)⟩))) |>.trans ?_
    rw [g1]
    by_cases h3 : ¬ isL (scanL (stp3 d) () l) = true
    · rw [if_neg h3, if_neg h3]; rfl
    have h3 : isL (scanL (stp3 d) () l) = true := Decidable.not_not.1 h3
    rw [if_pos h3, if_pos h3, g2 h3, holds_lib ho _ (by rw [List.length_map])]
    refine congrArg crI (if_pos rfl) |>.trans ?_
    show crI (if (!(holdsV n (d.params.map (parV (getL [] (scanL stp2 [] l)))))) = true then some ((.tup [.nils, (.int .i64 10)]), []) else rowP (getL [] (scanL (stp4 d) (d.params.map (parV [])) l))) = _
    rw [g2 h3]
    cases holdsV n (d.params.map (parV (getL [] (scanL stp2 [] l)))) <;> rfl
def andP (a b : Bool) : Bool := match a with | true => b | false => false
def conPar : CON := onSL 93 fun n (l : List GParam) => some (andP ((n.size + 1).blt 4611686018427387904) (Nat.ble l.length 9223372036854775807), parW (parE (findD n libL) n l))
theorem andP_t {a b : Bool} (h : andP a b = true) : a = true ∧ b = true := by cases a <;> first | cases h; done | exact ⟨rfl, h⟩
theorem okPar : OK 60 conPar := by
  refine ok_co (E := mkE CP4) TT_ok (body_ok (E := mkE CP4) (good CP4_ok) (f := 60) (fn := (bodyT 60).getD default) (c := codeOf 60) (by rfl) (by rfl) 80) [some 2] fun l r h => ?_
  replace h := onSL_spec (conO_some h)
  obtain ⟨n, l, rfl, h⟩ := h
  obtain ⟨hc, rfl⟩ := some_pair h
  exact (congrArg crI (run_Rpar n l)).trans (par_eq n l (andP_t hc).1 (Nat.le_of_ble_eq_true (andP_t hc).2))
def conParR : CON := onSL 93 fun n (l : List GParam) => some (Nat.ble l.length 9223372036854775807, parW (parE (findD n libL) n l))
theorem okParR : OK 67 conParR := by
  refine ok_co (E := mkE CP5) TT_ok (body_ok (E := mkE CP5) (good CP5_ok) (f := 67) (fn := (bodyT 67).getD default) (c := codeOf 67) (by rfl) (by rfl) 80) [some 2] fun l r h => ?_
  replace h := onSL_spec (conO_some h)
  obtain ⟨n, l, rfl, h⟩ := h
  obtain ⟨hc, rfl⟩ := some_pair h
  exact (congrArg crI (run_RparR n l)).trans (parR_eq n l (Nat.le_of_ble_eq_true hc))
def onLL {R : Type} (e g : Nat) (F : List (At e) → List (At g) → Option R) (l : List VT) : Option R := match l with | [x, y] => (match roV e x, roV g y with | some a, some b => F a b | _, _ => none) | _ => none
theorem onLL_spec {R : Type} {e g : Nat} {F : List (At e) → List (At g) → Option R} {l : List VT} {r : R} (h : onLL e g F l = some r) : ∃ a b, l = [.ro e a, .ro g b] ∧ F a b = some r := by
  unfold onLL at h
  split at h
  · split at h
    · rename_i hx hy
      exact ⟨_, _, by rw [roV_spec hx, roV_spec hy], h⟩
    · cases h
  · cases h
def libP7 : List (Nat × CON) := (60, conPar) :: (67, conParR) :: libP
theorem libP7_ok : AllOK libP7 := .cons okPar (.cons okParR libP_ok)
def CP7 : Cfg := { cs := libP7 }
theorem CP7_ok : CfgOK CP7 := { con := libP7_ok }
end
end Go.Proofs.YtpbpebjfglfjfaaGreatDoor.X
/-! READERS: what a value tells, exactly; contracts out of runs. -/
namespace Go.Proofs.YtpbpebjfglfjfaaGreatDoor.X
open Go Go.Proofs Go.RowKit Go.Proofs.YtpbpebjfglfjfaaGreatDoor
noncomputable section
structure RD (α : Type) where
  rd : VT → Option α
  wr : α → VT
  ok : ∀ v a, rd v = some a → v = wr a
def rI (k : IntKind) : RD Int := ⟨fun v => match v with | .int k' n => (match decide (k' = k) with | true => some n | false => none) | _ => none, fun n => .int k n, fun v a h => by
  split at h
  · split at h
    · rename_i hk
      obtain rfl := Option.some.inj h
      rw [of_decide_eq_true hk]
    · cases h
  · cases h⟩
def rB : RD Bool := ⟨fun v => match v with | .bool b => some b | _ => none, fun b => .bool b, fun v a h => by
  split at h
  · obtain rfl := Option.some.inj h; rfl
  · cases h⟩
def rS : RD ByteArray := ⟨fun v => match v with | .str b => some b | _ => none, fun b => .str b, fun v a h => by
  split at h
  · obtain rfl := Option.some.inj h; rfl
  · cases h⟩
def rR (e : Nat) : RD (List (At e)) := ⟨fun v => roV e v, fun l => .ro e l, fun v a h => roV_spec h⟩
def rA {α : Type} (x : List VT → Option α) (c : α → List VT) (h : ∀ l a, x l = some a → l = c a) : RD α := ⟨fun v => match v with | .agg l => x l | _ => none, fun a => .agg (c a), fun v a hv => by
  split at hv
  · rw [h _ _ hv]
  · cases hv⟩
def rP {α : Type} (x : List VT → Option α) (c : α → List VT) (h : ∀ l a, x l = some a → l = c a) : RD α := ⟨fun v => match v with | .rel l => x l | _ => none, fun a => .rel (c a), fun v a hv => by
  split at hv
  · rw [h _ _ hv]
  · cases hv⟩
/-- a closure of number f, with one thing caught -/
def rF1 (f : Nat) {α : Type} (r : RD α) : RD α := ⟨fun v => match v with | .fn g [x] => (match Nat.beq g f with | true => r.rd x | false => none) | _ => none, fun a => .fn f [r.wr a], fun v a hv => by
  split at hv
  · split at hv
    · rename_i hb
      rw [Nat.eq_of_beq_eq_true hb, r.ok _ _ hv]
    · cases hv
  · cases hv⟩
/-- a closure of number f, with nothing caught -/
def rF0 (f : Nat) : RD Unit := ⟨fun v => match v with | .fn g [] => (match Nat.beq g f with | true => some () | false => none) | _ => none, fun _ => .fn f [], fun v a hv => by
  split at hv
  · split at hv
    · rename_i hb
      rw [Nat.eq_of_beq_eq_true hb]
    · cases hv
  · cases hv⟩
/-- a variable of one cell, seen from outside -/
def rC {α : Type} (r : RD α) : RD α := ⟨fun v => match v with | .rel [x] => r.rd x | _ => none, fun a => .rel [r.wr a], fun v a hv => by
  split at hv
  · rw [r.ok _ _ hv]
  · cases hv⟩
def rT2 {α β : Type} (a : RD α) (b : RD β) : RD (α × β) := ⟨fun v => match v with | .tup [x, y] => (match a.rd x, b.rd y with | some p, some q => some (p, q) | _, _ => none) | _ => none, fun p => .tup [a.wr p.1, b.wr p.2], fun v p hv => by
  split at hv
  · split at hv
    · rename_i h1 h2
      obtain rfl := Option.some.inj hv
      rw [a.ok _ _ h1, b.ok _ _ h2]
    · cases hv
  · cases hv⟩
/-- what a run yields, if it is of that kind and leaves no blocks -/
def getV {α : Type} (r : RD α) (o : Option (Res At)) : Option α := match o with | some (v, []) => r.rd v | _ => none
def valO {α : Type} (r : RD α) (d : α) (o : Option (Res At)) : α := getO d (getV r o)
def okO {α : Type} (r : RD α) (o : Option (Res At)) : Bool := isO (getV r o)
theorem getV_some {α : Type} {r : RD α} {o : Option (Res At)} {a : α} (h : getV r o = some a) : o = some (r.wr a, []) := by
  unfold getV at h
  split at h
  · rw [r.ok _ _ h]
  · cases h
theorem okO_spec {α : Type} {r : RD α} {d : α} {o : Option (Res At)} (h : okO r o = true) : o = some (r.wr (valO r d o), []) := by
  unfold okO isO at h
  split at h
  · rename_i a ha
    unfold valO
    rw [ha]
    exact getV_some ha
  · cases h
theorem valO_some {α : Type} {r : RD α} {d : α} {o : Option (Res At)} {a : α} (h : getV r o = some a) : okO r o = true ∧ valO r d o = a := by
  unfold okO valO
  rw [h]
  exact ⟨rfl, rfl⟩
def on1 {α R : Type} (a : RD α) (F : α → Option R) (l : List VT) : Option R := match l with | [x] => (match a.rd x with | some p => F p | none => none) | _ => none
theorem on1_spec {α R : Type} {a : RD α} {F : α → Option R} {l : List VT} {r : R} (h : on1 a F l = some r) : ∃ p, l = [a.wr p] ∧ F p = some r := by
  unfold on1 at h
  split at h
  · split at h
    · rename_i p hp
      exact ⟨p, by rw [a.ok _ _ hp], h⟩
    · cases h
  · cases h
def on2 {α β R : Type} (a : RD α) (b : RD β) (F : α → β → Option R) (l : List VT) : Option R := match l with | [x, y] => (match a.rd x, b.rd y with | some p, some q => F p q | _, _ => none) | _ => none
theorem on2_spec {α β R : Type} {a : RD α} {b : RD β} {F : α → β → Option R} {l : List VT} {r : R} (h : on2 a b F l = some r) : ∃ p q, l = [a.wr p, b.wr q] ∧ F p q = some r := by
  unfold on2 at h
  split at h
  · split at h
    · rename_i p q hp hq
      exact ⟨p, q, by rw [a.ok _ _ hp, b.ok _ _ hq], h⟩
    · cases h
  · cases h
def on3 {α β γ R : Type} (a : RD α) (b : RD β) (c : RD γ) (F : α → β → γ → Option R) (l : List VT) : Option R := match l with | [x, y, z] => (match a.rd x, b.rd y, c.rd z with | some p, some q, some s => F p q s | _, _, _ => none) | _ => none
theorem on3_spec {α β γ R : Type} {a : RD α} {b : RD β} {c : RD γ} {F : α → β → γ → Option R} {l : List VT} {r : R} (h : on3 a b c F l = some r) : ∃ p q s, l = [a.wr p, b.wr q, c.wr s] ∧ F p q s = some r := by
  unfold on3 at h
  split at h
  · split at h
    · rename_i p q s hp hq hs
      exact ⟨p, q, s, by rw [a.ok _ _ hp, b.ok _ _ hq, c.ok _ _ hs], h⟩
    · cases h
  · cases h
theorem okf_run {C : Cfg} (h : CfgOK C) {f : Nat} (he : entB f = true) (n : Nat) : OkC TT Tryz.prog GW f fun l => runF C n f l :=
  ⟨entB_spec he, fun w okb xs cs r hG hs hr hok h1 => run_calls h hG hs hr hok h1⟩
/-- what comes back, told by elements -/
def crR (ts : List (Option Nat)) (o : Option (Res At)) : Option (Res At) := coRes TT ts (shutRes o)
theorem crR_ite {ts : List (Option Nat)} {c : Prop} [Decidable c] {a b : Option (Res At)} : crR ts (if c then a else b) = if c then crR ts a else crR ts b := by
  by_cases h : c
  · rw [if_pos h, if_pos h]
  · rw [if_neg h, if_neg h]
theorem okO_ite {α : Type} {r : RD α} {c : Prop} [Decidable c] {a b : Option (Res At)} : okO r (if c then a else b) = if c then okO r a else okO r b := by
  by_cases h : c
  · rw [if_pos h, if_pos h]
  · rw [if_neg h, if_neg h]
theorem valO_ite {α : Type} {r : RD α} {d : α} {c : Prop} [Decidable c] {a b : Option (Res At)} : valO r d (if c then a else b) = if c then valO r d a else valO r d b := by
  by_cases h : c
  · rw [if_pos h, if_pos h]
  · rw [if_neg h, if_neg h]
theorem c_ite {α : Type} {r : RD α} {ts : List (Option Nat)} {c : Prop} [Decidable c] {a b : Option (Res At)} : okO r (crR ts (if c then a else b)) = if c then okO r (crR ts a) else okO r (crR ts b) := by rw [crR_ite, okO_ite]
theorem v_ite {α : Type} {r : RD α} {d : α} {ts : List (Option Nat)} {c : Prop} [Decidable c] {a b : Option (Res At)} : valO r d (crR ts (if c then a else b)) = if c then valO r d (crR ts a) else valO r d (crR ts b) := by rw [crR_ite, valO_ite]
/-- loops by their rounds, as they come -/
inductive Nx2 (σ ε ρ : Type) | go (s : σ) | ex (x : ε) | ret (x : ρ) | no
def iter2 {σ ε ρ : Type} (step : σ → Nx2 σ ε ρ) : Nat → σ → Option (ε ⊕ ρ)
  | 0, s => (match step s with | .ex x => some (.inl x) | .ret x => some (.inr x) | _ => none)
  | k + 1, s => (match step s with | .go s' => iter2 step k s' | .ex x => some (.inl x) | .ret x => some (.inr x) | .no => none)
def Nx2.up {σ ε ρ τ χ : Type} (p : σ → τ) (e : ε → χ) (r : ρ → χ) (n : Nx2 σ ε ρ) : Nx τ χ := match n with | .go s => .go (p s) | .ex x => .ex (e x) | .ret x => .ret (r x) | .no => .no
theorem Nx2.up_ite {σ ε ρ τ χ : Type} {p : σ → τ} {e : ε → χ} {r : ρ → χ} {c : Prop} [Decidable c] {a b : Nx2 σ ε ρ} : Nx2.up p e r (if c then a else b) = if c then Nx2.up p e r a else Nx2.up p e r b := by
  by_cases h : c
  · rw [if_pos h, if_pos h]
  · rw [if_neg h, if_neg h]
theorem iter2_up {σ ε ρ τ χ : Type} {step : τ → Nx τ χ} {s : σ → Nx2 σ ε ρ} {p : σ → τ} {e : ε → χ} {r : ρ → χ} (h : ∀ b, step (p b) = (s b).up p e r) : ∀ (n : Nat) (b : σ), iter step n (p b) = (iter2 s n b).map fun y => match y with | .inl x => .ex (e x) | .inr x => .ret (r x)
  | 0, b => by
    rw [iter, iter2, h b]
    cases s b <;> rfl
  | n + 1, b => by
    rw [iter, iter2, h b]
    cases s b with
    | go b' => exact iter2_up h n b'
    | _ => rfl
theorem iter2_ok {σ ε ρ τ χ : Type} {step : τ → Nx τ χ} {s : σ → Nx2 σ ε ρ} {p : σ → τ} {e : ε → χ} {r : ρ → χ} {n : Nat} {de : ε} {dr : ρ} (b : σ) (h : ∀ b, step (p b) = (s b).up p e r) (ho : isO (iter2 s n b) = true) :
    iter step n (p b) = some (if isLO (iter2 s n b) = true then .ex (e (getLO de (iter2 s n b))) else .ret (r (getRO dr (iter2 s n b)))) := by
  rw [iter2_up h]
  cases hi : iter2 s n b with
  | none => rw [hi] at ho; cases ho
  | some y => cases y <;> rfl
/-- one contract or another -/
def orC (a b : CON) : CON := fun l => match a l with | some r => some r | none => b l
theorem ok_or {f : Nat} {a b : CON} (h : OK f a) (k : OK f b) : OK f (orC a b) := by
  refine ⟨h.1, fun w okb xs cs r hG hs hr hok hq => ?_⟩
  replace hq : conO (orC a b xs) = some r := hq
  unfold orC at hq
  split at hq
  · rename_i q ha
    exact h.2 w okb xs cs r hG hs hr hok (by show conO (a xs) = some r; rw [ha]; exact hq)
  · exact k.2 w okb xs cs r hG hs hr hok hq
/-- contracts out of runs: arguments read, the result read -/
theorem okc1 {C : Cfg} (h : CfgOK C) {f n : Nat} {α ρ : Type} {a : RD α} {r : RD ρ} {d : ρ} {ts : List (Option Nat)} {R : α → Option (Res At)} (he : entB f = true) (hr : ∀ p, runF C n f [a.wr p] = R p) :
    OK f (on1 a fun p => some (okO r (crR ts (R p)), (r.wr (valO r d (crR ts (R p))), []))) := by
  refine ok_co (E := mkE C) TT_ok (okf_run h he n) ts fun l q hq => ?_
  obtain ⟨p, rfl, h0⟩ := on1_spec (conO_some hq)
  obtain ⟨h1, rfl⟩ := some_pair h0
  rw [hr]
  exact okO_spec h1
theorem okc2 {C : Cfg} (h : CfgOK C) {f n : Nat} {α β ρ : Type} {a : RD α} {b : RD β} {r : RD ρ} {d : ρ} {ts : List (Option Nat)} {R : α → β → Option (Res At)} (he : entB f = true) (hr : ∀ p q, runF C n f [a.wr p, b.wr q] = R p q) :
    OK f (on2 a b fun p q => some (okO r (crR ts (R p q)), (r.wr (valO r d (crR ts (R p q))), []))) := by
  refine ok_co (E := mkE C) TT_ok (okf_run h he n) ts fun l q hq => ?_
  obtain ⟨p, s, rfl, h0⟩ := on2_spec (conO_some hq)
  obtain ⟨h1, rfl⟩ := some_pair h0
  rw [hr]
  exact okO_spec h1
theorem okc3 {C : Cfg} (h : CfgOK C) {f n : Nat} {α β γ ρ : Type} {a : RD α} {b : RD β} {c : RD γ} {r : RD ρ} {d : ρ} {ts : List (Option Nat)} {R : α → β → γ → Option (Res At)} (he : entB f = true) (hr : ∀ p q s, runF C n f [a.wr p, b.wr q, c.wr s] = R p q s) :
    OK f (on3 a b c fun p q s => some (okO r (crR ts (R p q s)), (r.wr (valO r d (crR ts (R p q s))), []))) := by
  refine ok_co (E := mkE C) TT_ok (okf_run h he n) ts fun l q hq => ?_
  obtain ⟨p, s, t, rfl, h0⟩ := on3_spec (conO_some hq)
  obtain ⟨h1, rfl⟩ := some_pair h0
  rw [hr]
  exact okO_spec h1
end
end Go.Proofs.YtpbpebjfglfjfaaGreatDoor.X
