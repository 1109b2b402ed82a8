/-
  Params: both answer the same.
-/
import Derived.Test.YtbcpnhnalhhfoaaGreatDoorXP3
set_option autoImplicit false
set_option linter.unusedVariables false
set_option linter.unusedSimpArgs false
set_option maxRecDepth 100000
namespace Go.Proofs.YtbcpnhnalhhfoaaGreatDoor.X
open Go Go.Proofs Go.RowKit Go.Proofs.YtbcpnhnalhhfoaaGreatDoor
noncomputable section
theorem eqB_t {a b : ByteArray} : eqB a b = true ↔ a = b := by rw [eqB_iff]; simp
/-! scans -/
theorem scanL_inl {α β γ : Type} {f : β → α → β ⊕ γ} {b b' : β} {a : α} {l : List α} (h : f b a = .inl b') : scanL f b (a :: l) = scanL f b' l := by rw [scanL, h]
theorem scanL_inr {α β γ : Type} {f : β → α → β ⊕ γ} {b : β} {y : γ} {a : α} {l : List α} (h : f b a = .inr y) : scanL f b (a :: l) = .inr y := by rw [scanL, h]
theorem scan_if {α : Type} (p : α → Bool) : ∀ l : List α, isL (scanL (fun (_ : Unit) x => if p x = true then (.inr () : Unit ⊕ Unit) else .inl ()) () l) = l.all fun x => !p x
  | [] => rfl
  | x :: l => by
    unfold scanL
    by_cases h : p x = true
    · rw [if_pos h, List.all_cons, h]; rfl
    · rw [if_neg h, List.all_cons, Bool.eq_false_iff.2 h]
      show isL (scanL _ () l) = _
      rw [scan_if p l]; rfl
theorem scan_all2 {α : Type} (p : α → Bool) : ∀ l : List α, isL (scanL (fun (_ : Unit) x => if p x = true then (.inl () : Unit ⊕ Unit) else .inr ()) () l) = l.all p
  | [] => rfl
  | x :: l => by
    unfold scanL
    by_cases h : p x = true
    · rw [if_pos h, List.all_cons, h]
      show isL (scanL _ () l) = _
      rw [scan_all2 p l]; rfl
    · rw [if_neg h, List.all_cons, Bool.eq_false_iff.2 h]; rfl
theorem scan_J (l : List GParam) : ∀ r : List Nat, isL (scanL (stpJ l) () r) = r.all fun j => !dupAt l j
  | [] => rfl
  | j :: r => by
    unfold scanL stpJ
    by_cases h : dupAt l j = false
    · rw [if_pos h, List.all_cons, h]
      show isL (scanL (stpJ l) () r) = _
      rw [scan_J l r]; rfl
    · have h2 : dupAt l j = true := by revert h; cases dupAt l j <;> simp
      rw [if_neg h, List.all_cons, h2]; rfl
/-! the index of a name -/
def IdxS (s : ByteArray) (l : List GBound) (k : Nat) (o : Nat ⊕ Nat) : Prop := match o with
  | .inl _ => ∀ b ∈ l, b.name ≠ s
  | .inr j => k ≤ j ∧ ∃ h : j - k < l.length, (l[j - k]).name = s
theorem idx_scan (s : ByteArray) : ∀ (l : List GBound) (k : Nat), IdxS s l k (scanL (stpI s) k l)
  | [], k => fun b hb => by cases hb
  | b :: l, k => by
    unfold scanL stpI
    by_cases h : eqB b.name s = true
    · rw [if_pos h]
      refine ⟨Nat.le_refl k, ?_⟩
      rw [Nat.sub_self]
      exact ⟨Nat.succ_pos _, eqB_t.1 h⟩
    · rw [if_neg h]
      have ih := idx_scan s l (k + 1)
      show IdxS s (b :: l) k (scanL (stpI s) (k + 1) l)
      revert ih
      cases scanL (stpI s) (k + 1) l with
      | inl x =>
        intro ih c hc
        rcases List.mem_cons.1 hc with rfl | hc
        · exact fun e => h (eqB_t.2 e)
        · exact ih c hc
      | inr j =>
        rintro ⟨h1, h2, h3⟩
        refine ⟨by omega, ?_⟩
        have e : j - k = (j - (k + 1)) + 1 := by omega
        refine ⟨by simp; omega, ?_⟩
        simp only [e, List.getElem_cons_succ]
        exact h3
theorem idx_pos {s : ByteArray} {l : List GBound} (h : 0 ≤ idxB s l) : ∃ h2 : (idxB s l).toNat < l.length, (l[(idxB s l).toNat]).name = s ∧ idxB s l < (l.length : Int) := by
  have hs := idx_scan s l 0
  unfold idxB at h ⊢
  revert h hs
  cases scanL (stpI s) 0 l with
  | inl x => intro h; exact absurd h (by unfold endI; simp)
  | inr j =>
    rintro _ ⟨_, h2, h3⟩
    simp only [Nat.sub_zero] at h2 h3
    exact ⟨h2, h3, by show (j : Int) < _; omega⟩
theorem known_idxC {d : GDescriptor} {l : List GParam} (h : isL (scanL (stp1 d) () l) = true) : idxC d l = true ∧ ∀ x ∈ l, 0 ≤ idxB x.name d.params := by
  have h1 : (l.all fun x => !decide (idxB x.name d.params < 0)) = true := (scan_if (fun x : GParam => decide (idxB x.name d.params < 0)) l).symm.trans h
  have h2 : ∀ x ∈ l, 0 ≤ idxB x.name d.params := fun x hx => by
    have := List.all_eq_true.1 h1 x hx
    simp only [Bool.not_eq_true', decide_eq_false_iff_not] at this
    omega
  refine ⟨List.all_eq_true.2 fun x hx => ?_, h2⟩
  obtain ⟨_, _, h3⟩ := idx_pos (h2 x hx)
  simp only [Bool.and_eq_true, decide_eq_true_eq]
  exact ⟨h2 x hx, h3⟩
/-! the map -/
theorem look_cons9 (t k : ByteArray) (v : Int) (m : List (ByteArray × Int)) : mlook9_2 t ((k, v) :: m) = (match eqB t k with | true => some v | false => mlook9_2 t m) := by kernel_rfl
theorem upd_cons9 (s k : ByteArray) (v w : Int) (m : List (ByteArray × Int)) : mupd9_2 s v ((k, w) :: m) = (match eqB s k with | true => (s, v) :: m | false => (k, w) :: mupd9_2 s v m) := by kernel_rfl
theorem look_nil9 (t : ByteArray) : mlook9_2 t [] = none := rfl
theorem upd_nil9 (s : ByteArray) (v : Int) : mupd9_2 s v [] = [(s, v)] := rfl
theorem look_upd (s t : ByteArray) (v : Int) : ∀ m : List (ByteArray × Int), mlook9_2 t (mupd9_2 s v m) = if t = s then some v else mlook9_2 t m
  | [] => by
    rw [upd_nil9, look_cons9, look_nil9]
    by_cases h : t = s
    · rw [if_pos h, eqB_t.2 h]
    · rw [if_neg h, Bool.eq_false_iff.2 (fun e => h (eqB_t.1 e))]
  | (k, w) :: m => by
    rw [upd_cons9]
    by_cases h : s = k
    · subst h
      rw [eqB_t.2 rfl]
      dsimp only
      rw [look_cons9, look_cons9]
      by_cases h2 : t = s
      · rw [if_pos h2, eqB_t.2 h2]
      · rw [if_neg h2, Bool.eq_false_iff.2 (fun e => h2 (eqB_t.1 e))]
    · rw [Bool.eq_false_iff.2 (fun e => h (eqB_t.1 e))]
      dsimp only
      rw [look_cons9, look_cons9, look_upd s t v m]
      by_cases h2 : t = k
      · rw [eqB_t.2 h2]
        dsimp only
        rw [if_neg (fun e => h (e.symm.trans h2))]
      · rw [Bool.eq_false_iff.2 (fun e => h2 (eqB_t.1 e))]
theorem dup_map : ∀ (l : List GParam) (m : List (ByteArray × Int)), isL (scanL stp2 m l) = true ↔ (∀ x ∈ l, mlook9_2 x.name m = none) ∧ l.Pairwise fun a b => a.name ≠ b.name
  | [], m => by simp [scanL, isL]
  | x :: l, m => by
    unfold scanL stp2
    cases hx : mlook9_2 x.name m with
    | some v =>
      rw [if_pos (show isO (some v) = true from rfl)]
      constructor
      · intro h; cases h
      · rintro ⟨h, _⟩; have := h x (List.mem_cons_self ..); rw [hx] at this; cases this
    | none =>
      rw [if_neg (show ¬ isO (none : Option Int) = true by simp [isO])]
      show isL (scanL stp2 (mupd9_2 x.name x.value m) l) = true ↔ _
      rw [dup_map l, List.pairwise_cons]
      constructor
      · rintro ⟨h1, h2⟩
        have h3 : ∀ y ∈ l, x.name ≠ y.name ∧ mlook9_2 y.name m = none := fun y hy => by
          have := h1 y hy
          rw [look_upd] at this
          by_cases e : y.name = x.name
          · rw [if_pos e] at this; cases this
          · rw [if_neg e] at this; exact ⟨fun q => e q.symm, this⟩
        exact ⟨fun y hy => (List.mem_cons.1 hy).elim (fun e => by rw [e]; exact hx) (fun hy => (h3 y hy).2), fun y hy => (h3 y hy).1, h2⟩
      · rintro ⟨h1, h2, h3⟩
        refine ⟨fun y hy => ?_, h3⟩
        rw [look_upd, if_neg (fun e => h2 y hy e.symm)]
        exact h1 y (List.mem_cons_of_mem _ hy)
theorem dup_at (l : List GParam) : ((List.range l.length).all fun j => !dupAt l j) = true ↔ l.Pairwise fun a b => a.name ≠ b.name := by
  rw [List.all_eq_true, List.pairwise_iff_getElem]
  constructor
  · intro h i j hi hj hij e
    have := h j (List.mem_range.2 hj)
    unfold dupAt at this
    rw [gt_at gp00 l j hj] at this
    simp only [Bool.not_eq_true', List.any_eq_false] at this
    have hm : l[i] ∈ l.take j := List.mem_take_iff_getElem.2 ⟨i, by omega, rfl⟩
    exact this _ hm (eqB_t.2 e.symm)
  · intro h j hj
    have hj := List.mem_range.1 hj
    unfold dupAt
    rw [gt_at gp00 l j hj]
    simp only [Bool.not_eq_true', List.any_eq_false]
    intro y hy e
    obtain ⟨i, hi, rfl⟩ := List.mem_take_iff_getElem.1 hy
    exact h i j (by omega) hj (by omega) (eqB_t.1 e).symm
theorem dup_same (l : List GParam) : isL (scanL (stpJ l) () (List.range l.length)) = isL (scanL stp2 [] l) := by
  rw [scan_J, Bool.eq_iff_iff, dup_at, dup_map]
  simp [look_nil9]
/-! the values -/
def distB : List GBound → Bool
  | [] => true
  | b :: l => (l.all fun c => !eqB b.name c.name) && distB l
theorem distB_pair : ∀ {l : List GBound}, distB l = true → l.Pairwise fun a b => a.name ≠ b.name
  | [], _ => .nil
  | b :: l, h => by
    unfold distB at h
    rw [Bool.and_eq_true] at h
    refine .cons (fun c hc e => ?_) (distB_pair h.2)
    have := List.all_eq_true.1 h.1 c hc
    rw [eqB_t.2 e] at this
    cases this
theorem dist_inj {l : List GBound} (h : distB l = true) {i j : Nat} (hi : i < l.length) (hj : j < l.length) (e : (l[i]).name = (l[j]).name) : i = j := by
  have hp := List.pairwise_iff_getElem.1 (distB_pair h)
  rcases Nat.lt_trichotomy i j with h1 | h1 | h1
  · exact absurd e (hp i j hi hj h1)
  · exact h1
  · exact absurd e.symm (hp j i hj hi h1)
theorem parV_upd (s : ByteArray) (v : Int) (m : List (ByteArray × Int)) (b : GBound) : parV (mupd9_2 s v m) b = if b.name = s then v else parV m b := by
  unfold parV
  rw [look_upd]
  by_cases h : b.name = s
  · rw [if_pos h, if_pos h]; rfl
  · rw [if_neg h, if_neg h]
theorem set_map {ps : List GBound} (hd : distB ps = true) {s : ByteArray} (hi : 0 ≤ idxB s ps) (v : Int) (m : List (ByteArray × Int)) : (ps.map (parV m)).set (idxB s ps).toNat v = ps.map (parV (mupd9_2 s v m)) := by
  obtain ⟨h1, h2, _⟩ := idx_pos hi
  refine List.ext_getElem (by simp) fun k hk1 hk2 => ?_
  have hk : k < ps.length := by simpa using hk2
  rw [List.getElem_set, List.getElem_map, List.getElem_map, parV_upd]
  by_cases h : (idxB s ps).toNat = k
  · rw [if_pos h, if_pos]
    simp only [← h]; exact h2
  · rw [if_neg h, if_neg]
    intro e
    exact h (dist_inj hd h1 hk (h2.trans e.symm))
theorem out_same {d : GDescriptor} (hd : distB d.params = true) : ∀ (l : List GParam) (m : List (ByteArray × Int)), (∀ x ∈ l, 0 ≤ idxB x.name d.params) → isL (scanL stp2 m l) = true →
    (isL (scanL (stp4 d) (d.params.map (parV m)) l) = isL (scanL (stp3 d) () l)) ∧ (isL (scanL (stp3 d) () l) = true → getL [] (scanL (stp4 d) (d.params.map (parV m)) l) = d.params.map (parV (getL [] (scanL stp2 m l))))
  | [], m, _, _ => ⟨rfl, fun _ => rfl⟩
  | x :: l, m, hx, hm => by
    unfold scanL stp2 at hm
    have hno : ¬ isO (mlook9_2 x.name m) = true := fun e => by rw [if_pos e] at hm; cases hm
    rw [if_neg hno] at hm
    replace hm : isL (scanL stp2 (mupd9_2 x.name x.value m) l) = true := hm
    have ih := out_same hd l (mupd9_2 x.name x.value m) (fun y hy => hx y (List.mem_cons_of_mem _ hy)) hm
    rw [← set_map hd (hx x (List.mem_cons_self ..)) x.value m] at ih
    have e2 : scanL stp2 m (x :: l) = scanL stp2 (mupd9_2 x.name x.value m) l := scanL_inl (by unfold stp2; rw [if_neg hno])
    rw [e2]
    have e4 : scanL (stp4 d) (d.params.map (parV m)) (x :: l) = if rngB d x = true then .inr (d.params.map (parV m)) else scanL (stp4 d) ((d.params.map (parV m)).set (idxB x.name d.params).toNat x.value) l := by
      by_cases h : rngB d x = true
      · rw [if_pos h, scanL_inr (by unfold stp4; rw [if_pos h])]
      · rw [if_neg h, scanL_inl (by unfold stp4; rw [if_neg h])]
    have e3 : scanL (stp3 d) () (x :: l) = if rngB d x = true then .inr () else scanL (stp3 d) () l := by
      by_cases h : rngB d x = true
      · rw [if_pos h, scanL_inr (by unfold stp3; rw [if_pos h])]
      · rw [if_neg h, scanL_inl (by unfold stp3; rw [if_neg h])]
    rw [e4, e3]
    by_cases h : rngB d x = true
    · rw [if_pos h, if_pos h]
      exact ⟨rfl, fun e => by cases e⟩
    · rw [if_neg h, if_neg h]
      exact ih
/-! the conditions, at each descriptor of the library -/
def plainName (n : ByteArray) : Bool := !eqB n bLimit && (!eqB n bPid && (!eqB n bLine && !eqB n bHyst))
theorem holds_plain (d : GDescriptor) (ps : List Int) (h : plainName d.name = true) : RholdR d ps = some (.bool (holdsV d.name ps), []) := by
  unfold plainName at h
  simp only [Bool.and_eq_true, Bool.not_eq_true'] at h
  obtain ⟨h1, h2, h3, h4⟩ := h
  have e : holdsV d.name ps = true := by
    unfold holdsV
    rw [if_neg (by rw [h1]; simp), if_neg (by rw [h2]; simp), if_neg (by rw [h3]; simp), if_neg (by rw [h4]; simp)]
  rw [e]
  unfold RholdR
  exact (if_neg (show ¬ eqB d.name bLimit = true by rw [h1]; simp)).trans ((if_neg (show ¬ eqB d.name bPid = true by rw [h2]; simp)).trans ((if_neg (show ¬ eqB d.name bLine = true by rw [h3]; simp)).trans (if_neg (show ¬ eqB d.name bHyst = true by rw [h4]; simp))))
/-- the descriptors with conditions -/
def condB (d : GDescriptor) : Bool := plainName d.name
theorem lib_split : libL.all (fun d => plainName d.name || eqB d.name bLimit || eqB d.name bPid || eqB d.name bLine || eqB d.name bHyst) = true := by kernel_rfl
def dOf (s : ByteArray) : GDescriptor := orD (findD s libL)
theorem hold_limit (a b : Int) : RholdR (dOf bLimit) [a, b] = some (.bool (holdsV bLimit [a, b]), []) := by kernel_rfl
theorem hold_pid (a b c d e : Int) : RholdR (dOf bPid) [a, b, c, d, e] = some (.bool (holdsV bPid [a, b, c, d, e]), []) := by kernel_rfl
theorem hold_line (a b c d : Int) : RholdR (dOf bLine) [a, b, c, d] = some (.bool (holdsV bLine [a, b, c, d]), []) := by kernel_rfl
theorem hold_hyst (a b : Int) : RholdR (dOf bHyst) [a, b] = some (.bool (holdsV bHyst [a, b]), []) := by kernel_rfl
theorem find_name {n : ByteArray} : ∀ {l : List GDescriptor} {d : GDescriptor}, findD n l = some d → d.name = n
  | [], d, h => by cases h
  | x :: l, d, h => by
    replace h : (if eqB x.name n = true then some x else findD n l) = some d := h
    split at h
    · rename_i e
      obtain rfl := Option.some.inj h; exact eqB_t.1 e
    · exact find_name h
theorem holds_lib {n : ByteArray} {d : GDescriptor} (h : findD n libL = some d) (ps : List Int) (hp : ps.length = d.params.length) : RholdR d ps = some (.bool (holdsV n ps), []) := by
  have hn := find_name h
  have h1 := List.all_eq_true.1 lib_split d (findD_mem h)
  simp only [Bool.or_eq_true] at h1
  have hd : ∀ s, d.name = s → d = dOf s := fun s e => by unfold dOf; rw [← e, hn, h]; rfl
  rcases h1 with (((h1 | h1) | h1) | h1) | h1
  · rw [holds_plain d ps h1, hn]
  · have e := eqB_t.1 h1
    have e2 := hd _ e
    rw [← hn, e]
    subst e2
    match ps, hp with
    | [a, b], _ => exact hold_limit a b
  · have e := eqB_t.1 h1
    have e2 := hd _ e
    rw [← hn, e]
    subst e2
    match ps, hp with
    | [a, b, c, d, e], _ => exact hold_pid a b c d e
  · have e := eqB_t.1 h1
    have e2 := hd _ e
    rw [← hn, e]
    subst e2
    match ps, hp with
    | [a, b, c, d], _ => exact hold_line a b c d
  · have e := eqB_t.1 h1
    have e2 := hd _ e
    rw [← hn, e]
    subst e2
    match ps, hp with
    | [a, b], _ => exact hold_hyst a b
/-! what both answer -/
def parD (n : ByteArray) (d : GDescriptor) (l : List GParam) : List Int × Int :=
  if isL (scanL (stp1 d) () l) = true then
   (if isL (scanL stp2 [] l) = true then
    (if isL (scanL (stp3 d) () l) = true then
     (if holdsV n (d.params.map (parV (getL [] (scanL stp2 [] l)))) = true then (d.params.map (parV (getL [] (scanL stp2 [] l))), 0) else ([], 10))
    else ([], 6))
   else ([], 5))
  else ([], 3)
def parE (o : Option GDescriptor) (n : ByteArray) (l : List GParam) : List Int × Int := match o with | none => ([], 3) | some d => parD n d l
def parW (p : List Int × Int) : Res At := (.tup [.ro 2 p.1, .int .i64 p.2], [])
def crI (z : Option (Res At)) : Option (Res At) := coRes TT [some 2] (shutRes z)
theorem lib_dist : libL.all (fun d => distB d.params && Nat.ble (holdsN d.name) d.params.length) = true := by kernel_rfl
theorem find_dist {n : ByteArray} {d : GDescriptor} (h : findD n libL = some d) : distB d.params = true ∧ holdsN n ≤ d.params.length := by
  have h1 := List.all_eq_true.1 lib_dist d (findD_mem h)
  simp only [Bool.and_eq_true] at h1
  exact ⟨h1.1, by rw [← find_name h]; exact Nat.le_of_ble_eq_true h1.2⟩
theorem par_eq (n : ByteArray) (l : List GParam) (hn : (n.size + 1).blt 4611686018427387904 = true) (hl : l.length ≤ 9223372036854775807) : crI (Rpar n l) = some (parW (parE (findD n libL) n l)) := by
  unfold Rpar
  rw [if_pos hn]
  cases ho : findD n libL with
  | none => rfl
  | some d =>
    obtain ⟨_, _, _, _, h5⟩ := find_good ho
    obtain ⟨hd, hN⟩ := find_dist ho
    have hB : lenB d.params = true := Nat.ble_eq_true_of_le (show d.params.length ≤ 9223372036854775807 by omega)
    have hL : Nat.ble l.length 9223372036854775807 = true := Nat.ble_eq_true_of_le hl
    rw [show orD (some d) = d from rfl]
    refine congrArg crI ((if_neg (by simp [erD])).trans (if_pos (by unfold okpa1; simp only [Bool.and_eq_true, decide_eq_true_eq]; exact ⟨trivial, trivial, hL, hB⟩))) |>.trans ?_
    show _ = some (parW (parD n d l))
    unfold parD
    by_cases h1 : ¬ isL (scanL (stp1 d) () l) = true
    · rw [if_neg h1, if_neg h1]; rfl
    have h1 : isL (scanL (stp1 d) () l) = true := Decidable.not_not.1 h1
    obtain ⟨hC, hI⟩ := known_idxC h1
    rw [if_pos h1, if_pos h1]
    refine congrArg crI (if_pos (by unfold okpa2; simp only [Bool.and_eq_true, decide_eq_true_eq]; exact ⟨trivial, trivial, hL⟩)) |>.trans ?_
    by_cases h2 : ¬ isL (scanL stp2 [] l) = true
    · rw [if_neg h2, if_neg h2]; rfl
    have h2 : isL (scanL stp2 [] l) = true := Decidable.not_not.1 h2
    rw [if_pos h2, if_pos h2]
    refine congrArg crI (if_pos (by unfold okpa3; simp only [Bool.and_eq_true, decide_eq_true_eq]; exact ⟨trivial, trivial, hL, hB, hC⟩)) |>.trans ?_
    by_cases h3 : ¬ isL (scanL (stp3 d) () l) = true
    · rw [if_neg h3, if_neg h3]; rfl
    have h3 : isL (scanL (stp3 d) () l) = true := Decidable.not_not.1 h3
    rw [if_pos h3, if_pos h3, List.nil_append]
    refine congrArg crI ((if_pos (by unfold okpa4; simp only [Bool.and_eq_true, decide_eq_true_eq]; exact ⟨trivial, trivial, Nat.ble_eq_true_of_le (show 0 + d.params.length + 1 ≤ 16777216 by omega)⟩)).trans (if_pos (Nat.ble_eq_true_of_le (by rw [List.length_map]; exact hN)))) |>.trans ?_
    cases holdsV n (d.params.map (parV (getL [] (scanL stp2 [] l)))) <;> rfl
def rowP (o : List Int) : Option (Res At) := some ((.tup [(.own 0), (.int .i64 0)]), [(0, (.row 2 o false))])
theorem parR_eq (n : ByteArray) (l : List GParam) (hl : l.length ≤ 9223372036854775807) : crI (RparR n l) = some (parW (parE (findD n libL) n l)) := by
  unfold RparR
  cases ho : findD n libL with
  | none => rfl
  | some d =>
    obtain ⟨_, _, _, _, h5⟩ := find_good ho
    obtain ⟨hd, hN⟩ := find_dist ho
    have hB : lenB d.params = true := Nat.ble_eq_true_of_le (show d.params.length ≤ 9223372036854775807 by omega)
    have hL : Nat.ble l.length 9223372036854775807 = true := Nat.ble_eq_true_of_le hl
    rw [show orD (some d) = d from rfl]
    refine congrArg crI ((if_neg (by simp [isD])).trans (if_pos (by unfold okra1; simp only [Bool.and_eq_true, decide_eq_true_eq]; exact ⟨trivial, hL, hB⟩))) |>.trans ?_
    show _ = some (parW (parD n d l))
    unfold parD
    by_cases h1 : ¬ isL (scanL (stp1 d) () l) = true
    · rw [if_neg h1, if_neg h1]; rfl
    have h1 : isL (scanL (stp1 d) () l) = true := Decidable.not_not.1 h1
    obtain ⟨hC, hI⟩ := known_idxC h1
    rw [if_pos h1, if_pos h1]
    refine congrArg crI (if_pos (by unfold okra2; simp only [Bool.and_eq_true, decide_eq_true_eq]; exact ⟨trivial, hL⟩)) |>.trans ?_
    rw [dup_same l]
    by_cases h2 : ¬ isL (scanL stp2 [] l) = true
    · rw [if_neg h2, if_neg h2]; rfl
    have h2 : isL (scanL stp2 [] l) = true := Decidable.not_not.1 h2
    rw [if_pos h2, if_pos h2]
    have ed : defL d = d.params.map (parV []) := List.map_congr_left fun b _ => rfl
    obtain ⟨g1, g2⟩ := out_same hd l [] hI h2
    rw [List.nil_append, ed]
    refine congrArg crI ((if_pos (by unfold okra3; simp only [Bool.and_eq_true, decide_eq_true_eq]; exact ⟨trivial, Nat.ble_eq_true_of_le (show 0 + d.params.length + 1 ≤ 16777216 by omega)⟩)).trans (if_pos (by unfold okra4; simp only [Bool.and_eq_true, decide_eq_true_eq]; exact ⟨trivial, hL, hB, hC, (by rw [List.length_map]; exact Nat.beq_refl _)⟩))) |>.trans ?_
    rw [g1]
    by_cases h3 : ¬ isL (scanL (stp3 d) () l) = true
    · rw [if_neg h3, if_neg h3]; rfl
    have h3 : isL (scanL (stp3 d) () l) = true := Decidable.not_not.1 h3
    rw [if_pos h3, if_pos h3, g2 h3, holds_lib ho _ (by rw [List.length_map])]
    refine congrArg crI (if_pos rfl) |>.trans ?_
    show crI (if (!(holdsV n (d.params.map (parV (getL [] (scanL stp2 [] l)))))) = true then some ((.tup [.nils, (.int .i64 10)]), []) else rowP (getL [] (scanL (stp4 d) (d.params.map (parV [])) l))) = _
    rw [g2 h3]
    cases holdsV n (d.params.map (parV (getL [] (scanL stp2 [] l)))) <;> rfl
def andP (a b : Bool) : Bool := match a with | true => b | false => false
def conPar : CON := onSL 63 fun n (l : List GParam) => some (andP ((n.size + 1).blt 4611686018427387904) (Nat.ble l.length 9223372036854775807), parW (parE (findD n libL) n l))
theorem andP_t {a b : Bool} (h : andP a b = true) : a = true ∧ b = true := by cases a <;> first | cases h; done | exact ⟨rfl, h⟩
theorem okPar : OK 11 conPar := by
  refine ok_co (E := mkE CP4) TT_ok (body_ok (E := mkE CP4) (good CP4_ok) (f := 11) (fn := (bodyT 11).getD default) (c := codeOf 11) (by rfl) (by rfl) 80) [some 2] fun l r h => ?_
  replace h := onSL_spec (conO_some h)
  obtain ⟨n, l, rfl, h⟩ := h
  obtain ⟨hc, rfl⟩ := some_pair h
  exact (congrArg crI (run_Rpar n l)).trans (par_eq n l (andP_t hc).1 (Nat.le_of_ble_eq_true (andP_t hc).2))
def conParR : CON := onSL 63 fun n (l : List GParam) => some (Nat.ble l.length 9223372036854775807, parW (parE (findD n libL) n l))
theorem okParR : OK 12 conParR := by
  refine ok_co (E := mkE CP5) TT_ok (body_ok (E := mkE CP5) (good CP5_ok) (f := 12) (fn := (bodyT 12).getD default) (c := codeOf 12) (by rfl) (by rfl) 80) [some 2] fun l r h => ?_
  replace h := onSL_spec (conO_some h)
  obtain ⟨n, l, rfl, h⟩ := h
  obtain ⟨hc, rfl⟩ := some_pair h
  exact (congrArg crI (run_RparR n l)).trans (parR_eq n l (Nat.le_of_ble_eq_true hc))
/-! Same -/
def samV (a b : List Int) : Bool := decide ((a.length : Int) = (b.length : Int)) && isL (scanL stpE () (a.zip b))
def samC (a : List Int) : Bool := Nat.ble a.length 9223372036854775807
theorem sam_eq (a b : List Int) (h : samC a = true) : Rsam a b = some (.bool (samV a b), []) := by
  unfold samC at h
  unfold Rsam samV oksam
  by_cases hl : (a.length : Int) = (b.length : Int)
  · have e : a.length = b.length := by omega
    rw [decide_eq_true hl, h, e, Nat.beq_refl]
    simp only [decide_true, Bool.and_self, if_true]
    cases isL (scanL stpE () (a.zip b)) <;> rfl
  · rw [decide_eq_false hl]; rfl
def onLL {R : Type} (e g : Nat) (F : List (At e) → List (At g) → Option R) (l : List VT) : Option R := match l with | [x, y] => (match roV e x, roV g y with | some a, some b => F a b | _, _ => none) | _ => none
theorem onLL_spec {R : Type} {e g : Nat} {F : List (At e) → List (At g) → Option R} {l : List VT} {r : R} (h : onLL e g F l = some r) : ∃ a b, l = [.ro e a, .ro g b] ∧ F a b = some r := by
  unfold onLL at h
  split at h
  · split at h
    · rename_i hx hy
      exact ⟨_, _, by rw [roV_spec hx, roV_spec hy], h⟩
    · cases h
  · cases h
def conSam : CON := onLL 2 2 fun (a b : List Int) => some (samC a, (.bool (samV a b), []))
theorem okSam : OK 13 conSam := ok_run CP6_ok (by kernel_rfl) fun l r h => by
  replace h := onLL_spec h
  obtain ⟨a, b, rfl, h⟩ := h
  obtain ⟨hc, rfl⟩ := some_pair h
  exact ⟨60, (run_Rsam a b).trans (sam_eq a b hc)⟩
theorem sam_self (a : List Int) : samV a a = true := by
  unfold samV
  rw [decide_eq_true rfl, Bool.true_and]
  have h : isL (scanL stpE () (a.zip a)) = (a.zip a).all fun p : Int × Int => decide (p.1 = p.2) := scan_all2 (fun p : Int × Int => decide (p.1 = p.2)) (a.zip a)
  rw [h, List.all_eq_true]
  intro p hp
  obtain ⟨i, hi, rfl⟩ := List.getElem_of_mem hp
  rw [List.getElem_zip]
  simp
def libP7 : List (Nat × CON) := (11, conPar) :: (12, conParR) :: (13, conSam) :: libP
theorem libP7_ok : AllOK libP7 := .cons okPar (.cons okParR (.cons okSam libP_ok))
def CP7 : Cfg := { cs := libP7 }
theorem CP7_ok : CfgOK CP7 := { con := libP7_ok }
end
end Go.Proofs.YtbcpnhnalhhfoaaGreatDoor.X
