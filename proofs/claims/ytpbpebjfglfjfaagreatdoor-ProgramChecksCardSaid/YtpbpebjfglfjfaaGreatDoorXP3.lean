/-
  Params of the reference: its loops.
-/
import Derived.Test.YtpbpebjfglfjfaaGreatDoorXP2
set_option autoImplicit false
set_option linter.unusedVariables false
set_option linter.unusedSimpArgs false
set_option maxRecDepth 100000
namespace Go.Proofs.YtpbpebjfglfjfaaGreatDoor.X
open Go Go.Proofs Go.RowKit Go.Proofs.YtpbpebjfglfjfaaGreatDoor
noncomputable section
theorem sh_holdR (d : GDescriptor) (ps : List Int) : shBo (RholdR d ps) = true := by unfold RholdR; repeat' (first | refine sh_ite shBo ?_ ?_ | rfl)
def onDL {R : Type} (F : GDescriptor → List Int → Option R) (l : List VT) : Option R := match l with | [x, y] => (match ag150 x, roV 2 y with | some a, some b => F a b | _, _ => none) | _ => none
theorem onDL_spec {R : Type} {F : GDescriptor → List Int → Option R} {l : List VT} {r : R} (h : onDL F l = some r) : ∃ (a : GDescriptor) (b : List Int), l = [.agg (enc150 a), .ro 2 b] ∧ F a b = some r := by
  unfold onDL at h
  split at h
  · split at h
    · rename_i hx hy
      exact ⟨_, _, by rw [ag150_spec hx, roV_spec hy], h⟩
    · cases h
  · cases h
def conHoldsR : CON := onDL fun d ps => some (isR (RholdR d ps), (.bool (gBo (RholdR d ps)), []))
theorem okHoldsR : OK 128 conHoldsR := ok_run CP3_ok (by kernel_rfl) fun l r h => by
  replace h := onDL_spec h
  obtain ⟨d, ps, rfl, h⟩ := h
  obtain ⟨hc, rfl⟩ := some_pair h
  exact ⟨60, (run_RholdR d ps).trans (of_shBo (sh_holdR d ps) hc)⟩
def libP3 : List (Nat × CON) := (128, conHoldsR) :: libP2
theorem libP3_ok : AllOK libP3 := .cons okHoldsR libP2_ok
structure Kra1 where
  l : List GParam
  er : Int
  d : GDescriptor
  i : Int
structure Era1 where
  l : List GParam
  er : Int
  d : GDescriptor
def Sra1 (k : Kra1) : St At := { env := [(1, .ro 93 k.l), (4, .nils), (5, .int .i64 k.er), (6, .ptr 0 0), (8, .int .i64 k.i)], stk := [], hp := [(0, .var (enc150 k.d) false)], nx := 1 }
def Xra1 (k : Era1) : St At := { env := [(1, .ro 93 k.l), (4, .nils), (5, .int .i64 k.er), (6, .ptr 0 0)], stk := [], hp := [(0, .var (enc150 k.d) false)], nx := 1 }
def Cra1 : Cfg := { cs := libP3, ks := [((67, 5), [(1, none), (4, none), (5, none), (6, none), (8, none)])], xs := [((67, 5), [(1, none), (4, none), (5, none), (6, none)])], lps := [] }
theorem Cra1_ok : CfgOK Cra1 := { con := libP3_ok }
def stra1 {α : Type} (k : Kra1) (go : Kra1 → α) (ex ret : Era1 → α) (no : α) : α :=
  if decide (k.i < (↑k.l.length : Int)) = true then
   if 0 ≤ k.i then
    if k.i < (↑k.l.length : Int) then
     if lenB k.d.params = true then
      if decide (idxB (gt { name := { data := #[] : ByteArray }, value := 0 : GParam } k.l k.i.toNat).name k.d.params < 0) = true then
       ret ⟨(k.l), (3), (k.d)⟩
      else
       go ⟨(k.l), (k.er), (k.d), (IntKind.i64.wrap (k.i + 1))⟩
     else
      no
    else
     no
   else
    no
  else
   ex ⟨(k.l), (k.er), (k.d)⟩
def stepra1 (k : Kra1) : Nx Kra1 Era1 := stra1 k .go .ex .ret .no
theorem Bra1 (k : Kra1) (m : Nat) (R : St At → Option (Res At)) (K : Xit → St At → Option (Res At)) : B Cra1 67 5 (m + 60) (Sra1 k) R K = stra1 k (fun k => R (Sra1 k)) (fun x => K (.ex 0) (Xra1 x)) (fun x => K .ret (Xra1 x)) none := by kernel_rfl
def ura1 (st : St At) : Option Kra1 := match st with
  | ⟨[(1, vl), (4, .nils), (5, .int .i64 er), (6, .ptr 0 0), (8, .int .i64 i)], [], [(0, .var wd false)], 1⟩ => (match roV 93 vl, ex150 wd with | some l, some d => some ⟨l, er, d, i⟩ | _, _ => none)
  | _ => none
theorem ura1_spec {st : St At} {k : Kra1} (h : ura1 st = some k) : st = Sra1 k := by
  unfold ura1 at h
  split at h
  · split at h
    · rename_i h0 h1
      obtain rfl := Option.some.inj h
      rw [roV_spec h0, ex150_spec h1]
      rfl
    · cases h
  · cases h
theorem oklra1 {g : LP} (hg : ∀ st K q, g st K = some q → ∃ k n e, st = Sra1 k ∧ iter stepra1 n k = some e ∧ e.k 0 Xra1 Xra1 K = some q) : OKL 67 5 g := okl_iter Cra1_ok (S := Sra1) (X := Xra1) (Y := Xra1) (step := stepra1) (id := 0) (by kernel_rfl) (by kernel_rfl)
  (fun k m R K => by rw [Bra1]; unfold stepra1 stra1; simp only [Nx.k_ite]; rfl) (fun k => by kernel_rfl) hg
/-- the contract out of a closed form -/
theorem okfra1 {g : LP} {fuel : Kra1 → Nat} {ok : Kra1 → Bool} {F : Kra1 → Fx Era1} (hF : ∀ k, ok k = true → iter stepra1 (fuel k) k = some (F k)) (hg : ∀ st K, g st K = (match ura1 st with | some k => if ok k = true then (F k).k 0 Xra1 Xra1 K else none | none => none)) : OKL 67 5 g := oklra1 fun st K q h => by
  rw [hg] at h
  split at h
  · rename_i k hu
    split at h
    · rename_i hok; exact ⟨k, _, _, ura1_spec hu, hF k hok, h⟩
    · cases h
  · cases h
structure Krai where
  l : List GParam
  er : Int
  d : GDescriptor
  j : Int
  i : Int
structure Erai where
  l : List GParam
  er : Int
  d : GDescriptor
  j : Int
def Srai (k : Krai) : St At := { env := [(1, .ro 93 k.l), (4, .nils), (5, .int .i64 k.er), (6, .ptr 0 0), (9, .int .i64 k.j), (10, .int .i64 k.i)], stk := [], hp := [(0, .var (enc150 k.d) false)], nx := 1 }
def Xrai (k : Erai) : St At := { env := [(1, .ro 93 k.l), (4, .nils), (5, .int .i64 k.er), (6, .ptr 0 0), (9, .int .i64 k.j)], stk := [], hp := [(0, .var (enc150 k.d) false)], nx := 1 }
def Crai : Cfg := { cs := libP3, ks := [((67, 13), [(1, none), (4, none), (5, none), (6, none), (9, none), (10, none)])], xs := [((67, 13), [(1, none), (4, none), (5, none), (6, none), (9, none)])], lps := [] }
theorem Crai_ok : CfgOK Crai := { con := libP3_ok }
def strai {α : Type} (k : Krai) (go : Krai → α) (ex ret : Erai → α) (no : α) : α :=
  if decide (k.i < k.j) = true then
   if 0 ≤ k.j then
    if k.j < (↑k.l.length : Int) then
     if 0 ≤ k.i then
      if k.i < (↑k.l.length : Int) then
       if eqB (gt { name := { data := #[] : ByteArray }, value := 0 : GParam } k.l k.j.toNat).name (gt { name := { data := #[] : ByteArray }, value := 0 : GParam } k.l k.i.toNat).name = true then
        ret ⟨(k.l), (5), (k.d), (k.j)⟩
       else
        go ⟨(k.l), (k.er), (k.d), (k.j), (IntKind.i64.wrap (k.i + 1))⟩
      else
       no
     else
      no
    else
     no
   else
    no
  else
   ex ⟨(k.l), (k.er), (k.d), (k.j)⟩
def steprai (k : Krai) : Nx Krai Erai := strai k .go .ex .ret .no
theorem Brai (k : Krai) (m : Nat) (R : St At → Option (Res At)) (K : Xit → St At → Option (Res At)) : B Crai 67 13 (m + 60) (Srai k) R K = strai k (fun k => R (Srai k)) (fun x => K (.ex 4) (Xrai x)) (fun x => K .ret (Xrai x)) none := by kernel_rfl
def urai (st : St At) : Option Krai := match st with
  | ⟨[(1, vl), (4, .nils), (5, .int .i64 er), (6, .ptr 0 0), (9, .int .i64 j), (10, .int .i64 i)], [], [(0, .var wd false)], 1⟩ => (match roV 93 vl, ex150 wd with | some l, some d => some ⟨l, er, d, j, i⟩ | _, _ => none)
  | _ => none
theorem urai_spec {st : St At} {k : Krai} (h : urai st = some k) : st = Srai k := by
  unfold urai at h
  split at h
  · split at h
    · rename_i h0 h1
      obtain rfl := Option.some.inj h
      rw [roV_spec h0, ex150_spec h1]
      rfl
    · cases h
  · cases h
theorem oklrai {g : LP} (hg : ∀ st K q, g st K = some q → ∃ k n e, st = Srai k ∧ iter steprai n k = some e ∧ e.k 4 Xrai Xrai K = some q) : OKL 67 13 g := okl_iter Crai_ok (S := Srai) (X := Xrai) (Y := Xrai) (step := steprai) (id := 4) (by kernel_rfl) (by kernel_rfl)
  (fun k m R K => by rw [Brai]; unfold steprai strai; simp only [Nx.k_ite]; rfl) (fun k => by kernel_rfl) hg
/-- the contract out of a closed form -/
theorem okfrai {g : LP} {fuel : Krai → Nat} {ok : Krai → Bool} {F : Krai → Fx Erai} (hF : ∀ k, ok k = true → iter steprai (fuel k) k = some (F k)) (hg : ∀ st K, g st K = (match urai st with | some k => if ok k = true then (F k).k 4 Xrai Xrai K else none | none => none)) : OKL 67 13 g := oklrai fun st K q h => by
  rw [hg] at h
  split at h
  · rename_i k hu
    split at h
    · rename_i hok; exact ⟨k, _, _, urai_spec hu, hF k hok, h⟩
    · cases h
  · cases h
/-- the name at j stands before j too -/
def dupAt (l : List GParam) (j : Nat) : Bool := (l.take j).any fun y => eqB (gt gp00 l j).name y.name
def stpD (s : ByteArray) (_ : Unit) (y : GParam) : Unit ⊕ Unit := if eqB s y.name = true then .inr () else .inl ()
theorem scan_any (s : ByteArray) : ∀ l : List GParam, isL (scanL (stpD s) () l) = !(l.any fun y => eqB s y.name)
  | [] => rfl
  | y :: l => by
    unfold scanL stpD
    by_cases h : eqB s y.name = true
    · rw [if_pos h, List.any_cons, h]; rfl
    · rw [if_neg h, List.any_cons, Bool.eq_false_iff.2 h, Bool.false_or]
      exact scan_any s l
theorem not_t {b : Bool} (h : true = !b) : b = false := by cases b <;> first | rfl | cases h
theorem not_f {b : Bool} (h : false = !b) : b = true := by cases b <;> first | rfl | cases h
def okrai (k : Krai) : Bool := decide (k.i = 0) && (decide (0 ≤ k.j) && (decide (k.j < (k.l.length : Int)) && Nat.ble k.l.length 9223372036854775807))
def Frai (k : Krai) : Fx Erai := match scanL (stpD (gt gp00 k.l k.j.toNat).name) () (k.l.take k.j.toNat) with | .inl _ => .ex ⟨k.l, k.er, k.d, k.j⟩ | .inr _ => .ret ⟨k.l, 5, k.d, k.j⟩
theorem irai (k : Krai) (h : okrai k = true) : iter steprai (k.l.take k.j.toNat).length k = some (Frai k) := by
  unfold okrai at h
  simp only [Bool.and_eq_true, decide_eq_true_eq] at h
  obtain ⟨h0, h1, h2, h3⟩ := h
  replace h3 := Nat.le_of_ble_eq_true h3
  obtain ⟨l, er, d, j, i⟩ := k
  dsimp only at h0 h1 h2 h3
  subst h0
  obtain ⟨q, rfl⟩ : ∃ q : Nat, j = (q : Int) := ⟨j.toNat, by omega⟩
  have hq : q < l.length := by omega
  have ht : (l.take q).length = q := by simp; omega
  have := iter_scan (step := steprai) (l.take q) (fun (_ : Unit) j => (⟨l, er, d, (q : Int), (j : Int)⟩ : Krai)) (stpD (gt gp00 l q).name) (fun _ => (⟨l, er, d, (q : Int)⟩ : Erai)) (fun _ => (⟨l, 5, d, (q : Int)⟩ : Erai)) (fun _ _ => True)
    (fun b j h _ => by
      have hj : j < q := by omega
      have hs : steprai ⟨l, er, d, (q : Int), (j : Int)⟩ = if eqB (gt gp00 l q).name ((l.take q)[j]).name = true then .ret ⟨l, 5, d, (q : Int)⟩ else .go ⟨l, er, d, (q : Int), ((j + 1 : Nat) : Int)⟩ := by
        unfold steprai strai
        dsimp only
        rw [cnt (n := l.length) (by omega) h3, if_pos (lt1 hj)]
        simp only [if_pos (lt0 (j := j)), if_pos (lt0 (j := q)), if_pos (lt2 hq), if_pos (lt2 (show j < l.length by omega)), gtj _ l _ hq, gtj _ l _ (show j < l.length by omega)]
        rw [gt_at gp00 l q hq, List.getElem_take]
      unfold stpD
      rw [hs]
      by_cases hc : eqB (gt gp00 l q).name ((l.take q)[j]).name = true
      · rw [if_pos hc, if_pos hc]
        exact ⟨fun b' hb => (by cases hb), fun y hy => rfl⟩
      · rw [if_neg hc, if_neg hc]
        exact ⟨fun b' hb => ⟨rfl, trivial⟩, fun y hy => (by cases hy)⟩) (fun b _ => by unfold steprai strai; dsimp only; rw [ht, if_neg lt3]) (l.take q).length 0 () (by omega) trivial
  rw [List.drop_zero] at this
  unfold Frai
  dsimp only
  rw [Int.toNat_natCast]
  refine this.trans ?_
  cases scanL (stpD (gt gp00 l q).name) () (l.take q) <;> rfl
def grai : LP := fun st K => match urai st with | some k => if okrai k = true then (if dupAt k.l k.j.toNat = false then K (.ex 4) (Xrai ⟨k.l, k.er, k.d, k.j⟩) else K .ret (Xrai ⟨k.l, 5, k.d, k.j⟩)) else none | none => none
theorem okgrai : OKL 67 13 grai := okfrai (fuel := fun k => (k.l.take k.j.toNat).length) (ok := okrai) (F := Frai) irai fun st K => by
  unfold grai
  split
  · rename_i k hu
    split
    · unfold Frai dupAt
      have h := scan_any (gt gp00 k.l k.j.toNat).name (k.l.take k.j.toNat)
      revert h
      cases scanL (stpD (gt gp00 k.l k.j.toNat).name) () (k.l.take k.j.toNat) with
      | inl x =>
        intro h
        have h : true = !((k.l.take k.j.toNat).any fun y => eqB (gt gp00 k.l k.j.toNat).name y.name) := h
        rw [if_pos (not_t h)]
        rfl
      | inr x =>
        intro h
        have h : false = !((k.l.take k.j.toNat).any fun y => eqB (gt gp00 k.l k.j.toNat).name y.name) := h
        rw [if_neg (by rw [not_f h]; simp)]
        rfl
    · rfl
  · rfl
structure Kra2 where
  l : List GParam
  er : Int
  d : GDescriptor
  i : Int
structure Era2 where
  l : List GParam
  er : Int
  d : GDescriptor
def Sra2 (k : Kra2) : St At := { env := [(1, .ro 93 k.l), (4, .nils), (5, .int .i64 k.er), (6, .ptr 0 0), (9, .int .i64 k.i)], stk := [], hp := [(0, .var (enc150 k.d) false)], nx := 1 }
def Xra2 (k : Era2) : St At := { env := [(1, .ro 93 k.l), (4, .nils), (5, .int .i64 k.er), (6, .ptr 0 0)], stk := [], hp := [(0, .var (enc150 k.d) false)], nx := 1 }
def Cra2 : Cfg := { cs := libP3, ks := [((67, 10), [(1, none), (4, none), (5, none), (6, none), (9, none)])] ++ Crai.ks, xs := [((67, 10), [(1, none), (4, none), (5, none), (6, none)])] ++ Crai.xs, lps := [((67, 13), grai)] }
theorem Cra2_ok : CfgOK Cra2 := { con := libP3_ok, lp := .cons okgrai .nil }
def stra2 {α : Type} (k : Kra2) (go : Kra2 → α) (ex ret : Era2 → α) (no : α) : α :=
  if decide (k.i < (↑k.l.length : Int)) = true then
   if okrai { l := k.l, er := k.er, d := k.d, j := k.i, i := 0 : Krai } = true then
    if dupAt k.l k.i.toNat = false then
     go ⟨(k.l), (k.er), (k.d), (IntKind.i64.wrap (k.i + 1))⟩
    else
     ret ⟨(k.l), (5), (k.d)⟩
   else
    no
  else
   ex ⟨(k.l), (k.er), (k.d)⟩
def stepra2 (k : Kra2) : Nx Kra2 Era2 := stra2 k .go .ex .ret .no
theorem Bra2 (k : Kra2) (m : Nat) (R : St At → Option (Res At)) (K : Xit → St At → Option (Res At)) : B Cra2 67 10 (m + 60) (Sra2 k) R K = stra2 k (fun k => R (Sra2 k)) (fun x => K (.ex 2) (Xra2 x)) (fun x => K .ret (Xra2 x)) none := by kernel_rfl
def ura2 (st : St At) : Option Kra2 := match st with
  | ⟨[(1, vl), (4, .nils), (5, .int .i64 er), (6, .ptr 0 0), (9, .int .i64 i)], [], [(0, .var wd false)], 1⟩ => (match roV 93 vl, ex150 wd with | some l, some d => some ⟨l, er, d, i⟩ | _, _ => none)
  | _ => none
theorem ura2_spec {st : St At} {k : Kra2} (h : ura2 st = some k) : st = Sra2 k := by
  unfold ura2 at h
  split at h
  · split at h
    · rename_i h0 h1
      obtain rfl := Option.some.inj h
      rw [roV_spec h0, ex150_spec h1]
      rfl
    · cases h
  · cases h
theorem oklra2 {g : LP} (hg : ∀ st K q, g st K = some q → ∃ k n e, st = Sra2 k ∧ iter stepra2 n k = some e ∧ e.k 2 Xra2 Xra2 K = some q) : OKL 67 10 g := okl_iter Cra2_ok (S := Sra2) (X := Xra2) (Y := Xra2) (step := stepra2) (id := 2) (by kernel_rfl) (by kernel_rfl)
  (fun k m R K => by rw [Bra2]; unfold stepra2 stra2; simp only [Nx.k_ite]; rfl) (fun k => by kernel_rfl) hg
/-- the contract out of a closed form -/
theorem okfra2 {g : LP} {fuel : Kra2 → Nat} {ok : Kra2 → Bool} {F : Kra2 → Fx Era2} (hF : ∀ k, ok k = true → iter stepra2 (fuel k) k = some (F k)) (hg : ∀ st K, g st K = (match ura2 st with | some k => if ok k = true then (F k).k 2 Xra2 Xra2 K else none | none => none)) : OKL 67 10 g := oklra2 fun st K q h => by
  rw [hg] at h
  split at h
  · rename_i k hu
    split at h
    · rename_i hok; exact ⟨k, _, _, ura2_spec hu, hF k hok, h⟩
    · cases h
  · cases h
structure Kra3 where
  l : List GParam
  er : Int
  d : GDescriptor
  o : List Int
  i : Int
structure Era3 where
  l : List GParam
  er : Int
  d : GDescriptor
  o : List Int
def Sra3 (k : Kra3) : St At := { env := [(1, .ro 93 k.l), (4, .nils), (5, .int .i64 k.er), (6, .ptr 0 0), (11, .own 1), (12, .int .i64 k.i)], stk := [], hp := [(0, .var (enc150 k.d) false), (1, .row 2 k.o false)], nx := 2 }
def Xra3 (k : Era3) : St At := { env := [(1, .ro 93 k.l), (4, .nils), (5, .int .i64 k.er), (6, .ptr 0 0), (11, .own 1)], stk := [], hp := [(0, .var (enc150 k.d) false), (1, .row 2 k.o false)], nx := 2 }
def Cra3 : Cfg := { cs := libP3, ks := [((67, 19), [(1, none), (4, none), (5, none), (6, none), (11, some 2), (12, none)])], xs := [((67, 19), [(1, none), (4, none), (5, none), (6, none), (11, some 2)])], lps := [] }
theorem Cra3_ok : CfgOK Cra3 := { con := libP3_ok }
def stra3 {α : Type} (k : Kra3) (go : Kra3 → α) (ex ret : Era3 → α) (no : α) : α :=
  if decide (k.i < (↑k.d.params.length : Int)) = true then
   if 0 ≤ k.i then
    if k.i < (↑k.d.params.length : Int) then
     if k.o.length + [(gt { name := { data := #[] : ByteArray }, lo := 0, hi := 0, default_ := 0 : GBound } k.d.params k.i.toNat).default_].length < 16777216 then
      go ⟨(k.l), (k.er), (k.d), (k.o ++ [(gt { name := { data := #[] : ByteArray }, lo := 0, hi := 0, default_ := 0 : GBound } k.d.params k.i.toNat).default_]), (IntKind.i64.wrap (k.i + 1))⟩
     else
      no
    else
     no
   else
    no
  else
   ex ⟨(k.l), (k.er), (k.d), (k.o)⟩
def stepra3 (k : Kra3) : Nx Kra3 Era3 := stra3 k .go .ex .ret .no
theorem Bra3 (k : Kra3) (m : Nat) (R : St At → Option (Res At)) (K : Xit → St At → Option (Res At)) : B Cra3 67 19 (m + 60) (Sra3 k) R K = stra3 k (fun k => R (Sra3 k)) (fun x => K (.ex 6) (Xra3 x)) (fun x => K .ret (Xra3 x)) none := by kernel_rfl
def ura3 (st : St At) : Option Kra3 := match st with
  | ⟨[(1, vl), (4, .nils), (5, .int .i64 er), (6, .ptr 0 0), (11, .own 1), (12, .int .i64 i)], [], [(0, .var wd false), (1, bo)], 2⟩ => (match roV 93 vl, ex150 wd, rowB 2 bo with | some l, some d, some o => some ⟨l, er, d, o, i⟩ | _, _, _ => none)
  | _ => none
theorem ura3_spec {st : St At} {k : Kra3} (h : ura3 st = some k) : st = Sra3 k := by
  unfold ura3 at h
  split at h
  · split at h
    · rename_i h0 h1 h2
      obtain rfl := Option.some.inj h
      rw [roV_spec h0, ex150_spec h1, rowB_spec h2]
      rfl
    · cases h
  · cases h
theorem oklra3 {g : LP} (hg : ∀ st K q, g st K = some q → ∃ k n e, st = Sra3 k ∧ iter stepra3 n k = some e ∧ e.k 6 Xra3 Xra3 K = some q) : OKL 67 19 g := okl_iter Cra3_ok (S := Sra3) (X := Xra3) (Y := Xra3) (step := stepra3) (id := 6) (by kernel_rfl) (by kernel_rfl)
  (fun k m R K => by rw [Bra3]; unfold stepra3 stra3; simp only [Nx.k_ite]; rfl) (fun k => by kernel_rfl) hg
/-- the contract out of a closed form -/
theorem okfra3 {g : LP} {fuel : Kra3 → Nat} {ok : Kra3 → Bool} {F : Kra3 → Fx Era3} (hF : ∀ k, ok k = true → iter stepra3 (fuel k) k = some (F k)) (hg : ∀ st K, g st K = (match ura3 st with | some k => if ok k = true then (F k).k 6 Xra3 Xra3 K else none | none => none)) : OKL 67 19 g := oklra3 fun st K q h => by
  rw [hg] at h
  split at h
  · rename_i k hu
    split at h
    · rename_i hok; exact ⟨k, _, _, ura3_spec hu, hF k hok, h⟩
    · cases h
  · cases h
structure Kra4 where
  l : List GParam
  er : Int
  d : GDescriptor
  o : List Int
  i : Int
structure Era4 where
  l : List GParam
  er : Int
  d : GDescriptor
  o : List Int
def Sra4 (k : Kra4) : St At := { env := [(1, .ro 93 k.l), (4, .nils), (5, .int .i64 k.er), (6, .ptr 0 0), (11, .own 1), (13, .int .i64 k.i)], stk := [], hp := [(0, .var (enc150 k.d) false), (1, .row 2 k.o false)], nx := 2 }
def Xra4 (k : Era4) : St At := { env := [(1, .ro 93 k.l), (4, .nils), (5, .int .i64 k.er), (6, .ptr 0 0), (11, .own 1)], stk := [], hp := [(0, .var (enc150 k.d) false), (1, .row 2 k.o false)], nx := 2 }
def Cra4 : Cfg := { cs := libP3, ks := [((67, 23), [(1, none), (4, none), (5, none), (6, none), (11, some 2), (13, none)])], xs := [((67, 23), [(1, none), (4, none), (5, none), (6, none), (11, some 2)])], lps := [] }
theorem Cra4_ok : CfgOK Cra4 := { con := libP3_ok }
def stra4 {α : Type} (k : Kra4) (go : Kra4 → α) (ex ret : Era4 → α) (no : α) : α :=
  if decide (k.i < (↑k.l.length : Int)) = true then
   if 0 ≤ k.i then
    if k.i < (↑k.l.length : Int) then
     if lenB k.d.params = true then
      if 0 ≤ k.i then
       if k.i < (↑k.l.length : Int) then
        if 0 ≤ idxB (gt { name := { data := #[] : ByteArray }, value := 0 : GParam } k.l k.i.toNat).name k.d.params then
         if idxB (gt { name := { data := #[] : ByteArray }, value := 0 : GParam } k.l k.i.toNat).name k.d.params < (↑k.d.params.length : Int) then
          if decide ((gt { name := { data := #[] : ByteArray }, value := 0 : GParam } k.l k.i.toNat).value < (gt { name := { data := #[] : ByteArray }, lo := 0, hi := 0, default_ := 0 : GBound } k.d.params (idxB (gt { name := { data := #[] : ByteArray }, value := 0 : GParam } k.l k.i.toNat).name k.d.params).toNat).lo) = false then
           if 0 ≤ k.i then
            if k.i < (↑k.l.length : Int) then
             if 0 ≤ idxB (gt { name := { data := #[] : ByteArray }, value := 0 : GParam } k.l k.i.toNat).name k.d.params then
              if idxB (gt { name := { data := #[] : ByteArray }, value := 0 : GParam } k.l k.i.toNat).name k.d.params < (↑k.d.params.length : Int) then
               if decide ((gt { name := { data := #[] : ByteArray }, value := 0 : GParam } k.l k.i.toNat).value > (gt { name := { data := #[] : ByteArray }, lo := 0, hi := 0, default_ := 0 : GBound } k.d.params (idxB (gt { name := { data := #[] : ByteArray }, value := 0 : GParam } k.l k.i.toNat).name k.d.params).toNat).hi) = true then
                ret ⟨(k.l), (6), (k.d), (k.o)⟩
               else
                if 0 ≤ k.i then
                 if k.i < (↑k.l.length : Int) then
                  if 0 ≤ idxB (gt { name := { data := #[] : ByteArray }, value := 0 : GParam } k.l k.i.toNat).name k.d.params then
                   if idxB (gt { name := { data := #[] : ByteArray }, value := 0 : GParam } k.l k.i.toNat).name k.d.params < (↑k.o.length : Int) then
                    go ⟨(k.l), (k.er), (k.d), (k.o.set (idxB (gt { name := { data := #[] : ByteArray }, value := 0 : GParam } k.l k.i.toNat).name k.d.params).toNat (gt { name := { data := #[] : ByteArray }, value := 0 : GParam } k.l k.i.toNat).value), (IntKind.i64.wrap (k.i + 1))⟩
                   else
                    no
                  else
                   no
                 else
                  no
                else
                 no
              else
               no
             else
              no
            else
             no
           else
            no
          else
           ret ⟨(k.l), (6), (k.d), (k.o)⟩
         else
          no
        else
         no
       else
        no
      else
       no
     else
      no
    else
     no
   else
    no
  else
   ex ⟨(k.l), (k.er), (k.d), (k.o)⟩
def stepra4 (k : Kra4) : Nx Kra4 Era4 := stra4 k .go .ex .ret .no
theorem Bra4 (k : Kra4) (m : Nat) (R : St At → Option (Res At)) (K : Xit → St At → Option (Res At)) : B Cra4 67 23 (m + 60) (Sra4 k) R K = stra4 k (fun k => R (Sra4 k)) (fun x => K (.ex 8) (Xra4 x)) (fun x => K .ret (Xra4 x)) none := by kernel_rfl
def ura4 (st : St At) : Option Kra4 := match st with
  | ⟨[(1, vl), (4, .nils), (5, .int .i64 er), (6, .ptr 0 0), (11, .own 1), (13, .int .i64 i)], [], [(0, .var wd false), (1, bo)], 2⟩ => (match roV 93 vl, ex150 wd, rowB 2 bo with | some l, some d, some o => some ⟨l, er, d, o, i⟩ | _, _, _ => none)
  | _ => none
theorem ura4_spec {st : St At} {k : Kra4} (h : ura4 st = some k) : st = Sra4 k := by
  unfold ura4 at h
  split at h
  · split at h
    · rename_i h0 h1 h2
      obtain rfl := Option.some.inj h
      rw [roV_spec h0, ex150_spec h1, rowB_spec h2]
      rfl
    · cases h
  · cases h
theorem oklra4 {g : LP} (hg : ∀ st K q, g st K = some q → ∃ k n e, st = Sra4 k ∧ iter stepra4 n k = some e ∧ e.k 8 Xra4 Xra4 K = some q) : OKL 67 23 g := okl_iter Cra4_ok (S := Sra4) (X := Xra4) (Y := Xra4) (step := stepra4) (id := 8) (by kernel_rfl) (by kernel_rfl)
  (fun k m R K => by rw [Bra4]; unfold stepra4 stra4; simp only [Nx.k_ite]; rfl) (fun k => by kernel_rfl) hg
/-- the contract out of a closed form -/
theorem okfra4 {g : LP} {fuel : Kra4 → Nat} {ok : Kra4 → Bool} {F : Kra4 → Fx Era4} (hF : ∀ k, ok k = true → iter stepra4 (fuel k) k = some (F k)) (hg : ∀ st K, g st K = (match ura4 st with | some k => if ok k = true then (F k).k 8 Xra4 Xra4 K else none | none => none)) : OKL 67 23 g := oklra4 fun st K q h => by
  rw [hg] at h
  split at h
  · rename_i k hu
    split at h
    · rename_i hok; exact ⟨k, _, _, ura4_spec hu, hF k hok, h⟩
    · cases h
  · cases h
/-! closed -/
def okra1 (k : Kra1) : Bool := decide (k.i = 0) && (Nat.ble k.l.length 9223372036854775807 && lenB k.d.params)
def Fra1 (k : Kra1) : Fx Era1 := match scanL (stp1 k.d) () k.l with | .inl _ => .ex ⟨k.l, k.er, k.d⟩ | .inr _ => .ret ⟨k.l, 3, k.d⟩
theorem ira1 (k : Kra1) (h : okra1 k = true) : iter stepra1 k.l.length k = some (Fra1 k) := by
  unfold okra1 at h
  simp only [Bool.and_eq_true, decide_eq_true_eq] at h
  obtain ⟨h0, h2, h3⟩ := h
  replace h2 := Nat.le_of_ble_eq_true h2
  obtain ⟨l, er, d, i⟩ := k
  dsimp only at h0 h2 h3
  subst h0
  have := iter_scan (step := stepra1) l (fun (_ : Unit) j => (⟨l, er, d, (j : Int)⟩ : Kra1)) (stp1 d) (fun _ => (⟨l, er, d⟩ : Era1)) (fun _ => (⟨l, 3, d⟩ : Era1)) (fun _ _ => True)
    (fun b j h _ => by
      have hs : stepra1 ⟨l, er, d, (j : Int)⟩ = if decide (idxB (l[j]).name d.params < 0) = true then .ret ⟨l, 3, d⟩ else .go ⟨l, er, d, ((j + 1 : Nat) : Int)⟩ := by
        unfold stepra1 stra1
        dsimp only
        rw [cnt h h2, gtj _ _ _ h, if_pos (lt1 h), if_pos lt0, if_pos (lt2 h), if_pos h3]
      unfold stp1
      rw [hs]
      by_cases hc : decide (idxB (l[j]).name d.params < 0) = true
      · rw [if_pos hc, if_pos hc]
        exact ⟨fun b' hb => (by cases hb), fun y hy => rfl⟩
      · rw [if_neg hc, if_neg hc]
        exact ⟨fun b' hb => ⟨rfl, trivial⟩, fun y hy => (by cases hy)⟩) (fun b _ => by unfold stepra1 stra1; dsimp only; rw [if_neg lt3]) l.length 0 () (by omega) trivial
  rw [List.drop_zero] at this
  refine this.trans ?_
  unfold Fra1
  dsimp only
  cases scanL (stp1 d) () l <;> rfl
def gra1 : LP := fun st K => match ura1 st with | some k => if okra1 k = true then (if isL (scanL (stp1 k.d) () k.l) = true then K (.ex 0) (Xra1 ⟨k.l, k.er, k.d⟩) else K .ret (Xra1 ⟨k.l, 3, k.d⟩)) else none | none => none
theorem okgra1 : OKL 67 5 gra1 := okfra1 (fuel := fun k => k.l.length) (ok := okra1) (F := Fra1) ira1 fun st K => by
  unfold gra1
  split
  · rename_i k hu
    split
    · unfold Fra1
      cases scanL (stp1 k.d) () k.l <;> rfl
    · rfl
  · rfl
def stpJ (l : List GParam) (_ : Unit) (j : Nat) : Unit ⊕ Unit := if dupAt l j = false then .inl () else .inr ()
def okra2 (k : Kra2) : Bool := decide (k.i = 0) && Nat.ble k.l.length 9223372036854775807
def Fra2 (k : Kra2) : Fx Era2 := match scanL (stpJ k.l) () (List.range k.l.length) with | .inl _ => .ex ⟨k.l, k.er, k.d⟩ | .inr _ => .ret ⟨k.l, 5, k.d⟩
theorem ira2 (k : Kra2) (h : okra2 k = true) : iter stepra2 (List.range k.l.length).length k = some (Fra2 k) := by
  unfold okra2 at h
  simp only [Bool.and_eq_true, decide_eq_true_eq] at h
  obtain ⟨h0, h2⟩ := h
  have h3 := h2
  replace h2 := Nat.le_of_ble_eq_true h2
  obtain ⟨l, er, d, i⟩ := k
  dsimp only at h0 h2 h3
  subst h0
  have hr : (List.range l.length).length = l.length := List.length_range
  have := iter_scan (step := stepra2) (List.range l.length) (fun (_ : Unit) j => (⟨l, er, d, (j : Int)⟩ : Kra2)) (stpJ l) (fun _ => (⟨l, er, d⟩ : Era2)) (fun _ => (⟨l, 5, d⟩ : Era2)) (fun _ _ => True)
    (fun b j h _ => by
      have hj : j < l.length := by omega
      have hs : stepra2 ⟨l, er, d, (j : Int)⟩ = if dupAt l j = false then .go ⟨l, er, d, ((j + 1 : Nat) : Int)⟩ else .ret ⟨l, 5, d⟩ := by
        unfold stepra2 stra2
        dsimp only
        rw [cnt hj h2, if_pos (lt1 hj), Int.toNat_natCast]
        refine if_pos ?_
        unfold okrai
        simp only [Bool.and_eq_true, decide_eq_true_eq]
        exact ⟨trivial, lt0, lt2 hj, h3⟩
      unfold stpJ
      rw [hs, List.getElem_range]
      by_cases hc : dupAt l j = false
      · rw [if_pos hc, if_pos hc]
        exact ⟨fun b' hb => ⟨rfl, trivial⟩, fun y hy => (by cases hy)⟩
      · rw [if_neg hc, if_neg hc]
        exact ⟨fun b' hb => (by cases hb), fun y hy => rfl⟩) (fun b _ => by unfold stepra2 stra2; dsimp only; rw [hr, if_neg lt3]) (List.range l.length).length 0 () (by omega) trivial
  rw [List.drop_zero] at this
  refine this.trans ?_
  unfold Fra2
  dsimp only
  cases scanL (stpJ l) () (List.range l.length) <;> rfl
def gra2 : LP := fun st K => match ura2 st with | some k => if okra2 k = true then (if isL (scanL (stpJ k.l) () (List.range k.l.length)) = true then K (.ex 2) (Xra2 ⟨k.l, k.er, k.d⟩) else K .ret (Xra2 ⟨k.l, 5, k.d⟩)) else none | none => none
theorem okgra2 : OKL 67 10 gra2 := okfra2 (fuel := fun k => (List.range k.l.length).length) (ok := okra2) (F := Fra2) ira2 fun st K => by
  unfold gra2
  split
  · rename_i k hu
    split
    · unfold Fra2
      cases scanL (stpJ k.l) () (List.range k.l.length) <;> rfl
    · rfl
  · rfl
def okra3 (k : Kra3) : Bool := decide (k.i = 0) && Nat.blt (k.o.length + k.d.params.length) 16777216
def defL (d : GDescriptor) : List Int := d.params.map (·.default_)
theorem ira3 (k : Kra3) (h : okra3 k = true) : iter stepra3 k.d.params.length k = some (.ex ⟨k.l, k.er, k.d, k.o ++ defL k.d⟩) := by
  unfold okra3 at h
  simp only [Bool.and_eq_true, decide_eq_true_eq] at h
  obtain ⟨h0, h2⟩ := h
  replace h2 : k.o.length + k.d.params.length < 16777216 := Nat.le_of_ble_eq_true h2
  obtain ⟨l, er, d, o, i⟩ := k
  dsimp only at h0 h2
  subst h0
  have e : ∀ (l : List GBound) (o : List Int), l.foldl (fun o x => o ++ [x.default_]) o = o ++ l.map (·.default_) := fun l => by
    induction l with
    | nil => intro o; simp
    | cons x l ih => intro o; rw [List.foldl_cons, ih]; simp
  have := iter_fold (step := stepra3) d.params (fun o j => (⟨l, er, d, o, (j : Int)⟩ : Kra3)) (fun o x => o ++ [x.default_]) (fun o => (⟨l, er, d, o⟩ : Era3)) (fun o j => o.length + (d.params.length - j) < 16777216)
    (fun b j h hI => ⟨by
      unfold stepra3 stra3
      dsimp only
      rw [cnt h (by omega), gtj _ _ _ h, if_pos (lt1 h), if_pos lt0, if_pos (lt2 h)]
      exact if_pos (show b.length + 1 < 16777216 by omega), by simp; omega⟩) (fun b _ => by unfold stepra3 stra3; dsimp only; rw [if_neg lt3]) d.params.length 0 o (by omega) (by simpa using h2)
  rw [List.drop_zero, e] at this
  exact this
def gra3 : LP := fun st K => match ura3 st with | some k => if okra3 k = true then K (.ex 6) (Xra3 ⟨k.l, k.er, k.d, k.o ++ defL k.d⟩) else none | none => none
theorem okgra3 : OKL 67 19 gra3 := okfra3 (fuel := fun k => k.d.params.length) (ok := okra3) (F := fun k => .ex ⟨k.l, k.er, k.d, k.o ++ defL k.d⟩) ira3 fun st K => rfl
def stp4 (d : GDescriptor) (o : List Int) (x : GParam) : List Int ⊕ List Int := if rngB d x = true then .inr o else .inl (o.set (idxB x.name d.params).toNat x.value)
def okra4 (k : Kra4) : Bool := decide (k.i = 0) && (Nat.ble k.l.length 9223372036854775807 && (lenB k.d.params && (idxC k.d k.l && Nat.beq k.o.length k.d.params.length)))
def Fra4 (k : Kra4) : Fx Era4 := match scanL (stp4 k.d) k.o k.l with | .inl o => .ex ⟨k.l, k.er, k.d, o⟩ | .inr o => .ret ⟨k.l, 6, k.d, o⟩
theorem ira4 (k : Kra4) (h : okra4 k = true) : iter stepra4 k.l.length k = some (Fra4 k) := by
  unfold okra4 at h
  simp only [Bool.and_eq_true, decide_eq_true_eq] at h
  obtain ⟨h0, h2, h3, h4, h5⟩ := h
  replace h2 := Nat.le_of_ble_eq_true h2
  replace h5 := Nat.eq_of_beq_eq_true h5
  obtain ⟨l, er, d, o, i⟩ := k
  dsimp only at h0 h2 h3 h4 h5
  subst h0
  have := iter_scan (step := stepra4) l (fun o j => (⟨l, er, d, o, (j : Int)⟩ : Kra4)) (stp4 d) (fun o => (⟨l, er, d, o⟩ : Era4)) (fun o => (⟨l, 6, d, o⟩ : Era4)) (fun o _ => o.length = d.params.length)
    (fun b j h hb => by
      have hj := List.all_eq_true.1 h4 l[j] (List.getElem_mem h)
      simp only [Bool.and_eq_true, decide_eq_true_eq] at hj
      have hj3 : idxB (l[j]).name d.params < (b.length : Int) := by rw [hb]; exact hj.2
      have hs : stepra4 ⟨l, er, d, b, (j : Int)⟩ = if rngB d l[j] = true then .ret ⟨l, 6, d, b⟩ else .go ⟨l, er, d, b.set (idxB (l[j]).name d.params).toNat (l[j]).value, ((j + 1 : Nat) : Int)⟩ := by
        unfold stepra4 stra4
        dsimp only
        rw [cnt h h2, gtj _ _ _ h, if_pos (lt1 h)]
        simp only [if_pos (lt0 (j := j)), if_pos (lt2 h), if_pos h3, if_pos hj.1, if_pos hj.2, if_pos hj3]
        unfold rngB
        show (if decide ((l[j]).value < (gt gb0 d.params (idxB (l[j]).name d.params).toNat).lo) = false then (if decide ((l[j]).value > (gt gb0 d.params (idxB (l[j]).name d.params).toNat).hi) = true then (.ret ⟨l, 6, d, b⟩ : Nx Kra4 Era4) else .go ⟨l, er, d, b.set (idxB (l[j]).name d.params).toNat (l[j]).value, ((j + 1 : Nat) : Int)⟩) else .ret ⟨l, 6, d, b⟩) = _
        cases decide ((l[j]).value < (gt gb0 d.params (idxB (l[j]).name d.params).toNat).lo) <;> cases decide ((l[j]).value > (gt gb0 d.params (idxB (l[j]).name d.params).toNat).hi) <;> rfl
      unfold stp4
      rw [hs]
      by_cases hc : rngB d l[j] = true
      · rw [if_pos hc, if_pos hc]
        exact ⟨fun b' hb => (by cases hb), fun y hy => (by cases hy; rfl)⟩
      · rw [if_neg hc, if_neg hc]
        exact ⟨fun b' hb2 => (by cases hb2; exact ⟨rfl, (by rw [List.length_set]; exact hb)⟩), fun y hy => (by cases hy)⟩) (fun b _ => by unfold stepra4 stra4; dsimp only; rw [if_neg lt3]) l.length 0 o (by omega) h5
  rw [List.drop_zero] at this
  refine this.trans ?_
  unfold Fra4
  dsimp only
  cases scanL (stp4 d) o l <;> rfl
def gra4 : LP := fun st K => match ura4 st with | some k => if okra4 k = true then (if isL (scanL (stp4 k.d) k.o k.l) = true then K (.ex 8) (Xra4 ⟨k.l, k.er, k.d, getL [] (scanL (stp4 k.d) k.o k.l)⟩) else K .ret (Xra4 ⟨k.l, 6, k.d, getR [] (scanL (stp4 k.d) k.o k.l)⟩)) else none | none => none
theorem okgra4 : OKL 67 23 gra4 := okfra4 (fuel := fun k => k.l.length) (ok := okra4) (F := Fra4) ira4 fun st K => by
  unfold gra4
  split
  · rename_i k hu
    split
    · unfold Fra4
      cases scanL (stp4 k.d) k.o k.l <;> rfl
    · rfl
  · rfl
def CP5 : Cfg := { cs := libP3, ks := Cra1.ks ++ (Cra2.ks ++ (Cra3.ks ++ Cra4.ks)), xs := Cra1.xs ++ (Cra2.xs ++ (Cra3.xs ++ Cra4.xs)), lps := [((67, 5), gra1), ((67, 10), gra2), ((67, 19), gra3), ((67, 23), gra4)] }
theorem CP5_ok : CfgOK CP5 := { con := libP3_ok, lp := .cons okgra1 (.cons okgra2 (.cons okgra3 (.cons okgra4 .nil))) }
def RparR (n : ByteArray) (l : List GParam) : Option (Res At) :=
  if (!isD (findD n libL)) = true then
   some ((.tup [.nils, (.int .i64 3)]), [])
  else
   if okra1 { l := l, er := 0, d := orD (findD n libL), i := 0 : Kra1 } = true then
    if isL (scanL (stp1 (orD (findD n libL))) () l) = true then
     if okra2 { l := l, er := 0, d := orD (findD n libL), i := 0 : Kra2 } = true then
      if isL (scanL (stpJ l) () (List.range l.length)) = true then
       if okra3 { l := l, er := 0, d := orD (findD n libL), o := [], i := 0 : Kra3 } = true then
        if okra4 { l := l, er := 0, d := orD (findD n libL), o := [] ++ defL (orD (findD n libL)), i := 0 : Kra4 } = true then
         if isL (scanL (stp4 (orD (findD n libL))) ([] ++ defL (orD (findD n libL))) l) = true then
          if isR (RholdR (orD (findD n libL)) (getL [] (scanL (stp4 (orD (findD n libL))) ([] ++ defL (orD (findD n libL))) l))) = true then
           if (!gBo (RholdR (orD (findD n libL)) (getL [] (scanL (stp4 (orD (findD n libL))) ([] ++ defL (orD (findD n libL))) l)))) = true then
            some ((.tup [.nils, (.int .i64 10)]), [])
           else
            some ((.tup [(.own 0), (.int .i64 0)]), [(0, (.row 2 (getL [] (scanL (stp4 (orD (findD n libL))) ([] ++ defL (orD (findD n libL))) l)) false))])
          else
           none
         else
          some ((.tup [.nils, (.int .i64 6)]), [])
        else
         none
       else
        none
      else
       some ((.tup [.nils, (.int .i64 5)]), [])
     else
      none
    else
     some ((.tup [.nils, (.int .i64 3)]), [])
   else
    none
theorem run_RparR (n : ByteArray) (l : List GParam) : runF CP5 80 67 [.str n, .ro 93 l] = RparR n l := by kernel_rfl
/-! Same -/
def eqI (a : List Int) (b : List Int) : Bool := isL (scanL (fun (_ : Unit) (p : Int × Int) => if decide (p.1 = p.2) = true then (.inl () : Unit ⊕ Unit) else .inr ()) () (a.zip b))
end
end Go.Proofs.YtpbpebjfglfjfaaGreatDoor.X
