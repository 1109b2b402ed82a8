/-
  Params of the reference: its loops.
-/
import Derived.Test.YtpbpebjfglfjfaaGreatDoorXP1
import Derived.Test.YtpbpebjfglfjfaaGreatDoorXR
set_option autoImplicit false
set_option linter.unusedVariables false
set_option linter.unusedSimpArgs false
set_option maxRecDepth 100000
namespace Go.Proofs.YtpbpebjfglfjfaaGreatDoor.X
open Go Go.Proofs Go.RowKit Go.Proofs.YtpbpebjfglfjfaaGreatDoor
noncomputable section
theorem sh_holdR (d : GDescriptor) (ps : List Int) : shBo (RholdR d ps) = true := by unfold RholdR; repeat' (first | refine sh_ite shBo ?_ ?_ | rfl)
def onDL {R : Type} (F : GDescriptor → List Int → Option R) (l : List VT) : Option R := match l with | [x, y] => (match ag150 x, roV 2 y with | some a, some b => F a b | _, _ => none) | _ => none
theorem onDL_spec {R : Type} {F : GDescriptor → List Int → Option R} {l : List VT} {r : R} (h : onDL F l = some r) : ∃ (a : GDescriptor) (b : List Int), l = [.agg (enc150 a), .ro 2 b] ∧ F a b = some r := by
  unfold onDL at h
  split at h
  · split at h
    · rename_i hx hy
      exact ⟨_, _, by rw [ag150_spec hx, roV_spec hy], h⟩
    · cases h
  · cases h
def conHoldsR : CON := onDL fun d ps => some (isR (RholdR d ps), (.bool (gBo (RholdR d ps)), []))
theorem okHoldsR : OK 128 conHoldsR := ok_run CP3_ok (by kernel_rfl) fun l r h => by
  replace h := onDL_spec h
  obtain ⟨d, ps, rfl, h⟩ := h
  obtain ⟨hc, rfl⟩ := some_pair h
  exact ⟨60, (run_RholdR d ps).trans (of_shBo (sh_holdR d ps) hc)⟩
def libP3 : List (Nat × CON) := (128, conHoldsR) :: libP2
theorem libP3_ok : AllOK libP3 := .cons okHoldsR libP2_ok
structure Kra1 where
  l : List GParam
  er : Int
  d : GDescriptor
  i : Int
structure Era1 where
  l : List GParam
  er : Int
  d : GDescriptor
def Sra1 (k : Kra1) : St At := { env := [(1, .ro 93 k.l), (4, .nils), (5, .int .i64 k.er), (6, .ptr 0 0), (8, .int .i64 k.i)], stk := [], hp := [(0, .var (enc150 k.d) false)], nx := 1 }
def Xra1 (k : Era1) : St At := { env := [(1, .ro 93 k.l), (4, .nils), (5, .int .i64 k.er), (6, .ptr 0 0)], stk := [], hp := [(0, .var (enc150 k.d) false)], nx := 1 }
def Cra1 : Cfg := { cs := libP3, ks := [((67, 5), [(1, none), (4, none), (5, none), (6, none), (8, none)])], xs := [((67, 5), [(1, none), (4, none), (5, none), (6, none)])], lps := [] }
theorem Cra1_ok : CfgOK Cra1 := { con := libP3_ok }
def stra1 {α : Type} (k : Kra1) (go : Kra1 → α) (ex ret : Era1 → α) (no : α) : α :=
  if decide (k.i < (↑k.l.length : Int)) = true then
   if 0 ≤ k.i then
    if k.i < (↑k.l.length : Int) then
     if lenB k.d.params = true then
      if decide (idxB (gt { name := { data := #[] : ByteArray }, value := 0 : GParam } k.l k.i.toNat).name k.d.params < 0) = true then
       ret ⟨(k.l), (3), (k.d)⟩
      else
       go ⟨(k.l), (k.er), (k.d), (IntKind.i64.wrap (k.i + 1))⟩
     else
      no
    else
     no
   else
    no
  else
   ex ⟨(k.l), (k.er), (k.d)⟩
def stepra1 (k : Kra1) : Nx Kra1 Era1 := stra1 k .go .ex .ret .no
theorem Bra1 (k : Kra1) (m : Nat) (R : St At → Option (Res At)) (K : Xit → St At → Option (Res At)) : B Cra1 67 5 (m + 60) (Sra1 k) R K = stra1 k (fun k => R (Sra1 k)) (fun x => K (.ex 0) (Xra1 x)) (fun x => K .ret (Xra1 x)) none := by kernel_rfl
def ura1 (st : St At) : Option Kra1 := match st with
  | ⟨[(1, vl), (4, .nils), (5, .int .i64 er), (6, .ptr 0 0), (8, .int .i64 i)], [], [(0, .var wd false)], 1⟩ => (match roV 93 vl, ex150 wd with | some l, some d => some ⟨l, er, d, i⟩ | _, _ => none)
  | _ => none
theorem ura1_spec {st : St At} {k : Kra1} (h : ura1 st = some k) : st = Sra1 k := by
  unfold ura1 at h
  split at h
  · split at h
    · rename_i h0 h1
      obtain rfl := Option.some.inj h
      rw [roV_spec h0, ex150_spec h1]
      rfl
    · cases h
  · cases h
theorem oklra1 {g : LP} (hg : ∀ st K q, g st K = some q → ∃ k n e, st = Sra1 k ∧ iter stepra1 n k = some e ∧ e.k 0 Xra1 Xra1 K = some q) : OKL 67 5 g := okl_iter Cra1_ok (S := Sra1) (X := Xra1) (Y := Xra1) (step := stepra1) (id := 0) (by kernel_rfl) (by kernel_rfl)
  (fun k m R K => by rw [Bra1]; unfold stepra1 stra1; simp only [Nx.k_ite]; rfl) (fun k => by kernel_rfl) hg
theorem okfra1 {g : LP} {fuel : Kra1 → Nat} {ok : Kra1 → Bool} {F : Kra1 → Fx Era1} (hF : ∀ k, ok k = true → iter stepra1 (fuel k) k = some (F k)) (hg : ∀ st K, g st K = (match ura1 st with | some k => if ok k = true then (F k).k 0 Xra1 Xra1 K else none | none => none)) : OKL 67 5 g := oklra1 fun st K q h => by
  rw [hg] at h
  split at h
  · rename_i k hu
    split at h
    · rename_i hok; exact ⟨k, _, _, ura1_spec hu, hF k hok, h⟩
    · cases h
  · cases h
structure Krai where
  l : List GParam
  er : Int
  d : GDescriptor
  j : Int
  i : Int
structure Erai where
  l : List GParam
  er : Int
  d : GDescriptor
  j : Int
def Srai (k : Krai) : St At := { env := [(1, .ro 93 k.l), (4, .nils), (5, .int .i64 k.er), (6, .ptr 0 0), (9, .int .i64 k.j), (10, .int .i64 k.i)], stk := [], hp := [(0, .var (enc150 k.d) false)], nx := 1 }
def Xrai (k : Erai) : St At := { env := [(1, .ro 93 k.l), (4, .nils), (5, .int .i64 k.er), (6, .ptr 0 0), (9, .int .i64 k.j)], stk := [], hp := [(0, .var (enc150 k.d) false)], nx := 1 }
def Crai : Cfg := { cs := libP3, ks := [((67, 13), [(1, none), (4, none), (5, none), (6, none), (9, none), (10, none)])], xs := [((67, 13), [(1, none), (4, none), (5, none), (6, none), (9, none)])], lps := [] }
theorem Crai_ok : CfgOK Crai := { con := libP3_ok }
def strai {α : Type} (k : Krai) (go : Krai → α) (ex ret : Erai → α) (no : α) : α :=
  if decide (k.i < k.j) = true then
   if 0 ≤ k.j then
    if k.j < (↑k.l.length : Int) then
     if 0 ≤ k.i then
      if k.i < (↑k.l.length : Int) then
       if eqB (gt { name := { data := #[] : ByteArray }, value := 0 : GParam } k.l k.j.toNat).name (gt { name := { data := #[] : ByteArray }, value := 0 : GParam } k.l k.i.toNat).name = true then
        ret ⟨(k.l), (5), (k.d), (k.j)⟩
       else
        go ⟨(k.l), (k.er), (k.d), (k.j), (IntKind.i64.wrap (k.i + 1))⟩
      else
       no
     else
      no
    else
     no
   else
    no
  else
   ex ⟨(k.l), (k.er), (k.d), (k.j)⟩
def steprai (k : Krai) : Nx Krai Erai := strai k .go .ex .ret .no
theorem Brai (k : Krai) (m : Nat) (R : St At → Option (Res At)) (K : Xit → St At → Option (Res At)) : B Crai 67 13 (m + 60) (Srai k) R K = strai k (fun k => R (Srai k)) (fun x => K (.ex 4) (Xrai x)) (fun x => K .ret (Xrai x)) none := by kernel_rfl
def urai (st : St At) : Option Krai := match st with
  | ⟨[(1, vl), (4, .nils), (5, .int .i64 er), (6, .ptr 0 0), (9, .int .i64 j), (10, .int .i64 i)], [], [(0, .var wd false)], 1⟩ => (match roV 93 vl, ex150 wd with | some l, some d => some ⟨l, er, d, j, i⟩ | _, _ => none)
  | _ => none
theorem urai_spec {st : St At} {k : Krai} (h : urai st = some k) : st = Srai k := by
  unfold urai at h
  split at h
  · split at h
    · rename_i h0 h1
      obtain rfl := Option.some.inj h
      rw [roV_spec h0, ex150_spec h1]
      rfl
    · cases h
  · cases h
theorem oklrai {g : LP} (hg : ∀ st K q, g st K = some q → ∃ k n e, st = Srai k ∧ iter steprai n k = some e ∧ e.k 4 Xrai Xrai K = some q) : OKL 67 13 g := okl_iter Crai_ok (S := Srai) (X := Xrai) (Y := Xrai) (step := steprai) (id := 4) (by kernel_rfl) (by kernel_rfl)
  (fun k m R K => by rw [Brai]; unfold steprai strai; simp only [Nx.k_ite]; rfl) (fun k => by kernel_rfl) hg
theorem okfrai {g : LP} {fuel : Krai → Nat} {ok : Krai → Bool} {F : Krai → Fx Erai} (hF : ∀ k, ok k = true → iter steprai (fuel k) k = some (F k)) (hg : ∀ st K, g st K = (match urai st with | some k => if ok k = true then (F k).k 4 Xrai Xrai K else none | none => none)) : OKL 67 13 g := oklrai fun st K q h => by
  rw [hg] at h
  split at h
  · rename_i k hu
    split at h
    · rename_i hok; exact ⟨k, _, _, urai_spec hu, hF k hok, h⟩
    · cases h
  · cases h
def dupAt (l : List GParam) (j : Nat) : Bool := (l.take j).any fun y => eqB (gt gp00 l j).name y.name
def stpD (s : ByteArray) (_ : Unit) (y : GParam) : Unit ⊕ Unit := if eqB s y.name = true then .inr () else .inl ()
theorem scan_any (s : ByteArray) : ∀ l : List GParam, isL (scanL (stpD s) () l) = !(l.any fun y => eqB s y.name)
  | [] => rfl
  | y :: l => by
    unfold scanL stpD
    by_cases h : eqB s y.name = true
    · rw [if_pos h, List.any_cons, h]; rfl
    · rw [if_neg h, List.any_cons, Bool.eq_false_iff.2 h, Bool.false_or]
      exact scan_any s l
theorem not_t {b : Bool} (h : true = !b) : b = false := by cases b <;> first | rfl | cases h
theorem not_f {b : Bool} (h : false = !b) : b = true := by cases b <;> first | rfl | cases h
def okrai (k : Krai) : Bool := decide (k.i = 0) && (decide (0 ≤ k.j) && (decide (k.j < (k.l.length : Int)) && Nat.ble k.l.length 9223372036854775807))
def Frai (k : Krai) : Fx Erai := match scanL (stpD (gt gp00 k.l k.j.toNat).name) () (k.l.take k.j.toNat) with | .inl _ => .ex ⟨k.l, k.er, k.d, k.j⟩ | .inr _ => .ret ⟨k.l, 5, k.d, k.j⟩
theorem irai (k : Krai) (h : okrai k = true) : iter steprai (k.l.take k.j.toNat).length k = some (Frai k) := by
  unfold okrai at h
  simp only [Bool.and_eq_true, decide_eq_true_eq] at h
  obtain ⟨h0, h1, h2, h3⟩ := h
  replace h3 := Nat.le_of_ble_eq_true h3
  obtain ⟨l, er, d, j, i⟩ := k
  dsimp only at h0 h1 h2 h3
  subst h0
  obtain ⟨q, rfl⟩ : ∃ q : Nat, j = (q : Int) := ⟨j.toNat, by omega⟩
  have hq : q < l.length := by omega
  have ht : (l.take q).length = q := by simp; omega
  have := iter_scan (step := steprai) (l.take q) (fun (_ : Unit) j => (⟨l, er, d, (q : Int), (j : Int)⟩ : Krai)) (stpD (gt gp00 l q).name) (fun _ => (⟨l, er, d, (q : Int)⟩ : Erai)) (fun _ => (⟨l, 5, d, (q : Int)⟩ : Erai)) (fun _ _ => True)
    (fun b j h _ => by
      have hj : j < q := by omega
      have hs : steprai ⟨l, er, d, (q : Int), (j : Int)⟩ = if eqB (gt gp00 l q).name ((l.take q)[j]).name = true then .ret ⟨l, 5, d, (q : Int)⟩ else .go ⟨l, er, d, (q : Int), ((j + 1 : Nat) : Int)⟩ := by
        unfold steprai strai
        dsimp only
        rw [cnt (n := l.length) (by omega) h3, if_pos (lt1 hj)]
        simp only [if_pos (lt0 (j := j)), if_pos (lt0 (j := q)), if_pos (lt2 hq), if_pos (lt2 (show j < l.length by omega)), gtj _ l _ hq, gtj _ l _ (show j < l.length by omega)]
        rw [gt_at gp00 l q hq, List.getElem_take]
      unfold stpD
      rw [hs]
      by_cases hc : eqB (gt gp00 l q).name ((l.take q)[j]).name = true
      · rw [if_pos hc, if_pos hc]
        exact ⟨fun b' hb => (by cases hb), fun y hy => rfl⟩
      · rw [if_neg hc, if_neg hc]
        exact ⟨fun b' hb => ⟨rfl, trivial⟩, fun y hy => (by cases hy)⟩) (fun b _ => by unfold steprai strai; dsimp only; rw [ht, if_neg lt3]) (l.take q).length 0 () (by omega) trivial
  rw [List.drop_zero] at this
  unfold Frai
  dsimp only
  rw [Int.toNat_natCast]
  refine this.trans ?_
  cases scanL (stpD (gt gp00 l q).name) () (l.take q) <;> rfl
def grai : LP := fun st K => match urai st with | some k => if okrai k = true then (if dupAt k.l k.j.toNat = false then K (.ex 4) (Xrai ⟨k.l, k.er, k.d, k.j⟩) else K .ret (Xrai ⟨k.l, 5, k.d, k.j⟩)) else none | none => none
theorem okgrai : OKL 67 13 grai := okfrai (fuel := fun k => (k.l.take k.j.toNat).length) (ok := okrai) (F := Frai) irai fun st K => by
  unfold grai
  split
  · rename_i k hu
    split
    · unfold Frai dupAt
      have h := scan_any (gt gp00 k.l k.j.toNat).name (k.l.take k.j.toNat)
      revert h
      cases scanL (stpD (gt gp00 k.l k.j.toNat).name) () (k.l.take k.j.toNat) with
      | inl x =>
        intro h
        have h : true = !((k.l.take k.j.toNat).any fun y => eqB (gt gp00 k.l k.j.toNat).name y.name) := h
        rw [if_pos (not_t h)]
        rfl
      | inr x =>
        intro h
        have h : false = !((k.l.take k.j.toNat).any fun y => eqB (gt gp00 k.l k.j.toNat).name y.name) := h
        rw [if_neg (by rw [not_f h]; simp)]
        rfl
    · rfl
  · rfl
structure Kra2 where
  l : List GParam
  er : Int
  d : GDescriptor
  i : Int
structure Era2 where
  l : List GParam
  er : Int
  d : GDescriptor
def Sra2 (k : Kra2) : St At := { env := [(1, .ro 93 k.l), (4, .nils), (5, .int .i64 k.er), (6, .ptr 0 0), (9, .int .i64 k.i)], stk := [], hp := [(0, .var (enc150 k.d) false)], nx := 1 }
def Xra2 (k : Era2) : St At := { env := [(1, .ro 93 k.l), (4, .nils), (5, .int .i64 k.er), (6, .ptr 0 0)], stk := [], hp := [(0, .var (enc150 k.d) false)], nx := 1 }
def Cra2 : Cfg := { cs := libP3, ks := [((67, 10), [(1, none), (4, none), (5, none), (6, none), (9, none)])] ++ Crai.ks, xs := [((67, 10), [(1, none), (4, none), (5, none), (6, none)])] ++ Crai.xs, lps := [((67, 13), grai)] }
theorem Cra2_ok : CfgOK Cra2 := { con := libP3_ok, lp := .cons okgrai .nil }
def stra2 {α : Type} (k : Kra2) (go : Kra2 → α) (ex ret : Era2 → α) (no : α) : α :=
  if decide (k.i < (↑k.l.length : Int)) = true then
   if okrai { l := k.l, er := k.er, d := k.d, j := k.i, i := 0 : Krai } = true then
    if dupAt k.l k.i.toNat = false then
     go ⟨(k.l), (k.er), (k.d), (IntKind.i64.wrap (k.i + 1))⟩
    else
     ret ⟨(k.l), (5), (k.d)⟩
   else
    no
  else
   ex ⟨(k.l), (k.er), (k.d)⟩
def stepra2 (k : Kra2) : Nx Kra2 Era2 := stra2 k .go .ex .ret .no
theorem Bra2 (k : Kra2) (m : Nat) (R : St At → Option (Res At)) (K : Xit → St At → Option (Res At)) : B Cra2 67 10 (m + 60) (Sra2 k) R K = stra2 k (fun k => R (Sra2 k)) (fun x => K (.ex 2) (Xra2 x)) (fun x => K .ret (Xra2 x)) none := by kernel_rfl
def ura2 (st : St At) : Option Kra2 := match st with
  | ⟨[(1, vl), (4, .nils), (5, .int .i64 er), (6, .ptr 0 0), (9, .int .i64 i)], [], [(0, .var wd false)], 1⟩ => (match roV 93 vl, ex150 wd with | some l, some d => some ⟨l, er, d, i⟩ | _, _ => none)
  | _ => none
theorem ura2_spec {st : St At} {k : Kra2} (h : ura2 st = some k) : st = Sra2 k := by
  unfold ura2 at h
  split at h
  · split at h
    · rename_i h0 h1
      obtain rfl := Option.some.inj h
      rw [roV_spec h0, ex150_spec h1]
      rfl
    · cases h
  · cases h
theorem oklra2 {g : LP} (hg : ∀ st K q, g st K = some q → ∃ k n e, st = Sra2 k ∧ iter stepra2 n k = some e ∧ e.k 2 Xra2 Xra2 K = some q) : OKL 67 10 g := okl_iter Cra2_ok (S := Sra2) (X := Xra2) (Y := Xra2) (step := stepra2) (id := 2) (by kernel_rfl) (by kernel_rfl)
  (fun k m R K => by rw [Bra2]; unfold stepra2 stra2; simp only [Nx.k_ite]; rfl) (fun k => by kernel_rfl) hg
theorem okfra2 {g : LP} {fuel : Kra2 → Nat} {ok : Kra2 → Bool} {F : Kra2 → Fx Era2} (hF : ∀ k, ok k = true → iter stepra2 (fuel k) k = some (F k)) (hg : ∀ st K, g st K = (match ura2 st with | some k => if ok k = true then (F k).k 2 Xra2 Xra2 K else none | none => none)) : OKL 67 10 g := oklra2 fun st K q h => by
  rw [hg] at h
  split at h
  · rename_i k hu
    split at h
    · rename_i hok; exact ⟨k, _, _, ura2_spec hu, hF k hok, h⟩
    · cases h
  · cases h
structure Kra3 where
  l : List GParam
  er : Int
  d : GDescriptor
  o : List Int
  i : Int
structure Era3 where
  l : List GParam
  er : Int
  d : GDescriptor
  o : List Int
def Sra3 (k : Kra3) : St At := { env := [(1, .ro 93 k.l), (4, .nils), (5, .int .i64 k.er), (6, .ptr 0 0), (11, .own 1), (12, .int .i64 k.i)], stk := [], hp := [(0, .var (enc150 k.d) false), (1, .row 2 k.o false)], nx := 2 }
def Xra3 (k : Era3) : St At := { env := [(1, .ro 93 k.l), (4, .nils), (5, .int .i64 k.er), (6, .ptr 0 0), (11, .own 1)], stk := [], hp := [(0, .var (enc150 k.d) false), (1, .row 2 k.o false)], nx := 2 }
def Cra3 : Cfg := { cs := libP3, ks := [((67, 19), [(1, none), (4, none), (5, none), (6, none), (11, some 2), (12, none)])], xs := [((67, 19), [(1, none), (4, none), (5, none), (6, none), (11, some 2)])], lps := [] }
theorem Cra3_ok : CfgOK Cra3 := { con := libP3_ok }
def stra3 {α : Type} (k : Kra3) (go : Kra3 → α) (ex ret : Era3 → α) (no : α) : α :=
  if decide (k.i < (↑k.d.params.length : Int)) = true then
   if 0 ≤ k.i then
    if k.i < (↑k.d.params.length : Int) then
     if k.o.length + [(gt { name := { data := #[] : ByteArray }, lo := 0, hi := 0, default_ := 0 : GBound } k.d.params k.i.toNat).default_].length < 16777216 then
      go ⟨(k.l), (k.er), (k.d), (k.o ++ [(gt { name := { data := #[] : ByteArray }, lo := 0, hi := 0, default_ := 0 : GBound } k.d.params k.i.toNat).default_]), (IntKind.i64.wrap (k.i + 1))⟩
     else
      no
    else
     no
   else
    no
  else
   ex ⟨(k.l), (k.er), (k.d), (k.o)⟩
def stepra3 (k : Kra3) : Nx Kra3 Era3 := stra3 k .go .ex .ret .no
theorem Bra3 (k : Kra3) (m : Nat) (R : St At → Option (Res At)) (K : Xit → St At → Option (Res At)) : B Cra3 67 19 (m + 60) (Sra3 k) R K = stra3 k (fun k => R (Sra3 k)) (fun x => K (.ex 6) (Xra3 x)) (fun x => K .ret (Xra3 x)) none := by kernel_rfl
def ura3 (st : St At) : Option Kra3 := match st with
  | ⟨[(1, vl), (4, .nils), (5, .int .i64 er), (6, .ptr 0 0), (11, .own 1), (12, .int .i64 i)], [], [(0, .var wd false), (1, bo)], 2⟩ => (match roV 93 vl, ex150 wd, rowB 2 bo with | some l, some d, some o => some ⟨l, er, d, o, i⟩ | _, _, _ => none)
  | _ => none
theorem ura3_spec {st : St At} {k : Kra3} (h : ura3 st = some k) : st = Sra3 k := by
  unfold ura3 at h
  split at h
  · split at h
    · rename_i h0 h1 h2
      obtain rfl := Option.some.inj h
      rw [roV_spec h0, ex150_spec h1, rowB_spec h2]
      rfl
    · cases h
  · cases h
theorem oklra3 {g : LP} (hg : ∀ st K q, g st K = some q → ∃ k n e, st = Sra3 k ∧ iter stepra3 n k = some e ∧ e.k 6 Xra3 Xra3 K = some q) : OKL 67 19 g := okl_iter Cra3_ok (S := Sra3) (X := Xra3) (Y := Xra3) (step := stepra3) (id := 6) (by kernel_rfl) (by kernel_rfl)
  (fun k m R K => by rw [Bra3]; unfold stepra3 stra3; simp only [Nx.k_ite]; rfl) (fun k => by kernel_rfl) hg
theorem okfra3 {g : LP} {fuel : Kra3 → Nat} {ok : Kra3 → Bool} {F : Kra3 → Fx Era3} (hF : ∀ k, ok k = true → iter stepra3 (fuel k) k = some (F k)) (hg : ∀ st K, g st K = (match ura3 st with | some k => if ok k = true then (F k).k 6 Xra3 Xra3 K else none | none => none)) : OKL 67 19 g := oklra3 fun st K q h => by
  rw [hg] at h
  split at h
  · rename_i k hu
    split at h
    · rename_i hok; exact ⟨k, _, _, ura3_spec hu, hF k hok, h⟩
    · cases h
  · cases h
structure Kra4 where
  l : List GParam
  er : Int
  d : GDescriptor
  o : List Int
  i : Int
structure Era4 where
  l : List GParam
  er : Int
  d : GDescriptor
  o : List Int
def Sra4 (k : Kra4) : St At := { env := [(1, .ro 93 k.l), (4, .nils), (5, .int .i64 k.er), (6, .ptr 0 0), (11, .own 1), (13, .int .i64 k.i)], stk := [], hp := [(0, .var (enc150 k.d) false), (1, .row 2 k.o false)], nx := 2 }
def Xra4 (k : Era4) : St At := { env := [(1, .ro 93 k.l), (4, .nils), (5, .int .i64 k.er), (6, .ptr 0 0), (11, .own 1)], stk := [], hp := [(0, .var (enc150 k.d) false), (1, .row 2 k.o false)], nx := 2 }
def Cra4 : Cfg := { cs := libP3, ks := [((67, 23), [(1, none), (4, none), (5, none), (6, none), (11, some 2), (13, none)])], xs := [((67, 23), [(1, none), (4, none), (5, none), (6, none), (11, some 2)])], lps := [] }
theorem Cra4_ok : CfgOK Cra4 := { con := libP3_ok }
def stra4 {α : Type} (k : Kra4) (go : Kra4 → α) (ex ret : Era4 → α) (no : α) : α :=
  if decide (k.i < (↑k.l.length : Int)) = true then
   if 0 ≤ k.i then
    if k.i < (↑k.l.length : Int) then
     if lenB k.d.params = true then
      if 0 ≤ k.i then
       if k.i < (↑k.l.length : Int) then
        if 0 ≤ idxB (gt { name := { data := #[] : ByteArray }, value := 0 : GParam } k.l k.i.toNat).name k.d.params then
         if idxB (gt { name := { data := #[] : ByteArray }, value := 0 : GParam } k.l k.i.toNat).name k.d.params < (↑k.d.params.length : Int) then
          if decide ((gt { name := { data := #[] : ByteArray }, value := 0 : GParam } k.l k.i.toNat).value < (gt { name := { data := #[] : ByteArray }, lo := 0, hi := 0, default_ := 0 : GBound } k.d.params (idxB (gt { name := { data := #[] : ByteArray }, value := 0 : GParam } k.l k.i.toNat).name k.d.params).toNat).lo) = false then
           if 0 ≤ k.i then
            if k.i < (↑k.l.length : Int) then
             if 0 ≤ idxB (gt { name := { data := #[] : ByteArray }, value := 0 : GParam } k.l k.i.toNat).name k.d.params then
              if idxB (gt { name := { data := #[] : ByteArray }, value := 0 : GParam } k.l k.i.toNat).name k.d.params < (↑k.d.params.length : Int) then
               if decide ((gt { name := { data := #[] : ByteArray }, value := 0 : GParam } k.l k.i.toNat).value > (gt { name := { data := #[] : ByteArray }, lo := 0, hi := 0, default_ := 0 : GBound } k.d.params (idxB (gt { name := { data := #[] : ByteArray }, value := 0 : GParam } k.l k.i.toNat).name k.d.params).toNat).hi) = true then
                ret ⟨(k.l), (6), (k.d), (k.o)⟩
               else
                if 0 ≤ k.i then
                 if k.i < (↑k.l.length : Int) then
                  if 0 ≤ idxB (gt { name := { data := #[] : ByteArray }, value := 0 : GParam } k.l k.i.toNat).name k.d.params then
                   if idxB (gt { name := { data := #[] : ByteArray }, value := 0 : GParam } k.l k.i.toNat).name k.d.params < (↑k.o.length : Int) then
                    go ⟨(k.l), (k.er), (k.d), (k.o.set (idxB (gt { name := { data := #[] : ByteArray }, value := 0 : GParam } k.l k.i.toNat).name k.d.params).toNat (gt { name := { data := #[] : ByteArray }, value := 0 : GParam } k.l k.i.toNat).value), (IntKind.i64.wrap (k.i + 1))⟩
                   else
                    no
                  else
                   no
                 else
                  no
                else
                 no
              else
               no
             else
              no
            else
             no
           else
            no
          else
           ret ⟨(k.l), (6), (k.d), (k.o)⟩
         else
          no
        else
         no
       else
        no
      else
       no
     else
      no
    else
     no
   else
    no
  else
   ex ⟨(k.l), (k.er), (k.d), (k.o)⟩
def stepra4 (k : Kra4) : Nx Kra4 Era4 := stra4 k .go .ex .ret .no
theorem Bra4 (k : Kra4) (m : Nat) (R : St At → Option (Res At)) (K : Xit → St At → Option (Res At)) : B Cra4 67 23 (m + 60) (Sra4 k) R K = stra4 k (fun k => R (Sra4 k)) (fun x => K (.ex 8) (Xra4 x)) (fun x => K .ret (Xra4 x)) none := by kernel_rfl
def ura4 (st : St At) : Option Kra4 := match st with
  | ⟨[(1, vl), (4, .nils), (5, .int .i64 er), (6, .ptr 0 0), (11, .own 1), (13, .int .i64 i)], [], [(0, .var wd false), (1, bo)], 2⟩ => (match roV 93 vl, ex150 wd, rowB 2 bo with | some l, some d, some o => some ⟨l, er, d, o, i⟩ | _, _, _ => none)
  | _ => none
theorem ura4_spec {st : St At} {k : Kra4} (h : ura4 st = some k) : st = Sra4 k := by
  unfold ura4 at h
  split at h
  · split at h
    · rename_i h0 h1 h2
      obtain rfl := Option.some.inj h
      rw [roV_spec h0, ex150_spec h1, rowB_spec h2]
      rfl
    · cases h
  · cases h
theorem oklra4 {g : LP} (hg : ∀ st K q, g st K = some q → ∃ k n e, st = Sra4 k ∧ iter stepra4 n k = some e ∧ e.k 8 Xra4 Xra4 K = some q) : OKL 67 23 g := okl_iter Cra4_ok (S := Sra4) (X := Xra4) (Y := Xra4) (step := stepra4) (id := 8) (by kernel_rfl) (by kernel_rfl)
  (fun k m R K => by rw [Bra4]; unfold stepra4 stra4; simp only [Nx.k_ite]; rfl) (fun k => by kernel_rfl) hg
theorem okfra4 {g : LP} {fuel : Kra4 → Nat} {ok : Kra4 → Bool} {F : Kra4 → Fx Era4} (hF : ∀ k, ok k = true → iter stepra4 (fuel k) k = some (F k)) (hg : ∀ st K, g st K = (match ura4 st with | some k => if ok k = true then (F k).k 8 Xra4 Xra4 K else none | none => none)) : OKL 67 23 g := oklra4 fun st K q h => by
  rw [hg] at h
  split at h
  · rename_i k hu
    split at h
    · rename_i hok; exact ⟨k, _, _, ura4_spec hu, hF k hok, h⟩
    · cases h
  · cases h
def okra1 (k : Kra1) : Bool := decide (k.i = 0) && (Nat.ble k.l.length 9223372036854775807 && lenB k.d.params)
def Fra1 (k : Kra1) : Fx Era1 := match scanL (stp1 k.d) () k.l with | .inl _ => .ex ⟨k.l, k.er, k.d⟩ | .inr _ => .ret ⟨k.l, 3, k.d⟩
theorem ira1 (k : Kra1) (h : okra1 k = true) : iter stepra1 k.l.length k = some (Fra1 k) := by
  unfold okra1 at h
  simp only [Bool.and_eq_true, decide_eq_true_eq] at h
  obtain ⟨h0, h2, h3⟩ := h
  replace h2 := Nat.le_of_ble_eq_true h2
  obtain ⟨l, er, d, i⟩ := k
  dsimp only at h0 h2 h3
  subst h0
  have := iter_scan (step := stepra1) l (fun (_ : Unit) j => (⟨l, er, d, (j : Int)⟩ : Kra1)) (stp1 d) (fun _ => (⟨l, er, d⟩ : Era1)) (fun _ => (⟨l, 3, d⟩ : Era1)) (fun _ _ => True)
    (fun b j h _ => by
      have hs : stepra1 ⟨l, er, d, (j : Int)⟩ = if decide (idxB (l[j]).name d.params < 0) = true then .ret ⟨l, 3, d⟩ else .go ⟨l, er, d, ((j + 1 : Nat) : Int)⟩ := by
        unfold stepra1 stra1
        dsimp only
        rw [cnt h h2, gtj _ _ _ h, if_pos (lt1 h), if_pos lt0, if_pos (lt2 h), if_pos h3]
      unfold stp1
      rw [hs]
      by_cases hc : decide (idxB (l[j]).name d.params < 0) = true
      · rw [if_pos hc, if_pos hc]
        exact ⟨fun b' hb => (by cases hb), fun y hy => rfl⟩
      · rw [if_neg hc, if_neg hc]
        exact ⟨fun b' hb => ⟨rfl, trivial⟩, fun y hy => (by cases hy)⟩) (fun b _ => by unfold stepra1 stra1; dsimp only; rw [if_neg lt3]) l.length 0 () (by omega) trivial
  rw [List.drop_zero] at this
  refine this.trans ?_
  unfold Fra1
  dsimp only
  cases scanL (stp1 d) () l <;> rfl
def gra1 : LP := fun st K => match ura1 st with | some k => if okra1 k = true then (if isL (scanL (stp1 k.d) () k.l) = true then K (.ex 0) (Xra1 ⟨k.l, k.er, k.d⟩) else K .ret (Xra1 ⟨k.l, 3, k.d⟩)) else none | none => none
theorem okgra1 : OKL 67 5 gra1 := okfra1 (fuel := fun k => k.l.length) (ok := okra1) (F := Fra1) ira1 fun st K => by
  unfold gra1
  split
  · rename_i k hu
    split
    · unfold Fra1
      cases scanL (stp1 k.d) () k.l <;> rfl
    · rfl
  · rfl
def stpJ (l : List GParam) (_ : Unit) (j : Nat) : Unit ⊕ Unit := if dupAt l j = false then .inl () else .inr ()
def okra2 (k : Kra2) : Bool := decide (k.i = 0) && Nat.ble k.l.length 9223372036854775807
def Fra2 (k : Kra2) : Fx Era2 := match scanL (stpJ k.l) () (List.range k.l.length) with | .inl _ => .ex ⟨k.l, k.er, k.d⟩ | .inr _ => .ret ⟨k.l, 5, k.d⟩
theorem ira2 (k : Kra2) (h : okra2 k = true) : iter stepra2 (List.range k.l.length).length k = some (Fra2 k) := by
  unfold okra2 at h
  simp only [Bool.and_eq_true, decide_eq_true_eq] at h
  obtain ⟨h0, h2⟩ := h
  have h3 := h2
  replace h2 := Nat.le_of_ble_eq_true h2
  obtain ⟨l, er, d, i⟩ := k
  dsimp only at h0 h2 h3
  subst h0
  have hr : (List.range l.length).length = l.length := List.length_range
  have := iter_scan (step := stepra2) (List.range l.length) (fun (_ : Unit) j => (⟨l, er, d, (j : Int)⟩ : Kra2)) (stpJ l) (fun _ => (⟨l, er, d⟩ : Era2)) (fun _ => (⟨l, 5, d⟩ : Era2)) (fun _ _ => True)
    (fun b j h _ => by
      have hj : j < l.length := by omega
      have hs : stepra2 ⟨l, er, d, (j : Int)⟩ = if dupAt l j = false then .go ⟨l, er, d, ((j + 1 : Nat) : Int)⟩ else .ret ⟨l, 5, d⟩ := by
        unfold stepra2 stra2
        dsimp only
        rw [cnt hj h2, if_pos (lt1 hj), Int.toNat_natCast]
        refine if_pos ?_
        unfold okrai
        simp only [Bool.and_eq_true, decide_eq_true_eq]
        exact ⟨trivial, lt0, lt2 hj, h3⟩
      unfold stpJ
      rw [hs, List.getElem_range]
      by_cases hc : dupAt l j = false
      · rw [if_pos hc, if_pos hc]
        exact ⟨fun b' hb => ⟨rfl, trivial⟩, fun y hy => (by cases hy)⟩
      · rw [if_neg hc, if_neg hc]
        exact ⟨fun b' hb => (by cases hb), fun y hy => rfl⟩) (fun b _ => by unfold stepra2 stra2; dsimp only; rw [hr, if_neg lt3]) (List.range l.length).length 0 () (by omega) trivial
  rw [List.drop_zero] at this
  refine this.trans ?_
  unfold Fra2
  dsimp only
  cases scanL (stpJ l) () (List.range l.length) <;> rfl
def gra2 : LP := fun st K => match ura2 st with | some k => if okra2 k = true then (if isL (scanL (stpJ k.l) () (List.range k.l.length)) = true then K (.ex 2) (Xra2 ⟨k.l, k.er, k.d⟩) else K .ret (Xra2 ⟨k.l, 5, k.d⟩)) else none | none => none
theorem okgra2 : OKL 67 10 gra2 := okfra2 (fuel := fun k => (List.range k.l.length).length) (ok := okra2) (F := Fra2) ira2 fun st K => by
  unfold gra2
  split
  · rename_i k hu
    split
    · unfold Fra2
      cases scanL (stpJ k.l) () (List.range k.l.length) <;> rfl
    · rfl
  · rfl
def okra3 (k : Kra3) : Bool := decide (k.i = 0) && Nat.blt (k.o.length + k.d.params.length) 16777216
def defL (d : GDescriptor) : List Int := d.params.map (·.default_)
theorem ira3 (k : Kra3) (h : okra3 k = true) : iter stepra3 k.d.params.length k = some (.ex ⟨k.l, k.er, k.d, k.o ++ defL k.d⟩) := by
  unfold okra3 at h
  simp only [Bool.and_eq_true, decide_eq_true_eq] at h
  obtain ⟨h0, h2⟩ := h
  replace h2 : k.o.length + k.d.params.length < 16777216 := Nat.le_of_ble_eq_true h2
  obtain ⟨l, er, d, o, i⟩ := k
  dsimp only at h0 h2
  subst h0
  have e : ∀ (l : List GBound) (o : List Int), l.foldl (fun o x => o ++ [x.default_]) o = o ++ l.map (·.default_) := fun l => by
    induction l with
    | nil => intro o; simp
    | cons x l ih => intro o; rw [List.foldl_cons, ih]; simp
  have := iter_fold (step := stepra3) d.params (fun o j => (⟨l, er, d, o, (j : Int)⟩ : Kra3)) (fun o x => o ++ [x.default_]) (fun o => (⟨l, er, d, o⟩ : Era3)) (fun o j => o.length + (d.params.length - j) < 16777216)
    (fun b j h hI => ⟨by
      unfold stepra3 stra3
      dsimp only
      rw [cnt h (by omega), gtj _ _ _ h, if_pos (lt1 h), if_pos lt0, if_pos (lt2 h)]
      exact if_pos (show b.length + 1 < 16777216 by omega), by simp; omega⟩) (fun b _ => by unfold stepra3 stra3; dsimp only; rw [if_neg lt3]) d.params.length 0 o (by omega) (by simpa using h2)
  rw [List.drop_zero, e] at this
  exact this
def gra3 : LP := fun st K => match ura3 st with | some k => if okra3 k = true then K (.ex 6) (Xra3 ⟨k.l, k.er, k.d, k.o ++ defL k.d⟩) else none | none => none
theorem okgra3 : OKL 67 19 gra3 := okfra3 (fuel := fun k => k.d.params.length) (ok := okra3) (F := fun k => .ex ⟨k.l, k.er, k.d, k.o ++ defL k.d⟩) ira3 fun st K => rfl
def stp4 (d : GDescriptor) (o : List Int) (x : GParam) : List Int ⊕ List Int := if rngB d x = true then .inr o else .inl (o.set (idxB x.name d.params).toNat x.value)
def okra4 (k : Kra4) : Bool := decide (k.i = 0) && (Nat.ble k.l.length 9223372036854775807 && (lenB k.d.params && (idxC k.d k.l && Nat.beq k.o.length k.d.params.length)))
def Fra4 (k : Kra4) : Fx Era4 := match scanL (stp4 k.d) k.o k.l with | .inl o => .ex ⟨k.l, k.er, k.d, o⟩ | .inr o => .ret ⟨k.l, 6, k.d, o⟩
theorem ira4 (k : Kra4) (h : okra4 k = true) : iter stepra4 k.l.length k = some (Fra4 k) := by
  unfold okra4 at h
  simp only [Bool.and_eq_true, decide_eq_true_eq] at h
  obtain ⟨h0, h2, h3, h4, h5⟩ := h
  replace h2 := Nat.le_of_ble_eq_true h2
  replace h5 := Nat.eq_of_beq_eq_true h5
  obtain ⟨l, er, d, o, i⟩ := k
  dsimp only at h0 h2 h3 h4 h5
  subst h0
  have := iter_scan (step := stepra4) l (fun o j => (⟨l, er, d, o, (j : Int)⟩ : Kra4)) (stp4 d) (fun o => (⟨l, er, d, o⟩ : Era4)) (fun o => (⟨l, 6, d, o⟩ : Era4)) (fun o _ => o.length = d.params.length)
    (fun b j h hb => by
      have hj := List.all_eq_true.1 h4 l[j] (List.getElem_mem h)
      simp only [Bool.and_eq_true, decide_eq_true_eq] at hj
      have hj3 : idxB (l[j]).name d.params < (b.length : Int) := by rw [hb]; exact hj.2
      have hs : stepra4 ⟨l, er, d, b, (j : Int)⟩ = if rngB d l[j] = true then .ret ⟨l, 6, d, b⟩ else .go ⟨l, er, d, b.set (idxB (l[j]).name d.params).toNat (l[j]).value, ((j + 1 : Nat) : Int)⟩ := by
        unfold stepra4 stra4
        dsimp only
        rw [cnt h h2, gtj _ _ _ h, if_pos (lt1 h)]
        simp only [if_pos (lt0 (j := j)), if_pos (lt2 h), if_pos h3, if_pos hj.1, if_pos hj.2, if_pos hj3]
        unfold rngB
        show (if decide ((l[j]).value < (gt gb0 d.params (idxB (l[j]).name d.params).toNat).lo) = false then (if decide ((l[j]).value > (gt gb0 d.params (idxB (l[j]).name d.params).toNat).hi) = true then (.ret ⟨l, 6, d, b⟩ : Nx Kra4 Era4) else .go ⟨l, er, d, b.set (idxB (l[j]).name d.params).toNat (l[j]).value, ((j + 1 : Nat) : Int)⟩) else .ret ⟨l, 6, d, b⟩) = _
        cases decide ((l[j]).value < (gt gb0 d.params (idxB (l[j]).name d.params).toNat).lo) <;> cases decide ((l[j]).value > (gt gb0 d.params (idxB (l[j]).name d.params).toNat).hi) <;> rfl
      unfold stp4
      rw [hs]
      by_cases hc : rngB d l[j] = true
      · rw [if_pos hc, if_pos hc]
        exact ⟨fun b' hb => (by cases hb), fun y hy => (by cases hy; rfl)⟩
      · rw [if_neg hc, if_neg hc]
        exact ⟨fun b' hb2 => (by cases hb2; exact ⟨rfl, (by rw [List.length_set]; exact hb)⟩), fun y hy => (by cases hy)⟩) (fun b _ => by unfold stepra4 stra4; dsimp only; rw [if_neg lt3]) l.length 0 o (by omega) h5
  rw [List.drop_zero] at this
  refine this.trans ?_
  unfold Fra4
  dsimp only
  cases scanL (stp4 d) o l <;> rfl
def gra4 : LP := fun st K => match ura4 st with | some k => if okra4 k = true then (if isL (scanL (stp4 k.d) k.o k.l) = true then K (.ex 8) (Xra4 ⟨k.l, k.er, k.d, getL [] (scanL (stp4 k.d) k.o k.l)⟩) else K .ret (Xra4 ⟨k.l, 6, k.d, getR [] (scanL (stp4 k.d) k.o k.l)⟩)) else none | none => none
theorem okgra4 : OKL 67 23 gra4 := okfra4 (fuel := fun k => k.l.length) (ok := okra4) (F := Fra4) ira4 fun st K => by
  unfold gra4
  split
  · rename_i k hu
    split
    · unfold Fra4
      cases scanL (stp4 k.d) k.o k.l <;> rfl
    · rfl
  · rfl
def CP5 : Cfg := { cs := libP3, ks := Cra1.ks ++ (Cra2.ks ++ (Cra3.ks ++ Cra4.ks)), xs := Cra1.xs ++ (Cra2.xs ++ (Cra3.xs ++ Cra4.xs)), lps := [((67, 5), gra1), ((67, 10), gra2), ((67, 19), gra3), ((67, 23), gra4)] }
theorem CP5_ok : CfgOK CP5 := { con := libP3_ok, lp := .cons okgra1 (.cons okgra2 (.cons okgra3 (.cons okgra4 .nil))) }
def RparR (n : ByteArray) (l : List GParam) : Option (Res At) :=
  if (!isD (findD n libL)) = true then
   some ((.tup [.nils, (.int .i64 3)]), [])
  else
   if okra1 { l := l, er := 0, d := orD (findD n libL), i := 0 : Kra1 } = true then
    if isL (scanL (stp1 (orD (findD n libL))) () l) = true then
     if okra2 { l := l, er := 0, d := orD (findD n libL), i := 0 : Kra2 } = true then
      if isL (scanL (stpJ l) () (List.range l.length)) = true then
       if okra3 { l := l, er := 0, d := orD (findD n libL), o := [], i := 0 : Kra3 } = true then
        if okra4 { l := l, er := 0, d := orD (findD n libL), o := [] ++ defL (orD (findD n libL)), i := 0 : Kra4 } = true then
         if isL (scanL (stp4 (orD (findD n libL))) ([] ++ defL (orD (findD n libL))) l) = true then
          if isR (RholdR (orD (findD n libL)) (getL [] (scanL (stp4 (orD (findD n libL))) ([] ++ defL (orD (findD n libL))) l))) = true then
           if (!gBo (RholdR (orD (findD n libL)) (getL [] (scanL (stp4 (orD (findD n libL))) ([] ++ defL (orD (findD n libL))) l)))) = true then
            some ((.tup [.nils, (.int .i64 10)]), [])
           else
            some ((.tup [(.own 0), (.int .i64 0)]), [(0, (.row 2 (getL [] (scanL (stp4 (orD (findD n libL))) ([] ++ defL (orD (findD n libL))) l)) false))])
          else
           none
         else
          some ((.tup [.nils, (.int .i64 6)]), [])
        else
         none
       else
        none
      else
       some ((.tup [.nils, (.int .i64 5)]), [])
     else
      none
    else
     some ((.tup [.nils, (.int .i64 3)]), [])
   else
    none
theorem run_RparR (n : ByteArray) (l : List GParam) : runF CP5 80 67 [.str n, .ro 93 l] = RparR n l := by kernel_rfl
end
end Go.Proofs.YtpbpebjfglfjfaaGreatDoor.X
/-! Params: both answer the same. -/
namespace Go.Proofs.YtpbpebjfglfjfaaGreatDoor.X
open Go Go.Proofs Go.RowKit Go.Proofs.YtpbpebjfglfjfaaGreatDoor
noncomputable section
theorem eqB_t {a b : ByteArray} : eqB a b = true ↔ a = b := by rw [eqB_iff]; simp
theorem scanL_inl {α β γ : Type} {f : β → α → β ⊕ γ} {b b' : β} {a : α} {l : List α} (h : f b a = .inl b') : scanL f b (a :: l) = scanL f b' l := by rw [scanL, h]
theorem scanL_inr {α β γ : Type} {f : β → α → β ⊕ γ} {b : β} {y : γ} {a : α} {l : List α} (h : f b a = .inr y) : scanL f b (a :: l) = .inr y := by rw [scanL, h]
theorem scan_if {α : Type} (p : α → Bool) : ∀ l : List α, isL (scanL (fun (_ : Unit) x => if p x = true then (.inr () : Unit ⊕ Unit) else .inl ()) () l) = l.all fun x => !p x
  | [] => rfl
  | x :: l => by
    unfold scanL
    by_cases h : p x = true
    · rw [if_pos h, List.all_cons, h]; rfl
    · rw [if_neg h, List.all_cons, Bool.eq_false_iff.2 h]
      show isL (scanL _ () l) = _
      rw [scan_if p l]; rfl
theorem scan_J (l : List GParam) : ∀ r : List Nat, isL (scanL (stpJ l) () r) = r.all fun j => !dupAt l j
  | [] => rfl
  | j :: r => by
    unfold scanL stpJ
    by_cases h : dupAt l j = false
    · rw [if_pos h, List.all_cons, h]
      show isL (scanL (stpJ l) () r) = _
      rw [scan_J l r]; rfl
    · have h2 : dupAt l j = true := by revert h; cases dupAt l j <;> simp
      rw [if_neg h, List.all_cons, h2]; rfl
def IdxS (s : ByteArray) (l : List GBound) (k : Nat) (o : Nat ⊕ Nat) : Prop := match o with
  | .inl _ => ∀ b ∈ l, b.name ≠ s
  | .inr j => k ≤ j ∧ ∃ h : j - k < l.length, (l[j - k]).name = s
theorem idx_scan (s : ByteArray) : ∀ (l : List GBound) (k : Nat), IdxS s l k (scanL (stpI s) k l)
  | [], k => fun b hb => by cases hb
  | b :: l, k => by
    unfold scanL stpI
    by_cases h : eqB b.name s = true
    · rw [if_pos h]
      refine ⟨Nat.le_refl k, ?_⟩
      rw [Nat.sub_self]
      exact ⟨Nat.succ_pos _, eqB_t.1 h⟩
    · rw [if_neg h]
      have ih := idx_scan s l (k + 1)
      show IdxS s (b :: l) k (scanL (stpI s) (k + 1) l)
      revert ih
      cases scanL (stpI s) (k + 1) l with
      | inl x =>
        intro ih c hc
        rcases List.mem_cons.1 hc with rfl | hc
        · exact fun e => h (eqB_t.2 e)
        · exact ih c hc
      | inr j =>
        rintro ⟨h1, h2, h3⟩
        refine ⟨by omega, ?_⟩
        have e : j - k = (j - (k + 1)) + 1 := by omega
        refine ⟨by simp; omega, ?_⟩
        simp only [e, List.getElem_cons_succ]
        exact h3
theorem idx_pos {s : ByteArray} {l : List GBound} (h : 0 ≤ idxB s l) : ∃ h2 : (idxB s l).toNat < l.length, (l[(idxB s l).toNat]).name = s ∧ idxB s l < (l.length : Int) := by
  have hs := idx_scan s l 0
  unfold idxB at h ⊢
  revert h hs
  cases scanL (stpI s) 0 l with
  | inl x => intro h; exact absurd h (by unfold endI; simp)
  | inr j =>
    rintro _ ⟨_, h2, h3⟩
    simp only [Nat.sub_zero] at h2 h3
    exact ⟨h2, h3, by show (j : Int) < _; omega⟩
theorem known_idxC {d : GDescriptor} {l : List GParam} (h : isL (scanL (stp1 d) () l) = true) : idxC d l = true ∧ ∀ x ∈ l, 0 ≤ idxB x.name d.params := by
  have h1 : (l.all fun x => !decide (idxB x.name d.params < 0)) = true := (scan_if (fun x : GParam => decide (idxB x.name d.params < 0)) l).symm.trans h
  have h2 : ∀ x ∈ l, 0 ≤ idxB x.name d.params := fun x hx => by
    have := List.all_eq_true.1 h1 x hx
    simp only [Bool.not_eq_true', decide_eq_false_iff_not] at this
    omega
  refine ⟨List.all_eq_true.2 fun x hx => ?_, h2⟩
  obtain ⟨_, _, h3⟩ := idx_pos (h2 x hx)
  simp only [Bool.and_eq_true, decide_eq_true_eq]
  exact ⟨h2 x hx, h3⟩
theorem look_cons9 (t k : ByteArray) (v : Int) (m : List (ByteArray × Int)) : mlook9_2 t ((k, v) :: m) = (match eqB t k with | true => some v | false => mlook9_2 t m) := by kernel_rfl
theorem upd_cons9 (s k : ByteArray) (v w : Int) (m : List (ByteArray × Int)) : mupd9_2 s v ((k, w) :: m) = (match eqB s k with | true => (s, v) :: m | false => (k, w) :: mupd9_2 s v m) := by kernel_rfl
theorem look_nil9 (t : ByteArray) : mlook9_2 t [] = none := rfl
theorem upd_nil9 (s : ByteArray) (v : Int) : mupd9_2 s v [] = [(s, v)] := rfl
theorem look_upd (s t : ByteArray) (v : Int) : ∀ m : List (ByteArray × Int), mlook9_2 t (mupd9_2 s v m) = if t = s then some v else mlook9_2 t m
  | [] => by
    rw [upd_nil9, look_cons9, look_nil9]
    by_cases h : t = s
    · rw [if_pos h, eqB_t.2 h]
    · rw [if_neg h, Bool.eq_false_iff.2 (fun e => h (eqB_t.1 e))]
  | (k, w) :: m => by
    rw [upd_cons9]
    by_cases h : s = k
    · subst h
      rw [eqB_t.2 rfl]
      dsimp only
      rw [look_cons9, look_cons9]
      by_cases h2 : t = s
      · rw [if_pos h2, eqB_t.2 h2]
      · rw [if_neg h2, Bool.eq_false_iff.2 (fun e => h2 (eqB_t.1 e))]
    · rw [Bool.eq_false_iff.2 (fun e => h (eqB_t.1 e))]
      dsimp only
      rw [look_cons9, look_cons9, look_upd s t v m]
      by_cases h2 : t = k
      · rw [eqB_t.2 h2]
        dsimp only
        rw [if_neg (fun e => h (e.symm.trans h2))]
      · rw [Bool.eq_false_iff.2 (fun e => h2 (eqB_t.1 e))]
theorem dup_map : ∀ (l : List GParam) (m : List (ByteArray × Int)), isL (scanL stp2 m l) = true ↔ (∀ x ∈ l, mlook9_2 x.name m = none) ∧ l.Pairwise fun a b => a.name ≠ b.name
  | [], m => by simp [scanL, isL]
  | x :: l, m => by
    unfold scanL stp2
    cases hx : mlook9_2 x.name m with
    | some v =>
      rw [if_pos (show isO (some v) = true from rfl)]
      constructor
      · intro h; cases h
      · rintro ⟨h, _⟩; have := h x (List.mem_cons_self ..); rw [hx] at this; cases this
    | none =>
      rw [if_neg (show ¬ isO (none : Option Int) = true by simp [isO])]
      show isL (scanL stp2 (mupd9_2 x.name x.value m) l) = true ↔ _
      rw [dup_map l, List.pairwise_cons]
      constructor
      · rintro ⟨h1, h2⟩
        have h3 : ∀ y ∈ l, x.name ≠ y.name ∧ mlook9_2 y.name m = none := fun y hy => by
          have := h1 y hy
          rw [look_upd] at this
          by_cases e : y.name = x.name
          · rw [if_pos e] at this; cases this
          · rw [if_neg e] at this; exact ⟨fun q => e q.symm, this⟩
        exact ⟨fun y hy => (List.mem_cons.1 hy).elim (fun e => by rw [e]; exact hx) (fun hy => (h3 y hy).2), fun y hy => (h3 y hy).1, h2⟩
      · rintro ⟨h1, h2, h3⟩
        refine ⟨fun y hy => ?_, h3⟩
        rw [look_upd, if_neg (fun e => h2 y hy e.symm)]
        exact h1 y (List.mem_cons_of_mem _ hy)
theorem dup_at (l : List GParam) : ((List.range l.length).all fun j => !dupAt l j) = true ↔ l.Pairwise fun a b => a.name ≠ b.name := by
  rw [List.all_eq_true, List.pairwise_iff_getElem]
  constructor
  · intro h i j hi hj hij e
    have := h j (List.mem_range.2 hj)
    unfold dupAt at this
    rw [gt_at gp00 l j hj] at this
    simp only [Bool.not_eq_true', List.any_eq_false] at this
    have hm : l[i] ∈ l.take j := List.mem_take_iff_getElem.2 ⟨i, by omega, rfl⟩
    exact this _ hm (eqB_t.2 e.symm)
  · intro h j hj
    have hj := List.mem_range.1 hj
    unfold dupAt
    rw [gt_at gp00 l j hj]
    simp only [Bool.not_eq_true', List.any_eq_false]
    intro y hy e
    obtain ⟨i, hi, rfl⟩ := List.mem_take_iff_getElem.1 hy
    exact h i j (by omega) hj (by omega) (eqB_t.1 e).symm
theorem dup_same (l : List GParam) : isL (scanL (stpJ l) () (List.range l.length)) = isL (scanL stp2 [] l) := by
  rw [scan_J, Bool.eq_iff_iff, dup_at, dup_map]
  simp [look_nil9]
def distB : List GBound → Bool
  | [] => true
  | b :: l => (l.all fun c => !eqB b.name c.name) && distB l
theorem distB_pair : ∀ {l : List GBound}, distB l = true → l.Pairwise fun a b => a.name ≠ b.name
  | [], _ => .nil
  | b :: l, h => by
    unfold distB at h
    rw [Bool.and_eq_true] at h
    refine .cons (fun c hc e => ?_) (distB_pair h.2)
    have := List.all_eq_true.1 h.1 c hc
    rw [eqB_t.2 e] at this
    cases this
theorem dist_inj {l : List GBound} (h : distB l = true) {i j : Nat} (hi : i < l.length) (hj : j < l.length) (e : (l[i]).name = (l[j]).name) : i = j := by
  have hp := List.pairwise_iff_getElem.1 (distB_pair h)
  rcases Nat.lt_trichotomy i j with h1 | h1 | h1
  · exact absurd e (hp i j hi hj h1)
  · exact h1
  · exact absurd e.symm (hp j i hj hi h1)
theorem parV_upd (s : ByteArray) (v : Int) (m : List (ByteArray × Int)) (b : GBound) : parV (mupd9_2 s v m) b = if b.name = s then v else parV m b := by
  unfold parV
  rw [look_upd]
  by_cases h : b.name = s
  · rw [if_pos h, if_pos h]; rfl
  · rw [if_neg h, if_neg h]
theorem set_map {ps : List GBound} (hd : distB ps = true) {s : ByteArray} (hi : 0 ≤ idxB s ps) (v : Int) (m : List (ByteArray × Int)) : (ps.map (parV m)).set (idxB s ps).toNat v = ps.map (parV (mupd9_2 s v m)) := by
  obtain ⟨h1, h2, _⟩ := idx_pos hi
  refine List.ext_getElem (by simp) fun k hk1 hk2 => ?_
  have hk : k < ps.length := by simpa using hk2
  rw [List.getElem_set, List.getElem_map, List.getElem_map, parV_upd]
  by_cases h : (idxB s ps).toNat = k
  · rw [if_pos h, if_pos]
    simp only [← h]; exact h2
  · rw [if_neg h, if_neg]
    intro e
    exact h (dist_inj hd h1 hk (h2.trans e.symm))
theorem out_same {d : GDescriptor} (hd : distB d.params = true) : ∀ (l : List GParam) (m : List (ByteArray × Int)), (∀ x ∈ l, 0 ≤ idxB x.name d.params) → isL (scanL stp2 m l) = true →
    (isL (scanL (stp4 d) (d.params.map (parV m)) l) = isL (scanL (stp3 d) () l)) ∧ (isL (scanL (stp3 d) () l) = true → getL [] (scanL (stp4 d) (d.params.map (parV m)) l) = d.params.map (parV (getL [] (scanL stp2 m l))))
  | [], m, _, _ => ⟨rfl, fun _ => rfl⟩
  | x :: l, m, hx, hm => by
    unfold scanL stp2 at hm
    have hno : ¬ isO (mlook9_2 x.name m) = true := fun e => by rw [if_pos e] at hm; cases hm
    rw [if_neg hno] at hm
    replace hm : isL (scanL stp2 (mupd9_2 x.name x.value m) l) = true := hm
    have ih := out_same hd l (mupd9_2 x.name x.value m) (fun y hy => hx y (List.mem_cons_of_mem _ hy)) hm
    rw [← set_map hd (hx x (List.mem_cons_self ..)) x.value m] at ih
    have e2 : scanL stp2 m (x :: l) = scanL stp2 (mupd9_2 x.name x.value m) l := scanL_inl (by unfold stp2; rw [if_neg hno])
    rw [e2]
    have e4 : scanL (stp4 d) (d.params.map (parV m)) (x :: l) = if rngB d x = true then .inr (d.params.map (parV m)) else scanL (stp4 d) ((d.params.map (parV m)).set (idxB x.name d.params).toNat x.value) l := by
      by_cases h : rngB d x = true
      · rw [if_pos h, scanL_inr (by unfold stp4; rw [if_pos h])]
      · rw [if_neg h, scanL_inl (by unfold stp4; rw [if_neg h])]
    have e3 : scanL (stp3 d) () (x :: l) = if rngB d x = true then .inr () else scanL (stp3 d) () l := by
      by_cases h : rngB d x = true
      · rw [if_pos h, scanL_inr (by unfold stp3; rw [if_pos h])]
      · rw [if_neg h, scanL_inl (by unfold stp3; rw [if_neg h])]
    rw [e4, e3]
    by_cases h : rngB d x = true
    · rw [if_pos h, if_pos h]
      exact ⟨rfl, fun e => by cases e⟩
    · rw [if_neg h, if_neg h]
      exact ih
def plainName (n : ByteArray) : Bool := !eqB n bLimit && (!eqB n bPid && (!eqB n bLine && !eqB n bHyst))
theorem holds_plain (d : GDescriptor) (ps : List Int) (h : plainName d.name = true) : RholdR d ps = some (.bool (holdsV d.name ps), []) := by
  unfold plainName at h
  simp only [Bool.and_eq_true, Bool.not_eq_true'] at h
  obtain ⟨h1, h2, h3, h4⟩ := h
  have e : holdsV d.name ps = true := by
    unfold holdsV
    rw [if_neg (by rw [h1]; simp), if_neg (by rw [h2]; simp), if_neg (by rw [h3]; simp), if_neg (by rw [h4]; simp)]
  rw [e]
  unfold RholdR
  exact (if_neg (show ¬ eqB d.name bLimit = true by rw [h1]; simp)).trans ((if_neg (show ¬ eqB d.name bPid = true by rw [h2]; simp)).trans ((if_neg (show ¬ eqB d.name bLine = true by rw [h3]; simp)).trans (if_neg (show ¬ eqB d.name bHyst = true by rw [h4]; simp))))
theorem lib_split : libL.all (fun d => plainName d.name || eqB d.name bLimit || eqB d.name bPid || eqB d.name bLine || eqB d.name bHyst) = true := by kernel_rfl
def dOf (s : ByteArray) : GDescriptor := orD (findD s libL)
theorem hold_limit (a b : Int) : RholdR (dOf bLimit) [a, b] = some (.bool (holdsV bLimit [a, b]), []) := by kernel_rfl
theorem hold_pid (a b c d e : Int) : RholdR (dOf bPid) [a, b, c, d, e] = some (.bool (holdsV bPid [a, b, c, d, e]), []) := by kernel_rfl
theorem hold_line (a b c d : Int) : RholdR (dOf bLine) [a, b, c, d] = some (.bool (holdsV bLine [a, b, c, d]), []) := by kernel_rfl
theorem hold_hyst (a b : Int) : RholdR (dOf bHyst) [a, b] = some (.bool (holdsV bHyst [a, b]), []) := by kernel_rfl
theorem find_name {n : ByteArray} : ∀ {l : List GDescriptor} {d : GDescriptor}, findD n l = some d → d.name = n
  | [], d, h => by cases h
  | x :: l, d, h => by
    replace h : (if eqB x.name n = true then some x else findD n l) = some d := h
    split at h
    · rename_i e
      obtain rfl := Option.some.inj h; exact eqB_t.1 e
    · exact find_name h
theorem holds_lib {n : ByteArray} {d : GDescriptor} (h : findD n libL = some d) (ps : List Int) (hp : ps.length = d.params.length) : RholdR d ps = some (.bool (holdsV n ps), []) := by
  have hn := find_name h
  have h1 := List.all_eq_true.1 lib_split d (findD_mem h)
  simp only [Bool.or_eq_true] at h1
  have hd : ∀ s, d.name = s → d = dOf s := fun s e => by unfold dOf; rw [← e, hn, h]; rfl
  rcases h1 with (((h1 | h1) | h1) | h1) | h1
  · rw [holds_plain d ps h1, hn]
  · have e := eqB_t.1 h1
    have e2 := hd _ e
    rw [← hn, e]
    subst e2
    match ps, hp with
    | [a, b], _ => exact hold_limit a b
  · have e := eqB_t.1 h1
    have e2 := hd _ e
    rw [← hn, e]
    subst e2
    match ps, hp with
    | [a, b, c, d, e], _ => exact hold_pid a b c d e
  · have e := eqB_t.1 h1
    have e2 := hd _ e
    rw [← hn, e]
    subst e2
    match ps, hp with
    | [a, b, c, d], _ => exact hold_line a b c d
  · have e := eqB_t.1 h1
    have e2 := hd _ e
    rw [← hn, e]
    subst e2
    match ps, hp with
    | [a, b], _ => exact hold_hyst a b
def parD (n : ByteArray) (d : GDescriptor) (l : List GParam) : List Int × Int :=
  if isL (scanL (stp1 d) () l) = true then
   (if isL (scanL stp2 [] l) = true then
    (if isL (scanL (stp3 d) () l) = true then
     (if holdsV n (d.params.map (parV (getL [] (scanL stp2 [] l)))) = true then (d.params.map (parV (getL [] (scanL stp2 [] l))), 0) else ([], 10))
    else ([], 6))
   else ([], 5))
  else ([], 3)
def parE (o : Option GDescriptor) (n : ByteArray) (l : List GParam) : List Int × Int := match o with | none => ([], 3) | some d => parD n d l
def parW (p : List Int × Int) : Res At := (.tup [.ro 2 p.1, .int .i64 p.2], [])
def crI (z : Option (Res At)) : Option (Res At) := coRes TT [some 2] (shutRes z)
theorem lib_dist : libL.all (fun d => distB d.params && Nat.ble (holdsN d.name) d.params.length) = true := by kernel_rfl
theorem find_dist {n : ByteArray} {d : GDescriptor} (h : findD n libL = some d) : distB d.params = true ∧ holdsN n ≤ d.params.length := by
  have h1 := List.all_eq_true.1 lib_dist d (findD_mem h)
  simp only [Bool.and_eq_true] at h1
  exact ⟨h1.1, by rw [← find_name h]; exact Nat.le_of_ble_eq_true h1.2⟩
theorem par_eq (n : ByteArray) (l : List GParam) (hn : (n.size + 1).blt 4611686018427387904 = true) (hl : l.length ≤ 9223372036854775807) : crI (Rpar n l) = some (parW (parE (findD n libL) n l)) := by
  unfold Rpar
  rw [if_pos hn]
  cases ho : findD n libL with
  | none => rfl
  | some d =>
    obtain ⟨_, _, _, _, h5⟩ := find_good ho
    obtain ⟨hd, hN⟩ := find_dist ho
    have hB : lenB d.params = true := Nat.ble_eq_true_of_le (show d.params.length ≤ 9223372036854775807 by omega)
    have hL : Nat.ble l.length 9223372036854775807 = true := Nat.ble_eq_true_of_le hl
    rw [show orD (some d) = d from rfl]
    refine congrArg crI ((if_neg (by simp [erD])).trans (if_pos (by unfold okpa1; simp only [Bool.and_eq_true, decide_eq_true_eq]; exact ⟨trivial, trivial, hL, hB⟩))) |>.trans ?_
    show _ = some (parW (parD n d l))
    unfold parD
    by_cases h1 : ¬ isL (scanL (stp1 d) () l) = true
    · rw [if_neg h1, if_neg h1]; rfl
    have h1 : isL (scanL (stp1 d) () l) = true := Decidable.not_not.1 h1
    obtain ⟨hC, hI⟩ := known_idxC h1
    rw [if_pos h1, if_pos h1]
    refine congrArg crI (if_pos (by unfold okpa2; simp only [Bool.and_eq_true, decide_eq_true_eq]; exact ⟨trivial, trivial, hL⟩)) |>.trans ?_
    by_cases h2 : ¬ isL (scanL stp2 [] l) = true
    · rw [if_neg h2, if_neg h2]; rfl
    have h2 : isL (scanL stp2 [] l) = true := Decidable.not_not.1 h2
    rw [if_pos h2, if_pos h2]
    refine congrArg crI (if_pos (by unfold okpa3; simp only [Bool.and_eq_true, decide_eq_true_eq]; exact ⟨trivial, trivial, hL, hB, hC⟩)) |>.trans ?_
    by_cases h3 : ¬ isL (scanL (stp3 d) () l) = true
    · rw [if_neg h3, if_neg h3]; rfl
    have h3 : isL (scanL (stp3 d) () l) = true := Decidable.not_not.1 h3
    rw [if_pos h3, if_pos h3, List.nil_append]
    refine congrArg crI ((if_pos (by unfold okpa4; simp only [Bool.and_eq_true, decide_eq_true_eq]; exact ⟨trivial, trivial, Nat.ble_eq_true_of_le (show 0 + d.params.length + 1 ≤ 16777216 by omega)⟩)).trans (if_pos (Nat.ble_eq_true_of_le (by rw [List.length_map]; exact hN)))) |>.trans ?_
    cases holdsV n (d.params.map (parV (getL [] (scanL stp2 [] l)))) <;> rfl
def rowP (o : List Int) : Option (Res At) := some ((.tup [(.own 0), (.int .i64 0)]), [(0, (.row 2 o false))])
theorem parR_eq (n : ByteArray) (l : List GParam) (hl : l.length ≤ 9223372036854775807) : crI (RparR n l) = some (parW (parE (findD n libL) n l)) := by
  unfold RparR
  cases ho : findD n libL with
  | none => rfl
  | some d =>
    obtain ⟨_, _, _, _, h5⟩ := find_good ho
    obtain ⟨hd, hN⟩ := find_dist ho
    have hB : lenB d.params = true := Nat.ble_eq_true_of_le (show d.params.length ≤ 9223372036854775807 by omega)
    have hL : Nat.ble l.length 9223372036854775807 = true := Nat.ble_eq_true_of_le hl
    rw [show orD (some d) = d from rfl]
    refine congrArg crI ((if_neg (by simp [isD])).trans (if_pos (by unfold okra1; simp only [Bool.and_eq_true, decide_eq_true_eq]; exact ⟨trivial, hL, hB⟩))) |>.trans ?_
    show _ = some (parW (parD n d l))
    unfold parD
    by_cases h1 : ¬ isL (scanL (stp1 d) () l) = true
    · rw [if_neg h1, if_neg h1]; rfl
    have h1 : isL (scanL (stp1 d) () l) = true := Decidable.not_not.1 h1
    obtain ⟨hC, hI⟩ := known_idxC h1
    rw [if_pos h1, if_pos h1]
    refine congrArg crI (if_pos (by unfold okra2; simp only [Bool.and_eq_true, decide_eq_true_eq]; exact ⟨trivial, hL⟩)) |>.trans ?_
    rw [dup_same l]
    by_cases h2 : ¬ isL (scanL stp2 [] l) = true
    · rw [if_neg h2, if_neg h2]; rfl
    have h2 : isL (scanL stp2 [] l) = true := Decidable.not_not.1 h2
    rw [if_pos h2, if_pos h2]
    have ed : defL d = d.params.map (parV []) := List.map_congr_left fun b _ => rfl
    obtain ⟨g1, g2⟩ := out_same hd l [] hI h2
    rw [List.nil_append, ed]
    refine congrArg crI ((if_pos (by unfold okra3; simp only [Bool.and_eq_true, decide_eq_true_eq]; exact ⟨trivial, Nat.ble_eq_true_of_le (show 0 + d.params.length + 1 ≤ 16777216 by omega)⟩)).trans (if_pos (by unfold okra4; simp only [Bool.and_eq_true, decide_eq_true_eq]; exact ⟨trivial, hL, hB, hC, (by rw [List.length_map]; exact Nat.beq_refl _)⟩))) |>.trans ?_
    rw [g1]
    by_cases h3 : ¬ isL (scanL (stp3 d) () l) = true
    · rw [if_neg h3, if_neg h3]; rfl
    have h3 : isL (scanL (stp3 d) () l) = true := Decidable.not_not.1 h3
    rw [if_pos h3, if_pos h3, g2 h3, holds_lib ho _ (by rw [List.length_map])]
    refine congrArg crI (if_pos rfl) |>.trans ?_
    show crI (if (!(holdsV n (d.params.map (parV (getL [] (scanL stp2 [] l)))))) = true then some ((.tup [.nils, (.int .i64 10)]), []) else rowP (getL [] (scanL (stp4 d) (d.params.map (parV [])) l))) = _
    rw [g2 h3]
    cases holdsV n (d.params.map (parV (getL [] (scanL stp2 [] l)))) <;> rfl
def andP (a b : Bool) : Bool := match a with | true => b | false => false
def conPar : CON := onSL 93 fun n (l : List GParam) => some (andP ((n.size + 1).blt 4611686018427387904) (Nat.ble l.length 9223372036854775807), parW (parE (findD n libL) n l))
theorem andP_t {a b : Bool} (h : andP a b = true) : a = true ∧ b = true := by cases a <;> first | cases h; done | exact ⟨rfl, h⟩
theorem okPar : OK 60 conPar := by
  refine ok_co (E := mkE CP4) TT_ok (body_ok (E := mkE CP4) (good CP4_ok) (f := 60) (fn := (bodyT 60).getD default) (c := codeOf 60) (by rfl) (by rfl) 80) [some 2] fun l r h => ?_
  replace h := onSL_spec (conO_some h)
  obtain ⟨n, l, rfl, h⟩ := h
  obtain ⟨hc, rfl⟩ := some_pair h
  exact (congrArg crI (run_Rpar n l)).trans (par_eq n l (andP_t hc).1 (Nat.le_of_ble_eq_true (andP_t hc).2))
def conParR : CON := onSL 93 fun n (l : List GParam) => some (Nat.ble l.length 9223372036854775807, parW (parE (findD n libL) n l))
theorem okParR : OK 67 conParR := by
  refine ok_co (E := mkE CP5) TT_ok (body_ok (E := mkE CP5) (good CP5_ok) (f := 67) (fn := (bodyT 67).getD default) (c := codeOf 67) (by rfl) (by rfl) 80) [some 2] fun l r h => ?_
  replace h := onSL_spec (conO_some h)
  obtain ⟨n, l, rfl, h⟩ := h
  obtain ⟨hc, rfl⟩ := some_pair h
  exact (congrArg crI (run_RparR n l)).trans (parR_eq n l (Nat.le_of_ble_eq_true hc))
def libP7 : List (Nat × CON) := (60, conPar) :: (67, conParR) :: libP
theorem libP7_ok : AllOK libP7 := .cons okPar (.cons okParR libP_ok)
end
end Go.Proofs.YtpbpebjfglfjfaaGreatDoor.X
/-! READERS: what a value tells, exactly; contracts out of runs. -/
namespace Go.Proofs.YtpbpebjfglfjfaaGreatDoor.X
open Go Go.Proofs Go.RowKit Go.Proofs.YtpbpebjfglfjfaaGreatDoor
noncomputable section
structure RD (α : Type) where
  rd : VT → Option α
  wr : α → VT
  ok : ∀ v a, rd v = some a → v = wr a
def rI (k : IntKind) : RD Int := ⟨fun v => match v with | .int k' n => (match decide (k' = k) with | true => some n | false => none) | _ => none, fun n => .int k n, fun v a h => by
  split at h
  · split at h
    · rename_i hk
      obtain rfl := Option.some.inj h
      rw [of_decide_eq_true hk]
    · cases h
  · cases h⟩
def rB : RD Bool := ⟨fun v => match v with | .bool b => some b | _ => none, fun b => .bool b, fun v a h => by
  split at h
  · obtain rfl := Option.some.inj h; rfl
  · cases h⟩
def rS : RD ByteArray := ⟨fun v => match v with | .str b => some b | _ => none, fun b => .str b, fun v a h => by
  split at h
  · obtain rfl := Option.some.inj h; rfl
  · cases h⟩
def rR (e : Nat) : RD (List (At e)) := ⟨fun v => roV e v, fun l => .ro e l, fun v a h => roV_spec h⟩
def rA {α : Type} (x : List VT → Option α) (c : α → List VT) (h : ∀ l a, x l = some a → l = c a) : RD α := ⟨fun v => match v with | .agg l => x l | _ => none, fun a => .agg (c a), fun v a hv => by
  split at hv
  · rw [h _ _ hv]
  · cases hv⟩
def rP {α : Type} (x : List VT → Option α) (c : α → List VT) (h : ∀ l a, x l = some a → l = c a) : RD α := ⟨fun v => match v with | .rel l => x l | _ => none, fun a => .rel (c a), fun v a hv => by
  split at hv
  · rw [h _ _ hv]
  · cases hv⟩
def rF1 (f : Nat) {α : Type} (r : RD α) : RD α := ⟨fun v => match v with | .fn g [x] => (match Nat.beq g f with | true => r.rd x | false => none) | _ => none, fun a => .fn f [r.wr a], fun v a hv => by
  split at hv
  · split at hv
    · rename_i hb
      rw [Nat.eq_of_beq_eq_true hb, r.ok _ _ hv]
    · cases hv
  · cases hv⟩
def rF0 (f : Nat) : RD Unit := ⟨fun v => match v with | .fn g [] => (match Nat.beq g f with | true => some () | false => none) | _ => none, fun _ => .fn f [], fun v a hv => by
  split at hv
  · split at hv
    · rename_i hb
      rw [Nat.eq_of_beq_eq_true hb]
    · cases hv
  · cases hv⟩
def rC {α : Type} (r : RD α) : RD α := ⟨fun v => match v with | .rel [x] => r.rd x | _ => none, fun a => .rel [r.wr a], fun v a hv => by
  split at hv
  · rw [r.ok _ _ hv]
  · cases hv⟩
def rT2 {α β : Type} (a : RD α) (b : RD β) : RD (α × β) := ⟨fun v => match v with | .tup [x, y] => (match a.rd x, b.rd y with | some p, some q => some (p, q) | _, _ => none) | _ => none, fun p => .tup [a.wr p.1, b.wr p.2], fun v p hv => by
  split at hv
  · split at hv
    · rename_i h1 h2
      obtain rfl := Option.some.inj hv
      rw [a.ok _ _ h1, b.ok _ _ h2]
    · cases hv
  · cases hv⟩
def getV {α : Type} (r : RD α) (o : Option (Res At)) : Option α := match o with | some (v, []) => r.rd v | _ => none
def valO {α : Type} (r : RD α) (d : α) (o : Option (Res At)) : α := getO d (getV r o)
def okO {α : Type} (r : RD α) (o : Option (Res At)) : Bool := isO (getV r o)
theorem getV_some {α : Type} {r : RD α} {o : Option (Res At)} {a : α} (h : getV r o = some a) : o = some (r.wr a, []) := by
  unfold getV at h
  split at h
  · rw [r.ok _ _ h]
  · cases h
theorem okO_spec {α : Type} {r : RD α} {d : α} {o : Option (Res At)} (h : okO r o = true) : o = some (r.wr (valO r d o), []) := by
  unfold okO isO at h
  split at h
  · rename_i a ha
    unfold valO
    rw [ha]
    exact getV_some ha
  · cases h
def on1 {α R : Type} (a : RD α) (F : α → Option R) (l : List VT) : Option R := match l with | [x] => (match a.rd x with | some p => F p | none => none) | _ => none
theorem on1_spec {α R : Type} {a : RD α} {F : α → Option R} {l : List VT} {r : R} (h : on1 a F l = some r) : ∃ p, l = [a.wr p] ∧ F p = some r := by
  unfold on1 at h
  split at h
  · split at h
    · rename_i p hp
      exact ⟨p, by rw [a.ok _ _ hp], h⟩
    · cases h
  · cases h
def on2 {α β R : Type} (a : RD α) (b : RD β) (F : α → β → Option R) (l : List VT) : Option R := match l with | [x, y] => (match a.rd x, b.rd y with | some p, some q => F p q | _, _ => none) | _ => none
theorem on2_spec {α β R : Type} {a : RD α} {b : RD β} {F : α → β → Option R} {l : List VT} {r : R} (h : on2 a b F l = some r) : ∃ p q, l = [a.wr p, b.wr q] ∧ F p q = some r := by
  unfold on2 at h
  split at h
  · split at h
    · rename_i p q hp hq
      exact ⟨p, q, by rw [a.ok _ _ hp, b.ok _ _ hq], h⟩
    · cases h
  · cases h
def on3 {α β γ R : Type} (a : RD α) (b : RD β) (c : RD γ) (F : α → β → γ → Option R) (l : List VT) : Option R := match l with | [x, y, z] => (match a.rd x, b.rd y, c.rd z with | some p, some q, some s => F p q s | _, _, _ => none) | _ => none
theorem on3_spec {α β γ R : Type} {a : RD α} {b : RD β} {c : RD γ} {F : α → β → γ → Option R} {l : List VT} {r : R} (h : on3 a b c F l = some r) : ∃ p q s, l = [a.wr p, b.wr q, c.wr s] ∧ F p q s = some r := by
  unfold on3 at h
  split at h
  · split at h
    · rename_i p q s hp hq hs
      exact ⟨p, q, s, by rw [a.ok _ _ hp, b.ok _ _ hq, c.ok _ _ hs], h⟩
    · cases h
  · cases h
theorem okf_run {C : Cfg} (h : CfgOK C) {f : Nat} (he : entB f = true) (n : Nat) : OkC TT Tryz.prog GW f fun l => runF C n f l :=
  ⟨entB_spec he, fun w okb xs cs r hG hs hr hok h1 => run_calls h hG hs hr hok h1⟩
def crR (ts : List (Option Nat)) (o : Option (Res At)) : Option (Res At) := coRes TT ts (shutRes o)
theorem crR_ite {ts : List (Option Nat)} {c : Prop} [Decidable c] {a b : Option (Res At)} : crR ts (if c then a else b) = if c then crR ts a else crR ts b := by
  by_cases h : c
  · rw [if_pos h, if_pos h]
  · rw [if_neg h, if_neg h]
theorem okO_ite {α : Type} {r : RD α} {c : Prop} [Decidable c] {a b : Option (Res At)} : okO r (if c then a else b) = if c then okO r a else okO r b := by
  by_cases h : c
  · rw [if_pos h, if_pos h]
  · rw [if_neg h, if_neg h]
theorem valO_ite {α : Type} {r : RD α} {d : α} {c : Prop} [Decidable c] {a b : Option (Res At)} : valO r d (if c then a else b) = if c then valO r d a else valO r d b := by
  by_cases h : c
  · rw [if_pos h, if_pos h]
  · rw [if_neg h, if_neg h]
theorem c_ite {α : Type} {r : RD α} {ts : List (Option Nat)} {c : Prop} [Decidable c] {a b : Option (Res At)} : okO r (crR ts (if c then a else b)) = if c then okO r (crR ts a) else okO r (crR ts b) := by rw [crR_ite, okO_ite]
theorem v_ite {α : Type} {r : RD α} {d : α} {ts : List (Option Nat)} {c : Prop} [Decidable c] {a b : Option (Res At)} : valO r d (crR ts (if c then a else b)) = if c then valO r d (crR ts a) else valO r d (crR ts b) := by rw [crR_ite, valO_ite]
inductive Nx2 (σ ε ρ : Type) | go (s : σ) | ex (x : ε) | ret (x : ρ) | no
def iter2 {σ ε ρ : Type} (step : σ → Nx2 σ ε ρ) : Nat → σ → Option (ε ⊕ ρ)
  | 0, s => (match step s with | .ex x => some (.inl x) | .ret x => some (.inr x) | _ => none)
  | k + 1, s => (match step s with | .go s' => iter2 step k s' | .ex x => some (.inl x) | .ret x => some (.inr x) | .no => none)
def Nx2.up {σ ε ρ τ χ : Type} (p : σ → τ) (e : ε → χ) (r : ρ → χ) (n : Nx2 σ ε ρ) : Nx τ χ := match n with | .go s => .go (p s) | .ex x => .ex (e x) | .ret x => .ret (r x) | .no => .no
theorem Nx2.up_ite {σ ε ρ τ χ : Type} {p : σ → τ} {e : ε → χ} {r : ρ → χ} {c : Prop} [Decidable c] {a b : Nx2 σ ε ρ} : Nx2.up p e r (if c then a else b) = if c then Nx2.up p e r a else Nx2.up p e r b := by
  by_cases h : c
  · rw [if_pos h, if_pos h]
  · rw [if_neg h, if_neg h]
theorem iter2_up {σ ε ρ τ χ : Type} {step : τ → Nx τ χ} {s : σ → Nx2 σ ε ρ} {p : σ → τ} {e : ε → χ} {r : ρ → χ} (h : ∀ b, step (p b) = (s b).up p e r) : ∀ (n : Nat) (b : σ), iter step n (p b) = (iter2 s n b).map fun y => match y with | .inl x => .ex (e x) | .inr x => .ret (r x)
  | 0, b => by
    rw [iter, iter2, h b]
    cases s b <;> rfl
  | n + 1, b => by
    rw [iter, iter2, h b]
    cases s b with
    | go b' => exact iter2_up h n b'
    | _ => rfl
theorem iter2_ok {σ ε ρ τ χ : Type} {step : τ → Nx τ χ} {s : σ → Nx2 σ ε ρ} {p : σ → τ} {e : ε → χ} {r : ρ → χ} {n : Nat} {de : ε} {dr : ρ} (b : σ) (h : ∀ b, step (p b) = (s b).up p e r) (ho : isO (iter2 s n b) = true) :
    iter step n (p b) = some (if isLO (iter2 s n b) = true then .ex (e (getLO de (iter2 s n b))) else .ret (r (getRO dr (iter2 s n b)))) := by
  rw [iter2_up h]
  cases hi : iter2 s n b with
  | none => rw [hi] at ho; cases ho
  | some y => cases y <;> rfl
def orC (a b : CON) : CON := fun l => match a l with | some r => some r | none => b l
theorem ok_or {f : Nat} {a b : CON} (h : OK f a) (k : OK f b) : OK f (orC a b) := by
  refine ⟨h.1, fun w okb xs cs r hG hs hr hok hq => ?_⟩
  replace hq : conO (orC a b xs) = some r := hq
  unfold orC at hq
  split at hq
  · rename_i q ha
    exact h.2 w okb xs cs r hG hs hr hok (by show conO (a xs) = some r; rw [ha]; exact hq)
  · exact k.2 w okb xs cs r hG hs hr hok hq
theorem okc1 {C : Cfg} (h : CfgOK C) {f n : Nat} {α ρ : Type} {a : RD α} {r : RD ρ} {d : ρ} {ts : List (Option Nat)} {R : α → Option (Res At)} (he : entB f = true) (hr : ∀ p, runF C n f [a.wr p] = R p) :
    OK f (on1 a fun p => some (okO r (crR ts (R p)), (r.wr (valO r d (crR ts (R p))), []))) := by
  refine ok_co (E := mkE C) TT_ok (okf_run h he n) ts fun l q hq => ?_
  obtain ⟨p, rfl, h0⟩ := on1_spec (conO_some hq)
  obtain ⟨h1, rfl⟩ := some_pair h0
  rw [hr]
  exact okO_spec h1
theorem okc2 {C : Cfg} (h : CfgOK C) {f n : Nat} {α β ρ : Type} {a : RD α} {b : RD β} {r : RD ρ} {d : ρ} {ts : List (Option Nat)} {R : α → β → Option (Res At)} (he : entB f = true) (hr : ∀ p q, runF C n f [a.wr p, b.wr q] = R p q) :
    OK f (on2 a b fun p q => some (okO r (crR ts (R p q)), (r.wr (valO r d (crR ts (R p q))), []))) := by
  refine ok_co (E := mkE C) TT_ok (okf_run h he n) ts fun l q hq => ?_
  obtain ⟨p, s, rfl, h0⟩ := on2_spec (conO_some hq)
  obtain ⟨h1, rfl⟩ := some_pair h0
  rw [hr]
  exact okO_spec h1
theorem okc3 {C : Cfg} (h : CfgOK C) {f n : Nat} {α β γ ρ : Type} {a : RD α} {b : RD β} {c : RD γ} {r : RD ρ} {d : ρ} {ts : List (Option Nat)} {R : α → β → γ → Option (Res At)} (he : entB f = true) (hr : ∀ p q s, runF C n f [a.wr p, b.wr q, c.wr s] = R p q s) :
    OK f (on3 a b c fun p q s => some (okO r (crR ts (R p q s)), (r.wr (valO r d (crR ts (R p q s))), []))) := by
  refine ok_co (E := mkE C) TT_ok (okf_run h he n) ts fun l q hq => ?_
  obtain ⟨p, s, t, rfl, h0⟩ := on3_spec (conO_some hq)
  obtain ⟨h1, rfl⟩ := some_pair h0
  rw [hr]
  exact okO_spec h1
end
end Go.Proofs.YtpbpebjfglfjfaaGreatDoor.X
