/-
  The conditions of parameters.
-/
import Derived.Test.YtpbpebjfglfjfaaGreatDoorXY
set_option autoImplicit false
set_option linter.unusedVariables false
set_option linter.unusedSimpArgs false
set_option maxRecDepth 100000
namespace Go.Proofs.YtpbpebjfglfjfaaGreatDoor.X
open Go Go.Proofs Go.RowKit Go.Proofs.YtpbpebjfglfjfaaGreatDoor
noncomputable section
def Rhold (s : ByteArray) (ps : List Int) : Option (Res At) :=
  if eqB s { data := #[108, 105, 109, 105, 116] : ByteArray } = true then
   if 0 < (↑ps.length : Int) then
    if 1 < (↑ps.length : Int) then
     some ((.bool (decide (gt (Int.ofNat 0) ps (Int.toNat 0) ≤ gt (Int.ofNat 0) ps (Int.toNat 1)))), [])
    else
     none
   else
    none
  else
   if eqB s { data := #[112, 105, 100] : ByteArray } = true then
    if 2 < (↑ps.length : Int) then
     if 3 < (↑ps.length : Int) then
      some ((.bool (decide (gt (Int.ofNat 0) ps (Int.toNat 2) ≤ gt (Int.ofNat 0) ps (Int.toNat 3)))), [])
     else
      none
    else
     none
   else
    if eqB s { data := #[108, 105, 110, 101] : ByteArray } = true then
     if 0 < (↑ps.length : Int) then
      if 2 < (↑ps.length : Int) then
       some ((.bool (decide (gt (Int.ofNat 0) ps (Int.toNat 0) < gt (Int.ofNat 0) ps (Int.toNat 2)))), [])
      else
       none
     else
      none
    else
     if eqB s { data := #[104, 121, 115, 116] : ByteArray } = true then
      if 1 < (↑ps.length : Int) then
       if 0 < (↑ps.length : Int) then
        some ((.bool (decide (gt (Int.ofNat 0) ps (Int.toNat 1) < gt (Int.ofNat 0) ps (Int.toNat 0)))), [])
       else
        none
      else
       none
     else
      some ((.bool true), [])
theorem run_Rhold (s : ByteArray) (ps : List Int) : runF C0 60 124 [.str s, .ro 2 ps] = Rhold s ps := by kernel_rfl
def bLimit : ByteArray := ⟨#[108, 105, 109, 105, 116]⟩
def bPid : ByteArray := ⟨#[112, 105, 100]⟩
def bLine : ByteArray := ⟨#[108, 105, 110, 101]⟩
def bHyst : ByteArray := ⟨#[104, 121, 115, 116]⟩
def holdsN (s : ByteArray) : Nat := if eqB s bLimit = true then 2 else if eqB s bPid = true then 4 else if eqB s bLine = true then 3 else if eqB s bHyst = true then 2 else 0
def pg (ps : List Int) (i : Nat) : Int := gt (Int.ofNat 0) ps i
def holdsV (s : ByteArray) (ps : List Int) : Bool := if eqB s bLimit = true then decide (pg ps 0 ≤ pg ps 1) else if eqB s bPid = true then decide (pg ps 2 ≤ pg ps 3) else if eqB s bLine = true then decide (pg ps 0 < pg ps 2) else if eqB s bHyst = true then decide (pg ps 1 < pg ps 0) else true
def onSL {R : Type} (e : Nat) (F : ByteArray → List (At e) → Option R) (l : List VT) : Option R := match l with | [.str s, x] => (match roV e x with | some ps => F s ps | none => none) | _ => none
theorem onSL_spec {R : Type} {e : Nat} {F : ByteArray → List (At e) → Option R} {l : List VT} {r : R} (h : onSL e F l = some r) : ∃ s ps, l = [.str s, .ro e ps] ∧ F s ps = some r := by
  unfold onSL at h
  split at h
  · split at h
    · rename_i hx
      exact ⟨_, _, by rw [roV_spec hx], h⟩
    · cases h
  · cases h
def conHolds : CON := onSL 2 fun s (ps : List Int) => some (Nat.ble (holdsN s) ps.length, (.bool (holdsV s ps), []))
theorem Rhold_eq (s : ByteArray) (ps : List Int) (hc : holdsN s ≤ ps.length) : Rhold s ps = some (.bool (holdsV s ps), []) := by
  unfold Rhold holdsV
  unfold holdsN at hc
  by_cases h1 : eqB s bLimit = true
  · simp only [if_pos h1] at hc ⊢
    rw [if_pos (show eqB s { data := #[108, 105, 109, 105, 116] } = true from h1), if_pos (show (0 : Int) < (ps.length : Int) by omega), if_pos (show (1 : Int) < (ps.length : Int) by omega)]; rfl
  · simp only [if_neg h1] at hc ⊢
    rw [if_neg (show ¬ eqB s { data := #[108, 105, 109, 105, 116] } = true from h1)]
    by_cases h2 : eqB s bPid = true
    · simp only [if_pos h2] at hc ⊢
      rw [if_pos (show eqB s { data := #[112, 105, 100] } = true from h2), if_pos (show (2 : Int) < (ps.length : Int) by omega), if_pos (show (3 : Int) < (ps.length : Int) by omega)]; rfl
    · simp only [if_neg h2] at hc ⊢
      rw [if_neg (show ¬ eqB s { data := #[112, 105, 100] } = true from h2)]
      by_cases h3 : eqB s bLine = true
      · simp only [if_pos h3] at hc ⊢
        rw [if_pos (show eqB s { data := #[108, 105, 110, 101] } = true from h3), if_pos (show (0 : Int) < (ps.length : Int) by omega), if_pos (show (2 : Int) < (ps.length : Int) by omega)]; rfl
      · simp only [if_neg h3] at hc ⊢
        rw [if_neg (show ¬ eqB s { data := #[108, 105, 110, 101] } = true from h3)]
        by_cases h4 : eqB s bHyst = true
        · simp only [if_pos h4] at hc ⊢
          rw [if_pos (show eqB s { data := #[104, 121, 115, 116] } = true from h4), if_pos (show (1 : Int) < (ps.length : Int) by omega), if_pos (show (0 : Int) < (ps.length : Int) by omega)]; rfl
        · simp only [if_neg h4] at hc ⊢
          rw [if_neg (show ¬ eqB s { data := #[104, 121, 115, 116] } = true from h4)]
theorem okHolds : OK 124 conHolds := ok_run C0_ok (by kernel_rfl) fun l r h => by
  replace h := onSL_spec h
  obtain ⟨s, ps, rfl, h⟩ := h
  obtain ⟨hc, rfl⟩ := some_pair h
  exact ⟨60, (run_Rhold s ps).trans (Rhold_eq s ps (Nat.le_of_ble_eq_true hc))⟩
end
end Go.Proofs.YtpbpebjfglfjfaaGreatDoor.X
/-! Params: finding a bound by its name; the conditions, of the reference. -/
namespace Go.Proofs.YtpbpebjfglfjfaaGreatDoor.X
open Go Go.Proofs Go.RowKit Go.Proofs.YtpbpebjfglfjfaaGreatDoor
noncomputable section
def libP : List (Nat × CON) := (124, conHolds) :: lib3
theorem libP_ok : AllOK libP := .cons okHolds lib3_ok
/-! loops' counters -/
theorem cnt {j n : Nat} (h : j < n) (hn : n ≤ 9223372036854775807) : IntKind.i64.wrap ((j : Int) + 1) = ((j + 1 : Nat) : Int) := wrap_small (by omega) (by omega)
theorem lt1 {j n : Nat} (h : j < n) : decide ((j : Int) < (n : Int)) = true := by simp; omega
theorem lt2 {j n : Nat} (h : j < n) : (j : Int) < (n : Int) := by omega
theorem lt0 {j : Nat} : 0 ≤ (j : Int) := by omega
theorem lt3 {n : Nat} : ¬ decide ((n : Int) < (n : Int)) = true := by simp
theorem gtj {α : Type} (d : α) (l : List α) (j : Nat) (h : j < l.length) : gt d l (j : Int).toNat = l[j] := by rw [Int.toNat_natCast, gt_at _ _ _ h]
/-! what comes out of a run, by its shape -/
def isR (o : Option (Res At)) : Bool := match o with | some _ => true | none => false
theorem sh_ite (f : Option (Res At) → Bool) {c : Prop} [Decidable c] {a b : Option (Res At)} (ha : f a = true) (hb : f b = true) : f (if c then a else b) = true := by
  by_cases h : c
  · rw [if_pos h]; exact ha
  · rw [if_neg h]; exact hb
def shBo (o : Option (Res At)) : Bool := match o with | some (.bool _, []) => true | none => true | _ => false
def gBo (o : Option (Res At)) : Bool := match o with | some (.bool b, []) => b | _ => false
theorem of_shBo {o : Option (Res At)} (h : shBo o = true) (hi : isR o = true) : o = some (.bool (gBo o), []) := by
  unfold shBo at h
  split at h
  · rfl
  · cases hi
  · cases h
/-! the index of a name -/
def stpI (s : ByteArray) (j : Nat) (b : GBound) : Nat ⊕ Nat := if eqB b.name s = true then .inr j else .inl (j + 1)
def endI (o : Nat ⊕ Nat) : Int := match o with | .inl _ => -1 | .inr j => (j : Int)
def resI (o : Nat ⊕ Nat) : Option (Res At) := match o with | .inl _ => some (.int .i64 (-1), []) | .inr j => some (.int .i64 (j : Int), [])
theorem resI_eq (o : Nat ⊕ Nat) : resI o = some (.int .i64 (endI o), []) := by cases o <;> rfl
def idxB (s : ByteArray) (l : List GBound) : Int := endI (scanL (stpI s) 0 l)
structure Kixf where
  bs : List GBound
  x : GParam
  res : Int
  n : Int
  i : Int
structure Eixf where
  res : Int
def Sixf (k : Kixf) : St At := { env := [(0, .ro 155 k.bs), (1, .fn 123 [.rel (enc93 k.x)]), (4, .int .i64 k.res), (7, .int .i64 k.n), (8, .int .i64 k.i)], stk := [], hp := [], nx := 0 }
def Xixf (k : Eixf) : St At := { env := [(4, .int .i64 k.res)], stk := [], hp := [], nx := 0 }
def Cixf : Cfg := { cs := libP, ks := [((122, 2), [(0, none), (1, none), (4, none), (7, none), (8, none)])], xs := [((122, 2), [(4, none)])], lps := [] }
theorem Cixf_ok : CfgOK Cixf := { con := libP_ok }
def stixf {α : Type} (k : Kixf) (go : Kixf → α) (ex ret : Eixf → α) (no : α) : α :=
  if decide (k.i < k.n) = true then
   if 0 ≤ k.i then
    if k.i < (↑k.bs.length : Int) then
     if eqB (gt { name := { data := #[] : ByteArray }, lo := 0, hi := 0, default_ := 0 : GBound } k.bs k.i.toNat).name k.x.name = true then
      ret ⟨(k.i)⟩
     else
      go ⟨(k.bs), (k.x), (k.res), (k.n), (IntKind.i64.wrap (k.i + 1))⟩
    else
     no
   else
    no
  else
   ex ⟨(k.res)⟩
def stepixf (k : Kixf) : Nx Kixf Eixf := stixf k .go .ex .ret .no
theorem Bixf (k : Kixf) (m : Nat) (R : St At → Option (Res At)) (K : Xit → St At → Option (Res At)) : B Cixf 122 2 (m + 60) (Sixf k) R K = stixf k (fun k => R (Sixf k)) (fun x => K (.ex 0) (Xixf x)) (fun x => K .ret (Xixf x)) none := by kernel_rfl
def uixf (st : St At) : Option Kixf := match st with
  | ⟨[(0, vbs), (1, .fn 123 [.rel wx]), (4, .int .i64 res), (7, .int .i64 n), (8, .int .i64 i)], [], [], 0⟩ => (match roV 155 vbs, ex93 wx with | some bs, some x => some ⟨bs, x, res, n, i⟩ | _, _ => none)
  | _ => none
theorem uixf_spec {st : St At} {k : Kixf} (h : uixf st = some k) : st = Sixf k := by
  unfold uixf at h
  split at h
  · split at h
    · rename_i h0 h1
      obtain rfl := Option.some.inj h
      rw [roV_spec h0, ex93_spec h1]
      rfl
    · cases h
  · cases h
theorem oklixf {g : LP} (hg : ∀ st K q, g st K = some q → ∃ k n e, st = Sixf k ∧ iter stepixf n k = some e ∧ e.k 0 Xixf Xixf K = some q) : OKL 122 2 g := okl_iter Cixf_ok (S := Sixf) (X := Xixf) (Y := Xixf) (step := stepixf) (id := 0) (by kernel_rfl) (by kernel_rfl)
  (fun k m R K => by rw [Bixf]; unfold stepixf stixf; simp only [Nx.k_ite]; rfl) (fun k => by kernel_rfl) hg
/-- the contract out of a closed form -/
theorem okfixf {g : LP} {fuel : Kixf → Nat} {ok : Kixf → Bool} {F : Kixf → Fx Eixf} (hF : ∀ k, ok k = true → iter stepixf (fuel k) k = some (F k)) (hg : ∀ st K, g st K = (match uixf st with | some k => if ok k = true then (F k).k 0 Xixf Xixf K else none | none => none)) : OKL 122 2 g := oklixf fun st K q h => by
  rw [hg] at h
  split at h
  · rename_i k hu
    split at h
    · rename_i hok; exact ⟨k, _, _, uixf_spec hu, hF k hok, h⟩
    · cases h
  · cases h
structure Krix where
  s : ByteArray
  d : GDescriptor
  res : Int
  i : Int
structure Erix where
  res : Int
def Srix (k : Krix) : St At := { env := [(1, .str k.s), (2, .ptr 0 0), (4, .int .i64 k.res), (5, .int .i64 k.i)], stk := [], hp := [(0, .var (enc150 k.d) false)], nx := 1 }
def Xrix (k : Erix) : St At := { env := [(4, .int .i64 k.res)], stk := [], hp := [], nx := 0 }
def Crix : Cfg := { cs := libP, ks := [((127, 2), [(1, none), (2, none), (4, none), (5, none)])], xs := [((127, 2), [(4, none)])], lps := [] }
theorem Crix_ok : CfgOK Crix := { con := libP_ok }
def strix {α : Type} (k : Krix) (go : Krix → α) (ex ret : Erix → α) (no : α) : α :=
  if decide (k.i < (↑k.d.params.length : Int)) = true then
   if 0 ≤ k.i then
    if k.i < (↑k.d.params.length : Int) then
     if eqB (gt { name := { data := #[] : ByteArray }, lo := 0, hi := 0, default_ := 0 : GBound } k.d.params k.i.toNat).name k.s = true then
      ret ⟨(k.i)⟩
     else
      go ⟨(k.s), (k.d), (k.res), (IntKind.i64.wrap (k.i + 1))⟩
    else
     no
   else
    no
  else
   ex ⟨(k.res)⟩
def steprix (k : Krix) : Nx Krix Erix := strix k .go .ex .ret .no
theorem Brix (k : Krix) (m : Nat) (R : St At → Option (Res At)) (K : Xit → St At → Option (Res At)) : B Crix 127 2 (m + 60) (Srix k) R K = strix k (fun k => R (Srix k)) (fun x => K (.ex 0) (Xrix x)) (fun x => K .ret (Xrix x)) none := by kernel_rfl
def urix (st : St At) : Option Krix := match st with
  | ⟨[(1, .str s), (2, .ptr 0 0), (4, .int .i64 res), (5, .int .i64 i)], [], [(0, .var wd false)], 1⟩ => (match ex150 wd with | some d => some ⟨s, d, res, i⟩ | _ => none)
  | _ => none
theorem urix_spec {st : St At} {k : Krix} (h : urix st = some k) : st = Srix k := by
  unfold urix at h
  split at h
  · split at h
    · rename_i h0
      obtain rfl := Option.some.inj h
      rw [ex150_spec h0]
      rfl
    · cases h
  · cases h
theorem oklrix {g : LP} (hg : ∀ st K q, g st K = some q → ∃ k n e, st = Srix k ∧ iter steprix n k = some e ∧ e.k 0 Xrix Xrix K = some q) : OKL 127 2 g := okl_iter Crix_ok (S := Srix) (X := Xrix) (Y := Xrix) (step := steprix) (id := 0) (by kernel_rfl) (by kernel_rfl)
  (fun k m R K => by rw [Brix]; unfold steprix strix; simp only [Nx.k_ite]; rfl) (fun k => by kernel_rfl) hg
/-- the contract out of a closed form -/
theorem okfrix {g : LP} {fuel : Krix → Nat} {ok : Krix → Bool} {F : Krix → Fx Erix} (hF : ∀ k, ok k = true → iter steprix (fuel k) k = some (F k)) (hg : ∀ st K, g st K = (match urix st with | some k => if ok k = true then (F k).k 0 Xrix Xrix K else none | none => none)) : OKL 127 2 g := oklrix fun st K q h => by
  rw [hg] at h
  split at h
  · rename_i k hu
    split at h
    · rename_i hok; exact ⟨k, _, _, urix_spec hu, hF k hok, h⟩
    · cases h
  · cases h
def okixf (k : Kixf) : Bool := decide (k.i = 0) && (decide (k.n = (k.bs.length : Int)) && Nat.ble k.bs.length 9223372036854775807)
def Fixf (k : Kixf) : Fx Eixf := match scanL (stpI k.x.name) 0 k.bs with | .inl _ => .ex ⟨k.res⟩ | .inr j => .ret ⟨(j : Int)⟩
theorem iixf (k : Kixf) (h : okixf k = true) : iter stepixf k.bs.length k = some (Fixf k) := by
  unfold okixf at h
  simp only [Bool.and_eq_true, decide_eq_true_eq] at h
  obtain ⟨h0, h1, h2⟩ := h
  replace h2 := Nat.le_of_ble_eq_true h2
  obtain ⟨bs, x, res, n, i⟩ := k
  dsimp only at h0 h1 h2
  subst h0; subst h1
  have := iter_scan (step := stepixf) bs (fun (_ : Nat) j => (⟨bs, x, res, (bs.length : Int), (j : Int)⟩ : Kixf)) (stpI x.name) (fun _ => (⟨res⟩ : Eixf)) (fun j => (⟨(j : Int)⟩ : Eixf)) (fun b j => b = j)
    (fun b j h hb => by
      subst hb
      have hs : stepixf ⟨bs, x, res, (bs.length : Int), (b : Int)⟩ = if eqB (bs[b]).name x.name = true then .ret ⟨(b : Int)⟩ else .go ⟨bs, x, res, (bs.length : Int), ((b + 1 : Nat) : Int)⟩ := by
        unfold stepixf stixf
        dsimp only
        rw [cnt h h2, gtj _ _ _ h, if_pos (lt1 h)]
        simp only [if_pos (lt0 (j := b)), if_pos (lt2 h)]
      unfold stpI
      rw [hs]
      by_cases hc : eqB (bs[b]).name x.name = true
      · rw [if_pos hc, if_pos hc]
        exact ⟨fun b' hb => (by cases hb), fun y hy => (by cases hy; rfl)⟩
      · rw [if_neg hc, if_neg hc]
        exact ⟨fun b' hb => (by cases hb; exact ⟨rfl, rfl⟩), fun y hy => (by cases hy)⟩) (fun b _ => by unfold stepixf stixf; dsimp only; rw [if_neg lt3]) bs.length 0 0 (by omega) rfl
  rw [List.drop_zero] at this
  refine this.trans ?_
  unfold Fixf
  dsimp only
  cases scanL (stpI x.name) 0 bs <;> rfl
def gixf : LP := fun st K => match uixf st with | some k => if okixf k = true then (Fixf k).k 0 Xixf Xixf K else none | none => none
theorem okgixf : OKL 122 2 gixf := okfixf (fuel := fun k => k.bs.length) (ok := okixf) (F := Fixf) iixf fun st K => rfl
def okrix (k : Krix) : Bool := decide (k.i = 0) && Nat.ble k.d.params.length 9223372036854775807
def Frix (k : Krix) : Fx Erix := match scanL (stpI k.s) 0 k.d.params with | .inl _ => .ex ⟨k.res⟩ | .inr j => .ret ⟨(j : Int)⟩
theorem irix (k : Krix) (h : okrix k = true) : iter steprix k.d.params.length k = some (Frix k) := by
  unfold okrix at h
  simp only [Bool.and_eq_true, decide_eq_true_eq] at h
  obtain ⟨h0, h2⟩ := h
  replace h2 := Nat.le_of_ble_eq_true h2
  obtain ⟨s, d, res, i⟩ := k
  dsimp only at h0 h2
  subst h0
  have := iter_scan (step := steprix) d.params (fun (_ : Nat) j => (⟨s, d, res, (j : Int)⟩ : Krix)) (stpI s) (fun _ => (⟨res⟩ : Erix)) (fun j => (⟨(j : Int)⟩ : Erix)) (fun b j => b = j)
    (fun b j h hb => by
      subst hb
      have hs : steprix ⟨s, d, res, (b : Int)⟩ = if eqB (d.params[b]).name s = true then .ret ⟨(b : Int)⟩ else .go ⟨s, d, res, ((b + 1 : Nat) : Int)⟩ := by
        unfold steprix strix
        dsimp only
        rw [cnt h h2, gtj _ _ _ h, if_pos (lt1 h)]
        simp only [if_pos (lt0 (j := b)), if_pos (lt2 h)]
      unfold stpI
      rw [hs]
      by_cases hc : eqB (d.params[b]).name s = true
      · rw [if_pos hc, if_pos hc]
        exact ⟨fun b' hb => (by cases hb), fun y hy => (by cases hy; rfl)⟩
      · rw [if_neg hc, if_neg hc]
        exact ⟨fun b' hb => (by cases hb; exact ⟨rfl, rfl⟩), fun y hy => (by cases hy)⟩) (fun b _ => by unfold steprix strix; dsimp only; rw [if_neg lt3]) d.params.length 0 0 (by omega) rfl
  rw [List.drop_zero] at this
  refine this.trans ?_
  unfold Frix
  dsimp only
  cases scanL (stpI s) 0 d.params <;> rfl
def grix : LP := fun st K => match urix st with | some k => if okrix k = true then (Frix k).k 0 Xrix Xrix K else none | none => none
theorem okgrix : OKL 127 2 grix := okfrix (fuel := fun k => k.d.params.length) (ok := okrix) (F := Frix) irix fun st K => rfl
def CP1 : Cfg := { cs := libP, ks := Cixf.ks ++ Crix.ks, xs := Cixf.xs ++ Crix.xs, lps := [((122, 2), gixf), ((127, 2), grix)] }
theorem CP1_ok : CfgOK CP1 := { con := libP_ok, lp := .cons okgixf (.cons okgrix .nil) }
theorem run_ixf (l : List GBound) (x : GParam) : runF CP1 60 122 [.ro 155 l, .fn 123 [.rel (enc93 x)]] = (if okixf ⟨l, x, 0, (l.length : Int), 0⟩ = true then resI (scanL (stpI x.name) 0 l) else none : Option (Res At)) := by
  have h : runF CP1 60 122 [.ro 155 l, .fn 123 [.rel (enc93 x)]] = (if okixf ⟨l, x, 0, (l.length : Int), 0⟩ = true then (match Fixf ⟨l, x, 0, (l.length : Int), 0⟩ with | .ex _ => some (.int .i64 (-1), []) | .ret e => some (.int .i64 e.res, [])) else none : Option (Res At)) := by kernel_rfl
  rw [h]
  unfold Fixf
  dsimp only
  cases scanL (stpI x.name) 0 l <;> rfl
theorem run_rix (d : GDescriptor) (s : ByteArray) : runF CP1 60 127 [.agg (enc150 d), .str s] = (if okrix ⟨s, d, 0, 0⟩ = true then resI (scanL (stpI s) 0 d.params) else none : Option (Res At)) := by
  have h : runF CP1 60 127 [.agg (enc150 d), .str s] = (if okrix ⟨s, d, 0, 0⟩ = true then (match Frix ⟨s, d, 0, 0⟩ with | .ex _ => some (.int .i64 (-1), []) | .ret e => some (.int .i64 e.res, [])) else none : Option (Res At)) := by kernel_rfl
  rw [h]
  unfold Frix
  dsimp only
  cases scanL (stpI s) 0 d.params <;> rfl
def lenB (l : List GBound) : Bool := Nat.ble l.length 9223372036854775807
def onIx {R : Type} (F : List GBound → GParam → Option R) (l : List VT) : Option R := match l with | [x, .fn f [.rel c]] => (match roV 155 x, ex93 c, Nat.beq f 123 with | some a, some b, true => F a b | _, _, _ => none) | _ => none
theorem onIx_spec {R : Type} {F : List GBound → GParam → Option R} {l : List VT} {r : R} (h : onIx F l = some r) : ∃ a b, l = [.ro 155 a, .fn 123 [.rel (enc93 b)]] ∧ F a b = some r := by
  unfold onIx at h
  split at h
  · split at h
    · rename_i hx hc hf
      exact ⟨_, _, by rw [roV_spec hx, ex93_spec hc, Nat.eq_of_beq_eq_true hf], h⟩
    · cases h
  · cases h
def conIxf : CON := onIx fun l x => some (lenB l, (.int .i64 (idxB x.name l), []))
theorem okixf_of (a : List GBound) (b : GParam) (hc : lenB a = true) : okixf ⟨a, b, 0, (a.length : Int), 0⟩ = true := by unfold okixf; unfold lenB at hc; rw [hc]; simp
theorem okIxf : OK 122 conIxf := ok_run CP1_ok (by kernel_rfl) fun l r h => by
  replace h := onIx_spec h
  obtain ⟨a, b, rfl, h⟩ := h
  obtain ⟨hc, rfl⟩ := some_pair h
  exact ⟨60, (run_ixf a b).trans ((if_pos (okixf_of a b hc)).trans (resI_eq _))⟩
def onDS {R : Type} (F : GDescriptor → ByteArray → Option R) (l : List VT) : Option R := match l with | [x, .str s] => (match ag150 x with | some a => F a s | none => none) | _ => none
theorem onDS_spec {R : Type} {F : GDescriptor → ByteArray → Option R} {l : List VT} {r : R} (h : onDS F l = some r) : ∃ a s, l = [.agg (enc150 a), .str s] ∧ F a s = some r := by
  unfold onDS at h
  split at h
  · split at h
    · rename_i hx
      exact ⟨_, _, by rw [ag150_spec hx], h⟩
    · cases h
  · cases h
def conRix : CON := onDS fun d s => some (lenB d.params, (.int .i64 (idxB s d.params), []))
theorem okrix_of (b : ByteArray) (a : GDescriptor) (hc : lenB a.params = true) : okrix ⟨b, a, 0, 0⟩ = true := by unfold okrix; unfold lenB at hc; rw [hc]; simp
theorem okRix : OK 127 conRix := ok_run CP1_ok (by kernel_rfl) fun l r h => by
  replace h := onDS_spec h
  obtain ⟨a, b, rfl, h⟩ := h
  obtain ⟨hc, rfl⟩ := some_pair h
  exact ⟨60, (run_rix a b).trans ((if_pos (okrix_of b a hc)).trans (resI_eq _))⟩
def libP1 : List (Nat × CON) := (122, conIxf) :: (127, conRix) :: libP
theorem libP1_ok : AllOK libP1 := .cons okIxf (.cons okRix libP_ok)
def CP2 : Cfg := { cs := libP1 }
theorem CP2_ok : CfgOK CP2 := { con := libP1_ok }
/-! index, as the program calls it -/
theorem run_idx (x : GParam) (d : GDescriptor) : runF CP2 60 121 [.agg (enc93 x), .rel (enc150 d)] = (if lenB d.params = true then some (.int .i64 (idxB x.name d.params), []) else none : Option (Res At)) := by kernel_rfl
def onXD {R : Type} (F : GParam → GDescriptor → Option R) (l : List VT) : Option R := match l with | [x, .rel c] => (match ag93 x, ex150 c with | some a, some b => F a b | _, _ => none) | _ => none
theorem onXD_spec {R : Type} {F : GParam → GDescriptor → Option R} {l : List VT} {r : R} (h : onXD F l = some r) : ∃ a b, l = [.agg (enc93 a), .rel (enc150 b)] ∧ F a b = some r := by
  unfold onXD at h
  split at h
  · split at h
    · rename_i hx hc
      exact ⟨_, _, by rw [ag93_spec hx, ex150_spec hc], h⟩
    · cases h
  · cases h
def conIdx : CON := onXD fun x d => some (lenB d.params, (.int .i64 (idxB x.name d.params), []))
theorem okIdx : OK 121 conIdx := ok_run CP2_ok (by kernel_rfl) fun l r h => by
  replace h := onXD_spec h
  obtain ⟨a, b, rfl, h⟩ := h
  obtain ⟨hc, rfl⟩ := some_pair h
  refine ⟨60, (run_idx a b).trans (if_pos hc)⟩
/-! value -/
def valR (d : GDescriptor) (ps : List Int) (s : ByteArray) : Int := match decide (idxB s d.params ≥ 0) with | true => gt (Int.ofNat 0) ps (idxB s d.params).toNat | false => 0
def valC (d : GDescriptor) (ps : List Int) (s : ByteArray) : Bool := match lenB d.params with | true => (match decide (idxB s d.params ≥ 0) with | true => decide (idxB s d.params < (ps.length : Int)) | false => true) | false => false
theorem run_val (d : GDescriptor) (ps : List Int) (s : ByteArray) : runF CP2 60 158 [.agg (enc150 d), .ro 2 ps, .str s] = (if lenB d.params = true then if decide (idxB s d.params ≥ 0) = true then if 0 ≤ idxB s d.params then if idxB s d.params < (ps.length : Int) then some (.int .i64 (gt (Int.ofNat 0) ps (idxB s d.params).toNat), []) else none else none else some (.int .i64 0, []) else none : Option (Res At)) := by kernel_rfl
def onDLS {R : Type} (F : GDescriptor → List Int → ByteArray → Option R) (l : List VT) : Option R := match l with | [x, y, .str s] => (match ag150 x, roV 2 y with | some a, some b => F a b s | _, _ => none) | _ => none
theorem onDLS_spec {R : Type} {F : GDescriptor → List Int → ByteArray → Option R} {l : List VT} {r : R} (h : onDLS F l = some r) : ∃ (a : GDescriptor) (b : List Int) (s : ByteArray), l = [.agg (enc150 a), .ro 2 b, .str s] ∧ F a b s = some r := by
  unfold onDLS at h
  split at h
  · split at h
    · rename_i hx hy
      exact ⟨_, _, _, by rw [ag150_spec hx, roV_spec hy], h⟩
    · cases h
  · cases h
def conVal : CON := onDLS fun d ps s => some (valC d ps s, (.int .i64 (valR d ps s), []))
theorem val_eq (d : GDescriptor) (ps : List Int) (s : ByteArray) (hc : valC d ps s = true) : (if lenB d.params = true then if decide (idxB s d.params ≥ 0) = true then if 0 ≤ idxB s d.params then if idxB s d.params < (ps.length : Int) then some (.int .i64 (gt (Int.ofNat 0) ps (idxB s d.params).toNat), []) else none else none else some (.int .i64 0, []) else none : Option (Res At)) = some (.int .i64 (valR d ps s), []) := by
  unfold valC at hc
  unfold valR
  cases hl : lenB d.params with
  | false => rw [hl] at hc; cases hc
  | true =>
    rw [hl] at hc
    dsimp only at hc
    rw [if_pos rfl]
    by_cases hi : idxB s d.params ≥ 0
    · rw [decide_eq_true hi] at hc ⊢
      rw [if_pos rfl, if_pos hi, if_pos (of_decide_eq_true hc)]
    · rw [decide_eq_false hi]; rfl
theorem okVal : OK 158 conVal := ok_run CP2_ok (by kernel_rfl) fun l r h => by
  replace h := onDLS_spec h
  obtain ⟨a, b, s, rfl, h⟩ := h
  obtain ⟨hc, rfl⟩ := some_pair h
  exact ⟨60, (run_val a b s).trans (val_eq a b s hc)⟩
def libP2 : List (Nat × CON) := (121, conIdx) :: (158, conVal) :: libP1
theorem libP2_ok : AllOK libP2 := .cons okIdx (.cons okVal libP1_ok)
def CP3 : Cfg := { cs := libP2 }
theorem CP3_ok : CfgOK CP3 := { con := libP2_ok }
def RholdR (d : GDescriptor) (ps : List Int) : Option (Res At) :=
  if eqB d.name { data := #[108, 105, 109, 105, 116] : ByteArray } = true then
   if valC d ps { data := #[108, 111, 119] : ByteArray } = true then
    if valC d ps { data := #[104, 105, 103, 104] : ByteArray } = true then
     some ((.bool (decide (valR d ps { data := #[108, 111, 119] : ByteArray } ≤ valR d ps { data := #[104, 105, 103, 104] : ByteArray }))), [])
    else
     none
   else
    none
  else
   if eqB d.name { data := #[112, 105, 100] : ByteArray } = true then
    if valC d ps { data := #[108, 111, 119] : ByteArray } = true then
     if valC d ps { data := #[104, 105, 103, 104] : ByteArray } = true then
      some ((.bool (decide (valR d ps { data := #[108, 111, 119] : ByteArray } ≤ valR d ps { data := #[104, 105, 103, 104] : ByteArray }))), [])
     else
      none
    else
     none
   else
    if eqB d.name { data := #[108, 105, 110, 101] : ByteArray } = true then
     if valC d ps { data := #[120, 49] : ByteArray } = true then
      if valC d ps { data := #[120, 50] : ByteArray } = true then
       some ((.bool (decide (valR d ps { data := #[120, 49] : ByteArray } < valR d ps { data := #[120, 50] : ByteArray }))), [])
      else
       none
     else
      none
    else
     if eqB d.name { data := #[104, 121, 115, 116] : ByteArray } = true then
      if valC d ps { data := #[111, 102, 102] : ByteArray } = true then
       if valC d ps { data := #[111, 110] : ByteArray } = true then
        some ((.bool (decide (valR d ps { data := #[111, 102, 102] : ByteArray } < valR d ps { data := #[111, 110] : ByteArray }))), [])
       else
        none
      else
       none
     else
      some ((.bool true), [])
theorem run_RholdR (d : GDescriptor) (ps : List Int) : runF CP3 60 128 [.agg (enc150 d), .ro 2 ps] = RholdR d ps := by kernel_rfl
end
end Go.Proofs.YtpbpebjfglfjfaaGreatDoor.X
