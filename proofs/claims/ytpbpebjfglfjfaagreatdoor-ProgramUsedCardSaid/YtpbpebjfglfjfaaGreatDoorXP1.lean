/-
  The conditions of parameters.
-/
import Derived.Test.YtpbpebjfglfjfaaGreatDoorXY
set_option autoImplicit false
set_option linter.unusedVariables false
set_option linter.unusedSimpArgs false
set_option maxRecDepth 100000
namespace Go.Proofs.YtpbpebjfglfjfaaGreatDoor.X
open Go Go.Proofs Go.RowKit Go.Proofs.YtpbpebjfglfjfaaGreatDoor
noncomputable section
def Rhold (s : ByteArray) (ps : List Int) : Option (Res At) :=
  if eqB s { data := #[108, 105, 109, 105, 116] : ByteArray } = true then
   if 0 < (↑ps.length : Int) then
    if 1 < (↑ps.length : Int) then
     some ((.bool (decide (gt (Int.ofNat 0) ps (Int.toNat 0) ≤ gt (Int.ofNat 0) ps (Int.toNat 1)))), [])
    else
     none
   else
    none
  else
   if eqB s { data := #[112, 105, 100] : ByteArray } = true then
    if 2 < (↑ps.length : Int) then
     if 3 < (↑ps.length : Int) then
      some ((.bool (decide (gt (Int.ofNat 0) ps (Int.toNat 2) ≤ gt (Int.ofNat 0) ps (Int.toNat 3)))), [])
     else
      none
    else
     none
   else
    if eqB s { data := #[108, 105, 110, 101] : ByteArray } = true then
     if 0 < (↑ps.length : Int) then
      if 2 < (↑ps.length : Int) then
       some ((.bool (decide (gt (Int.ofNat 0) ps (Int.toNat 0) < gt (Int.ofNat 0) ps (Int.toNat 2)))), [])
      else
       none
     else
      none
    else
     if eqB s { data := #[104, 121, 115, 116] : ByteArray } = true then
      if 1 < (↑ps.length : Int) then
       if 0 < (↑ps.length : Int) then
        some ((.bool (decide (gt (Int.ofNat 0) ps (Int.toNat 1) < gt (Int.ofNat 0) ps (Int.toNat 0)))), [])
       else
        none
      else
       none
     else
      some ((.bool true), [])
theorem run_Rhold (s : ByteArray) (ps : List Int) : runF C0 60 124 [.str s, .ro 2 ps] = Rhold s ps := by kernel_rfl
def bLimit : ByteArray := ⟨#[108, 105, 109, 105, 116]⟩
def bPid : ByteArray := ⟨#[112, 105, 100]⟩
def bLine : ByteArray := ⟨#[108, 105, 110, 101]⟩
def bHyst : ByteArray := ⟨#[104, 121, 115, 116]⟩
def holdsN (s : ByteArray) : Nat := if eqB s bLimit = true then 2 else if eqB s bPid = true then 4 else if eqB s bLine = true then 3 else if eqB s bHyst = true then 2 else 0
def pg (ps : List Int) (i : Nat) : Int := gt (Int.ofNat 0) ps i
def holdsV (s : ByteArray) (ps : List Int) : Bool := if eqB s bLimit = true then decide (pg ps 0 ≤ pg ps 1) else if eqB s bPid = true then decide (pg ps 2 ≤ pg ps 3) else if eqB s bLine = true then decide (pg ps 0 < pg ps 2) else if eqB s bHyst = true then decide (pg ps 1 < pg ps 0) else true
def onSL {R : Type} (e : Nat) (F : ByteArray → List (At e) → Option R) (l : List VT) : Option R := match l with | [.str s, x] => (match roV e x with | some ps => F s ps | none => none) | _ => none
theorem onSL_spec {R : Type} {e : Nat} {F : ByteArray → List (At e) → Option R} {l : List VT} {r : R} (h : onSL e F l = some r) : ∃ s ps, l = [.str s, .ro e ps] ∧ F s ps = some r := by
  unfold onSL at h
  split at h
  · split at h
    · rename_i hx
      exact ⟨_, _, by rw [roV_spec hx], h⟩
    · cases h
  · cases h
def conHolds : CON := onSL 2 fun s (ps : List Int) => some (Nat.ble (holdsN s) ps.length, (.bool (holdsV s ps), []))
theorem Rhold_eq (s : ByteArray) (ps : List Int) (hc : holdsN s ≤ ps.length) : Rhold s ps = some (.bool (holdsV s ps), []) := by
  unfold Rhold holdsV
  unfold holdsN at hc
  by_cases h1 : eqB s bLimit = true
  · simp only [if_pos h1] at hc ⊢
    rw [if_pos (show eqB s { data := #[108, 105, 109, 105, 116] } = true from h1), if_pos (show (0 : Int) < (ps.length : Int) by omega), if_pos (show (1 : Int) < (ps.length : Int) by omega)]; rfl
  · simp only [if_neg h1] at hc ⊢
    rw [if_neg (show ¬ eqB s { data := #[108, 105, 109, 105, 116] } = true from h1)]
    by_cases h2 : eqB s bPid = true
    · simp only [if_pos h2] at hc ⊢
      rw [if_pos (show eqB s { data := #[112, 105, 100] } = true from h2), if_pos (show (2 : Int) < (ps.length : Int) by omega), if_pos (show (3 : Int) < (ps.length : Int) by omega)]; rfl
    · simp only [if_neg h2] at hc ⊢
      rw [if_neg (show ¬ eqB s { data := #[112, 105, 100] } = true from h2)]
      by_cases h3 : eqB s bLine = true
      · simp only [if_pos h3] at hc ⊢
        rw [if_pos (show eqB s { data := #[108, 105, 110, 101] } = true from h3), if_pos (show (0 : Int) < (ps.length : Int) by omega), if_pos (show (2 : Int) < (ps.length : Int) by omega)]; rfl
      · simp only [if_neg h3] at hc ⊢
        rw [if_neg (show ¬ eqB s { data := #[108, 105, 110, 101] } = true from h3)]
        by_cases h4 : eqB s bHyst = true
        · simp only [if_pos h4] at hc ⊢
          rw [if_pos (show eqB s { data := #[104, 121, 115, 116] } = true from h4), if_pos (show (1 : Int) < (ps.length : Int) by omega), if_pos (show (0 : Int) < (ps.length : Int) by omega)]; rfl
        · simp only [if_neg h4] at hc ⊢
          rw [if_neg (show ¬ eqB s { data := #[104, 121, 115, 116] } = true from h4)]
theorem okHolds : OK 124 conHolds := ok_run C0_ok (by kernel_rfl) fun l r h => by
  replace h := onSL_spec h
  obtain ⟨s, ps, rfl, h⟩ := h
  obtain ⟨hc, rfl⟩ := some_pair h
  exact ⟨60, (run_Rhold s ps).trans (Rhold_eq s ps (Nat.le_of_ble_eq_true hc))⟩
end
end Go.Proofs.YtpbpebjfglfjfaaGreatDoor.X
/-! Params: finding a bound by its name; the conditions, of the reference. -/
namespace Go.Proofs.YtpbpebjfglfjfaaGreatDoor.X
open Go Go.Proofs Go.RowKit Go.Proofs.YtpbpebjfglfjfaaGreatDoor
noncomputable section
def libP : List (Nat × CON) := (124, conHolds) :: lib3
theorem libP_ok : AllOK libP := .cons okHolds lib3_ok
theorem cnt {j n : Nat} (h : j < n) (hn : n ≤ 9223372036854775807) : IntKind.i64.wrap ((j : Int) + 1) = ((j + 1 : Nat) : Int) := wrap_small (by omega) (by omega)
theorem lt1 {j n : Nat} (h : j < n) : decide ((j : Int) < (n : Int)) = true := by simp; omega
theorem lt2 {j n : Nat} (h : j < n) : (j : Int) < (n : Int) := by omega
theorem lt0 {j : Nat} : 0 ≤ (j : Int) := by omega
theorem lt3 {n : Nat} : ¬ decide ((n : Int) < (n : Int)) = true := by simp
theorem gtj {α : Type} (d : α) (l : List α) (j : Nat) (h : j < l.length) : gt d l (j : Int).toNat = l[j] := by rw [Int.toNat_natCast, gt_at _ _ _ h]
def isR (o : Option (Res At)) : Bool := match o with | some _ => true | none => false
theorem sh_ite (f : Option (Res At) → Bool) {c : Prop} [Decidable c] {a b : Option (Res At)} (ha : f a = true) (hb : f b = true) : f (if c then a else b) = true := by
  by_cases h : c
  · rw [if_pos h]; exact ha
  · rw [if_neg h]; exact hb
def shBo (o : Option (Res At)) : Bool := match o with | some (.bool _, []) => true | none => true | _ => false
def gBo (o : Option (Res At)) : Bool := match o with | some (.bool b, []) => b | _ => false
theorem of_shBo {o : Option (Res At)} (h : shBo o = true) (hi : isR o = true) : o = some (.bool (gBo o), []) := by
  unfold shBo at h
  split at h
  · rfl
  · cases hi
  · cases h
def stpI (s : ByteArray) (j : Nat) (b : GBound) : Nat ⊕ Nat := if eqB b.name s = true then .inr j else .inl (j + 1)
def endI (o : Nat ⊕ Nat) : Int := match o with | .inl _ => -1 | .inr j => (j : Int)
def resI (o : Nat ⊕ Nat) : Option (Res At) := match o with | .inl _ => some (.int .i64 (-1), []) | .inr j => some (.int .i64 (j : Int), [])
theorem resI_eq (o : Nat ⊕ Nat) : resI o = some (.int .i64 (endI o), []) := by cases o <;> rfl
def idxB (s : ByteArray) (l : List GBound) : Int := endI (scanL (stpI s) 0 l)
structure Kixf where
  bs : List GBound
  x : GParam
  res : Int
  n : Int
  i : Int
structure Eixf where
  res : Int
def Sixf (k : Kixf) : St At := { env := [(0, .ro 155 k.bs), (1, .fn 123 [.rel (enc93 k.x)]), (4, .int .i64 k.res), (7, .int .i64 k.n), (8, .int .i64 k.i)], stk := [], hp := [], nx := 0 }
def Xixf (k : Eixf) : St At := { env := [(4, .int .i64 k.res)], stk := [], hp := [], nx := 0 }
def Cixf : Cfg := { cs := libP, ks := [((122, 2), [(0, none), (1, none), (4, none), (7, none), (8, none)])], xs := [((122, 2), [(4, none)])], lps := [] }
theorem Cixf_ok : CfgOK Cixf := { con := libP_ok }
def stixf {α : Type} (k : Kixf) (go : Kixf → α) (ex ret : Eixf → α) (no : α) : α :=
  if decide (k.i < k.n) = true then
   if 0 ≤ k.i then
    if k.i < (↑k.bs.length : Int) then
     if eqB (gt { name := { data := #[] : ByteArray }, lo := 0, hi := 0, default_ := 0 : GBound } k.bs k.i.toNat).name k.x.name = true then
      ret ⟨(k.i)⟩
     else
      go ⟨(k.bs), (k.x), (k.res), (k.n), (IntKind.i64.wrap (k.i + 1))⟩
    else
     no
   else
    no
  else
   ex ⟨(k.res)⟩
def stepixf (k : Kixf) : Nx Kixf Eixf := stixf k .go .ex .ret .no
theorem Bixf (k : Kixf) (m : Nat) (R : St At → Option (Res At)) (K : Xit → St At → Option (Res At)) : B Cixf 122 2 (m + 60) (Sixf k) R K = stixf k (fun k => R (Sixf k)) (fun x => K (.ex 0) (Xixf x)) (fun x => K .ret (Xixf x)) none := by kernel_rfl
def uixf (st : St At) : Option Kixf := match st with
  | ⟨[(0, vbs), (1, .fn 123 [.rel wx]), (4, .int .i64 res), (7, .int .i64 n), (8, .int .i64 i)], [], [], 0⟩ => (match roV 155 vbs, ex93 wx with | some bs, some x => some ⟨bs, x, res, n, i⟩ | _, _ => none)
  | _ => none
theorem uixf_spec {st : St At} {k : Kixf} (h : uixf st = some k) : st = Sixf k := by
  unfold uixf at h
  split at h
  · split at h
    · rename_i h0 h1
      obtain rfl := Option.some.inj h
      rw [roV_spec h0, ex93_spec h1]
      rfl
    · cases h
  · cases h
theorem oklixf {g : LP} (hg : ∀ st K q, g st K = some q → ∃ k n e, st = Sixf k ∧ iter stepixf n k = some e ∧ e.k 0 Xixf Xixf K = some q) : OKL 122 2 g := okl_iter Cixf_ok (S := Sixf) (X := Xixf) (Y := Xixf) (step := stepixf) (id := 0) (by kernel_rfl) (by kernel_rfl)
  (fun k m R K => by rw [Bixf]; unfold stepixf stixf; simp only [Nx.k_ite]; rfl) (fun k => by kernel_rfl) hg
theorem okfixf {g : LP} {fuel : Kixf → Nat} {ok : Kixf → Bool} {F : Kixf → Fx Eixf} (hF : ∀ k, ok k = true → iter stepixf (fuel k) k = some (F k)) (hg : ∀ st K, g st K = (match uixf st with | some k => if ok k = true then (F k).k 0 Xixf Xixf K else none | none => none)) : OKL 122 2 g := oklixf fun st K q h => by
  rw [hg] at h
  split at h
  · rename_i k hu
    split at h
    · rename_i hok; exact ⟨k, _, _, uixf_spec hu, hF k hok, h⟩
    · cases h
  · cases h
structure Krix where
  s : ByteArray
  d : GDescriptor
  res : Int
  i : Int
structure Erix where
  res : Int
def Srix (k : Krix) : St At := { env := [(1, .str k.s), (2, .ptr 0 0), (4, .int .i64 k.res), (5, .int .i64 k.i)], stk := [], hp := [(0, .var (enc150 k.d) false)], nx := 1 }
def Xrix (k : Erix) : St At := { env := [(4, .int .i64 k.res)], stk := [], hp := [], nx := 0 }
def Crix : Cfg := { cs := libP, ks := [((127, 2), [(1, none), (2, none), (4, none), (5, none)])], xs := [((127, 2), [(4, none)])], lps := [] }
theorem Crix_ok : CfgOK Crix := { con := libP_ok }
def strix {α : Type} (k : Krix) (go : Krix → α) (ex ret : Erix → α) (no : α) : α :=
  if decide (k.i < (↑k.d.params.length : Int)) = true then
   if 0 ≤ k.i then
    if k.i < (↑k.d.params.length : Int) then
     if eqB (gt { name := { data := #[] : ByteArray }, lo := 0, hi := 0, default_ := 0 : GBound } k.d.params k.i.toNat).name k.s = true then
      ret ⟨(k.i)⟩
     else
      go ⟨(k.s), (k.d), (k.res), (IntKind.i64.wrap (k.i + 1))⟩
    else
     no
   else
    no
  else
   ex ⟨(k.res)⟩
def steprix (k : Krix) : Nx Krix Erix := strix k .go .ex .ret .no
theorem Brix (k : Krix) (m : Nat) (R : St At → Option (Res At)) (K : Xit → St At → Option (Res At)) : B Crix 127 2 (m + 60) (Srix k) R K = strix k (fun k => R (Srix k)) (fun x => K (.ex 0) (Xrix x)) (fun x => K .ret (Xrix x)) none := by kernel_rfl
def urix (st : St At) : Option Krix := match st with
  | ⟨[(1, .str s), (2, .ptr 0 0), (4, .int .i64 res), (5, .int .i64 i)], [], [(0, .var wd false)], 1⟩ => (match ex150 wd with | some d => some ⟨s, d, res, i⟩ | _ => none)
  | _ => none
theorem urix_spec {st : St At} {k : Krix} (h : urix st = some k) : st = Srix k := by
  unfold urix at h
  split at h
  · split at h
    · rename_i h0
      obtain rfl := Option.some.inj h
      rw [ex150_spec h0]
      rfl
    · cases h
  · cases h
theorem oklrix {g : LP} (hg : ∀ st K q, g st K = some q → ∃ k n e, st = Srix k ∧ iter steprix n k = some e ∧ e.k 0 Xrix Xrix K = some q) : OKL 127 2 g := okl_iter Crix_ok (S := Srix) (X := Xrix) (Y := Xrix) (step := steprix) (id := 0) (by kernel_rfl) (by kernel_rfl)
  (fun k m R K => by rw [Brix]; unfold steprix strix; simp only [Nx.k_ite]; rfl) (fun k => by kernel_rfl) hg
theorem okfrix {g : LP} {fuel : Krix → Nat} {ok : Krix → Bool} {F : Krix → Fx Erix} (hF : ∀ k, ok k = true → iter steprix (fuel k) k = some (F k)) (hg : ∀ st K, g st K = (match urix st with | some k => if ok k = true then (F k).k 0 Xrix Xrix K else none | none => none)) : OKL 127 2 g := oklrix fun st K q h => by
  rw [hg] at h
  split at h
  · rename_i k hu
    split at h
    · rename_i hok; exact ⟨k, _, _, urix_spec hu, hF k hok, h⟩
    · cases h
  · cases h
def okixf (k : Kixf) : Bool := decide (k.i = 0) && (decide (k.n = (k.bs.length : Int)) && Nat.ble k.bs.length 9223372036854775807)
def Fixf (k : Kixf) : Fx Eixf := match scanL (stpI k.x.name) 0 k.bs with | .inl _ => .ex ⟨k.res⟩ | .inr j => .ret ⟨(j : Int)⟩
theorem iixf (k : Kixf) (h : okixf k = true) : iter stepixf k.bs.length k = some (Fixf k) := by
  unfold okixf at h
  simp only [Bool.and_eq_true, decide_eq_true_eq] at h
  obtain ⟨h0, h1, h2⟩ := h
  replace h2 := Nat.le_of_ble_eq_true h2
  obtain ⟨bs, x, res, n, i⟩ := k
  dsimp only at h0 h1 h2
  subst h0; subst h1
  have := iter_scan (step := stepixf) bs (fun (_ : Nat) j => (⟨bs, x, res, (bs.length : Int), (j : Int)⟩ : Kixf)) (stpI x.name) (fun _ => (⟨res⟩ : Eixf)) (fun j => (⟨(j : Int)⟩ : Eixf)) (fun b j => b = j)
    (fun b j h hb => by
      subst hb
      have hs : stepixf ⟨bs, x, res, (bs.length : Int), (b : Int)⟩ = if eqB (bs[b]).name x.name = true then .ret ⟨(b : Int)⟩ else .go ⟨bs, x, res, (bs.length : Int), ((b + 1 : Nat) : Int)⟩ := by
        unfold stepixf stixf
        dsimp only
        rw [cnt h h2, gtj _ _ _ h, if_pos (lt1 h)]
        simp only [if_pos (lt0 (j := b)), if_pos (lt2 h)]
      unfold stpI
      rw [hs]
      by_cases hc : eqB (bs[b]).name x.name = true
      · rw [if_pos hc, if_pos hc]
        exact ⟨fun b' hb => (by cases hb), fun y hy => (by cases hy; rfl)⟩
      · rw [if_neg hc, if_neg hc]
        exact ⟨fun b' hb => (by cases hb; exact ⟨rfl, rfl⟩), fun y hy => (by cases hy)⟩) (fun b _ => by unfold stepixf stixf; dsimp only; rw [if_neg lt3]) bs.length 0 0 (by omega) rfl
  rw [List.drop_zero] at this
  refine this.trans ?_
  unfold Fixf
  dsimp only
  cases scanL (stpI x.name) 0 bs <;> rfl
def gixf : LP := fun st K => match uixf st with | some k => if okixf k = true then (Fixf k).k 0 Xixf Xixf K else none | none => none
theorem okgixf : OKL 122 2 gixf := okfixf (fuel := fun k => k.bs.length) (ok := okixf) (F := Fixf) iixf fun st K => rfl
def okrix (k : Krix) : Bool := decide (k.i = 0) && Nat.ble k.d.params.length 9223372036854775807
def Frix (k : Krix) : Fx Erix := match scanL (stpI k.s) 0 k.d.params with | .inl _ => .ex ⟨k.res⟩ | .inr j => .ret ⟨(j : Int)⟩
theorem irix (k : Krix) (h : okrix k = true) : iter steprix k.d.params.length k = some (Frix k) := by
  unfold okrix at h
  simp only [Bool.and_eq_true, decide_eq_true_eq] at h
  obtain ⟨h0, h2⟩ := h
  replace h2 := Nat.le_of_ble_eq_true h2
  obtain ⟨s, d, res, i⟩ := k
  dsimp only at h0 h2
  subst h0
  have := iter_scan (step := steprix) d.params (fun (_ : Nat) j => (⟨s, d, res, (j : Int)⟩ : Krix)) (stpI s) (fun _ => (⟨res⟩ : Erix)) (fun j => (⟨(j : Int)⟩ : Erix)) (fun b j => b = j)
    (fun b j h hb => by
      subst hb
      have hs : steprix ⟨s, d, res, (b : Int)⟩ = if eqB (d.params[b]).name s = true then .ret ⟨(b : Int)⟩ else .go ⟨s, d, res, ((b + 1 : Nat) : Int)⟩ := by
        unfold steprix strix
        dsimp only
        rw [cnt h h2, gtj _ _ _ h, if_pos (lt1 h)]
        simp only [if_pos (lt0 (j := b)), if_pos (lt2 h)]
      unfold stpI
      rw [hs]
      by_cases hc : eqB (d.params[b]).name s = true
      · rw [if_pos hc, if_pos hc]
        exact ⟨fun b' hb => (by cases hb), fun y hy => (by cases hy; rfl)⟩
      · rw [if_neg hc, if_neg hc]
        exact ⟨fun b' hb => (by cases hb; exact ⟨rfl, rfl⟩), fun y hy => (by cases hy)⟩) (fun b _ => by unfold steprix strix; dsimp only; rw [if_neg lt3]) d.params.length 0 0 (by omega) rfl
  rw [List.drop_zero] at this
  refine this.trans ?_
  unfold Frix
  dsimp only
  cases scanL (stpI s) 0 d.params <;> rfl
def grix : LP := fun st K => match urix st with | some k => if okrix k = true then (Frix k).k 0 Xrix Xrix K else none | none => none
theorem okgrix : OKL 127 2 grix := okfrix (fuel := fun k => k.d.params.length) (ok := okrix) (F := Frix) irix fun st K => rfl
def CP1 : Cfg := { cs := libP, ks := Cixf.ks ++ Crix.ks, xs := Cixf.xs ++ Crix.xs, lps := [((122, 2), gixf), ((127, 2), grix)] }
theorem CP1_ok : CfgOK CP1 := { con := libP_ok, lp := .cons okgixf (.cons okgrix .nil) }
theorem run_ixf (l : List GBound) (x : GParam) : runF CP1 60 122 [.ro 155 l, .fn 123 [.rel (enc93 x)]] = (if okixf ⟨l, x, 0, (l.length : Int), 0⟩ = true then resI (scanL (stpI x.name) 0 l) else none : Option (Res At)) := by
  have h : runF CP1 60 122 [.ro 155 l, .fn 123 [.rel (enc93 x)]] = (if okixf ⟨l, x, 0, (l.length : Int), 0⟩ = true then (match Fixf ⟨l, x, 0, (l.length : Int), 0⟩ with | .ex _ => some (.int .i64 (-1), []) | .ret e => some (.int .i64 e.res, [])) else none : Option (Res At)) := by kernel_rfl
  rw [h]
  unfold Fixf
  dsimp only
  cases scanL (stpI x.name) 0 l <;> rfl
theorem run_rix (d : GDescriptor) (s : ByteArray) : runF CP1 60 127 [.agg (enc150 d), .str s] = (if okrix ⟨s, d, 0, 0⟩ = true then resI (scanL (stpI s) 0 d.params) else none : Option (Res At)) := by
  have h : runF CP1 60 127 [.agg (enc150 d), .str s] = (if okrix ⟨s, d, 0, 0⟩ = true then (match Frix ⟨s, d, 0, 0⟩ with | .ex _ => some (.int .i64 (-1), []) | .ret e => some (.int .i64 e.res, [])) else none : Option (Res At)) := by kernel_rfl
  rw [h]
  unfold Frix
  dsimp only
  cases scanL (stpI s) 0 d.params <;> rfl
def lenB (l : List GBound) : Bool := Nat.ble l.length 9223372036854775807
def onIx {R : Type} (F : List GBound → GParam → Option R) (l : List VT) : Option R := match l with | [x, .fn f [.rel c]] => (match roV 155 x, ex93 c, Nat.beq f 123 with | some a, some b, true => F a b | _, _, _ => none) | _ => none
theorem onIx_spec {R : Type} {F : List GBound → GParam → Option R} {l : List VT} {r : R} (h : onIx F l = some r) : ∃ a b, l = [.ro 155 a, .fn 123 [.rel (enc93 b)]] ∧ F a b = some r := by
  unfold onIx at h
  split at h
  · split at h
    · rename_i hx hc hf
      exact ⟨_, _, by rw [roV_spec hx, ex93_spec hc, Nat.eq_of_beq_eq_true hf], h⟩
    · cases h
  · cases h
def conIxf : CON := onIx fun l x => some (lenB l, (.int .i64 (idxB x.name l), []))
theorem okixf_of (a : List GBound) (b : GParam) (hc : lenB a = true) : okixf ⟨a, b, 0, (a.length : Int), 0⟩ = true := by unfold okixf; unfold lenB at hc; rw [hc]; simp
theorem okIxf : OK 122 conIxf := ok_run CP1_ok (by kernel_rfl) fun l r h => by
  replace h := onIx_spec h
  obtain ⟨a, b, rfl, h⟩ := h
  obtain ⟨hc, rfl⟩ := some_pair h
  exact ⟨60, (run_ixf a b).trans ((if_pos (okixf_of a b hc)).trans (resI_eq _))⟩
def onDS {R : Type} (F : GDescriptor → ByteArray → Option R) (l : List VT) : Option R := match l with | [x, .str s] => (match ag150 x with | some a => F a s | none => none) | _ => none
theorem onDS_spec {R : Type} {F : GDescriptor → ByteArray → Option R} {l : List VT} {r : R} (h : onDS F l = some r) : ∃ a s, l = [.agg (enc150 a), .str s] ∧ F a s = some r := by
  unfold onDS at h
  split at h
  · split at h
    · rename_i hx
      exact ⟨_, _, by rw [ag150_spec hx], h⟩
    · cases h
  · cases h
def conRix : CON := onDS fun d s => some (lenB d.params, (.int .i64 (idxB s d.params), []))
theorem okrix_of (b : ByteArray) (a : GDescriptor) (hc : lenB a.params = true) : okrix ⟨b, a, 0, 0⟩ = true := by unfold okrix; unfold lenB at hc; rw [hc]; simp
theorem okRix : OK 127 conRix := ok_run CP1_ok (by kernel_rfl) fun l r h => by
  replace h := onDS_spec h
  obtain ⟨a, b, rfl, h⟩ := h
  obtain ⟨hc, rfl⟩ := some_pair h
  exact ⟨60, (run_rix a b).trans ((if_pos (okrix_of b a hc)).trans (resI_eq _))⟩
def libP1 : List (Nat × CON) := (122, conIxf) :: (127, conRix) :: libP
theorem libP1_ok : AllOK libP1 := .cons okIxf (.cons okRix libP_ok)
def CP2 : Cfg := { cs := libP1 }
theorem CP2_ok : CfgOK CP2 := { con := libP1_ok }
theorem run_idx (x : GParam) (d : GDescriptor) : runF CP2 60 121 [.agg (enc93 x), .rel (enc150 d)] = (if lenB d.params = true then some (.int .i64 (idxB x.name d.params), []) else none : Option (Res At)) := by kernel_rfl
def onXD {R : Type} (F : GParam → GDescriptor → Option R) (l : List VT) : Option R := match l with | [x, .rel c] => (match ag93 x, ex150 c with | some a, some b => F a b | _, _ => none) | _ => none
theorem onXD_spec {R : Type} {F : GParam → GDescriptor → Option R} {l : List VT} {r : R} (h : onXD F l = some r) : ∃ a b, l = [.agg (enc93 a), .rel (enc150 b)] ∧ F a b = some r := by
  unfold onXD at h
  split at h
  · split at h
    · rename_i hx hc
      exact ⟨_, _, by rw [ag93_spec hx, ex150_spec hc], h⟩
    · cases h
  · cases h
def conIdx : CON := onXD fun x d => some (lenB d.params, (.int .i64 (idxB x.name d.params), []))
theorem okIdx : OK 121 conIdx := ok_run CP2_ok (by kernel_rfl) fun l r h => by
  replace h := onXD_spec h
  obtain ⟨a, b, rfl, h⟩ := h
  obtain ⟨hc, rfl⟩ := some_pair h
  refine ⟨60, (run_idx a b).trans (if_pos hc)⟩
def valR (d : GDescriptor) (ps : List Int) (s : ByteArray) : Int := match decide (idxB s d.params ≥ 0) with | true => gt (Int.ofNat 0) ps (idxB s d.params).toNat | false => 0
def valC (d : GDescriptor) (ps : List Int) (s : ByteArray) : Bool := match lenB d.params with | true => (match decide (idxB s d.params ≥ 0) with | true => decide (idxB s d.params < (ps.length : Int)) | false => true) | false => false
theorem run_val (d : GDescriptor) (ps : List Int) (s : ByteArray) : runF CP2 60 158 [.agg (enc150 d), .ro 2 ps, .str s] = (if lenB d.params = true then if decide (idxB s d.params ≥ 0) = true then if 0 ≤ idxB s d.params then if idxB s d.params < (ps.length : Int) then some (.int .i64 (gt (Int.ofNat 0) ps (idxB s d.params).toNat), []) else none else none else some (.int .i64 0, []) else none : Option (Res At)) := by kernel_rfl
def onDLS {R : Type} (F : GDescriptor → List Int → ByteArray → Option R) (l : List VT) : Option R := match l with | [x, y, .str s] => (match ag150 x, roV 2 y with | some a, some b => F a b s | _, _ => none) | _ => none
theorem onDLS_spec {R : Type} {F : GDescriptor → List Int → ByteArray → Option R} {l : List VT} {r : R} (h : onDLS F l = some r) : ∃ (a : GDescriptor) (b : List Int) (s : ByteArray), l = [.agg (enc150 a), .ro 2 b, .str s] ∧ F a b s = some r := by
  unfold onDLS at h
  split at h
  · split at h
    · rename_i hx hy
      exact ⟨_, _, _, by rw [ag150_spec hx, roV_spec hy], h⟩
    · cases h
  · cases h
def conVal : CON := onDLS fun d ps s => some (valC d ps s, (.int .i64 (valR d ps s), []))
theorem val_eq (d : GDescriptor) (ps : List Int) (s : ByteArray) (hc : valC d ps s = true) : (if lenB d.params = true then if decide (idxB s d.params ≥ 0) = true then if 0 ≤ idxB s d.params then if idxB s d.params < (ps.length : Int) then some (.int .i64 (gt (Int.ofNat 0) ps (idxB s d.params).toNat), []) else none else none else some (.int .i64 0, []) else none : Option (Res At)) = some (.int .i64 (valR d ps s), []) := by
  unfold valC at hc
  unfold valR
  cases hl : lenB d.params with
  | false => rw [hl] at hc; cases hc
  | true =>
    rw [hl] at hc
    dsimp only at hc
    rw [if_pos rfl]
    by_cases hi : idxB s d.params ≥ 0
    · rw [decide_eq_true hi] at hc ⊢
      rw [if_pos rfl, if_pos hi, if_pos (of_decide_eq_true hc)]
    · rw [decide_eq_false hi]; rfl
theorem okVal : OK 158 conVal := ok_run CP2_ok (by kernel_rfl) fun l r h => by
  replace h := onDLS_spec h
  obtain ⟨a, b, s, rfl, h⟩ := h
  obtain ⟨hc, rfl⟩ := some_pair h
  exact ⟨60, (run_val a b s).trans (val_eq a b s hc)⟩
def libP2 : List (Nat × CON) := (121, conIdx) :: (158, conVal) :: libP1
theorem libP2_ok : AllOK libP2 := .cons okIdx (.cons okVal libP1_ok)
def CP3 : Cfg := { cs := libP2 }
theorem CP3_ok : CfgOK CP3 := { con := libP2_ok }
def RholdR (d : GDescriptor) (ps : List Int) : Option (Res At) :=
  if eqB d.name { data := #[108, 105, 109, 105, 116] : ByteArray } = true then
   if valC d ps { data := #[108, 111, 119] : ByteArray } = true then
    if valC d ps { data := #[104, 105, 103, 104] : ByteArray } = true then
     some ((.bool (decide (valR d ps { data := #[108, 111, 119] : ByteArray } ≤ valR d ps { data := #[104, 105, 103, 104] : ByteArray }))), [])
    else
     none
   else
    none
  else
   if eqB d.name { data := #[112, 105, 100] : ByteArray } = true then
    if valC d ps { data := #[108, 111, 119] : ByteArray } = true then
     if valC d ps { data := #[104, 105, 103, 104] : ByteArray } = true then
      some ((.bool (decide (valR d ps { data := #[108, 111, 119] : ByteArray } ≤ valR d ps { data := #[104, 105, 103, 104] : ByteArray }))), [])
     else
      none
    else
     none
   else
    if eqB d.name { data := #[108, 105, 110, 101] : ByteArray } = true then
     if valC d ps { data := #[120, 49] : ByteArray } = true then
      if valC d ps { data := #[120, 50] : ByteArray } = true then
       some ((.bool (decide (valR d ps { data := #[120, 49] : ByteArray } < valR d ps { data := #[120, 50] : ByteArray }))), [])
      else
       none
     else
      none
    else
     if eqB d.name { data := #[104, 121, 115, 116] : ByteArray } = true then
      if valC d ps { data := #[111, 102, 102] : ByteArray } = true then
       if valC d ps { data := #[111, 110] : ByteArray } = true then
        some ((.bool (decide (valR d ps { data := #[111, 102, 102] : ByteArray } < valR d ps { data := #[111, 110] : ByteArray }))), [])
       else
        none
      else
       none
     else
      some ((.bool true), [])
theorem run_RholdR (d : GDescriptor) (ps : List Int) : runF CP3 60 128 [.agg (enc150 d), .ro 2 ps] = RholdR d ps := by kernel_rfl
end
end Go.Proofs.YtpbpebjfglfjfaaGreatDoor.X
/-! Params of the program: its loops. -/
namespace Go.Proofs.YtpbpebjfglfjfaaGreatDoor.X
open Go Go.Proofs Go.RowKit Go.Proofs.YtpbpebjfglfjfaaGreatDoor
noncomputable section
def mlook9_2 (s : ByteArray) (m : List (ByteArray × Int)) : Option Int := tlook TT Tryz.prog 9 2 s m
def mupd9_2 (s : ByteArray) (v : Int) (m : List (ByteArray × Int)) : List (ByteArray × Int) := tupd TT Tryz.prog 9 2 s v m
structure Kpa1 where
  s : ByteArray
  l : List GParam
  er : Int
  d : GDescriptor
  m : List (ByteArray × Int)
  q : List GParam
  n : Int
  i : Int
structure Epa1 where
  s : ByteArray
  l : List GParam
  er : Int
  d : GDescriptor
  m : List (ByteArray × Int)
def Spa1 (k : Kpa1) : St At := { env := [(0, .str k.s), (1, .ro 93 k.l), (4, .nils), (5, .int .i64 k.er), (6, .ptr 0 0), (8, .mapr 1), (9, .fn 121 [.ptr 0 0]), (34, .ro 93 k.q), (35, .int .i64 k.n), (36, .int .i64 k.i)], stk := [], hp := [(0, .var (enc150 k.d) false), (1, .map (.ty 9 2 k.m) false)], nx := 2 }
def Xpa1 (k : Epa1) : St At := { env := [(0, .str k.s), (1, .ro 93 k.l), (4, .nils), (5, .int .i64 k.er), (6, .ptr 0 0), (8, .mapr 1), (9, .fn 121 [.ptr 0 0])], stk := [], hp := [(0, .var (enc150 k.d) false), (1, .map (.ty 9 2 k.m) false)], nx := 2 }
def Cpa1 : Cfg := { cs := libP2, ks := [((60, 7), [(0, none), (1, none), (4, none), (5, none), (6, none), (8, none), (9, none), (34, none), (35, none), (36, none)])], xs := [((60, 7), [(0, none), (1, none), (4, none), (5, none), (6, none), (8, none), (9, none)])], lps := [] }
theorem Cpa1_ok : CfgOK Cpa1 := { con := libP2_ok }
def stpa1 {α : Type} (k : Kpa1) (go : Kpa1 → α) (ex ret : Epa1 → α) (no : α) : α :=
  if decide (k.i < k.n) = true then
   if 0 ≤ k.i then
    if k.i < (↑k.q.length : Int) then
     if lenB k.d.params = true then
      if decide (idxB (gt { name := { data := #[] : ByteArray }, value := 0 : GParam } k.q k.i.toNat).name k.d.params < 0) = true then
       ret ⟨(k.s), (k.l), (3), (k.d), (k.m)⟩
      else
       go ⟨(k.s), (k.l), (k.er), (k.d), (k.m), (k.q), (k.n), (IntKind.i64.wrap (k.i + 1))⟩
     else
      no
    else
     no
   else
    no
  else
   ex ⟨(k.s), (k.l), (k.er), (k.d), (k.m)⟩
def steppa1 (k : Kpa1) : Nx Kpa1 Epa1 := stpa1 k .go .ex .ret .no
theorem Bpa1 (k : Kpa1) (m : Nat) (R : St At → Option (Res At)) (K : Xit → St At → Option (Res At)) : B Cpa1 60 7 (m + 60) (Spa1 k) R K = stpa1 k (fun k => R (Spa1 k)) (fun x => K (.ex 0) (Xpa1 x)) (fun x => K .ret (Xpa1 x)) none := by kernel_rfl
def upa1 (st : St At) : Option Kpa1 := match st with
  | ⟨[(0, .str s), (1, vl), (4, .nils), (5, .int .i64 er), (6, .ptr 0 0), (8, .mapr 1), (9, .fn 121 [.ptr 0 0]), (34, vq), (35, .int .i64 n), (36, .int .i64 i)], [], [(0, .var wd false), (1, bm)], 2⟩ => (match roV 93 vl, ex150 wd, mapB 9 2 bm, roV 93 vq with | some l, some d, some m, some q => some ⟨s, l, er, d, m, q, n, i⟩ | _, _, _, _ => none)
  | _ => none
theorem upa1_spec {st : St At} {k : Kpa1} (h : upa1 st = some k) : st = Spa1 k := by
  unfold upa1 at h
  split at h
  · split at h
    · rename_i h0 h1 h2 h3
      obtain rfl := Option.some.inj h
      rw [roV_spec h0, ex150_spec h1, mapB_spec h2, roV_spec h3]
      rfl
    · cases h
  · cases h
theorem oklpa1 {g : LP} (hg : ∀ st K q, g st K = some q → ∃ k n e, st = Spa1 k ∧ iter steppa1 n k = some e ∧ e.k 0 Xpa1 Xpa1 K = some q) : OKL 60 7 g := okl_iter Cpa1_ok (S := Spa1) (X := Xpa1) (Y := Xpa1) (step := steppa1) (id := 0) (by kernel_rfl) (by kernel_rfl)
  (fun k m R K => by rw [Bpa1]; unfold steppa1 stpa1; simp only [Nx.k_ite]; rfl) (fun k => by kernel_rfl) hg
theorem okfpa1 {g : LP} {fuel : Kpa1 → Nat} {ok : Kpa1 → Bool} {F : Kpa1 → Fx Epa1} (hF : ∀ k, ok k = true → iter steppa1 (fuel k) k = some (F k)) (hg : ∀ st K, g st K = (match upa1 st with | some k => if ok k = true then (F k).k 0 Xpa1 Xpa1 K else none | none => none)) : OKL 60 7 g := oklpa1 fun st K q h => by
  rw [hg] at h
  split at h
  · rename_i k hu
    split at h
    · rename_i hok; exact ⟨k, _, _, upa1_spec hu, hF k hok, h⟩
    · cases h
  · cases h
structure Kpa2 where
  s : ByteArray
  l : List GParam
  er : Int
  d : GDescriptor
  m : List (ByteArray × Int)
  q : List GParam
  n : Int
  i : Int
structure Epa2 where
  s : ByteArray
  l : List GParam
  er : Int
  d : GDescriptor
  m : List (ByteArray × Int)
def Spa2 (k : Kpa2) : St At := { env := [(0, .str k.s), (1, .ro 93 k.l), (4, .nils), (5, .int .i64 k.er), (6, .ptr 0 0), (8, .mapr 1), (9, .fn 121 [.ptr 0 0]), (45, .ro 93 k.q), (46, .int .i64 k.n), (47, .int .i64 k.i)], stk := [], hp := [(0, .var (enc150 k.d) false), (1, .map (.ty 9 2 k.m) false)], nx := 2 }
def Xpa2 (k : Epa2) : St At := { env := [(0, .str k.s), (1, .ro 93 k.l), (4, .nils), (5, .int .i64 k.er), (6, .ptr 0 0), (8, .mapr 1), (9, .fn 121 [.ptr 0 0])], stk := [], hp := [(0, .var (enc150 k.d) false), (1, .map (.ty 9 2 k.m) false)], nx := 2 }
def Cpa2 : Cfg := { cs := libP2, ks := [((60, 13), [(0, none), (1, none), (4, none), (5, none), (6, none), (8, none), (9, none), (45, none), (46, none), (47, none)])], xs := [((60, 13), [(0, none), (1, none), (4, none), (5, none), (6, none), (8, none), (9, none)])], lps := [] }
theorem Cpa2_ok : CfgOK Cpa2 := { con := libP2_ok }
def stpa2 {α : Type} (k : Kpa2) (go : Kpa2 → α) (ex ret : Epa2 → α) (no : α) : α :=
  if decide (k.i < k.n) = true then
   if 0 ≤ k.i then
    if k.i < (↑k.q.length : Int) then
     if isO (mlook9_2 (gt { name := { data := #[] : ByteArray }, value := 0 : GParam } k.q k.i.toNat).name k.m) = true then
      ret ⟨(k.s), (k.l), (5), (k.d), (k.m)⟩
     else
      go ⟨(k.s), (k.l), (k.er), (k.d), (mupd9_2 (gt { name := { data := #[] : ByteArray }, value := 0 : GParam } k.q k.i.toNat).name (gt { name := { data := #[] : ByteArray }, value := 0 : GParam } k.q k.i.toNat).value k.m), (k.q), (k.n), (IntKind.i64.wrap (k.i + 1))⟩
    else
     no
   else
    no
  else
   ex ⟨(k.s), (k.l), (k.er), (k.d), (k.m)⟩
def steppa2 (k : Kpa2) : Nx Kpa2 Epa2 := stpa2 k .go .ex .ret .no
theorem Bpa2 (k : Kpa2) (m : Nat) (R : St At → Option (Res At)) (K : Xit → St At → Option (Res At)) : B Cpa2 60 13 (m + 60) (Spa2 k) R K = stpa2 k (fun k => R (Spa2 k)) (fun x => K (.ex 2) (Xpa2 x)) (fun x => K .ret (Xpa2 x)) none := by kernel_rfl
def upa2 (st : St At) : Option Kpa2 := match st with
  | ⟨[(0, .str s), (1, vl), (4, .nils), (5, .int .i64 er), (6, .ptr 0 0), (8, .mapr 1), (9, .fn 121 [.ptr 0 0]), (45, vq), (46, .int .i64 n), (47, .int .i64 i)], [], [(0, .var wd false), (1, bm)], 2⟩ => (match roV 93 vl, ex150 wd, mapB 9 2 bm, roV 93 vq with | some l, some d, some m, some q => some ⟨s, l, er, d, m, q, n, i⟩ | _, _, _, _ => none)
  | _ => none
theorem upa2_spec {st : St At} {k : Kpa2} (h : upa2 st = some k) : st = Spa2 k := by
  unfold upa2 at h
  split at h
  · split at h
    · rename_i h0 h1 h2 h3
      obtain rfl := Option.some.inj h
      rw [roV_spec h0, ex150_spec h1, mapB_spec h2, roV_spec h3]
      rfl
    · cases h
  · cases h
theorem oklpa2 {g : LP} (hg : ∀ st K q, g st K = some q → ∃ k n e, st = Spa2 k ∧ iter steppa2 n k = some e ∧ e.k 2 Xpa2 Xpa2 K = some q) : OKL 60 13 g := okl_iter Cpa2_ok (S := Spa2) (X := Xpa2) (Y := Xpa2) (step := steppa2) (id := 2) (by kernel_rfl) (by kernel_rfl)
  (fun k m R K => by rw [Bpa2]; unfold steppa2 stpa2; simp only [Nx.k_ite]; rfl) (fun k => by kernel_rfl) hg
theorem okfpa2 {g : LP} {fuel : Kpa2 → Nat} {ok : Kpa2 → Bool} {F : Kpa2 → Fx Epa2} (hF : ∀ k, ok k = true → iter steppa2 (fuel k) k = some (F k)) (hg : ∀ st K, g st K = (match upa2 st with | some k => if ok k = true then (F k).k 2 Xpa2 Xpa2 K else none | none => none)) : OKL 60 13 g := oklpa2 fun st K q h => by
  rw [hg] at h
  split at h
  · rename_i k hu
    split at h
    · rename_i hok; exact ⟨k, _, _, upa2_spec hu, hF k hok, h⟩
    · cases h
  · cases h
structure Kpa3 where
  s : ByteArray
  l : List GParam
  er : Int
  d : GDescriptor
  m : List (ByteArray × Int)
  q : List GParam
  n : Int
  i : Int
structure Epa3 where
  s : ByteArray
  l : List GParam
  er : Int
  d : GDescriptor
  m : List (ByteArray × Int)
def Spa3 (k : Kpa3) : St At := { env := [(0, .str k.s), (1, .ro 93 k.l), (4, .nils), (5, .int .i64 k.er), (6, .ptr 0 0), (8, .mapr 1), (9, .fn 121 [.ptr 0 0]), (65, .ro 93 k.q), (66, .int .i64 k.n), (67, .int .i64 k.i)], stk := [], hp := [(0, .var (enc150 k.d) false), (1, .map (.ty 9 2 k.m) false)], nx := 2 }
def Xpa3 (k : Epa3) : St At := { env := [(0, .str k.s), (1, .ro 93 k.l), (4, .nils), (5, .int .i64 k.er), (6, .ptr 0 0), (8, .mapr 1), (9, .fn 121 [.ptr 0 0])], stk := [], hp := [(0, .var (enc150 k.d) false), (1, .map (.ty 9 2 k.m) false)], nx := 2 }
def Cpa3 : Cfg := { cs := libP2, ks := [((60, 21), [(0, none), (1, none), (4, none), (5, none), (6, none), (8, none), (9, none), (65, none), (66, none), (67, none)])], xs := [((60, 21), [(0, none), (1, none), (4, none), (5, none), (6, none), (8, none), (9, none)])], lps := [] }
theorem Cpa3_ok : CfgOK Cpa3 := { con := libP2_ok }
def stpa3 {α : Type} (k : Kpa3) (go : Kpa3 → α) (ex ret : Epa3 → α) (no : α) : α :=
  if decide (k.i < k.n) = true then
   if 0 ≤ k.i then
    if k.i < (↑k.q.length : Int) then
     if lenB k.d.params = true then
      if 0 ≤ idxB (gt { name := { data := #[] : ByteArray }, value := 0 : GParam } k.q k.i.toNat).name k.d.params then
       if idxB (gt { name := { data := #[] : ByteArray }, value := 0 : GParam } k.q k.i.toNat).name k.d.params < (↑k.d.params.length : Int) then
        if decide ((gt { name := { data := #[] : ByteArray }, value := 0 : GParam } k.q k.i.toNat).value < (gt { name := { data := #[] : ByteArray }, lo := 0, hi := 0, default_ := 0 : GBound } k.d.params (idxB (gt { name := { data := #[] : ByteArray }, value := 0 : GParam } k.q k.i.toNat).name k.d.params).toNat).lo) = false then
         if decide ((gt { name := { data := #[] : ByteArray }, value := 0 : GParam } k.q k.i.toNat).value > (gt { name := { data := #[] : ByteArray }, lo := 0, hi := 0, default_ := 0 : GBound } k.d.params (idxB (gt { name := { data := #[] : ByteArray }, value := 0 : GParam } k.q k.i.toNat).name k.d.params).toNat).hi) = true then
          ret ⟨(k.s), (k.l), (6), (k.d), (k.m)⟩
         else
          go ⟨(k.s), (k.l), (k.er), (k.d), (k.m), (k.q), (k.n), (IntKind.i64.wrap (k.i + 1))⟩
        else
         ret ⟨(k.s), (k.l), (6), (k.d), (k.m)⟩
       else
        no
      else
       no
     else
      no
    else
     no
   else
    no
  else
   ex ⟨(k.s), (k.l), (k.er), (k.d), (k.m)⟩
def steppa3 (k : Kpa3) : Nx Kpa3 Epa3 := stpa3 k .go .ex .ret .no
theorem Bpa3 (k : Kpa3) (m : Nat) (R : St At → Option (Res At)) (K : Xit → St At → Option (Res At)) : B Cpa3 60 21 (m + 60) (Spa3 k) R K = stpa3 k (fun k => R (Spa3 k)) (fun x => K (.ex 4) (Xpa3 x)) (fun x => K .ret (Xpa3 x)) none := by kernel_rfl
def upa3 (st : St At) : Option Kpa3 := match st with
  | ⟨[(0, .str s), (1, vl), (4, .nils), (5, .int .i64 er), (6, .ptr 0 0), (8, .mapr 1), (9, .fn 121 [.ptr 0 0]), (65, vq), (66, .int .i64 n), (67, .int .i64 i)], [], [(0, .var wd false), (1, bm)], 2⟩ => (match roV 93 vl, ex150 wd, mapB 9 2 bm, roV 93 vq with | some l, some d, some m, some q => some ⟨s, l, er, d, m, q, n, i⟩ | _, _, _, _ => none)
  | _ => none
theorem upa3_spec {st : St At} {k : Kpa3} (h : upa3 st = some k) : st = Spa3 k := by
  unfold upa3 at h
  split at h
  · split at h
    · rename_i h0 h1 h2 h3
      obtain rfl := Option.some.inj h
      rw [roV_spec h0, ex150_spec h1, mapB_spec h2, roV_spec h3]
      rfl
    · cases h
  · cases h
theorem oklpa3 {g : LP} (hg : ∀ st K q, g st K = some q → ∃ k n e, st = Spa3 k ∧ iter steppa3 n k = some e ∧ e.k 4 Xpa3 Xpa3 K = some q) : OKL 60 21 g := okl_iter Cpa3_ok (S := Spa3) (X := Xpa3) (Y := Xpa3) (step := steppa3) (id := 4) (by kernel_rfl) (by kernel_rfl)
  (fun k m R K => by rw [Bpa3]; unfold steppa3 stpa3; simp only [Nx.k_ite]; rfl) (fun k => by kernel_rfl) hg
theorem okfpa3 {g : LP} {fuel : Kpa3 → Nat} {ok : Kpa3 → Bool} {F : Kpa3 → Fx Epa3} (hF : ∀ k, ok k = true → iter steppa3 (fuel k) k = some (F k)) (hg : ∀ st K, g st K = (match upa3 st with | some k => if ok k = true then (F k).k 4 Xpa3 Xpa3 K else none | none => none)) : OKL 60 21 g := oklpa3 fun st K q h => by
  rw [hg] at h
  split at h
  · rename_i k hu
    split at h
    · rename_i hok; exact ⟨k, _, _, upa3_spec hu, hF k hok, h⟩
    · cases h
  · cases h
structure Kpa4 where
  s : ByteArray
  m : List (ByteArray × Int)
  o : List Int
  q : List GBound
  n : Int
  i : Int
structure Epa4 where
  s : ByteArray
  o : List Int
def Spa4 (k : Kpa4) : St At := { env := [(0, .str k.s), (8, .mapr 0), (19, .own 1), (92, .ro 155 k.q), (93, .int .i64 k.n), (94, .int .i64 k.i)], stk := [], hp := [(0, .map (.ty 9 2 k.m) false), (1, .row 2 k.o false)], nx := 2 }
def Xpa4 (k : Epa4) : St At := { env := [(0, .str k.s), (19, .own 0)], stk := [], hp := [(0, .row 2 k.o false)], nx := 1 }
def Cpa4 : Cfg := { cs := libP2, ks := [((60, 29), [(0, none), (8, none), (19, some 2), (92, none), (93, none), (94, none)])], xs := [((60, 29), [(0, none), (19, some 2)])], lps := [] }
theorem Cpa4_ok : CfgOK Cpa4 := { con := libP2_ok }
def stpa4 {α : Type} (k : Kpa4) (go : Kpa4 → α) (ex ret : Epa4 → α) (no : α) : α :=
  if decide (k.i < k.n) = true then
   if 0 ≤ k.i then
    if k.i < (↑k.q.length : Int) then
     if (!isO (mlook9_2 (gt { name := { data := #[] : ByteArray }, lo := 0, hi := 0, default_ := 0 : GBound } k.q k.i.toNat).name k.m)) = true then
      if k.o.length + [(gt { name := { data := #[] : ByteArray }, lo := 0, hi := 0, default_ := 0 : GBound } k.q k.i.toNat).default_].length < 16777216 then
       go ⟨(k.s), (k.m), (k.o ++ [(gt { name := { data := #[] : ByteArray }, lo := 0, hi := 0, default_ := 0 : GBound } k.q k.i.toNat).default_]), (k.q), (k.n), (IntKind.i64.wrap (k.i + 1))⟩
      else
       no
     else
      if k.o.length + [getO 0 (mlook9_2 (gt { name := { data := #[] : ByteArray }, lo := 0, hi := 0, default_ := 0 : GBound } k.q k.i.toNat).name k.m)].length < 16777216 then
       go ⟨(k.s), (k.m), (k.o ++ [getO 0 (mlook9_2 (gt { name := { data := #[] : ByteArray }, lo := 0, hi := 0, default_ := 0 : GBound } k.q k.i.toNat).name k.m)]), (k.q), (k.n), (IntKind.i64.wrap (k.i + 1))⟩
      else
       no
    else
     no
   else
    no
  else
   ex ⟨(k.s), (k.o)⟩
def steppa4 (k : Kpa4) : Nx Kpa4 Epa4 := stpa4 k .go .ex .ret .no
theorem Bpa4 (k : Kpa4) (m : Nat) (R : St At → Option (Res At)) (K : Xit → St At → Option (Res At)) : B Cpa4 60 29 (m + 60) (Spa4 k) R K = stpa4 k (fun k => R (Spa4 k)) (fun x => K (.ex 6) (Xpa4 x)) (fun x => K .ret (Xpa4 x)) none := by kernel_rfl
def upa4 (st : St At) : Option Kpa4 := match st with
  | ⟨[(0, .str s), (8, .mapr 0), (19, .own 1), (92, vq), (93, .int .i64 n), (94, .int .i64 i)], [], [(0, bm), (1, bo)], 2⟩ => (match mapB 9 2 bm, rowB 2 bo, roV 155 vq with | some m, some o, some q => some ⟨s, m, o, q, n, i⟩ | _, _, _ => none)
  | _ => none
theorem upa4_spec {st : St At} {k : Kpa4} (h : upa4 st = some k) : st = Spa4 k := by
  unfold upa4 at h
  split at h
  · split at h
    · rename_i h0 h1 h2
      obtain rfl := Option.some.inj h
      rw [mapB_spec h0, rowB_spec h1, roV_spec h2]
      rfl
    · cases h
  · cases h
theorem oklpa4 {g : LP} (hg : ∀ st K q, g st K = some q → ∃ k n e, st = Spa4 k ∧ iter steppa4 n k = some e ∧ e.k 6 Xpa4 Xpa4 K = some q) : OKL 60 29 g := okl_iter Cpa4_ok (S := Spa4) (X := Xpa4) (Y := Xpa4) (step := steppa4) (id := 6) (by kernel_rfl) (by kernel_rfl)
  (fun k m R K => by rw [Bpa4]; unfold steppa4 stpa4; simp only [Nx.k_ite]; rfl) (fun k => by kernel_rfl) hg
theorem okfpa4 {g : LP} {fuel : Kpa4 → Nat} {ok : Kpa4 → Bool} {F : Kpa4 → Fx Epa4} (hF : ∀ k, ok k = true → iter steppa4 (fuel k) k = some (F k)) (hg : ∀ st K, g st K = (match upa4 st with | some k => if ok k = true then (F k).k 6 Xpa4 Xpa4 K else none | none => none)) : OKL 60 29 g := oklpa4 fun st K q h => by
  rw [hg] at h
  split at h
  · rename_i k hu
    split at h
    · rename_i hok; exact ⟨k, _, _, upa4_spec hu, hF k hok, h⟩
    · cases h
  · cases h
def gp00 : GParam := ⟨⟨#[]⟩, 0⟩
def stp1 (d : GDescriptor) (_ : Unit) (x : GParam) : Unit ⊕ Unit := if decide (idxB x.name d.params < 0) = true then .inr () else .inl ()
def stp2 (m : List (ByteArray × Int)) (x : GParam) : List (ByteArray × Int) ⊕ List (ByteArray × Int) := if isO (mlook9_2 x.name m) = true then .inr m else .inl (mupd9_2 x.name x.value m)
def rngB (d : GDescriptor) (x : GParam) : Bool := if decide (x.value < (gt gb0 d.params (idxB x.name d.params).toNat).lo) = false then decide (x.value > (gt gb0 d.params (idxB x.name d.params).toNat).hi) else true
def stp3 (d : GDescriptor) (_ : Unit) (x : GParam) : Unit ⊕ Unit := if rngB d x = true then .inr () else .inl ()
def isL {α β : Type} (o : α ⊕ β) : Bool := match o with | .inl _ => true | .inr _ => false
def getL {α β : Type} (d : α) (o : α ⊕ β) : α := match o with | .inl x => x | .inr _ => d
def getR {α β : Type} (d : β) (o : α ⊕ β) : β := match o with | .inl _ => d | .inr y => y
def parV (m : List (ByteArray × Int)) (b : GBound) : Int := if (!isO (mlook9_2 b.name m)) = true then b.default_ else getO 0 (mlook9_2 b.name m)
def okpa1 (k : Kpa1) : Bool := decide (k.i = 0) && (decide (k.n = (k.q.length : Int)) && (Nat.ble k.q.length 9223372036854775807 && lenB k.d.params))
def Fpa1 (k : Kpa1) : Fx Epa1 := match scanL (stp1 k.d) () k.q with | .inl _ => .ex ⟨k.s, k.l, k.er, k.d, k.m⟩ | .inr _ => .ret ⟨k.s, k.l, 3, k.d, k.m⟩
theorem ipa1 (k : Kpa1) (h : okpa1 k = true) : iter steppa1 k.q.length k = some (Fpa1 k) := by
  unfold okpa1 at h
  simp only [Bool.and_eq_true, decide_eq_true_eq] at h
  obtain ⟨h0, h1, h2, h3⟩ := h
  replace h2 := Nat.le_of_ble_eq_true h2
  obtain ⟨s, l, er, d, m, q, n, i⟩ := k
  dsimp only at h0 h1 h2 h3
  subst h0; subst h1
  have := iter_scan (step := steppa1) q (fun (_ : Unit) j => (⟨s, l, er, d, m, q, (q.length : Int), (j : Int)⟩ : Kpa1)) (stp1 d) (fun _ => (⟨s, l, er, d, m⟩ : Epa1)) (fun _ => (⟨s, l, 3, d, m⟩ : Epa1)) (fun _ _ => True)
    (fun b j h _ => by
      have hs : steppa1 ⟨s, l, er, d, m, q, (q.length : Int), (j : Int)⟩ = if decide (idxB (q[j]).name d.params < 0) = true then .ret ⟨s, l, 3, d, m⟩ else .go ⟨s, l, er, d, m, q, (q.length : Int), ((j + 1 : Nat) : Int)⟩ := by
        unfold steppa1 stpa1
        dsimp only
        rw [cnt h h2, gtj _ _ _ h, if_pos (lt1 h), if_pos lt0, if_pos (lt2 h), if_pos h3]
      unfold stp1
      rw [hs]
      by_cases hc : decide (idxB (q[j]).name d.params < 0) = true
      · rw [if_pos hc, if_pos hc]
        exact ⟨fun b' hb => (by cases hb), fun y hy => rfl⟩
      · rw [if_neg hc, if_neg hc]
        exact ⟨fun b' hb => ⟨rfl, trivial⟩, fun y hy => (by cases hy)⟩) (fun b _ => by unfold steppa1 stpa1; dsimp only; rw [if_neg lt3]) q.length 0 () (by omega) trivial
  rw [List.drop_zero] at this
  refine this.trans ?_
  unfold Fpa1
  dsimp only
  cases scanL (stp1 d) () q <;> rfl
def gpa1 : LP := fun st K => match upa1 st with | some k => if okpa1 k = true then (if isL (scanL (stp1 k.d) () k.q) = true then K (.ex 0) (Xpa1 ⟨k.s, k.l, k.er, k.d, k.m⟩) else K .ret (Xpa1 ⟨k.s, k.l, 3, k.d, k.m⟩)) else none | none => none
theorem okgpa1 : OKL 60 7 gpa1 := okfpa1 (fuel := fun k => k.q.length) (ok := okpa1) (F := Fpa1) ipa1 fun st K => by
  unfold gpa1
  split
  · rename_i k hu
    split
    · unfold Fpa1
      cases scanL (stp1 k.d) () k.q <;> rfl
    · rfl
  · rfl
def okpa2 (k : Kpa2) : Bool := decide (k.i = 0) && (decide (k.n = (k.q.length : Int)) && Nat.ble k.q.length 9223372036854775807)
def Fpa2 (k : Kpa2) : Fx Epa2 := match scanL stp2 k.m k.q with | .inl m => .ex ⟨k.s, k.l, k.er, k.d, m⟩ | .inr m => .ret ⟨k.s, k.l, 5, k.d, m⟩
theorem ipa2 (k : Kpa2) (h : okpa2 k = true) : iter steppa2 k.q.length k = some (Fpa2 k) := by
  unfold okpa2 at h
  simp only [Bool.and_eq_true, decide_eq_true_eq] at h
  obtain ⟨h0, h1, h2⟩ := h
  replace h2 := Nat.le_of_ble_eq_true h2
  obtain ⟨s, l, er, d, m, q, n, i⟩ := k
  dsimp only at h0 h1 h2
  subst h0; subst h1
  have := iter_scan (step := steppa2) q (fun m j => (⟨s, l, er, d, m, q, (q.length : Int), (j : Int)⟩ : Kpa2)) stp2 (fun m => (⟨s, l, er, d, m⟩ : Epa2)) (fun m => (⟨s, l, 5, d, m⟩ : Epa2)) (fun _ _ => True)
    (fun b j h _ => by
      have hs : steppa2 ⟨s, l, er, d, b, q, (q.length : Int), (j : Int)⟩ = if isO (mlook9_2 (q[j]).name b) = true then .ret ⟨s, l, 5, d, b⟩ else .go ⟨s, l, er, d, mupd9_2 (q[j]).name (q[j]).value b, q, (q.length : Int), ((j + 1 : Nat) : Int)⟩ := by
        unfold steppa2 stpa2
        dsimp only
        rw [cnt h h2, gtj _ _ _ h, if_pos (lt1 h), if_pos lt0, if_pos (lt2 h)]
      unfold stp2
      rw [hs]
      by_cases hc : isO (mlook9_2 (q[j]).name b) = true
      · rw [if_pos hc, if_pos hc]
        exact ⟨fun b' hb => (by cases hb), fun y hy => (by cases hy; rfl)⟩
      · rw [if_neg hc, if_neg hc]
        exact ⟨fun b' hb => (by cases hb; exact ⟨rfl, trivial⟩), fun y hy => (by cases hy)⟩) (fun b _ => by unfold steppa2 stpa2; dsimp only; rw [if_neg lt3]) q.length 0 m (by omega) trivial
  rw [List.drop_zero] at this
  refine this.trans ?_
  unfold Fpa2
  dsimp only
  cases scanL stp2 m q <;> rfl
def gpa2 : LP := fun st K => match upa2 st with | some k => if okpa2 k = true then (if isL (scanL stp2 k.m k.q) = true then K (.ex 2) (Xpa2 ⟨k.s, k.l, k.er, k.d, getL [] (scanL stp2 k.m k.q)⟩) else K .ret (Xpa2 ⟨k.s, k.l, 5, k.d, getR [] (scanL stp2 k.m k.q)⟩)) else none | none => none
theorem okgpa2 : OKL 60 13 gpa2 := okfpa2 (fuel := fun k => k.q.length) (ok := okpa2) (F := Fpa2) ipa2 fun st K => by
  unfold gpa2
  split
  · rename_i k hu
    split
    · unfold Fpa2
      cases scanL stp2 k.m k.q <;> rfl
    · rfl
  · rfl
def idxC (d : GDescriptor) (l : List GParam) : Bool := l.all fun x => decide (0 ≤ idxB x.name d.params) && decide (idxB x.name d.params < (d.params.length : Int))
def okpa3 (k : Kpa3) : Bool := decide (k.i = 0) && (decide (k.n = (k.q.length : Int)) && (Nat.ble k.q.length 9223372036854775807 && (lenB k.d.params && idxC k.d k.q)))
def Fpa3 (k : Kpa3) : Fx Epa3 := match scanL (stp3 k.d) () k.q with | .inl _ => .ex ⟨k.s, k.l, k.er, k.d, k.m⟩ | .inr _ => .ret ⟨k.s, k.l, 6, k.d, k.m⟩
theorem ipa3 (k : Kpa3) (h : okpa3 k = true) : iter steppa3 k.q.length k = some (Fpa3 k) := by
  unfold okpa3 at h
  simp only [Bool.and_eq_true, decide_eq_true_eq] at h
  obtain ⟨h0, h1, h2, h3, h4⟩ := h
  replace h2 := Nat.le_of_ble_eq_true h2
  obtain ⟨s, l, er, d, m, q, n, i⟩ := k
  dsimp only at h0 h1 h2 h3 h4
  subst h0; subst h1
  have := iter_scan (step := steppa3) q (fun (_ : Unit) j => (⟨s, l, er, d, m, q, (q.length : Int), (j : Int)⟩ : Kpa3)) (stp3 d) (fun _ => (⟨s, l, er, d, m⟩ : Epa3)) (fun _ => (⟨s, l, 6, d, m⟩ : Epa3)) (fun _ _ => True)
    (fun b j h _ => by
      have hj := List.all_eq_true.1 h4 q[j] (List.getElem_mem h)
      simp only [Bool.and_eq_true, decide_eq_true_eq] at hj
      have hs : steppa3 ⟨s, l, er, d, m, q, (q.length : Int), (j : Int)⟩ = if rngB d q[j] = true then .ret ⟨s, l, 6, d, m⟩ else .go ⟨s, l, er, d, m, q, (q.length : Int), ((j + 1 : Nat) : Int)⟩ := by
        unfold steppa3 stpa3
        dsimp only
        rw [cnt h h2, gtj _ _ _ h, if_pos (lt1 h), if_pos lt0, if_pos (lt2 h), if_pos h3, if_pos hj.1, if_pos hj.2]
        unfold rngB
        show (if decide ((q[j]).value < (gt gb0 d.params (idxB (q[j]).name d.params).toNat).lo) = false then (if decide ((q[j]).value > (gt gb0 d.params (idxB (q[j]).name d.params).toNat).hi) = true then (.ret ⟨s, l, 6, d, m⟩ : Nx Kpa3 Epa3) else .go ⟨s, l, er, d, m, q, (q.length : Int), ((j + 1 : Nat) : Int)⟩) else .ret ⟨s, l, 6, d, m⟩) = _
        cases decide ((q[j]).value < (gt gb0 d.params (idxB (q[j]).name d.params).toNat).lo) <;> cases decide ((q[j]).value > (gt gb0 d.params (idxB (q[j]).name d.params).toNat).hi) <;> rfl
      unfold stp3
      rw [hs]
      by_cases hc : rngB d q[j] = true
      · rw [if_pos hc, if_pos hc]
        exact ⟨fun b' hb => (by cases hb), fun y hy => rfl⟩
      · rw [if_neg hc, if_neg hc]
        exact ⟨fun b' hb => ⟨rfl, trivial⟩, fun y hy => (by cases hy)⟩) (fun b _ => by unfold steppa3 stpa3; dsimp only; rw [if_neg lt3]) q.length 0 () (by omega) trivial
  rw [List.drop_zero] at this
  refine this.trans ?_
  unfold Fpa3
  dsimp only
  cases scanL (stp3 d) () q <;> rfl
def gpa3 : LP := fun st K => match upa3 st with | some k => if okpa3 k = true then (if isL (scanL (stp3 k.d) () k.q) = true then K (.ex 4) (Xpa3 ⟨k.s, k.l, k.er, k.d, k.m⟩) else K .ret (Xpa3 ⟨k.s, k.l, 6, k.d, k.m⟩)) else none | none => none
theorem okgpa3 : OKL 60 21 gpa3 := okfpa3 (fuel := fun k => k.q.length) (ok := okpa3) (F := Fpa3) ipa3 fun st K => by
  unfold gpa3
  split
  · rename_i k hu
    split
    · unfold Fpa3
      cases scanL (stp3 k.d) () k.q <;> rfl
    · rfl
  · rfl
def okpa4 (k : Kpa4) : Bool := decide (k.i = 0) && (decide (k.n = (k.q.length : Int)) && Nat.blt (k.o.length + k.q.length) 16777216)
theorem ipa4 (k : Kpa4) (h : okpa4 k = true) : iter steppa4 k.q.length k = some (.ex ⟨k.s, k.o ++ k.q.map (parV k.m)⟩) := by
  unfold okpa4 at h
  simp only [Bool.and_eq_true, decide_eq_true_eq] at h
  obtain ⟨h0, h1, h2⟩ := h
  replace h2 : k.o.length + k.q.length < 16777216 := Nat.le_of_ble_eq_true h2
  obtain ⟨s, m, o, q, n, i⟩ := k
  dsimp only at h0 h1 h2
  subst h0; subst h1
  have e : ∀ (l : List GBound) (o : List Int), l.foldl (fun o x => o ++ [parV m x]) o = o ++ l.map (parV m) := fun l => by
    induction l with
    | nil => intro o; simp
    | cons x l ih => intro o; rw [List.foldl_cons, ih]; simp
  have := iter_fold (step := steppa4) q (fun o j => (⟨s, m, o, q, (q.length : Int), (j : Int)⟩ : Kpa4)) (fun o x => o ++ [parV m x]) (fun o => (⟨s, o⟩ : Epa4)) (fun o j => o.length + (q.length - j) < 16777216)
    (fun b j h hI => ⟨by
      unfold steppa4 stpa4
      dsimp only
      rw [cnt h (by omega), gtj _ _ _ h, if_pos (lt1 h), if_pos lt0, if_pos (lt2 h)]
      unfold parV
      by_cases hc : (!isO (mlook9_2 (q[j]).name m)) = true
      · rw [if_pos hc, if_pos hc]
        exact if_pos (show b.length + 1 < 16777216 by omega)
      · rw [if_neg hc, if_neg hc]
        exact if_pos (show b.length + 1 < 16777216 by omega), by simp; omega⟩) (fun b _ => by unfold steppa4 stpa4; dsimp only; rw [if_neg lt3]) q.length 0 o (by omega) (by simpa using h2)
  rw [List.drop_zero, e] at this
  exact this
def gpa4 : LP := fun st K => match upa4 st with | some k => if okpa4 k = true then K (.ex 6) (Xpa4 ⟨k.s, k.o ++ k.q.map (parV k.m)⟩) else none | none => none
theorem okgpa4 : OKL 60 29 gpa4 := okfpa4 (fuel := fun k => k.q.length) (ok := okpa4) (F := fun k => .ex ⟨k.s, k.o ++ k.q.map (parV k.m)⟩) ipa4 fun st K => rfl
def CP4 : Cfg := { cs := libP2, ks := Cpa1.ks ++ (Cpa2.ks ++ (Cpa3.ks ++ Cpa4.ks)), xs := Cpa1.xs ++ (Cpa2.xs ++ (Cpa3.xs ++ Cpa4.xs)), lps := [((60, 7), gpa1), ((60, 13), gpa2), ((60, 21), gpa3), ((60, 29), gpa4)] }
theorem CP4_ok : CfgOK CP4 := { con := libP2_ok, lp := .cons okgpa1 (.cons okgpa2 (.cons okgpa3 (.cons okgpa4 .nil))) }
def Rpar (n : ByteArray) (l : List GParam) : Option (Res At) :=
  if (n.size + 1).blt 4611686018427387904 = true then
   if (!decide (erD (findD n libL) = 0)) = true then
    some ((.tup [.nils, (.int .i64 (erD (findD n libL)))]), [])
   else
    if okpa1 { s := n, l := l, er := 0, d := orD (findD n libL), m := [], q := l, n := (↑l.length : Int), i := 0 : Kpa1 } = true then
     if isL (scanL (stp1 (orD (findD n libL))) () l) = true then
      if okpa2 { s := n, l := l, er := 0, d := orD (findD n libL), m := [], q := l, n := (↑l.length : Int), i := 0 : Kpa2 } = true then
       if isL (scanL stp2 [] l) = true then
        if okpa3 { s := n, l := l, er := 0, d := orD (findD n libL), m := getL [] (scanL stp2 [] l), q := l, n := (↑l.length : Int), i := 0 : Kpa3 } = true then
         if isL (scanL (stp3 (orD (findD n libL))) () l) = true then
          if okpa4 { s := n, m := getL [] (scanL stp2 [] l), o := [], q := (orD (findD n libL)).params, n := (↑(orD (findD n libL)).params.length : Int), i := 0 : Kpa4 } = true then
           if (holdsN n).ble ([] ++ List.map (parV (getL [] (scanL stp2 [] l))) (orD (findD n libL)).params).length = true then
            if (!holdsV n ([] ++ List.map (parV (getL [] (scanL stp2 [] l))) (orD (findD n libL)).params)) = true then
             some ((.tup [.nils, (.int .i64 10)]), [])
            else
             some ((.tup [(.own 0), (.int .i64 0)]), [(0, (.row 2 ([] ++ List.map (parV (getL [] (scanL stp2 [] l))) (orD (findD n libL)).params) false))])
           else
            none
          else
           none
         else
          some ((.tup [.nils, (.int .i64 6)]), [])
        else
         none
       else
        some ((.tup [.nils, (.int .i64 5)]), [])
      else
       none
     else
      some ((.tup [.nils, (.int .i64 3)]), [])
    else
     none
  else
   none
theorem run_Rpar (n : ByteArray) (l : List GParam) : runF CP4 80 60 [.str n, .ro 93 l] = Rpar n l := by kernel_rfl
end
end Go.Proofs.YtpbpebjfglfjfaaGreatDoor.X
