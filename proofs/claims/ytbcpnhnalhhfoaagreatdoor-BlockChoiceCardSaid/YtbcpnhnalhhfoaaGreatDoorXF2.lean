/-
  What fits: contracts; the loops over numbers.
-/
import Derived.Test.YtbcpnhnalhhfoaaGreatDoorXF1
set_option autoImplicit false
set_option linter.unusedVariables false
set_option linter.unusedSimpArgs false
set_option maxRecDepth 100000
namespace Go.Proofs.YtbcpnhnalhhfoaaGreatDoor.X
open Go Go.Proofs Go.RowKit Go.Proofs.YtbcpnhnalhhfoaaGreatDoor
noncomputable section
def onLL {R : Type} (e g : Nat) (F : List (At e) → List (At g) → Option R) (l : List VT) : Option R := match l with | [x, y] => (match roV e x, roV g y with | some a, some b => F a b | _, _ => none) | _ => none
theorem onLL_spec {R : Type} {e g : Nat} {F : List (At e) → List (At g) → Option R} {l : List VT} {r : R} (h : onLL e g F l = some r) : ∃ a b, l = [.ro e a, .ro g b] ∧ F a b = some r := by
  unfold onLL at h
  split at h
  · split at h
    · rename_i hx hy
      exact ⟨_, _, by rw [roV_spec hx, roV_spec hy], h⟩
    · cases h
  · cases h
def fitC (ps : List GPort) (vs : List GValue) : Bool := Nat.ble ps.length vs.length && Nat.ble ps.length 9223372036854775807
def conFit : CON := onLL 65 38 fun (ps : List GPort) (vs : List GValue) => some (fitC ps vs, (.bool (fitL 0 ps vs), []))
theorem Rfit_eq (ps : List GPort) (vs : List GValue) (h : fitC ps vs = true) : Rfit ps vs = some (.bool (fitL 0 ps vs), []) := by
  unfold fitC at h
  unfold Rfit okfit
  simp only [Bool.and_eq_true] at h
  rw [h.1, h.2]
  simp only [decide_true, Bool.and_self, if_true]
  cases fitL 0 ps vs <;> rfl
theorem okFit : OK 35 conFit := ok_run C5_ok (by kernel_rfl) fun l r h => by
  replace h := onLL_spec h
  obtain ⟨a, b, rfl, h⟩ := h
  obtain ⟨hc, rfl⟩ := some_pair h
  exact ⟨60, (run_Rfit a b).trans (Rfit_eq a b hc)⟩
def onAL {R : Type} (e : Nat) (F : GDescriptor → List (At e) → Option R) (l : List VT) : Option R := match l with | [x, y] => (match agD x, roV e y with | some a, some b => F a b | _, _ => none) | _ => none
theorem onAL_spec {R : Type} {e : Nat} {F : GDescriptor → List (At e) → Option R} {l : List VT} {r : R} (h : onAL e F l = some r) : ∃ a b, l = [.agg (enc55 a), .ro e b] ∧ F a b = some r := by
  unfold onAL at h
  split at h
  · split at h
    · rename_i hx hy
      exact ⟨_, _, by rw [agD_spec hx, roV_spec hy], h⟩
    · cases h
  · cases h
def allowC (d : GDescriptor) : Bool := Nat.ble (holdsN d.name) d.params.length && Nat.ble d.params.length 9223372036854775807
def allowV (d : GDescriptor) (ps : List Int) : Bool := decide ((ps.length : Int) = (d.params.length : Int)) && (allowL d.params ps && holdsV d.name ps)
def conAlw : CON := onAL 2 fun d (ps : List Int) => some (allowC d, (.bool (allowV d ps), []))
theorem Ralw_eq (d : GDescriptor) (ps : List Int) (h : allowC d = true) : Ralw d ps = some (.bool (allowV d ps), []) := by
  unfold allowC at h
  simp only [Bool.and_eq_true] at h
  unfold Ralw okalw allowV
  by_cases hl : (ps.length : Int) = (d.params.length : Int)
  · have e : ps.length = d.params.length := by omega
    rw [decide_eq_true hl, e, h.1, h.2, Nat.ble_self_eq_true]
    simp only [decide_true, Bool.and_self, if_true]
    cases allowL d.params ps <;> rfl
  · rw [decide_eq_false hl]; rfl
theorem okAlw : OK 34 conAlw := ok_run C5_ok (by kernel_rfl) fun l r h => by
  replace h := onAL_spec h
  obtain ⟨a, b, rfl, h⟩ := h
  obtain ⟨hc, rfl⟩ := some_pair h
  exact ⟨60, (run_Ralw a b).trans (Ralw_eq a b hc)⟩
def lib5 : List (Nat × CON) := (35, conFit) :: (34, conAlw) :: lib4
theorem lib5_ok : AllOK lib5 := .cons okFit (.cons okAlw lib4_ok)
structure Ktot where
  s : Int
  l : List Int
  n : Int
  i : Int
structure Etot where
  s : Int
def Stot (k : Ktot) : St At := { env := [(3, .int .i64 k.s), (6, .ro 2 k.l), (7, .int .i64 k.n), (8, .int .i64 k.i)], stk := [], hp := [], nx := 0 }
def Xtot (k : Etot) : St At := { env := [(3, .int .i64 k.s)], stk := [], hp := [], nx := 0 }
def Ctot : Cfg := { cs := lib5, ks := [((64, 3), [(3, none), (6, none), (7, none), (8, none)])], xs := [((64, 3), [(3, none)])], lps := [] }
theorem Ctot_ok : CfgOK Ctot := { con := lib5_ok }
def sttot {α : Type} (k : Ktot) (go : Ktot → α) (ex ret : Etot → α) (no : α) : α :=
  if decide (k.i < k.n) = true then
   if 0 ≤ k.i then
    if k.i < (↑k.l.length : Int) then
     go ⟨(IntKind.i64.wrap (k.s + mxI (-1000000000000) (mnI 1000000000000 (gt (Int.ofNat 0) k.l k.i.toNat)))), (k.l), (k.n), (IntKind.i64.wrap (k.i + 1))⟩
    else
     no
   else
    no
  else
   ex ⟨(k.s)⟩
def steptot (k : Ktot) : Nx Ktot Etot := sttot k .go .ex .ret .no
theorem Btot (k : Ktot) (m : Nat) (R : St At → Option (Res At)) (K : Xit → St At → Option (Res At)) : B Ctot 64 3 (m + 60) (Stot k) R K = sttot k (fun k => R (Stot k)) (fun x => K (.ex 0) (Xtot x)) (fun x => K .ret (Xtot x)) none := by kernel_rfl
def utot (st : St At) : Option Ktot := match st with
  | ⟨[(3, .int .i64 s), (6, vl), (7, .int .i64 n), (8, .int .i64 i)], [], [], 0⟩ => (match roV 2 vl with | some l => some ⟨s, l, n, i⟩ | _ => none)
  | _ => none
theorem utot_spec {st : St At} {k : Ktot} (h : utot st = some k) : st = Stot k := by
  unfold utot at h
  split at h
  · split at h
    · rename_i h0
      obtain rfl := Option.some.inj h
      rw [roV_spec h0]
      rfl
    · cases h
  · cases h
theorem okltot {g : LP} (hg : ∀ st K q, g st K = some q → ∃ k n e, st = Stot k ∧ iter steptot n k = some e ∧ e.k 0 Xtot Xtot K = some q) : OKL 64 3 g := okl_iter Ctot_ok (S := Stot) (X := Xtot) (Y := Xtot) (step := steptot) (id := 0) (by kernel_rfl) (by kernel_rfl)
  (fun k m R K => by rw [Btot]; unfold steptot sttot; simp only [Nx.k_ite]; rfl) (fun k => by kernel_rfl) hg
/-- the contract out of a closed form -/
theorem okftot {g : LP} {fuel : Ktot → Nat} {ok : Ktot → Bool} {F : Ktot → Fx Etot} (hF : ∀ k, ok k = true → iter steptot (fuel k) k = some (F k)) (hg : ∀ st K, g st K = (match utot st with | some k => if ok k = true then (F k).k 0 Xtot Xtot K else none | none => none)) : OKL 64 3 g := okltot fun st K q h => by
  rw [hg] at h
  split at h
  · rename_i k hu
    split at h
    · rename_i hok; exact ⟨k, _, _, utot_spec hu, hF k hok, h⟩
    · cases h
  · cases h
structure Kmin where
  l : List Int
  s : Int
  i : Int
structure Emin where
  s : Int
def Smin (k : Kmin) : St At := { env := [(0, .ro 2 k.l), (3, .int .i64 k.s), (4, .int .i64 k.i)], stk := [], hp := [], nx := 0 }
def Xmin (k : Emin) : St At := { env := [(3, .int .i64 k.s)], stk := [], hp := [], nx := 0 }
def Cmin : Cfg := { cs := lib5, ks := [((46, 5), [(0, none), (3, none), (4, none)])], xs := [((46, 5), [(3, none)])], lps := [] }
theorem Cmin_ok : CfgOK Cmin := { con := lib5_ok }
def stmin {α : Type} (k : Kmin) (go : Kmin → α) (ex ret : Emin → α) (no : α) : α :=
  if decide (k.i < (↑k.l.length : Int)) = true then
   if 0 ≤ k.i then
    if k.i < (↑k.l.length : Int) then
     go ⟨(k.l), (mnI k.s (gt (Int.ofNat 0) k.l k.i.toNat)), (IntKind.i64.wrap (k.i + 1))⟩
    else
     no
   else
    no
  else
   ex ⟨(k.s)⟩
def stepmin (k : Kmin) : Nx Kmin Emin := stmin k .go .ex .ret .no
theorem Bmin (k : Kmin) (m : Nat) (R : St At → Option (Res At)) (K : Xit → St At → Option (Res At)) : B Cmin 46 5 (m + 60) (Smin k) R K = stmin k (fun k => R (Smin k)) (fun x => K (.ex 0) (Xmin x)) (fun x => K .ret (Xmin x)) none := by kernel_rfl
def umin (st : St At) : Option Kmin := match st with
  | ⟨[(0, vl), (3, .int .i64 s), (4, .int .i64 i)], [], [], 0⟩ => (match roV 2 vl with | some l => some ⟨l, s, i⟩ | _ => none)
  | _ => none
theorem umin_spec {st : St At} {k : Kmin} (h : umin st = some k) : st = Smin k := by
  unfold umin at h
  split at h
  · split at h
    · rename_i h0
      obtain rfl := Option.some.inj h
      rw [roV_spec h0]
      rfl
    · cases h
  · cases h
theorem oklmin {g : LP} (hg : ∀ st K q, g st K = some q → ∃ k n e, st = Smin k ∧ iter stepmin n k = some e ∧ e.k 0 Xmin Xmin K = some q) : OKL 46 5 g := okl_iter Cmin_ok (S := Smin) (X := Xmin) (Y := Xmin) (step := stepmin) (id := 0) (by kernel_rfl) (by kernel_rfl)
  (fun k m R K => by rw [Bmin]; unfold stepmin stmin; simp only [Nx.k_ite]; rfl) (fun k => by kernel_rfl) hg
/-- the contract out of a closed form -/
theorem okfmin {g : LP} {fuel : Kmin → Nat} {ok : Kmin → Bool} {F : Kmin → Fx Emin} (hF : ∀ k, ok k = true → iter stepmin (fuel k) k = some (F k)) (hg : ∀ st K, g st K = (match umin st with | some k => if ok k = true then (F k).k 0 Xmin Xmin K else none | none => none)) : OKL 46 5 g := oklmin fun st K q h => by
  rw [hg] at h
  split at h
  · rename_i k hu
    split at h
    · rename_i hok; exact ⟨k, _, _, umin_spec hu, hF k hok, h⟩
    · cases h
  · cases h
structure Kmax where
  l : List Int
  s : Int
  i : Int
structure Emax where
  s : Int
def Smax (k : Kmax) : St At := { env := [(0, .ro 2 k.l), (3, .int .i64 k.s), (4, .int .i64 k.i)], stk := [], hp := [], nx := 0 }
def Xmax (k : Emax) : St At := { env := [(3, .int .i64 k.s)], stk := [], hp := [], nx := 0 }
def Cmax : Cfg := { cs := lib5, ks := [((47, 5), [(0, none), (3, none), (4, none)])], xs := [((47, 5), [(3, none)])], lps := [] }
theorem Cmax_ok : CfgOK Cmax := { con := lib5_ok }
def stmax {α : Type} (k : Kmax) (go : Kmax → α) (ex ret : Emax → α) (no : α) : α :=
  if decide (k.i < (↑k.l.length : Int)) = true then
   if 0 ≤ k.i then
    if k.i < (↑k.l.length : Int) then
     go ⟨(k.l), (mxI k.s (gt (Int.ofNat 0) k.l k.i.toNat)), (IntKind.i64.wrap (k.i + 1))⟩
    else
     no
   else
    no
  else
   ex ⟨(k.s)⟩
def stepmax (k : Kmax) : Nx Kmax Emax := stmax k .go .ex .ret .no
theorem Bmax (k : Kmax) (m : Nat) (R : St At → Option (Res At)) (K : Xit → St At → Option (Res At)) : B Cmax 47 5 (m + 60) (Smax k) R K = stmax k (fun k => R (Smax k)) (fun x => K (.ex 0) (Xmax x)) (fun x => K .ret (Xmax x)) none := by kernel_rfl
def umax (st : St At) : Option Kmax := match st with
  | ⟨[(0, vl), (3, .int .i64 s), (4, .int .i64 i)], [], [], 0⟩ => (match roV 2 vl with | some l => some ⟨l, s, i⟩ | _ => none)
  | _ => none
theorem umax_spec {st : St At} {k : Kmax} (h : umax st = some k) : st = Smax k := by
  unfold umax at h
  split at h
  · split at h
    · rename_i h0
      obtain rfl := Option.some.inj h
      rw [roV_spec h0]
      rfl
    · cases h
  · cases h
theorem oklmax {g : LP} (hg : ∀ st K q, g st K = some q → ∃ k n e, st = Smax k ∧ iter stepmax n k = some e ∧ e.k 0 Xmax Xmax K = some q) : OKL 47 5 g := okl_iter Cmax_ok (S := Smax) (X := Xmax) (Y := Xmax) (step := stepmax) (id := 0) (by kernel_rfl) (by kernel_rfl)
  (fun k m R K => by rw [Bmax]; unfold stepmax stmax; simp only [Nx.k_ite]; rfl) (fun k => by kernel_rfl) hg
/-- the contract out of a closed form -/
theorem okfmax {g : LP} {fuel : Kmax → Nat} {ok : Kmax → Bool} {F : Kmax → Fx Emax} (hF : ∀ k, ok k = true → iter stepmax (fuel k) k = some (F k)) (hg : ∀ st K, g st K = (match umax st with | some k => if ok k = true then (F k).k 0 Xmax Xmax K else none | none => none)) : OKL 47 5 g := oklmax fun st K q h => by
  rw [hg] at h
  split at h
  · rename_i k hu
    split at h
    · rename_i hok; exact ⟨k, _, _, umax_spec hu, hF k hok, h⟩
    · cases h
  · cases h
structure Kevl where
  nm : ByteArray
  ps : List Int
  d : GDescriptor
  o : List Int
  l : List GValue
  n : Int
  i : Int
structure Eevl where
  nm : ByteArray
  ps : List Int
  d : GDescriptor
  o : List Int
def Sevl (k : Kevl) : St At := { env := [(0, .str k.nm), (1, .ro 2 k.ps), (6, .ptr 0 0), (8, .ptr 1 0), (11, .own 2), (83, .ro 38 k.l), (84, .int .i64 k.n), (85, .int .i64 k.i)], stk := [], hp := [(0, .var [.int .i64 0, .int .i64 0] false), (1, .var (enc55 k.d) false), (2, .row 2 k.o false)], nx := 3 }
def Xevl (k : Eevl) : St At := { env := [(0, .str k.nm), (1, .ro 2 k.ps), (6, .ptr 0 0), (8, .ptr 1 0), (11, .own 2)], stk := [], hp := [(0, .var [.int .i64 0, .int .i64 0] false), (1, .var (enc55 k.d) false), (2, .row 2 k.o false)], nx := 3 }
def Cevl : Cfg := { cs := lib5, ks := [((18, 18), [(0, none), (1, none), (6, none), (8, none), (11, some 2), (83, none), (84, none), (85, none)])], xs := [((18, 18), [(0, none), (1, none), (6, none), (8, none), (11, some 2)])], lps := [] }
theorem Cevl_ok : CfgOK Cevl := { con := lib5_ok }
def stevl {α : Type} (k : Kevl) (go : Kevl → α) (ex ret : Eevl → α) (no : α) : α :=
  if decide (k.i < k.n) = true then
   if 0 ≤ k.i then
    if k.i < (↑k.l.length : Int) then
     if k.o.length + [mxI (-1000000000000) (mnI 1000000000000 (gt { kind := 0, n := 0 } k.l k.i.toNat).n)].length < 16777216 then
      go ⟨(k.nm), (k.ps), (k.d), (k.o ++ [mxI (-1000000000000) (mnI 1000000000000 (gt { kind := 0, n := 0 } k.l k.i.toNat).n)]), (k.l), (k.n), (IntKind.i64.wrap (k.i + 1))⟩
     else
      no
    else
     no
   else
    no
  else
   ex ⟨(k.nm), (k.ps), (k.d), (k.o)⟩
def stepevl (k : Kevl) : Nx Kevl Eevl := stevl k .go .ex .ret .no
theorem Bevl (k : Kevl) (m : Nat) (R : St At → Option (Res At)) (K : Xit → St At → Option (Res At)) : B Cevl 18 18 (m + 60) (Sevl k) R K = stevl k (fun k => R (Sevl k)) (fun x => K (.ex 1) (Xevl x)) (fun x => K .ret (Xevl x)) none := by kernel_rfl
def uevl (st : St At) : Option Kevl := match st with
  | ⟨[(0, .str nm), (1, vps), (6, .ptr 0 0), (8, .ptr 1 0), (11, .own 2), (83, vl), (84, .int .i64 n), (85, .int .i64 i)], [], [(0, .var [.int .i64 0, .int .i64 0] false), (1, .var wd false), (2, bo)], 3⟩ => (match roV 2 vps, ex55 wd, rowB 2 bo, roV 38 vl with | some ps, some d, some o, some l => some ⟨nm, ps, d, o, l, n, i⟩ | _, _, _, _ => none)
  | _ => none
theorem uevl_spec {st : St At} {k : Kevl} (h : uevl st = some k) : st = Sevl k := by
  unfold uevl at h
  split at h
  · split at h
    · rename_i h0 h1 h2 h3
      obtain rfl := Option.some.inj h
      rw [roV_spec h0, ex55_spec h1, rowB_spec h2, roV_spec h3]
      rfl
    · cases h
  · cases h
theorem oklevl {g : LP} (hg : ∀ st K q, g st K = some q → ∃ k n e, st = Sevl k ∧ iter stepevl n k = some e ∧ e.k 1 Xevl Xevl K = some q) : OKL 18 18 g := okl_iter Cevl_ok (S := Sevl) (X := Xevl) (Y := Xevl) (step := stepevl) (id := 1) (by kernel_rfl) (by kernel_rfl)
  (fun k m R K => by rw [Bevl]; unfold stepevl stevl; simp only [Nx.k_ite]; rfl) (fun k => by kernel_rfl) hg
/-- the contract out of a closed form -/
theorem okfevl {g : LP} {fuel : Kevl → Nat} {ok : Kevl → Bool} {F : Kevl → Fx Eevl} (hF : ∀ k, ok k = true → iter stepevl (fuel k) k = some (F k)) (hg : ∀ st K, g st K = (match uevl st with | some k => if ok k = true then (F k).k 1 Xevl Xevl K else none | none => none)) : OKL 18 18 g := oklevl fun st K q h => by
  rw [hg] at h
  split at h
  · rename_i k hu
    split at h
    · rename_i hok; exact ⟨k, _, _, uevl_spec hu, hF k hok, h⟩
    · cases h
  · cases h
end
end Go.Proofs.YtbcpnhnalhhfoaaGreatDoor.X
