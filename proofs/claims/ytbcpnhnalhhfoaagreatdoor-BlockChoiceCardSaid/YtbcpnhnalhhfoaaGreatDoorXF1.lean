/-
  What fits: values beside inputs, parameters beside bounds.
-/
import Derived.Test.YtbcpnhnalhhfoaaGreatDoorXF0
set_option autoImplicit false
set_option linter.unusedVariables false
set_option linter.unusedSimpArgs false
set_option maxRecDepth 100000
namespace Go.Proofs.YtbcpnhnalhhfoaaGreatDoor.X
open Go Go.Proofs Go.RowKit Go.Proofs.YtbcpnhnalhhfoaaGreatDoor
noncomputable section
def gv0 : GValue := ⟨0, 0⟩
def ex55 (l : List VT) : Option GDescriptor := exD l
theorem ex55_spec {l : List VT} {d : GDescriptor} (h : ex55 l = some d) : l = enc55 d := exD_spec h
def lib4 : List (Nat × CON) := (30, conHolds) :: (76, conDiv) :: (66, conMul64) :: (63, conSize) :: (45, conPoss) :: (21, conPlain) :: (17, conBin) :: lib3
theorem lib4_ok : AllOK lib4 := .cons okHolds (.cons okDiv (.cons okMul64 (.cons okSize (.cons okPoss (.cons okPlain (.cons okBin lib3_ok))))))
def C4 : Cfg := { cs := lib4 }
theorem C4_ok : CfgOK C4 := { con := lib4_ok }
structure Kfit where
  vs : List GValue
  res : Bool
  any : Int
  ps : List GPort
  n : Int
  i : Int
structure Efit where
  res : Bool
def Sfit (k : Kfit) : St At := { env := [(1, .ro 38 k.vs), (4, .bool k.res), (5, .int .i64 k.any), (9, .ro 65 k.ps), (10, .int .i64 k.n), (11, .int .i64 k.i)], stk := [], hp := [], nx := 0 }
def Xfit (k : Efit) : St At := { env := [(4, .bool k.res)], stk := [], hp := [], nx := 0 }
def Cfit : Cfg := { cs := lib4, ks := [((35, 3), [(1, none), (4, none), (5, none), (9, none), (10, none), (11, none)])], xs := [((35, 3), [(4, none)])], lps := [] }
theorem Cfit_ok : CfgOK Cfit := { con := lib4_ok }
def stfit {α : Type} (k : Kfit) (go : Kfit → α) (ex ret : Efit → α) (no : α) : α :=
  if decide (k.i < k.n) = true then
   if 0 ≤ k.i then
    if k.i < (↑k.ps.length : Int) then
     if eqB (gt { name := { data := #[] }, type_ := { data := #[] } } k.ps k.i.toNat).type_ { data := #[98, 105, 110, 97, 114, 121] } = true then
      if 0 ≤ k.i then
       if k.i < (↑k.vs.length : Int) then
        if (!possB (gt { kind := 0, n := 0 } k.vs k.i.toNat).kind (gt { kind := 0, n := 0 } k.vs k.i.toNat).n 2) = true then
         ret ⟨(false)⟩
        else
         go ⟨(k.vs), (k.res), (k.any), (k.ps), (k.n), (IntKind.i64.wrap (k.i + 1))⟩
       else
        no
      else
       no
     else
      if eqB (gt { name := { data := #[] }, type_ := { data := #[] } } k.ps k.i.toNat).type_ { data := #[109, 117, 108, 116, 105] } = true then
       if 0 ≤ k.i then
        if k.i < (↑k.vs.length : Int) then
         if (!possB (gt { kind := 0, n := 0 } k.vs k.i.toNat).kind (gt { kind := 0, n := 0 } k.vs k.i.toNat).n 3) = true then
          ret ⟨(false)⟩
         else
          go ⟨(k.vs), (k.res), (k.any), (k.ps), (k.n), (IntKind.i64.wrap (k.i + 1))⟩
        else
         no
       else
        no
      else
       if eqB (gt { name := { data := #[] }, type_ := { data := #[] } } k.ps k.i.toNat).type_ { data := #[84] } = true then
        if decide (k.any = 0) = true then
         if 0 ≤ k.i then
          if k.i < (↑k.vs.length : Int) then
           if 0 ≤ k.i then
            if k.i < (↑k.vs.length : Int) then
             if (!possB (gt { kind := 0, n := 0 } k.vs k.i.toNat).kind (gt { kind := 0, n := 0 } k.vs k.i.toNat).n (gt { kind := 0, n := 0 } k.vs k.i.toNat).kind) = true then
              ret ⟨(false)⟩
             else
              go ⟨(k.vs), (k.res), ((gt { kind := 0, n := 0 } k.vs k.i.toNat).kind), (k.ps), (k.n), (IntKind.i64.wrap (k.i + 1))⟩
            else
             no
           else
            no
          else
           no
         else
          no
        else
         if 0 ≤ k.i then
          if k.i < (↑k.vs.length : Int) then
           if (!possB (gt { kind := 0, n := 0 } k.vs k.i.toNat).kind (gt { kind := 0, n := 0 } k.vs k.i.toNat).n k.any) = true then
            ret ⟨(false)⟩
           else
            go ⟨(k.vs), (k.res), (k.any), (k.ps), (k.n), (IntKind.i64.wrap (k.i + 1))⟩
          else
           no
         else
          no
       else
        if 0 ≤ k.i then
         if k.i < (↑k.vs.length : Int) then
          if (!possB (gt { kind := 0, n := 0 } k.vs k.i.toNat).kind (gt { kind := 0, n := 0 } k.vs k.i.toNat).n 1) = true then
           ret ⟨(false)⟩
          else
           go ⟨(k.vs), (k.res), (k.any), (k.ps), (k.n), (IntKind.i64.wrap (k.i + 1))⟩
         else
          no
        else
         no
    else
     no
   else
    no
  else
   ex ⟨(k.res)⟩
def stepfit (k : Kfit) : Nx Kfit Efit := stfit k .go .ex .ret .no
theorem Bfit (k : Kfit) (m : Nat) (R : St At → Option (Res At)) (K : Xit → St At → Option (Res At)) : B Cfit 35 3 (m + 60) (Sfit k) R K = stfit k (fun k => R (Sfit k)) (fun x => K (.ex 0) (Xfit x)) (fun x => K .ret (Xfit x)) none := by kernel_rfl
def ufit (st : St At) : Option Kfit := match st with
  | ⟨[(1, vvs), (4, .bool res), (5, .int .i64 any), (9, vps), (10, .int .i64 n), (11, .int .i64 i)], [], [], 0⟩ => (match roV 38 vvs, roV 65 vps with | some vs, some ps => some ⟨vs, res, any, ps, n, i⟩ | _, _ => none)
  | _ => none
theorem ufit_spec {st : St At} {k : Kfit} (h : ufit st = some k) : st = Sfit k := by
  unfold ufit at h
  split at h
  · split at h
    · rename_i h0 h1
      obtain rfl := Option.some.inj h
      rw [roV_spec h0, roV_spec h1]
      rfl
    · cases h
  · cases h
theorem oklfit {g : LP} (hg : ∀ st K q, g st K = some q → ∃ k n e, st = Sfit k ∧ iter stepfit n k = some e ∧ e.k 0 Xfit Xfit K = some q) : OKL 35 3 g := okl_iter Cfit_ok (S := Sfit) (X := Xfit) (Y := Xfit) (step := stepfit) (id := 0) (by kernel_rfl) (by kernel_rfl)
  (fun k m R K => by rw [Bfit]; unfold stepfit stfit; simp only [Nx.k_ite]; rfl) (fun k => by kernel_rfl) hg
/-- the contract out of a closed form -/
theorem okffit {g : LP} {fuel : Kfit → Nat} {ok : Kfit → Bool} {F : Kfit → Fx Efit} (hF : ∀ k, ok k = true → iter stepfit (fuel k) k = some (F k)) (hg : ∀ st K, g st K = (match ufit st with | some k => if ok k = true then (F k).k 0 Xfit Xfit K else none | none => none)) : OKL 35 3 g := oklfit fun st K q h => by
  rw [hg] at h
  split at h
  · rename_i k hu
    split at h
    · rename_i hok; exact ⟨k, _, _, ufit_spec hu, hF k hok, h⟩
    · cases h
  · cases h
structure Kalw where
  ps : List Int
  d : GDescriptor
  res : Bool
  bs : List GBound
  n : Int
  i : Int
structure Ealw where
  ps : List Int
  d : GDescriptor
  res : Bool
def Salw (k : Kalw) : St At := { env := [(1, .ro 2 k.ps), (2, .ptr 0 0), (4, .bool k.res), (14, .ro 69 k.bs), (15, .int .i64 k.n), (16, .int .i64 k.i)], stk := [], hp := [(0, .var (enc55 k.d) false)], nx := 1 }
def Xalw (k : Ealw) : St At := { env := [(1, .ro 2 k.ps), (2, .ptr 0 0), (4, .bool k.res)], stk := [], hp := [(0, .var (enc55 k.d) false)], nx := 1 }
def Calw : Cfg := { cs := lib4, ks := [((34, 4), [(1, none), (2, none), (4, none), (14, none), (15, none), (16, none)])], xs := [((34, 4), [(1, none), (2, none), (4, none)])], lps := [] }
theorem Calw_ok : CfgOK Calw := { con := lib4_ok }
def stalw {α : Type} (k : Kalw) (go : Kalw → α) (ex ret : Ealw → α) (no : α) : α :=
  if decide (k.i < k.n) = true then
   if 0 ≤ k.i then
    if k.i < (↑k.bs.length : Int) then
     if 0 ≤ k.i then
      if k.i < (↑k.ps.length : Int) then
       if decide (gt (Int.ofNat 0) k.ps k.i.toNat < (gt { name := { data := #[] }, lo := 0, hi := 0, default_ := 0 } k.bs k.i.toNat).lo) = false then
        if 0 ≤ k.i then
         if k.i < (↑k.ps.length : Int) then
          if decide (gt (Int.ofNat 0) k.ps k.i.toNat > (gt { name := { data := #[] }, lo := 0, hi := 0, default_ := 0 } k.bs k.i.toNat).hi) = true then
           ret ⟨(k.ps), (k.d), (false)⟩
          else
           go ⟨(k.ps), (k.d), (k.res), (k.bs), (k.n), (IntKind.i64.wrap (k.i + 1))⟩
         else
          no
        else
         no
       else
        ret ⟨(k.ps), (k.d), (false)⟩
      else
       no
     else
      no
    else
     no
   else
    no
  else
   ex ⟨(k.ps), (k.d), (k.res)⟩
def stepalw (k : Kalw) : Nx Kalw Ealw := stalw k .go .ex .ret .no
theorem Balw (k : Kalw) (m : Nat) (R : St At → Option (Res At)) (K : Xit → St At → Option (Res At)) : B Calw 34 4 (m + 60) (Salw k) R K = stalw k (fun k => R (Salw k)) (fun x => K (.ex 0) (Xalw x)) (fun x => K .ret (Xalw x)) none := by kernel_rfl
def ualw (st : St At) : Option Kalw := match st with
  | ⟨[(1, vps), (2, .ptr 0 0), (4, .bool res), (14, vbs), (15, .int .i64 n), (16, .int .i64 i)], [], [(0, .var wd false)], 1⟩ => (match roV 2 vps, ex55 wd, roV 69 vbs with | some ps, some d, some bs => some ⟨ps, d, res, bs, n, i⟩ | _, _, _ => none)
  | _ => none
theorem ualw_spec {st : St At} {k : Kalw} (h : ualw st = some k) : st = Salw k := by
  unfold ualw at h
  split at h
  · split at h
    · rename_i h0 h1 h2
      obtain rfl := Option.some.inj h
      rw [roV_spec h0, ex55_spec h1, roV_spec h2]
      rfl
    · cases h
  · cases h
theorem oklalw {g : LP} (hg : ∀ st K q, g st K = some q → ∃ k n e, st = Salw k ∧ iter stepalw n k = some e ∧ e.k 0 Xalw Xalw K = some q) : OKL 34 4 g := okl_iter Calw_ok (S := Salw) (X := Xalw) (Y := Xalw) (step := stepalw) (id := 0) (by kernel_rfl) (by kernel_rfl)
  (fun k m R K => by rw [Balw]; unfold stepalw stalw; simp only [Nx.k_ite]; rfl) (fun k => by kernel_rfl) hg
/-- the contract out of a closed form -/
theorem okfalw {g : LP} {fuel : Kalw → Nat} {ok : Kalw → Bool} {F : Kalw → Fx Ealw} (hF : ∀ k, ok k = true → iter stepalw (fuel k) k = some (F k)) (hg : ∀ st K, g st K = (match ualw st with | some k => if ok k = true then (F k).k 0 Xalw Xalw K else none | none => none)) : OKL 34 4 g := oklalw fun st K q h => by
  rw [hg] at h
  split at h
  · rename_i k hu
    split at h
    · rename_i hok; exact ⟨k, _, _, ualw_spec hu, hF k hok, h⟩
    · cases h
  · cases h
/-! closed forms -/
theorem nat_lt_pos {j n : Nat} (h : j < n) : decide ((j : Int) < (n : Int)) = true := by simp; omega
def kindT (any : Int) (p : GPort) (v : GValue) : Int := if eqB p.type_ ⟨#[98, 105, 110, 97, 114, 121]⟩ = true then 2 else if eqB p.type_ ⟨#[109, 117, 108, 116, 105]⟩ = true then 3 else if eqB p.type_ ⟨#[84]⟩ = true then (if decide (any = 0) = true then v.kind else any) else 1
def anyT (any : Int) (p : GPort) (v : GValue) : Int := if eqB p.type_ ⟨#[98, 105, 110, 97, 114, 121]⟩ = true then any else if eqB p.type_ ⟨#[109, 117, 108, 116, 105]⟩ = true then any else if eqB p.type_ ⟨#[84]⟩ = true then (if decide (any = 0) = true then v.kind else any) else any
def fitL : Int → List GPort → List GValue → Bool
  | _, [], _ => true
  | any, p :: ps, v :: vs => possB v.kind v.n (kindT any p v) && fitL (anyT any p v) ps vs
  | _, _ :: _, [] => false
theorem step_fit (k : Kfit) (j : Nat) (hi : k.i = (j : Int)) (hn : k.n = (k.ps.length : Int)) (hj : j < k.ps.length) (hv : j < k.vs.length) (hm : k.ps.length ≤ 9223372036854775807) :
    stepfit k = if possB (k.vs[j]).kind (k.vs[j]).n (kindT k.any k.ps[j] k.vs[j]) = true then .go ⟨k.vs, k.res, anyT k.any k.ps[j] k.vs[j], k.ps, k.n, ((j + 1 : Nat) : Int)⟩ else .ret ⟨false⟩ := by
  have hw : IntKind.i64.wrap (k.i + 1) = ((j + 1 : Nat) : Int) := by rw [hi]; exact wrap_small (by omega) (by omega)
  have e0 : k.i < k.n := by omega
  have e1 : 0 ≤ k.i := by omega
  have e2 : k.i < (k.ps.length : Int) := by omega
  have e3 : k.i < (k.vs.length : Int) := by omega
  have t : k.i.toNat = j := by omega
  have g1 : gt (⟨⟨#[]⟩, ⟨#[]⟩⟩ : GPort) k.ps k.i.toNat = k.ps[j] := by rw [t, gt_at _ _ _ hj]
  have g2 : gt (⟨0, 0⟩ : GValue) k.vs k.i.toNat = k.vs[j] := by rw [t, gt_at _ _ _ hv]
  unfold stepfit stfit
  simp only [hw, if_pos (decide_eq_true e0), if_pos e1, if_pos e2, if_pos e3, g1, g2]
  unfold kindT anyT
  by_cases h1 : eqB (k.ps[j]).type_ ⟨#[98, 105, 110, 97, 114, 121]⟩ = true
  · simp only [if_pos h1]
    cases possB (k.vs[j]).kind (k.vs[j]).n 2 <;> rfl
  · simp only [if_neg h1]
    by_cases h2 : eqB (k.ps[j]).type_ ⟨#[109, 117, 108, 116, 105]⟩ = true
    · simp only [if_pos h2]
      cases possB (k.vs[j]).kind (k.vs[j]).n 3 <;> rfl
    · simp only [if_neg h2]
      by_cases h3 : eqB (k.ps[j]).type_ ⟨#[84]⟩ = true
      · simp only [if_pos h3]
        by_cases h4 : decide (k.any = 0) = true
        · simp only [if_pos h4]
          cases possB (k.vs[j]).kind (k.vs[j]).n (k.vs[j]).kind <;> rfl
        · simp only [if_neg h4]
          cases possB (k.vs[j]).kind (k.vs[j]).n k.any <;> rfl
      · simp only [if_neg h3]
        cases possB (k.vs[j]).kind (k.vs[j]).n 1 <;> rfl
theorem iter_fit : ∀ (m j : Nat) (k : Kfit), k.i = (j : Int) → k.n = (k.ps.length : Int) → j + m = k.ps.length → k.ps.length ≤ k.vs.length → k.ps.length ≤ 9223372036854775807 →
    iter stepfit m k = some (if fitL k.any (k.ps.drop j) (k.vs.drop j) = true then .ex ⟨k.res⟩ else .ret ⟨false⟩)
  | 0, j, k, hi, hn, hj, hv, hm => by
    rw [List.drop_eq_nil_of_le (show k.ps.length ≤ j by omega)]
    refine (iter_ex ?_ 0).trans (by rw [show fitL k.any [] (k.vs.drop j) = true by unfold fitL; rfl]; rfl)
    unfold stepfit stfit
    rw [if_neg (by simp; omega)]
  | m + 1, j, k, hi, hn, hj, hv, hm => by
    have h1 : j < k.ps.length := by omega
    have h2 : j < k.vs.length := by omega
    have hs := step_fit k j hi hn h1 h2 hm
    rw [List.drop_eq_getElem_cons h1, List.drop_eq_getElem_cons h2]
    unfold fitL
    by_cases hp : possB (k.vs[j]).kind (k.vs[j]).n (kindT k.any k.ps[j] k.vs[j]) = true
    · rw [if_pos hp] at hs
      rw [iter_go hs, hp]
      exact iter_fit m (j + 1) ⟨k.vs, k.res, anyT k.any k.ps[j] k.vs[j], k.ps, k.n, ((j + 1 : Nat) : Int)⟩ rfl hn (by show j + 1 + m = k.ps.length; omega) hv hm
    · rw [if_neg hp] at hs
      rw [iter_ret hs]
      simp [hp]
def okfit (k : Kfit) : Bool := decide (k.i = 0) && (decide (k.n = (k.ps.length : Int)) && (Nat.ble k.ps.length k.vs.length && Nat.ble k.ps.length 9223372036854775807))
def gfit : LP := fun st K => match ufit st with | some k => if okfit k = true then (if fitL k.any k.ps k.vs = true then K (.ex 0) (Xfit ⟨k.res⟩) else K .ret (Xfit ⟨false⟩)) else none | none => none
theorem okgfit : OKL 35 3 gfit := okffit (fuel := fun k => k.ps.length) (ok := okfit) (F := fun k => if fitL k.any k.ps k.vs = true then .ex ⟨k.res⟩ else .ret ⟨false⟩) (fun k h => by
  unfold okfit at h
  simp only [Bool.and_eq_true, decide_eq_true_eq] at h
  have := iter_fit k.ps.length 0 k h.1 h.2.1 (by omega) (Nat.le_of_ble_eq_true h.2.2.1) (Nat.le_of_ble_eq_true h.2.2.2)
  rw [List.drop_zero, List.drop_zero] at this
  exact this) fun st K => by
  unfold gfit
  split
  · rename_i k hu
    split
    · cases fitL k.any k.ps k.vs <;> rfl
    · rfl
  · rfl
def allowL : List GBound → List Int → Bool
  | [], _ => true
  | b :: bs, p :: ps => !decide (p < b.lo) && (!decide (p > b.hi) && allowL bs ps)
  | _ :: _, [] => false
theorem step_alw (k : Kalw) (j : Nat) (hi : k.i = (j : Int)) (hn : k.n = (k.bs.length : Int)) (hj : j < k.bs.length) (hv : j < k.ps.length) (hm : k.bs.length ≤ 9223372036854775807) :
    stepalw k = if (!decide (k.ps[j] < (k.bs[j]).lo) && !decide (k.ps[j] > (k.bs[j]).hi)) = true then .go ⟨k.ps, k.d, k.res, k.bs, k.n, ((j + 1 : Nat) : Int)⟩ else .ret ⟨k.ps, k.d, false⟩ := by
  have hw : IntKind.i64.wrap (k.i + 1) = ((j + 1 : Nat) : Int) := by rw [hi]; exact wrap_small (by omega) (by omega)
  have e0 : k.i < k.n := by omega
  have e1 : 0 ≤ k.i := by omega
  have e2 : k.i < (k.bs.length : Int) := by omega
  have e3 : k.i < (k.ps.length : Int) := by omega
  have t : k.i.toNat = j := by omega
  have g1 : gt (⟨⟨#[]⟩, 0, 0, 0⟩ : GBound) k.bs k.i.toNat = k.bs[j] := by rw [t, gt_at _ _ _ hj]
  have g2 : gt (Int.ofNat 0) k.ps k.i.toNat = k.ps[j] := by rw [t, gt_at _ _ _ hv]
  unfold stepalw stalw
  simp only [hw, if_pos (decide_eq_true e0), if_pos e1, if_pos e2, if_pos e3, g1, g2]
  cases decide (k.ps[j] < (k.bs[j]).lo) <;> cases decide (k.ps[j] > (k.bs[j]).hi) <;> rfl
theorem iter_alw : ∀ (m j : Nat) (k : Kalw), k.i = (j : Int) → k.n = (k.bs.length : Int) → j + m = k.bs.length → k.bs.length ≤ k.ps.length → k.bs.length ≤ 9223372036854775807 →
    iter stepalw m k = some (if allowL (k.bs.drop j) (k.ps.drop j) = true then .ex ⟨k.ps, k.d, k.res⟩ else .ret ⟨k.ps, k.d, false⟩)
  | 0, j, k, hi, hn, hj, hv, hm => by
    rw [List.drop_eq_nil_of_le (show k.bs.length ≤ j by omega)]
    refine (iter_ex ?_ 0).trans (by rw [show allowL [] (k.ps.drop j) = true by unfold allowL; rfl]; rfl)
    unfold stepalw stalw
    rw [if_neg (by simp; omega)]
  | m + 1, j, k, hi, hn, hj, hv, hm => by
    have h1 : j < k.bs.length := by omega
    have h2 : j < k.ps.length := by omega
    have hs := step_alw k j hi hn h1 h2 hm
    rw [List.drop_eq_getElem_cons h1, List.drop_eq_getElem_cons h2]
    unfold allowL
    rw [← Bool.and_assoc]
    by_cases hp : (!decide (k.ps[j] < (k.bs[j]).lo) && !decide (k.ps[j] > (k.bs[j]).hi)) = true
    · rw [if_pos hp] at hs
      rw [iter_go hs, hp]
      exact iter_alw m (j + 1) ⟨k.ps, k.d, k.res, k.bs, k.n, ((j + 1 : Nat) : Int)⟩ rfl hn (by show j + 1 + m = k.bs.length; omega) hv hm
    · rw [if_neg hp] at hs
      rw [iter_ret hs, Bool.eq_false_iff.2 hp]
      rfl
def okalw (k : Kalw) : Bool := decide (k.i = 0) && (decide (k.n = (k.bs.length : Int)) && (Nat.ble k.bs.length k.ps.length && Nat.ble k.bs.length 9223372036854775807))
def galw : LP := fun st K => match ualw st with | some k => if okalw k = true then (if allowL k.bs k.ps = true then K (.ex 0) (Xalw ⟨k.ps, k.d, k.res⟩) else K .ret (Xalw ⟨k.ps, k.d, false⟩)) else none | none => none
theorem okgalw : OKL 34 4 galw := okfalw (fuel := fun k => k.bs.length) (ok := okalw) (F := fun k => if allowL k.bs k.ps = true then .ex ⟨k.ps, k.d, k.res⟩ else .ret ⟨k.ps, k.d, false⟩) (fun k h => by
  unfold okalw at h
  simp only [Bool.and_eq_true, decide_eq_true_eq] at h
  have := iter_alw k.bs.length 0 k h.1 h.2.1 (by omega) (Nat.le_of_ble_eq_true h.2.2.1) (Nat.le_of_ble_eq_true h.2.2.2)
  rw [List.drop_zero, List.drop_zero] at this
  exact this) fun st K => by
  unfold galw
  split
  · rename_i k hu
    split
    · cases allowL k.bs k.ps <;> rfl
    · rfl
  · rfl
def C5 : Cfg := { cs := lib4, ks := Cfit.ks ++ Calw.ks, xs := Cfit.xs ++ Calw.xs, lps := [((35, 3), gfit), ((34, 4), galw)] }
theorem C5_ok : CfgOK C5 := { con := lib4_ok, lp := .cons okgfit (.cons okgalw .nil) }
def Rfit (ps : List GPort) (vs : List GValue) : Option (Res At) :=
  if okfit { vs := vs, res := false, any := 0, ps := ps, n := (↑ps.length : Int), i := 0 } = true then
   if fitL 0 ps vs = true then
    some ((.bool true), [])
   else
    some ((.bool false), [])
  else
   none
theorem run_Rfit (ps : List GPort) (vs : List GValue) : runF C5 60 35 [.ro 65 ps, .ro 38 vs] = Rfit ps vs := by kernel_rfl
def Ralw (d : GDescriptor) (ps : List Int) : Option (Res At) :=
  if (!decide ((↑ps.length : Int) = (↑d.params.length : Int))) = true then
   some ((.bool false), [])
  else
   if okalw { ps := ps, d := d, res := false, bs := d.params, n := (↑d.params.length : Int), i := 0 } = true then
    if allowL d.params ps = true then
     if (holdsN d.name).ble ps.length = true then
      some ((.bool (holdsV d.name ps)), [])
     else
      none
    else
     some ((.bool false), [])
   else
    none
theorem run_Ralw (d : GDescriptor) (ps : List Int) : runF C5 60 34 [.agg (enc55 d), .ro 2 ps] = Ralw d ps := by kernel_rfl
end
end Go.Proofs.YtbcpnhnalhhfoaaGreatDoor.X
