/-
  THE ENVIRONMENT: contracts by a list.
-/
import Derived.Test.YtpbpebjfglfjfaaGreatDoorXC
set_option autoImplicit false
set_option linter.unusedVariables false
set_option linter.unusedSimpArgs false
set_option maxRecDepth 100000
namespace Go.Proofs.YtpbpebjfglfjfaaGreatDoor.X
open Go Go.Proofs Go.RowKit Go.Proofs.YtpbpebjfglfjfaaGreatDoor
noncomputable section
/-- the functions whose bodies may be walked -/
def inBody (f : Nat) : Bool := Nat.blt f 298
def bodyT (f : Nat) : Option Func := match inBody f with | true => Tryz.prog.funcs[f]? | false => none
abbrev KEEP := List ((Nat × Nat) × List (Nat × Option Nat))
def keepT (ks : KEEP) (f r : Nat) : Option (List (Nat × Option Nat)) := List.rec (motive := fun _ => Option (List (Nat × Option Nat))) none (fun p _ ih => match Nat.beq p.1.1 f && Nat.beq p.1.2 r with | true => some p.2 | false => ih) ks
abbrev LP := St At → (Xit → St At → Option (Res At)) → Option (Res At)
abbrev PCON := St At → Option (Bool × Res At)
abbrev OKP (f : Nat) (g : PCON) : Prop := OkP TT Tryz.prog GW f fun s => conO (g s)
/-- contracts of functions; places kept at the heads of loops and where they are left; contracts of loops -/
structure Cfg where
  cs : List (Nat × CON)
  ks : KEEP := []
  xs : KEEP := []
  lps : List ((Nat × Nat) × LP) := []
  ins : List Nat := []
  ps : List (Nat × PCON) := []
def lpT (l : List ((Nat × Nat) × LP)) (f r : Nat) : Option LP := List.rec (motive := fun _ => Option LP) none (fun p _ ih => match Nat.beq p.1.1 f && Nat.beq p.1.2 r with | true => some p.2 | false => ih) l
def mkE (C : Cfg) : Env := { T := TT, P := Tryz.prog, con := fun f => look C.cs f, body := bodyT, keep := keepT C.ks, exits := keepT C.xs, lp := lpT C.lps, inl := fun f => memN f C.ins, pcon := fun f => look C.ps f }
def bodyB (f : Nat) : Bool := match bodyT f with
  | some fn => !(fn.name == "runtime.NumGoroutine") && (match fn.body with | some c => dstIn fn.ntmps c | none => true)
  | none => true
def allB (n : Nat) : Bool := Nat.rec (motive := fun _ => Bool) true (fun i ih => match bodyB i with | true => ih | false => false) n
theorem allB_spec : ∀ (n : Nat), allB n = true → ∀ i, i < n → bodyB i = true
  | 0, _, i, hi => by omega
  | n + 1, h, i, hi => by
    have h : (match bodyB n with | true => allB n | false => false) = true := h
    split at h
    · rename_i hb
      rcases Nat.lt_or_ge i n with h1 | h1
      · exact allB_spec n h i h1
      · obtain rfl : i = n := by omega
        exact hb
    · cases h
theorem allN : allB 298 = true := by kernel_rfl
theorem body_good (f : Nat) (fn : Func) (h : bodyT f = some fn) : Tryz.prog.funcs[f]? = some fn ∧ (fn.name == "runtime.NumGoroutine") = false ∧ ∀ c, fn.body = some c → dstIn fn.ntmps c = true := by
  have h0 := h
  unfold bodyT at h
  split at h
  · rename_i hb
    have hlt : f < 298 := Nat.le_of_ble_eq_true hb
    have h1 := allB_spec 298 allN f hlt
    unfold bodyB at h1
    rw [h0] at h1
    simp only [Bool.and_eq_true, Bool.not_eq_true'] at h1
    refine ⟨h, h1.1, fun c hc => ?_⟩
    have := h1.2
    rw [hc] at this
    exact this
  · cases h
inductive AllOK : List (Nat × CON) → Prop
  | nil : AllOK []
  | cons {f : Nat} {g : CON} {l : List (Nat × CON)} (h : OK f g) (t : AllOK l) : AllOK ((f, g) :: l)
theorem AllOK.get {l : List (Nat × CON)} (h : AllOK l) : ∀ f g, look l f = some g → OK f g := by
  induction h with
  | nil => intro f g h; cases h
  | cons h t ih =>
    intro f g hg
    rw [look_cons] at hg
    split at hg
    · rename_i e
      dsimp only at e
      subst e
      obtain rfl := Option.some.inj hg
      exact h
    · exact ih f g hg
abbrev OKL (f r : Nat) (g : LP) : Prop := OkL TT Tryz.prog bodyT GW f r g
inductive AllL : List ((Nat × Nat) × LP) → Prop
  | nil : AllL []
  | cons {f r : Nat} {g : LP} {l : List ((Nat × Nat) × LP)} (h : OKL f r g) (t : AllL l) : AllL (((f, r), g) :: l)
theorem AllL.get {l : List ((Nat × Nat) × LP)} (h : AllL l) : ∀ f r g, lpT l f r = some g → OKL f r g := by
  induction h with
  | nil => intro f r g h; cases h
  | @cons f0 r0 g0 l0 h t ih =>
    intro f r g hg
    replace hg : (match Nat.beq f0 f && Nat.beq r0 r with | true => some g0 | false => lpT l0 f r) = some g := hg
    split at hg
    · rename_i e
      simp only [Bool.and_eq_true] at e
      obtain rfl := Nat.eq_of_beq_eq_true e.1
      obtain rfl := Nat.eq_of_beq_eq_true e.2
      obtain rfl := Option.some.inj hg
      exact h
    · exact ih f r g hg
inductive AllP : List (Nat × PCON) → Prop
  | nil : AllP []
  | cons {f : Nat} {g : PCON} {l : List (Nat × PCON)} (h : OKP f g) (t : AllP l) : AllP ((f, g) :: l)
theorem AllP.get {l : List (Nat × PCON)} (h : AllP l) : ∀ f g, look l f = some g → OKP f g := by
  induction h with
  | nil => intro f g h; cases h
  | cons h t ih =>
    intro f g hg
    rw [look_cons] at hg
    split at hg
    · rename_i e
      dsimp only at e
      subst e
      obtain rfl := Option.some.inj hg
      exact h
    · exact ih f g hg
structure CfgOK (C : Cfg) : Prop where
  con : AllOK C.cs
  lp : AllL C.lps := by exact .nil
  pc : AllP C.ps := by exact .nil
theorem good {C : Cfg} (h : CfgOK C) : Good (mkE C) GW where
  hT := TT_ok
  mixed := by kernel_rfl
  stable := fun w w' hw hb => hw.below hb
  con := h.con.get
  lp := h.lp.get
  pcon := h.pc.get
  body := body_good
/-- a function's own text, run from nothing -/
def runF (C : Cfg) (n f : Nat) (xs : List VT) : Option (Res At) := match bodyT f with
  | some fn => (match fn.body with | some c => isoV (mkE C) (ex (mkE C) n) f fn c xs | none => none)
  | none => none
theorem ok_run {C : Cfg} (h : CfgOK C) {f : Nat} {g : CON} (he : entB f = true) (hg : ∀ xs r, g xs = some (true, r) → ∃ n, runF C n f xs = some r) : OK f g := by
  refine ⟨entB_spec he, fun w okb xs vs r hG hs hr hok hgr => ?_⟩
  obtain ⟨n, h1⟩ := hg xs r (conO_some hgr)
  unfold runF at h1
  split at h1
  · rename_i fn hfn
    split at h1
    · rename_i c hc
      exact (body_ok (E := mkE C) (good h) hfn hc n).2 w okb xs vs r hG hs hr hok h1
    · cases h1
  · cases h1
/-- a function that writes behind its arguments, run on what they reach -/
def runP (C : Cfg) (n f : Nat) (s : St At) : Option (Res At) := match bodyT f with
  | some fn => (match fn.body with | some c => pV (mkE C) (ex (mkE C) n) f fn c s | none => none)
  | none => none
theorem okp_run {C : Cfg} (h : CfgOK C) {f : Nat} {g : PCON} (he : entB f = true) (hg : ∀ s r, g s = some (true, r) → ∃ n, runP C n f s = some r) : OKP f g := by
  refine ⟨entB_spec he, fun W0 okb μ args hp nx cs w r hGD H hl hargs hr => ?_⟩
  obtain ⟨n, h1⟩ := hg _ r (conO_some hr)
  unfold runP at h1
  split at h1
  · rename_i fn hfn
    split at h1
    · rename_i c hc
      exact (okp_body (E := mkE C) (good h) hfn hc n).2 W0 okb μ args hp nx cs w r hGD H hl hargs h1
    · cases h1
  · cases h1
def codeOf (f : Nat) : Code := match bodyT f with | some fn => (match fn.body with | some c => c | none => .skip) | none => .skip
/-- the body of the loop of function f whose first region is r -/
def pickL (r : Nat) (l : List Code) : Code := List.rec (motive := fun _ => Code) .skip (fun c _ ih => match Nat.beq (firstRegion c) r with | true => c | false => ih) l
def codeAt (f r : Nat) : Code := pickL r (loopsIn (codeOf f))
def cntL (r : Nat) (l : List Code) : Nat := List.rec (motive := fun _ => Nat) 0 (fun c _ ih => match Nat.beq (firstRegion c) r with | true => ih + 1 | false => ih) l
theorem cntL_zero {r : Nat} : ∀ {l : List Code}, cntL r l = 0 → ∀ c ∈ l, firstRegion c ≠ r
  | [], _, c, hc => by cases hc
  | x :: l, h, c, hc => by
    have h : (match Nat.beq (firstRegion x) r with | true => cntL r l + 1 | false => cntL r l) = 0 := h
    split at h
    · cases h
    · rename_i e
      rcases List.mem_cons.1 hc with rfl | hc
      · intro e2; rw [e2] at e; simp at e
      · exact cntL_zero h c hc
theorem pickL_spec {r : Nat} : ∀ {l : List Code}, cntL r l = 1 → ∀ c ∈ l, firstRegion c = r → c = pickL r l
  | [], _, c, hc, _ => by cases hc
  | x :: l, h, c, hc, hr => by
    have h : (match Nat.beq (firstRegion x) r with | true => cntL r l + 1 | false => cntL r l) = 1 := h
    show c = (match Nat.beq (firstRegion x) r with | true => x | false => pickL r l)
    split at h
    · rename_i e
      rcases List.mem_cons.1 hc with rfl | hc
      · rfl
      · exact absurd hr (cntL_zero (Nat.succ.inj h) c hc)
    · rename_i e
      rcases List.mem_cons.1 hc with rfl | hc
      · rw [hr] at e; simp at e
      · exact pickL_spec h c hc hr
theorem codeAt_uniq {f r : Nat} (h : cntL r (loopsIn (codeOf f)) = 1) : ∀ c, LoopOf bodyT f c → firstRegion c = r → c = codeAt f r := by
  rintro c ⟨fn, b, h1, h2, h3⟩ hr
  have e : codeOf f = b := by unfold codeOf; rw [h1]; dsimp only; rw [h2]
  unfold codeAt
  rw [e] at h ⊢
  exact pickL_spec h c h3 hr
/-- standing before a loop -/
def L (C : Cfg) (f r m : Nat) (st : St At) (K : Xit → St At → Option (Res At)) : Option (Res At) := ex (mkE C) m f (.loop (codeAt f r)) st K
/-- one round, with whatever comes behind it -/
def B (C : Cfg) (f r m : Nat) (st : St At) (R : St At → Option (Res At)) (K : Xit → St At → Option (Res At)) : Option (Res At) := ex (mkE C) m f (codeAt f r) st (contK (mkE C) f (codeAt f r) R K)
theorem L_succ {C : Cfg} {f r m : Nat} {st : St At} {K : Xit → St At → Option (Res At)} (hl : (mkE C).lp f (firstRegion (codeAt f r)) = none) (hh : headV (mkE C) f (codeAt f r) st = st) : L C f r (m + 1) st K = B C f r m st (fun s => L C f r m s K) K := by
  have h : L C f r (m + 1) st K = loopV (mkE C) (ex (mkE C) m) f (codeAt f r) (headV (mkE C) f (codeAt f r) st) K := rfl
  rw [h, hh]
  unfold loopV
  rw [hl]
  rfl
theorem okl_run {C : Cfg} (h : CfgOK C) {f r : Nat} {g : LP} (hu : cntL r (loopsIn (codeOf f)) = 1) (hg : ∀ st K q, g st K = some q → ∃ n, L C f r n st K = some q) : OKL f r g :=
  loop_ok (E := mkE C) (good h) (codeAt_uniq hu) hg
def lib0 : List (Nat × CON) := [(153, conSplit), (136, conFields), (215, conCut), (216, conReplace), (155, conContains), (217, conParse), (154, conHasPrefix)]
def C0 : Cfg := { cs := lib0 }
theorem lib0_ok : AllOK lib0 := .cons okSplit (.cons okFields (.cons okCut (.cons okReplace (.cons okContains (.cons okParse (.cons okHasPrefix .nil))))))
theorem C0_ok : CfgOK C0 := { con := lib0_ok }
end
end Go.Proofs.YtpbpebjfglfjfaaGreatDoor.X
/-! From a contract to a law's row. -/
namespace Go.Proofs.YtpbpebjfglfjfaaGreatDoor.X
open Go Go.Proofs Go.RowKit Go.Proofs.YtpbpebjfglfjfaaGreatDoor
inductive Reps (W : World) : List VT → List Value → Prop
  | nil : Reps W [] []
  | cons {v : VT} {c : Value} {l : List VT} {m : List Value} (h : Rep TT Tryz.prog W (fun _ => none) (fun b => b < W.heap.size) v c) (t : Reps W l m) : Reps W (v :: l) (c :: m)
theorem Reps.get {W : World} {l : List VT} {m : List Value} (h : Reps W l m) : m.length = l.length ∧ ∀ (i : Nat) (v : VT), l[i]? = some v → Rep TT Tryz.prog W (fun _ => none) (fun b => b < W.heap.size) v (m.getD i undef) := by
  induction h with
  | nil => exact ⟨rfl, fun i v h => by cases h⟩
  | cons h t ih =>
    refine ⟨by simp [ih.1], fun i v hv => ?_⟩
    cases i with
    | zero => obtain rfl := Option.some.inj hv; exact h
    | succ i => exact ih.2 i v hv
theorem law_calls {f : Nat} {g : CON} (h : OK f g) {W : World} {xs : List VT} {vs : Array Value} (hG : GW W) (hs : vs.toList.length = xs.length) (hr : Reps W xs vs.toList) (hg : g xs = some (true, (.bool true, []))) :
    Calls Tryz.prog f vs W fun e W' => e = .returned (.bool true) ∧ Below W.heap.size W W' := by
  obtain ⟨h1, h2⟩ := hr.get
  refine (h.2 W (fun b => b < W.heap.size) xs vs (.bool true, []) hG ((Array.length_toList (xs := vs)).symm.trans h1) (fun i v hv => ?_) (fun b hb => hb) (congrArg conO hg)).mono fun e W' hret => ?_
  · have := h2 i v hv
    rw [List.getD_eq_getElem?_getD, Array.getElem?_toList] at this
    rw [Array.getD_eq_getD_getElem?]; exact this
  · obtain ⟨c, μr, n, rfl, H, hv⟩ := hret
    replace hv : Rep TT Tryz.prog W' μr _ (.bool true) c := hv
    rw [hv.bool_inv]
    exact ⟨rfl, H.below.of⟩
end Go.Proofs.YtpbpebjfglfjfaaGreatDoor.X
