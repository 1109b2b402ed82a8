/-
  THE ENVIRONMENT: contracts by a list.
-/
import Derived.Test.YtpbpebjfglfjfaaGreatDoorXC
import Derived.Test.YtpbpebjfglfjfaaGreatDoorXS
set_option autoImplicit false
set_option linter.unusedVariables false
set_option linter.unusedSimpArgs false
set_option maxRecDepth 100000
namespace Go.Proofs.YtpbpebjfglfjfaaGreatDoor.X
open Go Go.Proofs Go.RowKit Go.Proofs.YtpbpebjfglfjfaaGreatDoor
noncomputable section
def inBody (f : Nat) : Bool := Nat.blt f 298
def bodyT (f : Nat) : Option Func := match inBody f with | true => Tryz.prog.funcs[f]? | false => none
abbrev KEEP := List ((Nat × Nat) × List (Nat × Option Nat))
def keepT (ks : KEEP) (f r : Nat) : Option (List (Nat × Option Nat)) := List.rec (motive := fun _ => Option (List (Nat × Option Nat))) none (fun p _ ih => match Nat.beq p.1.1 f && Nat.beq p.1.2 r with | true => some p.2 | false => ih) ks
abbrev LP := St At → (Xit → St At → Option (Res At)) → Option (Res At)
abbrev PCON := St At → Option (Bool × Res At)
abbrev OKP (f : Nat) (g : PCON) : Prop := OkP TT Tryz.prog GW f fun s => conO (g s)
structure Cfg where
  cs : List (Nat × CON)
  ks : KEEP := []
  xs : KEEP := []
  lps : List ((Nat × Nat) × LP) := []
  ins : List Nat := []
  ps : List (Nat × PCON) := []
def lpT (l : List ((Nat × Nat) × LP)) (f r : Nat) : Option LP := List.rec (motive := fun _ => Option LP) none (fun p _ ih => match Nat.beq p.1.1 f && Nat.beq p.1.2 r with | true => some p.2 | false => ih) l
def mkE (C : Cfg) : Env := { T := TT, P := Tryz.prog, con := fun f => look C.cs f, body := bodyT, keep := keepT C.ks, exits := keepT C.xs, lp := lpT C.lps, inl := fun f => memN f C.ins, pcon := fun f => look C.ps f }
def bodyB (f : Nat) : Bool := match bodyT f with
  | some fn => !(fn.name == "runtime.NumGoroutine") && (match fn.body with | some c => dstIn fn.ntmps c | none => true)
  | none => true
def allB (n : Nat) : Bool := Nat.rec (motive := fun _ => Bool) true (fun i ih => match bodyB i with | true => ih | false => false) n
theorem allB_spec : ∀ (n : Nat), allB n = true → ∀ i, i < n → bodyB i = true
  | 0, _, i, hi => by omega
  | n + 1, h, i, hi => by
    have h : (match bodyB n with | true => allB n | false => false) = true := h
    split at h
    · rename_i hb
      rcases Nat.lt_or_ge i n with h1 | h1
      · exact allB_spec n h i h1
      · obtain rfl : i = n := by omega
        exact hb
    · cases h
theorem allN : allB 298 = true := by kernel_rfl
theorem body_good (f : Nat) (fn : Func) (h : bodyT f = some fn) : Tryz.prog.funcs[f]? = some fn ∧ (fn.name == "runtime.NumGoroutine") = false ∧ ∀ c, fn.body = some c → dstIn fn.ntmps c = true := by
  have h0 := h
  unfold bodyT at h
  split at h
  · rename_i hb
    have hlt : f < 298 := Nat.le_of_ble_eq_true hb
    have h1 := allB_spec 298 allN f hlt
    unfold bodyB at h1
    rw [h0] at h1
    simp only [Bool.and_eq_true, Bool.not_eq_true'] at h1
    refine ⟨h, h1.1, fun c hc => ?_⟩
    have := h1.2
    rw [hc] at this
    exact this
  · cases h
inductive AllOK : List (Nat × CON) → Prop
  | nil : AllOK []
  | cons {f : Nat} {g : CON} {l : List (Nat × CON)} (h : OK f g) (t : AllOK l) : AllOK ((f, g) :: l)
theorem AllOK.get {l : List (Nat × CON)} (h : AllOK l) : ∀ f g, look l f = some g → OK f g := by
  induction h with
  | nil => intro f g h; cases h
  | cons h t ih =>
    intro f g hg
    rw [look_cons] at hg
    split at hg
    · rename_i e
      dsimp only at e
      subst e
      obtain rfl := Option.some.inj hg
      exact h
    · exact ih f g hg
abbrev OKL (f r : Nat) (g : LP) : Prop := OkL TT Tryz.prog bodyT GW f r g
inductive AllL : List ((Nat × Nat) × LP) → Prop
  | nil : AllL []
  | cons {f r : Nat} {g : LP} {l : List ((Nat × Nat) × LP)} (h : OKL f r g) (t : AllL l) : AllL (((f, r), g) :: l)
theorem AllL.get {l : List ((Nat × Nat) × LP)} (h : AllL l) : ∀ f r g, lpT l f r = some g → OKL f r g := by
  induction h with
  | nil => intro f r g h; cases h
  | @cons f0 r0 g0 l0 h t ih =>
    intro f r g hg
    replace hg : (match Nat.beq f0 f && Nat.beq r0 r with | true => some g0 | false => lpT l0 f r) = some g := hg
    split at hg
    · rename_i e
      simp only [Bool.and_eq_true] at e
      obtain rfl := Nat.eq_of_beq_eq_true e.1
      obtain rfl := Nat.eq_of_beq_eq_true e.2
      obtain rfl := Option.some.inj hg
      exact h
    · exact ih f r g hg
inductive AllP : List (Nat × PCON) → Prop
  | nil : AllP []
  | cons {f : Nat} {g : PCON} {l : List (Nat × PCON)} (h : OKP f g) (t : AllP l) : AllP ((f, g) :: l)
theorem AllP.get {l : List (Nat × PCON)} (h : AllP l) : ∀ f g, look l f = some g → OKP f g := by
  induction h with
  | nil => intro f g h; cases h
  | cons h t ih =>
    intro f g hg
    rw [look_cons] at hg
    split at hg
    · rename_i e
      dsimp only at e
      subst e
      obtain rfl := Option.some.inj hg
      exact h
    · exact ih f g hg
structure CfgOK (C : Cfg) : Prop where
  con : AllOK C.cs
  lp : AllL C.lps := by exact .nil
  pc : AllP C.ps := by exact .nil
theorem good {C : Cfg} (h : CfgOK C) : Good (mkE C) GW where
  hT := TT_ok
  mixed := by kernel_rfl
  stable := fun w w' hw hb => hw.below hb
  con := h.con.get
  lp := h.lp.get
  pcon := h.pc.get
  body := body_good
def runF (C : Cfg) (n f : Nat) (xs : List VT) : Option (Res At) := match bodyT f with
  | some fn => (match fn.body with | some c => isoV (mkE C) (ex (mkE C) n) f fn c xs | none => none)
  | none => none
theorem ok_run {C : Cfg} (h : CfgOK C) {f : Nat} {g : CON} (he : entB f = true) (hg : ∀ xs r, g xs = some (true, r) → ∃ n, runF C n f xs = some r) : OK f g := by
  refine ⟨entB_spec he, fun w okb xs vs r hG hs hr hok hgr => ?_⟩
  obtain ⟨n, h1⟩ := hg xs r (conO_some hgr)
  unfold runF at h1
  split at h1
  · rename_i fn hfn
    split at h1
    · rename_i c hc
      exact (body_ok (E := mkE C) (good h) hfn hc n).2 w okb xs vs r hG hs hr hok h1
    · cases h1
  · cases h1
def codeOf (f : Nat) : Code := match bodyT f with | some fn => (match fn.body with | some c => c | none => .skip) | none => .skip
def pickL (r : Nat) (l : List Code) : Code := List.rec (motive := fun _ => Code) .skip (fun c _ ih => match Nat.beq (firstRegion c) r with | true => c | false => ih) l
def codeAt (f r : Nat) : Code := pickL r (loopsIn (codeOf f))
def cntL (r : Nat) (l : List Code) : Nat := List.rec (motive := fun _ => Nat) 0 (fun c _ ih => match Nat.beq (firstRegion c) r with | true => ih + 1 | false => ih) l
theorem cntL_zero {r : Nat} : ∀ {l : List Code}, cntL r l = 0 → ∀ c ∈ l, firstRegion c ≠ r
  | [], _, c, hc => by cases hc
  | x :: l, h, c, hc => by
    have h : (match Nat.beq (firstRegion x) r with | true => cntL r l + 1 | false => cntL r l) = 0 := h
    split at h
    · cases h
    · rename_i e
      rcases List.mem_cons.1 hc with rfl | hc
      · intro e2; rw [e2] at e; simp at e
      · exact cntL_zero h c hc
theorem pickL_spec {r : Nat} : ∀ {l : List Code}, cntL r l = 1 → ∀ c ∈ l, firstRegion c = r → c = pickL r l
  | [], _, c, hc, _ => by cases hc
  | x :: l, h, c, hc, hr => by
    have h : (match Nat.beq (firstRegion x) r with | true => cntL r l + 1 | false => cntL r l) = 1 := h
    show c = (match Nat.beq (firstRegion x) r with | true => x | false => pickL r l)
    split at h
    · rename_i e
      rcases List.mem_cons.1 hc with rfl | hc
      · rfl
      · exact absurd hr (cntL_zero (Nat.succ.inj h) c hc)
    · rename_i e
      rcases List.mem_cons.1 hc with rfl | hc
      · rw [hr] at e; simp at e
      · exact pickL_spec h c hc hr
theorem codeAt_uniq {f r : Nat} (h : cntL r (loopsIn (codeOf f)) = 1) : ∀ c, LoopOf bodyT f c → firstRegion c = r → c = codeAt f r := by
  rintro c ⟨fn, b, h1, h2, h3⟩ hr
  have e : codeOf f = b := by unfold codeOf; rw [h1]; dsimp only; rw [h2]
  unfold codeAt
  rw [e] at h ⊢
  exact pickL_spec h c h3 hr
def L (C : Cfg) (f r m : Nat) (st : St At) (K : Xit → St At → Option (Res At)) : Option (Res At) := ex (mkE C) m f (.loop (codeAt f r)) st K
def B (C : Cfg) (f r m : Nat) (st : St At) (R : St At → Option (Res At)) (K : Xit → St At → Option (Res At)) : Option (Res At) := ex (mkE C) m f (codeAt f r) st (contK (mkE C) f (codeAt f r) R K)
theorem L_succ {C : Cfg} {f r m : Nat} {st : St At} {K : Xit → St At → Option (Res At)} (hl : (mkE C).lp f (firstRegion (codeAt f r)) = none) (hh : headV (mkE C) f (codeAt f r) st = st) : L C f r (m + 1) st K = B C f r m st (fun s => L C f r m s K) K := by
  have h : L C f r (m + 1) st K = loopV (mkE C) (ex (mkE C) m) f (codeAt f r) (headV (mkE C) f (codeAt f r) st) K := rfl
  rw [h, hh]
  unfold loopV
  rw [hl]
  rfl
theorem okl_run {C : Cfg} (h : CfgOK C) {f r : Nat} {g : LP} (hu : cntL r (loopsIn (codeOf f)) = 1) (hg : ∀ st K q, g st K = some q → ∃ n, L C f r n st K = some q) : OKL f r g :=
  loop_ok (E := mkE C) (good h) (codeAt_uniq hu) hg
def lib0 : List (Nat × CON) := [(153, conSplit), (136, conFields), (215, conCut), (216, conReplace), (155, conContains), (217, conParse), (154, conHasPrefix)]
def C0 : Cfg := { cs := lib0 }
theorem lib0_ok : AllOK lib0 := .cons okSplit (.cons okFields (.cons okCut (.cons okReplace (.cons okContains (.cons okParse (.cons okHasPrefix .nil))))))
theorem C0_ok : CfgOK C0 := { con := lib0_ok }
end
end Go.Proofs.YtpbpebjfglfjfaaGreatDoor.X
/-! From a contract to a law's row. -/
namespace Go.Proofs.YtpbpebjfglfjfaaGreatDoor.X
open Go Go.Proofs Go.RowKit Go.Proofs.YtpbpebjfglfjfaaGreatDoor
inductive Reps (W : World) : List VT → List Value → Prop
  | nil : Reps W [] []
  | cons {v : VT} {c : Value} {l : List VT} {m : List Value} (h : Rep TT Tryz.prog W (fun _ => none) (fun b => b < W.heap.size) v c) (t : Reps W l m) : Reps W (v :: l) (c :: m)
theorem Reps.get {W : World} {l : List VT} {m : List Value} (h : Reps W l m) : m.length = l.length ∧ ∀ (i : Nat) (v : VT), l[i]? = some v → Rep TT Tryz.prog W (fun _ => none) (fun b => b < W.heap.size) v (m.getD i undef) := by
  induction h with
  | nil => exact ⟨rfl, fun i v h => by cases h⟩
  | cons h t ih =>
    refine ⟨by simp [ih.1], fun i v hv => ?_⟩
    cases i with
    | zero => obtain rfl := Option.some.inj hv; exact h
    | succ i => exact ih.2 i v hv
theorem law_calls {f : Nat} {g : CON} (h : OK f g) {W : World} {xs : List VT} {vs : Array Value} (hG : GW W) (hs : vs.toList.length = xs.length) (hr : Reps W xs vs.toList) (hg : g xs = some (true, (.bool true, []))) :
    Calls Tryz.prog f vs W fun e W' => e = .returned (.bool true) ∧ Below W.heap.size W W' := by
  obtain ⟨h1, h2⟩ := hr.get
  refine (h.2 W (fun b => b < W.heap.size) xs vs (.bool true, []) hG ((Array.length_toList (xs := vs)).symm.trans h1) (fun i v hv => ?_) (fun b hb => hb) (congrArg conO hg)).mono fun e W' hret => ?_
  · have := h2 i v hv
    rw [List.getD_eq_getElem?_getD, Array.getElem?_toList] at this
    rw [Array.getD_eq_getD_getElem?]; exact this
  · obtain ⟨c, μr, n, rfl, H, hv⟩ := hret
    replace hv : Rep TT Tryz.prog W' μr _ (.bool true) c := hv
    rw [hv.bool_inv]
    exact ⟨rfl, H.below.of⟩
end Go.Proofs.YtpbpebjfglfjfaaGreatDoor.X
/-! slices.Clone, at rows of any kind. -/
namespace Go.Proofs.YtpbpebjfglfjfaaGreatDoor.X
open Go Go.Proofs Go.RowKit Go.Proofs.YtpbpebjfglfjfaaGreatDoor
noncomputable section
theorem run_calls {C : Cfg} (h : CfgOK C) {f n : Nat} {xs : List VT} {vs : Array Value} {w : World} {okb : Nat → Prop} {r : Res At} (hG : GW w) (hs : vs.size = xs.length) (hr : ∀ i v, xs[i]? = some v → Rep TT Tryz.prog w (fun _ => none) okb v (vs.getD i undef)) (hok : ∀ b, okb b → b < w.heap.size) (h1 : runF C n f xs = some r) :
    Calls Tryz.prog f vs w (RetRel TT Tryz.prog w okb r) := by
  unfold runF at h1
  split at h1
  · rename_i fn hfn
    split at h1
    · rename_i c hc
      exact (body_ok (E := mkE C) (good h) hfn hc n).2 w okb xs vs r hG hs hr hok h1
    · cases h1
  · cases h1
theorem ret_nil_row {w w' : World} {okb : Nat → Prop} {x : Ending} {e : Nat} (hk : knownT e = true) (h : RetRel TT Tryz.prog w okb (.nils, []) x w') : RetRel TT Tryz.prog w okb (.own 0, [(0, .row e [] false)]) x w' := by
  obtain ⟨c, μr, n, rfl, H, hv⟩ := h
  replace hv : Rep TT Tryz.prog w' μr _ .nils c := hv
  cases hv
  exact ret_row (T := TT) (P := Tryz.prog) (cs := []) hk H.below.of rfl (World.ownsRow_nil _ _ _ _) fun ok j x q v hx => by simp at hx
theorem ro_nil_inv {T : Tab} {P : Program} {w : World} {μ : Nat → Option Value} {ok : Nat → Prop} {e : Nat} {c : Value} (h : Rep T P w μ ok (.ro e []) c) : ∃ a cap, c = .slice a 0 cap := by
  cases h with | ro _ _ a cap cf hk hcap hmax ha hr => exact ⟨a, cap, rfl⟩
def conClone (e : Nat) : CON := fun l => match l with | [x] => (match slT e x with | some l => some (Nat.blt l.length 16777216, (.own 0, [(0, .row e l false)])) | none => none) | _ => none
theorem ok_clone {C : Cfg} (hC : CfgOK C) {f e n : Nat} (he : entB f = true) (hk : knownT e = true) (h1 : ∀ (a : At e) (l : List (At e)), runF C n f [.ro e (a :: l)] = if ([] : List (At e)).length + (a :: l).length < 16777216 then some (.own 0, [(0, .row e (a :: l) false)]) else none)
    (h2 : ∀ (a : Addr) (cap : Nat), runF C n f [.nul (.slice (some a) 0 cap)] = some (.own 0, [(0, .row e [] false)])) (h3 : ∀ cap : Nat, runF C n f [.nul (.slice none 0 cap)] = some (.nils, [])) : OK f (conClone e) := by
  refine ⟨entB_spec he, fun w okb xs vs r hG hs hr hok h => ?_⟩
  replace h := conO_some h
  cases xs with
  | nil => cases h
  | cons x t =>
  cases t with
  | cons y t => cases h
  | nil =>
    replace h : (match slT e x with | some l => some (Nat.blt l.length 16777216, ((.own 0, [(0, .row e l false)]) : Res At)) | none => none) = some (true, r) := h
    split at h
    · rename_i l hl
      obtain ⟨hlt, rfl⟩ := some_pair h
      have hr0 := hr 0 x rfl
      have emp : (∃ a cap, vs.getD 0 undef = .slice a 0 cap) → l = [] → Calls Tryz.prog f vs w (RetRel TT Tryz.prog w okb (.own 0, [(0, .row e l false)])) := by
        rintro ⟨a, cap, ha⟩ rfl
        have hn : ∀ i v, [(V.nul (.slice a 0 cap) : VT)][i]? = some v → Rep TT Tryz.prog w (fun _ => none) okb v (vs.getD i undef) := fun i v hv => by
          cases i with
          | zero => obtain rfl := Option.some.inj hv; rw [ha]; exact .nul _ (by cases a <;> rfl)
          | succ i => cases hv
        cases a with
        | none => exact (run_calls hC (xs := [.nul (.slice none 0 cap)]) hG hs hn hok (h3 cap)).mono fun e w' hret => ret_nil_row hk hret
        | some a => exact run_calls hC (xs := [.nul (.slice (some a) 0 cap)]) hG hs hn hok (h2 a cap)
      rcases slT_spec hl with rfl | ⟨rfl, rfl⟩
      · cases l with
        | nil =>
          refine emp ?_ rfl
          exact ro_nil_inv hr0
        | cons a l => exact run_calls hC hG hs hr hok ((h1 a l).trans (if_pos (by have := Nat.le_of_ble_eq_true hlt; simp at this ⊢; omega)))
      · refine emp ?_ rfl
        exact ⟨none, 0, hr0.nils_inv⟩
    · cases h
theorem okClonePa : OK 132 (conClone 93) := ok_clone C0_ok (n := 60) (by kernel_rfl) (by kernel_rfl) (fun a l => by kernel_rfl) (fun a c => by kernel_rfl) (fun c => by kernel_rfl)
theorem okClonePo : OK 120 (conClone 159) := ok_clone C0_ok (n := 60) (by kernel_rfl) (by kernel_rfl) (fun a l => by kernel_rfl) (fun a c => by kernel_rfl) (fun c => by kernel_rfl)
theorem okCloneLi : OK 133 (conClone 55) := ok_clone C0_ok (n := 60) (by kernel_rfl) (by kernel_rfl) (fun a l => by kernel_rfl) (fun a c => by kernel_rfl) (fun c => by kernel_rfl)
theorem okCloneNo : OK 130 (conClone 58) := ok_clone C0_ok (n := 60) (by kernel_rfl) (by kernel_rfl) (fun a l => by kernel_rfl) (fun a c => by kernel_rfl) (fun c => by kernel_rfl)
theorem okCloneDr : OK 131 (conClone 89) := ok_clone C0_ok (n := 60) (by kernel_rfl) (by kernel_rfl) (fun a l => by kernel_rfl) (fun a c => by kernel_rfl) (fun c => by kernel_rfl)
def libC : List (Nat × CON) := (132, conClone 93) :: (120, conClone 159) :: (133, conClone 55) :: (130, conClone 58) :: (131, conClone 89) :: lib0
theorem libC_ok : AllOK libC := .cons okClonePa (.cons okClonePo (.cons okCloneLi (.cons okCloneNo (.cons okCloneDr lib0_ok))))
end
end Go.Proofs.YtpbpebjfglfjfaaGreatDoor.X
/-! awake. -/
namespace Go.Proofs.YtpbpebjfglfjfaaGreatDoor.X
open Go Go.Proofs Go.RowKit Go.Proofs.YtpbpebjfglfjfaaGreatDoor
noncomputable section
def insA : List Nat := [11, 35, 36, 37, 93, 94, 95, 147, 171, 76, 134, 159, 186, 135]
def CA : Cfg := { cs := libC, ins := insA }
theorem CA_ok : CfgOK CA := { con := libC_ok }
theorem run_awake : runF CA 600 9 [] = some (.bool true, []) := by kernel_rfl
def conAwake : CON := fun l => match l with | [] => some (true, (.bool true, [])) | _ => none
theorem okAwake : OK 9 conAwake := ok_run CA_ok (by kernel_rfl) fun l r h => by
  cases l with
  | nil => exact ⟨600, run_awake.trans (congrArg some (some_pair h).2)⟩
  | cons x l => cases h
end
end Go.Proofs.YtpbpebjfglfjfaaGreatDoor.X
