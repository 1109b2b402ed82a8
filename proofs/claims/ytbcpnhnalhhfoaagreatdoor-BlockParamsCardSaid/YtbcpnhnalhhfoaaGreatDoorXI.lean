/-
  Lists of ports, beside one another.
-/
import Derived.Test.YtbcpnhnalhhfoaaGreatDoorXH
set_option autoImplicit false
set_option linter.unusedVariables false
set_option linter.unusedSimpArgs false
set_option maxRecDepth 100000
namespace Go.Proofs.YtbcpnhnalhhfoaaGreatDoor.X
open Go Go.Proofs Go.RowKit Go.Proofs.YtbcpnhnalhhfoaaGreatDoor
noncomputable section
/-- no slice is longer than memory -/
def short1 {A : Nat → Type} (v : V A) : Prop := match v with | .ro _ l => l.length ≤ 9223372036854775807 | _ => True
def short {A : Nat → Type} (v : V A) : Prop := match v with | .agg cs => ∀ x ∈ cs, short1 x | v => short1 v
theorem rep_short1 {T : Tab} {P : Program} {w : World} {μ : Nat → Option Value} {ok : Nat → Prop} {v : V T.A} {c : Value} (h : Rep T P w μ ok v c) : short1 v := by
  cases h with
  | ro e l a cap cf hk hcap hmax ha hr => exact Nat.le_trans hcap hmax
  | _ => trivial
theorem rep_short {T : Tab} {P : Program} {w : World} {μ : Nat → Option Value} {ok : Nat → Prop} {v : V T.A} {c : Value} (h : Rep T P w μ ok v c) : short v := by
  cases h with
  | agg l cs hl hr =>
    intro x hx
    obtain ⟨i, hi, rfl⟩ := List.getElem_of_mem hx
    exact rep_short1 (hr i _ (List.getElem?_eq_getElem hi))
  | ro e l a cap cf hk hcap hmax ha hr => exact Nat.le_trans hcap hmax
  | _ => trivial
/-- a contract by the function's own text, arguments no longer than memory -/
theorem ok_runS {C : Cfg} (h : CfgOK C) {f : Nat} {g : CON} (he : entB f = true) (hg : ∀ xs r, (∀ x ∈ xs, short x) → g xs = some (true, r) → ∃ n, runF C n f xs = some r) : OK f g := by
  refine ⟨entB_spec he, fun w okb xs vs r hG hs hr hok hgr => ?_⟩
  have hsh : ∀ x ∈ xs, short x := fun x hx => by
    obtain ⟨i, hi, rfl⟩ := List.getElem_of_mem hx
    exact rep_short (hr i _ (List.getElem?_eq_getElem hi))
  obtain ⟨n, h1⟩ := hg xs r hsh (conO_some hgr)
  unfold runF at h1
  split at h1
  · rename_i fn hfn
    split at h1
    · rename_i c hc
      exact (body_ok (E := mkE C) (good h) hfn hc n).2 w okb xs vs r hG hs hr hok h1
    · cases h1
  · cases h1
def pe (x y : GPort) : Bool := eqB x.name y.name && (eqB x.type_ y.type_ && true)
def C16 : Cfg := { cs := [], ks := [((16, 4), [(0, none), (1, none), (4, none), (5, none)])], xs := [((16, 4), [(4, none)])] }
theorem C16_ok : CfgOK C16 := { con := .nil }
def S16 (a b : List GPort) (i : Int) : St At := { env := [(0, .ro 65 a), (1, .ro 65 b), (4, .bool false), (5, .int .i64 i)], stk := [], hp := [], nx := 0 }
def X16 : St At := { env := [(4, .bool false)], stk := [], hp := [], nx := 0 }
def gp0 : GPort := ⟨⟨#[]⟩, ⟨#[]⟩⟩
theorem st16 (a b : List GPort) (i : Int) (m : Nat) (R : St At → Option (Res At)) (K : Xit → St At → Option (Res At)) : B C16 16 4 (m + 60) (S16 a b i) R K =
  if decide (i < (a.length : Int)) = true then
    (if 0 ≤ i then if i < (a.length : Int) then if 0 ≤ i then if i < (b.length : Int) then
      (if (!pe (gt gp0 a i.toNat) (gt gp0 b i.toNat)) = true then K .ret X16 else R (S16 a b (IntKind.wrap .i64 (i + 1)))) else none else none else none else none)
  else K (.ex 0) X16 := by kernel_rfl
theorem hd16 (a b : List GPort) (i : Int) : headV (mkE C16) 16 (codeAt 16 4) (S16 a b i) = S16 a b i := by kernel_rfl
theorem wrap_small {i : Int} (h0 : 0 ≤ i) (h1 : i ≤ 9223372036854775807) : IntKind.wrap .i64 i = i := by
  unfold IntKind.wrap
  simp [IntKind.signed, IntKind.bits]
  omega
def eqP (a : List GPort) : List GPort → Bool := List.rec (motive := fun _ => List GPort → Bool) (fun _ => true) (fun x _ ih b => match b with | y :: b => pe x y && ih b | [] => false) a
theorem eqP_cons (x y : GPort) (a b : List GPort) : eqP (x :: a) (y :: b) = (pe x y && eqP a b) := rfl
theorem gt_at {α : Type} (d : α) (l : List α) (i : Nat) (h : i < l.length) : gt d l i = l[i] := by
  unfold gt; rw [List.getD_eq_getElem?_getD, List.getElem?_eq_getElem h]; rfl
theorem loop16 (a b : List GPort) (hab : a.length = b.length) (hm : a.length ≤ 9223372036854775807) (K : Xit → St At → Option (Res At)) : ∀ (k i : Nat), i + k = a.length →
    L C16 16 4 (k + 61) (S16 a b (i : Int)) K = if eqP (a.drop i) (b.drop i) = true then K (.ex 0) X16 else K .ret X16
  | 0, i, h => by
    rw [show (0 + 61 : Nat) = (0 + 60) + 1 from rfl, L_succ (by kernel_rfl) (hd16 a b i), st16, if_neg (by simp; omega)]
    rw [List.drop_eq_nil_of_le (by omega), List.drop_eq_nil_of_le (by omega)]
    rfl
  | k + 1, i, h => by
    rw [show k + 1 + 61 = ((k + 1) + 60) + 1 by omega, L_succ (by kernel_rfl) (hd16 a b i), st16]
    rw [if_pos (by simp; omega), if_pos (by omega), if_pos (by omega), if_pos (by omega), if_pos (by omega)]
    rw [Int.toNat_natCast, gt_at gp0 a i (by omega), gt_at gp0 b i (by omega)]
    rw [List.drop_eq_getElem_cons (show i < a.length by omega), List.drop_eq_getElem_cons (show i < b.length by omega), eqP_cons]
    rw [wrap_small (by omega) (by omega), show ((i : Int) + 1) = ((i + 1 : Nat) : Int) by omega, show k + 1 + 60 = k + 61 by omega, loop16 a b hab hm K k (i + 1) (by omega)]
    cases pe a[i] b[i] <;> simp
/-! arguments: nil as an empty row -/
def nrm (e : Option Nat) (v : VT) : VT := match e, v with | some e, .nils => (match knownT e with | true => .ro e [] | false => .nils) | _, v => v
def nrmL (l : List VT) : List (Option Nat) → List VT := List.rec (motive := fun _ => List (Option Nat) → List VT) (fun _ => []) (fun v _ ih ts => match ts with | e :: ts => nrm e v :: ih ts | [] => v :: ih []) l
theorem nrm_rep {w : World} {μ : Nat → Option Value} {ok : Nat → Prop} {v : VT} {c : Value} (e : Option Nat) (h : Rep TT Tryz.prog w μ ok v c) : Rep TT Tryz.prog w μ ok (nrm e v) c := by
  unfold nrm
  split
  · split
    · rename_i e0 _ hk; exact h.sub (.inr ⟨rfl, e0, hk, rfl⟩)
    · exact h
  · exact h
theorem nrmL_spec : ∀ (l : List VT) (ts : List (Option Nat)), (nrmL l ts).length = l.length ∧ ∀ (i : Nat) (u : VT), (nrmL l ts)[i]? = some u → ∃ e v, l[i]? = some v ∧ u = nrm e v
  | [], ts => ⟨rfl, fun i u h => by cases h⟩
  | x :: l, ts => by
    have key : ∀ (e : Option Nat) (ts' : List (Option Nat)), (nrm e x :: nrmL l ts').length = (x :: l).length ∧ ∀ (i : Nat) (u : VT), (nrm e x :: nrmL l ts')[i]? = some u → ∃ e v, (x :: l)[i]? = some v ∧ u = nrm e v := by
      intro e ts'
      obtain ⟨h1, h2⟩ := nrmL_spec l ts'
      refine ⟨by simp [h1], fun i u hu => ?_⟩
      cases i with
      | zero => obtain rfl := Option.some.inj hu; exact ⟨e, x, rfl, rfl⟩
      | succ i => exact h2 i u hu
    cases ts with
    | nil => exact key none []
    | cons e ts => exact key e ts
theorem ok_norm {f : Nat} {g : CON} (ts : List (Option Nat)) (h : OK f g) : OK f fun l => g (nrmL l ts) := by
  refine ⟨h.1, fun w okb xs cs r hG hs hr hok hgr => ?_⟩
  obtain ⟨h1, h2⟩ := nrmL_spec xs ts
  refine h.2 w okb (nrmL xs ts) cs r hG (hs.trans h1.symm) (fun i v hv => ?_) hok hgr
  obtain ⟨e, u, h3, rfl⟩ := h2 i v hv
  exact nrm_rep e (hr i u h3)
/-! the contract -/
def ro65 (v : VT) : Option (List GPort) := match v with | .ro e l => (if h : e = 65 then some (h ▸ l : List (At 65)) else none) | _ => none
theorem ro65_spec {v : VT} {l : List GPort} (h : ro65 v = some l) : v = .ro 65 l := by
  unfold ro65 at h
  split at h
  · split at h
    · rename_i e
      subst e
      obtain rfl := Option.some.inj h
      rfl
    · cases h
  · cases h
def u16 (st : St At) : Option (List GPort × List GPort) := match st with
  | ⟨[(0, x), (1, y), (4, .bool false), (5, .int .i64 0)], [], [], 0⟩ => (match ro65 x, ro65 y with | some a, some b => some (a, b) | _, _ => none)
  | _ => none
theorem u16_spec {st : St At} {p : List GPort × List GPort} (h : u16 st = some p) : st = S16 p.1 p.2 0 := by
  unfold u16 at h
  split at h
  · split at h
    · rename_i a b hx hy
      obtain rfl := Option.some.inj h
      rw [ro65_spec hx, ro65_spec hy]
      rfl
    · cases h
  · cases h
/-- told for lists of one length, no longer than memory -/
def g16 : LP := fun st K => match u16 st with
  | some p => if p.1.length = p.2.length ∧ p.1.length ≤ 9223372036854775807 then (if eqP p.1 p.2 = true then K (.ex 0) X16 else K .ret X16) else none
  | none => none
theorem okg16 : OKL 16 4 g16 := okl_run C16_ok (by kernel_rfl) fun st K q h => by
  unfold g16 at h
  split at h
  · rename_i p hu
    split at h
    · rename_i hp
      rw [u16_spec hu]
      refine ⟨p.1.length + 61, ?_⟩
      have := loop16 p.1 p.2 hp.1 hp.2 K p.1.length 0 (by omega)
      rw [List.drop_zero, List.drop_zero] at this
      exact this.trans h
    · cases h
  · cases h
def C16' : Cfg := { cs := [], ks := C16.ks, xs := C16.xs, lps := [((16, 4), g16)] }
theorem C16'_ok : CfgOK C16' := { con := .nil, lp := .cons okg16 .nil }
def samePs (a b : List GPort) : Bool := decide ((a.length : Int) = (b.length : Int)) && eqP a b
theorem run_samePorts (a b : List GPort) : runF C16' 60 16 [.ro 65 a, .ro 65 b] =
  if (!decide ((a.length : Int) = (b.length : Int))) = true then some (.bool false, []) else
    (if a.length = b.length ∧ a.length ≤ 9223372036854775807 then (if eqP a b = true then some (.bool true, []) else some (.bool false, [])) else none) := by kernel_rfl
def conSamePs0 : CON := fun l => match l with | [x, y] => (match ro65 x, ro65 y with | some a, some b => some (true, (.bool (samePs a b), [])) | _, _ => none) | _ => none
theorem okSamePs0 : OK 16 conSamePs0 := by
  refine ok_runS C16'_ok (by kernel_rfl) fun l r hsh h => ?_
  unfold conSamePs0 at h
  split at h
  · rename_i x y
    split at h
    · rename_i a b hx hy
      obtain ⟨_, rfl⟩ := some_pair h
      obtain rfl := ro65_spec hx
      obtain rfl := ro65_spec hy
      have ha : a.length ≤ 9223372036854775807 := hsh _ (List.mem_cons_self ..)
      refine ⟨60, (run_samePorts a b).trans ?_⟩
      unfold samePs
      by_cases hl : (a.length : Int) = (b.length : Int)
      · rw [if_neg (by simp [hl]), if_pos ⟨by omega, ha⟩, decide_eq_true hl]
        cases eqP a b <;> rfl
      · rw [if_pos (by simp [hl]), decide_eq_false hl]; rfl
    · cases h
  · cases h
def conSamePs : CON := fun l => conSamePs0 (nrmL l [some 65, some 65])
theorem okSamePs : OK 16 conSamePs := ok_norm _ okSamePs0
end
end Go.Proofs.YtbcpnhnalhhfoaaGreatDoor.X
