/-
  Descriptors, beside one another.
-/
import Derived.Test.YtbcpnhnalhhfoaaGreatDoorXI
set_option autoImplicit false
set_option linter.unusedVariables false
set_option linter.unusedSimpArgs false
set_option maxRecDepth 100000
namespace Go.Proofs.YtbcpnhnalhhfoaaGreatDoor.X
open Go Go.Proofs Go.RowKit Go.Proofs.YtbcpnhnalhhfoaaGreatDoor
noncomputable section
def be (x y : GBound) : Bool := eqB x.name y.name && (decide (x.lo = y.lo) && (decide (x.hi = y.hi) && (decide (x.default_ = y.default_) && true)))
def C25 : Cfg := { cs := [(16, conSamePs)], ks := [((25, 4), [(2, none), (3, none), (4, none), (5, none)])], xs := [((25, 4), [(4, none)])] }
theorem C25_ok : CfgOK C25 := { con := .cons okSamePs .nil }
def S25 (a b : GDescriptor) (i : Int) : St At := { env := [(2, .ptr 0 0), (3, .ptr 1 0), (4, .bool false), (5, .int .i64 i)], stk := [], hp := [(0, .var (enc55 a) false), (1, .var (enc55 b) false)], nx := 2 }
def gb0 : GBound := ⟨⟨#[]⟩, 0, 0, 0⟩
theorem st25 (a b : GDescriptor) (i : Int) (m : Nat) (R : St At → Option (Res At)) (K : Xit → St At → Option (Res At)) : B C25 25 4 (m + 60) (S25 a b i) R K =
  if decide (i < (a.params.length : Int)) = true then
    (if 0 ≤ i then if i < (a.params.length : Int) then if 0 ≤ i then if i < (b.params.length : Int) then
      (if (!be (gt gb0 a.params i.toNat) (gt gb0 b.params i.toNat)) = true then K .ret X16 else R (S25 a b (IntKind.wrap .i64 (i + 1)))) else none else none else none else none)
  else K (.ex 0) X16 := by kernel_rfl
theorem hd25 (a b : GDescriptor) (i : Int) : headV (mkE C25) 25 (codeAt 25 4) (S25 a b i) = S25 a b i := by kernel_rfl
def eqBs (a : List GBound) : List GBound → Bool := List.rec (motive := fun _ => List GBound → Bool) (fun _ => true) (fun x _ ih b => match b with | y :: b => be x y && ih b | [] => false) a
theorem eqBs_cons (x y : GBound) (a b : List GBound) : eqBs (x :: a) (y :: b) = (be x y && eqBs a b) := rfl
theorem loop25 (a b : GDescriptor) (hab : a.params.length = b.params.length) (hm : a.params.length ≤ 9223372036854775807) (K : Xit → St At → Option (Res At)) : ∀ (k i : Nat), i + k = a.params.length →
    L C25 25 4 (k + 61) (S25 a b (i : Int)) K = if eqBs (a.params.drop i) (b.params.drop i) = true then K (.ex 0) X16 else K .ret X16
  | 0, i, h => by
    rw [show (0 + 61 : Nat) = (0 + 60) + 1 from rfl, L_succ (by kernel_rfl) (hd25 a b i), st25, if_neg (by simp; omega)]
    rw [List.drop_eq_nil_of_le (by omega), List.drop_eq_nil_of_le (by omega)]
    rfl
  | k + 1, i, h => by
    rw [show k + 1 + 61 = ((k + 1) + 60) + 1 by omega, L_succ (by kernel_rfl) (hd25 a b i), st25]
    rw [if_pos (by simp; omega), if_pos (by omega), if_pos (by omega), if_pos (by omega), if_pos (by omega)]
    rw [Int.toNat_natCast, gt_at gb0 a.params i (by omega), gt_at gb0 b.params i (by omega)]
    rw [List.drop_eq_getElem_cons (show i < a.params.length by omega), List.drop_eq_getElem_cons (show i < b.params.length by omega), eqBs_cons]
    rw [wrap_small (by omega) (by omega), show ((i : Int) + 1) = ((i + 1 : Nat) : Int) by omega, show k + 1 + 60 = k + 61 by omega, loop25 a b hab hm K k (i + 1) (by omega)]
    cases be a.params[i] b.params[i] <;> simp
def ro69 (v : VT) : Option (List GBound) := match v with | .ro e l => (if h : e = 69 then some (h ▸ l : List (At 69)) else none) | _ => none
theorem ro69_spec {v : VT} {l : List GBound} (h : ro69 v = some l) : v = .ro 69 l := by
  unfold ro69 at h
  split at h
  · split at h
    · rename_i e
      subst e
      obtain rfl := Option.some.inj h
      rfl
    · cases h
  · cases h
/-- a descriptor, exactly -/
def exD (l : List VT) : Option GDescriptor := match l with
  | [.str n, p, i, o, .int .i64 s, .int .i64 m] => (match ro69 p, ro65 i, ro65 o with | some p, some i, some o => some ⟨n, p, i, o, s, m⟩ | _, _, _ => none)
  | _ => none
theorem exD_spec {l : List VT} {d : GDescriptor} (h : exD l = some d) : l = enc55 d := by
  unfold exD at h
  split at h
  · split at h
    · rename_i hp hi ho
      obtain rfl := Option.some.inj h
      rw [ro69_spec hp, ro65_spec hi, ro65_spec ho]
      rfl
    · cases h
  · cases h
def u25 (st : St At) : Option (GDescriptor × GDescriptor) := match st with
  | ⟨[(2, .ptr 0 0), (3, .ptr 1 0), (4, .bool false), (5, .int .i64 0)], [], [(0, .var x false), (1, .var y false)], 2⟩ => (match exD x, exD y with | some a, some b => some (a, b) | _, _ => none)
  | _ => none
theorem u25_spec {st : St At} {p : GDescriptor × GDescriptor} (h : u25 st = some p) : st = S25 p.1 p.2 0 := by
  unfold u25 at h
  split at h
  · split at h
    · rename_i a b hx hy
      obtain rfl := Option.some.inj h
      rw [exD_spec hx, exD_spec hy]
      rfl
    · cases h
  · cases h
def g25 : LP := fun st K => match u25 st with
  | some p => if p.1.params.length = p.2.params.length ∧ p.1.params.length ≤ 9223372036854775807 then (if eqBs p.1.params p.2.params = true then K (.ex 0) X16 else K .ret X16) else none
  | none => none
theorem okg25 : OKL 25 4 g25 := okl_run C25_ok (by kernel_rfl) fun st K q h => by
  unfold g25 at h
  split at h
  · rename_i p hu
    split at h
    · rename_i hp
      rw [u25_spec hu]
      refine ⟨p.1.params.length + 61, ?_⟩
      have := loop25 p.1 p.2 hp.1 hp.2 K p.1.params.length 0 (by omega)
      rw [List.drop_zero, List.drop_zero] at this
      exact this.trans h
    · cases h
  · cases h
def C25' : Cfg := { cs := C25.cs, ks := C25.ks, xs := C25.xs, lps := [((25, 4), g25)] }
theorem C25'_ok : CfgOK C25' := { con := C25_ok.con, lp := .cons okg25 .nil }
def sameDs (a b : GDescriptor) : Bool := eqB a.name b.name && (decide (a.state = b.state) && (decide (a.most = b.most) && (decide ((a.params.length : Int) = (b.params.length : Int)) && (samePs a.inputs b.inputs && (samePs a.outputs b.outputs && eqBs a.params b.params)))))
def F : Option (Res At) := some (.bool false, [])
theorem run_sameDs (a b : GDescriptor) : runF C25' 80 25 [.agg (enc55 a), .agg (enc55 b)] =
  if (!eqB a.name b.name) = false then (if (!decide (a.state = b.state)) = false then (if (!decide (a.most = b.most)) = false then (if (!decide ((a.params.length : Int) = (b.params.length : Int))) = false then (if (!samePs a.inputs b.inputs) = false then (if (!samePs a.outputs b.outputs) = true then F else
    (if a.params.length = b.params.length ∧ a.params.length ≤ 9223372036854775807 then (if eqBs a.params b.params = true then some (.bool true, []) else F) else none)) else F) else F) else F) else F) else F := by kernel_rfl
def agD (v : VT) : Option GDescriptor := match v with | .agg l => exD l | _ => none
theorem agD_spec {v : VT} {d : GDescriptor} (h : agD v = some d) : v = .agg (enc55 d) := by
  unfold agD at h
  split at h
  · rw [exD_spec h]
  · cases h
def conSameDs : CON := fun l => match l with | [x, y] => (match agD x, agD y with | some a, some b => some (true, (.bool (sameDs a b), [])) | _, _ => none) | _ => none
theorem okSameDs : OK 25 conSameDs := by
  refine ok_runS C25'_ok (by kernel_rfl) fun l r hsh h => ?_
  unfold conSameDs at h
  split at h
  · rename_i x y
    split at h
    · rename_i a b hx hy
      obtain ⟨_, rfl⟩ := some_pair h
      obtain rfl := agD_spec hx
      obtain rfl := agD_spec hy
      have ha : a.params.length ≤ 9223372036854775807 := hsh _ (List.mem_cons_self ..) (.ro 69 a.params) (by show _ ∈ enc55 a; unfold enc55; simp)
      refine ⟨80, (run_sameDs a b).trans ?_⟩
      unfold sameDs F
      by_cases hl : (a.params.length : Int) = (b.params.length : Int)
      · rw [if_pos (c := a.params.length = b.params.length ∧ a.params.length ≤ 9223372036854775807) ⟨by omega, ha⟩, decide_eq_true hl]
        cases eqB a.name b.name <;> cases decide (a.state = b.state) <;> cases decide (a.most = b.most) <;> cases samePs a.inputs b.inputs <;> cases samePs a.outputs b.outputs <;> cases eqBs a.params b.params <;> rfl
      · rw [decide_eq_false hl]
        cases eqB a.name b.name <;> cases decide (a.state = b.state) <;> cases decide (a.most = b.most) <;> rfl
    · cases h
  · cases h
end
end Go.Proofs.YtbcpnhnalhhfoaaGreatDoor.X
