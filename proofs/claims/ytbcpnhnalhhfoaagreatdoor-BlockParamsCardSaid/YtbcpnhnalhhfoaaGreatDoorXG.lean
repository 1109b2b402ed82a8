/-
  Find of the program: the loop over the table's rows.
-/
import Derived.Test.YtbcpnhnalhhfoaaGreatDoorXF
set_option autoImplicit false
set_option linter.unusedVariables false
set_option linter.unusedSimpArgs false
set_option maxRecDepth 100000
namespace Go.Proofs.YtbcpnhnalhhfoaaGreatDoor.X
open Go Go.Proofs Go.RowKit Go.Proofs.YtbcpnhnalhhfoaaGreatDoor
noncomputable section
def C24 : Cfg := { cs := (43, conDesc) :: lib0, ks := [((24, 2), [(0, none), (2, none), (3, none), (6, none), (7, none), (8, none)])], xs := [((24, 2), [(2, none), (3, none)])] }
theorem C24_ok : CfgOK C24 := { con := .cons okDesc lib0_ok }
def des0L : List VT := [.str ⟨#[]⟩, .nils, .nils, .nils, .int .i64 0, .int .i64 0]
def S24 (n : ByteArray) (i : Nat) : St At := { env := [(0, .str n), (2, .ptr 0 0), (3, .int .i64 0), (6, .own 1), (7, .int .i64 33), (8, .int .i64 (i : Int))], stk := [], hp := [(0, .var des0L false), (1, .row 9 rowsL false)], nx := 2 }
def X24 (d : List VT) (e : Int) : St At := { env := [(2, .ptr 0 0), (3, .int .i64 e)], stk := [], hp := [(0, .var d false)], nx := 1 }
def bar : ByteArray := ⟨#[124]⟩
def gd0 : GDescriptor := ⟨⟨#[]⟩, [], [], [], 0, 0⟩
def F24 (n : ByteArray) (p : ByteArray × GDescriptor) (next : Option (Res At)) (K : Xit → St At → Option (Res At)) : Option (Res At) :=
  if n.size + 1 < 4611686018427387904 then
    (if Lib.hasPrefix p.1.data.toList (catB n bar).data.toList = true then
      (if (!List.elem 124 n.data.toList) = true then K .ret (X24 (enc55 p.2) 0) else next)
     else next)
  else none
theorem st24 (n : ByteArray) (m : Nat) (R : St At → Option (Res At)) (K : Xit → St At → Option (Res At)) : ∀ i, i < 33 → B C24 24 2 (m + 60) (S24 n i) R K = F24 n (tabL.getD i (⟨#[]⟩, gd0)) (R (S24 n (i + 1))) K
  | 0, _ => by kernel_rfl
  | 1, _ => by kernel_rfl
  | 2, _ => by kernel_rfl
  | 3, _ => by kernel_rfl
  | 4, _ => by kernel_rfl
  | 5, _ => by kernel_rfl
  | 6, _ => by kernel_rfl
  | 7, _ => by kernel_rfl
  | 8, _ => by kernel_rfl
  | 9, _ => by kernel_rfl
  | 10, _ => by kernel_rfl
  | 11, _ => by kernel_rfl
  | 12, _ => by kernel_rfl
  | 13, _ => by kernel_rfl
  | 14, _ => by kernel_rfl
  | 15, _ => by kernel_rfl
  | 16, _ => by kernel_rfl
  | 17, _ => by kernel_rfl
  | 18, _ => by kernel_rfl
  | 19, _ => by kernel_rfl
  | 20, _ => by kernel_rfl
  | 21, _ => by kernel_rfl
  | 22, _ => by kernel_rfl
  | 23, _ => by kernel_rfl
  | 24, _ => by kernel_rfl
  | 25, _ => by kernel_rfl
  | 26, _ => by kernel_rfl
  | 27, _ => by kernel_rfl
  | 28, _ => by kernel_rfl
  | 29, _ => by kernel_rfl
  | 30, _ => by kernel_rfl
  | 31, _ => by kernel_rfl
  | 32, _ => by kernel_rfl
  | i + 33, h => absurd h (by omega)
theorem st24e (n : ByteArray) (m : Nat) (R : St At → Option (Res At)) (K : Xit → St At → Option (Res At)) : B C24 24 2 (m + 60) (S24 n 33) R K = K (.ex 0) (X24 des0L 0) := by kernel_rfl
theorem hd24 (n : ByteArray) (i : Nat) : headV (mkE C24) 24 (codeAt 24 2) (S24 n i) = S24 n i := by kernel_rfl
/-- from row i on -/
def find24 (n : ByteArray) (K : Xit → St At → Option (Res At)) (l : List (ByteArray × GDescriptor)) : Option (Res At) := List.rec (motive := fun _ => Option (Res At)) (K (.ex 0) (X24 des0L 0)) (fun p _ ih => F24 n p ih K) l
theorem loop24 (n : ByteArray) (K : Xit → St At → Option (Res At)) : ∀ (k i : Nat), i + k = 33 → L C24 24 2 (k + 61) (S24 n i) K = find24 n K (tabL.drop i)
  | 0, i, h => by
    obtain rfl : i = 33 := by omega
    rw [show (0 + 61 : Nat) = (0 + 60) + 1 from rfl, L_succ (by kernel_rfl) (hd24 n 33), st24e]
    rfl
  | k + 1, i, h => by
    have hi : i < 33 := by omega
    rw [show k + 1 + 61 = ((k + 1) + 60) + 1 by omega, L_succ (by kernel_rfl) (hd24 n i), st24 n (k + 1) _ K i hi]
    have e : k + 1 + 60 = k + 61 := by omega
    rw [e, loop24 n K k (i + 1) (by omega)]
    have hl : tabL.length = 33 := by kernel_rfl
    rw [List.drop_eq_getElem_cons (show i < tabL.length by omega)]
    show F24 n _ _ K = F24 n _ _ K
    rw [List.getD_eq_getElem?_getD, List.getElem?_eq_getElem (show i < tabL.length by omega)]
    rfl
/-- the loop's contract -/
def eqLB (a : List ByteArray) : List ByteArray → Bool := List.rec (motive := fun _ => List ByteArray → Bool) (fun b => match b with | [] => true | _ :: _ => false) (fun x _ ih b => match b with | [] => false | y :: b => eqB x y && ih b) a
theorem eqLB_spec : ∀ {a b : List ByteArray}, eqLB a b = true → a = b
  | [], [], _ => rfl
  | [], _ :: _, h => by cases h
  | _ :: _, [], h => by cases h
  | x :: a, y :: b, h => by
    replace h : (eqB x y && eqLB a b) = true := h
    rw [Bool.and_eq_true, eqB_iff] at h
    rw [of_decide_eq_true h.1, eqLB_spec h.2]
def rows9 (b : Option (Blk At)) : Option (List ByteArray) := match b with | some (.row e l false) => (if h : e = 9 then some (h ▸ l : List (At 9)) else none) | _ => none
def u24 (st : St At) : Option ByteArray := match st with
  | ⟨[(0, .str n), (2, .ptr 0 0), (3, .int .i64 0), (6, .own 1), (7, .int .i64 33), (8, .int .i64 0)], [], [(0, .var [.str z, .nils, .nils, .nils, .int .i64 0, .int .i64 0] false), (1, b)], 2⟩ => (match rows9 (some b), eqB z ⟨#[]⟩ with | some l, true => (match eqLB l rowsL with | true => some n | false => none) | _, _ => none)
  | _ => none
theorem rows9_spec {b : Option (Blk At)} {l : List ByteArray} (h : rows9 b = some l) : b = some (.row 9 l false) := by
  unfold rows9 at h
  split at h
  · split at h
    · rename_i e
      subst e
      obtain rfl := Option.some.inj h
      rfl
    · cases h
  · cases h
theorem u24_spec {st : St At} {n : ByteArray} (h : u24 st = some n) : st = S24 n 0 := by
  unfold u24 at h
  split at h
  · split at h
    · rename_i l hr hz
      split at h
      · rename_i hl
        obtain rfl := Option.some.inj h
        have h1 := rows9_spec hr
        rw [eqB_iff] at hz
        have h2 := of_decide_eq_true hz
        have h3 := eqLB_spec hl
        simp only [Option.some.injEq] at h1
        subst h1; subst h2; subst h3
        rfl
      · cases h
    · cases h
  · cases h
def g24 : LP := fun st K => match u24 st with | some n => find24 n K tabL | none => none
theorem okg24 : OKL 24 2 g24 := okl_run C24_ok (by kernel_rfl) fun st K q h => by
  unfold g24 at h
  split at h
  · rename_i n hu
    rw [u24_spec hu]
    exact ⟨33 + 61, (loop24 n K 33 0 rfl).trans h⟩
  · cases h
def C24' : Cfg := { cs := C24.cs, ks := C24.ks, xs := C24.xs, lps := [((24, 2), g24)] }
theorem C24'_ok : CfgOK C24' := { con := C24_ok.con, lp := .cons okg24 .nil }
/-- Find of the program, at every name -/
def findP (n : ByteArray) (l : List (ByteArray × GDescriptor)) : Option (Res At) := List.rec (motive := fun _ => Option (Res At)) (some (.tup [.agg des0L, .int .i64 3], [])) (fun p _ ih => 
  if n.size + 1 < 4611686018427387904 then
    (if Lib.hasPrefix p.1.data.toList (catB n bar).data.toList = true then
      (if (!List.elem 124 n.data.toList) = true then some (.tup [desV p.2, .int .i64 0], []) else ih)
     else ih)
  else none) l
theorem run_find (n : ByteArray) : runF C24' 60 24 [.str n] = findP n tabL := by kernel_rfl
end
end Go.Proofs.YtbcpnhnalhhfoaaGreatDoor.X
