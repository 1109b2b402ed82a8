/-
  The division of 128 bits: it ends.
-/
import Derived.Test.YtbcpnhnalhhfoaaGreatDoorXQ
set_option autoImplicit false
set_option linter.unusedVariables false
set_option linter.unusedSimpArgs false
set_option maxRecDepth 100000
namespace Go.Proofs.YtbcpnhnalhhfoaaGreatDoor.X
open Go Go.Proofs Go.RowKit Go.Proofs.YtbcpnhnalhhfoaaGreatDoor
noncomputable section
/-! the two correcting loops -/
def st76 {α : Type} (a b d q r : Int) (go ex : Int → Int → α) : α :=
  if decide (q ≥ 4294967296) = false then
   if decide (IntKind.u64.wrap (q * b) > IntKind.u64.wrap (IntKind.u64.wrap (4294967296 * r) + d)) = true then
    if decide (IntKind.u64.wrap (r + a) ≥ 4294967296) = true then ex (IntKind.u64.wrap (q - 1)) (IntKind.u64.wrap (r + a)) else go (IntKind.u64.wrap (q - 1)) (IntKind.u64.wrap (r + a))
   else ex q r
  else
   if decide (IntKind.u64.wrap (r + a) ≥ 4294967296) = true then ex (IntKind.u64.wrap (q - 1)) (IntKind.u64.wrap (r + a)) else go (IntKind.u64.wrap (q - 1)) (IntKind.u64.wrap (r + a))
structure K76 where
  y : Int
  s : Int
  a : Int
  b : Int
  c : Int
  d : Int
  e : Int
  q : Int
  r : Int
def step76 (d : K76 → Int) (k : K76) : Nx K76 K76 := st76 k.a k.b (d k) k.q k.r (fun q r => .go { k with q := q, r := r }) (fun q r => .ex { k with q := q, r := r })
def isEx {ρ : Type} (o : Option (Fx ρ)) : Bool := match o with | some (.ex _) => true | _ => false
def exD' {ρ : Type} (x : ρ) (o : Option (Fx ρ)) : ρ := match o with | some (.ex y) => y | _ => x
theorem isEx_spec {ρ : Type} {o : Option (Fx ρ)} (x : ρ) (h : isEx o = true) : o = some (.ex (exD' x o)) := by
  unfold isEx at h
  split at h
  · rfl
  · cases h
def S76 (k : K76) : St At := { env := [(2, .int .u64 k.y), (8, .int .u64 k.s), (9, .int .u64 k.a), (10, .int .u64 k.b), (11, .int .u64 k.c), (13, .int .u64 k.d), (14, .int .u64 k.e), (15, .int .u64 k.q), (16, .int .u64 k.r)], stk := [], hp := [], nx := 0 }
def X76 (k : K76) : St At := { env := [(2, .int .u64 k.y), (8, .int .u64 k.s), (9, .int .u64 k.a), (10, .int .u64 k.b), (11, .int .u64 k.c), (13, .int .u64 k.d), (14, .int .u64 k.e), (15, .int .u64 k.q)], stk := [], hp := [], nx := 0 }
def S77 (k : K76) : St At := { env := [(2, .int .u64 k.y), (8, .int .u64 k.s), (9, .int .u64 k.a), (10, .int .u64 k.b), (14, .int .u64 k.c), (15, .int .u64 k.d), (17, .int .u64 k.e), (18, .int .u64 k.q), (16, .int .u64 k.r)], stk := [], hp := [], nx := 0 }
def X77 (k : K76) : St At := { env := [(2, .int .u64 k.y), (8, .int .u64 k.s), (14, .int .u64 k.c), (15, .int .u64 k.d), (17, .int .u64 k.e), (18, .int .u64 k.q)], stk := [], hp := [], nx := 0 }
def u76 (st : St At) : Option K76 := match st with
  | ⟨[(2, .int .u64 y), (8, .int .u64 s), (9, .int .u64 a), (10, .int .u64 b), (11, .int .u64 c), (13, .int .u64 d), (14, .int .u64 e), (15, .int .u64 q), (16, .int .u64 r)], [], [], 0⟩ => some ⟨y, s, a, b, c, d, e, q, r⟩
  | _ => none
theorem u76_spec {st : St At} {k : K76} (h : u76 st = some k) : st = S76 k := by
  unfold u76 at h
  split at h
  · obtain rfl := Option.some.inj h; rfl
  · cases h
def u77 (st : St At) : Option K76 := match st with
  | ⟨[(2, .int .u64 y), (8, .int .u64 s), (9, .int .u64 a), (10, .int .u64 b), (14, .int .u64 c), (15, .int .u64 d), (17, .int .u64 e), (18, .int .u64 q), (16, .int .u64 r)], [], [], 0⟩ => some ⟨y, s, a, b, c, d, e, q, r⟩
  | _ => none
theorem u77_spec {st : St At} {k : K76} (h : u77 st = some k) : st = S77 k := by
  unfold u77 at h
  split at h
  · obtain rfl := Option.some.inj h; rfl
  · cases h
def C76 : Cfg := { cs := [(88, conLz)], ks := [((76, 17), [(2, none), (8, none), (9, none), (10, none), (11, none), (13, none), (14, none), (15, none), (16, none)]), ((76, 24), [(2, none), (8, none), (9, none), (10, none), (14, none), (15, none), (17, none), (18, none), (16, none)])], xs := [((76, 17), [(2, none), (8, none), (9, none), (10, none), (11, none), (13, none), (14, none), (15, none)]), ((76, 24), [(2, none), (8, none), (14, none), (15, none), (17, none), (18, none)])] }
theorem C76_ok : CfgOK C76 := { con := .cons okLz .nil }
theorem B76 (k : K76) (m : Nat) (R : St At → Option (Res At)) (K : Xit → St At → Option (Res At)) : B C76 76 17 (m + 60) (S76 k) R K = st76 k.a k.b k.d k.q k.r (fun q r => R (S76 { k with q := q, r := r })) (fun q r => K (.ex 0) (X76 { k with q := q, r := r })) := by kernel_rfl
theorem B77 (k : K76) (m : Nat) (R : St At → Option (Res At)) (K : Xit → St At → Option (Res At)) : B C76 76 24 (m + 60) (S77 k) R K = st76 k.a k.b k.c k.q k.r (fun q r => R (S77 { k with q := q, r := r })) (fun q r => K (.ex 2) (X77 { k with q := q, r := r })) := by kernel_rfl
def end76 (d : K76 → Int) (k : K76) : Option (Fx K76) := iter (step76 d) 3 k
def g76 : LP := fun st K => match u76 st with | some k => if isEx (end76 K76.d k) = true then K (.ex 0) (X76 (exD' k (end76 K76.d k))) else none | none => none
def g77 : LP := fun st K => match u77 st with | some k => if isEx (end76 K76.c k) = true then K (.ex 2) (X77 (exD' k (end76 K76.c k))) else none | none => none
theorem okg76 : OKL 76 17 g76 := okl_iter C76_ok (S := S76) (X := X76) (Y := X76) (step := step76 K76.d) (id := 0) (by kernel_rfl) (by kernel_rfl)
  (fun k m R K => by rw [B76]; unfold step76 st76; (repeat' split) <;> rfl) (fun k => by kernel_rfl) fun st K q h => by
    unfold g76 at h
    split at h
    · rename_i k hu
      split at h
      · rename_i hx
        exact ⟨k, 3, _, u76_spec hu, isEx_spec k hx, h⟩
      · cases h
    · cases h
theorem okg77 : OKL 76 24 g77 := okl_iter C76_ok (S := S77) (X := X77) (Y := X77) (step := step76 K76.c) (id := 2) (by kernel_rfl) (by kernel_rfl)
  (fun k m R K => by rw [B77]; unfold step76 st76; (repeat' split) <;> rfl) (fun k => by kernel_rfl) fun st K q h => by
    unfold g77 at h
    split at h
    · rename_i k hu
      split at h
      · rename_i hx
        exact ⟨k, 3, _, u77_spec hu, isEx_spec k hx, h⟩
      · cases h
    · cases h
def C76' : Cfg := { cs := C76.cs, ks := C76.ks, xs := C76.xs, lps := [((76, 17), g76), ((76, 24), g77)] }
theorem C76'_ok : CfgOK C76' := { con := C76_ok.con, lp := .cons okg76 (.cons okg77 .nil) }
end
end Go.Proofs.YtbcpnhnalhhfoaaGreatDoor.X
