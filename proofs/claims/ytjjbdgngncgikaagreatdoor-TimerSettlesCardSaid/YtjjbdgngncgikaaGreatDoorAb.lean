/-
  FREQUENT STEPS BY THEIR NAMES: what was made since stands behind what was there, out of the fact 'HB' that stands at hand; what a fact at hand decides; two lists of arguments that are the same.
-/
import Derived.Test.YtjjbdgngncgikaaGreatDoorV0
namespace Go.Proofs.YtjjbdgngncgikaaGreatDoor
open Go Go.RowKit Go.Proofs.YtjjbdgngncgikaaGreatDoorW.PrintWords Go.Proofs.YtjjbdgngncgikaaGreatDoorW.PrintMore Go.Proofs.YtjjbdgngncgikaaGreatDoorW.PrintLast
theorem bl {n : Nat} {w w' : World} (h : Below n w w' := by repeat (first | (with_reducible first | exact HB.out | apply below_alloc | apply pw_below_drewN | apply below_drew1) | exact HB.out)) : Below n w w' := h
theorem ode {p : Prop} [Decidable p] (h : decide p = true := by first | (with_reducible assumption) | assumption) : p := of_decide_eq_true h
theorem aeq {p : Prop} (h : p := by (try simp only [List.map_toArray, List.map_cons, List.map_nil]); first | done | rfl | (simp only [List.length_drop, List.length_take]; rfl)) : p := h
theorem kk {w w' : World} {S : Nat → Prop} (h : Kept w w' S := by repeat (first | (with_reducible first | exact HK.out | apply Kept.alloc | apply Kept.drewN | apply Kept.drew) | exact HK.out)) : Kept w w' S := h
theorem rr {p q : Prop} (h : p) (f : p → q := by intro h_; (with_reducible repeat (first | apply Kd.R_alloc | apply Kd.R_drewN | apply Kd.R_drew)); exact h_) : q := f h
theorem rs {p q : Prop} (h : p) (f : p → q := by intro h_; (with_reducible repeat (first | apply Kd.S_alloc | apply Kd.S_drewN | apply Kd.S_drew)); exact h_) : q := f h
theorem rb {p q : Prop} (h : p) (f : p → q := by intro h_; (with_reducible repeat (first | refine blk_drewN ?_ _ | refine blk_drew ?_ | refine blk_alloc ?_ _)); exact h_) : q := f h
abbrev T : Bool := true
abbrev F : Bool := false
theorem ap (a : Act) (d : Option Nat) (v : Value) : a.put d v = match d with | some i => { a with tmps := a.tmps.setIfInBounds i v } | none => a := rfl
theorem sa {α : Type} (l : List α) (i : Nat) (a : α) : l.toArray.setIfInBounds i a = (l.set i a).toArray := List.setIfInBounds_toArray ..
theorem sb {α : Type} {x a : α} {xs : List α} : (x :: xs).set 0 a = a :: xs := List.set_cons_zero ..
theorem sc {α : Type} {x a : α} {xs : List α} {n : Nat} : (x :: xs).set (n + 1) a = x :: xs.set n a := List.set_cons_succ ..
theorem bs1 {p0 q : Prop} (g0 : p0) (f : p0 → q := by intro h0_; repeat (first | (with_reducible first | exact HB.out | apply below_alloc | apply pw_below_drewN | apply below_drew1 | refine below_set ?_ h0_) | exact HB.out)) : q := f g0
theorem ks1 {p0 q : Prop} (g0 : p0) (f : p0 → q := by intro h0_; repeat (first | (with_reducible first | exact HK.out | apply Kept.alloc | apply Kept.drewN | apply Kept.drew | refine Kept.setCell ?_ (.inr h0_) _) | exact HK.out)) : q := f g0
theorem bs2 {p0 p1 q : Prop} (g0 : p0) (g1 : p1) (f : p0 → p1 → q := by intro h0_ h1_; repeat (first | (with_reducible first | exact HB.out | apply below_alloc | apply pw_below_drewN | apply below_drew1 | refine below_set ?_ h0_ | refine below_set ?_ h1_) | exact HB.out)) : q := f g0 g1
theorem bs3 {p0 p1 p2 q : Prop} (g0 : p0) (g1 : p1) (g2 : p2) (f : p0 → p1 → p2 → q := by intro h0_ h1_ h2_; repeat (first | (with_reducible first | exact HB.out | apply below_alloc | apply pw_below_drewN | apply below_drew1 | refine below_set ?_ h0_ | refine below_set ?_ h1_ | refine below_set ?_ h2_) | exact HB.out)) : q := f g0 g1 g2
theorem t0 : ((0 : Int)).toNat = 0 := rfl
theorem t1 : ((1 : Int)).toNat = 1 := rfl
theorem t2 : ((2 : Int)).toNat = 2 := rfl
theorem t3 : ((3 : Int)).toNat = 3 := rfl
theorem t4 : ((4 : Int)).toNat = 4 := rfl
theorem t5 : ((5 : Int)).toNat = 5 := rfl
theorem am {p : Prop} (h : p) : Aside0 p := ⟨h⟩
theorem dd {p : Prop} (h : p := by first | exact ⟨rfl, _, World.drewN_drewN _ _ _⟩ | exact ⟨rfl, _, Eq.trans (World.drewN_drewN _ _ _) (congrArg (World.drewN _) (Nat.add_assoc _ _ _))⟩) : p := h
theorem an {p q : Prop} (h : p) (f : p → q := by intro h_; first | (rw [add_block]; exact h_) | (show (Addr.add _ _).block ≠ _; rw [add_block]; exact h_) | exact h_) : q := f h
theorem ew {p : Prop} (h : p := by first | rfl | (simp [errW_none, errW_some] <;> rfl) | (simp [*, errW_none, errW_some] <;> rfl)) : p := h
theorem bz2 {w : World} {g t : Nat} {a0 a1 : Value} (h : w.heap[g]? = some (.cells #[a0, a1] t (0, 0))) : w.cell? ⟨g, 0, none⟩ = some a0 ∧ w.cell? ⟨g, 1, none⟩ = some a1 ∧ w.frozen? ⟨g, 0, none⟩ = false ∧ w.frozen? ⟨g, 1, none⟩ = false := ⟨(blk_cell h 0).trans rfl, (blk_cell h 1).trans rfl, blk_frozen h 0, blk_frozen h 1⟩
theorem bz4 {w : World} {g t : Nat} {a0 a1 a2 a3 : Value} (h : w.heap[g]? = some (.cells #[a0, a1, a2, a3] t (0, 0))) : w.cell? ⟨g, 0, none⟩ = some a0 ∧ w.cell? ⟨g, 1, none⟩ = some a1 ∧ w.cell? ⟨g, 2, none⟩ = some a2 ∧ w.cell? ⟨g, 3, none⟩ = some a3 ∧ w.frozen? ⟨g, 0, none⟩ = false ∧ w.frozen? ⟨g, 1, none⟩ = false ∧ w.frozen? ⟨g, 2, none⟩ = false ∧ w.frozen? ⟨g, 3, none⟩ = false := ⟨(blk_cell h 0).trans rfl, (blk_cell h 1).trans rfl, (blk_cell h 2).trans rfl, (blk_cell h 3).trans rfl, blk_frozen h 0, blk_frozen h 1, blk_frozen h 2, blk_frozen h 3⟩
theorem bz6 {w : World} {g t : Nat} {a0 a1 a2 a3 a4 a5 : Value} (h : w.heap[g]? = some (.cells #[a0, a1, a2, a3, a4, a5] t (0, 0))) : w.cell? ⟨g, 0, none⟩ = some a0 ∧ w.cell? ⟨g, 1, none⟩ = some a1 ∧ w.cell? ⟨g, 2, none⟩ = some a2 ∧ w.cell? ⟨g, 3, none⟩ = some a3 ∧ w.cell? ⟨g, 4, none⟩ = some a4 ∧ w.cell? ⟨g, 5, none⟩ = some a5 ∧ w.frozen? ⟨g, 0, none⟩ = false ∧ w.frozen? ⟨g, 1, none⟩ = false ∧ w.frozen? ⟨g, 2, none⟩ = false ∧ w.frozen? ⟨g, 3, none⟩ = false ∧ w.frozen? ⟨g, 4, none⟩ = false ∧ w.frozen? ⟨g, 5, none⟩ = false := ⟨(blk_cell h 0).trans rfl, (blk_cell h 1).trans rfl, (blk_cell h 2).trans rfl, (blk_cell h 3).trans rfl, (blk_cell h 4).trans rfl, (blk_cell h 5).trans rfl, blk_frozen h 0, blk_frozen h 1, blk_frozen h 2, blk_frozen h 3, blk_frozen h 4, blk_frozen h 5⟩
theorem ix0 {n : Nat} (q : 0 < (n : Int)) : ((0 < n) = True) ∧ ((0 ≤ (0 : Int)) = True) ∧ ((0 < (n : Int)) = True) := ⟨eq_true (by omega), eq_true (by omega), eq_true q⟩
theorem ix1 {n : Nat} (q : 1 < (n : Int)) : ((1 < n) = True) ∧ ((0 ≤ (1 : Int)) = True) ∧ ((1 < (n : Int)) = True) := ⟨eq_true (by omega), eq_true (by omega), eq_true q⟩
theorem ix2 {n : Nat} (q : 2 < (n : Int)) : ((2 < n) = True) ∧ ((0 ≤ (2 : Int)) = True) ∧ ((2 < (n : Int)) = True) := ⟨eq_true (by omega), eq_true (by omega), eq_true q⟩
theorem ix3 {n : Nat} (q : 3 < (n : Int)) : ((3 < n) = True) ∧ ((0 ≤ (3 : Int)) = True) ∧ ((3 < (n : Int)) = True) := ⟨eq_true (by omega), eq_true (by omega), eq_true q⟩
theorem ix4 {n : Nat} (q : 4 < (n : Int)) : ((4 < n) = True) ∧ ((0 ≤ (4 : Int)) = True) ∧ ((4 < (n : Int)) = True) := ⟨eq_true (by omega), eq_true (by omega), eq_true q⟩
theorem ix5 {n : Nat} (q : 5 < (n : Int)) : ((5 < n) = True) ∧ ((0 ≤ (5 : Int)) = True) ∧ ((5 < (n : Int)) = True) := ⟨eq_true (by omega), eq_true (by omega), eq_true q⟩
theorem gw {a b n : Nat} (e : b = n) (h : a ≤ n) : a ≤ b := e ▸ h
theorem hbl {w w' : World} {a : Addr} {v : Value} (hb : Below w.heap.size w w') (hx : w.cell? a = some v) : w'.cell? a = some v := (hb.cell (World.block_lt_of_cell? w _ hx)).trans hx
theorem hnl {w : World} {a ad : Addr} {v : Value} {g : Nat} (hx : w.cell? a = some v) (gw : w.heap.size ≤ g) (f : a.block < w.heap.size → ad.block < w.heap.size := by intro h_; first | rwa [add_block] at h_ | exact h_) : ad.block ≠ g := Nat.ne_of_lt (Nat.lt_of_lt_of_le (f (World.block_lt_of_cell? _ _ hx)) gw)
theorem cc {p q : Prop} (h : p) (f : p → q := by intro h_; repeat (first | exact h_ | (with_reducible refine Kd.C_alloc ?_ _) | (with_reducible refine Kd.C_drewN ?_ _) | (with_reducible refine Kd.C_drew ?_))) : q := f h
section
variable {P : Program} {ops : Array Oper} {rest : List Oper} {o : Oper} {a : Act} {Q : Exit → Act → World → Prop} {W : World}
theorem bx {N : Tmp} {cs : Array Value} {t : TypeId} (h : ∀ g, g = W.heap.size → ∀ w1, w1.heap[g]? = some (.cells cs t (0, 0)) → Below W.heap.size W w1 → wpList P ops Q rest (a.put o.dst (.pointer (some ⟨g, 0, none⟩))) w1) (hd : o.dst = some N := by rfl) (hgd : o.guard = none := by rfl)
    (hr : (execOp a.eval o).run P W = .ok (.value (.pointer (some ⟨W.heap.size, 0, none⟩))) (W.alloc (.cells cs t (0, 0))) := by first | (go_simp; done) | (go_simp; rfl)) : wpList P ops Q (o :: rest) a W := box_event hgd hd hr h
end
theorem ixv {i : Int} {n : Nat} (p : 0 ≤ i) (q : i < (n : Int)) : ((0 ≤ i) = True) ∧ ((i < (n : Int)) = True) := ⟨eq_true p, eq_true q⟩
theorem oi {c : Prop} [Decidable c] {α : Type} {x : Option α} {r : α} (h : (if c then x else none) = some r) : c := by
  by_cases hc : c
  · exact hc
  · rw [if_neg hc] at h; cases h
section
variable {P : Program} {ops : Array Oper} {Q : Exit → Act → World → Prop}
theorem gl {rest : List Oper} {oi : Oper} {a : Act} {w : World} (N : Option Tmp) {f : FuncId} {fn : Func} {as : Array Operand} {ts : Array TypeId} (hf : P.funcs[f]? = some fn) (args : Array Value) (h : Calls P f args w fun e w' => ∃ v, e = .returned v ∧ wpList P ops Q rest (a.put N v) w') (hd : oi.dst = N := by rfl) (hg : oi.guard = none := by rfl) (hname : (fn.name == "runtime.NumGoroutine") = false := by kernel_rfl) (hb : fn.body.isSome = true := by rfl)
    (hop : oi.op = .call { callee := .value (.func f), args := as, argTypes := ts } := by rfl) (hargs : as.map a.eval = args := by (try simp only [List.map_toArray, List.map_cons, List.map_nil]); first | done | rfl | (simp only [List.length_drop, List.length_take]; rfl)) : wpList P ops Q (oi :: rest) a w := goesL_ N hd hg hf hname hb args hop hargs h
end
end Go.Proofs.YtjjbdgngncgikaaGreatDoor
