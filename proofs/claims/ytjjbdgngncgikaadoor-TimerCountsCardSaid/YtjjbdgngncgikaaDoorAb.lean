/-
  FREQUENT STEPS BY THEIR NAMES: what was made since stands behind what was there, out of the fact 'HB' that stands at hand; what a fact at hand decides; two lists of arguments that are the same.
-/
import Derived.Test.YtjjbdgngncgikaaDoorV0
namespace Go.Proofs.YtjjbdgngncgikaaDoor
open Go Go.RowKit Go.Proofs.YtjjbdgngncgikaaDoorW.PrintWords Go.Proofs.YtjjbdgngncgikaaDoorW.PrintMore
theorem bl {n : Nat} {w w' : World} (h : Below n w w' := by repeat (first | (with_reducible first | exact HB.out | apply below_alloc | apply pw_below_drewN | apply below_drew1) | exact HB.out)) : Below n w w' := h
theorem ode {p : Prop} [Decidable p] (h : decide p = true := by first | (with_reducible assumption) | assumption) : p := of_decide_eq_true h
theorem aeq {p : Prop} (h : p := by (try simp only [List.map_toArray, List.map_cons, List.map_nil]); first | done | rfl | (simp only [List.length_drop, List.length_take]; rfl)) : p := h
theorem kk {w w' : World} {S : Nat → Prop} (h : Kept w w' S := by repeat (first | (with_reducible first | exact HK.out | apply Kept.alloc | apply Kept.drewN | apply Kept.drew) | exact HK.out)) : Kept w w' S := h
theorem rr {p q : Prop} (h : p) (f : p → q := by intro h_; (with_reducible repeat (first | apply Kd.R_alloc | apply Kd.R_drewN | apply Kd.R_drew)); exact h_) : q := f h
theorem rs {p q : Prop} (h : p) (f : p → q := by intro h_; (with_reducible repeat (first | apply Kd.S_alloc | apply Kd.S_drewN | apply Kd.S_drew)); exact h_) : q := f h
theorem rn {p q : Prop} (h : p) (f : p → q := by intro h_; (with_reducible repeat (first | apply Kd.N_alloc | apply Kd.N_drewN | apply Kd.N_drew)); exact h_) : q := f h
theorem rb {p q : Prop} (h : p) (f : p → q := by intro h_; (with_reducible repeat (first | refine blk_drewN ?_ _ | refine blk_drew ?_ | refine blk_alloc ?_ _)); exact h_) : q := f h
abbrev T : Bool := true
abbrev F : Bool := false
theorem ap (a : Act) (d : Option Nat) (v : Value) : a.put d v = match d with | some i => { a with tmps := a.tmps.setIfInBounds i v } | none => a := rfl
theorem sa {α : Type} (l : List α) (i : Nat) (a : α) : l.toArray.setIfInBounds i a = (l.set i a).toArray := List.setIfInBounds_toArray ..
theorem sb {α : Type} {x a : α} {xs : List α} : (x :: xs).set 0 a = a :: xs := List.set_cons_zero ..
theorem sc {α : Type} {x a : α} {xs : List α} {n : Nat} : (x :: xs).set (n + 1) a = x :: xs.set n a := List.set_cons_succ ..
theorem bs1 {p0 q : Prop} (g0 : p0) (f : p0 → q := by intro h0_; repeat (first | (with_reducible first | exact HB.out | apply below_alloc | apply pw_below_drewN | apply below_drew1 | refine below_set ?_ h0_) | exact HB.out)) : q := f g0
theorem ks1 {p0 q : Prop} (g0 : p0) (f : p0 → q := by intro h0_; repeat (first | (with_reducible first | exact HK.out | apply Kept.alloc | apply Kept.drewN | apply Kept.drew | refine Kept.setCell ?_ (.inr h0_) _) | exact HK.out)) : q := f g0
theorem bs2 {p0 p1 q : Prop} (g0 : p0) (g1 : p1) (f : p0 → p1 → q := by intro h0_ h1_; repeat (first | (with_reducible first | exact HB.out | apply below_alloc | apply pw_below_drewN | apply below_drew1 | refine below_set ?_ h0_ | refine below_set ?_ h1_) | exact HB.out)) : q := f g0 g1
theorem ks2 {p0 p1 q : Prop} (g0 : p0) (g1 : p1) (f : p0 → p1 → q := by intro h0_ h1_; repeat (first | (with_reducible first | exact HK.out | apply Kept.alloc | apply Kept.drewN | apply Kept.drew | refine Kept.setCell ?_ (.inr h0_) _ | refine Kept.setCell ?_ (.inr h1_) _) | exact HK.out)) : q := f g0 g1
theorem bs3 {p0 p1 p2 q : Prop} (g0 : p0) (g1 : p1) (g2 : p2) (f : p0 → p1 → p2 → q := by intro h0_ h1_ h2_; repeat (first | (with_reducible first | exact HB.out | apply below_alloc | apply pw_below_drewN | apply below_drew1 | refine below_set ?_ h0_ | refine below_set ?_ h1_ | refine below_set ?_ h2_) | exact HB.out)) : q := f g0 g1 g2
theorem ks3 {p0 p1 p2 q : Prop} (g0 : p0) (g1 : p1) (g2 : p2) (f : p0 → p1 → p2 → q := by intro h0_ h1_ h2_; repeat (first | (with_reducible first | exact HK.out | apply Kept.alloc | apply Kept.drewN | apply Kept.drew | refine Kept.setCell ?_ (.inr h0_) _ | refine Kept.setCell ?_ (.inr h1_) _ | refine Kept.setCell ?_ (.inr h2_) _) | exact HK.out)) : q := f g0 g1 g2
theorem t0 : ((0 : Int)).toNat = 0 := rfl
theorem t1 : ((1 : Int)).toNat = 1 := rfl
theorem t2 : ((2 : Int)).toNat = 2 := rfl
theorem t3 : ((3 : Int)).toNat = 3 := rfl
theorem t4 : ((4 : Int)).toNat = 4 := rfl
theorem t5 : ((5 : Int)).toNat = 5 := rfl
end Go.Proofs.YtjjbdgngncgikaaDoor
