/-
  REGIONS THAT DRAW THEIR ORDER, part 4: whatever order is drawn.
-/
import Derived.Test.YtbcpnhnalhhfoaaGreatDoorX16
set_option autoImplicit false
set_option linter.unusedVariables false
set_option linter.unusedSimpArgs false
namespace Go.Proofs.YtbcpnhnalhhfoaaGreatDoor.X
open Go Go.RowKit
section
variable {E : Env} {ih : Rec E} {all : Array Oper} {n0 N : Nat} {st s : SE E}
/-- is it carried out -/
noncomputable def gv (all : Array Oper) (o : Oper) (st : SE E) : Option Bool := match o.guard with
  | none => some true
  | some (j, want) => (match (all[j]?).bind (·.dst) with
    | some d => (match look st.env d with | some (.bool t) => some (t == want) | _ => none)
    | none => none)
/-- operation number i, in whatever state -/
noncomputable def tr (ih : Rec E) (all : Array Oper) (n0 N i : Nat) (o : Oper) (st : SE E) : Option (SE E) := match gv all o st with
  | some true => (opD E ih o (n0 + 64 * i) st (prs E)).map fun p => (setN p.2 N).put o.dst p.1
  | some false => some (st.put o.dst .unk)
  | none => none
/-- an operation that adds, or yields alone -/
def Adds (E : Env) (ih : Rec E) (all : Array Oper) (n0 N i : Nat) (o : Oper) (st st1 : SE E) : Prop :=
  ∃ (v : VE E) (news : List (Nat × Blk E.T.A)) (fr : List Nat), st1.env = (st.put o.dst v).env ∧ st1.stk = st.stk ∧ st1.hp = news ++ freeze st.hp fr ∧ st1.nx = N ∧
    (∀ p ∈ news, n0 + 64 * i ≤ p.1 ∧ p.1 < n0 + 64 * i + 64) ∧ (∀ k ∈ fr, ∃ x ∈ opsOf o, k ∈ deep st.hp (st.ev x)) ∧ (cls o = .P → news = [] ∧ fr = []) ∧
    ∀ s : SE E, s.nx = N → gv all o s = gv all o st → (∀ x ∈ opsOf o, s.ev x = st.ev x) → (cls o = .P ∨ ∀ x ∈ opsOf o, Reads st s (deep st.hp (st.ev x))) →
      ∃ s1, tr ih all n0 N i o s = some s1 ∧ s1.env = (s.put o.dst v).env ∧ s1.stk = s.stk ∧ s1.hp = news ++ freeze s.hp fr ∧ s1.nx = N
/-- an operation that writes -/
def Writes (E : Env) (ih : Rec E) (all : Array Oper) (n0 N i : Nat) (o : Oper) (st st1 : SE E) : Prop :=
  cls o = .W ∧ ∃ v : VE E, st1.env = (st.put o.dst v).env ∧ st1.stk = st.stk ∧ st1.nx = N ∧
    ∀ s : SE E, s.nx = N → gv all o s = gv all o st → (∀ x ∈ opsOf o, s.ev x = st.ev x) → (∀ k, look st.hp k = look s.hp k) →
      ∃ s1, tr ih all n0 N i o s = some s1 ∧ s1.env = (s.put o.dst v).env ∧ s1.stk = s.stk ∧ (∀ k, look st1.hp k = look s1.hp k) ∧ s1.nx = N
theorem put_hp (st : SE E) (d : Option Nat) (v : VE E) : (st.put d v).hp = st.hp ∧ (st.put d v).stk = st.stk ∧ (st.put d v).nx = st.nx := by cases d <;> exact ⟨rfl, rfl, rfl⟩
theorem put_env {a b : SE E} (h : a.env = b.env) (d : Option Nat) (v : VE E) : (a.put d v).env = (b.put d v).env := by cases d with | none => exact h | some d => show (d, v) :: a.env = (d, v) :: b.env; rw [h]
theorem tr_cases {i : Nat} {o : Oper} {st1 : SE E} (hN : st.nx = N) (h : tr ih all n0 N i o st = some st1) : Adds E ih all n0 N i o st st1 ∨ Writes E ih all n0 N i o st st1 := by
  have h0 := h
  unfold tr at h
  split at h
  · rename_i hg
    cases ho : opD E ih o (n0 + 64 * i) st (prs E) with
    | none => rw [ho] at h; cases h
    | some p =>
      obtain ⟨v, st'⟩ := p
      rw [ho] at h
      obtain rfl := Option.some.inj h
      have pe : ∀ (a : SE E), ((setN a N).put o.dst v).env = (a.put o.dst v).env ∧ ((setN a N).put o.dst v).stk = a.stk ∧ ((setN a N).put o.dst v).hp = a.hp ∧ ((setN a N).put o.dst v).nx = N := fun a =>
        ⟨put_env (a := setN a N) (b := a) rfl o.dst v, (put_hp _ _ _).2.1, (put_hp _ _ _).1, (put_hp _ _ _).2.2⟩
      by_cases hW : cls o = .W
      · right
        obtain ⟨s0, g1, g2, g3, g4, g5, g6⟩ := opD_W (s := st) hW (fun _ _ => rfl) (fun _ => rfl) ho
        rw [ho] at g1
        refine ⟨hW, v, by rw [(pe st').1]; exact put_env g4 _ _, by rw [(pe st').2.1]; exact g5, (pe st').2.2.2, fun s hs hgs hev hhp => ?_⟩
        obtain ⟨s', k1, k2, k3, k4, k5, k6⟩ := opD_W (s := s) hW hev hhp ho
        refine ⟨(setN s' N).put o.dst v, by unfold tr; rw [hgs, hg]; dsimp only; rw [k1]; rfl, by rw [(pe s').1]; exact put_env k2 _ _, by rw [(pe s').2.1]; exact k3, fun k => ?_, (pe s').2.2.2⟩
        rw [(pe st').2.2.1, (pe s').2.2.1]; exact k6 k
      · left
        obtain ⟨news, fr, g1, g2, g3, g4, g5, g6, g7⟩ := opD_loc hW ho
        refine ⟨v, news, fr, by rw [(pe st').1]; exact put_env g2 _ _, by rw [(pe st').2.1]; exact g3, by rw [(pe st').2.2.1]; exact g1, (pe st').2.2.2, g4, g5, g6, fun s hs hgs hev hrd => ?_⟩
        obtain ⟨s', k1, k2, k3, k4⟩ := g7 s hev hrd
        dsimp only at k1
        exact ⟨(setN s' N).put o.dst v, by unfold tr; rw [hgs, hg]; dsimp only; rw [k1]; rfl, by rw [(pe s').1]; exact put_env k2 _ _, by rw [(pe s').2.1]; exact k3, by rw [(pe s').2.2.1]; exact k4, (pe s').2.2.2⟩
  · rename_i hg
    obtain rfl := Option.some.inj h
    left
    refine ⟨.unk, [], [], rfl, (put_hp _ _ _).2.1, (put_hp _ _ _).1, by rw [(put_hp _ _ _).2.2]; exact hN, fun p hp => (by cases hp), fun k hk => (by cases hk), fun _ => ⟨rfl, rfl⟩, fun s hs hgs hev hrd => ?_⟩
    exact ⟨s.put o.dst .unk, by unfold tr; rw [hgs, hg], rfl, (put_hp _ _ _).2.1, (put_hp _ _ _).1, by rw [(put_hp _ _ _).2.2]; exact hs⟩
  · cases h
/-- what an operation looks at does not turn with a place that it does not look at -/
theorem gv_put {o : Oper} {d : Option Nat} {v : VE E} {a : SE E} (ha : a.env = (st.put d v).env) (h : ∀ x, d = some x → x ∉ o.looksAt all) : gv all o a = gv all o st := by
  unfold gv
  cases hg : o.guard with
  | none => rfl
  | some p =>
    obtain ⟨j, want⟩ := p
    dsimp only
    cases hd : (all[j]?).bind (·.dst) with
    | none => rfl
    | some t =>
      dsimp only
      have : look a.env t = look st.env t := by
        rw [ha, look_put, if_neg]
        intro e
        refine h t e ?_
        unfold Oper.looksAt
        rw [hg]
        refine List.mem_append_right _ ?_
        have hd : (all[j]?).bind (·.dst) = some t := hd
        simp [hd]
      rw [this]
theorem ev_put {o : Oper} {d : Option Nat} {v : VE E} {a : SE E} (ha : a.env = (st.put d v).env) (h : ∀ x, d = some x → x ∉ o.looksAt all) : ∀ x ∈ opsOf o, a.ev x = st.ev x := by
  intro x hx
  cases x with
  | tmp t =>
    unfold St.ev
    dsimp only
    rw [ha, look_put, if_neg]
    intro e
    refine h t e ?_
    unfold Oper.looksAt
    exact List.mem_append_left _ (List.mem_filterMap.2 ⟨.tmp t, hx, rfl⟩)
  | _ => rfl
theorem look_keys (news : List (Nat × Blk E.T.A)) (k a : Nat) (h : ∀ p ∈ news, a ≤ p.1 ∧ p.1 < a + 64) (hk : ¬ (a ≤ k ∧ k < a + 64)) : look news k = none := by
  induction news with
  | nil => rfl
  | cons p news ih =>
    rw [look_cons, if_neg, ih fun q hq => h q (List.mem_cons_of_mem _ hq)]
    intro e
    have := h p (by simp)
    rw [e] at this
    exact hk this
/-- numbers in what an operation looks at lie outside of these -/
def Out (st : SE E) (o : Oper) (a : Nat) : Prop := ∀ x ∈ opsOf o, ∀ k ∈ deep st.hp (st.ev x), ¬ (a ≤ k ∧ k < a + 64)
/-- TWO OPERATIONS CHANGE PLACES. -/
theorem tr_comm {i j : Nat} {x y : Oper} {st1 st2 : SE E} (hij : i ≠ j) (hN : st.nx = N) (h1 : tr ih all n0 N i x st = some st1) (h2 : tr ih all n0 N j y st1 = some st2) (hap : x.apart all y = true) (hcp : compat x y = true)
    (o1 : Out st y (n0 + 64 * i)) (o2 : Out st x (n0 + 64 * j)) :
    ∃ s1 s2, tr ih all n0 N j y st = some s1 ∧ tr ih all n0 N i x s1 = some s2 ∧ Eqv st2 s2 := by
  obtain ⟨a1, a2, a3⟩ := Oper.apart_spec hap
  have hst1 : st1.nx = N := by
    rcases tr_cases hN h1 with ⟨v, news, fr, _, _, _, h, _⟩ | ⟨_, v, _, _, h, _⟩ <;> exact h
  -- the places
  have henv : ∀ {v u : VE E} {b c d e : SE E}, b.env = (st.put x.dst v).env → c.env = (b.put y.dst u).env → d.env = (st.put y.dst u).env → e.env = (d.put x.dst v).env → ∀ t, look c.env t = look e.env t := by
    intro v u b c d e hb hc hd he t
    rw [hc, he, look_put, look_put, hb, hd, look_put, look_put]
    by_cases hx : x.dst = some t
    · have hy : y.dst ≠ some t := a2 t hx
      rw [if_neg hy, if_pos hx, if_pos hx]
    · rw [if_neg hx, if_neg hx]
  have hdis : ∀ k, ¬ ((n0 + 64 * i ≤ k ∧ k < n0 + 64 * i + 64) ∧ (n0 + 64 * j ≤ k ∧ k < n0 + 64 * j + 64)) := fun k hk => by omega
  rcases tr_cases hN h1 with ⟨v, nx, fx, e1, e2, e3, e4, e5, e6, e7, e8⟩ | ⟨hW, v, e1, e2, e4, e8⟩
  · have gy := gv_put (all := all) (o := y) e1 a1
    have vy := ev_put (all := all) (o := y) e1 a1
    rcases tr_cases hst1 h2 with ⟨u, ny, fy, f1, f2, f3, f4, f5, f6, f7, f8⟩ | ⟨hW, u, f1, f2, f4, f8⟩
    · -- both add
      have hlook1 : ∀ k, ¬ (n0 + 64 * i ≤ k ∧ k < n0 + 64 * i + 64) → look st1.hp k = (look st.hp k).map fun b => if k ∈ fx then b.freeze else b := fun k hk => by
        rw [e3, look_append, look_keys nx k _ e5 hk, look_freeze]
      have hsame : ∀ (z : Option (Blk E.T.A)) (p : Prop) [Decidable p], Same z (z.map fun b => if p then b.freeze else b) := by
        intro z p _
        cases z with
        | none => rfl
        | some b =>
          show some b.freeze = some (if p then b.freeze else b).freeze
          split
          · rw [freeze_freeze]
          · rfl
      have hsame' : ∀ (z : Option (Blk E.T.A)) (p : Prop) [Decidable p], Same (z.map fun b => if p then b.freeze else b) z := fun z p _ => (hsame z p).symm
      have hsd : ∀ q ∈ opsOf y, deep st1.hp (st1.ev q) = deep st.hp (st.ev q) := fun q hq => by
        rw [vy q hq]
        refine deep_same fun k hk => ?_
        rw [hlook1 k (o1 q hq k (List.mem_append_left _ hk))]
        exact hsame' _ _
      obtain ⟨s1, g1, g2, g3, g4, g5⟩ := f8 st hN gy.symm (fun x hx => (vy x hx).symm) (.inr fun q hq k hk hl => by
        have hko := o1 q hq k (by rw [← hsd q hq]; exact hk)
        rw [hlook1 k hko] at hl ⊢
        exact hsame _ _)
      have gx := gv_put (all := all) (o := x) g2 a3
      have vx := ev_put (all := all) (o := x) g2 a3
      obtain ⟨s2, k1, k2, k3, k4, k5⟩ := e8 s1 g5 gx vx (.inr fun q hq k hk hl => by
        have hko := o2 q hq k hk
        rw [g4, look_append, look_keys ny k _ f5 hko, look_freeze]
        exact hsame' _ _)
      refine ⟨s1, s2, g1, k1, ⟨henv e1 f1 g2 k2, by rw [f2, e2, k3, g3], fun k => ?_, by rw [f4, k5]⟩⟩
      rw [f3, k4, e3, g4, look_append, look_append, look_freeze, look_freeze, look_append, look_append, look_freeze, look_freeze]
      by_cases hki : n0 + 64 * i ≤ k ∧ k < n0 + 64 * i + 64
      · have hny : look ny k = none := look_keys ny k _ f5 fun hk => hdis k ⟨hki, hk⟩
        have hfy : k ∉ fy := fun hk => by
          obtain ⟨q, hq, hkq⟩ := f6 k hk
          exact o1 q hq k (by rw [← hsd q hq]; exact hkq) hki
        rw [hny]
        cases hnx : look nx k with
        | some b => simp [hfy]
        | none => cases look st.hp k <;> simp [hfy]
      · have hnx : look nx k = none := look_keys nx k _ e5 hki
        rw [hnx]
        cases hny : look ny k with
        | some b =>
          have hkj : n0 + 64 * j ≤ k ∧ k < n0 + 64 * j + 64 := by
            by_cases h : n0 + 64 * j ≤ k ∧ k < n0 + 64 * j + 64
            · exact h
            · rw [look_keys ny k _ f5 h] at hny; cases hny
          have hfx : k ∉ fx := fun hk => by
            obtain ⟨q, hq, hkq⟩ := e6 k hk
            exact o2 q hq k hkq hkj
          simp [hfx]
        | none =>
          cases look st.hp k with
          | none => rfl
          | some b =>
            dsimp only [Option.map_some]
            by_cases p : k ∈ fx <;> by_cases q : k ∈ fy <;> simp [p, q, freeze_freeze]
    · -- y writes: x is nothing to memory
      have hP : cls x = .P := by
        unfold compat at hcp
        rw [hW] at hcp
        cases hx : cls x <;> rw [hx] at hcp <;> first | rfl | cases hcp
      obtain ⟨rfl, rfl⟩ := e7 hP
      have hhp : st1.hp = st.hp := e3
      obtain ⟨s1, g1, g2, g3, g4, g5⟩ := f8 st hN gy.symm (fun x hx => (vy x hx).symm) (fun k => by rw [hhp])
      have gx := gv_put (all := all) (o := x) g2 a3
      have vx := ev_put (all := all) (o := x) g2 a3
      obtain ⟨s2, k1, k2, k3, k4, k5⟩ := e8 s1 g5 gx vx (.inl hP)
      exact ⟨s1, s2, g1, k1, ⟨henv e1 f1 g2 k2, by rw [f2, e2, k3, g3], fun k => by rw [g4 k, k4]; rfl, by rw [f4, k5]⟩⟩
  · -- x writes: y is nothing to memory
    have hP : cls y = .P := by
      unfold compat at hcp
      rw [hW] at hcp
      cases hy : cls y <;> rw [hy] at hcp <;> first | rfl | cases hcp
    have gy := gv_put (all := all) (o := y) e1 a1
    have vy := ev_put (all := all) (o := y) e1 a1
    rcases tr_cases hst1 h2 with ⟨u, ny, fy, f1, f2, f3, f4, f5, f6, f7, f8⟩ | ⟨hW2, _⟩
    · obtain ⟨rfl, rfl⟩ := f7 hP
      have hhp : st2.hp = st1.hp := f3
      obtain ⟨s1, g1, g2, g3, g4, g5⟩ := f8 st hN gy.symm (fun x hx => (vy x hx).symm) (.inl hP)
      have gx := gv_put (all := all) (o := x) g2 a3
      have vx := ev_put (all := all) (o := x) g2 a3
      obtain ⟨s2, k1, k2, k3, k4, k5⟩ := e8 s1 g5 gx vx (fun k => by rw [g4]; rfl)
      exact ⟨s1, s2, g1, k1, ⟨henv e1 f1 g2 k2, by rw [f2, e2, k3, g3], fun k => by rw [hhp, k4 k], by rw [f4, k5]⟩⟩
    · rw [hP] at hW2; cases hW2
/-- an operation does the same where all looks alike -/
theorem tr_eqv {i : Nat} {o : Oper} {st1 : SE E} (hN : st.nx = N) (h : Eqv st s) (h1 : tr ih all n0 N i o st = some st1) : ∃ s1, tr ih all n0 N i o s = some s1 ∧ Eqv st1 s1 := by
  have hg : gv all o s = gv all o st := by
    unfold gv
    cases o.guard with
    | none => rfl
    | some p =>
      dsimp only
      cases (all[p.1]?).bind (·.dst) with
      | none => rfl
      | some t => dsimp only; rw [h.env t]
  rcases tr_cases hN h1 with ⟨v, nx, fx, e1, e2, e3, e4, e5, e6, e7, e8⟩ | ⟨hW, v, e1, e2, e4, e8⟩
  · obtain ⟨s1, k1, k2, k3, k4, k5⟩ := e8 s (by rw [← h.nx]; exact hN) hg (fun x _ => h.ev x) (.inr fun x _ => reads_eqv h.hp _)
    refine ⟨s1, k1, fun t => by rw [e1, k2]; exact (h.put _ _).env t, by rw [e2, k3, h.stk], fun k => ?_, by rw [e4, k5]⟩
    rw [e3, k4, look_append, look_append, look_freeze, look_freeze, h.hp k]
  · obtain ⟨s1, k1, k2, k3, k4, k5⟩ := e8 s (by rw [← h.nx]; exact hN) hg (fun x _ => h.ev x) h.hp
    exact ⟨s1, k1, fun t => by rw [e1, k2]; exact (h.put _ _).env t, by rw [e2, k3, h.stk], k4, by rw [e4, k5]⟩
end
end Go.Proofs.YtbcpnhnalhhfoaaGreatDoor.X
