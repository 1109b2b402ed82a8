/-
  REGIONS THAT DRAW THEIR ORDER, part 4: whatever order is drawn.
-/
import Derived.Test.YtpbpebjfglfjfaaGreatDoorX16
set_option autoImplicit false
set_option linter.unusedVariables false
set_option linter.unusedSimpArgs false
namespace Go.Proofs.YtpbpebjfglfjfaaGreatDoor.X
open Go Go.RowKit
section
variable {E : Env} {ih : Rec E} {all : Array Oper} {n0 N : Nat} {st s : SE E}
/-- is it carried out -/
noncomputable def gv (all : Array Oper) (o : Oper) (st : SE E) : Option Bool := match o.guard with
  | none => some true
  | some (j, want) => (match (all[j]?).bind (·.dst) with
    | some d => (match look st.env d with | some (.bool t) => some (t == want) | some (.tup []) => some false | _ => none)
    | none => none)
/-- operation number i, in whatever state -/
noncomputable def tr (ih : Rec E) (all : Array Oper) (n0 N i : Nat) (o : Oper) (st : SE E) : Option (SE E) := match gv all o st with
  | some true => (match okP E all i o st with
    | true => (opD E ih o (n0 + 64 * i) st (prs E)).map fun p => (setN p.2 N).put o.dst p.1
    | false => none)
  | some false => some (st.put o.dst (.tup []))
  | none => none
/-- what the region does not write stands as it stood -/
def OutEq (all : Array Oper) (a b : SE E) : Prop := ∀ x : Operand, outerT all x = true → a.ev x = b.ev x
theorem OutEq.symm {a b : SE E} (h : OutEq all a b) : OutEq all b a := fun x hx => (h x hx).symm
theorem OutEq.refl (a : SE E) : OutEq all a a := fun _ _ => rfl
theorem OutEq.trans {a b c : SE E} (h : OutEq all a b) (k : OutEq all b c) : OutEq all a c := fun x hx => (h x hx).trans (k x hx)
/-- an operation that adds, or yields alone -/
def Adds (E : Env) (ih : Rec E) (all : Array Oper) (n0 N i : Nat) (o : Oper) (st st1 : SE E) : Prop :=
  ∃ (v : VE E) (news : List (Nat × Blk E.T.A)) (fr : List Nat), st1.env = (st.put o.dst v).env ∧ st1.stk = st.stk ∧ st1.hp = news ++ freeze st.hp fr ∧ st1.nx = N ∧
    (∀ p ∈ news, n0 + 64 * i ≤ p.1 ∧ p.1 < n0 + 64 * i + 64) ∧ (∀ k ∈ fr, ∃ x ∈ opsOf o, k ∈ deep st.hp (st.ev x)) ∧ (cls o = .P → news = [] ∧ fr = []) ∧
    ∀ s : SE E, s.nx = N → gv all o s = gv all o st → (∀ x ∈ opsOf o, s.ev x = st.ev x) → OutEq all s st → (cls o = .P ∨ ∀ x ∈ opsOf o, Reads st s (deep st.hp (st.ev x))) →
      ∃ s1, tr ih all n0 N i o s = some s1 ∧ s1.env = (s.put o.dst v).env ∧ s1.stk = s.stk ∧ s1.hp = news ++ freeze s.hp fr ∧ s1.nx = N
/-- an operation that writes -/
def Writes (E : Env) (ih : Rec E) (all : Array Oper) (n0 N i : Nat) (o : Oper) (st st1 : SE E) : Prop :=
  cls o = .W ∧ ∃ v : VE E, st1.env = (st.put o.dst v).env ∧ st1.stk = st.stk ∧ st1.nx = N ∧
    ∀ s : SE E, s.nx = N → gv all o s = gv all o st → (∀ x ∈ opsOf o, s.ev x = st.ev x) → OutEq all s st → (∀ k, look st.hp k = look s.hp k) →
      ∃ s1, tr ih all n0 N i o s = some s1 ∧ s1.env = (s.put o.dst v).env ∧ s1.stk = s.stk ∧ (∀ k, look st1.hp k = look s1.hp k) ∧ s1.nx = N
theorem put_hp (st : SE E) (d : Option Nat) (v : VE E) : (st.put d v).hp = st.hp ∧ (st.put d v).stk = st.stk ∧ (st.put d v).nx = st.nx := by cases d <;> exact ⟨rfl, rfl, rfl⟩
theorem put_env {a b : SE E} (h : a.env = b.env) (d : Option Nat) (v : VE E) : (a.put d v).env = (b.put d v).env := by cases d with | none => exact h | some d => show (d, v) :: a.env = (d, v) :: b.env; rw [h]
theorem allJ_congr {p q : Oper → Nat → Bool} (h : ∀ y j, p y j = q y j) (l : List Oper) (j : Nat) : allJ p l j = allJ q l j := by
  have : p = q := funext fun y => funext fun j => h y j
  rw [this]
theorem allJ_spec {p : Oper → Nat → Bool} : ∀ (l : List Oper) (j : Nat), allJ p l j = true → ∀ (k : Nat) (y : Oper), l[k]? = some y → p y (j + k) = true
  | [], j, _, k, y, h => by cases h
  | z :: l, j, h, k, y, hk => by
    replace h : (match p z j with | true => allJ p l (j + 1) | false => false) = true := h
    split at h
    · rename_i hz
      cases k with
      | zero => obtain rfl := Option.some.inj hk; exact hz
      | succ k => have := allJ_spec l (j + 1) h k y hk; rwa [show j + 1 + k = j + (k + 1) by omega] at this
    · cases h
theorem adrP_st {o : Oper} {a b : SE E} (h : ∀ x ∈ opsOf o, a.ev x = b.ev x) : adrP E o a = adrP E o b := by
  unfold adrP
  cases ho : o.op with
  | load t x => dsimp only; rw [h x (by unfold opsOf; rw [ho]; simp [Op.operands])]
  | store t x y => dsimp only; rw [h x (by unfold opsOf; rw [ho]; simp [Op.operands])]
  | _ => rfl
theorem pairO_st {x y : Oper} {a b : SE E} (h : lqP all x y = true) (ho : OutEq all a b) : pairO E a x y = pairO E b x y := by
  unfold lqP at h
  unfold pairO
  split at h
  · rename_i u v hu hv
    rw [Bool.and_eq_true] at h
    rw [ho u h.1, ho v h.2]
  · cases h
theorem okP_st {i : Nat} {o : Oper} {a b : SE E} (h : ∀ x ∈ opsOf o, a.ev x = b.ev x) (ho : OutEq all a b) : okP E all i o a = okP E all i o b := by
  unfold okP
  have h1 := adrP_st h
  cases isLd o with
  | true =>
    dsimp only
    refine allJ_congr (fun y j => ?_) _ _
    unfold okL1
    rw [h1]
    cases hq : lqP all o y with
    | true => rw [pairO_st hq ho]
    | false => rfl
  | false =>
    dsimp only
    cases isSt o with
    | false => rfl
    | true =>
      dsimp only
      refine allJ_congr (fun y j => ?_) _ _
      unfold okS1
      rw [h1]
      cases hq : lqP all y o with
      | true => rw [pairO_st hq ho]
      | false => rfl
theorem tr_true {i : Nat} {o : Oper} {a b : SE E} {v : VE E} (hg : gv all o a = some true) (hk : okP E all i o a = true) (ho : opD E ih o (n0 + 64 * i) a (prs E) = some (v, b)) : tr ih all n0 N i o a = some ((setN b N).put o.dst v) := by
  unfold tr; rw [hg]; dsimp only; rw [hk]; dsimp only; rw [ho]; rfl
theorem tr_cases {i : Nat} {o : Oper} {st1 : SE E} (hN : st.nx = N) (h : tr ih all n0 N i o st = some st1) : Adds E ih all n0 N i o st st1 ∨ Writes E ih all n0 N i o st st1 := by
  have h0 := h
  unfold tr at h
  split at h
  · rename_i hg
    cases hok : okP E all i o st with
    | false => rw [hok] at h; cases h
    | true =>
    rw [hok] at h
    dsimp only at h
    cases ho : opD E ih o (n0 + 64 * i) st (prs E) with
    | none => rw [ho] at h; cases h
    | some p =>
      obtain ⟨v, st'⟩ := p
      rw [ho] at h
      obtain rfl := Option.some.inj h
      have pe : ∀ (a : SE E), ((setN a N).put o.dst v).env = (a.put o.dst v).env ∧ ((setN a N).put o.dst v).stk = a.stk ∧ ((setN a N).put o.dst v).hp = a.hp ∧ ((setN a N).put o.dst v).nx = N := fun a =>
        ⟨put_env (a := setN a N) (b := a) rfl o.dst v, (put_hp _ _ _).2.1, (put_hp _ _ _).1, (put_hp _ _ _).2.2⟩
      by_cases hW : cls o = .W
      · right
        obtain ⟨s0, g1, g2, g3, g4, g5, g6⟩ := opD_W (s := st) hW (fun _ _ => rfl) (fun _ => rfl) ho
        rw [ho] at g1
        refine ⟨hW, v, by rw [(pe st').1]; exact put_env g4 _ _, by rw [(pe st').2.1]; exact g5, (pe st').2.2.2, fun s hs hgs hev hou hhp => ?_⟩
        obtain ⟨s', k1, k2, k3, k4, k5, k6⟩ := opD_W (s := s) hW hev hhp ho
        refine ⟨(setN s' N).put o.dst v, tr_true (hgs.trans hg) ((okP_st hev hou).trans hok) k1, by rw [(pe s').1]; exact put_env k2 _ _, by rw [(pe s').2.1]; exact k3, fun k => ?_, (pe s').2.2.2⟩
        rw [(pe st').2.2.1, (pe s').2.2.1]; exact k6 k
      · left
        obtain ⟨news, fr, g1, g2, g3, g4, g5, g6, g7⟩ := opD_loc hW ho
        refine ⟨v, news, fr, by rw [(pe st').1]; exact put_env g2 _ _, by rw [(pe st').2.1]; exact g3, by rw [(pe st').2.2.1]; exact g1, (pe st').2.2.2, g4, g5, g6, fun s hs hgs hev hou hrd => ?_⟩
        obtain ⟨s', k1, k2, k3, k4⟩ := g7 s hev hrd
        dsimp only at k1
        exact ⟨(setN s' N).put o.dst v, tr_true (hgs.trans hg) ((okP_st hev hou).trans hok) k1, by rw [(pe s').1]; exact put_env k2 _ _, by rw [(pe s').2.1]; exact k3, by rw [(pe s').2.2.1]; exact k4, (pe s').2.2.2⟩
  · rename_i hg
    obtain rfl := Option.some.inj h
    left
    refine ⟨.tup [], [], [], rfl, (put_hp _ _ _).2.1, (put_hp _ _ _).1, by rw [(put_hp _ _ _).2.2]; exact hN, fun p hp => (by cases hp), fun k hk => (by cases hk), fun _ => ⟨rfl, rfl⟩, fun s hs hgs hev hou hrd => ?_⟩
    exact ⟨s.put o.dst (.tup []), by unfold tr; rw [hgs, hg], rfl, (put_hp _ _ _).2.1, (put_hp _ _ _).1, by rw [(put_hp _ _ _).2.2]; exact hs⟩
  · cases h
/-- what an operation looks at does not turn with a place that it does not look at -/
theorem gv_put {o : Oper} {d : Option Nat} {v : VE E} {a : SE E} (ha : a.env = (st.put d v).env) (h : ∀ x, d = some x → x ∉ o.looksAt all) : gv all o a = gv all o st := by
  unfold gv
  cases hg : o.guard with
  | none => rfl
  | some p =>
    obtain ⟨j, want⟩ := p
    dsimp only
    cases hd : (all[j]?).bind (·.dst) with
    | none => rfl
    | some t =>
      dsimp only
      have : look a.env t = look st.env t := by
        rw [ha, look_put, if_neg]
        intro e
        refine h t e ?_
        unfold Oper.looksAt
        rw [hg]
        refine List.mem_append_right _ ?_
        have hd : (all[j]?).bind (·.dst) = some t := hd
        simp [hd]
      rw [this]
theorem ev_put {o : Oper} {d : Option Nat} {v : VE E} {a : SE E} (ha : a.env = (st.put d v).env) (h : ∀ x, d = some x → x ∉ o.looksAt all) : ∀ x ∈ opsOf o, a.ev x = st.ev x := by
  intro x hx
  cases x with
  | tmp t =>
    unfold St.ev
    dsimp only
    rw [ha, look_put, if_neg]
    intro e
    refine h t e ?_
    unfold Oper.looksAt
    exact List.mem_append_left _ (List.mem_filterMap.2 ⟨.tmp t, hx, rfl⟩)
  | _ => rfl
theorem look_keys (news : List (Nat × Blk E.T.A)) (k a : Nat) (h : ∀ p ∈ news, a ≤ p.1 ∧ p.1 < a + 64) (hk : ¬ (a ≤ k ∧ k < a + 64)) : look news k = none := by
  induction news with
  | nil => rfl
  | cons p news ih =>
    rw [look_cons, if_neg, ih fun q hq => h q (List.mem_cons_of_mem _ hq)]
    intro e
    have := h p (by simp)
    rw [e] at this
    exact hk this
/-- numbers in what an operation looks at lie outside of these -/
def Out (st : SE E) (o : Oper) (a : Nat) : Prop := ∀ x ∈ opsOf o, ∀ k ∈ deep st.hp (st.ev x), ¬ (a ≤ k ∧ k < a + 64)
/-- a load whose address is told by itself leans on variables alone -/
theorem ld_still {i : Nat} {o : Oper} {st1 : SE E} (hl : isLd o = true) (hm : gv all o st = some true → adrP E o st = true) (hN : st.nx = N) (h : tr ih all n0 N i o st = some st1) : ∃ (v : VE E) (Q : List Nat), (∀ k ∈ Q, gv all o st = some true ∧ ∃ a off, adrOf o = some a ∧ st.ev a = .ptr k off) ∧ st1.env = (st.put o.dst v).env ∧ st1.stk = st.stk ∧ st1.hp = st.hp ∧ st1.nx = N ∧
    (∀ k ∈ Q, (∃ l z, look st.hp k = some (.var l z)) ∧ ∃ x ∈ opsOf o, k ∈ deep st.hp (st.ev x)) ∧ (∀ k ∈ Q, ∀ s : SE E, (∀ x ∈ opsOf o, s.ev x = st.ev x) → ∃ x ∈ opsOf o, k ∈ deep s.hp (s.ev x)) ∧
    ∀ s : SE E, s.nx = N → gv all o s = gv all o st → (∀ x ∈ opsOf o, s.ev x = st.ev x) → OutEq all s st → (∀ k ∈ Q, ∀ l z, look st.hp k = some (.var l z) → ∃ z', look s.hp k = some (.var l z')) →
      ∃ s1, tr ih all n0 N i o s = some s1 ∧ s1.env = (s.put o.dst v).env ∧ s1.stk = s.stk ∧ s1.hp = s.hp ∧ s1.nx = N := by
  have hpe : ∀ (a : SE E) (v : VE E), a.nx = N → ((setN a N).put o.dst v).env = (a.put o.dst v).env ∧ ((setN a N).put o.dst v).stk = a.stk ∧ ((setN a N).put o.dst v).hp = a.hp ∧ ((setN a N).put o.dst v).nx = N := fun a v _ =>
    ⟨put_env (a := setN a N) (b := a) rfl o.dst v, (put_hp _ _ _).2.1, (put_hp _ _ _).1, (put_hp _ _ _).2.2⟩
  unfold tr at h
  split at h
  · rename_i hg
    cases hok : okP E all i o st with
    | false => rw [hok] at h; cases h
    | true =>
    rw [hok] at h
    dsimp only at h
    have hok' : adrP E o st = true := hm hg
    unfold adrP at hok'
    unfold isLd at hl
    cases hop : o.op with
    | load t a =>
      rw [hop] at hok'
      dsimp only at hok'
      have hmem : a ∈ opsOf o := by unfold opsOf; rw [hop]; simp [Op.operands]
      have hrun : ∀ s : SE E, opD E ih o (n0 + 64 * i) s (prs E) = (loadV E s t (s.ev a) some).bind fun v => some (v, s) := fun s => by
        unfold opD callee
        simp only [hop]
        unfold opv
        simp only [hop]
        rw [loadV_par]
      rw [hrun] at h
      cases hlv : loadV E st t (st.ev a) some with
      | none => rw [hlv] at h; cases h
      | some v =>
        rw [hlv] at h
        obtain rfl := Option.some.inj h
        obtain ⟨p1, p2, p3, p4⟩ := hpe st v hN
        cases hev : st.ev a with
        | ptr q off =>
          rw [hev] at hlv
          have hvar : ∃ l z, look st.hp q = some (.var l z) := by
            unfold loadV at hlv
            dsimp only at hlv
            split at hlv
            · rename_i l z hq; exact ⟨l, z, hq⟩
            · cases hlv
          have hdeep : ∀ hp : List (Nat × Blk E.T.A), q ∈ deep hp (.ptr q off : VE E) := fun hp => List.mem_append_left _ (by show q ∈ [q]; simp)
          refine ⟨v, [q], fun k hk => ⟨hg, a, off, by unfold adrOf; rw [hop], by rw [List.mem_singleton.1 hk]; exact hev⟩, p1, p2, p3, p4, fun k hk => ?_, fun k hk s hs => ?_, fun s hs hgs hevs hou hq => ?_⟩
          · obtain rfl := List.mem_singleton.1 hk
            exact ⟨hvar, a, hmem, by rw [hev]; exact hdeep _⟩
          · obtain rfl := List.mem_singleton.1 hk
            exact ⟨a, hmem, by rw [hs a hmem, hev]; exact hdeep _⟩
          · have : loadV E s t (s.ev a) some = some v := by
              rw [hevs a hmem, hev]
              obtain ⟨l, z, hvl⟩ := hvar
              obtain ⟨z', hvz⟩ := hq q (by simp) l z hvl
              unfold loadV at hlv ⊢
              dsimp only at hlv ⊢
              rw [hvl] at hlv
              rw [hvz]
              exact hlv
            obtain ⟨e1, e2, e3, e4⟩ := hpe s v hs
            exact ⟨(setN s N).put o.dst v, tr_true (hgs.trans hg) ((okP_st hevs hou).trans hok) (by rw [hrun, this]; rfl), e1, e2, e3, e4⟩
        | rel cs =>
          rw [hev] at hlv
          refine ⟨v, [], fun k hk => (by cases hk), p1, p2, p3, p4, fun k hk => (by cases hk), fun k hk => (by cases hk), fun s hs hgs hevs hou hq => ?_⟩
          have : loadV E s t (s.ev a) some = some v := by
            rw [hevs a hmem, hev]
            unfold loadV at hlv ⊢
            exact hlv
          obtain ⟨e1, e2, e3, e4⟩ := hpe s v hs
          exact ⟨(setN s N).put o.dst v, tr_true (hgs.trans hg) ((okP_st hevs hou).trans hok) (by rw [hrun, this]; rfl), e1, e2, e3, e4⟩
        | _ => rw [hev] at hok'; cases hok'
    | _ => rw [hop] at hl; cases hl
  · rename_i hg
    obtain rfl := Option.some.inj h
    refine ⟨.tup [], [], fun k hk => (by cases hk), rfl, (put_hp _ _ _).2.1, (put_hp _ _ _).1, by rw [(put_hp _ _ _).2.2]; exact hN, fun k hk => (by cases hk), fun k hk => (by cases hk), fun s hs hgs hev hou hrd => ?_⟩
    exact ⟨s.put o.dst (.tup []), by unfold tr; rw [hgs, hg], rfl, (put_hp _ _ _).2.1, (put_hp _ _ _).1, by rw [(put_hp _ _ _).2.2]; exact hs⟩
  · cases h
/-- an append leaves variables alone -/
theorem ap_loc {i : Nat} {o : Oper} {st1 : SE E} (ha : isAp o = true) (h : tr ih all n0 N i o st = some st1) : ∀ k, ¬ (n0 + 64 * i ≤ k ∧ k < n0 + 64 * i + 64) → ∀ l z, (look st.hp k = some (.var l z) ↔ look st1.hp k = some (.var l z)) := by
  intro k hk l z
  unfold tr at h
  split at h
  · rename_i hg
    cases hok : okP E all i o st with
    | false => rw [hok] at h; cases h
    | true =>
    rw [hok] at h
    dsimp only at h
    unfold isAp at ha
    cases hop : o.op with
    | call c =>
      rw [hop] at ha
      dsimp only at ha
      cases hc : c.callee with
      | builtin b =>
        rw [hc] at ha
        cases b with
        | append =>
          unfold opD callee at h
          simp only [hop, hc] at h
          unfold opv at h
          simp only [hop, hc] at h
          split at h
          · rename_i s x t u hx ht
            split at h
            · rename_i hu
              cases hav : appendV E st (n0 + 64 * i) t (st.ev s) (st.ev x) (prs E) with
              | none => rw [hav] at h; cases h
              | some p =>
                rw [hav] at h
                obtain rfl := Option.some.inj h
                rw [(put_hp _ _ _).1]
                show look st.hp k = _ ↔ look p.2.hp k = _
                have hne : n0 + 64 * i ≠ k := fun e => hk ⟨by omega, by omega⟩
                unfold appendV at hav
                split at hav
                · cases hav
                · rename_i e he
                  split at hav
                  · rename_i m hkn hsrc
                    split at hav
                    · split at hav
                      · obtain rfl := Option.some.inj hav
                        show _ ↔ look ((n0 + 64 * i, _) :: st.hp) k = _
                        rw [look_cons, if_neg hne]
                      · cases hav
                    · rename_i q hsq
                      split at hav
                      · rename_i e' l' hb
                        split at hav
                        · rename_i hee
                          subst hee
                          split at hav
                          · obtain rfl := Option.some.inj hav
                            show _ ↔ look ((n0 + 64 * i, _) :: delk st.hp q) k = _
                            rw [look_cons, if_neg hne, look_delk]
                            by_cases hq : k = q
                            · rw [if_pos hq, hq, hb]
                              constructor
                              · intro h; cases h
                              · intro h; cases h
                            · rw [if_neg hq]
                          · cases hav
                        · cases hav
                      · cases hav
                    · cases hav
                  · cases hav
            · cases h
          · cases h
        | _ => cases ha
      | _ => rw [hc] at ha; cases ha
    | _ => rw [hop] at ha; cases ha
  · obtain rfl := Option.some.inj h
    rw [(put_hp _ _ _).1]
  · cases h
/-- rows alike in kind and length -/
def ShEq {A : Nat → Type} (a b : Option (Blk A)) : Prop := (∀ e l z, a = some (.row e l z) → ∃ l' z', b = some (.row e l' z') ∧ l'.length = l.length) ∧ ∀ e l z, b = some (.row e l z) → ∃ l' z', a = some (.row e l' z') ∧ l'.length = l.length
theorem ShEq.symm {A : Nat → Type} {a b : Option (Blk A)} (h : ShEq a b) : ShEq b a := ⟨h.2, h.1⟩
theorem ShEq.refl {A : Nat → Type} (a : Option (Blk A)) : ShEq a a := ⟨fun e l z h => ⟨l, z, h, rfl⟩, fun e l z h => ⟨l, z, h, rfl⟩⟩
theorem ix_still {i : Nat} {o : Oper} {st1 : SE E} (hl : isIx o = true) (hN : st.nx = N) (h : tr ih all n0 N i o st = some st1) : ∃ v : VE E, st1.env = (st.put o.dst v).env ∧ st1.stk = st.stk ∧ st1.hp = st.hp ∧ st1.nx = N ∧
    ∀ s : SE E, s.nx = N → gv all o s = gv all o st → (∀ x ∈ opsOf o, s.ev x = st.ev x) → OutEq all s st → (∀ k, ShEq (look st.hp k) (look s.hp k)) →
      ∃ s1, tr ih all n0 N i o s = some s1 ∧ s1.env = (s.put o.dst v).env ∧ s1.stk = s.stk ∧ s1.hp = s.hp ∧ s1.nx = N := by
  have hpe : ∀ (a : SE E) (v : VE E), a.nx = N → ((setN a N).put o.dst v).env = (a.put o.dst v).env ∧ ((setN a N).put o.dst v).stk = a.stk ∧ ((setN a N).put o.dst v).hp = a.hp ∧ ((setN a N).put o.dst v).nx = N := fun a v _ =>
    ⟨put_env (a := setN a N) (b := a) rfl o.dst v, (put_hp _ _ _).2.1, (put_hp _ _ _).1, (put_hp _ _ _).2.2⟩
  unfold tr at h
  split at h
  · rename_i hg
    cases hok : okP E all i o st with
    | false => rw [hok] at h; cases h
    | true =>
    rw [hok] at h
    dsimp only at h
    unfold isIx at hl
    cases hop : o.op with
    | indexAddr t a b =>
      have hma : a ∈ opsOf o := by unfold opsOf; rw [hop]; simp [Op.operands]
      have hmb : b ∈ opsOf o := by unfold opsOf; rw [hop]; simp [Op.operands]
      have hrun : ∀ s : SE E, opD E ih o (n0 + 64 * i) s (prs E) = (indexAddrV E s t (s.ev a) (s.ev b) some).bind fun v => some (v, s) := fun s => by
        unfold opD callee
        simp only [hop]
        unfold opv
        simp only [hop]
        rw [indexAddrV_par]
      rw [hrun] at h
      cases hlv : indexAddrV E st t (st.ev a) (st.ev b) some with
      | none => rw [hlv] at h; cases h
      | some v =>
        rw [hlv] at h
        obtain rfl := Option.some.inj h
        obtain ⟨p1, p2, p3, p4⟩ := hpe st v hN
        refine ⟨v, p1, p2, p3, p4, fun s hs hgs hevs hou hq => ?_⟩
        have : indexAddrV E s t (s.ev a) (s.ev b) some = some v := by
          rw [hevs a hma, hevs b hmb]
          unfold indexAddrV at hlv ⊢
          split at hlv
          · rename_i e' e l k n hu hx hi
            (try simp only [hu, hx, hi])
            exact hlv
          · rename_i e' id k n hu hx hi
            (try simp only [hu, hx, hi])
            split at hlv
            · rename_i e l z hb
              obtain ⟨l', z', h1, h2⟩ := (hq id).1 e l z hb
              rw [h1]
              dsimp only
              rw [h2]
              exact hlv
            · cases hlv
          · rename_i hu hx hi
            (try simp only [hu, hx, hi])
            exact hlv
          · rename_i hu hx hi
            (try simp only [hu, hx, hi])
            exact hlv
          · cases hlv
        obtain ⟨e1, e2, e3, e4⟩ := hpe s v hs
        exact ⟨(setN s N).put o.dst v, tr_true (hgs.trans hg) ((okP_st hevs hou).trans hok) (by rw [hrun, this]; rfl), e1, e2, e3, e4⟩
    | _ => rw [hop] at hl; cases hl
  · rename_i hg
    obtain rfl := Option.some.inj h
    refine ⟨.tup [], rfl, (put_hp _ _ _).2.1, (put_hp _ _ _).1, by rw [(put_hp _ _ _).2.2]; exact hN, fun s hs hgs hev hou hrd => ?_⟩
    exact ⟨s.put o.dst (.tup []), by unfold tr; rw [hgs, hg], rfl, (put_hp _ _ _).2.1, (put_hp _ _ _).1, by rw [(put_hp _ _ _).2.2]; exact hs⟩
  · cases h
theorem shEq_freeze (hp : List (Nat × Blk E.T.A)) (ids : List Nat) (k : Nat) : ShEq (look hp k) (look (freeze hp ids) k) := by
  rw [look_freeze]
  cases look hp k with
  | none => exact .refl _
  | some b =>
    show ShEq (some b) (some (if k ∈ ids then b.freeze else b))
    split
    · cases b with
      | row e l z => exact ⟨fun e' l' z' h => (by cases h; exact ⟨l, true, rfl, rfl⟩), fun e' l' z' h => (by cases h; exact ⟨l, z, rfl, rfl⟩)⟩
      | var l z => exact ⟨fun e' l' z' h => (by cases h), fun e' l' z' h => (by cases h)⟩
      | map l z => exact ⟨fun e' l' z' h => (by cases h), fun e' l' z' h => (by cases h)⟩
    · exact .refl _
theorem ShEq.trans {A : Nat → Type} {a b c : Option (Blk A)} (h : ShEq a b) (k : ShEq b c) : ShEq a c :=
  ⟨fun e l z ha => (by obtain ⟨l1, z1, h1, h2⟩ := h.1 e l z ha; obtain ⟨l2, z2, h3, h4⟩ := k.1 e l1 z1 h1; exact ⟨l2, z2, h3, h4.trans h2⟩),
   fun e l z ha => (by obtain ⟨l1, z1, h1, h2⟩ := k.2 e l z ha; obtain ⟨l2, z2, h3, h4⟩ := h.2 e l1 z1 h1; exact ⟨l2, z2, h3, h4.trans h2⟩)⟩
theorem st_shape {i : Nat} {o : Oper} {st1 : SE E} (ha : isSt o = true) (h : tr ih all n0 N i o st = some st1) : ∀ k, ShEq (look st.hp k) (look st1.hp k) := by
  intro k
  unfold tr at h
  split at h
  · cases hok : okP E all i o st with
    | false => rw [hok] at h; cases h
    | true =>
    rw [hok] at h
    dsimp only at h
    unfold isSt at ha
    cases hop : o.op with
    | store t a x =>
      unfold opD callee at h
      simp only [hop] at h
      unfold opv at h
      simp only [hop] at h
      rw [storeV_par] at h
      cases hst : storeV E st t (st.ev a) (st.ev x) some with
      | none => rw [hst] at h; cases h
      | some s' =>
        rw [hst] at h
        obtain rfl := Option.some.inj h
        rw [(put_hp _ _ _).1]
        show ShEq (look st.hp k) (look s'.hp k)
        unfold storeV at hst
        split at hst
        · split at hst
          · rename_i id off _
            split at hst
            · rename_i l hb
              split at hst
              · rename_i l' hl
                obtain rfl := Option.some.inj hst
                show ShEq _ (look (setk st.hp id _) k)
                rw [look_setk]
                split
                · rename_i hk
                  rw [hk.1, hb]
                  exact ⟨fun e' l' z' h => (by cases h), fun e' l' z' h => (by cases h)⟩
                · exact .refl _
              · cases hst
            · cases hst
          · rename_i e id j off _
            split at hst
            · rename_i e' l hb
              split at hst
              · rename_i hee
                subst hee
                split at hst
                · split at hst
                  · split at hst
                    · rename_i y hy
                      split at hst
                      · obtain rfl := Option.some.inj hst
                        show ShEq _ (look (setk (freeze st.hp _) id _) k)
                        rw [look_setk]
                        split
                        · rename_i hk
                          rw [hk.1, hb]
                          exact ⟨fun e1 l1 z1 h => (by cases h; exact ⟨_, _, rfl, by simp⟩), fun e1 l1 z1 h => (by cases h; exact ⟨_, _, rfl, by simp⟩)⟩
                        · exact shEq_freeze _ _ _
                      · cases hst
                    · cases hst
                  · cases hst
                · cases hst
              · cases hst
            · cases hst
          · cases hst
        · cases hst
    | _ => rw [hop] at ha; cases ha
  · obtain rfl := Option.some.inj h
    rw [(put_hp _ _ _).1]
    exact .refl _
  · cases h
theorem freeze_var (hp : List (Nat × Blk E.T.A)) (ids : List Nat) (k : Nat) : (∀ l z, look hp k = some (.var l z) → ∃ z', look (freeze hp ids) k = some (.var l z')) ∧ ∀ l z, look (freeze hp ids) k = some (.var l z) → ∃ z', look hp k = some (.var l z') := by
  rw [look_freeze]
  cases look hp k with
  | none => exact ⟨fun l z h => (by cases h), fun l z h => (by cases h)⟩
  | some b =>
    cases b with
    | var l0 z0 =>
      show (∀ l z, some (Blk.var l0 z0) = some (.var l z) → ∃ z', some (if k ∈ ids then Blk.freeze (.var l0 z0) else .var l0 z0) = some (.var l z')) ∧ _
      split
      · exact ⟨fun l z h => (by cases h; exact ⟨true, rfl⟩), fun l z h => (by cases h; exact ⟨z0, rfl⟩)⟩
      · exact ⟨fun l z h => ⟨z, h⟩, fun l z h => ⟨z, h⟩⟩
    | row e l0 z0 =>
      refine ⟨fun l z h => (by cases h), fun l z h => ?_⟩
      replace h : some (if k ∈ ids then Blk.freeze (.row e l0 z0) else .row e l0 z0) = some (.var l z) := h
      split at h <;> cases h
    | map l0 z0 =>
      refine ⟨fun l z h => (by cases h), fun l z h => ?_⟩
      replace h : some (if k ∈ ids then Blk.freeze (.map l0 z0) else .map l0 z0) = some (.var l z) := h
      split at h <;> cases h
/-- a store into a row leaves variables alone -/
theorem se_loc {i : Nat} {o : Oper} {st1 : SE E} (ha : isSt o = true) (h : tr ih all n0 N i o st = some st1) : ∀ k, (gv all o st = some true → ∀ a, adrOf o = some a → (∃ e id j off, st.ev a = .elt e id j off) ∨ ∃ j off, st.ev a = .ptr j off ∧ j ≠ k) → (∀ l z, look st.hp k = some (.var l z) → ∃ z', look st1.hp k = some (.var l z')) ∧ ∀ l z, look st1.hp k = some (.var l z) → ∃ z', look st.hp k = some (.var l z') := by
  intro k hadr
  unfold tr at h
  split at h
  · rename_i hgv
    replace hadr := hadr hgv
    cases hok : okP E all i o st with
    | false => rw [hok] at h; cases h
    | true =>
    rw [hok] at h
    dsimp only at h
    unfold isSt at ha
    cases hop : o.op with
    | store t a x =>
      replace hadr := hadr a (by unfold adrOf; rw [hop])
      unfold opD callee at h
      simp only [hop] at h
      unfold opv at h
      simp only [hop] at h
      rw [storeV_par] at h
      cases hst : storeV E st t (st.ev a) (st.ev x) some with
      | none => rw [hst] at h; cases h
      | some s' =>
        rw [hst] at h
        obtain rfl := Option.some.inj h
        rw [(put_hp _ _ _).1]
        show (∀ l z, look st.hp k = some (.var l z) → ∃ z', look s'.hp k = some (.var l z')) ∧ ∀ l z, look s'.hp k = some (.var l z) → ∃ z', look st.hp k = some (.var l z')
        unfold storeV at hst
        split at hst
        · split at hst
          · rename_i id off hea
            have hne : id ≠ k := by
              rcases hadr with ⟨_, _, _, _, h1⟩ | ⟨j, off', h1, h2⟩
              · rw [hea] at h1; cases h1
              · rw [hea] at h1; cases h1; exact h2
            split at hst
            · split at hst
              · obtain rfl := Option.some.inj hst
                show (∀ l z, _ → ∃ z', look (setk st.hp id _) k = some (.var l z')) ∧ ∀ l z, look (setk st.hp id _) k = some (.var l z) → _
                rw [look_setk, if_neg (fun h => hne h.1.symm)]
                exact ⟨fun l z h => ⟨z, h⟩, fun l z h => ⟨z, h⟩⟩
              · cases hst
            · cases hst
          · rename_i e id j off _
            split at hst
            · rename_i e' l hb
              split at hst
              · rename_i hee
                subst hee
                split at hst
                · split at hst
                  · split at hst
                    · rename_i y hy
                      split at hst
                      · obtain rfl := Option.some.inj hst
                        have hf := freeze_var st.hp (List.flatMap (V.ids 2) (st.ev x).cells) k
                        show (∀ l z, _ → ∃ z', look (setk (freeze st.hp _) id _) k = some (.var l z')) ∧ ∀ l z, look (setk (freeze st.hp _) id _) k = some (.var l z) → _
                        rw [look_setk]
                        split
                        · rename_i hk
                          refine ⟨fun l1 z1 h1 => ?_, fun l1 z1 h1 => (by cases h1)⟩
                          rw [hk.1, hb] at h1
                          cases h1
                        · exact hf
                      · cases hst
                    · cases hst
                  · cases hst
                · cases hst
              · cases hst
            · cases hst
          · cases hst
        · cases hst
    | _ => rw [hop] at ha; cases ha
  · obtain rfl := Option.some.inj h
    rw [(put_hp _ _ _).1]
    exact ⟨fun l z h => ⟨z, h⟩, fun l z h => ⟨z, h⟩⟩
  · cases h
theorem out_put {i : Nat} {o : Oper} (hi : all[i]? = some o) {v : VE E} {a : SE E} (ha : a.env = (st.put o.dst v).env) : OutEq all a st := by
  intro x hx
  cases x with
  | tmp t =>
    unfold outerT at hx
    have h1 := List.all_eq_true.1 hx o (by have := Array.mem_of_getElem? hi; simpa using this)
    unfold St.ev
    dsimp only
    rw [ha, look_put, if_neg]
    intro e
    rw [e] at h1
    dsimp only at h1
    rw [Nat.beq_refl] at h1
    cases h1
  | _ => rfl
theorem unord_symm (l : List Oper) {i j : Nat} (h : i ≠ j) : unord l i j = unord l j i := by
  unfold unord
  rcases Nat.lt_or_ge i j with h1 | h1
  · have e1 : Nat.blt i j = true := Nat.ble_eq_true_of_le h1
    have e2 : Nat.blt j i = false := by
      rw [Bool.eq_false_iff]; intro e; have : j < i := Nat.le_of_ble_eq_true e; omega
    rw [e1, e2]
  · have e1 : Nat.blt j i = true := Nat.ble_eq_true_of_le (show j < i by omega)
    have e2 : Nat.blt i j = false := by
      rw [Bool.eq_false_iff]; intro e; have : i < j := Nat.le_of_ble_eq_true e; omega
    rw [e1, e2]
theorem tr_ok {i : Nat} {o : Oper} {st1 : SE E} (h : tr ih all n0 N i o st = some st1) (hg : gv all o st = some true) : okP E all i o st = true := by
  unfold tr at h
  rw [hg] at h
  dsimp only at h
  cases hok : okP E all i o st with
  | true => rfl
  | false => rw [hok] at h; cases h
theorem ld_ap {i j : Nat} {x y : Oper} (hx : isLd x = true) (hy : isAp y = true) (hj : all[j]? = some y) (hu : unord all.toList i j = true) (h : okP E all i x st = true) : adrP E x st = true := by
  unfold okP at h
  rw [hx] at h
  have := allJ_spec _ 0 h j y (by rw [Array.getElem?_toList]; exact hj)
  rw [Nat.zero_add] at this
  unfold okL1 at this
  rw [hy] at this
  dsimp only at this
  rw [hu] at this
  exact this
theorem ld_st1 {i j : Nat} {x y : Oper} {a : SE E} (hx : isLd x = true) (hy : isSt y = true) (hj : all[j]? = some y) (hu : unord all.toList i j = true) (h : okP E all i x a = true) : adrP E x a = true := by
  have hap : isAp y = false := by
    unfold isSt at hy; unfold isAp
    cases ho : y.op with
    | store t p q => rfl
    | _ => first | rfl | (rw [ho] at hy; cases hy)
  unfold okP at h
  rw [hx] at h
  have h := allJ_spec _ 0 h j y (by rw [Array.getElem?_toList]; exact hj)
  rw [Nat.zero_add] at h
  unfold okL1 at h
  rw [hap, hy, hu] at h
  dsimp only at h
  cases hq : lqP all x y with
  | false => rw [hq] at h; exact h
  | true =>
    rw [hq] at h
    dsimp only at h
    unfold isLd at hx
    cases hox : x.op with
    | load tx ax =>
      unfold pairO at h
      unfold adrP
      have ex : adrOf x = some ax := by unfold adrOf; rw [hox]
      rw [ex] at h
      rw [hox]
      dsimp only at h ⊢
      split at h
      · rename_i e1 e2
        obtain rfl := Option.some.inj e1
        unfold pairV at h
        split at h
        · rename_i h3 h4; rw [h3]
        · rename_i h3 h4; rw [h3]
        · rename_i h3 h4; rw [h3]
        · rename_i h3 h4; rw [h3]
        · cases h
      · cases h
    | _ => rw [hox] at hx; cases hx
theorem ld_st {i j : Nat} {x y : Oper} {a b : SE E} (hx : isLd x = true) (hy : isSt y = true) (hi : all[i]? = some x) (hj : all[j]? = some y) (hu : unord all.toList i j = true) (hu2 : unord all.toList j i = true) (hab : OutEq all a b) (h : okP E all i x a = true) (h2 : okP E all j y b = true) :
    adrP E x a = true ∧ ∀ c, adrOf y = some c → (∃ e id q off, b.ev c = .elt e id q off) ∨ ∃ q off, b.ev c = .ptr q off ∧ ∀ d k off', adrOf x = some d → a.ev d = .ptr k off' → q ≠ k := by
  have hap : isAp y = false := by
    unfold isSt at hy; unfold isAp
    cases ho : y.op with
    | store t p q => rfl
    | _ => first | rfl | (rw [ho] at hy; cases hy)
  have hlx : isLd y = false := by
    unfold isSt at hy; unfold isLd
    cases ho : y.op with
    | store t p q => rfl
    | _ => first | rfl | (rw [ho] at hy; cases hy)
  unfold okP at h h2
  rw [hx] at h
  rw [hlx, hy] at h2
  have h := allJ_spec _ 0 h j y (by rw [Array.getElem?_toList]; exact hj)
  have h2 := allJ_spec _ 0 h2 i x (by rw [Array.getElem?_toList]; exact hi)
  rw [Nat.zero_add] at h h2
  unfold okL1 at h
  unfold okS1 at h2
  rw [hap, hy, hu] at h
  rw [hx, hu2] at h2
  dsimp only at h h2
  unfold isLd at hx
  cases hox : x.op with
  | load tx ax =>
    unfold isSt at hy
    cases hoy : y.op with
    | store ty ay vy =>
      have ex : adrOf x = some ax := by unfold adrOf; rw [hox]
      have ey : adrOf y = some ay := by unfold adrOf; rw [hoy]
      cases hq : lqP all x y with
      | true =>
        rw [hq] at h
        dsimp only at h
        unfold pairO at h
        rw [ex, ey] at h
        dsimp only at h
        unfold lqP at hq
        rw [ex, ey] at hq
        dsimp only at hq
        rw [Bool.and_eq_true] at hq
        have e2 := hab ay hq.2
        rw [e2] at h
        unfold adrP
        rw [hox]
        dsimp only
        unfold pairV at h
        split at h
        · rename_i h3 h4
          rw [h3]
          refine ⟨rfl, fun c hc => ?_⟩
          rw [ey] at hc; obtain rfl := Option.some.inj hc
          exact .inl ⟨_, _, _, _, h4⟩
        · rename_i h3 h4
          rw [h3]
          refine ⟨rfl, fun c hc => ?_⟩
          rw [ey] at hc; obtain rfl := Option.some.inj hc
          exact .inl ⟨_, _, _, _, h4⟩
        · rename_i i1 o1 i2 o2 h3 h4
          rw [h3]
          refine ⟨rfl, fun c hc => ?_⟩
          rw [ey] at hc; obtain rfl := Option.some.inj hc
          refine .inr ⟨_, _, h4, fun d k off' hd hk => ?_⟩
          rw [ex] at hd; obtain rfl := Option.some.inj hd
          rw [h3] at hk
          cases hk
          intro e
          rw [e, Nat.beq_refl] at h
          cases h
        · rename_i i2 o2 h3 h4
          rw [h3]
          refine ⟨rfl, fun c hc => ?_⟩
          rw [ey] at hc; obtain rfl := Option.some.inj hc
          refine .inr ⟨_, _, h4, fun d k off' hd hk => ?_⟩
          rw [ex] at hd; obtain rfl := Option.some.inj hd
          rw [h3] at hk
          cases hk
        · cases h
      | false =>
        rw [hq] at h h2
        refine ⟨h, fun c hc => ?_⟩
        rw [ey] at hc; obtain rfl := Option.some.inj hc
        replace h2 : adrP E y b = true := h2
        unfold adrP at h2
        rw [hoy] at h2
        dsimp only at h2
        split at h2
        · rename_i h4; exact .inl ⟨_, _, _, _, h4⟩
        · cases h2
    | _ => rw [hoy] at hy; cases hy
  | _ => rw [hox] at hx; cases hx
/-- TWO OPERATIONS CHANGE PLACES. -/
theorem tr_comm {i j : Nat} {x y : Oper} {st1 st2 : SE E} (hxi : all[i]? = some x) (hyj : all[j]? = some y) (hij : i ≠ j) (hN : st.nx = N) (h1 : tr ih all n0 N i x st = some st1) (h2 : tr ih all n0 N j y st1 = some st2) (hap : x.apart all y = true) (hcp : compat x y = true ∨ laN all i j x y = true)
    (o1 : Out st y (n0 + 64 * i)) (o2 : Out st x (n0 + 64 * j)) :
    ∃ s1 s2, tr ih all n0 N j y st = some s1 ∧ tr ih all n0 N i x s1 = some s2 ∧ Eqv st2 s2 := by
  obtain ⟨a1, a2, a3⟩ := Oper.apart_spec hap
  have ldW : ∀ o : Oper, isLd o = true → cls o ≠ .W := fun o h => by
    unfold isLd at h; unfold cls
    cases ho : o.op with
    | load t a => simp
    | _ => rw [ho] at h; cases h
  have ixW : ∀ o : Oper, isIx o = true → cls o ≠ .W := fun o h => by
    unfold isIx at h; unfold cls
    cases ho : o.op with
    | indexAddr t a b => simp
    | _ => rw [ho] at h; cases h
  have hcase : laN all i j x y = true → ((isIx x = true ∧ isSt y = true) ∨ (isSt x = true ∧ isIx y = true)) ∨ unord all.toList i j = true ∧ (((isLd x = true ∧ isSt y = true) ∨ (isSt x = true ∧ isLd y = true)) ∨ (isLd x = true ∧ isAp y = true) ∨ (isAp x = true ∧ isLd y = true)) := fun h => by
    unfold laN at h
    rw [Bool.or_eq_true, Bool.and_eq_true, Bool.or_eq_true] at h
    rcases h with h | ⟨h | h, hu⟩
    · left
      unfold ixP at h
      split at h
      · rename_i h1 h2; exact .inl ⟨h1, h2⟩
      · split at h
        · rename_i h1 h2; exact .inr ⟨h1, h2⟩
        · cases h
    · refine .inr ⟨hu, .inl ?_⟩
      unfold lsP at h
      split at h
      · rename_i h1 h2; exact .inl ⟨h1, h2⟩
      · split at h
        · rename_i h1 h2; exact .inr ⟨h1, h2⟩
        · cases h
    · refine .inr ⟨hu, .inr ?_⟩
      unfold laP at h
      split at h
      · rename_i h1 h2; exact .inl ⟨h1, h2⟩
      · split at h
        · rename_i h1 h2; exact .inr ⟨h1, h2⟩
        · cases h
  have hst1 : st1.nx = N := by
    rcases tr_cases hN h1 with ⟨v, news, fr, _, _, _, h, _⟩ | ⟨_, v, _, _, h, _⟩ <;> exact h
  -- the places
  have henv : ∀ {v u : VE E} {b c d e : SE E}, b.env = (st.put x.dst v).env → c.env = (b.put y.dst u).env → d.env = (st.put y.dst u).env → e.env = (d.put x.dst v).env → ∀ t, look c.env t = look e.env t := by
    intro v u b c d e hb hc hd he t
    rw [hc, he, look_put, look_put, hb, hd, look_put, look_put]
    by_cases hx : x.dst = some t
    · have hy : y.dst ≠ some t := a2 t hx
      rw [if_neg hy, if_pos hx, if_pos hx]
    · rw [if_neg hx, if_neg hx]
  have hdis : ∀ k, ¬ ((n0 + 64 * i ≤ k ∧ k < n0 + 64 * i + 64) ∧ (n0 + 64 * j ≤ k ∧ k < n0 + 64 * j + 64)) := fun k hk => by omega
  have ho1 : OutEq all st1 st := by
    rcases tr_cases hN h1 with ⟨v, _, _, e1, _⟩ | ⟨_, v, e1, _⟩ <;> exact out_put hxi e1
  rcases tr_cases hN h1 with ⟨v, nx, fx, e1, e2, e3, e4, e5, e6, e7, e8⟩ | ⟨hW, v, e1, e2, e4, e8⟩
  · have gy := gv_put (all := all) (o := y) e1 a1
    have vy := ev_put (all := all) (o := y) e1 a1
    rcases tr_cases hst1 h2 with ⟨u, ny, fy, f1, f2, f3, f4, f5, f6, f7, f8⟩ | ⟨hW, u, f1, f2, f4, f8⟩
    · -- both add
      have hlook1 : ∀ k, ¬ (n0 + 64 * i ≤ k ∧ k < n0 + 64 * i + 64) → look st1.hp k = (look st.hp k).map fun b => if k ∈ fx then b.freeze else b := fun k hk => by
        rw [e3, look_append, look_keys nx k _ e5 hk, look_freeze]
      have hsame : ∀ (z : Option (Blk E.T.A)) (p : Prop) [Decidable p], Same z (z.map fun b => if p then b.freeze else b) := by
        intro z p _
        cases z with
        | none => rfl
        | some b =>
          show some b.freeze = some (if p then b.freeze else b).freeze
          split
          · rw [freeze_freeze]
          · rfl
      have hsame' : ∀ (z : Option (Blk E.T.A)) (p : Prop) [Decidable p], Same (z.map fun b => if p then b.freeze else b) z := fun z p _ => (hsame z p).symm
      have hsd : ∀ q ∈ opsOf y, deep st1.hp (st1.ev q) = deep st.hp (st.ev q) := fun q hq => by
        rw [vy q hq]
        refine deep_same fun k hk => ?_
        rw [hlook1 k (o1 q hq k hk)]
        exact hsame' _ _
      obtain ⟨s1, g1, g2, g3, g4, g5⟩ := f8 st hN gy.symm (fun x hx => (vy x hx).symm) ho1.symm (.inr fun q hq k hk hl => by
        have hko := o1 q hq k (by rw [← hsd q hq]; exact hk)
        rw [hlook1 k hko] at hl ⊢
        exact hsame _ _)
      have gx := gv_put (all := all) (o := x) g2 a3
      have vx := ev_put (all := all) (o := x) g2 a3
      obtain ⟨s2, k1, k2, k3, k4, k5⟩ := e8 s1 g5 gx vx (out_put hyj g2) (.inr fun q hq k hk hl => by
        have hko := o2 q hq k hk
        rw [g4, look_append, look_keys ny k _ f5 hko, look_freeze]
        exact hsame' _ _)
      refine ⟨s1, s2, g1, k1, ⟨henv e1 f1 g2 k2, by rw [f2, e2, k3, g3], fun k => ?_, by rw [f4, k5]⟩⟩
      rw [f3, k4, e3, g4, look_append, look_append, look_freeze, look_freeze, look_append, look_append, look_freeze, look_freeze]
      by_cases hki : n0 + 64 * i ≤ k ∧ k < n0 + 64 * i + 64
      · have hny : look ny k = none := look_keys ny k _ f5 fun hk => hdis k ⟨hki, hk⟩
        have hfy : k ∉ fy := fun hk => by
          obtain ⟨q, hq, hkq⟩ := f6 k hk
          exact o1 q hq k (by rw [← hsd q hq]; exact hkq) hki
        rw [hny]
        cases hnx : look nx k with
        | some b => simp [hfy]
        | none => cases look st.hp k <;> simp [hfy]
      · have hnx : look nx k = none := look_keys nx k _ e5 hki
        rw [hnx]
        cases hny : look ny k with
        | some b =>
          have hkj : n0 + 64 * j ≤ k ∧ k < n0 + 64 * j + 64 := by
            by_cases h : n0 + 64 * j ≤ k ∧ k < n0 + 64 * j + 64
            · exact h
            · rw [look_keys ny k _ f5 h] at hny; cases hny
          have hfx : k ∉ fx := fun hk => by
            obtain ⟨q, hq, hkq⟩ := e6 k hk
            exact o2 q hq k hkq hkj
          simp [hfx]
        | none =>
          cases look st.hp k with
          | none => rfl
          | some b =>
            dsimp only [Option.map_some]
            by_cases p : k ∈ fx <;> by_cases q : k ∈ fy <;> simp [p, q, freeze_freeze]
    · -- y writes: x is nothing to memory
      rcases hcp with hcp | hcp
      case inr =>
        rcases hcase hcp with (⟨hx, hy⟩ | ⟨_, hy⟩) | ⟨hu, (⟨hx, hy⟩ | ⟨_, hy⟩) | ⟨hx, hy⟩ | ⟨_, hy⟩⟩
        case inr.inr.inr => exact absurd hW (ldW y hy)
        case inr.inl.inr => exact absurd hW (ldW y hy)
        case inr.inl.inl =>
          have hu2 : unord all.toList j i = true := by rw [← unord_symm _ hij]; exact hu
          have hm : gv all x st = some true → adrP E x st = true := fun hgx => ld_st1 hx hy hyj hu (tr_ok h1 hgx)
          obtain ⟨v', Q, q0, q1, q2, q3, q4, q5, q6, q7⟩ := ld_still hx hm hN h1
          obtain ⟨s1, g1, g2, g3, g4, g5⟩ := f8 st hN gy.symm (fun x hx => (vy x hx).symm) ho1.symm (fun k => by rw [q3])
          have gx := gv_put (all := all) (o := x) g2 a3
          have vx := ev_put (all := all) (o := x) g2 a3
          obtain ⟨s2, k1, k2, k3, k4, k5⟩ := q7 s1 g5 gx vx (out_put hyj g2) (fun k hk => (se_loc hy g1 k fun hgy a ha => by
            obtain ⟨hgx, d, off, hd, hdv⟩ := q0 k hk
            rcases (ld_st hx hy hxi hyj hu hu2 (.refl _) (tr_ok h1 hgx) (tr_ok g1 hgy)).2 a ha with h | ⟨q, o, h3, h4⟩
            · exact .inl h
            · exact .inr ⟨q, o, h3, h4 d k off hd hdv⟩).1)
          exact ⟨s1, s2, g1, k1, ⟨henv q1 f1 g2 k2, by rw [f2, q2, k3, g3], fun k => by rw [g4 k, k4], by rw [f4, k5]⟩⟩
        case inl.inr => exact absurd hW (ixW y hy)
        case inl.inl =>
          obtain ⟨v', q1, q2, q3, q4, q7⟩ := ix_still hx hN h1
          obtain ⟨s1, g1, g2, g3, g4, g5⟩ := f8 st hN gy.symm (fun x hx => (vy x hx).symm) ho1.symm (fun k => by rw [q3])
          have gx := gv_put (all := all) (o := x) g2 a3
          have vx := ev_put (all := all) (o := x) g2 a3
          obtain ⟨s2, k1, k2, k3, k4, k5⟩ := q7 s1 g5 gx vx (out_put hyj g2) (st_shape hy g1)
          exact ⟨s1, s2, g1, k1, ⟨henv q1 f1 g2 k2, by rw [f2, q2, k3, g3], fun k => by rw [g4 k, k4], by rw [f4, k5]⟩⟩
        obtain ⟨v', Q, q0, q1, q2, q3, q4, q5, q6, q7⟩ := ld_still hx (fun hgx => ld_ap hx hy hyj hu (tr_ok h1 hgx)) hN h1
        obtain ⟨s1, g1, g2, g3, g4, g5⟩ := f8 st hN gy.symm (fun x hx => (vy x hx).symm) ho1.symm (fun k => by rw [q3])
        have gx := gv_put (all := all) (o := x) g2 a3
        have vx := ev_put (all := all) (o := x) g2 a3
        obtain ⟨s2, k1, k2, k3, k4, k5⟩ := q7 s1 g5 gx vx (out_put hyj g2) (fun k hk => by
          intro l z hl
          obtain ⟨_, o, ho, hd⟩ := q5 k hk
          exact ⟨z, (ap_loc hy g1 k (o2 o ho k hd) l z).1 hl⟩)
        exact ⟨s1, s2, g1, k1, ⟨henv q1 f1 g2 k2, by rw [f2, q2, k3, g3], fun k => by rw [g4 k, k4], by rw [f4, k5]⟩⟩
      have hP : cls x = .P := by
        unfold compat at hcp
        rw [hW] at hcp
        cases hx : cls x <;> rw [hx] at hcp <;> first | rfl | cases hcp
      obtain ⟨rfl, rfl⟩ := e7 hP
      have hhp : st1.hp = st.hp := e3
      obtain ⟨s1, g1, g2, g3, g4, g5⟩ := f8 st hN gy.symm (fun x hx => (vy x hx).symm) ho1.symm (fun k => by rw [hhp])
      have gx := gv_put (all := all) (o := x) g2 a3
      have vx := ev_put (all := all) (o := x) g2 a3
      obtain ⟨s2, k1, k2, k3, k4, k5⟩ := e8 s1 g5 gx vx (out_put hyj g2) (.inl hP)
      exact ⟨s1, s2, g1, k1, ⟨henv e1 f1 g2 k2, by rw [f2, e2, k3, g3], fun k => by rw [g4 k, k4]; rfl, by rw [f4, k5]⟩⟩
  · -- x writes: y is nothing to memory
    rcases hcp with hcp | hcp
    case inr =>
      have gy := gv_put (all := all) (o := y) e1 a1
      have vy := ev_put (all := all) (o := y) e1 a1
      rcases hcase hcp with (⟨hx, _⟩ | ⟨hx, hy⟩) | ⟨hu, (⟨hx, _⟩ | ⟨hx, hy⟩) | ⟨hx, _⟩ | ⟨hx, hy⟩⟩
      case inr.inr.inl => exact absurd hW (ldW x hx)
      case inr.inl.inl => exact absurd hW (ldW x hx)
      case inr.inl.inr =>
        have hu2 : unord all.toList j i = true := by rw [← unord_symm _ hij]; exact hu
        obtain ⟨u, Q, q0, q1, q2, q3, q4, q5, q6, q7⟩ := ld_still hy (fun hgy => ld_st1 hy hx hxi hu2 (tr_ok h2 hgy)) hst1 h2
        obtain ⟨s1, g1, g2, g3, g4, g5⟩ := q7 st hN gy.symm (fun x hx => (vy x hx).symm) ho1.symm (fun k hk => (se_loc hx h1 k fun hgx a ha => by
            obtain ⟨hgy, d, off, hd, hdv⟩ := q0 k hk
            rcases (ld_st hy hx hyj hxi hu2 hu ho1 (tr_ok h2 hgy) (tr_ok h1 hgx)).2 a ha with h | ⟨q, o, h3, h4⟩
            · exact .inl h
            · exact .inr ⟨q, o, h3, h4 d k off hd hdv⟩).2)
        have gx := gv_put (all := all) (o := x) g2 a3
        have vx := ev_put (all := all) (o := x) g2 a3
        obtain ⟨s2, k1, k2, k3, k4, k5⟩ := e8 s1 g5 gx vx (out_put hyj g2) (fun k => by rw [g4])
        exact ⟨s1, s2, g1, k1, ⟨henv e1 q1 g2 k2, by rw [q2, e2, k3, g3], fun k => by rw [q3, k4 k], by rw [q4, k5]⟩⟩
      case inl.inl => exact absurd hW (ixW x hx)
      case inl.inr =>
        obtain ⟨u, q1, q2, q3, q4, q7⟩ := ix_still hy hst1 h2
        obtain ⟨s1, g1, g2, g3, g4, g5⟩ := q7 st hN gy.symm (fun x hx => (vy x hx).symm) ho1.symm (fun k => (st_shape hx h1 k).symm)
        have gx := gv_put (all := all) (o := x) g2 a3
        have vx := ev_put (all := all) (o := x) g2 a3
        obtain ⟨s2, k1, k2, k3, k4, k5⟩ := e8 s1 g5 gx vx (out_put hyj g2) (fun k => by rw [g4])
        exact ⟨s1, s2, g1, k1, ⟨henv e1 q1 g2 k2, by rw [q2, e2, k3, g3], fun k => by rw [q3, k4 k], by rw [q4, k5]⟩⟩
      obtain ⟨u, Q, q0, q1, q2, q3, q4, q5, q6, q7⟩ := ld_still hy (fun hgy => ld_ap hy hx hxi (by rw [← unord_symm _ hij]; exact hu) (tr_ok h2 hgy)) hst1 h2
      obtain ⟨s1, g1, g2, g3, g4, g5⟩ := q7 st hN gy.symm (fun x hx => (vy x hx).symm) ho1.symm (fun k hk => by
        intro l z hl
        obtain ⟨o, ho, hd⟩ := q6 k hk st (fun x hx => (vy x hx).symm)
        exact ⟨z, (ap_loc hx h1 k (o1 o ho k hd) l z).2 hl⟩)
      have gx := gv_put (all := all) (o := x) g2 a3
      have vx := ev_put (all := all) (o := x) g2 a3
      obtain ⟨s2, k1, k2, k3, k4, k5⟩ := e8 s1 g5 gx vx (out_put hyj g2) (fun k => by rw [g4])
      exact ⟨s1, s2, g1, k1, ⟨henv e1 q1 g2 k2, by rw [q2, e2, k3, g3], fun k => by rw [q3, k4 k], by rw [q4, k5]⟩⟩
    have hP : cls y = .P := by
      unfold compat at hcp
      rw [hW] at hcp
      cases hy : cls y <;> rw [hy] at hcp <;> first | rfl | cases hcp
    have gy := gv_put (all := all) (o := y) e1 a1
    have vy := ev_put (all := all) (o := y) e1 a1
    rcases tr_cases hst1 h2 with ⟨u, ny, fy, f1, f2, f3, f4, f5, f6, f7, f8⟩ | ⟨hW2, _⟩
    · obtain ⟨rfl, rfl⟩ := f7 hP
      have hhp : st2.hp = st1.hp := f3
      obtain ⟨s1, g1, g2, g3, g4, g5⟩ := f8 st hN gy.symm (fun x hx => (vy x hx).symm) ho1.symm (.inl hP)
      have gx := gv_put (all := all) (o := x) g2 a3
      have vx := ev_put (all := all) (o := x) g2 a3
      obtain ⟨s2, k1, k2, k3, k4, k5⟩ := e8 s1 g5 gx vx (out_put hyj g2) (fun k => by rw [g4]; rfl)
      exact ⟨s1, s2, g1, k1, ⟨henv e1 f1 g2 k2, by rw [f2, e2, k3, g3], fun k => by rw [hhp, k4 k], by rw [f4, k5]⟩⟩
    · rw [hP] at hW2; cases hW2
/-- an operation does the same where all looks alike -/
theorem tr_eqv {i : Nat} {o : Oper} {st1 : SE E} (hN : st.nx = N) (h : Eqv st s) (h1 : tr ih all n0 N i o st = some st1) : ∃ s1, tr ih all n0 N i o s = some s1 ∧ Eqv st1 s1 := by
  have hg : gv all o s = gv all o st := by
    unfold gv
    cases o.guard with
    | none => rfl
    | some p =>
      dsimp only
      cases (all[p.1]?).bind (·.dst) with
      | none => rfl
      | some t => dsimp only; rw [h.env t]
  rcases tr_cases hN h1 with ⟨v, nx, fx, e1, e2, e3, e4, e5, e6, e7, e8⟩ | ⟨hW, v, e1, e2, e4, e8⟩
  · obtain ⟨s1, k1, k2, k3, k4, k5⟩ := e8 s (by rw [← h.nx]; exact hN) hg (fun x _ => h.ev x) (fun x _ => h.ev x) (.inr fun x _ => reads_eqv h.hp _)
    refine ⟨s1, k1, fun t => by rw [e1, k2]; exact (h.put _ _).env t, by rw [e2, k3, h.stk], fun k => ?_, by rw [e4, k5]⟩
    rw [e3, k4, look_append, look_append, look_freeze, look_freeze, h.hp k]
  · obtain ⟨s1, k1, k2, k3, k4, k5⟩ := e8 s (by rw [← h.nx]; exact hN) hg (fun x _ => h.ev x) (fun x _ => h.ev x) h.hp
    exact ⟨s1, k1, fun t => by rw [e1, k2]; exact (h.put _ _).env t, by rw [e2, k3, h.stk], k4, by rw [e4, k5]⟩
end
end Go.Proofs.YtpbpebjfglfjfaaGreatDoor.X
