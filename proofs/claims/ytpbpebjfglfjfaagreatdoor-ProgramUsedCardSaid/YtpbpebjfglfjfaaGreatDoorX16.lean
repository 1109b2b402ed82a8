/-
  REGIONS THAT DRAW THEIR ORDER, part 3: one order serves for all.
-/
import Derived.Test.YtpbpebjfglfjfaaGreatDoorX15
set_option autoImplicit false
set_option linter.unusedVariables false
set_option linter.unusedSimpArgs false
namespace Go.Proofs.YtpbpebjfglfjfaaGreatDoor.X
open Go Go.RowKit
section
variable {E : Env} {R : Type} {st : SE E}
abbrev prs (E : Env) : VE E → SE E → Option (VE E × SE E) := fun v s => some (v, s)
theorem storeV_par (t : Nat) (a x : VE E) (K : SE E → Option R) : storeV E st t a x K = (storeV E st t a x some).bind K := by
  unfold storeV
  split
  · split
    · repeat' (first | rfl | split)
    · split
      · split
        · repeat' (first | rfl | split)
        · rfl
      · rfl
    · rfl
  · rfl
theorem mapUpdateV_par (t : Nat) (x k v : VE E) (K : SE E → Option R) : mapUpdateV E st t x k v K = (mapUpdateV E st t x k v some).bind K := by
  unfold mapUpdateV; repeat' (first | rfl | split)
theorem sliceV_par (t : Nat) (x : VE E) (lo hi : Option (VE E)) (K : VE E → SE E → Option R) : sliceV E st t x lo hi K = (sliceV E st t x lo hi (prs E)).bind fun p => K p.1 p.2 := by
  unfold sliceV
  have key : ∀ (n : Nat) (f : Nat → Nat → VE E) (s : Nat → Nat → SE E), boundsV lo hi n (fun a b => K (f a b) (s a b)) = (boundsV lo hi n fun a b => prs E (f a b) (s a b)).bind fun p => K p.1 p.2 := by
    intro n f s
    rw [bounds_par, bounds_par lo hi n (fun a b => prs E (f a b) (s a b))]
    cases boundsV lo hi n fun a b => some (a, b) <;> rfl
  split
  · exact key _ _ _
  · split
    · exact key _ _ _
    · rfl
  · split
    · split
      · exact key _ _ _
      · rfl
    · rfl
  · rfl
theorem buildSliceV_par (nb t n : Nat) (ps : List (Nat × VE E)) (K : VE E → SE E → Option R) : buildSliceV E st nb t n ps K = (buildSliceV E st nb t n ps (prs E)).bind fun p => K p.1 p.2 := by
  unfold buildSliceV; repeat' (first | rfl | split)
theorem makeSliceV_par (nb t : Nat) (n c : VE E) (K : VE E → SE E → Option R) : makeSliceV E st nb t n c K = (makeSliceV E st nb t n c (prs E)).bind fun p => K p.1 p.2 := by
  unfold makeSliceV; repeat' (first | rfl | split)
theorem appendV_par (nb t : Nat) (s x : VE E) (K : VE E → SE E → Option R) : appendV E st nb t s x K = (appendV E st nb t s x (prs E)).bind fun p => K p.1 p.2 := by
  unfold appendV; repeat' (first | rfl | split)
theorem absorb_par (nb : Nat) (fr : List Nat) (r : Res E.T.A) (K : VE E → SE E → Option R) : absorb E st nb fr r K = (absorb E st nb fr r (prs E)).bind fun p => K p.1 p.2 := by
  unfold absorb
  split
  · split
    · rw [force_eq, force_eq]; rfl
    · split
      · rw [force_eq, force_eq]; rfl
      · rfl
  · split
    · rw [force_eq, force_eq]; rfl
    · rfl
theorem opv_par (o : Oper) (nb : Nat) (K : VE E → SE E → Option R) : opv E st o nb K = (opv E st o nb (prs E)).bind fun p => K p.1 p.2 := by
  by_cases hP : cls o = .P
  · rw [opvP o hP, opvP o hP]
    cases valP E st.ev o <;> rfl
  · unfold cls at hP
    unfold opv
    cases ho : o.op with
    | load t x => dsimp only; rw [loadV_par, loadV_par _ _ fun v => prs E v st]; cases loadV E st t (st.ev x) some <;> rfl
    | indexAddr t x i => dsimp only; rw [indexAddrV_par, indexAddrV_par _ _ _ fun v => prs E v st]; cases indexAddrV E st t (st.ev x) (st.ev i) some <;> rfl
    | store t x y => dsimp only; rw [storeV_par, storeV_par _ _ _ fun s => prs E .unk s]; cases storeV E st t (st.ev x) (st.ev y) some <;> rfl
    | lookup t x k ok => dsimp only; rw [lookupV_par, lookupV_par _ _ _ _ fun v => prs E v st]; cases lookupV E st t (st.ev x) (st.ev k) ok some <;> rfl
    | mapUpdate t x k v => dsimp only; rw [mapUpdateV_par, mapUpdateV_par _ _ _ _ fun s => prs E .unk s]; cases mapUpdateV E st t (st.ev x) (st.ev k) (st.ev v) some <;> rfl
    | insert t x k v => dsimp only; rw [mapUpdateV_par, mapUpdateV_par _ _ _ _ fun s => prs E .unk s]; cases mapUpdateV E st t (st.ev x) (st.ev k) (st.ev v) some <;> rfl
    | makeMap t rs => cases rs <;> rfl
    | alloc t => dsimp only; cases zerosT E.P t <;> rfl
    | box t x => dsimp only; repeat' (first | rfl | split)
    | buildSlice t n ps => exact buildSliceV_par _ _ _ _ _
    | makeSlice t a b => exact makeSliceV_par _ _ _ _ _
    | slice t x lo hi mx =>
      cases mx with
      | none => exact sliceV_par _ _ _ _ _
      | some m => rfl
    | call c =>
      rw [ho] at hP
      dsimp only at hP ⊢
      cases hk : c.callee with
      | builtin b =>
        rw [hk] at hP
        cases b with
        | len =>
          dsimp only
          cases hx : c.args.toList with
          | nil => rfl
          | cons x xs =>
            cases xs with
            | cons y ys => rfl
            | nil =>
              cases ht : c.argTypes.toList with
              | nil => rfl
              | cons t ts =>
                cases ts with
                | cons y ys => rfl
                | nil => dsimp only; rw [lenV_par, lenV_par _ _ fun v => prs E v st]; cases lenV E st t (st.ev x) some <;> rfl
        | append =>
          dsimp only
          cases hx : c.args.toList with
          | nil => rfl
          | cons x xs =>
            cases xs with
            | nil => rfl
            | cons y ys =>
              cases ys with
              | cons z zs => rfl
              | nil =>
                cases ht : c.argTypes.toList with
                | nil => rfl
                | cons t ts =>
                  cases ts with
                  | nil => rfl
                  | cons u us =>
                    cases us with
                    | cons z zs => rfl
                    | nil => dsimp only; cases Nat.beq t u <;> first | rfl | exact appendV_par _ _ _ _ _
        | max => exact absurd rfl hP
        | min => exact absurd rfl hP
        | _ => rfl
      | _ => rfl
    | _ => first | rfl | (rw [ho] at hP; exact absurd rfl hP)
theorem opD_par {ih : Rec E} (o : Oper) (nb : Nat) (K : VE E → SE E → Option R) : opD E ih o nb st K = (opD E ih o nb st (prs E)).bind fun p => K p.1 p.2 := by
  unfold opD
  cases callee o with
  | none => exact opv_par _ _ _
  | some p =>
    dsimp only
    unfold callD
    cases st.ev p.1 with
    | fn f caps =>
      dsimp only
      rw [retK_eq, retK_eq]
      cases retD E ih st f (p.2.toList.map st.ev ++ caps) with
      | none => rfl
      | some r => exact absorb_par _ _ _ _
    | _ => rfl
end
/-! states that look alike -/
structure Eqv {A : Nat → Type} (a b : St A) : Prop where
  env : ∀ t, look a.env t = look b.env t
  stk : a.stk = b.stk
  hp : ∀ i, look a.hp i = look b.hp i
  nx : a.nx = b.nx
theorem Eqv.refl {A : Nat → Type} (a : St A) : Eqv a a := ⟨fun _ => rfl, rfl, fun _ => rfl, rfl⟩
theorem Eqv.symm {A : Nat → Type} {a b : St A} (h : Eqv a b) : Eqv b a := ⟨fun t => (h.env t).symm, h.stk.symm, fun i => (h.hp i).symm, h.nx.symm⟩
theorem Eqv.trans {A : Nat → Type} {a b c : St A} (h : Eqv a b) (k : Eqv b c) : Eqv a c := ⟨fun t => (h.env t).trans (k.env t), h.stk.trans k.stk, fun i => (h.hp i).trans (k.hp i), h.nx.trans k.nx⟩
section
variable {E : Env} {st s : SE E}
theorem Eqv.ev (h : Eqv st s) (x : Operand) : s.ev x = st.ev x := by
  cases x with
  | tmp t => unfold St.ev; dsimp only; rw [h.env t]
  | _ => rfl
theorem look_put (st : SE E) (d : Option Nat) (v : VE E) (t : Nat) : look (st.put d v).env t = if d = some t then some v else look st.env t := by
  cases d with
  | none => simp [St.put]
  | some d =>
    show look ((d, v) :: st.env) t = _
    rw [look_cons]
    by_cases h : d = t
    · subst h; simp
    · rw [if_neg h, if_neg (fun e => h (Option.some.inj e))]
theorem Eqv.put (h : Eqv st s) (d : Option Nat) (v : VE E) : Eqv (st.put d v) (s.put d v) := by
  refine ⟨fun t => by rw [look_put, look_put, h.env t], ?_, ?_, ?_⟩ <;> cases d <;> first | exact h.stk | exact h.hp | exact h.nx
theorem RelM.eqv {W0 : Wd} {w : World} {okb : Nat → Prop} {μ : Nat → Option Value} {acts : List Act} (H : RelM E.T E.P W0 okb μ st acts w) (h : Eqv st s) : RelM E.T E.P W0 okb μ s acts w := by
  have hok : okM s.hp μ W0 okb w = okM st.hp μ W0 okb w := by
    funext b
    unfold okM
    simp only [h.hp]
  refine ⟨H.below, fun i c hc => by rw [← h.nx]; exact H.dom i c hc, fun i b hb => ?_, fun i j b b' c d k h1 h2 => H.inj i j b b' c d k (by rw [h.hp]; exact h1) (by rw [h.hp]; exact h2), ?_⟩
  · rw [hok]; exact H.blk i b (by rw [h.hp]; exact hb)
  · rw [hok, ← h.stk]
    have := H.fr
    cases acts with
    | nil => exact this.elim
    | cons a as => exact ⟨⟨this.1.1, fun t v hv => this.1.2 t v (by rw [h.env]; exact hv)⟩, this.2⟩
theorem reads_eqv (h : ∀ i, look st.hp i = look s.hp i) (ids : List Nat) : Reads st s ids := fun i _ _ => by rw [h i]; exact rfl
/-- stores, where all looks alike -/
theorem storeV_eqv {t : Nat} {a x : VE E} {st' : SE E} (h : ∀ i, look st.hp i = look s.hp i) (hs : storeV E st t a x some = some st') : ∃ s', storeV E s t a x some = some s' ∧ s'.env = s.env ∧ s'.stk = s.stk ∧ st'.env = st.env ∧ st'.stk = st.stk ∧ ∀ i, look st'.hp i = look s'.hp i := by
  unfold storeV at hs ⊢
  split at hs
  · split at hs
    · rename_i i off
      split at hs
      · rename_i l hb
        split at hs
        · rename_i l' hl
          obtain rfl := Option.some.inj hs
          have hb' := hb
          rw [h] at hb'
          exact ⟨{ s with hp := setk s.hp i (.var l' false) }, by simp only [hb', hl], rfl, rfl, rfl, rfl, fun k => by simp only [look_setk, h]⟩
        · cases hs
      · cases hs
    · rename_i e i j off
      split at hs
      · rename_i e' l hb
        split at hs
        · rename_i hee
          subst hee
          split at hs
          · rename_i cs hcs
            split at hs
            · rename_i cs' hcs'
              split at hs
              · rename_i y hy
                split at hs
                · rename_i hm
                  obtain rfl := Option.some.inj hs
                  have hb' := hb
                  rw [h] at hb'
                  have hsh := shutL_st (hp := st.hp) (hp' := s.hp) (fun i _ _ => by rw [h i]; exact rfl) hcs
                  refine ⟨{ s with hp := setk (freeze s.hp (x.cells.flatMap (V.ids 2))) i (.row e' (l.set j y) false) }, by simp only [hb', hsh, dif_pos, hcs', hy, hm], rfl, rfl, rfl, rfl, fun k => ?_⟩
                  simp only [look_setk, look_freeze, h]
                · cases hs
              · cases hs
            · cases hs
          · cases hs
        · cases hs
      · cases hs
    · cases hs
  · cases hs
theorem mapUpdateV_eqv {t : Nat} {x k v : VE E} {st' : SE E} (h : ∀ i, look st.hp i = look s.hp i) (hs : mapUpdateV E st t x k v some = some st') : ∃ s', mapUpdateV E s t x k v some = some s' ∧ s'.env = s.env ∧ s'.stk = s.stk ∧ st'.env = st.env ∧ st'.stk = st.stk ∧ ∀ i, look st'.hp i = look s'.hp i := by
  unfold mapUpdateV at hs ⊢
  split at hs
  · rename_i kt vt hu
    split at hs
    · rename_i i
      split at hs
      · rename_i l hb
        split at hs
        · rename_i l' hl
          obtain rfl := Option.some.inj hs
          have hb' := hb
          rw [h] at hb'
          exact ⟨{ s with hp := setk s.hp i (.map l' false) }, by simp only [hu, hb', hl], rfl, rfl, rfl, rfl, fun k => by simp only [look_setk, h]⟩
        · cases hs
      · cases hs
    · cases hs
  · cases hs
theorem srcV_eqv {e : Nat} {x : VE E} (h : ∀ i, look st.hp i = look s.hp i) : srcV E s e x = srcV E st e x := by
  unfold srcV; simp only [h]
theorem appendV_eqv {nb t : Nat} {x y v : VE E} {st' : SE E} (h : ∀ i, look st.hp i = look s.hp i) (hs : appendV E st nb t x y (prs E) = some (v, st')) : ∃ s', appendV E s nb t x y (prs E) = some (v, s') ∧ s'.env = s.env ∧ s'.stk = s.stk ∧ st'.env = st.env ∧ st'.stk = st.stk ∧ ∀ i, look st'.hp i = look s'.hp i := by
  unfold appendV at hs ⊢
  split at hs
  · cases hs
  · rename_i e he
    rw [← srcV_eqv h] at hs
    split at hs
    · rename_i m hk hsrc
      (try simp only [he, hk, hsrc])
      split at hs
      · split at hs
        · rename_i hlt
          obtain ⟨rfl, rfl⟩ := Prod.mk.inj (Option.some.inj hs)
          exact ⟨{ s with hp := (nb, .row e m false) :: s.hp, nx := nb + 1 }, by first | rfl | simp only [hlt, if_true], rfl, rfl, rfl, rfl, fun k => by simp only [look_cons, h]⟩
        · cases hs
      · rename_i i
        split at hs
        · rename_i e' l hb
          split at hs
          · rename_i hee
            subst hee
            split at hs
            · rename_i hlt
              obtain ⟨rfl, rfl⟩ := Prod.mk.inj (Option.some.inj hs)
              have hb' := hb
              rw [h] at hb'
              exact ⟨{ s with hp := (nb, .row e' (l ++ m) false) :: delk s.hp i, nx := nb + 1 }, by first | rfl | simp only [hb', dif_pos, hlt, if_true], rfl, rfl, rfl, rfl, fun k => by simp only [look_cons, look_delk, h]⟩
            · cases hs
          · cases hs
        · cases hs
      · cases hs
    · cases hs
/-- a write, where its operands and memory look alike -/
theorem opD_W {ih : Rec E} {o : Oper} {nb : Nat} {v : VE E} {st' : SE E} (hc : cls o = .W) (hs : ∀ x ∈ opsOf o, s.ev x = st.ev x) (h : ∀ i, look st.hp i = look s.hp i) (ho : opD E ih o nb st (prs E) = some (v, st')) :
    ∃ s', opD E ih o nb s (prs E) = some (v, s') ∧ s'.env = s.env ∧ s'.stk = s.stk ∧ st'.env = st.env ∧ st'.stk = st.stk ∧ ∀ i, look st'.hp i = look s'.hp i := by
  unfold cls at hc
  unfold opD callee at ho ⊢
  unfold opsOf at hs
  cases hop : o.op with
  | store t x y =>
    rw [hop] at hs
    simp only [hop] at ho ⊢
    unfold opv at ho ⊢
    simp only [hop] at ho ⊢
    rw [storeV_par] at ho
    obtain ⟨st1, h1, h2⟩ := Option.bind_eq_some_iff.1 ho
    obtain ⟨rfl, rfl⟩ := Prod.mk.inj (Option.some.inj h2)
    obtain ⟨s1, g1, g2⟩ := storeV_eqv h h1
    rw [storeV_par, hs x (by simp [Op.operands]), hs y (by simp [Op.operands]), g1]
    exact ⟨s1, rfl, g2⟩
  | mapUpdate t x k v =>
    rw [hop] at hs
    simp only [hop] at ho ⊢
    unfold opv at ho ⊢
    simp only [hop] at ho ⊢
    rw [mapUpdateV_par] at ho
    obtain ⟨st1, h1, h2⟩ := Option.bind_eq_some_iff.1 ho
    obtain ⟨rfl, rfl⟩ := Prod.mk.inj (Option.some.inj h2)
    obtain ⟨s1, g1, g2⟩ := mapUpdateV_eqv h h1
    rw [mapUpdateV_par, hs x (by simp [Op.operands]), hs k (by simp [Op.operands]), hs v (by simp [Op.operands]), g1]
    exact ⟨s1, rfl, g2⟩
  | insert t x k v =>
    rw [hop] at hs
    simp only [hop] at ho ⊢
    unfold opv at ho ⊢
    simp only [hop] at ho ⊢
    rw [mapUpdateV_par] at ho
    obtain ⟨st1, h1, h2⟩ := Option.bind_eq_some_iff.1 ho
    obtain ⟨rfl, rfl⟩ := Prod.mk.inj (Option.some.inj h2)
    obtain ⟨s1, g1, g2⟩ := mapUpdateV_eqv h h1
    rw [mapUpdateV_par, hs x (by simp [Op.operands]), hs k (by simp [Op.operands]), hs v (by simp [Op.operands]), g1]
    exact ⟨s1, rfl, g2⟩
  | call c =>
    rw [hop] at hc hs
    dsimp only at hc
    simp only [hop] at ho ⊢
    cases hk : c.callee with
    | value f => rw [hk] at hc; cases hc
    | invoke a b => simp only [hk] at ho; unfold opv at ho; simp only [hop, hk] at ho; cases ho
    | builtin b =>
      rw [hk] at hc
      simp only [hk] at ho ⊢
      unfold opv at ho ⊢
      simp only [hop, hk] at ho ⊢
      cases b with
      | append =>
        dsimp only at ho ⊢
        split at ho
        · rename_i x y t u hx ht
          split at ho
          · rename_i hu
            obtain ⟨s1, g1, g2⟩ := appendV_eqv h ho
            refine ⟨s1, ?_, g2⟩
            simp only [hx, ht, hu, hs x (by simp [Op.operands, Call.operands, hx]), hs y (by simp [Op.operands, Call.operands, hx])]
            exact g1
          · cases ho
        · cases ho
      | _ => first | (cases hc; done) | (dsimp only at ho; cases ho)
  | slice t x lo hi mx => rw [hop] at hc; cases hc
  | _ => first | (rw [hop] at hc; cases hc; done) | (simp only [hop] at ho; unfold opv at ho; simp only [hop] at ho; cases ho)
end
end Go.Proofs.YtpbpebjfglfjfaaGreatDoor.X
