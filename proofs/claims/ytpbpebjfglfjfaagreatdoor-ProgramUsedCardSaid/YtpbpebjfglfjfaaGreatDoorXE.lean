/-
  REGIONS THAT DRAW THEIR ORDER, part 5: the region.
-/
import Derived.Test.YtpbpebjfglfjfaaGreatDoorXD
set_option autoImplicit false
set_option linter.unusedVariables false
set_option linter.unusedSimpArgs false
namespace Go.Proofs.YtpbpebjfglfjfaaGreatDoor.X
open Go Go.RowKit
section
variable {E : Env} {G : World → Prop} {ih : Rec E} {all : Array Oper} {n0 N : Nat} {W0 : Wd} {okb : Nat → Prop} {as : List Act} {m : Nat}
/-- one operation without regard to where it stands -/
theorem opD_sound (hG : Good E G) (hS : Sound E G ih) (hGW : GD G W0) {st : SE E} {μ : Nat → Option Value} {a : Act} {w : World} (H : RelM E.T E.P W0 okb μ st (a :: as) w) {o : Oper} {nb : Nat} (hfr : Fr μ nb) (hN : st.nx = N) (hlab : nb + 64 ≤ N) {v : VE E} {st1 : SE E} (h : opD E ih o nb st (prs E) = some (v, st1))
    {next : Act → World → Prop} {Q : Exit → Act → World → Prop} (hd : dstOp a.tmps.size o = true)
    (hn : ∀ a' w' μ', a'.tmps.size = a.tmps.size → RelM E.T E.P W0 okb μ' ((setN st1 N).put o.dst v) (a' :: as) w' → (∀ k c, μ' k = some c → μ k = some c ∨ (nb ≤ k ∧ k < nb + 64)) → next a' w') : o.wp E.P a w next Q := by
  have hdst : ∀ x, o.dst = some x → x < a.tmps.size := fun x hx => by
    unfold dstOp at hd; rw [hx] at hd; exact Nat.le_of_ble_eq_true hd
  have hmax : ∀ {n1 : Nat}, (n1 = st.nx ∨ (nb ≤ n1 ∧ n1 ≤ nb + 64)) → Nat.max st.nx n1 = N := fun {n1} h => by
    show max st.nx n1 = N
    rcases h with h | h <;> omega
  unfold opD at h
  cases hcal : callee o with
  | none =>
    rw [hcal] at h
    obtain ⟨v', st', hK, μ', c, w', hside, hrun, H', hv⟩ := opv_sound hG.hT H hfr h
    obtain ⟨rfl, rfl⟩ := Prod.mk.inj (Option.some.inj hK)
    rw [hmax hside.1] at H'
    have := hn _ w' μ' (put_size a o.dst c) (H'.put hv hdst) hside.2
    unfold Oper.wp
    rcases hrun with hrun | ⟨hrun, rfl⟩
    · rw [hrun, Oper.upon_value]; exact this
    · rw [hrun, Oper.upon_skip]; exact this
  | some p =>
    obtain ⟨fo, args⟩ := p
    rw [hcal] at h
    unfold callee at hcal
    split at hcal
    · rename_i c ho
      split at hcal
      · rename_i fo' hk
        simp only [Option.some.injEq, Prod.mk.injEq] at hcal
        obtain ⟨rfl, rfl⟩ := hcal
        dsimp only at h
        unfold callD at h
        split at h
        · rename_i f caps hfo
          rw [retK_eq] at h
          obtain ⟨r, hr, habs⟩ := Option.bind_eq_some_iff.1 h
          have hfr2 := ev_rep H fo'
          rw [hfo] at hfr2
          generalize hcf : a.eval fo' = cf at *
          cases hfr2 with | fn _ _ cc hcl hcr =>
          have hal : (c.args.map a.eval ++ cc).size = (c.args.toList.map st.ev ++ caps).length := by simp [hcl]
          have hargs : ∀ (i : Nat) (v : VE E), (c.args.toList.map st.ev ++ caps)[i]? = some v → REP E st μ W0 okb w v ((c.args.map a.eval ++ cc).getD i undef) := by
            intro i v hv
            rw [Array.getD_eq_getD_getElem?]
            by_cases hi : i < c.args.toList.length
            · rw [List.getElem?_append_left (by simpa using hi)] at hv
              obtain ⟨d, h1, h2⟩ := args_rep H c.args.toList i v hv
              have hi2 : i < (c.args.map a.eval).size := by simpa using hi
              rw [Array.getElem?_append_left hi2, ← Array.getElem?_toList, Array.toList_map, h1]
              exact h2
            · have hi2 : (c.args.map a.eval).size ≤ i := by simpa using hi
              rw [List.getElem?_append_right (by simpa using hi)] at hv
              rw [Array.getElem?_append_right hi2]
              have := hcr _ v hv
              rw [Array.getD_eq_getD_getElem?] at this
              simpa using this
          have hGw : G w := hGW.at hG.stable H.below
          have hcalls : Enters E.P f ∧ Calls E.P f (c.args.map a.eval ++ cc) w (RetRel E.T E.P w (okM (freeze st.hp (frA st.hp (c.args.toList.map st.ev ++ caps))) μ W0 okb w) r) := by
            unfold retD at hr
            split at hr
            · rename_i g hg
              obtain ⟨h1, h2⟩ := hG.con f g hg
              split at hr
              · rename_i sh hs
                obtain ⟨h3, h4⟩ := shutA_args hG.hT H hs hargs
                exact ⟨h1, h2 w _ sh _ r hGw (by rw [hal, h3]) h4 (fun b hb => hb.1) hr⟩
              · cases hr
            · split at hr
              · cases hr
              · rename_i fn hb
                split at hr
                · cases hr
                · rename_i cd hc
                  split at hr
                  · rename_i sh hs
                    obtain ⟨h3, h4⟩ := shutA_args hG.hT H hs hargs
                    exact ⟨enters_body hG hb hc, iso_sound hG hS hb hc hGw (by rw [hal, h3]) h4 (fun b hb => hb.1) hr⟩
                  · cases hr
          obtain ⟨⟨fn, e1, e2, e3⟩, hcalls⟩ := hcalls
          unfold Oper.wp
          have hrun : (execOp a.eval o).run E.P w = .ok (.enter f (c.args.map a.eval ++ cc)) w := by
            unfold execOp
            simp only [ho, resolve, hk, hcf, Deferred.ofValue, Sem.run_bind, Sem.run_pure, Result.andThen_ok, invoke, callFunc, run_program, e1, e2, e3, Bool.false_eq_true, if_false, Array.empty_append]
          rw [hrun, Oper.upon_enter]
          refine hcalls.mono fun e w' hret => ?_
          obtain ⟨d, v', st', μ', rfl, hK, hside, H', hv⟩ := absorb_sound hG.hT H hfr hret habs
          obtain ⟨rfl, rfl⟩ := Prod.mk.inj (Option.some.inj hK)
          rw [hmax hside.1] at H'
          exact hn _ w' μ' (put_size _ _ _) (H'.put hv hdst) hside.2
        · cases h
      · cases hcal
    · cases hcal
/-- the guard, as the machine sees it -/
theorem gv_wanted {st : SE E} {μ : Nat → Option Value} {a : Act} {w : World} (H : RelM E.T E.P W0 okb μ st (a :: as) w) {o : Oper} {b : Bool} (h : gv all o st = some b) : Region.wanted o (yielded all a.tmps) = b := by
  unfold gv at h
  cases hg : o.guard with
  | none => rw [hg] at h; obtain rfl := Option.some.inj h; simp [Region.wanted, hg]
  | some p =>
    obtain ⟨j, want⟩ := p
    rw [hg] at h
    dsimp only at h
    cases hd : (all[j]?).bind (·.dst) with
    | none => rw [hd] at h; cases h
    | some d =>
      rw [hd] at h
      dsimp only at h
      split at h
      · rename_i t hl
        obtain rfl := Option.some.inj h
        have hb := (H.fr.1.2 d _ hl).bool_inv
        have hlt : d < a.tmps.size := by
          rcases Nat.lt_or_ge d a.tmps.size with h1 | h1
          · exact h1
          · rw [Array.getD_eq_getD_getElem?, Array.getElem?_eq_none h1] at hb; cases hb
        have hy : yielded all a.tmps j = some t := by
          unfold yielded
          have : a.tmps[d]? = some (.bool t) := by
            rw [Array.getElem?_eq_getElem hlt]; rw [Array.getD_eq_getD_getElem?, Array.getElem?_eq_getElem hlt] at hb
            exact congrArg some hb
          have hd : (all[j]?).bind (·.dst) = some d := hd
          rw [hd, Option.bind_some, this]
        simp only [Region.wanted, hg, hy]
        cases t <;> cases want <;> rfl
      · rename_i hl
        obtain rfl := Option.some.inj h
        exact not_yielded hg hd (H.fr.1.2 d _ hl)
      · cases h
/-- what a state stands for, with room for what has not come up yet -/
def Stands (E : Env) (W0 : Wd) (okb : Nat → Prop) (as : List Act) (m n0 : Nat) (all : Array Oper) (listed : Array Bool) (st : SE E) (a : Act) (w : World) : Prop :=
  a.tmps.size = m ∧ ∃ μ, RelM E.T E.P W0 okb μ st (a :: as) w ∧ ∀ i, i < all.size → listed.getD i true = false → Fr μ (n0 + 64 * i)
theorem getD_set (l : Array Bool) (i k : Nat) : (l.setIfInBounds i true).getD k true = false → l.getD k true = false ∧ k ≠ i := by
  intro h
  by_cases hk : i = k
  · subst hk
    rcases Nat.lt_or_ge i l.size with h1 | h1
    · simp [h1] at h
    · simp [Array.getElem?_eq_none h1] at h
  · refine ⟨?_, fun e => hk e.symm⟩
    simpa [Array.getElem?_setIfInBounds_ne hk] using h
theorem tr_wp (hG : Good E G) (hS : Sound E G ih) (hGW : GD G W0) (hNN : N = n0 + 64 * all.size) {listed : Array Bool} {st st1 : SE E} {a : Act} {w : World} (H : Stands E W0 okb as m n0 all listed st a w) (hN : st.nx = N) {i : Nat} {o : Oper} (hi : all[i]? = some o) (hun : listed.getD i true = false) (hd : dstOp m o = true) (h : tr ih all n0 N i o st = some st1)
    {Kw : Act → World → Prop} {Q : Exit → Act → World → Prop} (hK : ∀ a' w', Stands E W0 okb as m n0 all (listed.setIfInBounds i true) st1 a' w' → Kw a' w') : wpOp E.P all Q i Kw a w := by
  obtain ⟨hm, μ, HR, hfree⟩ := H
  have hil : i < all.size := (Array.getElem?_eq_some_iff.1 hi).1
  unfold wpOp
  rw [hi]
  dsimp only
  unfold tr at h
  split at h
  · rename_i hg
    rw [gv_wanted HR hg, if_pos rfl]
    cases hok : okP E all i o st with
    | false => rw [hok] at h; cases h
    | true =>
    rw [hok] at h
    dsimp only at h
    cases ho : opD E ih o (n0 + 64 * i) st (prs E) with
    | none => rw [ho] at h; cases h
    | some p =>
      obtain ⟨v, st'⟩ := p
      rw [ho] at h
      obtain rfl := Option.some.inj h
      refine .inl (opD_sound hG hS hGW HR (hfree i hil hun) hN (by rw [hNN]; omega) ho (by rw [hm]; exact hd) fun a' w' μ' hs HR' hext => hK a' w' ⟨hs.trans hm, μ', HR', fun k hk hun2 => ?_⟩)
      obtain ⟨hun3, hki⟩ := getD_set _ _ _ hun2
      intro x c hc hx
      rcases hext x c hc with h1 | h1
      · exact hfree k hk hun3 x c h1 hx
      · omega
  · rename_i hg
    obtain rfl := Option.some.inj h
    rw [gv_wanted HR hg, if_neg (by simp)]
    refine hK _ _ ⟨(put_size _ _ _).trans hm, μ, HR.put rep_undef fun x hx => ?_, fun k hk hun2 => hfree k hk (getD_set _ _ _ hun2).1⟩
    unfold dstOp at hd; rw [hx] at hd
    rw [hm]; exact Nat.le_of_ble_eq_true hd
  · cases h
theorem wp_exists {o : Oper} {a : Act} {w : World} {Kw : Act → World → Prop} (h : o.wp E.P a w Kw fun _ _ _ => False) : ∃ a' w', Kw a' w' := by
  unfold Oper.wp at h
  generalize (execOp a.eval o).run E.P w = r at h
  cases r with
  | ok n w' =>
    cases n <;> simp only [Oper.upon] at h <;> first
      | exact ⟨_, _, h⟩
      | exact h.elim
      | (obtain ⟨e, w'', fr, hR, _⟩ := h []
         cases e with
         | returned v => exact ⟨_, _, hR⟩
         | panicked c => exact hR.elim
         | outgrown => obtain ⟨_, _, h⟩ := hR; exact h.elim)
      | (obtain ⟨v, w'', hR, _⟩ := h default []; exact ⟨_, _, hR⟩)
  | halt x w' => cases x <;> simp only [Oper.upon] at h <;> exact h.elim
theorem tr_stands (hG : Good E G) (hS : Sound E G ih) (hGW : GD G W0) (hNN : N = n0 + 64 * all.size) {listed : Array Bool} {st st1 : SE E} (H : ∃ a w, Stands E W0 okb as m n0 all listed st a w) (hN : st.nx = N) {i : Nat} {o : Oper} (hi : all[i]? = some o) (hun : listed.getD i true = false) (hd : dstOp m o = true) (h : tr ih all n0 N i o st = some st1) :
    ∃ a w, Stands E W0 okb as m n0 all (listed.setIfInBounds i true) st1 a w := by
  obtain ⟨a, w, H⟩ := H
  have := tr_wp (Q := fun _ _ _ => False) hG hS hGW hNN H hN hi hun hd h (Kw := fun a' w' => Stands E W0 okb as m n0 all (listed.setIfInBounds i true) st1 a' w') fun a' w' h => h
  unfold wpOp at this
  rw [hi] at this
  dsimp only at this
  split at this
  · rcases this with h1 | ⟨_, _, _, h1⟩
    · exact wp_exists h1
    · exact h1.elim
  · exact ⟨_, _, this⟩
theorem tr_nx {i : Nat} {o : Oper} {st st1 : SE E} (hN : st.nx = N) (h : tr ih all n0 N i o st = some st1) : st1.nx = N := by
  rcases tr_cases hN h with ⟨v, news, fr, _, _, _, h, _⟩ | ⟨_, v, _, _, h, _⟩ <;> exact h
theorem ids_dom {T : Tab} {P : Program} {w : World} {μ : Nat → Option Value} {ok : Nat → Prop} {v : V T.A} {c : Value} (h : Rep T P w μ ok v c) : ∀ n, ∀ i ∈ v.ids n, ∃ d, μ i = some d := by
  induction h with
  | agg l cs hl _ ih2 =>
    intro n i hi
    cases n with
    | zero => cases hi
    | succ n =>
      have hi : i ∈ l.flatMap (V.ids n) := hi
      obtain ⟨x, hx, hxi⟩ := List.mem_flatMap.1 hi
      obtain ⟨k, hk, rfl⟩ := List.getElem_of_mem hx
      exact ih2 k _ (List.getElem?_eq_getElem hk) n i hxi
  | tup l cs hl _ ih2 =>
    intro n i hi
    cases n with
    | zero => cases hi
    | succ n =>
      have hi : i ∈ l.flatMap (V.ids n) := hi
      obtain ⟨x, hx, hxi⟩ := List.mem_flatMap.1 hi
      obtain ⟨k, hk, rfl⟩ := List.getElem_of_mem hx
      exact ih2 k _ (List.getElem?_eq_getElem hk) n i hxi
  | fn f l cs hl _ ih2 =>
    intro n i hi
    cases n with
    | zero => cases hi
    | succ n =>
      have hi : i ∈ l.flatMap (V.ids n) := hi
      obtain ⟨x, hx, hxi⟩ := List.mem_flatMap.1 hi
      obtain ⟨k, hk, rfl⟩ := List.getElem_of_mem hx
      exact ih2 k _ (List.getElem?_eq_getElem hk) n i hxi
  | meth f l cs hl _ ih2 =>
    intro n i hi
    cases n with
    | zero => cases hi
    | succ n =>
      have hi : i ∈ l.flatMap (V.ids n) := hi
      obtain ⟨x, hx, hxi⟩ := List.mem_flatMap.1 hi
      obtain ⟨k, hk, rfl⟩ := List.getElem_of_mem hx
      exact ih2 k _ (List.getElem?_eq_getElem hk) n i hxi
  | own j c h => intro n i hi; cases n with | zero => cases hi | succ n => (have hi : i ∈ [j] := hi; simp only [List.mem_singleton] at hi; subst hi; exact ⟨_, h⟩)
  | ptr j off b h => intro n i hi; cases n with | zero => cases hi | succ n => (have hi : i ∈ [j] := hi; simp only [List.mem_singleton] at hi; subst hi; exact ⟨_, h⟩)
  | elt e j k off b o m cap h hj => intro n i hi; cases n with | zero => cases hi | succ n => (have hi : i ∈ [j] := hi; simp only [List.mem_singleton] at hi; subst hi; exact ⟨_, h⟩)
  | mapr j c h => intro n i hi; cases n with | zero => cases hi | succ n => (have hi : i ∈ [j] := hi; simp only [List.mem_singleton] at hi; subst hi; exact ⟨_, h⟩)
  | _ => intro n i hi; cases n <;> cases hi
theorem idsAN_dom {E : Env} {W0 : Wd} {w : World} {okb : Nat → Prop} {μ : Nat → Option Value} {st : SE E} {acts : List Act} (H : RelM E.T E.P W0 okb μ st acts w) : ∀ (n : Nat) {v : VE E} {c : Value}, REP E st μ W0 okb w v c → ∀ i ∈ idsAN st.hp n v, ∃ d, μ i = some d
  | 0, v, c, _, i, hi => by cases hi
  | n + 1, v, c, hv, i, hi => by
    rw [idsAN_succ] at hi
    rcases shutA1_cases st.hp (shutAN st.hp n) (idsAN st.hp n) v with ⟨k, o, rfl⟩ | ⟨f, caps, rfl⟩ | ⟨cs, rfl⟩ | ⟨_, e2⟩
    · have hi : i ∈ k :: (cellsOf (look st.hp k)).flatMap (idsAN st.hp n) := hi
      cases hv with | ptr _ _ b hm =>
      rcases List.mem_cons.1 hi with rfl | hi
      · exact ⟨_, hm⟩
      · obtain ⟨x, hx, hi⟩ := List.mem_flatMap.1 hi
        unfold cellsOf at hx
        split at hx
        · rename_i l z hb
          cases H.blk k _ hb with | var _ _ b cs e hm hB hh hl h =>
          obtain ⟨p, hp, rfl⟩ := List.getElem_of_mem hx
          exact idsAN_dom H n (h p _ (List.getElem?_eq_getElem hp)) i hi
        · cases hx
    · have hi : i ∈ caps.flatMap (idsAN st.hp n) := hi
      obtain ⟨x, hx, hi⟩ := List.mem_flatMap.1 hi
      cases hv with | fn _ _ cc hcl hcr =>
      obtain ⟨p, hp, rfl⟩ := List.getElem_of_mem hx
      exact idsAN_dom H n (hcr p _ (List.getElem?_eq_getElem hp)) i hi
    · cases hi
    · rw [e2] at hi
      exact ids_dom hv 2 i hi
theorem stands_out {listed : Array Bool} {st : SE E} (H : ∃ a w, Stands E W0 okb as m n0 all listed st a w) {i : Nat} (hi : i < all.size) (hun : listed.getD i true = false) (o : Oper) : Out st o (n0 + 64 * i) := by
  obtain ⟨a, w, _, μ, HR, hfree⟩ := H
  intro x _ k hk hr
  rcases List.mem_append.1 hk with hk | hk
  · obtain ⟨d, hd⟩ := ids_dom (ev_rep HR x) 4 k hk
    exact hfree i hi hun k d hd hr
  · obtain ⟨d, hd⟩ := idsAN_dom HR 7 (ev_rep HR x) k hk
    exact hfree i hi hun k d hd hr
/-! whatever is picked -/
def Fin' (K : SE E → Option (Res E.T.A)) (q : Res E.T.A) (st : SE E) : Prop := ∃ s, Eqv st s ∧ K s = some q
def AnyD (ih : Rec E) (all : Array Oper) (n0 N : Nat) (K : SE E → Option (Res E.T.A)) (q : Res E.T.A) : Nat → Array Bool → SE E → Prop
  | 0, listed, st => Region.ready .any all listed = [] ∧ Fin' K q st
  | fuel + 1, listed, st => (Region.ready .any all listed = [] → Fin' K q st) ∧ ∀ i ∈ Region.ready .any all listed, ∃ o st1, all[i]? = some o ∧ tr ih all n0 N i o st = some st1 ∧ AnyD ih all n0 N K q fuel (listed.setIfInBounds i true) st1
variable {K : SE E → Option (Res E.T.A)} {q : Res E.T.A}
theorem fin_eqv {st s : SE E} (h : Eqv st s) : Fin' K q st → Fin' K q s := fun ⟨t, h1, h2⟩ => ⟨t, h.symm.trans h1, h2⟩
theorem anyD_eqv : ∀ (fuel : Nat) (listed : Array Bool) (st s : SE E), st.nx = N → Eqv st s → AnyD ih all n0 N K q fuel listed st → AnyD ih all n0 N K q fuel listed s
  | 0, listed, st, s, hN, h, H => ⟨H.1, fin_eqv h H.2⟩
  | fuel + 1, listed, st, s, hN, h, H => ⟨fun hr => fin_eqv h (H.1 hr), fun i hi => by
      obtain ⟨o, st1, h1, h2, h3⟩ := H.2 i hi
      obtain ⟨s1, h4, h5⟩ := tr_eqv hN h h2
      exact ⟨o, s1, h1, h4, anyD_eqv fuel _ st1 s1 (tr_nx hN h2) h5 h3⟩⟩
theorem wset_sub : ∀ (l : List Oper) (j : Nat) (D : List Nat), ∀ k ∈ D, k ∈ wset l j D
  | [], j, D, k, hk => hk
  | y :: l, j, D, k, hk => by
    show k ∈ (match waitsIn y D with | true => wset l (j + 1) (j :: D) | false => wset l (j + 1) D)
    split
    · exact wset_sub l (j + 1) _ k (List.mem_cons_of_mem _ hk)
    · exact wset_sub l (j + 1) _ k hk
theorem wset_spec : ∀ (l : List Oper) (j : Nat) (D : List Nat), ∀ k ∈ wset l j D, k ∈ D ∨ ∃ y, j ≤ k ∧ l[k - j]? = some y ∧ ∃ e ∈ y.after, Region.binds .any e = true ∧ e.on ∈ wset l j D
  | [], j, D, k, hk => .inl hk
  | y :: l, j, D, k, hk => by
    have step : wset (y :: l) j D = (match waitsIn y D with | true => wset l (j + 1) (j :: D) | false => wset l (j + 1) D) := rfl
    have tail : ∀ D', wset (y :: l) j D = wset l (j + 1) D' → k ∈ wset l (j + 1) D' → k ∈ D' ∨ ∃ y', j ≤ k ∧ (y :: l)[k - j]? = some y' ∧ ∃ e ∈ y'.after, Region.binds .any e = true ∧ e.on ∈ wset (y :: l) j D := by
      intro D' e hk
      rcases wset_spec l (j + 1) D' k hk with h | ⟨y', h1, h2, h3⟩
      · exact .inl h
      · refine .inr ⟨y', by omega, ?_, by rw [e]; exact h3⟩
        rw [show k - j = (k - (j + 1)) + 1 by omega, List.getElem?_cons_succ]; exact h2
    cases hw : waitsIn y D with
    | true =>
      rw [hw] at step
      rw [step] at hk
      rcases tail _ step hk with h | h
      · rcases List.mem_cons.1 h with h | h
        · subst h
          unfold waitsIn at hw
          obtain ⟨e, he, hb⟩ := List.any_eq_true.1 hw
          simp only [Bool.and_eq_true] at hb
          exact .inr ⟨y, Nat.le_refl _, by simp, e, by simpa using he, hb.1, wset_sub _ _ _ _ ((memN_iff _ _).1 hb.2)⟩
        · exact .inl h
      · exact .inr h
    | false =>
      rw [hw] at step
      rw [step] at hk
      exact tail _ step hk
theorem chk_spec {x : Oper} {i : Nat} {D : List Nat} : ∀ (l : List Oper) (j : Nat), chkD all x i D l j = true → ∀ (k : Nat) (y : Oper), l[k]? = some y → (j + k) ∈ D ∨ (x.apart all y = true ∧ (compat x y = true ∨ laN all i (j + k) x y = true))
  | [], j, _, k, y, hk => by cases hk
  | z :: l, j, h, k, y, hk => by
    have h : ((memN j D || (x.apart all z && (compat x z || laN all i j x z))) && chkD all x i D l (j + 1)) = true := h
    simp only [Bool.and_eq_true, Bool.or_eq_true] at h
    cases k with
    | zero =>
      obtain rfl := Option.some.inj hk
      rcases h.1 with h1 | h1
      · exact .inl ((memN_iff _ _).1 h1)
      · exact .inr h1
    | succ k =>
      have := chk_spec l (j + 1) h.2 k y hk
      rwa [show j + 1 + k = j + (k + 1) by omega] at this
theorem anyD_first (hG : Good E G) (hS : Sound E G ih) (hGW : GD G W0) (hNN : N = n0 + 64 * all.size) (hdst : ∀ (i : Nat) (o : Oper), all[i]? = some o → dstOp m o = true) {i : Nat} {oi : Oper} (hi : all[i]? = some oi) {D : List Nat} (hD : ∀ (j : Nat) (oj : Oper), all[j]? = some oj → j ≠ i → j ∈ D → ∃ e ∈ oj.after, Region.binds .any e = true ∧ e.on ∈ D) : ∀ (fuel : Nat) (listed : Array Bool) (st st1 : SE E), st.nx = N → (∃ a w, Stands E W0 okb as m n0 all listed st a w) →
    (∀ k, k ∈ D → listed.getD k true = false) →
    (∀ (j : Nat) (oj : Oper), all[j]? = some oj → j ≠ i → listed.getD j true = false → j ∉ D → oi.apart all oj = true ∧ (compat oi oj = true ∨ laN all i j oi oj = true)) →
    i ∈ Region.ready .any all listed → tr ih all n0 N i oi st = some st1 → AnyD ih all n0 N K q fuel (listed.setIfInBounds i true) st1 → AnyD ih all n0 N K q (fuel + 1) listed st := by
  intro fuel
  induction fuel with
  | zero =>
    intro listed st st1 hN hW _ _ hr h1 H
    refine ⟨fun h => (by rw [h] at hr; cases hr), fun j hj => ?_⟩
    by_cases hji : j = i
    · subst hji; exact ⟨oi, st1, hi, h1, H⟩
    · have := ready_mono hj hji
      rw [H.1] at this
      cases this
  | succ fuel ihf =>
    intro listed st st1 hN hW hDun hfree hr h1 H
    refine ⟨fun h => (by rw [h] at hr; cases hr), fun j hj => ?_⟩
    by_cases hji : j = i
    · subst hji; exact ⟨oi, st1, hi, h1, H⟩
    · obtain ⟨oj, st2, hoj, h2, H2⟩ := H.2 j (ready_mono hj hji)
      obtain ⟨hjun, oj', hoj', hall⟩ := mem_ready.1 hj
      obtain rfl := Option.some.inj (hoj.symm.trans hoj')
      have hiun := (mem_ready.1 hr).1
      have hnot : j ∉ D := fun hjD => by
        obtain ⟨e, he, hb, heD⟩ := hD j oj hoj hji hjD
        have h1 := hall e he hb
        have h2 := hDun e.on heD
        rcases Nat.lt_or_ge e.on listed.size with h' | h'
        · simp [h'] at h2 h1; rw [h2] at h1; cases h1
        · simp [Array.getElem?_eq_none h'] at h1
      obtain ⟨hap, hcp⟩ := hfree j oj hoj hji hjun hnot
      have hil : i < all.size := (Array.getElem?_eq_some_iff.1 hi).1
      have hjl : j < all.size := (Array.getElem?_eq_some_iff.1 hoj).1
      obtain ⟨s1, s2, g1, g2, g3⟩ := tr_comm hi hoj (fun e => hji e.symm) hN h1 h2 hap hcp (stands_out hW hil hiun oj) (stands_out hW hjl hjun oi)
      refine ⟨oj, s1, hoj, g1, ?_⟩
      have hfree' : ∀ k ok, all[k]? = some ok → k ≠ i → (listed.setIfInBounds j true).getD k true = false →
          k ∉ D → oi.apart all ok = true ∧ (compat oi ok = true ∨ laN all i k oi ok = true) := fun k ok hk hki hun hno =>
        hfree k ok hk hki (getD_set _ _ _ hun).1 hno
      have hDun' : ∀ k, k ∈ D → (listed.setIfInBounds j true).getD k true = false := fun k hk => by
        have hkj : j ≠ k := fun e => hnot (by rw [e]; exact hk)
        have := hDun k hk
        simpa [Array.getElem?_setIfInBounds_ne hkj] using this
      refine ihf (listed.setIfInBounds j true) s1 s2 (tr_nx hN g1) (tr_stands hG hS hGW hNN hW hN hoj hjun (hdst j oj hoj) g1) hDun' hfree' (ready_mono hr (Ne.symm hji)) g2 ?_
      rw [Array.setIfInBounds_comm _ _ hji]
      exact anyD_eqv fuel _ st2 s2 (tr_nx (tr_nx hN h1) h2) g3 H2
theorem tr_par {i : Nat} {o : Oper} {st : SE E} (hN : st.nx = N) (h : runD1 E ih all i o (n0 + 64 * i) N st K = some q) : ∃ st1, tr ih all n0 N i o st = some st1 ∧ Fin' K q st1 := by
  unfold runD1 at h
  have run : ∀ s : SE E, gv all o s = some true → doD E ih all i o (n0 + 64 * i) N s K = some q → ∃ st1, tr ih all n0 N i o s = some st1 ∧ K st1 = some q := by
    intro s hg hd
    unfold doD at hd
    cases hok : okP E all i o s with
    | false => rw [hok] at hd; cases hd
    | true =>
    rw [hok] at hd
    dsimp only at hd
    rw [opD_par] at hd
    obtain ⟨p, h1, h2⟩ := Option.bind_eq_some_iff.1 hd
    exact ⟨_, tr_true hg hok h1, h2⟩
  cases hg : o.guard with
  | none =>
    rw [hg] at h
    obtain ⟨st1, h1, h2⟩ := run st (by unfold gv; rw [hg]) h
    exact ⟨st1, h1, st1, Eqv.refl _, h2⟩
  | some p =>
    obtain ⟨j, want⟩ := p
    rw [hg] at h
    dsimp only at h
    unfold guardD at h
    cases hd : (all[j]?).bind (·.dst) with
    | none => rw [hd] at h; cases h
    | some d =>
      rw [hd] at h
      dsimp only at h
      split at h
      · rename_i t hl
        have hgv : ∀ s : SE E, look s.env d = some (.bool t) → gv all o s = some (t == want) := fun s hs => by
          unfold gv; rw [hg]; dsimp only; rw [hd]; dsimp only; rw [hs]
        have heq : ∀ b, t = b → Eqv st (st.put (some d) (.bool b)) := fun b hb => by
          subst hb
          refine ⟨fun k => ?_, rfl, fun _ => rfl, rfl⟩
          rw [look_put]
          by_cases hk : some d = some k
          · rw [if_pos hk]; obtain rfl := Option.some.inj hk; exact hl
          · rw [if_neg hk]
        split at h
        · rename_i htw
          have he := heq want htw
          have hl2 : look (st.put (some d) (.bool want)).env d = some (.bool t) := by rw [← he.env d]; exact hl
          obtain ⟨s1, h1, h2⟩ := run _ (by rw [hgv _ hl2, htw]; simp) h
          obtain ⟨st1, h3, h4⟩ := tr_eqv (by exact hN) he.symm h1
          exact ⟨st1, h3, s1, h4.symm, h2⟩
        · rename_i htw
          have htn : t = !want := by cases t <;> cases want <;> simp_all
          have he := heq (!want) htn
          refine ⟨st.put o.dst (.tup []), by unfold tr; rw [hgv st hl]; rw [show (t == want) = false by simp [htw]], _, he.put o.dst (.tup []), h⟩
      · rename_i hl
        have hgv : gv all o st = some false := by unfold gv; rw [hg]; dsimp only; rw [hd]; dsimp only; rw [hl]
        exact ⟨st.put o.dst (.tup []), by unfold tr; rw [hgv], _, Eqv.refl _, h⟩
      · cases h
theorem lex_any (hG : Good E G) (hS : Sound E G ih) (hGW : GD G W0) (hNN : N = n0 + 64 * all.size) (hdst : ∀ (i : Nat) (o : Oper), all[i]? = some o → dstOp m o = true) : ∀ (l : List Oper) (i : Nat) (listed : Array Bool) (st : SE E), (∀ j, l[j]? = all[i + j]?) → i + l.length = all.size → listed.size = all.size → (∀ k, k < all.size → listed.getD k true = decide (k < i)) → st.nx = N → (∃ a w, Stands E W0 okb as m n0 all listed st a w) → lexD all l i = true →
    runD E ih all n0 N l i st K = some q → AnyD ih all n0 N K q l.length listed st
  | [], i, listed, st, hl, hlen, hsz, hlst, hN, hW, hlex, h => by
    refine ⟨?_, st, Eqv.refl _, h⟩
    cases hr : Region.ready .any all listed with
    | nil => rfl
    | cons k ks =>
      have hk : k ∈ Region.ready .any all listed := by rw [hr]; simp
      obtain ⟨h1, o, h2, _⟩ := mem_ready.1 hk
      have hkl : k < all.size := (Array.getElem?_eq_some_iff.1 h2).1
      rw [hlst k hkl] at h1
      simp at h1 hlen
      omega
  | o :: l, i, listed, st, hl, hlen, hsz, hlst, hN, hW, hlex, h => by
    have h0 : all[i]? = some o := by simpa using (hl 0).symm
    have hil : i < all.size := (Array.getElem?_eq_some_iff.1 h0).1
    have hlex : (pairsD all o i l && (o.after.toList.all fun e => !Region.binds .any e || Nat.blt e.on i) && lexD all l (i + 1)) = true := hlex
    simp only [Bool.and_eq_true] at hlex
    obtain ⟨⟨hp, ha⟩, hlex⟩ := hlex
    have h : runD1 E ih all i o (n0 + 64 * i) N st (fun st' => runD E ih all n0 N l (i + 1) st' K) = some q := h
    obtain ⟨st1, h1, s1, h2, h3⟩ := tr_par hN h
    have hun : listed.getD i true = false := by rw [hlst i hil]; simp
    have hr : i ∈ Region.ready .any all listed := by
      refine mem_ready.2 ⟨hun, o, h0, fun e he hb => ?_⟩
      have := List.all_eq_true.1 ha e (by simpa using he)
      rw [hb] at this
      simp only [Bool.not_true, Bool.false_or] at this
      have hlt : e.on < i := Nat.le_of_ble_eq_true this
      have h5 := hlst e.on (by omega)
      rw [decide_eq_true hlt] at h5
      have h6 : e.on < listed.size := by omega
      simpa [h6] using h5
    have hst1 := tr_stands hG hS hGW hNN hW hN h0 hun (hdst i o h0) h1
    have hN1 := tr_nx hN h1
    have hrest := lex_any hG hS hGW hNN hdst l (i + 1) (listed.setIfInBounds i true) s1 (fun j => by have := hl (j + 1); simpa [Nat.add_assoc, Nat.add_comm 1 j] using this) (by simp at hlen; omega) (by simp [hsz])
      (fun k hk => by
        by_cases hki : i = k
        · subst hki
          have : i < listed.size := by omega
          simp [this]
        · have h5 := hlst k hk
          have h6 : (listed.setIfInBounds i true).getD k true = listed.getD k true := by simp [Array.getElem?_setIfInBounds_ne hki]
          rw [h6, h5]
          by_cases h7 : k < i
          · simp [h7, show k < i + 1 by omega]
          · simp [h7, show ¬ k < i + 1 by omega])
      (by rw [← h2.nx]; exact hN1) (by obtain ⟨a, w, g1, μ, g2, g3⟩ := hst1; exact ⟨a, w, g1, μ, g2.eqv h2, g3⟩) hlex h3
    have hst : s1.nx = N := by rw [← h2.nx]; exact hN1
    have hget : ∀ (j : Nat) (oj : Oper), all[j]? = some oj → i < j → l[j - (i + 1)]? = some oj := fun j oj hj hij => by
      have h5 := hl (j - i)
      rw [show i + (j - i) = j by omega, hj, show j - i = (j - (i + 1)) + 1 by omega, List.getElem?_cons_succ] at h5
      exact h5
    refine anyD_first hG hS hGW hNN hdst h0 (D := wset l (i + 1) [i]) (fun j oj hj hji hjD => ?_) l.length listed st st1 hN hW (fun k hk => ?_) (fun j oj hj hji hjun hno => ?_) hr h1 (anyD_eqv _ _ s1 st1 hst h2.symm hrest)
    · rcases wset_spec l (i + 1) [i] j hjD with h5 | ⟨y, h5, h6, h7⟩
      · exact absurd (List.mem_singleton.1 h5) hji
      · rw [hget j oj hj (by omega)] at h6
        obtain rfl := Option.some.inj h6
        exact h7
    · rcases wset_spec l (i + 1) [i] k hk with h5 | ⟨y, h5, h6, _⟩
      · rw [List.mem_singleton.1 h5]; exact hun
      · have h7 : k - (i + 1) < l.length := (List.getElem?_eq_some_iff.1 h6).1
        rw [hlst k (by simp at hlen; omega)]
        simp; omega
    · have hjl : j < all.size := (Array.getElem?_eq_some_iff.1 hj).1
      rw [hlst j hjl] at hjun
      have hjun : ¬ j < i := by simpa using hjun
      have h5 := chk_spec l (i + 1) hp (j - (i + 1)) oj (hget j oj hj (by omega))
      rw [show i + 1 + (j - (i + 1)) = j by omega] at h5
      rcases h5 with h5 | h5
      · exact absurd h5 hno
      · exact h5
theorem any_wp (hG : Good E G) (hS : Sound E G ih) (hGW : GD G W0) (hNN : N = n0 + 64 * all.size) (hdst : ∀ (i : Nat) (o : Oper), all[i]? = some o → dstOp m o = true) {Q : Exit → Act → World → Prop}
    (hQ : ∀ st μ a w, a.tmps.size = m → RelM E.T E.P W0 okb μ st (a :: as) w → K st = some q → Q .normal a w) : ∀ (fuel : Nat) (listed : Array Bool) (st : SE E) (a : Act) (w : World), st.nx = N → AnyD ih all n0 N K q fuel listed st → Stands E W0 okb as m n0 all listed st a w → wpAny E.P .any all Q fuel listed a w := by
  have fin : ∀ {listed : Array Bool} {st : SE E} {a : Act} {w : World}, Fin' K q st → Stands E W0 okb as m n0 all listed st a w → Q .normal a w := by
    intro listed st a w hF hS2
    obtain ⟨s, h1, h2⟩ := hF
    obtain ⟨g1, μ, g2, _⟩ := hS2
    exact hQ s μ a w g1 (g2.eqv h1) h2
  intro fuel
  induction fuel with
  | zero => intro listed st a w hN hA hW; exact ⟨hA.1, fin hA.2 hW⟩
  | succ fuel ihf =>
    intro listed st a w hN hA hW
    refine ⟨fun hr => fin (hA.1 hr) hW, fun i hi => ?_⟩
    obtain ⟨o, st1, h1, h2, h3⟩ := hA.2 i hi
    exact tr_wp hG hS hGW hNN hW hN h1 (mem_ready.1 hi).1 (hdst i o h1) h2 fun a' w' hW' => ihf _ st1 a' w' (tr_nx hN h2) h3 hW'
/-- THE REGION. -/
theorem draw_sound (hG : Good E G) (hm : E.P.follows .mixedOrders = true) (hS : Sound E G ih) (hGW : GD G W0) {st : SE E} {μ : Nat → Option Value} {a : Act} {w : World} {id : Nat} {Q : Exit → Act → World → Prop} (H : RelM E.T E.P W0 okb μ st (a :: as) w) (hd : all.toList.all (dstOp a.tmps.size) = true) (hlex : lexD all all.toList 0 = true)
    (h : runD E ih all st.nx (st.nx + 64 * all.toList.length) all.toList 0 (setN st (st.nx + 64 * all.toList.length)) K = some q)
    (hQ : ∀ st' μ' a' w', a'.tmps.size = a.tmps.size → RelM E.T E.P W0 okb μ' st' (a' :: as) w' → K st' = some q → Q .normal a' w') : (Code.region id all true).wp E.P Q a w := by
  refine wp_region_any hm ?_
  have hNN : st.nx + 64 * all.toList.length = st.nx + 64 * all.size := by rw [Array.length_toList]
  have hdst : ∀ (i : Nat) (o : Oper), all[i]? = some o → dstOp a.tmps.size o = true := fun i o ho => List.all_eq_true.1 hd o (by
    have := Array.mem_of_getElem? ho; simpa using this)
  obtain ⟨H', _⟩ := H.grow (w' := w.drew) ⟨rfl, rfl, rfl, Nat.le_refl _, fun k _ _ => rfl⟩
  have hst : Stands E W0 okb as a.tmps.size st.nx all (Array.replicate all.size false) (setN st (st.nx + 64 * all.toList.length)) a w.drew := by
    refine ⟨rfl, μ, H'.nx (Nat.le_add_right _ _), fun i hi _ k c hc hk => ?_⟩
    have := (H.dom k c hc).1; omega
  refine any_wp hG hS hGW hNN hdst (fun s μ' a' w' h1 h2 h3 => hQ s μ' a' w' h1 h2 h3) all.size (Array.replicate all.size false) _ a w.drew rfl ?_ hst
  have := lex_any hG hS hGW hNN hdst all.toList 0 (Array.replicate all.size false) _ (fun j => by simp) (by simp) (by simp) (fun k hk => by simp [hk]) rfl ⟨a, w.drew, hst⟩ hlex h
  rwa [Array.length_toList] at this
end
end Go.Proofs.YtpbpebjfglfjfaaGreatDoor.X
