/-
  THE EXECUTOR IS SOUND.
-/
import Derived.Test.YtpbpebjfglfjfaaGreatDoorXE
set_option autoImplicit false
set_option linter.unusedVariables false
set_option linter.unusedSimpArgs false
namespace Go.Proofs.YtpbpebjfglfjfaaGreatDoor.X
open Go Go.RowKit
section
variable {E : Env} {G : World → Prop} {W0 : Wd} {w : World} {okb : Nat → Prop} {μ : Nat → Option Value} {st : SE E} {acts : List Act}
theorem loops_sub : ∀ (b c : Code), c ∈ loopsIn b → ∀ c' ∈ loopsIn c, c' ∈ loopsIn b := by
  intro b
  induction b with
  | seq x y ihx ihy =>
    intro c hc c' h'
    rcases List.mem_append.1 hc with hc | hc
    · exact List.mem_append_left _ (ihx c hc c' h')
    · exact List.mem_append_right _ (ihy c hc c' h')
  | cond v x y ihx ihy =>
    intro c hc c' h'
    rcases List.mem_append.1 hc with hc | hc
    · exact List.mem_append_left _ (ihx c hc c' h')
    · exact List.mem_append_right _ (ihy c hc c' h')
  | block id x ih => exact ih
  | scope x ih => exact ih
  | loop x ih =>
    intro c hc c' h'
    rcases List.mem_cons.1 hc with rfl | hc
    · exact List.mem_cons_of_mem _ h'
    · exact List.mem_cons_of_mem _ (ih c hc c' h')
  | _ => intro c hc; cases hc
theorem ex_sound (hG : Good E G) : ∀ n, Sound E G (ex E n) ∧ ∀ (W0 : Wd) (okb : Nat → Prop) (f : Nat) (c : Code) (st : SE E) (K : Xit → SE E → Option (Res E.T.A)) (q : Res E.T.A) (a : Act) (as : List Act) (w : World) (μ : Nat → Option Value) (Q : Exit → Act → World → Prop),
    GD G W0 → RelM E.T E.P W0 okb μ st (a :: as) w → dstIn a.tmps.size c = true → LIn E.body f (.loop c) → E.lp f (firstRegion c) = none → ex E n f (.loop c) st K = some q →
    (∀ x st' μ' a' w', x ≠ .norm → a'.tmps.size = a.tmps.size → RelM E.T E.P W0 okb μ' st' (a' :: as) w' → K x st' = some q → Q x.to a' w') → Code.rounds E.P c Q n a w
  | 0 => ⟨fun W0 okb f c st K q a as w μ Q _ _ _ _ h _ => (by cases h), fun W0 okb f c st K q a as w μ Q _ _ _ _ _ h _ => (by cases h)⟩
  | n + 1 => by
    obtain ⟨hS, hL⟩ := ex_sound hG n
    have loop : ∀ (W0 : Wd) (okb : Nat → Prop) (f : Nat) (c : Code) (st : SE E) (K : Xit → SE E → Option (Res E.T.A)) (q : Res E.T.A) (a : Act) (as : List Act) (w : World) (μ : Nat → Option Value) (Q : Exit → Act → World → Prop),
        GD G W0 → RelM E.T E.P W0 okb μ st (a :: as) w → dstIn a.tmps.size c = true → LIn E.body f (.loop c) → E.lp f (firstRegion c) = none → ex E (n + 1) f (.loop c) st K = some q →
        (∀ x st' μ' a' w', x ≠ .norm → a'.tmps.size = a.tmps.size → RelM E.T E.P W0 okb μ' st' (a' :: as) w' → K x st' = some q → Q x.to a' w') → Code.rounds E.P c Q (n + 1) a w := by
      intro W0 okb f c st K q a as w μ Q hGW H hd hI hlp h hQ
      have h : loopV E (ex E n) f c (headV E f c st) K = some q := h
      unfold loopV at h
      rw [hlp] at h
      have h : ex E n f c (headV E f c st) (contK E f c (fun s => ex E n f (.loop c) s K) K) = some q := h
      obtain ⟨μ1, H1⟩ := head_sound hG.hT H f c
      rw [rounds_succ]
      refine hS W0 okb f c _ _ q a as w μ1 _ hGW H1 hd (fun c' h' => hI c' (List.mem_cons_of_mem _ h')) h fun x st' μ' a' w' hsz H' hx => ?_
      cases x with
      | norm =>
        have hx : ex E n f (.loop c) (headV E f c st') K = some q := hx
        obtain ⟨μ2, H2⟩ := head_sound hG.hT H' f c
        exact hL W0 okb f c _ K q a' as w' μ2 Q hGW H2 (by rw [hsz]; exact hd) hI hlp hx fun x st2 μ2 a2 w2 h1 h2 h3 h4 => hQ x st2 μ2 a2 w2 h1 (h2.trans hsz) h3 h4
      | ex i =>
        obtain ⟨μ2, H2⟩ := exit_sound hG.hT H' f c
        exact hQ (.ex i) _ μ2 a' w' (by simp) hsz H2 hx
      | ret =>
        obtain ⟨μ2, H2⟩ := exit_sound hG.hT H' f c
        exact hQ .ret _ μ2 a' w' (by simp) hsz H2 hx
    refine ⟨fun W0 okb f c st K q a as w μ Q hGW H hd hI h hQ => ?_, loop⟩
    have h0 : ex E (n + 1) f c st K = some q := h
    have h : step E (ex E n) f c st K = some q := h
    cases c with
    | skip => exact wp_skip (hQ .norm st μ a w rfl H h)
    | label l => exact wp_label (hQ .norm st μ a w rfl H h)
    | region id ops d =>
      cases d with
      | true =>
        have h : (match lexD ops ops.toList 0 with | true => runD E (ex E n) ops st.nx (st.nx + 64 * ops.toList.length) ops.toList 0 (setN st (st.nx + 64 * ops.toList.length)) (K .norm) | false => none) = some q := h
        split at h
        · rename_i hlex
          exact draw_sound hG hG.mixed hS hGW H hd hlex h fun st' μ' a' w' hsz H' hK => hQ .norm st' μ' a' w' hsz H' hK
        · cases h
      | false => exact wp_region_list (runOps_sound hG hS hGW ops.toList st μ a w rfl H hd h fun st' μ' a' w' hsz H' hK => hQ .norm st' μ' a' w' hsz H' hK)
    | seq x y =>
      simp only [dstIn, Bool.and_eq_true] at hd
      refine wp_seq (hS W0 okb f x st _ q a as w μ _ hGW H hd.1 (fun c' h' => hI c' (List.mem_append_left _ h')) h fun e st' μ' a' w' hsz H' hx => ?_)
      cases e with
      | norm => exact hS W0 okb f y st' K q a' as w' μ' Q hGW H' (by rw [hsz]; exact hd.2) (fun c' h' => hI c' (List.mem_append_right _ h')) hx fun e st2 μ2 a2 w2 h2 h3 h4 => hQ e st2 μ2 a2 w2 (h2.trans hsz) h3 h4
      | ex i => exact hQ (.ex i) st' μ' a' w' hsz H' hx
      | ret => exact hQ .ret st' μ' a' w' hsz H' hx
    | cond x y z =>
      simp only [dstIn, Bool.and_eq_true] at hd
      have h : condV E (ex E n) f (st.ev x) x y z st K = some q := h
      unfold condV at h
      split at h
      · rename_i t hv
        have hr := ev_rep H x
        rw [hv] at hr
        refine wp_cond hr.bool_inv ?_
        split at h
        · rename_i ht
          subst ht
          rw [if_pos rfl]
          exact hS W0 okb f y _ K q a as w μ Q hGW (learn_sound H hr.bool_inv) hd.1 (fun c' h' => hI c' (List.mem_append_left _ h')) h hQ
        · rename_i ht
          have ht : t = false := by simpa using ht
          subst ht
          rw [if_neg (by simp)]
          exact hS W0 okb f z _ K q a as w μ Q hGW (learn_sound H hr.bool_inv) hd.2 (fun c' h' => hI c' (List.mem_append_right _ h')) h hQ
      · cases h
    | block id c =>
      refine wp_block (hS W0 okb f c st _ q a as w μ _ hGW H hd hI h fun e st' μ' a' w' hsz H' hx => ?_)
      cases e with
      | norm => exact hQ .norm st' μ' a' w' hsz H' hx
      | ex i =>
        have hx : (match Nat.beq i id with | true => K .norm st' | false => K (.ex i) st') = some q := hx
        show (if i = id then Q .normal a' w' else Q (.exit i) a' w')
        rw [beq_iff] at hx
        by_cases hi : i = id
        · rw [if_pos hi]
          simp only [hi, decide_true] at hx
          exact hQ .norm st' μ' a' w' hsz H' hx
        · rw [if_neg hi]
          simp only [hi, decide_false] at hx
          exact hQ (.ex i) st' μ' a' w' hsz H' hx
      | ret => exact hQ .ret st' μ' a' w' hsz H' hx
    | loop c =>
      cases hlp : E.lp f (firstRegion c) with
      | none => exact wp_loop_rounds (n + 1) (loop W0 okb f c st K q a as w μ Q hGW H hd hI hlp h0 fun x st' μ' a' w' _ h1 h2 h3 => hQ x st' μ' a' w' h1 h2 h3)
      | some g =>
        have h : loopV E (ex E n) f c (headV E f c st) K = some q := h
        unfold loopV at h
        rw [hlp] at h
        obtain ⟨μ1, H1⟩ := head_sound hG.hT H f c
        exact hG.lp f _ g hlp W0 okb c _ K q a as w μ1 Q rfl (hI c (List.mem_cons_self ..)) hGW H1 hd h hQ
    | exit id => exact wp_exit (hQ (.ex id) st μ a w rfl H h)
    | ret => exact wp_ret (hQ .ret st μ a w rfl H h)
    | _ => cases h
/-- a loop by its own text: a contract -/
theorem loop_ok (hG : Good E G) {f r : Nat} {c0 : Code} (hu : ∀ c, LoopOf E.body f c → firstRegion c = r → c = c0) {g : SE E → (Xit → SE E → Option (Res E.T.A)) → Option (Res E.T.A)} (hg : ∀ st K q, g st K = some q → ∃ n, ex E n f (.loop c0) st K = some q) : OkL E.T E.P E.body G f r g := by
  intro W0 okb c st K q a as w μ Q hr hlo hGW H hd h hQ
  obtain rfl := hu c hlo hr
  obtain ⟨n, hn⟩ := hg st K q h
  refine (ex_sound hG n).1 W0 okb f (.loop c) st K q a as w μ Q hGW H hd (fun c' h' => ?_) hn hQ
  rcases List.mem_cons.1 h' with rfl | h'
  · exact hlo
  · obtain ⟨fn, b, h1, h2, h3⟩ := hlo
    exact ⟨fn, b, h1, h2, loops_sub b c h3 c' h'⟩
/-- a function's own text, run from nothing: a contract -/
theorem body_ok (hG : Good E G) {f : Nat} {fn : Func} {c : Code} (hb : E.body f = some fn) (hc : fn.body = some c) (n : Nat) : OkC E.T E.P G f (isoV E (ex E n) f fn c) :=
  ⟨enters_body hG hb hc, fun w okb as cs r hGw hl h hok hr => iso_sound hG (ex_sound hG n).1 hb hc hGw hl h hok hr⟩
/-- a function that writes behind its arguments, by its own text -/
theorem okp_body (hG : Good E G) {f : Nat} {fn : Func} {c : Code} (hb : E.body f = some fn) (hc : fn.body = some c) (n : Nat) : OkP E.T E.P G f fun s => pV E (ex E n) f fn c s := by
  refine ⟨enters_body hG hb hc, fun W0 okb μ args hp nx cs w r hGD H hl hargs hr => ?_⟩
  unfold pV at hr
  dsimp only at hr
  split at hr
  case h_2 => cases hr
  rename_i hk hn
  replace hn : hp.length = nx := Nat.eq_of_beq_eq_true hn
  replace hk : keysB hp 0 = true := hk
  obtain ⟨h1, h2, h3⟩ := hG.body f fn hb
  refine calls_of_wp h1 hc ?_
  let anc : Act := { tmps := (Array.range nx).map fun t => (μ t).getD undef, defers := [] }
  have hanc : ∀ t c, t < nx → μ t = some c → anc.tmps.getD t undef = c := fun t c ht hc => by
    show ((Array.range nx).map fun t => (μ t).getD undef).getD t undef = c
    rw [Array.getD_eq_getD_getElem?]
    simp [ht, hc]
  have hrel : RelM E.T E.P W0 okb μ { env := bindArgs args 0, stk := [ancEnv hp], hp := hp, nx := nx } ({ tmps := cs ++ Array.replicate (fn.ntmps - cs.size) undef, defers := [] } :: [anc]) w := by
    refine ⟨H.below, H.dom, H.blk, H.inj, And.intro (frame_bind hl hargs) (And.intro ⟨rfl, fun t v hv => ?_⟩ trivial)⟩
    obtain ⟨b, hb1, rfl⟩ := look_anc hp t v hv
    have hB := H.blk t b hb1
    obtain ⟨d, hd⟩ := hB.mu
    rw [hanc t d (H.dom t d hd).1 hd]
    cases hB with
    | var l z b cs e hm hB hh hl h => rw [hm] at hd; obtain rfl := Option.some.inj hd; exact .ptr t 0 b hm
    | row e l z c cs hk hm ho h => exact .own t d hd
    | map l z r es n hm hB hh hl h => exact .mapr t d hd
  refine (ex_sound hG n).1 W0 okb f c _ _ r _ [anc] w μ _ hGD hrel (dstIn_mono (entry fn cs) c (h3 c hc)) (fun c' h' => ⟨fn, c, hb, hc, h'⟩) hr fun x st' μ' a' w' hsz Hr hx => ?_
  have fin : pEnd E fn nx st' = some r → a'.defers = [] ∧ ∃ v, (results fn a'.tmps).run E.P w' = .ok v w' ∧ RetP E.T E.P W0 okb nx μ r (.returned v) w' := by
    intro he
    unfold pEnd at he
    split at he
    · rename_i l an hres hstk
      split at he
      · rename_i hk2 hn2
        replace hn2 := Nat.eq_of_beq_eq_true hn2
        obtain ⟨v, h4, h5⟩ := results_sound hG.hT Hr hres
        refine ⟨Hr.fr.1.1, v, h4, v, ?_⟩
        obtain rfl := Option.some.inj he
        generalize hord : pOrd st' an (resV l) = ord
        obtain ⟨H1, H2⟩ := ren_heap hG.hT Hr ord (es := [[]]) (as := [act0]) (env := []) (stk := []) rfl (And.intro ⟨rfl, fun t v hv => by simp [look] at hv⟩ trivial)
        refine ⟨_, _, rfl, H1, ?_, fun t b ht hb => ?_⟩
        · exact (Rep.ren hG.hT _ (numbered_ext _) 3 _ v h5).mono (fun b hb => ⟨H2 b hb, rfl⟩) (fun _ _ h => h)
        · obtain ⟨i, b0, g1, g2, _⟩ := renHp_spec _ _ _ _ _ hb
          have g3 := posN_spec ord i t g2
          have hfr := Hr.fr.2
          rw [hstk] at hfr
          have hlt : t < an.length := by omega
          obtain ⟨k1, k2⟩ := keysB_spec an 0 hk2 t _ (List.getElem?_eq_getElem hlt)
          rw [Nat.zero_add] at k1
          have k3 := hfr.1.2 an[t].1 an[t].2 k2
          rw [k1] at k3
          have g4 : i = aidV st'.nx an[t].2 := by
            rw [← hord] at g3
            unfold pOrd at g3
            rw [List.getElem?_append_left (by simpa using hlt), List.getElem?_map, List.getElem?_eq_getElem hlt] at g3
            exact (Option.some.inj g3).symm
          have hlt2 : t < hp.length := by omega
          obtain ⟨k4, k5⟩ := keysB_spec hp 0 hk t _ (List.getElem?_eq_getElem hlt2)
          rw [Nat.zero_add] at k4
          rw [k4] at k5
          have hB := H.blk t _ k5
          generalize hp[t].2 = bk at hB
          obtain ⟨d, hd⟩ := hB.mu
          rw [hanc t d ht hd] at k3
          have e1 : numbered μ' ord t = μ' i := by unfold numbered; rw [g3]
          rw [e1, hd]
          obtain ⟨d2, hd2⟩ := (Hr.blk i b0 g1).mu
          generalize hv : an[t].2 = u at *
          cases u with
          | ptr j o =>
            replace g4 : i = j := g4
            rw [g4]
            cases k3 with | ptr _ _ b' hm =>
            rw [hm]
            cases hB with
            | var l z b2 cs e hm2 hB hh hl h =>
              rw [hm2] at hd
              simp only [Option.some.injEq, Value.pointer.injEq, Addr.mk.injEq] at hd
              obtain ⟨_, h2, _⟩ := hd
              subst h2
              rfl
            | row e l z c cs hk hm2 ho h =>
              rw [hm2] at hd
              obtain rfl := Option.some.inj hd
              rcases ho.2 with ⟨h1, _⟩ | ⟨_, _, _, _, h1, _⟩ <;> cases h1
            | map l z r es n hm2 hB hh hl h => rw [hm2] at hd; cases hd
          | own j => replace g4 : i = j := g4; rw [g4]; cases k3 with | own _ _ hm => exact hm
          | mapr j => replace g4 : i = j := g4; rw [g4]; cases k3 with | mapr _ _ hm => exact hm
          | _ => have := (Hr.dom i d2 hd2).1; have g4 : i = st'.nx := g4; omega
      · cases he
    · cases he
  cases x with
  | norm => exact fin hx
  | ret => exact fin hx
  | ex i => cases hx
end
end Go.Proofs.YtpbpebjfglfjfaaGreatDoor.X
