/-
  THE EXECUTOR IS SOUND.
-/
import Derived.Test.YtbcpnhnalhhfoaaGreatDoorXE
set_option autoImplicit false
set_option linter.unusedVariables false
set_option linter.unusedSimpArgs false
namespace Go.Proofs.YtbcpnhnalhhfoaaGreatDoor.X
open Go Go.RowKit
section
variable {E : Env} {G : World → Prop} {W0 w : World} {okb : Nat → Prop} {μ : Nat → Option Value} {st : SE E} {acts : List Act}
theorem loops_sub : ∀ (b c : Code), c ∈ loopsIn b → ∀ c' ∈ loopsIn c, c' ∈ loopsIn b := by
  intro b
  induction b with
  | seq x y ihx ihy =>
    intro c hc c' h'
    rcases List.mem_append.1 hc with hc | hc
    · exact List.mem_append_left _ (ihx c hc c' h')
    · exact List.mem_append_right _ (ihy c hc c' h')
  | cond v x y ihx ihy =>
    intro c hc c' h'
    rcases List.mem_append.1 hc with hc | hc
    · exact List.mem_append_left _ (ihx c hc c' h')
    · exact List.mem_append_right _ (ihy c hc c' h')
  | block id x ih => exact ih
  | scope x ih => exact ih
  | loop x ih =>
    intro c hc c' h'
    rcases List.mem_cons.1 hc with rfl | hc
    · exact List.mem_cons_of_mem _ h'
    · exact List.mem_cons_of_mem _ (ih c hc c' h')
  | _ => intro c hc; cases hc
theorem ex_sound (hG : Good E G) : ∀ n, Sound E G (ex E n) ∧ ∀ (W0 : World) (okb : Nat → Prop) (f : Nat) (c : Code) (st : SE E) (K : Xit → SE E → Option (Res E.T.A)) (q : Res E.T.A) (a : Act) (as : List Act) (w : World) (μ : Nat → Option Value) (Q : Exit → Act → World → Prop),
    G W0 → RelM E.T E.P W0 okb μ st (a :: as) w → dstIn a.tmps.size c = true → LIn E.body f (.loop c) → E.lp f (firstRegion c) = none → ex E n f (.loop c) st K = some q →
    (∀ x st' μ' a' w', x ≠ .norm → a'.tmps.size = a.tmps.size → RelM E.T E.P W0 okb μ' st' (a' :: as) w' → K x st' = some q → Q x.to a' w') → Code.rounds E.P c Q n a w
  | 0 => ⟨fun W0 okb f c st K q a as w μ Q _ _ _ _ h _ => (by cases h), fun W0 okb f c st K q a as w μ Q _ _ _ _ _ h _ => (by cases h)⟩
  | n + 1 => by
    obtain ⟨hS, hL⟩ := ex_sound hG n
    have loop : ∀ (W0 : World) (okb : Nat → Prop) (f : Nat) (c : Code) (st : SE E) (K : Xit → SE E → Option (Res E.T.A)) (q : Res E.T.A) (a : Act) (as : List Act) (w : World) (μ : Nat → Option Value) (Q : Exit → Act → World → Prop),
        G W0 → RelM E.T E.P W0 okb μ st (a :: as) w → dstIn a.tmps.size c = true → LIn E.body f (.loop c) → E.lp f (firstRegion c) = none → ex E (n + 1) f (.loop c) st K = some q →
        (∀ x st' μ' a' w', x ≠ .norm → a'.tmps.size = a.tmps.size → RelM E.T E.P W0 okb μ' st' (a' :: as) w' → K x st' = some q → Q x.to a' w') → Code.rounds E.P c Q (n + 1) a w := by
      intro W0 okb f c st K q a as w μ Q hGW H hd hI hlp h hQ
      have h : loopV E (ex E n) f c (headV E f c st) K = some q := h
      unfold loopV at h
      rw [hlp] at h
      have h : ex E n f c (headV E f c st) (contK E f c (fun s => ex E n f (.loop c) s K) K) = some q := h
      obtain ⟨μ1, H1⟩ := head_sound hG.hT H f c
      rw [rounds_succ]
      refine hS W0 okb f c _ _ q a as w μ1 _ hGW H1 hd (fun c' h' => hI c' (List.mem_cons_of_mem _ h')) h fun x st' μ' a' w' hsz H' hx => ?_
      cases x with
      | norm =>
        have hx : ex E n f (.loop c) (headV E f c st') K = some q := hx
        obtain ⟨μ2, H2⟩ := head_sound hG.hT H' f c
        exact hL W0 okb f c _ K q a' as w' μ2 Q hGW H2 (by rw [hsz]; exact hd) hI hlp hx fun x st2 μ2 a2 w2 h1 h2 h3 h4 => hQ x st2 μ2 a2 w2 h1 (h2.trans hsz) h3 h4
      | ex i =>
        obtain ⟨μ2, H2⟩ := exit_sound hG.hT H' f c
        exact hQ (.ex i) _ μ2 a' w' (by simp) hsz H2 hx
      | ret =>
        obtain ⟨μ2, H2⟩ := exit_sound hG.hT H' f c
        exact hQ .ret _ μ2 a' w' (by simp) hsz H2 hx
    refine ⟨fun W0 okb f c st K q a as w μ Q hGW H hd hI h hQ => ?_, loop⟩
    have h0 : ex E (n + 1) f c st K = some q := h
    have h : step E (ex E n) f c st K = some q := h
    cases c with
    | skip => exact wp_skip (hQ .norm st μ a w rfl H h)
    | label l => exact wp_label (hQ .norm st μ a w rfl H h)
    | region id ops d =>
      cases d with
      | true =>
        have h : (match lexD ops ops.toList 0 with | true => runD E (ex E n) ops st.nx (st.nx + 64 * ops.toList.length) ops.toList 0 (setN st (st.nx + 64 * ops.toList.length)) (K .norm) | false => none) = some q := h
        split at h
        · rename_i hlex
          exact draw_sound hG hG.mixed hS hGW H hd hlex h fun st' μ' a' w' hsz H' hK => hQ .norm st' μ' a' w' hsz H' hK
        · cases h
      | false => exact wp_region_list (runOps_sound hG hS hGW ops.toList st μ a w rfl H hd h fun st' μ' a' w' hsz H' hK => hQ .norm st' μ' a' w' hsz H' hK)
    | seq x y =>
      simp only [dstIn, Bool.and_eq_true] at hd
      refine wp_seq (hS W0 okb f x st _ q a as w μ _ hGW H hd.1 (fun c' h' => hI c' (List.mem_append_left _ h')) h fun e st' μ' a' w' hsz H' hx => ?_)
      cases e with
      | norm => exact hS W0 okb f y st' K q a' as w' μ' Q hGW H' (by rw [hsz]; exact hd.2) (fun c' h' => hI c' (List.mem_append_right _ h')) hx fun e st2 μ2 a2 w2 h2 h3 h4 => hQ e st2 μ2 a2 w2 (h2.trans hsz) h3 h4
      | ex i => exact hQ (.ex i) st' μ' a' w' hsz H' hx
      | ret => exact hQ .ret st' μ' a' w' hsz H' hx
    | cond x y z =>
      simp only [dstIn, Bool.and_eq_true] at hd
      have h : condV E (ex E n) f (st.ev x) x y z st K = some q := h
      unfold condV at h
      split at h
      · rename_i t hv
        have hr := ev_rep H x
        rw [hv] at hr
        refine wp_cond hr.bool_inv ?_
        split at h
        · rename_i ht
          subst ht
          rw [if_pos rfl]
          exact hS W0 okb f y _ K q a as w μ Q hGW (learn_sound H hr.bool_inv) hd.1 (fun c' h' => hI c' (List.mem_append_left _ h')) h hQ
        · rename_i ht
          have ht : t = false := by simpa using ht
          subst ht
          rw [if_neg (by simp)]
          exact hS W0 okb f z _ K q a as w μ Q hGW (learn_sound H hr.bool_inv) hd.2 (fun c' h' => hI c' (List.mem_append_right _ h')) h hQ
      · cases h
    | block id c =>
      refine wp_block (hS W0 okb f c st _ q a as w μ _ hGW H hd hI h fun e st' μ' a' w' hsz H' hx => ?_)
      cases e with
      | norm => exact hQ .norm st' μ' a' w' hsz H' hx
      | ex i =>
        have hx : (match Nat.beq i id with | true => K .norm st' | false => K (.ex i) st') = some q := hx
        show (if i = id then Q .normal a' w' else Q (.exit i) a' w')
        rw [beq_iff] at hx
        by_cases hi : i = id
        · rw [if_pos hi]
          simp only [hi, decide_true] at hx
          exact hQ .norm st' μ' a' w' hsz H' hx
        · rw [if_neg hi]
          simp only [hi, decide_false] at hx
          exact hQ (.ex i) st' μ' a' w' hsz H' hx
      | ret => exact hQ .ret st' μ' a' w' hsz H' hx
    | loop c =>
      cases hlp : E.lp f (firstRegion c) with
      | none => exact wp_loop_rounds (n + 1) (loop W0 okb f c st K q a as w μ Q hGW H hd hI hlp h0 fun x st' μ' a' w' _ h1 h2 h3 => hQ x st' μ' a' w' h1 h2 h3)
      | some g =>
        have h : loopV E (ex E n) f c (headV E f c st) K = some q := h
        unfold loopV at h
        rw [hlp] at h
        obtain ⟨μ1, H1⟩ := head_sound hG.hT H f c
        exact hG.lp f _ g hlp W0 okb c _ K q a as w μ1 Q rfl (hI c (List.mem_cons_self ..)) hGW H1 hd h hQ
    | exit id => exact wp_exit (hQ (.ex id) st μ a w rfl H h)
    | ret => exact wp_ret (hQ .ret st μ a w rfl H h)
    | _ => cases h
/-- a loop by its own text: a contract -/
theorem loop_ok (hG : Good E G) {f r : Nat} {c0 : Code} (hu : ∀ c, LoopOf E.body f c → firstRegion c = r → c = c0) {g : SE E → (Xit → SE E → Option (Res E.T.A)) → Option (Res E.T.A)} (hg : ∀ st K q, g st K = some q → ∃ n, ex E n f (.loop c0) st K = some q) : OkL E.T E.P E.body G f r g := by
  intro W0 okb c st K q a as w μ Q hr hlo hGW H hd h hQ
  obtain rfl := hu c hlo hr
  obtain ⟨n, hn⟩ := hg st K q h
  refine (ex_sound hG n).1 W0 okb f (.loop c) st K q a as w μ Q hGW H hd (fun c' h' => ?_) hn hQ
  rcases List.mem_cons.1 h' with rfl | h'
  · exact hlo
  · obtain ⟨fn, b, h1, h2, h3⟩ := hlo
    exact ⟨fn, b, h1, h2, loops_sub b c h3 c' h'⟩
/-- a function's own text, run from nothing: a contract -/
theorem body_ok (hG : Good E G) {f : Nat} {fn : Func} {c : Code} (hb : E.body f = some fn) (hc : fn.body = some c) (n : Nat) : OkC E.T E.P G f (isoV E (ex E n) f fn c) :=
  ⟨enters_body hG hb hc, fun w okb as cs r hGw hl h hok hr => iso_sound hG (ex_sound hG n).1 hb hc hGw hl h hok hr⟩
end
end Go.Proofs.YtbcpnhnalhhfoaaGreatDoor.X
