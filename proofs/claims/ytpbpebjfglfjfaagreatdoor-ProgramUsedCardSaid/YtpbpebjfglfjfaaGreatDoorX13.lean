/-
  SOUNDNESS of Code: whatever the executor yields, the program does.
-/
import Derived.Test.YtpbpebjfglfjfaaGreatDoorXA
set_option autoImplicit false
set_option linter.unusedVariables false
set_option linter.unusedSimpArgs false
namespace Go.Proofs.YtpbpebjfglfjfaaGreatDoor.X
open Go Go.RowKit
/-- every place that is written lies in the frame -/
def dstOp (n : Nat) (o : Oper) : Bool := match o.dst with | some d => Nat.blt d n | none => true
def dstIn (n : Nat) : Code → Bool
  | .region _ ops _ => ops.toList.all (dstOp n)
  | .seq a b => dstIn n a && dstIn n b
  | .cond _ a b => dstIn n a && dstIn n b
  | .block _ c => dstIn n c
  | .loop c => dstIn n c
  | .scope c => dstIn n c
  | _ => true
def Xit.to : Xit → Exit
  | .norm => .normal
  | .ex i => .exit i
  | .ret => .ret
def LoopOf (body : Nat → Option Func) (f : Nat) (c : Code) : Prop := ∃ fn b, body f = some fn ∧ fn.body = some b ∧ c ∈ loopsIn b
def LIn (body : Nat → Option Func) (f : Nat) (c : Code) : Prop := ∀ c' ∈ loopsIn c, LoopOf body f c'
/-- A CONTRACT OF A LOOP. -/
def OkL (T : Tab) (P : Program) (body : Nat → Option Func) (G : World → Prop) (f r : Nat) (g : St T.A → (Xit → St T.A → Option (Res T.A)) → Option (Res T.A)) : Prop :=
  ∀ (W0 : Wd) (okb : Nat → Prop) (c : Code) (st : St T.A) (K : Xit → St T.A → Option (Res T.A)) (q : Res T.A) (a : Act) (as : List Act) (w : World) (μ : Nat → Option Value) (Q : Exit → Act → World → Prop),
    firstRegion c = r → LoopOf body f c → GD G W0 → RelM T P W0 okb μ st (a :: as) w → dstIn a.tmps.size c = true → g st K = some q →
    (∀ x st' μ' a' w', a'.tmps.size = a.tmps.size → RelM T P W0 okb μ' st' (a' :: as) w' → K x st' = some q → Q x.to a' w') → (Code.loop c).wp P Q a w
structure Good (E : Env) (G : World → Prop) : Prop where
  hT : E.T.Ok E.P
  mixed : E.P.follows .mixedOrders = true
  stable : ∀ w w', G w → Below w.heap.size w w' → G w'
  con : ∀ f g, E.con f = some g → OkC E.T E.P G f fun l => conO (g l)
  lp : ∀ f r g, E.lp f r = some g → OkL E.T E.P E.body G f r g
  pcon : ∀ f g, E.pcon f = some g → OkP E.T E.P G f fun s => conO (g s)
  body : ∀ f fn, E.body f = some fn → E.P.funcs[f]? = some fn ∧ (fn.name == "runtime.NumGoroutine") = false ∧ ∀ c, fn.body = some c → dstIn fn.ntmps c = true
def Sound (E : Env) (G : World → Prop) (ih : Rec E) : Prop := ∀ (W0 : Wd) (okb : Nat → Prop) (f : Nat) (c : Code) (st : SE E) (K : Xit → SE E → Option (Res E.T.A)) (q : Res E.T.A) (a : Act) (as : List Act) (w : World) (μ : Nat → Option Value) (Q : Exit → Act → World → Prop),
  GD G W0 → RelM E.T E.P W0 okb μ st (a :: as) w → dstIn a.tmps.size c = true → LIn E.body f c → ih f c st K = some q →
  (∀ x st' μ' a' w', a'.tmps.size = a.tmps.size → RelM E.T E.P W0 okb μ' st' (a' :: as) w' → K x st' = some q → Q x.to a' w') → c.wp E.P Q a w
section
variable {E : Env} {G : World → Prop} {W0 : Wd} {w : World} {okb : Nat → Prop} {μ : Nat → Option Value} {st : SE E} {acts : List Act}
theorem put_size (a : Act) (d : Option Nat) (c : Value) : (a.put d c).tmps.size = a.tmps.size := by cases d <;> simp [Act.put]
theorem RelM.put {a : Act} {as : List Act} (H : RelM E.T E.P W0 okb μ st (a :: as) w) {v : VE E} {c : Value} (hv : REP E st μ W0 okb w v c) {d : Option Nat} (hd : ∀ x, d = some x → x < a.tmps.size) : RelM E.T E.P W0 okb μ (st.put d v) (a.put d c :: as) w := by
  cases d with
  | none => exact H
  | some d =>
    have hlt := hd d rfl
    refine ⟨H.below, H.dom, H.blk, H.inj, ⟨H.fr.1.1, fun t u hu => ?_⟩, H.fr.2⟩
    replace hu : look ((d, v) :: st.env) t = some u := hu
    show REP E st μ W0 okb w u ((a.put (some d) c).tmps.getD t undef)
    rw [look_cons] at hu
    split at hu
    · rename_i e
      dsimp only at e
      subst e
      obtain rfl := Option.some.inj hu
      simpa [Act.put, hlt] using hv
    · rename_i e
      have := H.fr.1.2 t u hu
      have e2 : d ≠ t := fun h => e h
      simpa [Act.put, Array.getElem?_setIfInBounds_ne e2] using this
/-- what is known of a truth -/
theorem RelM.known {a : Act} {as : List Act} (H : RelM E.T E.P W0 okb μ st (a :: as) w) {d : Nat} {b : Bool} (h : a.tmps.getD d undef = .bool b) : RelM E.T E.P W0 okb μ (st.put (some d) (.bool b)) (a :: as) w :=
  H.setEnv fun t u hu => by
    replace hu : look ((d, V.bool b) :: st.env) t = some u := hu
    rw [look_cons] at hu
    split at hu
    · rename_i e
      dsimp only at e
      subst e
      obtain rfl := Option.some.inj hu
      rw [h]; exact .bool b
    · exact H.fr.1.2 t u hu
theorem learn_sound {a : Act} {as : List Act} (H : RelM E.T E.P W0 okb μ st (a :: as) w) {x : Operand} {b : Bool} (h : a.eval x = .bool b) : RelM E.T E.P W0 okb μ (learn st x b) (a :: as) w := by
  cases x with
  | tmp t => exact H.known h
  | _ => exact H
theorem bind_look : ∀ (as : List (VE E)) (n t : Nat) (v : VE E), look (bindArgs as n) t = some v → ∃ k, t = n + k ∧ as[k]? = some v
  | [], n, t, v, h => by cases h
  | x :: as, n, t, v, h => by
    have h : look ((n, x) :: bindArgs as (n + 1)) t = some v := h
    rw [look_cons] at h
    split at h
    · rename_i e; exact ⟨0, e.symm, h⟩
    · obtain ⟨k, h1, h2⟩ := bind_look as (n + 1) t v h
      exact ⟨k + 1, by omega, h2⟩
/-! results -/
def resSem (tmps : Array Value) (r : ResultVar) : Sem Value := match r with
  | .tmp t => pure (tmps.getD t undef)
  | .cell p t => do loadVar t (← asAddr (tmps.getD p undef))
theorem results_eq (fn : Func) (tmps : Array Value) : results fn tmps = (do let vs ← fn.results.mapM (resSem tmps); pure (if h : vs.size = 1 then vs[0] else .tuple vs)) := by
  unfold results
  congr 1
theorem res1_sound (hT : E.T.Ok E.P) {a : Act} {as : List Act} (H : RelM E.T E.P W0 okb μ st (a :: as) w) {r : ResultVar} {v : VE E} (h : res1 E st r = some v) :
    ∃ c, (resSem a.tmps r).run E.P w = .ok c w ∧ REP E st μ W0 okb w v c := by
  cases r with
  | tmp t => obtain rfl := Option.some.inj h; exact ⟨_, rfl, ev_rep H (.tmp t)⟩
  | cell p t =>
    have hp := ev_rep H (.tmp p)
    obtain ⟨v', h1, c, h2, h3⟩ := run_loadV H hT hp h
    obtain rfl := Option.some.inj h1
    refine ⟨c, ?_, h3⟩
    have he : a.eval (.tmp p) = a.tmps.getD p undef := rfl
    rw [he] at h2
    unfold resSem
    dsimp only
    cases hc : a.tmps.getD p undef with
    | pointer x =>
      cases x with
      | none => rw [hc] at h2; simp [Instr.loadAt, Instr.sureAddr] at h2
      | some x => rw [hc] at h2; simpa [Instr.loadAt, Instr.sureAddr, asAddr] using h2
    | _ => rw [hc] at h2; simp [Instr.loadAt, Instr.sureAddr] at h2
theorem mapM_sound (hT : E.T.Ok E.P) {a : Act} {as : List Act} (H : RelM E.T E.P W0 okb μ st (a :: as) w) : ∀ (rs : List ResultVar) (l : List (VE E)), mapO (res1 E st) rs = some l →
    ∃ cs : List Value, (rs.mapM (resSem a.tmps)).run E.P w = .ok cs w ∧ cs.length = l.length ∧ ∀ i v, l[i]? = some v → REP E st μ W0 okb w v (cs.getD i undef)
  | [], l, h => by obtain rfl := Option.some.inj h; exact ⟨[], rfl, rfl, fun i v hv => by cases hv⟩
  | r :: rs, l, h => by
    have h : cons2 (res1 E st r) (mapO (res1 E st) rs) = some l := h
    unfold cons2 at h
    split at h
    · rename_i y z hy hz
      obtain rfl := Option.some.inj h
      obtain ⟨c, h1, h2⟩ := res1_sound hT H hy
      obtain ⟨cs, h3, h4, h5⟩ := mapM_sound hT H rs z hz
      refine ⟨c :: cs, ?_, by simp [h4], fun i v hv => ?_⟩
      · rw [List.mapM_cons, Sem.run_bind, h1, Result.andThen_ok, Sem.run_bind, h3]; rfl
      · cases i with
        | zero => obtain rfl := Option.some.inj hv; exact h2
        | succ i => exact h5 i v hv
    · cases h
theorem results_sound (hT : E.T.Ok E.P) {a : Act} {as : List Act} (H : RelM E.T E.P W0 okb μ st (a :: as) w) {fn : Func} {l : List (VE E)} (h : resultsV E st fn.results.toList = some l) :
    ∃ c, (results fn a.tmps).run E.P w = .ok c w ∧ REP E st μ W0 okb w (resV l) c := by
  obtain ⟨cs, h1, h2, h3⟩ := mapM_sound hT H _ l h
  have hrun : (results fn a.tmps).run E.P w = .ok (if h : cs.toArray.size = 1 then cs.toArray[0] else .tuple cs.toArray) w := by
    rw [results_eq, Sem.run_bind, Array.mapM_eq_mapM_toList, Sem.run_map, h1]
    rfl
  refine ⟨_, hrun, ?_⟩
  cases l with
  | nil =>
    obtain rfl := List.eq_nil_of_length_eq_zero h2
    exact .tup [] #[] rfl fun i v hv => by cases hv
  | cons x l =>
    cases l with
    | nil =>
      cases cs with
      | nil => cases h2
      | cons c cs =>
        obtain rfl : cs = [] := List.eq_nil_of_length_eq_zero (by simpa using h2)
        exact h3 0 x rfl
    | cons y l =>
      have h4 : ¬ cs.toArray.size = 1 := by simp [h2]
      rw [dif_neg h4]
      exact .tup _ _ (by simp [h2]) fun i v hv => by
        have := h3 i v hv
        simpa [List.getD_eq_getElem?_getD, Array.getD_eq_getD_getElem?] using this
/-! calls -/
theorem entry (fn : Func) (cs : Array Value) : ({ tmps := cs ++ Array.replicate (fn.ntmps - cs.size) undef, defers := [] } : Act).tmps.size ≥ fn.ntmps := by
  simp; omega
theorem dstOp_mono {n m : Nat} (h : n ≤ m) (o : Oper) (hd : dstOp n o = true) : dstOp m o = true := by
  unfold dstOp at hd ⊢
  split at hd
  · have := Nat.le_of_ble_eq_true hd
    exact Nat.ble_eq_true_of_le (by omega)
  · rfl
theorem dstIn_mono {n m : Nat} (h : n ≤ m) : ∀ (c : Code), dstIn n c = true → dstIn m c = true := by
  intro c
  induction c with
  | region id ops d =>
    intro hd
    simp only [dstIn, List.all_eq_true] at hd ⊢
    exact fun o ho => dstOp_mono h o (hd o ho)
  | seq a b iha ihb => intro hd; simp only [dstIn, Bool.and_eq_true] at hd ⊢; exact ⟨iha hd.1, ihb hd.2⟩
  | cond x a b iha ihb => intro hd; simp only [dstIn, Bool.and_eq_true] at hd ⊢; exact ⟨iha hd.1, ihb hd.2⟩
  | block id c ih => intro hd; exact ih hd
  | loop c ih => intro hd; exact ih hd
  | scope c ih => intro hd; exact ih hd
  | _ => intro _; rfl
theorem enters_body {f : Nat} {fn : Func} (hG : Good E G) (hb : E.body f = some fn) {c : Code} (hc : fn.body = some c) : Enters E.P f := by
  obtain ⟨h1, h2, _⟩ := hG.body f fn hb
  exact ⟨fn, h1, h2, by rw [hc]; rfl⟩
theorem frame_bind {as : List (VE E)} {cs : Array Value} {μ : Nat → Option Value} {ok : Nat → Prop} {n : Nat} (hl : cs.size = as.length) (h : ∀ i v, as[i]? = some v → Rep E.T E.P w μ ok v (cs.getD i undef)) :
    EnvRel E.T E.P w μ ok (bindArgs as 0) { tmps := cs ++ Array.replicate n undef, defers := [] } := by
  refine ⟨rfl, fun t v hv => ?_⟩
  obtain ⟨k, h1, h2⟩ := bind_look as 0 t v hv
  rw [Nat.zero_add] at h1
  subst h1
  have hk : t < cs.size := by rw [hl]; exact (List.getElem?_eq_some_iff.1 h2).1
  have := h t v h2
  rw [Array.getD_eq_getD_getElem?] at this ⊢
  rw [Array.getElem?_append_left hk]
  exact this
/-- a function by its own text, from nothing -/
theorem iso_sound (hG : Good E G) {ih : Rec E} (hS : Sound E G ih) {f : Nat} {fn : Func} {c : Code} (hb : E.body f = some fn) (hc : fn.body = some c) {as : List (VE E)} {cs : Array Value} {okb : Nat → Prop} {r : Res E.T.A} (hGw : G w) (hl : cs.size = as.length) (h : ∀ i v, as[i]? = some v → Rep E.T E.P w (fun _ => none) okb v (cs.getD i undef)) (hok : ∀ b, okb b → b < w.heap.size) (hr : isoV E ih f fn c as = some r) :
    Calls E.P f cs w (RetRel E.T E.P w okb r) := by
  obtain ⟨h1, h2, h3⟩ := hG.body f fn hb
  refine calls_of_wp h1 hc ?_
  have hrel : RelM E.T E.P (.of w) okb (fun _ => none) { env := bindArgs as 0, stk := [], hp := [], nx := 0 } ({ tmps := cs ++ Array.replicate (fn.ntmps - cs.size) undef, defers := [] } :: []) w := by
    refine ⟨BelowW.to (Below.refl _ _), fun i c h => by simp at h, fun i b h => by simp [look] at h, fun i j b b' c d k h => by simp [look] at h, And.intro ?_ trivial⟩
    refine frame_bind hl fun i v hv => (h i v hv).mono (fun b hb => ⟨⟨hok b hb, .inr hb, fun i blk c h => by simp [look] at h⟩, rfl⟩) (fun _ _ h => h)
  refine hS (.of w) okb f c _ _ r _ [] w _ _ (.of hGw) hrel (dstIn_mono (entry fn cs) c (h3 c hc)) (fun c' h' => ⟨fn, c, hb, hc, h'⟩) hr fun x st' μ' a' w' hsz Hr hx => ?_
  have fin : isoEnd E fn st' = some r → a'.defers = [] ∧ ∃ v, (results fn a'.tmps).run E.P w' = .ok v w' ∧ RetRel E.T E.P w okb r (.returned v) w' := by
    intro he
    unfold isoEnd at he
    split at he
    · rename_i l hres
      obtain ⟨v, h4, h5⟩ := results_sound hG.hT Hr hres
      refine ⟨Hr.fr.1.1, v, h4, v, ?_⟩
      obtain rfl := Option.some.inj he
      obtain ⟨H1, H2⟩ := ren_heap hG.hT Hr (reach st'.hp 4096 ((resV l).ids 3) []) (es := [[]]) (as := [act0]) (env := []) (stk := []) rfl (And.intro ⟨rfl, fun t v hv => by simp [look] at hv⟩ trivial)
      refine ⟨_, _, rfl, H1, ?_⟩
      exact (Rep.ren hG.hT _ (numbered_ext _) 3 _ v h5).mono (fun b hb => ⟨H2 b hb, rfl⟩) (fun _ _ h => h)
    · cases he
  cases x with
  | norm => exact fin hx
  | ret => exact fin hx
  | ex i => cases hx
theorem shut_args (hT : E.T.Ok E.P) (H : RelM E.T E.P W0 okb μ st acts w) {args as : List (VE E)} {cs : Array Value} (hs : shutL st.hp args = some as) (h : ∀ i v, args[i]? = some v → REP E st μ W0 okb w v (cs.getD i undef)) :
    as.length = args.length ∧ ∀ i v, as[i]? = some v → Rep E.T E.P w (fun _ => none) (okM (freeze st.hp (args.flatMap (V.ids 2))) μ W0 okb w) v (cs.getD i undef) := by
  obtain ⟨h1, h2⟩ := shutL_spec hs
  refine ⟨h1, fun i v hv => ?_⟩
  have hi : i < args.length := by rw [← h1]; exact (List.getElem?_eq_some_iff.1 hv).1
  obtain ⟨u, h3, h4⟩ := h2 i _ (List.getElem?_eq_getElem hi)
  rw [hv] at h3
  obtain rfl := Option.some.inj h3
  exact (shut_frozen H (args.flatMap (V.ids 2)) 2 _ v _ h4 (h i _ (List.getElem?_eq_getElem hi)) fun k hk => List.mem_flatMap.2 ⟨_, List.getElem_mem hi, hk⟩).pure hT 3 (shut_pure 2 _ _ h4)
/-- arguments -/
theorem shutA1_cases {A : Nat → Type} (hp : List (Nat × Blk A)) (f : V A → Option (V A)) (g : V A → List Nat) (v : V A) : (∃ i o, v = .ptr i o) ∨ (∃ k caps, v = .fn k caps) ∨ (∃ cs, v = .rel cs) ∨ (shutA1 hp f v = shut hp 2 v ∧ idsA1 hp g v = V.ids 2 v) := by
  cases v with
  | ptr i o => exact .inl ⟨i, o, rfl⟩
  | fn k caps => exact .inr (.inl ⟨k, caps, rfl⟩)
  | rel cs => exact .inr (.inr (.inl ⟨cs, rfl⟩))
  | _ => exact .inr (.inr (.inr ⟨rfl, rfl⟩))
theorem shutAN_succ {A : Nat → Type} (hp : List (Nat × Blk A)) (n : Nat) (v : V A) : shutAN hp (n + 1) v = shutA1 hp (shutAN hp n) v := rfl
theorem idsAN_succ {A : Nat → Type} (hp : List (Nat × Blk A)) (n : Nat) (v : V A) : idsAN hp (n + 1) v = idsA1 hp (idsAN hp n) v := rfl
theorem shutAN_rep (hT : E.T.Ok E.P) (H : RelM E.T E.P W0 okb μ st acts w) (ids : List Nat) : ∀ (n : Nat) {v u : VE E} {c : Value}, shutAN st.hp n v = some u → REP E st μ W0 okb w v c → (∀ i ∈ idsAN st.hp n v, i ∈ ids) → Rep E.T E.P w (fun _ => none) (okM (freeze st.hp ids) μ W0 okb w) u c
  | 0, v, u, c, hs, _, _ => by cases hs
  | n + 1, v, u, c, hs, hv, hids => by
    have keep : shut st.hp 2 v = some u → (∀ i ∈ V.ids 2 v, i ∈ ids) → Rep E.T E.P w (fun _ => none) (okM (freeze st.hp ids) μ W0 okb w) u c := fun h hi =>
      (shut_frozen H ids 2 _ u _ h hv hi).pure hT 3 (shut_pure 2 _ _ h)
    rw [shutAN_succ] at hs
    rw [idsAN_succ] at hids
    rcases shutA1_cases st.hp (shutAN st.hp n) (idsAN st.hp n) v with ⟨i, o, rfl⟩ | ⟨f, caps, rfl⟩ | ⟨cs, rfl⟩ | ⟨e1, e2⟩
    · have hs : shutPtr (shutAN st.hp n) o (look st.hp i) = some u := hs
      unfold shutPtr at hs
      split at hs
      · rename_i l z hb
        split at hs
        · rename_i cs hcs
          obtain rfl := Option.some.inj hs
          obtain ⟨hlen, hall⟩ := mapO_spec l cs hcs
          cases hv with | ptr _ _ b hm =>
          have hids' : ∀ k ∈ i :: (cellsOf (look st.hp i)).flatMap (idsAN st.hp n), k ∈ ids := hids
          rw [hb] at hids'
          have hok : okM (freeze st.hp ids) μ W0 okb w b := okM_frozen H i (List.mem_filter.2 ⟨hids' i (by simp), by rw [hb]; rfl⟩) _ b hm rfl
          cases H.blk i _ hb with | var _ _ b' arr e hm' hB hh hl h =>
          rw [hm] at hm'
          simp only [Option.some.injEq, Value.pointer.injEq, Addr.mk.injEq, and_true] at hm'
          subst hm'
          rw [dropN_eq]
          refine .rel _ b o (fun j => arr.getD (o + j) undef) hok (fun j hj => ?_) fun j v hv => ?_
          · rw [List.length_drop] at hj
            rw [cell_of_row w b (o + j) arr e (0, 0) hh]
            have hq : o + j < arr.size := by omega
            simp [hq]
          · rw [List.getElem?_drop] at hv
            have hq : o + j < l.length := by rw [← hlen]; exact (List.getElem?_eq_some_iff.1 hv).1
            obtain ⟨u', h3, h4⟩ := hall (o + j) _ (List.getElem?_eq_getElem hq)
            rw [hv] at h3
            obtain rfl := Option.some.inj h3
            exact shutAN_rep hT H ids n h4 (h (o + j) _ (List.getElem?_eq_getElem hq)) fun k hk => hids' k (List.mem_cons_of_mem _ (List.mem_flatMap.2 ⟨_, List.getElem_mem hq, hk⟩))
        · cases hs
      · cases hs
    · have hs : shutAF f (mapO (shutAN st.hp n) caps) = some u := hs
      have hids : ∀ i ∈ caps.flatMap (idsAN st.hp n), i ∈ ids := hids
      unfold shutAF at hs
      split at hs
      · rename_i l hl
        obtain rfl := Option.some.inj hs
        obtain ⟨hlen, hall⟩ := mapO_spec caps l hl
        cases hv with | fn _ _ cc hcl hcr =>
        refine .fn f l cc (by rw [hcl, hlen]) fun j v hv => ?_
        have hq : j < caps.length := by rw [← hlen]; exact (List.getElem?_eq_some_iff.1 hv).1
        obtain ⟨u', h3, h4⟩ := hall j _ (List.getElem?_eq_getElem hq)
        rw [hv] at h3
        obtain rfl := Option.some.inj h3
        exact shutAN_rep hT H ids n h4 (hcr j _ (List.getElem?_eq_getElem hq)) fun k hk => hids k (List.mem_flatMap.2 ⟨_, List.getElem_mem hq, hk⟩)
      · cases hs
    · have hs : shutRel cs = some u := hs
      unfold shutRel at hs
      split at hs
      · rename_i hp
        obtain rfl := Option.some.inj hs
        cases hv with | rel _ b o cf hb hc hr =>
        exact .rel cs b o cf ((H.freeze ids).2 b hb) hc fun i v hv => ((hr i v hv).pure hT 4 (List.all_eq_true.1 hp v (List.mem_of_getElem? hv))).mono (fun b hb => ⟨(H.freeze ids).2 b hb, rfl⟩) (fun _ _ h => h)
      · cases hs
    · rw [e1] at hs
      rw [e2] at hids
      exact keep hs hids
theorem shutA_rep (hT : E.T.Ok E.P) (H : RelM E.T E.P W0 okb μ st acts w) (ids : List Nat) {v u : VE E} {c : Value} (hs : shutA st.hp v = some u) (hv : REP E st μ W0 okb w v c) (hids : ∀ i ∈ idsA st.hp v, i ∈ ids) : Rep E.T E.P w (fun _ => none) (okM (freeze st.hp ids) μ W0 okb w) u c :=
  shutAN_rep hT H ids 6 hs hv hids
theorem shutA_args (hT : E.T.Ok E.P) (H : RelM E.T E.P W0 okb μ st acts w) {args : List (VE E)} {cs : Array Value} {as : List (VE E)} (hs : shutAL st.hp args = some as) (h : ∀ i v, args[i]? = some v → REP E st μ W0 okb w v (cs.getD i undef)) :
    as.length = args.length ∧ ∀ i v, as[i]? = some v → Rep E.T E.P w (fun _ => none) (okM (freeze st.hp (frA st.hp args)) μ W0 okb w) v (cs.getD i undef) := by
  obtain ⟨h1, h2⟩ := mapO_spec args as hs
  refine ⟨h1, fun i v hv => ?_⟩
  have hi : i < args.length := by rw [← h1]; exact (List.getElem?_eq_some_iff.1 hv).1
  obtain ⟨u, h3, h4⟩ := h2 i _ (List.getElem?_eq_getElem hi)
  rw [hv] at h3
  obtain rfl := Option.some.inj h3
  exact shutA_rep hT H _ h4 (h i _ (List.getElem?_eq_getElem hi)) fun k hk => List.mem_flatMap.2 ⟨_, List.getElem_mem hi, hk⟩
theorem side_max {μ μ' : Nat → Option Value} {n n1 : Nat} (h : Side μ μ' n n n1) : Nat.max n n1 = n1 := Nat.max_eq_right (by rcases h.1 with h | h <;> omega)
theorem absorb_next (hT : E.T.Ok E.P) {a : Act} {as : List Act} (H : RelM E.T E.P W0 okb μ st (a :: as) w) {fr : List Nat} {r q : Res E.T.A} {K : VE E → SE E → Option (Res E.T.A)} {e : Ending} {w' : World} (hr : RetRel E.T E.P w (okM (freeze st.hp fr) μ W0 okb w) r e w') (h : absorb E st st.nx fr r K = some q) : Next' E W0 okb (a :: as) K q e w' := by
  obtain ⟨c, v, st', μ', h1, h2, h3, h4, h5⟩ := absorb_sound hT H H.isFr hr h
  rw [side_max h3] at h4
  exact ⟨c, v, st', μ', h1, h2, h4, h5⟩
theorem call_sound (hG : Good E G) {ih : Rec E} (hS : Sound E G ih) (hGW : GD G W0) {a : Act} {as : List Act} (H : RelM E.T E.P W0 okb μ st (a :: as) w) {f : Nat} {args : List (VE E)} {cs : Array Value} (hl : cs.size = args.length) (hargs : ∀ i v, args[i]? = some v → REP E st μ W0 okb w v (cs.getD i undef))
    {K : VE E → SE E → Option (Res E.T.A)} {q : Res E.T.A} (h : callV E ih st st.nx f args K = some q) : Enters E.P f ∧ Calls E.P f cs w (Next' E W0 okb (a :: as) K q) := by
  have hGw : G w := hGW.at hG.stable H.below
  unfold callV at h
  split at h
  · rename_i g hg
    exact pcall_sound hG.hT hGW H hl hargs (hG.pcon f g hg) h
  unfold callC at h
  split at h
  · rename_i g hg
    obtain ⟨h1, h2⟩ := hG.con f g hg
    split at h
    · rename_i sh hs
      obtain ⟨h3, h4⟩ := shutA_args hG.hT H hs hargs
      rw [conV_eq] at h
      obtain ⟨r, hr, habs⟩ := Option.bind_eq_some_iff.1 h
      refine ⟨h1, (h2 w _ sh cs r hGw (by rw [hl, h3]) h4 (fun b hb => hb.1) hr).mono fun e w' hret => ?_⟩
      exact absorb_next hG.hT H hret habs
    · cases h
  · split at h
    · cases h
    · rename_i fn hb
      split at h
      · cases h
      · rename_i c hc
        refine ⟨enters_body hG hb hc, ?_⟩
        have hinl : inlV E ih st f fn c args K = some q → Calls E.P f cs w (Next' E W0 okb (a :: as) K q) := by
          intro h
          unfold inlV at h
          obtain ⟨h1, h2, h3⟩ := hG.body f fn hb
          refine calls_of_wp h1 hc ?_
          have hrel : RelM E.T E.P W0 okb μ { env := bindArgs args 0, stk := st.env :: st.stk, hp := st.hp, nx := st.nx } ({ tmps := cs ++ Array.replicate (fn.ntmps - cs.size) undef, defers := [] } :: a :: as) w :=
            ⟨H.below, H.dom, H.blk, H.inj, frame_bind hl hargs, H.fr⟩
          refine hS W0 okb f c _ _ q _ (a :: as) w μ _ hGW hrel (dstIn_mono (entry fn cs) c (h3 c hc)) (fun c' h' => ⟨fn, c, hb, hc, h'⟩) h fun x st' μ' a' w' hsz Hr hx => ?_
          have fin : inlEnd E fn K st' = some q → a'.defers = [] ∧ ∃ v, (results fn a'.tmps).run E.P w' = .ok v w' ∧ Next' E W0 okb (a :: as) K q (.returned v) w' := by
            intro he
            unfold inlEnd at he
            split at he
            · rename_i l env stk hres hstk
              rw [force_eq] at he
              obtain ⟨v, h4, h5⟩ := results_sound hG.hT Hr hres
              refine ⟨Hr.fr.1.1, v, h4, v, _, _, μ', rfl, he, ⟨Hr.below, Hr.dom, Hr.blk, Hr.inj, ?_⟩, h5⟩
              have := Hr.fr.2
              rw [hstk] at this
              exact this
            · cases he
          cases x with
          | norm => exact fin hx
          | ret => exact fin hx
          | ex i => cases hx
        unfold bodyV at h
        split at h
        · exact hinl h
        · split at h
          · rename_i sh hs
            obtain ⟨h3, h4⟩ := shut_args hG.hT H hs hargs
            obtain ⟨r, hr, habs⟩ := Option.bind_eq_some_iff.1 h
            exact (iso_sound hG hS hb hc hGw (by rw [hl, h3]) h4 (fun b hb => hb.1) hr).mono fun e w' hret => absorb_next hG.hT H hret habs
          · exact hinl h
/-! Code -/
theorem doOp_sound (hG : Good E G) {ih : Rec E} (hS : Sound E G ih) (hGW : GD G W0) {a : Act} {as : List Act} (H : RelM E.T E.P W0 okb μ st (a :: as) w) {o : Oper} (hd : dstOp a.tmps.size o = true) {K : SE E → Option (Res E.T.A)} {q : Res E.T.A} (h : doOp E ih o st.nx st K = some q) {next : Act → World → Prop} {Q : Exit → Act → World → Prop}
    (hn : ∀ st' μ' a' w', a'.tmps.size = a.tmps.size → RelM E.T E.P W0 okb μ' st' (a' :: as) w' → K st' = some q → next a' w') : o.wp E.P a w next Q := by
  have hdst : ∀ x, o.dst = some x → x < a.tmps.size := fun x hx => by
    unfold dstOp at hd; rw [hx] at hd; exact Nat.le_of_ble_eq_true hd
  unfold doOp at h
  split at h
  · rename_i fo args hc
    unfold callee at hc
    split at hc
    · rename_i c ho
      split at hc
      · rename_i fo' hcal
        simp only [Option.some.injEq, Prod.mk.injEq] at hc
        obtain ⟨rfl, rfl⟩ := hc
        unfold callO at h
        split at h
        · rename_i f caps hfo
          have hfr := ev_rep H fo'
          rw [hfo] at hfr
          generalize hcf : a.eval fo' = cf at *
          cases hfr with | fn _ _ cc hcl hcr =>
          have hal : (c.args.map a.eval ++ cc).size = (c.args.toList.map st.ev ++ caps).length := by simp [hcl]
          have hargs : ∀ (i : Nat) (v : VE E), (c.args.toList.map st.ev ++ caps)[i]? = some v → REP E st μ W0 okb w v ((c.args.map a.eval ++ cc).getD i undef) := by
            intro i v hv
            rw [Array.getD_eq_getD_getElem?]
            by_cases hi : i < c.args.toList.length
            · rw [List.getElem?_append_left (by simpa using hi)] at hv
              obtain ⟨d, h1, h2⟩ := args_rep H c.args.toList i v hv
              have hi2 : i < (c.args.map a.eval).size := by simpa using hi
              rw [Array.getElem?_append_left hi2, ← Array.getElem?_toList, Array.toList_map, h1]
              exact h2
            · have hi2 : (c.args.map a.eval).size ≤ i := by simpa using hi
              rw [List.getElem?_append_right (by simpa using hi)] at hv
              rw [Array.getElem?_append_right hi2]
              have := hcr _ v hv
              rw [Array.getD_eq_getD_getElem?] at this
              simpa using this
          obtain ⟨⟨fn, e1, e2, e3⟩, hcalls⟩ := call_sound hG hS hGW H hal hargs h
          unfold Oper.wp
          have hrun : (execOp a.eval o).run E.P w = .ok (.enter f (c.args.map a.eval ++ cc)) w := by
            unfold execOp
            simp only [ho, resolve, hcal, hcf, Deferred.ofValue, Sem.run_bind, Sem.run_pure, Result.andThen_ok, invoke, callFunc, run_program, e1, e2, e3, Bool.false_eq_true, if_false, Array.empty_append]
          rw [hrun, Oper.upon_enter]
          refine hcalls.mono fun e w' hnx => ?_
          obtain ⟨d, v, st', μ', rfl, hK, H', hv⟩ := hnx
          exact hn _ μ' _ w' (put_size _ _ _) (H'.put hv hdst) hK
        · rename_i f l hfo
          have hfr := ev_rep H fo'
          rw [hfo] at hfr
          generalize hcf : a.eval fo' = cf at *
          cases hfr with | meth _ _ cc hcl hcr =>
          have hal : (cc ++ c.args.map a.eval).size = (l ++ c.args.toList.map st.ev).length := by simp [hcl]
          have hargs : ∀ (i : Nat) (v : VE E), (l ++ c.args.toList.map st.ev)[i]? = some v → REP E st μ W0 okb w v ((cc ++ c.args.map a.eval).getD i undef) := by
            intro i v hv
            rw [Array.getD_eq_getD_getElem?]
            by_cases hi : i < l.length
            · rw [List.getElem?_append_left hi] at hv
              have hi2 : i < cc.size := by omega
              rw [Array.getElem?_append_left hi2, ← Array.getD_eq_getD_getElem?]
              exact hcr _ v hv
            · have hi2 : cc.size ≤ i := by omega
              rw [List.getElem?_append_right (by omega)] at hv
              rw [Array.getElem?_append_right hi2]
              obtain ⟨d, h1, h2⟩ := args_rep H c.args.toList _ v hv
              rw [← Array.getElem?_toList, Array.toList_map, hcl, h1]
              exact h2
          obtain ⟨⟨fn, e1, e2, e3⟩, hcalls⟩ := call_sound hG hS hGW H hal hargs h
          unfold Oper.wp
          have hrun : (execOp a.eval o).run E.P w = .ok (.enter f (cc ++ c.args.map a.eval)) w := by
            unfold execOp
            simp only [ho, resolve, hcal, hcf, Deferred.ofValue, Sem.run_bind, Sem.run_pure, Result.andThen_ok, invoke, callFunc, run_program, e1, e2, e3, Bool.false_eq_true, if_false, Array.append_empty]
          rw [hrun, Oper.upon_enter]
          refine hcalls.mono fun e w' hnx => ?_
          obtain ⟨d, v, st', μ', rfl, hK, H', hv⟩ := hnx
          exact hn _ μ' _ w' (put_size _ _ _) (H'.put hv hdst) hK
        · cases h
      · cases hc
    · cases hc
  · have key : ∃ v st', K (st'.put o.dst v) = some q ∧ OpRes E W0 okb μ st.nx st.nx (a :: as) a o w v st' := by
      split at h
      · rename_i p hp
        unfold mvSlice at hp
        split at hp
        · rename_i t x lo ho
          obtain rfl := Option.some.inj hp
          exact sliceW_sound hG.hT H H.isFr ho h
        · cases hp
      · exact opv_sound hG.hT H H.isFr h
    obtain ⟨v, st', hK, μ', c, w', hside, hrun, H', hv⟩ := key
    rw [side_max hside] at H'
    have := hn _ μ' _ w' (put_size a o.dst c) (H'.put hv hdst) hK
    unfold Oper.wp
    rcases hrun with hrun | ⟨hrun, rfl⟩
    · rw [hrun, Oper.upon_value]; exact this
    · rw [hrun, Oper.upon_skip]; exact this
theorem rep_undef {T : Tab} {P : Program} {w : World} {μ : Nat → Option Value} {ok : Nat → Prop} : Rep T P w μ ok (.tup []) undef := .tup [] #[] rfl fun i v h => by cases h
theorem not_yielded {T : Tab} {P : Program} {w : World} {μ : Nat → Option Value} {ok : Nat → Prop} {all : Array Oper} {a : Act} {o : Oper} {j d : Nat} {want : Bool} (hg : o.guard = some (j, want)) (hd : (all[j]?).bind (·.dst) = some d) (h : Rep T P w μ ok (.tup []) (a.tmps.getD d undef)) : Region.wanted o (yielded all a.tmps) = false := by
  have hy : yielded all a.tmps j = none := by
    unfold yielded
    rw [hd, Option.bind_some]
    rw [Array.getD_eq_getD_getElem?] at h
    cases ha : a.tmps[d]? with
    | none => rfl
    | some c =>
      rw [ha] at h
      replace h : Rep T P w μ ok (.tup []) c := h
      cases h
      rfl
  simp [Region.wanted, hg, hy]
theorem runOps_sound (hG : Good E G) {ih : Rec E} (hS : Sound E G ih) (hGW : GD G W0) {all : Array Oper} {K : SE E → Option (Res E.T.A)} {q : Res E.T.A} {Q : Exit → Act → World → Prop} {n : Nat} {as : List Act} : ∀ (l : List Oper) (st : SE E) (μ : Nat → Option Value) (a : Act) (w : World), a.tmps.size = n → RelM E.T E.P W0 okb μ st (a :: as) w → l.all (dstOp n) = true → runOps E ih all l st K = some q →
    (∀ st' μ' a' w', a'.tmps.size = n → RelM E.T E.P W0 okb μ' st' (a' :: as) w' → K st' = some q → Q .normal a' w') → wpList E.P all Q l a w
  | [], st, μ, a, w, hn, H, _, h, hQ => wpList_nil (hQ st μ a w hn H h)
  | o :: l, st, μ, a, w, hn, H, hd, h, hQ => by
    simp only [List.all_cons, Bool.and_eq_true] at hd
    have h : runOp1 E ih all o (runOps E ih all l) st K = some q := h
    unfold runOp1 at h
    have rest : ∀ (st : SE E) (μ : Nat → Option Value), RelM E.T E.P W0 okb μ st (a :: as) w → doOp E ih o st.nx st (fun st' => runOps E ih all l st' K) = some q → ∀ Kw : Act → World → Prop, (∀ a w, wpList E.P all Q l a w → Kw a w) → o.wp E.P a w Kw Q := by
      intro st μ H h Kw hKw
      exact doOp_sound hG hS hGW H (by rw [hn]; exact hd.1) h fun st' μ' a' w' hsz H' hK => hKw a' w' (runOps_sound hG hS hGW l st' μ' a' w' (hsz.trans hn) H' hd.2 hK hQ)
    refine wpList_step fun Kw hKw => ?_
    split at h
    · rename_i hg
      rw [if_pos (by simp [Region.wanted, hg])]
      exact rest st μ H h Kw hKw
    · rename_i j want hg
      unfold guardV at h
      split at h
      · rename_i d hdj
        split at h
        · rename_i t hl
          have hb := H.fr.1.2 d _ hl
          have hb : a.tmps.getD d undef = .bool t := hb.bool_inv
          have hlt : d < a.tmps.size := by
            rcases Nat.lt_or_ge d a.tmps.size with h1 | h1
            · exact h1
            · rw [Array.getD_eq_getD_getElem?, Array.getElem?_eq_none h1] at hb; cases hb
          have hy : yielded all a.tmps j = some t := by
            unfold yielded
            have : a.tmps[d]? = some (.bool t) := by
              rw [Array.getElem?_eq_getElem hlt]; rw [Array.getD_eq_getD_getElem?, Array.getElem?_eq_getElem hlt] at hb
              exact congrArg some hb
            have hdj : (all[j]?).bind (·.dst) = some d := hdj
            rw [hdj, Option.bind_some, this]
          have hw : Region.wanted o (yielded all a.tmps) = (t == want) := by
            simp only [Region.wanted, hg, hy]
            cases t <;> cases want <;> rfl
          split at h
          · rename_i htw
            subst htw
            rw [hw, if_pos (by simp)]
            exact rest _ μ (H.known hb) h Kw hKw
          · rename_i htw
            have hnw : t = !want := by cases t <;> cases want <;> simp_all
            rw [hw, if_neg (by simp [htw])]
            refine hKw _ _ (runOps_sound hG hS hGW l _ μ _ w ((put_size _ _ _).trans hn) ((H.known (b := !want) (by rw [hb, hnw])).put rep_undef fun x hx => ?_) hd.2 h hQ)
            have := hd.1
            unfold dstOp at this; rw [hx] at this
            rw [hn]; exact Nat.le_of_ble_eq_true this
        · rename_i hl
          rw [not_yielded hg hdj (H.fr.1.2 d _ hl), if_neg (by simp)]
          refine hKw _ _ (runOps_sound hG hS hGW l _ μ _ w ((put_size _ _ _).trans hn) (H.put rep_undef fun x hx => ?_) hd.2 h hQ)
          have := hd.1
          unfold dstOp at this; rw [hx] at this
          rw [hn]; exact Nat.le_of_ble_eq_true this
        · cases h
      · cases h
end
end Go.Proofs.YtpbpebjfglfjfaaGreatDoor.X
