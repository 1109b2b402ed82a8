/-
  SOUNDNESS: maps whose keys are numbers or texts.
-/
import Derived.Test.YtpbpebjfglfjfaaGreatDoorX9
set_option autoImplicit false
set_option linter.unusedVariables false
set_option linter.unusedSimpArgs false
namespace Go.Proofs.YtpbpebjfglfjfaaGreatDoor.X
open Go Go.RowKit
section
variable {E : Env} {W0 : Wd} {w : World} {okb : Nat → Prop} {μ : Nat → Option Value} {st : SE E} {acts : List Act} {R : Type} {r : R}
theorem getMap_run {P : Program} {r : Nat} {es : Array MapEntry} {n : Nat} (hb : w.heap[r]? = some (.map es n)) : (getObj r).run P w = .ok (.map es n) w := by simp [getObj, Sem.run, hb]
theorem setMap_run {P : Program} {r : Nat} {es : Array MapEntry} {n : Nat} (o : Obj) (hb : w.heap[r]? = some (.map es n)) : (setObj r o).run P w = .ok () { w with heap := w.heap.setIfInBounds r o } := by simp [setObj, Sem.run, hb]
theorem beqB (a b : ByteArray) : (a == b) = decide (a = b) := by
  obtain ⟨x⟩ := a
  obtain ⟨y⟩ := b
  have h : ((⟨x⟩ : ByteArray) == ⟨y⟩) = (x == y) := rfl
  rw [h]
  by_cases e : x = y
  · subst e; simp
  · have e2 : (⟨x⟩ : ByteArray) ≠ ⟨y⟩ := fun h => e (ByteArray.mk.inj h)
    rw [decide_eq_false e2]
    simpa using e
/-- the kinds of keys -/
def Keys (P : Program) (kt : Nat) (d : TypeDesc) (k : VE E) : Prop := P.underlying kt = some d ∧ ((∃ j q n, d = .int j ∧ k = .int q n) ∨ (∃ s, d = .string ∧ k = .str s))
theorem keyT_spec {kt : Nat} {k : VE E} (h : keyT E.P kt k = true) : ∃ d, Keys E.P kt d k := by
  unfold keyT at h
  split at h
  · rename_i j q n hu; exact ⟨_, hu, .inl ⟨_, _, _, rfl, rfl⟩⟩
  · rename_i s hu; exact ⟨_, hu, .inr ⟨_, rfl, rfl⟩⟩
  · cases h
theorem Keys.check {kt : Nat} {d : TypeDesc} {k : VE E} (h : Keys E.P kt d k) {c : Value} (hk : REP E st μ W0 okb w k c) (e : Bool) : (Instr.checkKey e 10000 kt c).run E.P w = .ok () w := by
  obtain ⟨hu, ⟨j, q, n, rfl, rfl⟩ | ⟨s, rfl, rfl⟩⟩ := h
  · rw [hk.int_inv]; unfold Instr.checkKey; simp [run_underlying hu]
  · rw [hk.str_inv]; unfold Instr.checkKey; simp [run_underlying hu]
theorem keyEq_spec {kt : Nat} {d : TypeDesc} {k x : VE E} (h : Keys E.P kt d k) {c e : Value} (hk : REP E st μ W0 okb w k c) (hx : REP E st μ W0 okb w x e) {b : Bool} (hb : keyEq k x = some b) : Instr.sameNow d c e = some b ∧ (b = true → Instr.sameBits 10000 e c = true) := by
  obtain ⟨hu, ⟨j, q, n, rfl, rfl⟩ | ⟨s, rfl, rfl⟩⟩ := h
  · cases x with
    | int q2 n2 =>
      replace hb : (match decide (q = q2) with | true => some (decide (n = n2)) | false => none) = some b := hb
      rw [hk.int_inv, hx.int_inv]
      split at hb
      · rename_i hq
        obtain rfl : q = q2 := of_decide_eq_true hq
        obtain rfl := Option.some.inj hb
        refine ⟨by unfold Instr.sameNow; simp only [if_true, Option.some.injEq]; by_cases hh : n = n2 <;> simp [hh], fun ht => ?_⟩
        obtain rfl : n = n2 := of_decide_eq_true ht
        simp [Instr.sameBits]
      · cases hb
    | _ => cases hb
  · cases x with
    | str s2 =>
      replace hb : some (eqB s s2) = some b := hb
      rw [hk.str_inv, hx.str_inv]
      obtain rfl := Option.some.inj hb
      rw [eqB_iff]
      refine ⟨by unfold Instr.sameNow; simp only [Option.some.injEq]; exact beqB _ _, fun ht => ?_⟩
      obtain rfl : s = s2 := of_decide_eq_true ht
      show (s == s) = true
      rw [beqB]; simp
    | _ => cases hb
/-- the search -/
theorem findV_spec {kt : Nat} {d : TypeDesc} {k : VE E} (h : Keys E.P kt d k) {c : Value} (hk : REP E st μ W0 okb w k c) : ∀ (l : List (VE E × VE E)) (es : List MapEntry) (i : Nat) (o : Option (VE E)), es.length = l.length →
    (∀ (j : Nat) (p : VE E × VE E), l[j]? = some p → ∃ e : MapEntry, es[j]? = some e ∧ REP E st μ W0 okb w p.1 e.key ∧ REP E st μ W0 okb w p.2 e.val) → findV k l = some o →
    ∃ q, Instr.findNow d c es i = some q ∧ ((o = none ∧ q = none) ∨ ∃ v j cv, o = some v ∧ q = some (i + j, cv) ∧ REP E st μ W0 okb w v cv)
  | [], [], i, o, _, _, ho => ⟨none, rfl, .inl ⟨(Option.some.inj ho).symm, rfl⟩⟩
  | [], _ :: _, _, _, hl, _, _ => by cases hl
  | _ :: _, [], _, _, hl, _, _ => by cases hl
  | p :: l, e :: es, i, o, hl, hr, ho => by
    have ho : find1 (keyEq k p.1) p.2 (findV k l) = some o := ho
    obtain ⟨e', he, h1, h2⟩ := hr 0 p rfl
    obtain rfl := Option.some.inj he
    unfold find1 at ho
    unfold Instr.findNow
    split at ho
    · rename_i hb
      rw [(keyEq_spec h hk h1 hb).1]
      exact ⟨_, rfl, .inr ⟨_, 0, _, (Option.some.inj ho).symm, rfl, h2⟩⟩
    · rename_i hb
      rw [(keyEq_spec h hk h1 hb).1]
      obtain ⟨q, h3, h4⟩ := findV_spec h hk l es (i + 1) o (by simpa using hl) (fun j p hp => hr (j + 1) p hp) ho
      refine ⟨q, h3, ?_⟩
      rcases h4 with h4 | ⟨v, j, cv, h5, h6, h7⟩
      · exact .inl h4
      · exact .inr ⟨v, j + 1, cv, h5, by rw [h6]; congr 2; omega, h7⟩
    · cases ho
theorem updV_spec {kt : Nat} {d : TypeDesc} {k v : VE E} (h : Keys E.P kt d k) {c cv : Value} (hk : REP E st μ W0 okb w k c) (hv : REP E st μ W0 okb w v cv) : ∀ (l : List (VE E × VE E)) (es : List MapEntry) (i : Nat) (l' : List (VE E × VE E)), es.length = l.length →
    (∀ (j : Nat) (p : VE E × VE E), l[j]? = some p → ∃ e : MapEntry, es[j]? = some e ∧ REP E st μ W0 okb w p.1 e.key ∧ REP E st μ W0 okb w p.2 e.val) → updV k v l = some l' →
    ∃ q, Instr.findNow d c es i = some q ∧ ((q = none ∧ l' = l ++ [(k, v)]) ∨ ∃ j w' e, q = some (i + j, w') ∧ es[j]? = some e ∧ j < l.length ∧ l' = l.set j (k, v) ∧ Instr.sameBits 10000 e.key c = true)
  | [], [], i, o, _, _, ho => ⟨none, rfl, .inl ⟨rfl, (Option.some.inj ho).symm⟩⟩
  | [], _ :: _, _, _, hl, _, _ => by cases hl
  | _ :: _, [], _, _, hl, _, _ => by cases hl
  | p :: l, e :: es, i, o, hl, hr, ho => by
    have ho : upd1 (keyEq k p.1) k v p l (updV k v l) = some o := ho
    obtain ⟨e', he, h1, h2⟩ := hr 0 p rfl
    obtain rfl := Option.some.inj he
    unfold upd1 at ho
    unfold Instr.findNow
    split at ho
    · rename_i hb
      obtain ⟨g1, g2⟩ := keyEq_spec h hk h1 hb
      rw [g1]
      exact ⟨_, rfl, .inr ⟨0, _, e, rfl, rfl, by simp, (Option.some.inj ho).symm, g2 rfl⟩⟩
    · rename_i hb
      rw [(keyEq_spec h hk h1 hb).1]
      split at ho
      · rename_i m hm
        obtain ⟨q, h3, h4⟩ := updV_spec h hk hv l es (i + 1) m (by simpa using hl) (fun j p hp => hr (j + 1) p hp) hm
        refine ⟨q, h3, ?_⟩
        obtain rfl := Option.some.inj ho
        rcases h4 with ⟨h4, h5⟩ | ⟨j, w', e2, h5, h6, h7, h8, h9⟩
        · exact .inl ⟨h4, by rw [h5]; rfl⟩
        · exact .inr ⟨j + 1, w', e2, by rw [h5]; congr 2; omega, h6, by simpa using h7, by rw [h8]; rfl, h9⟩
      · cases ho
    · cases ho
theorem zeroV_spec {t : Nat} {z : VE E} (h : zeroV E.P t = some z) : ∃ c, (zeroValue t).run E.P w = .ok c w ∧ REP E st μ W0 okb w z c := by
  unfold zeroV at h
  split at h
  · rename_i i hi
    split at h
    · rename_i cs hz
      obtain rfl := Option.some.inj h
      refine ⟨_, run_zero hi hz w, .agg _ _ (by simp) fun j v hv => ?_⟩
      rw [List.getElem?_map] at hv
      cases hc : cs.toList[j]? with
      | none => rw [hc] at hv; cases hv
      | some c =>
        rw [hc] at hv
        obtain rfl := Option.some.inj hv
        rw [Array.getD_eq_getD_getElem?, ← Array.getElem?_toList, hc]
        exact cv_rep c
    · rename_i z' _ hz
      obtain rfl := Option.some.inj h
      exact ⟨_, run_zero hi hz w, cv_rep _⟩
    · cases h
  · cases h
/-! entries of known kinds -/
theorem agg_false {P : Program} {e : Nat} (h : aggT P e = some false) {T : Tab} (x : T.A e) : valV T P e x = (match T.enc e x with | v :: _ => v | [] => .unk) := by unfold valV; rw [h]; rfl
theorem pure0 {A : Nat → Type} (q : List (V A)) (h : q.all (V.pure 0) = true) : q.all (V.pure 1) = true := by
  cases q with
  | nil => rfl
  | cons y q => rw [List.all_cons] at h; cases h
theorem valV_pure {T : Tab} {P : Program} (hT : T.Ok P) {e : Nat} (hk : T.known e = true) (x : T.A e) : (valV T P e x).pure 2 = true := by
  unfold valV
  split
  · exact List.all_eq_true.2 fun v hv => (hT.pure e x v hk hv).1
  · split
    · rename_i v l he
      have := (hT.pure e x v hk (by rw [he]; exact List.mem_cons_self ..)).1
      cases v with
      | agg q => exact pure0 _ this
      | tup q => exact pure0 _ this
      | fn f q => exact pure0 _ this
      | rel q => exact pure0 _ this
      | _ => first | rfl | cases this
    · rfl
theorem decV_rep {T : Tab} {P : Program} (hT : T.Ok P) {w : World} {μ : Nat → Option Value} {ok : Nat → Prop} {e : Nat} {v : V T.A} {c : Value} {x : T.A e} (hk : T.known e = true) (h : Rep T P w μ ok v c) (hd : decV T P e v = some x) : Rep T P w μ ok (valV T P e x) c := by
  have hl := hT.len e x hk
  cases hA : aggT P e with
  | none => unfold decV at hd; rw [hA] at hd; cases v <;> cases hd
  | some b =>
    cases b with
    | true =>
      unfold decV at hd
      rw [hA] at hd
      cases v with
      | agg cs =>
        obtain ⟨h1, h2⟩ := hT.dec e cs x hk hd
        unfold valV
        rw [hA]
        cases h with
        | agg l c hlc hr =>
          refine .agg _ c (by rw [hlc, h1, hl]) fun i u hu => ?_
          have hi : i < (T.enc e x).length := (List.getElem?_eq_some_iff.1 hu).1
          have hi2 : i < cs.length := by rw [h1, ← hl]; exact hi
          exact (hr i _ (List.getElem?_eq_getElem hi2)).sub (h2 i _ u (List.getElem?_eq_getElem hi2) hu)
      | _ => cases hd
    | false =>
      have fin : ∀ v, Rep T P w μ ok v c → T.dec e [v] = some x → Rep T P w μ ok (valV T P e x) c := fun v h hd => by
        obtain ⟨h1, h2⟩ := hT.dec e [v] x hk hd
        rw [agg_false hA]
        split
        · rename_i u l hu
          exact h.sub (h2 0 v u rfl (by rw [hu]; rfl))
        · exact .unk _
      unfold decV at hd
      rw [hA] at hd
      cases v with
      | agg l => cases hd
      | _ => exact fin _ h hd
theorem keyT_agg {P : Program} {A : Nat → Type} {kt : Nat} {k : V A} (h : keyT P kt k = true) : aggT P kt = some false := by
  unfold keyT at h
  unfold aggT
  split at h
  · rename_i hu; rw [hu]
  · rename_i hu; rw [hu]
  · cases h
theorem eqK_spec {T : Tab} {P : Program} (hT : T.Ok P) {kt : Nat} (hk : T.known kt = true) (hy : T.key kt = true) (ha : aggT P kt = some false) (a b : T.A kt) : keyEq (valV T P kt a) (valV T P kt b) = some (eqK T P kt a b) := by
  have h := hT.key kt a b hy hk
  have e : isO (keyEq (valV T P kt a) (valV T P kt b)) = true := by
    rw [agg_false ha, agg_false ha]
    revert h
    cases T.enc kt a with
    | nil => intro h; cases h
    | cons x l => cases T.enc kt b with
      | nil => intro h; cases h
      | cons y m => exact fun h => h
  unfold eqK
  revert e
  cases keyEq (valV T P kt a) (valV T P kt b) with
  | none => intro h; cases h
  | some r => intro _; rfl
theorem find_ty {T : Tab} {P : Program} (hT : T.Ok P) {kt vt : Nat} (hk : T.known kt = true) (hy : T.key kt = true) (ha : aggT P kt = some false) (key : T.A kt) : ∀ l : List (T.A kt × T.A vt), findV (valV T P kt key) (l.map (encP T P kt vt)) = some ((tlook T P kt vt key l).map (valV T P vt))
  | [] => rfl
  | p :: l => by
    show find1 (keyEq (valV T P kt key) (valV T P kt p.1)) (valV T P vt p.2) (findV (valV T P kt key) (l.map (encP T P kt vt))) = some ((match eqK T P kt key p.1 with | true => some p.2 | false => tlook T P kt vt key l).map (valV T P vt))
    rw [eqK_spec hT hk hy ha, find_ty hT hk hy ha key l]
    cases eqK T P kt key p.1 <;> rfl
theorem upd_ty {T : Tab} {P : Program} (hT : T.Ok P) {kt vt : Nat} (hk : T.known kt = true) (hy : T.key kt = true) (ha : aggT P kt = some false) (key : T.A kt) (y : T.A vt) : ∀ l : List (T.A kt × T.A vt), updV (valV T P kt key) (valV T P vt y) (l.map (encP T P kt vt)) = some ((tupd T P kt vt key y l).map (encP T P kt vt))
  | [] => rfl
  | p :: l => by
    show upd1 (keyEq (valV T P kt key) (valV T P kt p.1)) (valV T P kt key) (valV T P vt y) (encP T P kt vt p) (l.map (encP T P kt vt)) (updV (valV T P kt key) (valV T P vt y) (l.map (encP T P kt vt))) = some ((match eqK T P kt key p.1 with | true => (key, y) :: l | false => p :: tupd T P kt vt key y l).map (encP T P kt vt))
    rw [eqK_spec hT hk hy ha, upd_ty hT hk hy ha key y l]
    cases eqK T P kt key p.1 <;> rfl
theorem goodT_spec {T : Tab} {kt vt : Nat} (h : goodT T kt vt = true) : T.known kt = true ∧ T.known vt = true ∧ T.key kt = true := by
  unfold goodT at h
  split at h
  · rename_i h1 h2; exact ⟨h1, h2, h⟩
  · cases h
theorem ents_ty {T : Tab} {P : Program} {kt vt : Nat} {l : List (T.A kt × T.A vt)} (h : goodT T kt vt = true) : (ML.ty kt vt l).ents T P = l.map (encP T P kt vt) := by
  show (match goodT T kt vt with | true => l.map (encP T P kt vt) | false => l.map fun _ => (.unk, .unk)) = _
  rw [h]
theorem ents_len {T : Tab} {P : Program} (m : ML T.A) : (m.ents T P).length = m.len := by
  cases m with
  | pl l => rfl
  | ty kt vt l =>
    show (match goodT T kt vt with | true => l.map (encP T P kt vt) | false => l.map fun _ => (.unk, .unk)).length = l.length
    cases goodT T kt vt <;> simp
/-- the entries -/
def Entries (E : Env) (st : SE E) (μ : Nat → Option Value) (W0 : Wd) (okb : Nat → Prop) (w : World) (cx : Value) (m : ML E.T.A) (es : Array MapEntry) : Prop :=
  ((cx = .map none ∧ es = #[]) ∨ ∃ r n, cx = .map (some r) ∧ w.heap[r]? = some (.map es n)) ∧ es.size = (m.ents E.T E.P).length ∧ ∀ (j : Nat) (p : VE E × VE E), (m.ents E.T E.P)[j]? = some p → ∃ e : MapEntry, es.toList[j]? = some e ∧ REP E st μ W0 okb w p.1 e.key ∧ REP E st μ W0 okb w p.2 e.val
theorem map_own (H : RelM E.T E.P W0 okb μ st acts w) {i : Nat} {m : ML E.T.A} {z : Bool} {c : Value} (hb : look st.hp i = some (.map m z)) (hc : μ i = some c) : ∃ r es n, c = .map (some r) ∧ ¬ W0.old r ∧ w.heap[r]? = some (.map es n) ∧ es.size = (m.ents E.T E.P).length ∧
    ∀ (j : Nat) (p : VE E × VE E), (m.ents E.T E.P)[j]? = some p → ∃ e : MapEntry, es.toList[j]? = some e ∧ REP E st μ W0 okb w p.1 e.key ∧ REP E st μ W0 okb w p.2 e.val := by
  cases H.blk i _ hb with
  | map l z r es n hm hB hh hl h =>
    rw [hc] at hm
    exact ⟨r, es, n, Option.some.inj hm, hB, hh, hl, fun j p hp => by
      obtain ⟨e, h1, h2, h3⟩ := h j p hp
      exact ⟨e, by rw [Array.getElem?_toList]; exact h1, h2, h3⟩⟩
theorem Rep.mapr_inv {T : Tab} {P : Program} {w : World} {μ : Nat → Option Value} {ok : Nat → Prop} {i : Nat} {c : Value} (h : Rep T P w μ ok (.mapr i) c) : μ i = some c := by cases h; assumption
theorem entries_spec (H : RelM E.T E.P W0 okb μ st acts w) {x : VE E} {cx : Value} (hx : REP E st μ W0 okb w x cx) {m : ML E.T.A} (h : entriesV E st x = some m) : ∃ es, Entries E st μ W0 okb w cx m es := by
  unfold entriesV at h
  split at h
  · rename_i i
    split at h
    · rename_i l' z hb
      obtain rfl := Option.some.inj h
      obtain ⟨r, es, n, rfl, _, h2, h3, h4⟩ := map_own H hb hx.mapr_inv
      exact ⟨es, .inr ⟨r, n, rfl, h2⟩, h3, h4⟩
    · cases h
  · obtain rfl := Option.some.inj h
    cases hx
    exact ⟨#[], .inl ⟨rfl, rfl⟩, rfl, fun j p hp => by cases hp⟩
  · cases h
theorem lookOk_spec {ok : Bool} {v : VE E} {b : Bool} {K : VE E → Option R} (h : lookOk ok v b K = some r) {c : Value} (hv : REP E st μ W0 okb w v c) : ∃ v', K v' = some r ∧ REP E st μ W0 okb w v' (if ok then .tuple #[c, .bool b] else c) := by
  unfold lookOk at h
  split at h
  · refine ⟨_, h, .tup _ _ rfl fun i u hu => ?_⟩
    match i with
    | 0 => obtain rfl := Option.some.inj hu; exact hv
    | 1 => obtain rfl := Option.some.inj hu; exact .bool b
    | n + 2 => cases hu
  · rw [force_eq] at h; exact ⟨_, h, hv⟩
theorem look_found {t kt vt : Nat} {d : TypeDesc} {k : VE E} {cx ck : Value} {ok : Bool} {m : ML E.T.A} {es : Array MapEntry} (hu : E.P.underlying t = some (.map kt vt)) (hd : Keys E.P kt d k) (hk : REP E st μ W0 okb w k ck) (he : Entries E st μ W0 okb w cx m es) {v : VE E} (hf : findV k (m.ents E.T E.P) = some (some v)) :
    ∃ cv, (Instr.lookup t cx ck ok).run E.P w = .ok (if ok then .tuple #[cv, .bool true] else cv) w ∧ REP E st μ W0 okb w v cv := by
  obtain ⟨he, hes, hent⟩ := he
  have hck := fun e => hd.check (st := st) (μ := μ) (W0 := W0) (okb := okb) hk e
  obtain ⟨q, h1, h2⟩ := findV_spec hd hk _ es.toList 0 _ (by simpa using hes) hent hf
  rcases h2 with ⟨h3, _⟩ | ⟨v', j, cv, h3, rfl, h5⟩
  · cases h3
  · obtain rfl := Option.some.inj h3
    refine ⟨cv, ?_, h5⟩
    rcases he with ⟨rfl, rfl⟩ | ⟨rr, n, rfl, hr⟩
    · unfold Instr.lookup; simp only [Sem.run_bind, run_underlying hu, Result.andThen_ok, Sem.run_pure, hck, Instr.findKey, run_underlying hd.1, h1]
    · unfold Instr.lookup; simp only [Sem.run_bind, run_underlying hu, Result.andThen_ok, getMap_run hr, Sem.run_pure, hck, Instr.findKey, run_underlying hd.1, h1]
theorem look_none {t kt vt : Nat} {d : TypeDesc} {k : VE E} {cx ck : Value} {ok : Bool} {m : ML E.T.A} {es : Array MapEntry} (hu : E.P.underlying t = some (.map kt vt)) (hd : Keys E.P kt d k) (hk : REP E st μ W0 okb w k ck) (he : Entries E st μ W0 okb w cx m es) {cz : Value} (h6 : (zeroValue vt).run E.P w = .ok cz w) (hf : findV k (m.ents E.T E.P) = some none) :
    (Instr.lookup t cx ck ok).run E.P w = .ok (if ok then .tuple #[cz, .bool false] else cz) w := by
  obtain ⟨he, hes, hent⟩ := he
  have hck := fun e => hd.check (st := st) (μ := μ) (W0 := W0) (okb := okb) hk e
  obtain ⟨q, h1, h2⟩ := findV_spec hd hk _ es.toList 0 _ (by simpa using hes) hent hf
  rcases h2 with ⟨_, rfl⟩ | ⟨v', j, cv, h3, _, h5⟩
  · rcases he with ⟨rfl, rfl⟩ | ⟨rr, n, rfl, hr⟩
    · unfold Instr.lookup; simp only [Sem.run_bind, run_underlying hu, Result.andThen_ok, Sem.run_pure, hck, Instr.findKey, run_underlying hd.1, h1, h6]
    · unfold Instr.lookup; simp only [Sem.run_bind, run_underlying hu, Result.andThen_ok, getMap_run hr, Sem.run_pure, hck, Instr.findKey, run_underlying hd.1, h1, h6]
  · cases h3
theorem lookup_sound (hT : E.T.Ok E.P) (H : RelM E.T E.P W0 okb μ st acts w) {t : Nat} {x k : VE E} {cx ck : Value} {ok : Bool} {K : VE E → Option R} (hx : REP E st μ W0 okb w x cx) (hk : REP E st μ W0 okb w k ck) (h : lookupV E st t x k ok K = some r) :
    ∃ v, K v = some r ∧ ∃ c, (Instr.lookup t cx ck ok).run E.P w = .ok c w ∧ REP E st μ W0 okb w v c := by
  unfold lookupV at h
  split at h
  · rename_i kt vt hu
    split at h
    · rename_i l hl
      obtain ⟨es, he⟩ := entries_spec H hx hl
      rw [lookPl_eq] at h
      split at h
      · rename_i hkt
        obtain ⟨d, hd⟩ := keyT_spec hkt
        split at h
        · rename_i v hf
          obtain ⟨cv, h1, h2⟩ := look_found (ok := ok) hu hd hk he hf
          obtain ⟨v', hK, hv'⟩ := lookOk_spec h h2
          exact ⟨v', hK, _, h1, hv'⟩
        · rename_i hf
          split at h
          · rename_i z hz
            obtain ⟨cz, h6, h7⟩ := zeroV_spec (w := w) (st := st) (μ := μ) (W0 := W0) (okb := okb) hz
            obtain ⟨v', hK, hv'⟩ := lookOk_spec h h7
            exact ⟨v', hK, _, look_none (ok := ok) hu hd hk he h6 hf, hv'⟩
          · cases h
        · cases h
      · cases h
    · rename_i kt' vt' l hl
      split at h
      · rename_i e1 e2
        obtain rfl := Nat.eq_of_beq_eq_true e1
        obtain rfl := Nat.eq_of_beq_eq_true e2
        obtain ⟨es, he⟩ := entries_spec H hx hl
        unfold lookTy at h
        split at h
        · rename_i key zv hg hkey hz
          obtain ⟨g1, g2, g3⟩ := goodT_spec hg
          split at h
          · rename_i z hkt hzd
            obtain ⟨d, hd⟩ := keyT_spec hkt
            have hk2 := decV_rep hT g1 hk hkey
            have hf := find_ty hT (vt := vt') g1 g3 (keyT_agg hkt) key l
            rw [← ents_ty hg] at hf
            obtain ⟨cz, h6, h7⟩ := zeroV_spec (w := w) (st := st) (μ := μ) (W0 := W0) (okb := okb) hz
            cases ht : tlook E.T E.P kt' vt' key l with
            | none =>
              rw [ht] at hf h
              obtain ⟨v', hK, hv'⟩ := lookOk_spec h (decV_rep hT g2 h7 hzd)
              exact ⟨v', hK, _, look_none (ok := ok) hu hd hk2 he h6 hf, hv'⟩
            | some y =>
              rw [ht] at hf h
              obtain ⟨cv, h1, h2⟩ := look_found (ok := ok) hu hd hk2 he hf
              obtain ⟨v', hK, hv'⟩ := lookOk_spec h h2
              exact ⟨v', hK, _, h1, hv'⟩
          · cases h
        · cases h
      · cases h
    · cases h
  · cases h
theorem keyStays {old new : Value} (h : Instr.sameBits 10000 old new = true) (P : Program) (w : World) : (Instr.keyThatStays old new).run P w = .ok new w := by
  unfold Instr.keyThatStays
  simp [h]
theorem updM_spec (hT : E.T.Ok E.P) {kt vt : Nat} {m m' : ML E.T.A} {k v : VE E} {ck cv : Value} (hk : REP E st μ W0 okb w k ck) (hv : REP E st μ W0 okb w v cv) (h : updM E kt vt m k v = some m') :
    ∃ d k2 v2, Keys E.P kt d k2 ∧ REP E st μ W0 okb w k2 ck ∧ REP E st μ W0 okb w v2 cv ∧ updV k2 v2 (m.ents E.T E.P) = some (m'.ents E.T E.P) := by
  unfold updM at h
  split at h
  · rename_i l
    unfold updPl at h
    split at h
    · rename_i hkt
      obtain ⟨d, hd⟩ := keyT_spec hkt
      split at h
      · rename_i l' hup
        obtain rfl := Option.some.inj h
        exact ⟨d, k, v, hd, hk, hv, hup⟩
      · cases h
    · cases h
  · rename_i kt' vt' l
    split at h
    · rename_i e1 e2
      obtain rfl := Nat.eq_of_beq_eq_true e1
      obtain rfl := Nat.eq_of_beq_eq_true e2
      unfold updTy at h
      split at h
      · rename_i key y hg hkey hy
        obtain ⟨g1, g2, g3⟩ := goodT_spec hg
        split at h
        · rename_i hkt hp
          obtain rfl := Option.some.inj h
          obtain ⟨d, hd⟩ := keyT_spec hkt
          refine ⟨d, _, _, hd, decV_rep hT g1 hk hkey, decV_rep hT g2 hv hy, ?_⟩
          rw [ents_ty hg, ents_ty hg]
          exact upd_ty hT g1 g3 (keyT_agg hkt) key y l
        · cases h
      · cases h
    · cases h
theorem mapUpdate_sound (hT : E.T.Ok E.P) {a : Act} {as : List Act} (H : RelM E.T E.P W0 okb μ st (a :: as) w) {nb : Nat} {o : Oper} {t : Nat} {om ok ov : Operand} (ho : o.op = .mapUpdate t om ok ov ∨ o.op = .insert t om ok ov) {K : VE E → SE E → Option R} (h : mapUpdateV E st t (st.ev om) (st.ev ok) (st.ev ov) (fun st' => K .unk st') = some r) :
    ∃ v st', K v st' = some r ∧ OpRes E W0 okb μ st.nx nb (a :: as) a o w v st' := by
  have hm := ev_rep H om
  have hk := ev_rep H ok
  have hv := ev_rep H ov
  unfold mapUpdateV at h
  split at h
  · rename_i kt vt hu
    split at h
    · rename_i i hx
      rw [hx] at hm
      split at h
      · rename_i l hb
        split at h
        · rename_i l' hup
          obtain ⟨d, k2, v2, hd, hk2, hv2, hup⟩ := updM_spec hT hk hv hup
          obtain ⟨rr, es, n, hcx, hB, hr, hsz, hent⟩ := map_own H hb hm.mapr_inv
          have hmu : μ i = some (.map (some rr)) := by rw [hm.mapr_inv, hcx]
          have hlt : rr < w.heap.size := (Array.getElem?_eq_some_iff.1 hr).1
          have hck := hd.check (st := st) (μ := μ) (W0 := W0) (okb := okb) hk2 false
          obtain ⟨q, h1, h2⟩ := updV_spec hd hk2 hv2 _ es.toList 0 _ (by simpa using hsz) hent hup
          have fin : ∀ (es' : Array MapEntry) (n' : Nat), (Instr.mapUpdate t (a.eval om) (a.eval ok) (a.eval ov)).run E.P w = .ok () { w with heap := w.heap.setIfInBounds rr (.map es' n') } → es'.size = (l'.ents E.T E.P).length →
              (∀ (j : Nat) (p : VE E × VE E), (l'.ents E.T E.P)[j]? = some p → ∃ e : MapEntry, es'[j]? = some e ∧ REP E st μ W0 okb w p.1 e.key ∧ REP E st μ W0 okb w p.2 e.val) → ∃ v st', K v st' = some r ∧ OpRes E W0 okb μ st.nx nb (a :: as) a o w v st' := by
            intro es' n' hrun hl' hr'
            have hg : w.grownBy { w with heap := w.heap.setIfInBounds rr (.map es' n') } (some rr) := ⟨rfl, rfl, rfl, by simp, fun k _ hk => by simp [Array.getElem?_setIfInBounds_ne (show rr ≠ k from fun e => hk (by rw [e]))]⟩
            have hwr := H.write (b1 := .map l' false) (k := rr) (w' := { w with heap := w.heap.setIfInBounds rr (.map es' n') }) hb rfl hmu rfl hg fun ok' hok' => by
              refine .map l' false rr es' n' hmu hB (by simp [hlt]) hl' fun j p hp => ?_
              obtain ⟨e, g1, g2, g3⟩ := hr' j p hp
              exact ⟨e, g1, g2.mono hok' (fun _ _ h => h), g3.mono hok' (fun _ _ h => h)⟩
            refine ⟨_, _, h, μ, undef, _, side_same _ _ _, .inr ⟨?_, rfl⟩, hwr.1.nx (Nat.le_max_left _ _), .unk _⟩
            unfold execOp
            rcases ho with ho | ho <;> simp only [ho, Sem.run_bind, hrun, Result.andThen_ok, Sem.run_pure]
          rcases h2 with ⟨rfl, hle⟩ | ⟨j, w', e, rfl, h5, h6, hle, h8⟩
          · refine fin (es.push { key := a.eval ok, val := a.eval ov, born := n }) (n + 1) ?_ (by rw [hle]; simp [hsz]) fun j p hp => ?_
            · unfold Instr.mapUpdate
              simp only [Sem.run_bind, run_underlying hu, Result.andThen_ok, hcx, getMap_run hr, hck, Instr.findKey, run_underlying hd.1, h1, Sem.run_pure, setMap_run _ hr]
            · rw [hle, List.getElem?_append] at hp
              split at hp
              · rename_i hj
                obtain ⟨e, g1, g2, g3⟩ := hent j p hp
                refine ⟨e, ?_, g2, g3⟩
                rw [Array.getElem?_push_lt (by omega)]
                rw [Array.getElem?_toList] at g1
                rw [← g1]; simp [hsz, hj]
              · rename_i hj
                have hj2 : j = (l.ents E.T E.P).length := by
                  rcases Nat.lt_or_ge (j - (l.ents E.T E.P).length) 1 with h | h
                  · omega
                  · rw [List.getElem?_eq_none (by simpa using h)] at hp; cases hp
                subst hj2
                simp only [Nat.sub_self, List.getElem?_cons_zero] at hp
                obtain rfl := Option.some.inj hp
                exact ⟨{ key := a.eval ok, val := a.eval ov, born := n }, by rw [← hsz]; simp, hk2, hv2⟩
          · rw [Nat.zero_add] at h1
            have hje : es[j]? = some e := by rw [← Array.getElem?_toList]; exact h5
            refine fin (es.modify j fun e => { e with key := a.eval ok, val := a.eval ov }) n ?_ (by rw [hle]; simp [hsz]) fun i2 p hp => ?_
            · unfold Instr.mapUpdate
              simp only [Sem.run_bind, run_underlying hu, Result.andThen_ok, hcx, getMap_run hr, hck, Instr.findKey, run_underlying hd.1, h1, Sem.run_pure, hje, Option.map_some, Option.getD_some, keyStays h8, setMap_run _ hr]
            · rw [hle, List.getElem?_set] at hp
              rw [Array.getElem?_modify]
              split at hp
              · rename_i hj
                subst hj
                obtain rfl := Option.some.inj hp
                exact ⟨{ e with key := a.eval ok, val := a.eval ov }, by rw [if_pos rfl, hje]; rfl, hk2, hv2⟩
              · rename_i hj
                obtain ⟨e2, g1, g2, g3⟩ := hent i2 p hp
                exact ⟨e2, by rw [if_neg hj, ← Array.getElem?_toList]; exact g1, g2, g3⟩
        · cases h
      · cases h
    · cases h
  · cases h
theorem newM_ents {T : Tab} {P : Program} {t : Nat} : (newM T P t).ents T P = [] := by
  unfold newM
  split
  · split
    · rename_i kt vt _ h; rw [ents_ty h]; rfl
    · rfl
  · rfl
theorem makeMap_sound {a : Act} {as : List Act} (H : RelM E.T E.P W0 okb μ st (a :: as) w) {nb : Nat} (hnb : Fr μ nb) {o : Oper} {t : Nat} (ho : o.op = .makeMap t none) {K : VE E → SE E → Option R} (h : K (.mapr nb) { st with hp := (nb, .map (newM E.T E.P t) false) :: st.hp, nx := nb + 1 } = some r) :
    ∃ v st', K v st' = some r ∧ OpRes E W0 okb μ st.nx nb (a :: as) a o w v st' := by
  have hnew := H.new (nb := nb) (c := .map (some w.heap.size)) (blk := .map (newM E.T E.P t) false) (w' := w.alloc (.map #[] 0)) hnb (World.grownBy_alloc w _ none) rfl (fun k hk => by simp only [blockOf, Option.some.injEq] at hk; omega) fun ok' hok' hμ' =>
    .map _ false w.heap.size #[] 0 (upd_same _ _ _) (H.below.new _ (Nat.le_refl _)) (heap_alloc_new w _) (by rw [newM_ents]; rfl) fun j p hp => by rw [newM_ents] at hp; cases hp
  refine ⟨_, _, h, _, .map (some w.heap.size), _, side_upd _ _ _ _, .inl ?_, hnew.1, .mapr _ _ (upd_same _ _ _)⟩
  unfold execOp
  simp only [ho, Option.map_none, Instr.makeMap, Sem.run_bind, Sem.run_pure, Result.andThen_ok, run_newObj_alloc]
end
end Go.Proofs.YtpbpebjfglfjfaaGreatDoor.X
