/-
  SOUNDNESS: maps whose keys are numbers or texts.
-/
import Derived.Test.YtbcpnhnalhhfoaaGreatDoorX9
set_option autoImplicit false
set_option linter.unusedVariables false
set_option linter.unusedSimpArgs false
namespace Go.Proofs.YtbcpnhnalhhfoaaGreatDoor.X
open Go Go.RowKit
section
variable {E : Env} {W0 w : World} {okb : Nat → Prop} {μ : Nat → Option Value} {st : SE E} {acts : List Act} {R : Type} {r : R}
theorem getMap_run {P : Program} {r : Nat} {es : Array MapEntry} {n : Nat} (hb : w.heap[r]? = some (.map es n)) : (getObj r).run P w = .ok (.map es n) w := by simp [getObj, Sem.run, hb]
theorem setMap_run {P : Program} {r : Nat} {es : Array MapEntry} {n : Nat} (o : Obj) (hb : w.heap[r]? = some (.map es n)) : (setObj r o).run P w = .ok () { w with heap := w.heap.setIfInBounds r o } := by simp [setObj, Sem.run, hb]
theorem beqB (a b : ByteArray) : (a == b) = decide (a = b) := by
  obtain ⟨x⟩ := a
  obtain ⟨y⟩ := b
  have h : ((⟨x⟩ : ByteArray) == ⟨y⟩) = (x == y) := rfl
  rw [h]
  by_cases e : x = y
  · subst e; simp
  · have e2 : (⟨x⟩ : ByteArray) ≠ ⟨y⟩ := fun h => e (ByteArray.mk.inj h)
    rw [decide_eq_false e2]
    simpa using e
/-- the kinds of keys -/
def Keys (P : Program) (kt : Nat) (d : TypeDesc) (k : VE E) : Prop := P.underlying kt = some d ∧ ((∃ j q n, d = .int j ∧ k = .int q n) ∨ (∃ s, d = .string ∧ k = .str s))
theorem keyT_spec {kt : Nat} {k : VE E} (h : keyT E.P kt k = true) : ∃ d, Keys E.P kt d k := by
  unfold keyT at h
  split at h
  · rename_i j q n hu; exact ⟨_, hu, .inl ⟨_, _, _, rfl, rfl⟩⟩
  · rename_i s hu; exact ⟨_, hu, .inr ⟨_, rfl, rfl⟩⟩
  · cases h
theorem Keys.check {kt : Nat} {d : TypeDesc} {k : VE E} (h : Keys E.P kt d k) {c : Value} (hk : REP E st μ W0 okb w k c) (e : Bool) : (Instr.checkKey e 10000 kt c).run E.P w = .ok () w := by
  obtain ⟨hu, ⟨j, q, n, rfl, rfl⟩ | ⟨s, rfl, rfl⟩⟩ := h
  · rw [hk.int_inv]; unfold Instr.checkKey; simp [run_underlying hu]
  · rw [hk.str_inv]; unfold Instr.checkKey; simp [run_underlying hu]
theorem keyEq_spec {kt : Nat} {d : TypeDesc} {k x : VE E} (h : Keys E.P kt d k) {c e : Value} (hk : REP E st μ W0 okb w k c) (hx : REP E st μ W0 okb w x e) {b : Bool} (hb : keyEq k x = some b) : Instr.sameNow d c e = some b ∧ (b = true → Instr.sameBits 10000 e c = true) := by
  obtain ⟨hu, ⟨j, q, n, rfl, rfl⟩ | ⟨s, rfl, rfl⟩⟩ := h
  · cases x with
    | int q2 n2 =>
      replace hb : (match decide (q = q2) with | true => some (decide (n = n2)) | false => none) = some b := hb
      rw [hk.int_inv, hx.int_inv]
      split at hb
      · rename_i hq
        obtain rfl : q = q2 := of_decide_eq_true hq
        obtain rfl := Option.some.inj hb
        refine ⟨by unfold Instr.sameNow; simp only [if_true, Option.some.injEq]; by_cases hh : n = n2 <;> simp [hh], fun ht => ?_⟩
        obtain rfl : n = n2 := of_decide_eq_true ht
        simp [Instr.sameBits]
      · cases hb
    | _ => cases hb
  · cases x with
    | str s2 =>
      replace hb : some (eqB s s2) = some b := hb
      rw [hk.str_inv, hx.str_inv]
      obtain rfl := Option.some.inj hb
      rw [eqB_iff]
      refine ⟨by unfold Instr.sameNow; simp only [Option.some.injEq]; exact beqB _ _, fun ht => ?_⟩
      obtain rfl : s = s2 := of_decide_eq_true ht
      show (s == s) = true
      rw [beqB]; simp
    | _ => cases hb
/-- the search -/
theorem findV_spec {kt : Nat} {d : TypeDesc} {k : VE E} (h : Keys E.P kt d k) {c : Value} (hk : REP E st μ W0 okb w k c) : ∀ (l : List (VE E × VE E)) (es : List MapEntry) (i : Nat) (o : Option (VE E)), es.length = l.length →
    (∀ (j : Nat) (p : VE E × VE E), l[j]? = some p → ∃ e : MapEntry, es[j]? = some e ∧ REP E st μ W0 okb w p.1 e.key ∧ REP E st μ W0 okb w p.2 e.val) → findV k l = some o →
    ∃ q, Instr.findNow d c es i = some q ∧ ((o = none ∧ q = none) ∨ ∃ v j cv, o = some v ∧ q = some (i + j, cv) ∧ REP E st μ W0 okb w v cv)
  | [], [], i, o, _, _, ho => ⟨none, rfl, .inl ⟨(Option.some.inj ho).symm, rfl⟩⟩
  | [], _ :: _, _, _, hl, _, _ => by cases hl
  | _ :: _, [], _, _, hl, _, _ => by cases hl
  | p :: l, e :: es, i, o, hl, hr, ho => by
    have ho : find1 (keyEq k p.1) p.2 (findV k l) = some o := ho
    obtain ⟨e', he, h1, h2⟩ := hr 0 p rfl
    obtain rfl := Option.some.inj he
    unfold find1 at ho
    unfold Instr.findNow
    split at ho
    · rename_i hb
      rw [(keyEq_spec h hk h1 hb).1]
      exact ⟨_, rfl, .inr ⟨_, 0, _, (Option.some.inj ho).symm, rfl, h2⟩⟩
    · rename_i hb
      rw [(keyEq_spec h hk h1 hb).1]
      obtain ⟨q, h3, h4⟩ := findV_spec h hk l es (i + 1) o (by simpa using hl) (fun j p hp => hr (j + 1) p hp) ho
      refine ⟨q, h3, ?_⟩
      rcases h4 with h4 | ⟨v, j, cv, h5, h6, h7⟩
      · exact .inl h4
      · exact .inr ⟨v, j + 1, cv, h5, by rw [h6]; congr 2; omega, h7⟩
    · cases ho
theorem updV_spec {kt : Nat} {d : TypeDesc} {k v : VE E} (h : Keys E.P kt d k) {c cv : Value} (hk : REP E st μ W0 okb w k c) (hv : REP E st μ W0 okb w v cv) : ∀ (l : List (VE E × VE E)) (es : List MapEntry) (i : Nat) (l' : List (VE E × VE E)), es.length = l.length →
    (∀ (j : Nat) (p : VE E × VE E), l[j]? = some p → ∃ e : MapEntry, es[j]? = some e ∧ REP E st μ W0 okb w p.1 e.key ∧ REP E st μ W0 okb w p.2 e.val) → updV k v l = some l' →
    ∃ q, Instr.findNow d c es i = some q ∧ ((q = none ∧ l' = l ++ [(k, v)]) ∨ ∃ j w' e, q = some (i + j, w') ∧ es[j]? = some e ∧ j < l.length ∧ l' = l.set j (k, v) ∧ Instr.sameBits 10000 e.key c = true)
  | [], [], i, o, _, _, ho => ⟨none, rfl, .inl ⟨rfl, (Option.some.inj ho).symm⟩⟩
  | [], _ :: _, _, _, hl, _, _ => by cases hl
  | _ :: _, [], _, _, hl, _, _ => by cases hl
  | p :: l, e :: es, i, o, hl, hr, ho => by
    have ho : upd1 (keyEq k p.1) k v p l (updV k v l) = some o := ho
    obtain ⟨e', he, h1, h2⟩ := hr 0 p rfl
    obtain rfl := Option.some.inj he
    unfold upd1 at ho
    unfold Instr.findNow
    split at ho
    · rename_i hb
      obtain ⟨g1, g2⟩ := keyEq_spec h hk h1 hb
      rw [g1]
      exact ⟨_, rfl, .inr ⟨0, _, e, rfl, rfl, by simp, (Option.some.inj ho).symm, g2 rfl⟩⟩
    · rename_i hb
      rw [(keyEq_spec h hk h1 hb).1]
      split at ho
      · rename_i m hm
        obtain ⟨q, h3, h4⟩ := updV_spec h hk hv l es (i + 1) m (by simpa using hl) (fun j p hp => hr (j + 1) p hp) hm
        refine ⟨q, h3, ?_⟩
        obtain rfl := Option.some.inj ho
        rcases h4 with ⟨h4, h5⟩ | ⟨j, w', e2, h5, h6, h7, h8, h9⟩
        · exact .inl ⟨h4, by rw [h5]; rfl⟩
        · exact .inr ⟨j + 1, w', e2, by rw [h5]; congr 2; omega, h6, by simpa using h7, by rw [h8]; rfl, h9⟩
      · cases ho
    · cases ho
theorem zeroV_spec {t : Nat} {z : VE E} (h : zeroV E.P t = some z) : ∃ c, (zeroValue t).run E.P w = .ok c w ∧ REP E st μ W0 okb w z c := by
  unfold zeroV at h
  split at h
  · rename_i i hi
    split at h
    · rename_i cs hz
      obtain rfl := Option.some.inj h
      refine ⟨_, run_zero hi hz w, .agg _ _ (by simp) fun j v hv => ?_⟩
      rw [List.getElem?_map] at hv
      cases hc : cs.toList[j]? with
      | none => rw [hc] at hv; cases hv
      | some c =>
        rw [hc] at hv
        obtain rfl := Option.some.inj hv
        rw [Array.getD_eq_getD_getElem?, ← Array.getElem?_toList, hc]
        exact cv_rep c
    · rename_i z' _ hz
      obtain rfl := Option.some.inj h
      exact ⟨_, run_zero hi hz w, cv_rep _⟩
    · cases h
  · cases h
/-- the entries -/
def Entries (E : Env) (st : SE E) (μ : Nat → Option Value) (W0 : World) (okb : Nat → Prop) (w : World) (cx : Value) (l : List (VE E × VE E)) (es : Array MapEntry) : Prop :=
  ((cx = .map none ∧ es = #[]) ∨ ∃ r n, cx = .map (some r) ∧ w.heap[r]? = some (.map es n)) ∧ es.size = l.length ∧ ∀ (j : Nat) (p : VE E × VE E), l[j]? = some p → ∃ e : MapEntry, es.toList[j]? = some e ∧ REP E st μ W0 okb w p.1 e.key ∧ REP E st μ W0 okb w p.2 e.val
theorem map_own (H : RelM E.T E.P W0 okb μ st acts w) {i : Nat} {l : List (VE E × VE E)} {z : Bool} {c : Value} (hb : look st.hp i = some (.map l z)) (hc : μ i = some c) : ∃ r es n, c = .map (some r) ∧ W0.heap.size ≤ r ∧ w.heap[r]? = some (.map es n) ∧ es.size = l.length ∧
    ∀ (j : Nat) (p : VE E × VE E), l[j]? = some p → ∃ e : MapEntry, es.toList[j]? = some e ∧ REP E st μ W0 okb w p.1 e.key ∧ REP E st μ W0 okb w p.2 e.val := by
  cases H.blk i _ hb with
  | map l z r es n hm hB hh hl h =>
    rw [hc] at hm
    exact ⟨r, es, n, Option.some.inj hm, hB, hh, hl, fun j p hp => by
      obtain ⟨e, h1, h2, h3⟩ := h j p hp
      exact ⟨e, by rw [Array.getElem?_toList]; exact h1, h2, h3⟩⟩
theorem Rep.mapr_inv {T : Tab} {P : Program} {w : World} {μ : Nat → Option Value} {ok : Nat → Prop} {i : Nat} {c : Value} (h : Rep T P w μ ok (.mapr i) c) : μ i = some c := by cases h; assumption
theorem entries_spec (H : RelM E.T E.P W0 okb μ st acts w) {x : VE E} {cx : Value} (hx : REP E st μ W0 okb w x cx) {l : List (VE E × VE E)} (h : entriesV E st x = some l) : ∃ es, Entries E st μ W0 okb w cx l es := by
  unfold entriesV at h
  split at h
  · rename_i i
    split at h
    · rename_i l' z hb
      obtain rfl := Option.some.inj h
      obtain ⟨r, es, n, rfl, _, h2, h3, h4⟩ := map_own H hb hx.mapr_inv
      exact ⟨es, .inr ⟨r, n, rfl, h2⟩, h3, h4⟩
    · cases h
  · obtain rfl := Option.some.inj h
    cases hx
    exact ⟨#[], .inl ⟨rfl, rfl⟩, rfl, fun j p hp => by cases hp⟩
  · cases h
theorem lookOk_spec {ok : Bool} {v : VE E} {b : Bool} {K : VE E → Option R} (h : lookOk ok v b K = some r) {c : Value} (hv : REP E st μ W0 okb w v c) : ∃ v', K v' = some r ∧ REP E st μ W0 okb w v' (if ok then .tuple #[c, .bool b] else c) := by
  unfold lookOk at h
  split at h
  · refine ⟨_, h, .tup _ _ rfl fun i u hu => ?_⟩
    match i with
    | 0 => obtain rfl := Option.some.inj hu; exact hv
    | 1 => obtain rfl := Option.some.inj hu; exact .bool b
    | n + 2 => cases hu
  · rw [force_eq] at h; exact ⟨_, h, hv⟩
theorem lookup_sound (H : RelM E.T E.P W0 okb μ st acts w) {t : Nat} {x k : VE E} {cx ck : Value} {ok : Bool} {K : VE E → Option R} (hx : REP E st μ W0 okb w x cx) (hk : REP E st μ W0 okb w k ck) (h : lookupV E st t x k ok K = some r) :
    ∃ v, K v = some r ∧ ∃ c, (Instr.lookup t cx ck ok).run E.P w = .ok c w ∧ REP E st μ W0 okb w v c := by
  unfold lookupV at h
  split at h
  · rename_i kt vt hu
    split at h
    · rename_i l hkt hl
      obtain ⟨d, hd⟩ := keyT_spec hkt
      obtain ⟨es, he, hes, hent⟩ := entries_spec H hx hl
      have hck := fun e => hd.check (st := st) (μ := μ) (W0 := W0) (okb := okb) hk e
      split at h
      · rename_i v hf
        obtain ⟨q, h1, h2⟩ := findV_spec hd hk l es.toList 0 _ (by simpa using hes) hent hf
        rcases h2 with ⟨h3, _⟩ | ⟨v', j, cv, h3, rfl, h5⟩
        · cases h3
        · obtain rfl := Option.some.inj h3
          obtain ⟨v', hK, hv'⟩ := lookOk_spec h h5
          refine ⟨v', hK, _, ?_, hv'⟩
          rcases he with ⟨rfl, rfl⟩ | ⟨rr, n, rfl, hr⟩
          · unfold Instr.lookup; simp only [Sem.run_bind, run_underlying hu, Result.andThen_ok, Sem.run_pure, hck, Instr.findKey, run_underlying hd.1, h1]
          · unfold Instr.lookup; simp only [Sem.run_bind, run_underlying hu, Result.andThen_ok, getMap_run hr, Sem.run_pure, hck, Instr.findKey, run_underlying hd.1, h1]
      · rename_i hf
        obtain ⟨q, h1, h2⟩ := findV_spec hd hk l es.toList 0 _ (by simpa using hes) hent hf
        rcases h2 with ⟨_, rfl⟩ | ⟨v', j, cv, h3, _, h5⟩
        · split at h
          · rename_i z hz
            obtain ⟨cz, h6, h7⟩ := zeroV_spec (w := w) (st := st) (μ := μ) (W0 := W0) (okb := okb) hz
            obtain ⟨v', hK, hv'⟩ := lookOk_spec h h7
            refine ⟨v', hK, _, ?_, hv'⟩
            rcases he with ⟨rfl, rfl⟩ | ⟨rr, n, rfl, hr⟩
            · unfold Instr.lookup; simp only [Sem.run_bind, run_underlying hu, Result.andThen_ok, Sem.run_pure, hck, Instr.findKey, run_underlying hd.1, h1, h6]
            · unfold Instr.lookup; simp only [Sem.run_bind, run_underlying hu, Result.andThen_ok, getMap_run hr, Sem.run_pure, hck, Instr.findKey, run_underlying hd.1, h1, h6]
          · cases h
        · cases h3
      · cases h
    · cases h
  · cases h
theorem keyStays {old new : Value} (h : Instr.sameBits 10000 old new = true) (P : Program) (w : World) : (Instr.keyThatStays old new).run P w = .ok new w := by
  unfold Instr.keyThatStays
  simp [h]
theorem mapUpdate_sound {a : Act} {as : List Act} (H : RelM E.T E.P W0 okb μ st (a :: as) w) {nb : Nat} {o : Oper} {t : Nat} {om ok ov : Operand} (ho : o.op = .mapUpdate t om ok ov) {K : VE E → SE E → Option R} (h : mapUpdateV E st t (st.ev om) (st.ev ok) (st.ev ov) (fun st' => K .unk st') = some r) :
    ∃ v st', K v st' = some r ∧ OpRes E W0 okb μ st.nx nb (a :: as) a o w v st' := by
  have hm := ev_rep H om
  have hk := ev_rep H ok
  have hv := ev_rep H ov
  unfold mapUpdateV at h
  split at h
  · rename_i kt vt hu
    split at h
    · rename_i i hkt hx
      rw [hx] at hm
      split at h
      · rename_i l hb
        split at h
        · rename_i l' hup
          obtain ⟨d, hd⟩ := keyT_spec hkt
          obtain ⟨rr, es, n, hcx, hB, hr, hsz, hent⟩ := map_own H hb hm.mapr_inv
          have hmu : μ i = some (.map (some rr)) := by rw [hm.mapr_inv, hcx]
          have hlt : rr < w.heap.size := (Array.getElem?_eq_some_iff.1 hr).1
          have hck := hd.check (st := st) (μ := μ) (W0 := W0) (okb := okb) hk false
          obtain ⟨q, h1, h2⟩ := updV_spec hd hk hv l es.toList 0 l' (by simpa using hsz) hent hup
          have fin : ∀ (es' : Array MapEntry) (n' : Nat), (Instr.mapUpdate t (a.eval om) (a.eval ok) (a.eval ov)).run E.P w = .ok () { w with heap := w.heap.setIfInBounds rr (.map es' n') } → es'.size = l'.length →
              (∀ (j : Nat) (p : VE E × VE E), l'[j]? = some p → ∃ e : MapEntry, es'[j]? = some e ∧ REP E st μ W0 okb w p.1 e.key ∧ REP E st μ W0 okb w p.2 e.val) → ∃ v st', K v st' = some r ∧ OpRes E W0 okb μ st.nx nb (a :: as) a o w v st' := by
            intro es' n' hrun hl' hr'
            have hg : w.grownBy { w with heap := w.heap.setIfInBounds rr (.map es' n') } (some rr) := ⟨rfl, rfl, rfl, by simp, fun k _ hk => by simp [Array.getElem?_setIfInBounds_ne (show rr ≠ k from fun e => hk (by rw [e]))]⟩
            have hwr := H.write (b1 := .map l' false) (k := rr) (w' := { w with heap := w.heap.setIfInBounds rr (.map es' n') }) hb rfl hmu rfl hg fun ok' hok' => by
              refine .map l' false rr es' n' hmu hB (by simp [hlt]) hl' fun j p hp => ?_
              obtain ⟨e, g1, g2, g3⟩ := hr' j p hp
              exact ⟨e, g1, g2.mono hok' (fun _ _ h => h), g3.mono hok' (fun _ _ h => h)⟩
            refine ⟨_, _, h, μ, undef, _, side_same _ _ _, .inr ⟨?_, rfl⟩, hwr.1.nx (Nat.le_max_left _ _), .unk _⟩
            unfold execOp
            simp only [ho, Sem.run_bind, hrun, Result.andThen_ok, Sem.run_pure]
          rcases h2 with ⟨rfl, rfl⟩ | ⟨j, w', e, rfl, h5, h6, rfl, h8⟩
          · refine fin (es.push { key := a.eval ok, val := a.eval ov, born := n }) (n + 1) ?_ (by simp [hsz]) fun j p hp => ?_
            · unfold Instr.mapUpdate
              simp only [Sem.run_bind, run_underlying hu, Result.andThen_ok, hcx, getMap_run hr, hck, Instr.findKey, run_underlying hd.1, h1, Sem.run_pure, setMap_run _ hr]
            · rw [List.getElem?_append] at hp
              split at hp
              · rename_i hj
                obtain ⟨e, g1, g2, g3⟩ := hent j p hp
                refine ⟨e, ?_, g2, g3⟩
                rw [Array.getElem?_push_lt (by omega)]
                rw [Array.getElem?_toList] at g1
                rw [← g1]; simp [hsz, hj]
              · rename_i hj
                have hj2 : j = l.length := by
                  rcases Nat.lt_or_ge (j - l.length) 1 with h | h
                  · omega
                  · rw [List.getElem?_eq_none (by simpa using h)] at hp; cases hp
                subst hj2
                simp only [Nat.sub_self, List.getElem?_cons_zero] at hp
                obtain rfl := Option.some.inj hp
                exact ⟨{ key := a.eval ok, val := a.eval ov, born := n }, by rw [← hsz]; simp, hk, hv⟩
          · rw [Nat.zero_add] at h1
            have hje : es[j]? = some e := by rw [← Array.getElem?_toList]; exact h5
            refine fin (es.modify j fun e => { e with key := a.eval ok, val := a.eval ov }) n ?_ (by simp [hsz]) fun i2 p hp => ?_
            · unfold Instr.mapUpdate
              simp only [Sem.run_bind, run_underlying hu, Result.andThen_ok, hcx, getMap_run hr, hck, Instr.findKey, run_underlying hd.1, h1, Sem.run_pure, hje, Option.map_some, Option.getD_some, keyStays h8, setMap_run _ hr]
            · rw [List.getElem?_set] at hp
              rw [Array.getElem?_modify]
              split at hp
              · rename_i hj
                subst hj
                obtain rfl := Option.some.inj hp
                exact ⟨{ e with key := a.eval ok, val := a.eval ov }, by rw [if_pos rfl, hje]; rfl, hk, hv⟩
              · rename_i hj
                obtain ⟨e2, g1, g2, g3⟩ := hent i2 p hp
                exact ⟨e2, by rw [if_neg hj, ← Array.getElem?_toList]; exact g1, g2, g3⟩
        · cases h
      · cases h
    · cases h
  · cases h
theorem makeMap_sound {a : Act} {as : List Act} (H : RelM E.T E.P W0 okb μ st (a :: as) w) {nb : Nat} (hnb : Fr μ nb) {o : Oper} {t : Nat} (ho : o.op = .makeMap t none) {K : VE E → SE E → Option R} (h : K (.mapr nb) { st with hp := (nb, .map [] false) :: st.hp, nx := nb + 1 } = some r) :
    ∃ v st', K v st' = some r ∧ OpRes E W0 okb μ st.nx nb (a :: as) a o w v st' := by
  have hnew := H.new (nb := nb) (c := .map (some w.heap.size)) (blk := .map [] false) (w' := w.alloc (.map #[] 0)) hnb (World.grownBy_alloc w _ none) rfl (fun k hk => by simp only [blockOf, Option.some.injEq] at hk; omega) fun ok' hok' hμ' =>
    .map [] false w.heap.size #[] 0 (upd_same _ _ _) H.below.size (heap_alloc_new w _) rfl fun j p hp => by cases hp
  refine ⟨_, _, h, _, .map (some w.heap.size), _, side_upd _ _ _ _, .inl ?_, hnew.1, .mapr _ _ (upd_same _ _ _)⟩
  unfold execOp
  simp only [ho, Option.map_none, Instr.makeMap, Sem.run_bind, Sem.run_pure, Result.andThen_ok, run_newObj_alloc]
end
end Go.Proofs.YtbcpnhnalhhfoaaGreatDoor.X
