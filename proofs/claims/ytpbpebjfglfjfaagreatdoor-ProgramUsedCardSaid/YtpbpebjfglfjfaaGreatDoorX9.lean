/-
  SOUNDNESS: slice literals; stores.
-/
import Derived.Test.YtpbpebjfglfjfaaGreatDoorX8
set_option autoImplicit false
set_option linter.unusedVariables false
set_option linter.unusedSimpArgs false
namespace Go.Proofs.YtpbpebjfglfjfaaGreatDoor.X
open Go Go.RowKit
section
variable {E : Env} {W0 : Wd} {w : World} {okb : Nat → Prop} {μ : Nat → Option Value} {st : SE E} {acts : List Act} {R : Type} {r : R}
theorem lit_spec (hp : List (Nat × Blk E.T.A)) (e : Nat) : ∀ (ps : List (Nat × VE E)) (n : Nat) (l : List (E.T.A e)), litV E.T E.P hp e ps n = some l → l.length = ps.length ∧
    ∀ j p, ps[j]? = some p → p.1 = n + j ∧ p.2.cells.length = szT E.P e ∧ oneL p.2.cells = true ∧ ∃ cs x, shutL hp p.2.cells = some cs ∧ E.T.dec e cs = some x ∧ l[j]? = some x
  | [], n, l, h => by obtain rfl := Option.some.inj h; exact ⟨rfl, fun j p hp => by cases hp⟩
  | p :: ps, n, l, h => by
    have h : lit1 E.T E.P hp e p n (litV E.T E.P hp e ps (n + 1)) = some l := h
    unfold lit1 at h
    split at h
    · rename_i cs h1 h2 h3 h4
      split at h
      · rename_i x m hx hm
        obtain rfl := Option.some.inj h
        obtain ⟨i1, i2⟩ := lit_spec hp e ps (n + 1) m hm
        refine ⟨by simp [i1], fun j q hq => ?_⟩
        cases j with
        | zero => obtain rfl := Option.some.inj hq; exact ⟨Nat.eq_of_beq_eq_true h1, Nat.eq_of_beq_eq_true h2, h3, cs, x, h4, hx, rfl⟩
        | succ j =>
          obtain ⟨a1, a2, a3, cs', x', a4, a5, a6⟩ := i2 j q hq
          exact ⟨by omega, a2, a3, cs', x', a4, a5, a6⟩
      · cases h
    · cases h
theorem parts_get (st : SE E) (ps : List (Nat × Operand)) {j : Nat} (h : j < ps.length) : (partsV st ps)[j]? = some (ps[j].1, st.ev ps[j].2) := by unfold partsV; rw [List.getElem?_map, List.getElem?_eq_getElem h]; rfl
theorem run_buildSlice_nil {P : Program} (w : World) (t e : TypeId) (ie : TypeInfo) (hu : P.underlying t = some (.slice e)) (hie : P.info? e = some ie) : (Instr.buildSlice t 0 #[]).run P w = .ok (.slice (some ⟨w.heap.size, 0, none⟩) 0 0) (w.alloc (.cells #[] e)) := by
  simp [Instr.buildSlice, run_underlying hu, sizeOf, typeInfo, hie, Instr.fill, newRow, Array.range_zero']
theorem buildSlice_sound (hT : E.T.Ok E.P) {a : Act} {as : List Act} (H : RelM E.T E.P W0 okb μ st (a :: as) w) {nb : Nat} (hnb : Fr μ nb) {o : Oper} {t len : Nat} {ps : Array (Nat × Operand)} (ho : o.op = .buildSlice t len ps) {K : VE E → SE E → Option R} (h : buildSliceV E st nb t len (partsV st ps.toList) K = some r) :
    ∃ v st', K v st' = some r ∧ OpRes E W0 okb μ st.nx nb (a :: as) a o w v st' := by
  unfold buildSliceV at h
  split at h
  · cases h
  · rename_i e he
    have hu := elemT_spec he
    split at h
    · rename_i l hk hlen hsm hlit
      have hlen := Nat.eq_of_beq_eq_true hlen
      have hsm := Nat.le_of_ble_eq_true hsm
      obtain ⟨i, z, hi, hz, hzz, hby⟩ := hT.info e hk
      have hsz : szT E.P e = i.size := szT_of hi
      have hsp := hT.size e hk
      have hpl : (partsV st ps.toList).length = ps.toList.length := by simp [partsV]
      obtain ⟨hll, hparts⟩ := lit_spec st.hp e _ 0 l hlit
      have hone : ∀ i c, μ i = some c → c.oneCell' = true := fun i c h => (H.dom i c h).2
      generalize hids : ((partsV st ps.toList).flatMap fun p => p.2.cells.flatMap (V.ids 2)) = ids at h
      have Hf := (H.freeze ids).1
      -- the cells of element j
      have hcell : ∀ (j : Nat) (x : E.T.A e) (q : Nat) (v : VE E), l[j]? = some x → (E.T.enc e x)[q]? = some v → ∃ p : Nat × Operand, ps.toList[j]? = some p ∧ Rep E.T E.P w μ (okM (freeze st.hp ids) μ W0 okb w) v ((a.eval p.2).cells.getD q undef) := by
        intro j x q v hx hv
        have hj : j < (partsV st ps.toList).length := by rw [← hll]; exact (List.getElem?_eq_some_iff.1 hx).1
        have hj' : j < ps.toList.length := by omega
        have hpj := parts_get st ps.toList hj'
        obtain ⟨_, a2, a3, cs, x', a4, a5, a6⟩ := hparts j _ hpj
        rw [hx] at a6
        obtain rfl := Option.some.inj a6
        refine ⟨ps.toList[j], List.getElem?_eq_getElem hj', ?_⟩
        obtain ⟨c1, c2⟩ := cells_rep (ev_rep H ps.toList[j].2) hone a3
        refine dec_rep hT (cs := cs) (ds := fun q => (a.eval ps.toList[j].2).cells.getD q undef) hk a5 (fun q u hu => ?_) q v hv
        obtain ⟨b1, b2⟩ := shutL_spec a4
        have hq : q < (st.ev ps.toList[j].2).cells.length := by rw [← b1]; exact (List.getElem?_eq_some_iff.1 hu).1
        obtain ⟨u', b3, b4⟩ := b2 q _ (List.getElem?_eq_getElem hq)
        rw [hu] at b3
        obtain rfl := Option.some.inj b3
        refine shut_frozen H ids 2 _ u _ b4 (c2 q _ (List.getElem?_eq_getElem hq)) fun k hk2 => ?_
        rw [← hids]
        exact List.mem_flatMap.2 ⟨_, List.mem_of_getElem? hpj, List.mem_flatMap.2 ⟨_, List.getElem_mem hq, hk2⟩⟩
      have fin : ∀ (cells : Array Value), (Instr.buildSlice t len (ps.map fun (i, x) => (i, a.eval x))).run E.P w = .ok (.slice (some ⟨w.heap.size, 0, none⟩) len len) (w.alloc (.cells cells e)) → cells.size = len * szT E.P e →
          (∀ (j : Nat) (x : E.T.A e) (q : Nat) (v : VE E), l[j]? = some x → (E.T.enc e x)[q]? = some v → Rep E.T E.P w μ (okM (freeze st.hp ids) μ W0 okb w) v (cells.toList.getD (j * szT E.P e + q) undef)) →
          ∃ v st', K v st' = some r ∧ OpRes E W0 okb μ st.nx nb (a :: as) a o w v st' := by
        intro cells hrun hcs hrep
        have hnew := Hf.new (c := .slice (some ⟨w.heap.size, 0, none⟩) len len) (blk := .row e l false) hnb (World.grownBy_alloc w (.cells cells e) none) rfl
          (fun k hk => by simp only [blockOf, Option.some.injEq] at hk; omega) fun ok' hok' hμ' => ?_
        · exact ⟨_, _, h, _, _, _, side_upd _ _ _ _, .inl (by unfold execOp; simp only [ho, Sem.run_bind, hrun, Result.andThen_ok, Sem.run_pure]), hnew.1, .own _ _ (upd_same _ _ _)⟩
        · refine .row e l false _ cells.toList hk (upd_same _ _ _) ?_ fun j x q v hx hv => (hrep j x q v hx hv).mono hok' hμ'
          rw [hll, hlen]
          have := World.ownsRow_lit (base := w.heap.size) (e := e) (size := szT E.P e) w cells len (Nat.le_refl _) (by simp only [maxLen]; have := Nat.le_mul_of_pos_right len hsp; omega) hcs
          exact ownsR_of H.below.new this
      by_cases h0 : len = 0
      · subst h0
        have hps : ps = #[] := by
          have : ps.toList.length = 0 := by omega
          have : ps.size = 0 := by simpa using this
          exact Array.eq_empty_of_size_eq_zero this
        refine fin #[] ?_ (by simp) fun j x q v hx => ?_
        · rw [hps, Array.map_empty]; exact run_buildSlice_nil w t e i hu hi
        · have := (List.getElem?_eq_some_iff.1 hx).1; omega
      · have hvs : ∀ v ∈ ps.toList.map (fun p => a.eval p.2), v.cells.size = i.size := by
          intro v hv
          obtain ⟨p, hp, rfl⟩ := List.mem_map.1 hv
          obtain ⟨j, hj, rfl⟩ := List.getElem_of_mem hp
          have hpj := parts_get st ps.toList hj
          obtain ⟨_, a2, a3, _⟩ := hparts j _ hpj
          obtain ⟨c1, _⟩ := cells_rep (ev_rep H ps.toList[j].2) hone a3
          rw [c1]; rw [← hsz]; exact a2
        have hlist : (ps.map fun (i, x) => (i, a.eval x)).toList = ((ps.toList.map fun p => a.eval p.2).zipIdx 0).map fun x => (x.2, x.1) := by
          apply List.ext_getElem?
          intro j
          by_cases hj : j < ps.toList.length
          · have hpj := parts_get st ps.toList hj
            obtain ⟨a1, _⟩ := hparts j _ hpj
            have hj2 : j < ps.size := by simpa using hj
            simp [hj2] at a1 ⊢
            exact a1
          · have hj2 : ps.size ≤ j := by simpa using hj
            simp [hj2]
        have hpl2 : (ps.toList.map fun p => a.eval p.2).length = len := by rw [List.length_map]; omega
        have hcz : ((Array.range (len * i.size)).map (z.cells[· % z.cells.size]!)).size = len * i.size := by simp
        obtain ⟨cells, g1, g2, g3⟩ := Great.fill_dense (s := i.size) (by omega) (ps.toList.map fun p => a.eval p.2) 0 ((Array.range (len * i.size)).map (z.cells[· % z.cells.size]!)) hvs (by rw [Nat.zero_add, hpl2, hcz]; exact Nat.le_refl _)
        refine fin cells (run_buildSlice w t e len _ cells i z hu hi hz (by rw [← hsz]; omega) (by rw [← hsz]; exact Nat.ne_of_gt (Nat.mul_pos (by omega) hsp)) (by rw [hlist]; exact g1)) (by rw [g2, hcz, hsz]) fun j x q v hx hv => ?_
        obtain ⟨p, hp, hr⟩ := hcell j x q v hx hv
        have hj : j < len := by have := (List.getElem?_eq_some_iff.1 hx).1; omega
        have hq : q < i.size := by rw [← hsz, ← hT.len e x hk]; exact (List.getElem?_eq_some_iff.1 hv).1
        have hidx : j * i.size + q < len * i.size := by
          have := Nat.mul_le_mul_right i.size (show j + 1 ≤ len by omega)
          rw [Nat.add_mul, Nat.one_mul] at this; omega
        have hval : cells.toList.getD (j * szT E.P e + q) undef = (a.eval p.2).cells.getD q undef := by
          rw [hsz, List.getD_eq_getElem?_getD, Array.getElem?_toList, g3, Nat.zero_add, Nat.zero_mul, hpl2, if_pos ⟨Nat.zero_le _, hidx⟩]
          have e1 : (j * i.size + q) / i.size - 0 = j := by rw [Nat.mul_comm, Nat.mul_add_div (by omega), Nat.div_eq_of_lt hq]; rfl
          have e2 : (j * i.size + q) % i.size = q := by rw [Nat.mul_comm, Nat.mul_add_mod, Nat.mod_eq_of_lt hq]
          rw [e1, e2, List.getElem?_map, hp, Array.getD_eq_getD_getElem?]
          rfl
        rw [hval]; exact hr
    · cases h

/-! stores -/
theorem splice_get {α : Type} (l new : List α) (off : Nat) (hb : off + new.length ≤ l.length) (j : Nat) : (l.take off ++ new ++ l.drop (off + new.length))[j]? = if j < off then l[j]? else if j < off + new.length then new[j - off]? else l[j]? := by
  by_cases h1 : j < off
  · rw [if_pos h1, List.append_assoc, List.getElem?_append_left (by rw [List.length_take]; omega), List.getElem?_take, if_pos h1]
  · rw [if_neg h1]
    have e1 : (l.take off).length = off := by rw [List.length_take]; omega
    by_cases h2 : j < off + new.length
    · rw [if_pos h2, List.append_assoc, List.getElem?_append_right (by omega), List.getElem?_append_left (by omega), e1]
    · rw [if_neg h2, List.getElem?_append_right (by rw [List.length_append]; omega), List.getElem?_drop]
      congr 1
      rw [List.length_append]; omega
theorem splice_off {α : Type} (l new : List α) (o p : Nat) (hb : o + p + new.length ≤ l.length) : (l.take (o + p) ++ new ++ l.drop (o + p + new.length)).drop o = (l.drop o).take p ++ new ++ (l.drop o).drop (p + new.length) := by
  apply List.ext_getElem?
  intro j
  rw [List.getElem?_drop, splice_get l new (o + p) hb, splice_get (l.drop o) new p (by rw [List.length_drop]; omega), List.getElem?_drop]
  by_cases h1 : j < p
  · rw [if_pos (by omega), if_pos h1]
  · rw [if_neg (by omega), if_neg h1]
    by_cases h2 : j < p + new.length
    · rw [if_pos (by omega), if_pos h2, show o + j - (o + p) = j - p by omega]
    · rw [if_neg (by omega), if_neg h2]
theorem run_storeVar_at (w : World) {g o t e : Nat} {cur : Array Value} {v : Value} {n : Nat} (hg : w.heap[g]? = some (.cells cur e (0, 0))) (hn : v.cells.size = szT E.P t) (h0 : szT E.P t ≠ 0) (hb : o + v.cells.size ≤ cur.size) (h1 : ∀ c ∈ v.cells.toList, c.oneCell' = true) :
    (storeVar t ⟨g, o, none⟩ v).run E.P w = .ok () (w.setRow g (cur.toList.take o ++ v.cells.toList ++ cur.toList.drop (o + v.cells.size)).toArray) := by
  obtain ⟨i, hi, hs⟩ := szT_info (E := E) h0
  have := run_storeCells_at E.P g o e v.cells.toList 0 cur w hg (by simpa using hb) h1
  simp only [Nat.add_zero, Array.length_toList] at this
  simp [storeVar, sizeOf, typeInfo, hi, hs, hn, this]
theorem cells_one {v : VE E} {c : Value} (h : REP E st μ W0 okb w v c) (hμ : ∀ i x, μ i = some x → x.oneCell' = true) (h1 : oneL v.cells = true) : ∀ x ∈ c.cells.toList, x.oneCell' = true := by
  obtain ⟨a1, a2⟩ := cells_rep h hμ h1
  intro x hx
  obtain ⟨j, hj, rfl⟩ := List.getElem_of_mem hx
  have hj2 : j < c.cells.size := by simpa using hj
  have hj3 : j < v.cells.length := by omega
  have := (a2 j _ (List.getElem?_eq_getElem hj3)).oneCell (oneL_mem h1 _ (List.getElem_mem hj3)) hμ
  simpa [Array.getD_eq_getD_getElem?, hj2] using this
theorem memN_iff (i : Nat) (l : List Nat) : memN i l = true ↔ i ∈ l := by
  induction l with
  | nil => simp [memN]
  | cons x l ih =>
    have e : memN i (x :: l) = match Nat.beq x i with | true => true | false => memN i l := rfl
    rw [e, beq_iff]
    by_cases h : x = i
    · simp [h]
    · simp [h, ih, Ne.symm h]
/-- one block of the call's own is written -/
theorem RelM.write (H : RelM E.T E.P W0 okb μ st acts w) {i : Nat} {b0 b1 : Blk E.T.A} {c : Value} {k : Nat} {w' : World} (hb : look st.hp i = some b0) (hlive : b0.live = true) (hc : μ i = some c) (hk : blockOf c = some k) (hw : w.grownBy w' (some k))
    (hB : ∀ ok' : Nat → Prop, (∀ b, okM st.hp μ W0 okb w b → ok' b ∧ w'.heap[b]? = w.heap[b]?) → BlkRel E.T E.P W0 w' μ ok' i b1) :
    RelM E.T E.P W0 okb μ { st with hp := setk st.hp i b1 } acts w' ∧ (∀ b, okM st.hp μ W0 okb w b → okM (setk st.hp i b1) μ W0 okb w' b ∧ w'.heap[b]? = w.heap[b]?) := by
  have hlk : ∀ j bj, look (setk st.hp i b1) j = some bj → (j = i ∧ bj = b1) ∨ (j ≠ i ∧ look st.hp j = some bj) := by
    intro j bj hj
    rw [look_setk] at hj
    split at hj
    · rename_i e; exact .inl ⟨e.1, (Option.some.inj hj).symm⟩
    · rename_i e
      refine .inr ⟨fun e2 => e ⟨e2, by rw [← e2, hj]; rfl⟩, hj⟩
  refine H.step (w' := w') (μ' := μ) (setk st.hp i b1) st.nx (some k) (fun k' h => by obtain rfl := Option.some.inj h; exact ⟨((H.blk i b0 hb).block hc hk).1, i, b0, c, hb, hlive, hc, hk⟩) hw (fun _ _ h => h) H.dom ?_ ?_ ?_
  · intro b hbok j bj d hj hl hd
    rcases hlk j bj hj with ⟨rfl, rfl⟩ | ⟨_, h2⟩
    · rw [hc] at hd; obtain rfl := Option.some.inj hd
      exact hbok.2.2 j b0 c hb hlive hc
    · exact hbok.2.2 j bj d h2 hl hd
  · intro hmono j bj hj
    rcases hlk j bj hj with ⟨rfl, rfl⟩ | ⟨h1, h2⟩
    · exact .inr (hB _ hmono)
    · obtain ⟨d, hd⟩ := (H.blk j bj h2).mu
      exact .inl ⟨bj, d, h2, .inl rfl, hd, fun k' hk' hd' => h1 (H.inj j i bj b0 d c k h2 hb hd hc (by obtain rfl := Option.some.inj hk'; exact hd') hk)⟩
  · intro j j2 bj bj2 d d2 k' hj hj2 hd hd2 hk1 hk2
    have ex : ∀ j bj, look (setk st.hp i b1) j = some bj → ∃ b, look st.hp j = some b := fun j bj hj => by
      rcases hlk j bj hj with ⟨rfl, _⟩ | ⟨_, h2⟩
      · exact ⟨b0, hb⟩
      · exact ⟨bj, h2⟩
    obtain ⟨x1, h1⟩ := ex j bj hj
    obtain ⟨x2, h2⟩ := ex j2 bj2 hj2
    exact H.inj j j2 x1 x2 d d2 k' h1 h2 hd hd2 hk1 hk2
theorem store_sound (hT : E.T.Ok E.P) {a : Act} {as : List Act} (H : RelM E.T E.P W0 okb μ st (a :: as) w) {nb : Nat} {o : Oper} {t : Nat} {oa ox : Operand} (ho : o.op = .store t oa ox) {K : SE E → Option R} (h : storeV E st t (st.ev oa) (st.ev ox) K = some r) :
    ∃ st', K st' = some r ∧ OpRes E W0 okb μ st.nx nb (a :: as) a o w .unk st' := by
  have hone : ∀ i c, μ i = some c → c.oneCell' = true := fun i c h => (H.dom i c h).2
  have hex := ev_rep H ox
  have hea := ev_rep H oa
  unfold storeV at h
  split at h
  · rename_i hlen h1 hz
    have hlen := Nat.eq_of_beq_eq_true hlen
    have hz : szT E.P t ≠ 0 := by rw [beq_iff] at hz; exact of_decide_eq_false hz
    obtain ⟨c1, c2⟩ := cells_rep hex hone h1
    have c3 := cells_one hex hone h1
    generalize hcx : a.eval ox = cx at *
    split at h
    · rename_i i off hea'
      rw [hea'] at hea
      split at h
      · rename_i l hb
        split at h
        · rename_i l' hl'
          rw [putN_eq] at hl'
          split at hl'
          · rename_i hbd
            obtain rfl := Option.some.inj hl'
            generalize hca : a.eval oa = ca at *
            cases hea with | ptr _ _ b hm =>
            cases H.blk i _ hb with | var _ _ b' cs e hm' hB hh hl hr =>
            rw [hm] at hm'
            simp only [Option.some.injEq, Value.pointer.injEq, Addr.mk.injEq, and_true] at hm'
            subst hm'
            have hst := run_storeVar_at (E := E) w (o := off) (t := t) (v := cx) (n := 0) hh (by rw [c1, hlen]) hz (by rw [c1, hl]; omega) c3
            have hwr := H.write (b1 := .var (List.take off l ++ (st.ev ox).cells ++ List.drop (off + (st.ev ox).cells.length) l) false) (k := b) (w' := w.setRow b (cs.toList.take off ++ cx.cells.toList ++ cs.toList.drop (off + cx.cells.size)).toArray) hb rfl hm rfl
              ⟨rfl, rfl, rfl, by simp, fun k _ hk => setRow_other w b k _ (fun e => hk (by simp [e]))⟩ fun ok' hok' => ?_
            · exact ⟨_, h, _, undef, _, side_same _ _ _, .inr ⟨by unfold execOp; simp only [ho, hca, hcx, Instr.storeAt, Instr.sureAddr, Sem.run_bind, Sem.run_pure, Result.andThen_ok, hst], rfl⟩, hwr.1.nx (Nat.le_max_left _ _), .unk _⟩
            · refine .var _ false b _ e hm hB (setRow_heap w b cs _ e _ hh) ?_ fun j v hv => ?_
              · simp only [List.size_toArray, List.length_append, List.length_take, List.length_drop, Array.length_toList]; omega
              · generalize w.setRow b (cs.toList.take off ++ cx.cells.toList ++ cs.toList.drop (off + cx.cells.size)).toArray = ww at hok' ⊢
                rw [splice_get l (st.ev ox).cells off (by omega)] at hv
                rw [Array.getD_eq_getD_getElem?, List.getElem?_toArray, ← Array.length_toList (xs := cx.cells), splice_get cs.toList cx.cells.toList off (by rw [Array.length_toList, Array.length_toList]; omega), Array.length_toList, c1]
                split at hv
                · rename_i hj
                  rw [if_pos hj, Array.getElem?_toList, ← Array.getD_eq_getD_getElem?]
                  exact (hr j v hv).mono hok' (fun _ _ h => h)
                · rename_i hj
                  rw [if_neg hj]
                  split at hv
                  · rename_i hj2
                    rw [if_pos hj2, Array.getElem?_toList, ← Array.getD_eq_getD_getElem?]
                    exact (c2 _ v hv).mono hok' (fun _ _ h => h)
                  · rename_i hj2
                    rw [if_neg hj2, Array.getElem?_toList, ← Array.getD_eq_getD_getElem?]
                    exact (hr j v hv).mono hok' (fun _ _ h => h)
          · cases hl'
        · cases h
      · cases h
    · rename_i e i j off hea'
      rw [hea'] at hea
      split at h
      · rename_i e' l hb
        split at h
        · rename_i hee
          subst hee
          split at h
          · rename_i cs hcs
            split at h
            · rename_i cs' hcs'
              split at h
              · rename_i y hy
                split at h
                · rename_i hmem
                  generalize hca : a.eval oa = ca at *
                  cases hea with | elt _ _ _ _ b og n cap hm hj =>
                  generalize hids : (st.ev ox).cells.flatMap (V.ids 2) = ids at h hmem
                  have hni : i ∉ ids := fun hi => by rw [(memN_iff i ids).2 hi] at hmem; cases hmem
                  have Hf := (H.freeze ids).1
                  have hbf : look (freeze st.hp ids) i = some (.row e' l false) := by rw [look_freeze, hb]; simp [hni]
                  have hB := Hf.blk i _ hbf
                  cases hB with | row _ _ _ c xs hk hm' how hr =>
                  rw [hm] at hm'
                  obtain rfl := Option.some.inj hm'
                  have how' := how
                  rcases how.2 with ⟨h0, _⟩ | ⟨g, og', cap', cur, h0, hBg, hh, hcap, hmax, hcs2, htk⟩
                  · cases h0
                  · simp only [Value.slice.injEq, Option.some.injEq, Addr.mk.injEq, and_true] at h0
                    obtain ⟨⟨rfl, rfl⟩, rfl, rfl⟩ := h0
                    have hgx := gt_get (E.T.dflt e') l j hj
                    have hel := hT.len e' (gt (E.T.dflt e') l j) hk
                    rw [putN_eq] at hcs'
                    split at hcs'
                    · rename_i hbd0
                      have hbd : off ≤ (E.T.enc e' (gt (E.T.dflt e') l j)).length ∧ cs.length ≤ (E.T.enc e' (gt (E.T.dflt e') l j)).length - off := hbd0
                      clear hbd0
                      obtain rfl := Option.some.inj hcs'
                      have hy : E.T.dec e' ((E.T.enc e' (gt (E.T.dflt e') l j)).take off ++ cs ++ (E.T.enc e' (gt (E.T.dflt e') l j)).drop (off + cs.length)) = some y := hy
                      obtain ⟨b1, b2⟩ := shutL_spec hcs
                      have hjs : j * szT E.P e' + szT E.P e' ≤ l.length * szT E.P e' := by
                        have := Nat.mul_le_mul_right (szT E.P e') (show j + 1 ≤ l.length by omega)
                        rw [Nat.add_mul, Nat.one_mul] at this; omega
                      have hcz : og + l.length * szT E.P e' ≤ cur.size := by have := Nat.mul_le_mul_right (szT E.P e') hcap; omega
                      have hst := run_storeVar_at (E := E) w (o := og + (j * szT E.P e' + off)) (t := t) (v := cx) (n := 0) hh (by rw [c1, hlen]) hz (by omega) c3
                      have hwr := Hf.write (b1 := .row e' (l.set j y) false) (k := b) (w' := w.setRow b (cur.toList.take (og + (j * szT E.P e' + off)) ++ cx.cells.toList ++ cur.toList.drop (og + (j * szT E.P e' + off) + cx.cells.size)).toArray) hbf rfl hm rfl
                        ⟨rfl, rfl, rfl, by simp, fun k _ hk => setRow_other w b k _ (fun e => hk (by simp [e]))⟩ fun ok' hok' => ?_
                      · exact ⟨_, h, _, undef, _, side_same _ _ _, .inr ⟨by unfold execOp; simp only [ho, hca, hcx, Instr.storeAt, Instr.sureAddr, Sem.run_bind, Sem.run_pure, Result.andThen_ok, hst], rfl⟩, hwr.1.nx (Nat.le_max_left _ _), .unk _⟩
                      · have hheap := setRow_heap w b cur (cur.toList.take (og + (j * szT E.P e' + off)) ++ cx.cells.toList ++ cur.toList.drop (og + (j * szT E.P e' + off) + cx.cells.size)).toArray e' (0, 0) hh
                        have hcx2 : cx.cells.toList.length = cs.length := by rw [Array.length_toList, c1, b1]
                        have hoff := splice_off cur.toList cx.cells.toList og (j * szT E.P e' + off) (by rw [Array.length_toList, Array.length_toList]; omega)
                        rw [Array.length_toList (xs := cx.cells)] at hoff
                        generalize hD : cur.toList.drop og = D at htk hoff
                        have hDl : D.length = cur.size - og := by rw [← hD, List.length_drop, Array.length_toList]
                        refine .row e' _ false _ ((D.take (j * szT E.P e' + off) ++ cx.cells.toList ++ D.drop (j * szT E.P e' + off + cx.cells.size)).take (l.length * szT E.P e')) hk hm ⟨?_, .inr ⟨b, og, cap, _, ?_, hBg, hheap, ?_, hmax, ?_, ?_⟩⟩ fun j2 x q v hx hv => ?_
                        · simp only [List.length_take, List.length_append, List.length_drop, Array.length_toList, List.length_set, hDl]; omega
                        · rw [List.length_set]
                        · rw [List.length_set]; exact hcap
                        · simp only [List.size_toArray, List.length_append, List.length_take, List.length_drop, Array.length_toList]; omega
                        · rw [List.length_set]; exact congrArg (List.take _) hoff
                        · generalize w.setRow b (cur.toList.take (og + (j * szT E.P e' + off)) ++ cx.cells.toList ++ cur.toList.drop (og + (j * szT E.P e' + off) + cx.cells.size)).toArray = ww at hok' ⊢
                          have hj2 : j2 < l.length := by have := (List.getElem?_eq_some_iff.1 hx).1; simpa using this
                          have hq : q < szT E.P e' := by rw [← hT.len e' x hk]; exact (List.getElem?_eq_some_iff.1 hv).1
                          have hidx : j2 * szT E.P e' + q < l.length * szT E.P e' := by
                            have := Nat.mul_le_mul_right (szT E.P e') (show j2 + 1 ≤ l.length by omega)
                            rw [Nat.add_mul, Nat.one_mul] at this; omega
                          have hcell : ∀ k, k < l.length * szT E.P e' → xs.getD k undef = (D[k]?).getD undef := fun k hk2 => by
                            rw [← htk, List.getD_eq_getElem?_getD, List.getElem?_take, if_pos hk2]
                          rw [List.getD_eq_getElem?_getD, List.getElem?_take, if_pos hidx, ← Array.length_toList (xs := cx.cells), splice_get D cx.cells.toList _ (by rw [hDl, Array.length_toList]; omega)]
                          by_cases hjj : j2 = j
                          · subst hjj
                            have hxy : x = y := by
                              rw [List.getElem?_set_self hj2] at hx
                              exact (Option.some.inj hx).symm
                            subst hxy
                            have hd := dec_rep hT (w' := ww) (μ' := μ) (okx := ok') (ds := fun q => (if j2 * szT E.P e' + q < j2 * szT E.P e' + off then D[j2 * szT E.P e' + q]? else if j2 * szT E.P e' + q < j2 * szT E.P e' + off + cx.cells.toList.length then cx.cells.toList[j2 * szT E.P e' + q - (j2 * szT E.P e' + off)]? else D[j2 * szT E.P e' + q]?).getD undef) hk hy (fun q v hv => ?_) q v hv
                            · exact hd
                            · have hql : q < szT E.P e' := by
                                have := (List.getElem?_eq_some_iff.1 hv).1
                                simp only [List.length_append, List.length_take, List.length_drop] at this; omega
                              have hidx : j2 * szT E.P e' + q < l.length * szT E.P e' := by omega
                              rw [splice_get (E.T.enc e' (gt (E.T.dflt e') l j2)) cs off (by omega)] at hv
                              by_cases hq1 : q < off
                              · rw [if_pos hq1] at hv
                                rw [if_pos (by omega), ← hcell _ hidx]
                                exact (hr j2 _ q v hgx hv).mono hok' (fun _ _ h => h)
                              · rw [if_neg hq1] at hv
                                rw [if_neg (by omega)]
                                by_cases hq2 : q < off + cs.length
                                · rw [if_pos hq2] at hv
                                  rw [if_pos (by omega), show j2 * szT E.P e' + q - (j2 * szT E.P e' + off) = q - off by omega]
                                  have hqo : q - off < (st.ev ox).cells.length := by omega
                                  obtain ⟨u', b3, b4⟩ := b2 (q - off) _ (List.getElem?_eq_getElem hqo)
                                  rw [hv] at b3
                                  obtain rfl := Option.some.inj b3
                                  have := shut_frozen H ids 2 _ v _ b4 (c2 (q - off) _ (List.getElem?_eq_getElem hqo)) fun k hk2 => by
                                    rw [← hids]; exact List.mem_flatMap.2 ⟨_, List.getElem_mem hqo, hk2⟩
                                  rw [Array.getElem?_toList, ← Array.getD_eq_getD_getElem?]
                                  exact this.mono hok' (fun _ _ h => h)
                                · rw [if_neg hq2] at hv
                                  rw [if_neg (by omega), ← hcell _ hidx]
                                  exact (hr j2 _ q v hgx hv).mono hok' (fun _ _ h => h)
                          · rw [List.getElem?_set_ne (fun e => hjj e.symm)] at hx
                            have := (hr j2 x q v hx hv).mono hok' (fun _ _ h => h)
                            rw [hcell _ hidx] at this
                            have hout : j2 * szT E.P e' + q < j * szT E.P e' + off ∨ ¬ j2 * szT E.P e' + q < j * szT E.P e' + off + cx.cells.toList.length := by
                              rcases Nat.lt_or_gt_of_ne hjj with h5 | h5
                              · left
                                have := Nat.mul_le_mul_right (szT E.P e') (show j2 + 1 ≤ j by omega)
                                rw [Nat.add_mul, Nat.one_mul] at this; omega
                              · right
                                have := Nat.mul_le_mul_right (szT E.P e') (show j + 1 ≤ j2 by omega)
                                rw [Nat.add_mul, Nat.one_mul] at this; omega
                            rcases hout with h5 | h5
                            · rw [if_pos h5]; exact this
                            · rw [if_neg (by omega), if_neg h5]; exact this
                    · cases hcs'
                · cases h
              · cases h
            · cases h
          · cases h
        · cases h
      · cases h
    · cases h
  · cases h
end
end Go.Proofs.YtpbpebjfglfjfaaGreatDoor.X
