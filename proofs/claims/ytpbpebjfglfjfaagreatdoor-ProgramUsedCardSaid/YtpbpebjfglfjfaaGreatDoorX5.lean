/-
  SOUNDNESS, addresses, loads, lengths, parts: the world stays.
-/
import Derived.Test.YtpbpebjfglfjfaaGreatDoorX4
set_option autoImplicit false
set_option linter.unusedVariables false
set_option linter.unusedSimpArgs false
namespace Go.Proofs.YtpbpebjfglfjfaaGreatDoor.X
open Go Go.RowKit
section
variable {E : Env} {W0 : Wd} {w : World} {okb : Nat → Prop} {μ : Nat → Option Value} {st : SE E} {acts : List Act} {R : Type} {r : R}
abbrev OKM (E : Env) (st : SE E) (μ : Nat → Option Value) (W0 : Wd) (okb : Nat → Prop) (w : World) : Nat → Prop := okM st.hp μ W0 okb w
abbrev REP (E : Env) (st : SE E) (μ : Nat → Option Value) (W0 : Wd) (okb : Nat → Prop) (w : World) : V E.T.A → Value → Prop := Rep E.T E.P w μ (okM st.hp μ W0 okb w)

theorem gt_get {α : Type} (d : α) (l : List α) (j : Nat) (h : j < l.length) : l[j]? = some (gt d l j) := by
  unfold gt; rw [List.getD_eq_getElem?_getD, List.getElem?_eq_getElem h]; rfl
theorem var_cells (H : RelM E.T E.P W0 okb μ st acts w) {i : Nat} {l : List (VE E)} {z : Bool} {b : Nat} (hb : look st.hp i = some (.var l z)) (hm : μ i = some (.pointer (some ⟨b, 0, none⟩))) : CellsAt E.T E.P w μ (okM st.hp μ W0 okb w) b 0 l := fun q v hv => by
  cases H.blk i _ hb with | var _ _ b' cs e hm' hB hh hl h =>
  rw [hm] at hm'
  simp only [Option.some.injEq, Value.pointer.injEq, Addr.mk.injEq, and_true] at hm'
  subst hm'
  have hq : q < cs.size := by rw [hl]; exact (List.getElem?_eq_some_iff.1 hv).1
  refine ⟨cs[q], ?_, by simpa [hq] using h q v hv⟩
  rw [Nat.zero_add, cell_of_row w b q cs e (0, 0) hh]
  simp [hq]
theorem row_cells (H : RelM E.T E.P W0 okb μ st acts w) {i e : Nat} {l : List (E.T.A e)} {z : Bool} {b o n cap j : Nat} {x : E.T.A e} (hb : look st.hp i = some (.row e l z)) (hm : μ i = some (.slice (some ⟨b, o, none⟩) n cap)) (hx : l[j]? = some x) (hT : E.T.Ok E.P) :
    CellsAt E.T E.P w μ (okM st.hp μ W0 okb w) b (o + j * szT E.P e) (E.T.enc e x) := fun q v hv => by
  cases H.blk i _ hb with | row _ _ _ c cs hk hm' ho h =>
  rw [hm] at hm'
  obtain rfl := Option.some.inj hm'
  have hj : j < l.length := (List.getElem?_eq_some_iff.1 hx).1
  have hq : q < szT E.P e := by rw [← hT.len e x hk]; exact (List.getElem?_eq_some_iff.1 hv).1
  have hlt : j * szT E.P e + q < l.length * szT E.P e := by
    have := Nat.mul_le_mul_right (szT E.P e) (show j + 1 ≤ l.length by omega)
    rw [Nat.add_mul, Nat.one_mul] at this; omega
  have ho' := ho
  rcases ho.2 with ⟨h1, _⟩ | ⟨g, o', cap', cur, h1, _⟩
  · cases h1
  · simp only [Value.slice.injEq, Option.some.injEq, Addr.mk.injEq, and_true] at h1
    obtain ⟨⟨rfl, rfl⟩, rfl, rfl⟩ := h1
    have hcs : j * szT E.P e + q < cs.length := by rw [ho.1]; exact hlt
    refine ⟨cs[j * szT E.P e + q], ?_, by simpa [hcs] using h j x q v hx hv⟩
    rw [Nat.add_assoc, ownsR.cellAt ho' _ hlt]
    simp [hcs]
theorem row_len (H : RelM E.T E.P W0 okb μ st acts w) {i e : Nat} {l : List (E.T.A e)} {z : Bool} {c : Value} (hb : look st.hp i = some (.row e l z)) (hm : μ i = some c) : ∃ a cap, c = .slice a l.length cap ∧ l.length ≤ cap ∧ (a = none ∧ l.length = 0 ∧ cap = 0 ∨ ∃ g o, a = some ⟨g, o, none⟩) ∧ cap ≤ maxLen := by
  cases H.blk i _ hb with | row _ _ _ c' cs hk hm' ho h =>
  rw [hm] at hm'
  obtain rfl := Option.some.inj hm'
  rcases ho.2 with ⟨rfl, h2⟩ | ⟨g, o, cap', cur, rfl, _, _, h3, h4, _⟩
  · exact ⟨none, 0, by rw [h2], by omega, .inl ⟨rfl, h2, rfl⟩, Nat.zero_le _⟩
  · exact ⟨_, _, rfl, h3, .inr ⟨g, o, rfl⟩, h4⟩

theorem run_loadV (H : RelM E.T E.P W0 okb μ st acts w) (hT : E.T.Ok E.P) {t : Nat} {a : VE E} {ca : Value} {K : VE E → Option R} (ha : REP E st μ W0 okb w a ca) (h : loadV E st t a K = some r) :
    ∃ v, K v = some r ∧ ∃ c, (Instr.loadAt t ca).run E.P w = .ok c w ∧ REP E st μ W0 okb w v c := by
  have fin : ∀ (b o : Nat) (cs : List (VE E)) (v : VE E), ca = .pointer (some ⟨b, o, none⟩) → CellsAt E.T E.P w μ (okM st.hp μ W0 okb w) b o cs → pickV E.P t cs = some v → v.force K = some r → ∃ v, K v = some r ∧ ∃ c, (Instr.loadAt t ca).run E.P w = .ok c w ∧ REP E st μ W0 okb w v c := by
    intro b o cs v hca hcs hp hK
    rw [force_eq] at hK
    obtain ⟨c, h1, h2⟩ := run_loadVar_cells hcs hp
    exact ⟨v, hK, c, by rw [hca]; simpa [Instr.loadAt, Instr.sureAddr] using h1, h2⟩
  unfold loadV at h
  split at h
  · rename_i i off
    cases ha with | ptr _ _ b hm =>
    split at h
    · rename_i l z hb
      split at h
      · rename_i v hp
        have := (var_cells H hb hm).drop off
        rw [Nat.zero_add] at this
        exact fin b off _ v rfl this hp h
      · cases h
    · cases h
  · rename_i e i j off
    cases ha with | elt _ _ _ _ b og n cap hm hj =>
    split at h
    · rename_i e' l z hb
      split at h
      · rename_i he
        subst he
        split at h
        · rename_i v hp
          obtain ⟨_, _, hl, _⟩ := row_len H hb hm
          simp only [Value.slice.injEq] at hl
          have := (row_cells H hb hm (gt_get (E.T.dflt e') l j (by omega)) hT).drop off
          rw [Nat.add_assoc] at this
          exact fin b _ _ v rfl this hp h
        · cases h
      · cases h
    · cases h
  · rename_i cs
    cases ha with | rel _ b o cf hb hc hr =>
    split at h
    · rename_i v hp
      exact fin b o cs v rfl (fun q u hu => ⟨cf q, hc q (List.getElem?_eq_some_iff.1 hu).1, hr q u hu⟩) hp h
    · cases h
  · cases h
theorem fieldOff_run {s f o t : Nat} (h : fieldOff E.P s f = some (o, t)) : ∃ fs x, E.P.underlying s = some (.struct fs) ∧ fs[f]? = some x ∧ x.offset = o ∧ x.type = t ∧ szT E.P t ≠ 0 := by
  unfold fieldOff at h
  split at h
  · rename_i fs hu
    split at h
    · rename_i x hx
      split at h
      · cases h
      · rename_i hz
        simp only [Option.some.injEq, Prod.mk.injEq] at h
        refine ⟨fs, x, hu, hx, h.1, h.2, ?_⟩
        rw [beq_iff] at hz
        rw [← h.2]; exact of_decide_eq_false hz
    · cases h
  · cases h
theorem szT_info {t : Nat} (h : szT E.P t ≠ 0) : ∃ i, E.P.info? t = some i ∧ i.size = szT E.P t := by
  cases hi : E.P.info? t with
  | none => simp [szT, Program.cellsOf, hi] at h
  | some i => exact ⟨i, rfl, by simp [szT, Program.cellsOf, hi]⟩
theorem run_fieldAddrV {s f : Nat} {a : VE E} {ca : Value} {K : VE E → Option R} (ha : REP E st μ W0 okb w a ca) (h : fieldAddrV E.P s f a K = some r) :
    ∃ v, K v = some r ∧ ∃ c, (Instr.fieldAt s ca f).run E.P w = .ok c w ∧ REP E st μ W0 okb w v c := by
  have fin : ∀ (b off o t : Nat), fieldOff E.P s f = some (o, t) → (Instr.fieldAt s (.pointer (some ⟨b, off, none⟩)) f).run E.P w = .ok (.pointer (some ⟨b, off + o, none⟩)) w := by
    intro b off o t ho
    obtain ⟨fs, x, hu, hx, rfl, rfl, hz⟩ := fieldOff_run ho
    obtain ⟨i, hi, hs⟩ := szT_info hz
    have : i.size ≠ 0 := by rw [hs]; exact hz
    simp [Instr.fieldAt, run_underlying hu, hx, Instr.sureAddr, fieldPlace, sizeOf, typeInfo, hi, this, Addr.add_lit]
  unfold fieldAddrV at h
  split at h
  · rename_i o t i off ho
    cases ha with | ptr _ _ b hm =>
    exact ⟨_, h, _, fin b off o t ho, .ptr _ _ b hm⟩
  · rename_i o t e i j off ho
    cases ha with | elt _ _ _ _ b og n cap hm hj =>
    exact ⟨_, h, _, by rw [fin b _ o t ho, Nat.add_assoc, Nat.add_assoc], .elt _ _ _ _ b og n cap hm hj⟩
  · rename_i o t cs ho
    cases ha with | rel _ b off cf hb hc hr =>
    refine ⟨_, h, _, fin b off o t ho, .rel _ b _ (fun q => cf (o + q)) hb (fun q hq => ?_) (fun q v hv => ?_)⟩
    · rw [dropN_eq] at hq
      rw [Nat.add_assoc]; exact hc _ (by simp at hq; omega)
    · rw [dropN_eq, List.getElem?_drop] at hv
      exact hr _ v hv
  · cases h
theorem run_fieldV {s f : Nat} {a : VE E} {ca : Value} {K : VE E → Option R} (ha : REP E st μ W0 okb w a ca) (h : fieldV E.P s f a K = some r) :
    ∃ v, K v = some r ∧ ∃ c, (Instr.field s ca f).run E.P w = .ok c w ∧ REP E st μ W0 okb w v c := by
  unfold fieldV at h
  split at h
  · rename_i o t cs ho
    split at h
    · rename_i v hv
      rw [force_eq] at h
      obtain ⟨fs, x, hu, hx, rfl, rfl, hz⟩ := fieldOff_run ho
      cases ha with | agg _ arr hl hr =>
      obtain ⟨c, h1, h2⟩ := run_part_cells hl hr hv
      exact ⟨v, h, c, by simpa [Instr.field, run_underlying hu, hx, asAgg] using h1, h2⟩
    · cases h
  · cases h
theorem run_indexAddrV (H : RelM E.T E.P W0 okb μ st acts w) (hT : E.T.Ok E.P) {t : Nat} {x i : VE E} {cx ci : Value} {K : VE E → Option R} (hx : REP E st μ W0 okb w x cx) (hi : REP E st μ W0 okb w i ci) (h : indexAddrV E st t x i K = some r) :
    ∃ v, K v = some r ∧ ∃ c, (Instr.indexAt t cx ci).run E.P w = .ok c w ∧ REP E st μ W0 okb w v c := by
  unfold indexAddrV at h
  split at h
  · rename_i e' e l k n hu
    split at h
    · rename_i he
      obtain rfl := Nat.eq_of_beq_eq_true he
      cases hi
      cases hx with | ro _ _ a cap cf hk hcap hmax ha hr =>
      split at h
      · split at h
        · rename_i h0 h1
          have hn : n.toNat < l.length := by omega
          obtain ⟨b, o, rfl, hb, hc⟩ := ha (fun e => by rw [e] at hn; cases hn)
          have hx := gt_get (E.T.dflt e') l n.toNat hn
          refine ⟨_, h, .pointer (some ⟨b, o + n.toNat * szT E.P e', none⟩), ?_, .rel _ b _ (fun q => cf (n.toNat * szT E.P e' + q)) hb (fun q hq => ?_) (fun q v hv => hr _ _ q v hx hv)⟩
          · obtain ⟨i, hi, hs⟩ := szT_info (E := E) (t := e') (by have := hT.size e' hk; omega)
            simp [Instr.indexAt, asIntOf, run_underlying hu, h0, h1, sizeOf, typeInfo, hi, hs, Addr.add_lit]
          · rw [hT.len _ _ hk] at hq
            have := Nat.mul_le_mul_right (szT E.P e') (show n.toNat + 1 ≤ l.length by omega)
            rw [Nat.add_mul, Nat.one_mul] at this
            rw [Nat.add_assoc]; exact hc _ (by omega)
        · cases h
      · cases h
    · cases h
  · rename_i e' id k n hu
    split at h
    · rename_i e l z hb
      split at h
      · rename_i he
        obtain rfl := Nat.eq_of_beq_eq_true he
        cases hi
        cases hx with | own _ _ hm =>
        obtain ⟨a, cap, rfl, hcap, ha, hmax⟩ := row_len H hb hm
        split at h
        · split at h
          · rename_i h0 h1
            have hn : n.toNat < l.length := by omega
            have hk : E.T.known e' = true := by cases H.blk _ _ hb; assumption
            rcases ha with ⟨_, h2, _⟩ | ⟨g, og, rfl⟩
            · omega
            · refine ⟨_, h, .pointer (some ⟨g, og + (n.toNat * szT E.P e' + 0), none⟩), ?_, .elt _ _ _ _ g og _ _ hm hn⟩
              obtain ⟨i, hi, hs⟩ := szT_info (E := E) (t := e') (by have := hT.size e' hk; omega)
              simp [Instr.indexAt, asIntOf, run_underlying hu, h0, h1, sizeOf, typeInfo, hi, hs, Addr.add_lit]
          · cases h
        · cases h
      · cases h
    · cases h
  · rename_i m e id off k n hu
    cases hi
    cases hx with | ptr _ _ b hm =>
    split at h
    · split at h
      · split at h
        · rename_i h0 h1 _ hz
          obtain ⟨i, hi, hs⟩ := szT_info (E := E) (t := e) (by rw [beq_iff] at hz; exact of_decide_eq_false hz)
          exact ⟨_, h, _, by simp [Instr.indexAt, asIntOf, run_underlying hu, Instr.sureAddr, h0, h1, sizeOf, typeInfo, hi, hs, Addr.add_lit], .ptr _ _ b hm⟩
        · cases h
      · cases h
    · cases h
  · rename_i m e cs k n hu
    cases hi
    cases hx with | rel _ b o cf hb hc hr =>
    split at h
    · split at h
      · split at h
        · rename_i h0 h1 _ hz
          obtain ⟨i, hi, hs⟩ := szT_info (E := E) (t := e) (by rw [beq_iff] at hz; exact of_decide_eq_false hz)
          refine ⟨_, h, .pointer (some ⟨b, o + n.toNat * szT E.P e, none⟩), by simp [Instr.indexAt, asIntOf, run_underlying hu, Instr.sureAddr, h0, h1, sizeOf, typeInfo, hi, hs, Addr.add_lit], .rel _ b _ (fun q => cf (n.toNat * szT E.P e + q)) hb (fun q hq => ?_) (fun q v hv => ?_)⟩
          · rw [dropN_eq] at hq
            rw [Nat.add_assoc]; exact hc _ (by simp at hq; omega)
          · rw [dropN_eq, List.getElem?_drop] at hv
            exact hr _ v hv
        · cases h
      · cases h
    · cases h
  · cases h
theorem run_indexV {t : Nat} {x i : VE E} {cx ci : Value} {K : VE E → Option R} (hx : REP E st μ W0 okb w x cx) (hi : REP E st μ W0 okb w i ci) (h : indexV E.P t x i K = some r) :
    ∃ v, K v = some r ∧ ∃ c, (Instr.index t cx ci).run E.P w = .ok c w ∧ REP E st μ W0 okb w v c := by
  unfold indexV at h
  split at h
  · rename_i s k n hu
    cases hx; cases hi
    split at h
    · split at h
      · rename_i h0 h1
        have hlt : n.toNat < s.size := by omega
        refine ⟨_, h, .int .u8 (byteAt s n), ?_, .int _ _⟩
        have hb : s[n.toNat]? = some (s.data.toList.getD n.toNat 0) := by
          have hs : n.toNat < s.data.toList.length := by simpa using hlt
          rw [List.getD_eq_getElem?_getD, List.getElem?_eq_getElem hs]
          simp [hlt]
          rfl
        simp [Instr.index, asIntOf, run_underlying hu, h0, hb, byteAt]
      · cases h
    · cases h
  · rename_i m e cs k n hu
    cases hx with | agg _ arr hl hr =>
    cases hi
    split at h
    · split at h
      · rename_i h0 h1
        split at h
        · rename_i v hv
          rw [force_eq] at h
          obtain ⟨c, h2, h3⟩ := run_part_cells hl hr hv
          have hz : ∃ d, E.P.underlying e = some d := by
            unfold pickV at hv
            split at hv
            · rename_i ha; obtain ⟨d, hd, _⟩ := under_aggT ha; exact ⟨d, hd⟩
            · rename_i ha; obtain ⟨d, hd, _⟩ := under_aggT ha; exact ⟨d, hd⟩
            · cases hv
          obtain ⟨d, hd⟩ := hz
          exact ⟨v, h, c, by simpa [Instr.index, asIntOf, run_underlying hu, h0, h1, run_sizeOf_T hd] using h2, h3⟩
        · cases h
      · cases h
    · cases h
  · cases h
end
end Go.Proofs.YtpbpebjfglfjfaaGreatDoor.X
