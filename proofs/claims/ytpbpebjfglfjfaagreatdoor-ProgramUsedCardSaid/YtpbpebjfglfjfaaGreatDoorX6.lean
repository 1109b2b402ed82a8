/-
  SOUNDNESS, what the call makes: variables, structs; a block more, a block set fast.
-/
import Derived.Test.YtpbpebjfglfjfaaGreatDoorX5
import Derived.Great.FillDense
set_option autoImplicit false
set_option linter.unusedVariables false
set_option linter.unusedSimpArgs false
namespace Go.Proofs.YtpbpebjfglfjfaaGreatDoor.X
open Go Go.RowKit
section
variable {E : Env} {W0 : Wd} {w : World} {okb : Nat → Prop} {μ : Nat → Option Value} {st : SE E} {acts : List Act} {R : Type} {r : R}

def upd (μ : Nat → Option Value) (n : Nat) (c : Value) : Nat → Option Value := fun i => if i = n then some c else μ i
theorem upd_same (μ : Nat → Option Value) (n : Nat) (c : Value) : upd μ n c n = some c := by simp [upd]
theorem upd_ne (μ : Nat → Option Value) {n i : Nat} (c : Value) (h : i ≠ n) : upd μ n c i = μ i := by simp [upd, h]
/-- numbers from nb on are free -/
def Fr (μ : Nat → Option Value) (nb : Nat) : Prop := ∀ i c, μ i = some c → ¬ (nb ≤ i ∧ i < nb + 64)
/-- what an operation adds -/
def Side (μ μ' : Nat → Option Value) (n0 nb n1 : Nat) : Prop := (n1 = n0 ∨ (nb ≤ n1 ∧ n1 ≤ nb + 64)) ∧ ∀ i c, μ' i = some c → μ i = some c ∨ (nb ≤ i ∧ i < nb + 64)
theorem side_same (μ : Nat → Option Value) (n0 nb : Nat) : Side μ μ n0 nb n0 := ⟨.inl rfl, fun i c h => .inl h⟩
theorem side_upd (μ : Nat → Option Value) (n0 nb : Nat) (c : Value) : Side μ (upd μ nb c) n0 nb (nb + 1) := ⟨.inr ⟨Nat.le_succ _, by omega⟩, fun i d h => by
  by_cases e : i = nb
  · exact .inr ⟨by omega, by omega⟩
  · rw [upd_ne μ c e] at h; exact .inl h⟩
theorem RelM.nx (H : RelM E.T E.P W0 okb μ st acts w) {n : Nat} (h : st.nx ≤ n) : RelM E.T E.P W0 okb μ { st with nx := n } acts w :=
  ⟨H.below, fun i c hc => ⟨Nat.lt_of_lt_of_le (H.dom i c hc).1 h, (H.dom i c hc).2⟩, H.blk, H.inj, H.fr⟩
theorem RelM.isFr (H : RelM E.T E.P W0 okb μ st acts w) : Fr μ st.nx := fun i c hc h => by have := (H.dom i c hc).1; omega
theorem RelM.upd_ext (H : RelM E.T E.P W0 okb μ st acts w) {nb : Nat} (hnb : Fr μ nb) (c : Value) : ∀ i x, μ i = some x → upd μ nb c i = some x := fun i x hx => by
  rw [upd_ne μ c (fun e => hnb i x hx ⟨by omega, by omega⟩)]; exact hx
theorem RelM.fresh (H : RelM E.T E.P W0 okb μ st acts w) {nb : Nat} (hnb : Fr μ nb) {i : Nat} {b : Blk E.T.A} (h : look st.hp i = some b) : i ≠ nb := by
  obtain ⟨c, hc⟩ := (H.blk i b h).mu
  exact fun e => hnb i c hc ⟨by omega, by omega⟩
theorem RelM.freeze (H : RelM E.T E.P W0 okb μ st acts w) (ids : List Nat) : RelM E.T E.P W0 okb μ { st with hp := freeze st.hp ids } acts w ∧ (∀ b, okM st.hp μ W0 okb w b → okM (freeze st.hp ids) μ W0 okb w b) := by
  have old : ∀ i b, look (X.freeze st.hp ids) i = some b → ∃ b0, look st.hp i = some b0 ∧ (b = b0 ∨ b = b0.freeze) ∧ (b.live = true → b = b0) := by
    intro i b hb
    rw [look_freeze] at hb
    cases h : look st.hp i with
    | none => rw [h] at hb; cases hb
    | some b0 =>
      rw [h] at hb
      simp only [Option.map_some, Option.some.injEq] at hb
      refine ⟨b0, rfl, ?_, fun hl => ?_⟩
      · split at hb
        · exact .inr hb.symm
        · exact .inl hb.symm
      · split at hb
        · rw [← hb, freeze_live] at hl; cases hl
        · exact hb.symm
  have := H.step (w' := w) (μ' := μ) (X.freeze st.hp ids) st.nx none (fun k h => by cases h) (World.grownBy.refl w none) (fun _ _ h => h) H.dom
    (fun b hb i blk c h1 h2 h3 => by obtain ⟨b0, h4, _, h5⟩ := old i blk h1; obtain rfl := h5 h2; exact hb.2.2 i blk c h4 h2 h3)
    (fun _ i b hb => by obtain ⟨b0, h4, h5, _⟩ := old i b hb; obtain ⟨c, hc⟩ := (H.blk i b0 h4).mu; exact .inl ⟨b0, c, h4, h5, hc, fun k h => by cases h⟩)
    (fun i j b b' c d k h1 h2 h3 h4 h5 h6 => by obtain ⟨b0, h7, _⟩ := old i b h1; obtain ⟨b1, h8, _⟩ := old j b' h2; exact H.inj i j b0 b1 c d k h7 h8 h3 h4 h5 h6)
  exact ⟨this.1, fun b hb => (this.2 b hb).1⟩
/-- one block more -/
theorem RelM.new (H : RelM E.T E.P W0 okb μ st acts w) {nb : Nat} (hnb : Fr μ nb) {w' : World} {c : Value} {blk : Blk E.T.A} (hw : w.grownBy w' none) (hc : c.oneCell' = true) (hk : ∀ k, blockOf c = some k → w.heap.size ≤ k)
    (hB : ∀ ok' : Nat → Prop, (∀ b, okM st.hp μ W0 okb w b → ok' b ∧ w'.heap[b]? = w.heap[b]?) → (∀ i x, μ i = some x → upd μ nb c i = some x) → BlkRel E.T E.P W0 w' (upd μ nb c) ok' nb blk) :
    RelM E.T E.P W0 okb (upd μ nb c) { st with hp := (nb, blk) :: st.hp, nx := Nat.max st.nx (nb + 1) } acts w' ∧ (∀ b, okM st.hp μ W0 okb w b → okM ((nb, blk) :: st.hp) (upd μ nb c) W0 okb w' b ∧ w'.heap[b]? = w.heap[b]?) := by
  have hext := H.upd_ext hnb c
  have hokm : ∀ b, okM st.hp μ W0 okb w b → okM ((nb, blk) :: st.hp) (upd μ nb c) W0 okb w' b ∧ w'.heap[b]? = w.heap[b]? := fun b hb => by
    refine ⟨⟨Nat.lt_of_lt_of_le hb.1 hw.size, hb.2.1, fun i blk' d h1 h2 h3 => ?_⟩, hw.block b hb.1 (by simp)⟩
    rw [look_cons] at h1
    split at h1
    · rename_i e
      dsimp only at e
      subst e
      rw [upd_same] at h3
      obtain rfl := Option.some.inj h3
      intro e
      have := hk b e
      have := hb.1; omega
    · rw [upd_ne μ c (by rename_i e; exact fun h => e h.symm)] at h3
      exact hb.2.2 i blk' d h1 h2 h3
  refine H.step (w' := w') (μ' := upd μ nb c) ((nb, blk) :: st.hp) (Nat.max st.nx (nb + 1)) none (fun k h => by cases h) hw hext ?_ (fun b hb => (hokm b hb).1.2.2) ?_ ?_
  · intro i d hd
    by_cases e : i = nb
    · subst e; rw [upd_same] at hd; obtain rfl := Option.some.inj hd; exact ⟨Nat.lt_of_lt_of_le (Nat.lt_succ_self _) (Nat.le_max_right _ _), hc⟩
    · rw [upd_ne μ c e] at hd
      have := H.dom i d hd
      exact ⟨Nat.lt_of_lt_of_le this.1 (Nat.le_max_left _ _), this.2⟩
  · intro _ i b hb
    rw [look_cons] at hb
    split at hb
    · rename_i e
      dsimp only at e
      subst e
      obtain rfl := Option.some.inj hb
      exact .inr (hB _ hokm hext)
    · obtain ⟨d, hd⟩ := (H.blk i b hb).mu
      exact .inl ⟨b, d, hb, .inl rfl, hd, fun k h => by cases h⟩
  · intro i j b b' d e k h1 h2 h3 h4 h5 h6
    rw [look_cons] at h1 h2
    dsimp only at h1 h2
    by_cases hi : nb = i
    · subst hi
      by_cases hj : nb = j
      · exact hj
      · rw [if_neg hj] at h2
        rw [upd_same] at h3; obtain rfl := Option.some.inj h3
        rw [upd_ne μ c (fun e => hj e.symm)] at h4
        have h7 := hk k h5
        have h8 := ((H.blk j b' h2).block h4 h6).2
        omega
    · rw [if_neg hi] at h1
      rw [upd_ne μ c (fun e => hi e.symm)] at h3
      by_cases hj : nb = j
      · subst hj
        rw [upd_same] at h4; obtain rfl := Option.some.inj h4
        have h7 := hk k h6
        have h8 := ((H.blk i b h1).block h3 h5).2
        omega
      · rw [if_neg hj] at h2
        rw [upd_ne μ c (fun e => hj e.symm)] at h4
        exact H.inj i j b b' d e k h1 h2 h3 h4 h5 h6

/-! operands -/
theorem ev_rep {a : Act} {as : List Act} (H : RelM E.T E.P W0 okb μ st (a :: as) w) (x : Operand) : REP E st μ W0 okb w (st.ev x) (a.eval x) := by
  cases x with
  | tmp t =>
    unfold St.ev
    dsimp only
    split
    · rename_i v hv; exact H.fr.1.2 t v hv
    · exact .unk _
  | const v => exact cv_rep v
  | global g => exact .glob g
  | func f => exact .fn f [] #[] rfl (fun i v hv => by cases hv)
theorem cells_rep {v : VE E} {c : Value} (h : REP E st μ W0 okb w v c) (hμ : ∀ i x, μ i = some x → x.oneCell' = true) (h1 : oneL v.cells = true) : c.cells.size = v.cells.length ∧ (∀ i u, v.cells[i]? = some u → REP E st μ W0 okb w u (c.cells.getD i undef)) := by
  by_cases ha : ∃ l, v = .agg l
  · obtain ⟨l, rfl⟩ := ha
    cases h with | agg _ cs hl hr =>
    exact ⟨hl, hr⟩
  · have hv : v.cells = [v] := by cases v <;> first | rfl | exact absurd ⟨_, rfl⟩ ha
    have h2 : v.one = true := by
      rw [hv] at h1
      have h1 : (match v.one with | true => true | false => false) = true := h1
      cases h3 : v.one
      · rw [h3] at h1; cases h1
      · rfl
    have hc := h.oneCell h2 hμ
    have hcc : c.cells = #[c] := by cases c <;> first | rfl | cases hc
    rw [hv, hcc]
    refine ⟨rfl, fun i u hu => ?_⟩
    cases i with
    | zero => obtain rfl := Option.some.inj hu; exact h
    | succ i => simp at hu
theorem oneL_mem {A : Nat → Type} {l : List (V A)} (h : oneL l = true) : ∀ v ∈ l, v.one = true := by
  induction l with
  | nil => intro v hv; cases hv
  | cons x l ih =>
    have h : (match x.one with | true => oneL l | false => false) = true := h
    intro v hv
    cases hx : x.one
    · rw [hx] at h; cases h
    · rw [hx] at h
      rcases List.mem_cons.1 hv with rfl | hv
      · exact hx
      · exact ih h v hv
theorem putN_zero {α : Type} (new l : List α) : putN new 0 l = if new.length ≤ l.length then some (new ++ l.drop new.length) else none := by
  induction new generalizing l with
  | nil => rfl
  | cons x new ih =>
    cases l with
    | nil => rfl
    | cons y l =>
      have e : putN (x :: new) 0 (y :: l) = match putN new 0 l with | some z => some (x :: z) | none => none := rfl
      rw [e, ih]
      by_cases h : new.length ≤ l.length
      · simp [h]
      · simp [h]
theorem putN_eq {α : Type} (new : List α) (n : Nat) (l : List α) : putN new n l = if n ≤ l.length ∧ new.length ≤ l.length - n then some (l.take n ++ new ++ l.drop (n + new.length)) else none := by
  induction n generalizing l with
  | zero => rw [putN_zero]; simp
  | succ n ih =>
    cases l with
    | nil => simp; rfl
    | cons y l =>
      have e : putN new (n + 1) (y :: l) = match putN new n l with | some z => some (y :: z) | none => none := rfl
      rw [e, ih]
      by_cases h : n ≤ l.length ∧ new.length ≤ l.length - n
      · rw [if_pos h, if_pos (by simp; omega)]
        simp [show n + 1 + new.length = n + new.length + 1 by omega]
      · rw [if_neg h, if_neg (by simp; omega)]
theorem zerosT_spec {P : Program} {t : Nat} {z : List (V E.T.A)} (h : zerosT P t = some z) : ∃ i y, P.info? t = some i ∧ i.zero = some y ∧ z = y.cells.toList.map cv := by
  unfold zerosT at h
  split at h
  · rename_i i hi
    split at h
    · rename_i y hy; exact ⟨i, y, hi, hy, (Option.some.inj h).symm⟩
    · cases h
  · cases h
theorem run_zero {P : Program} {t : Nat} {i : TypeInfo} {y : Value} (hi : P.info? t = some i) (hy : i.zero = some y) (w : World) : (zeroValue t).run P w = .ok y w := by
  simp [zeroValue, typeInfo, hi, hy]

/-! What an operation comes to. -/
def OpRes (E : Env) (W0 : Wd) (okb : Nat → Prop) (μ : Nat → Option Value) (n0 nb : Nat) (acts : List Act) (a : Act) (o : Oper) (w : World) (v : VE E) (st' : SE E) : Prop :=
  ∃ μ' c w', Side μ μ' n0 nb st'.nx ∧ (((execOp a.eval o).run E.P w = .ok (.value c) w') ∨ ((execOp a.eval o).run E.P w = .ok .skip w' ∧ c = undef)) ∧ RelM E.T E.P W0 okb μ' { st' with nx := Nat.max n0 st'.nx } acts w' ∧ REP E st' μ' W0 okb w' v c
theorem opres_read {a : Act} {as : List Act} (H : RelM E.T E.P W0 okb μ st (a :: as) w) {nb : Nat} {o : Oper} {K : VE E → SE E → Option R}
    (h : ∃ v, K v st = some r ∧ ∃ c, ((execOp a.eval o).run E.P w = .ok (.value c) w) ∧ REP E st μ W0 okb w v c) : ∃ v st', K v st' = some r ∧ OpRes E W0 okb μ st.nx nb (a :: as) a o w v st' := by
  obtain ⟨v, hK, c, hr, hv⟩ := h
  exact ⟨v, st, hK, μ, c, w, side_same _ _ _, .inl hr, H.nx (Nat.le_max_left _ _), hv⟩
theorem alloc_sound {a : Act} {as : List Act} (H : RelM E.T E.P W0 okb μ st (a :: as) w) {nb : Nat} (hnb : Fr μ nb) {z : List (VE E)} {cs : Array Value} {t : Nat} (hl : cs.size = z.length) (hz : ∀ i v, z[i]? = some v → REP E st μ W0 okb w v (cs.getD i undef)) :
    RelM E.T E.P W0 okb (upd μ nb (.pointer (some ⟨w.heap.size, 0, none⟩))) { st with hp := (nb, .var z false) :: st.hp, nx := Nat.max st.nx (nb + 1) } (a :: as) (w.alloc (.cells cs t)) := by
  refine (H.new hnb (World.grownBy_alloc w _ none) rfl (fun k hk => by simp only [blockOf, Option.some.injEq] at hk; omega) fun ok' hok' hμ' => ?_).1
  exact .var z false w.heap.size cs t (upd_same _ _ _) (H.below.new _ (Nat.le_refl _)) (heap_alloc_new w _) hl fun j v hv => (hz j v hv).mono hok' hμ'
theorem fill_rep (place : Nat → Option (Nat × Nat)) (hμ : ∀ i x, μ i = some x → x.oneCell' = true) : ∀ (ps : List (Nat × Operand)) (z : List (VE E)) (cs : Array Value) (a : Act) (as : List Act) (l : List (VE E)),
    RelM E.T E.P W0 okb μ st (a :: as) w → cs.size = z.length → (∀ i v, z[i]? = some v → REP E st μ W0 okb w v (cs.getD i undef)) → fillV place (partsV st ps) z = some l →
    ∃ ds, Instr.fill place cs (ps.map fun p => (p.1, a.eval p.2)) = some ds ∧ ds.size = l.length ∧ ∀ i v, l[i]? = some v → REP E st μ W0 okb w v (ds.getD i undef)
  | [], z, cs, a, as, l, H, hl, hz, hf => by
    obtain rfl := Option.some.inj hf
    exact ⟨cs, rfl, hl, hz⟩
  | p :: ps, z, cs, a, as, l, H, hl, hz, hf => by
    have hf : fill1 place (p.1, st.ev p.2) (fillV place (partsV st ps)) z = some l := hf
    unfold fill1 at hf
    split at hf
    · rename_i off size hp
      split at hf
      · rename_i hs h1
        dsimp only at hp hs h1 hf
        have hs := Nat.eq_of_beq_eq_true hs
        split at hf
        · rename_i z' hz'
          rw [putN_eq] at hz'
          split at hz'
          · rename_i hb
            obtain rfl := Option.some.inj hz'
            obtain ⟨hc1, hc2⟩ := cells_rep (ev_rep H p.2) hμ h1
            obtain ⟨g1, g2⟩ := Great.foldl_set off (a.eval p.2).cells.toList 0 cs
            simp only [Nat.add_zero, Array.length_toList] at g1 g2
            have hz2 : ∀ i v, (List.take off z ++ (st.ev p.2).cells ++ List.drop (off + (st.ev p.2).cells.length) z)[i]? = some v → REP E st μ W0 okb w v ((((a.eval p.2).cells.toList.zipIdx 0).foldl (fun cs (x : Value × Nat) => cs.setIfInBounds (off + x.2) x.1) cs).getD i undef) := by
              intro i v hv
              rw [Array.getD_eq_getD_getElem?, g2 i]
              by_cases hi : off ≤ i ∧ i < off + (st.ev p.2).cells.length
              · rw [if_pos (by omega)]
                have h3 : (st.ev p.2).cells[i - off]? = some v := by
                  rw [List.append_assoc, List.getElem?_append_right (by simp; omega), List.getElem?_append_left (by simp; omega)] at hv
                  simpa [Nat.min_eq_left hb.1] using hv
                have := hc2 _ v h3
                simpa [Array.getD_eq_getD_getElem?] using this
              · rw [if_neg (by omega), ← Array.getD_eq_getD_getElem?]
                refine hz i v ?_
                by_cases hi2 : i < off
                · rw [List.append_assoc, List.getElem?_append_left (by simp; omega), List.getElem?_take, if_pos hi2] at hv
                  exact hv
                · rw [List.getElem?_append_right (by simp; omega), List.getElem?_drop] at hv
                  rw [← hv]; congr 1; simp only [List.length_append, List.length_take]; omega
            obtain ⟨ds, hd1, hd2, hd3⟩ := fill_rep place hμ ps _ (((a.eval p.2).cells.toList.zipIdx 0).foldl (fun cs (x : Value × Nat) => cs.setIfInBounds (off + x.2) x.1) cs) a as l H
              (by rw [g1, hl]; simp; omega) hz2 hf
            refine ⟨ds, ?_, hd2, hd3⟩
            simp only [List.map_cons]
            unfold Instr.fill
            simp only [hp]
            rw [if_neg (by simp; omega)]
            rw [← hd1]
            congr 1
            rw [← Array.foldl_toList, Array.toList_zipIdx]
          · cases hz'
        · cases hf
      · cases hf
    · cases hf
end
end Go.Proofs.YtpbpebjfglfjfaaGreatDoor.X
