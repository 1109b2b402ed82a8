/-
  SOUNDNESS: append; slice literals; stores.
-/
import Derived.Test.YtpbpebjfglfjfaaGreatDoorX7
set_option autoImplicit false
set_option linter.unusedVariables false
set_option linter.unusedSimpArgs false
namespace Go.Proofs.YtpbpebjfglfjfaaGreatDoor.X
open Go Go.RowKit
section
variable {P : Program} (w : World)
theorem run_append_roomO (t ty e : TypeId) (i : TypeInfo) (ht : P.underlying t = some (.slice e)) (hi : P.info? e = some i)
    (g o sLen sCap : Nat) (cur : Array Value) (hg : w.heap[g]? = some (.cells cur e (0, 0)))
    (a : Addr) (m c : Nat) (news : List Value) (hl : news.length = m * i.size) (hnews : ∀ j u, news[j]? = some u → w.cell? (a.add j) = some u) (h1 : ∀ u ∈ news, u.oneCell' = true)
    (hroom : sLen + m ≤ sCap) (hfit : o + sLen * i.size + news.length ≤ cur.size) :
    (Builtin.append_ #[t, t] ty #[.slice (some ⟨g, o, none⟩) sLen sCap, .slice (some a) m c]).run P w =
      .ok (.slice (some ⟨g, o, none⟩) (sLen + m) sCap) (w.setRow g (cur.toList.take (o + sLen * i.size) ++ news ++ cur.toList.drop (o + sLen * i.size + news.length)).toArray) := by
  have hf := run_firstCells_some (P := P) w i.size m a m c news hl hnews
  have hst := run_storeCells_at P g (o + sLen * i.size) e news 0 cur w hg (by simpa using hfit) h1
  simp only [Nat.add_zero] at hst
  simp [Builtin.append_, run_underlying ht, sizeOf, typeInfo, hi, Builtin.lenOf, hroom, hf, Addr.add_lit, hst]
/-- append onto a row of the call's own, whatever is appended; where the new row lies. -/
theorem run_append_gen (base : Nat → Prop) (t ty e : TypeId) (i : TypeInfo) (z : Value) (size bytes : Nat) (ht : P.underlying t = some (.slice e)) (hi : P.info? e = some i) (hz : i.zero = some z)
    (hsize : i.size = size) (hby : i.bytes = bytes) (hzs : z.cells.size = size) (hsz : 0 < size)
    (v : Value) (n : Nat) (xs : List Value) (hown : ownsR w base e size v n xs)
    (ax : Option Addr) (m c : Nat) (news : List Value) (hl : news.length = m * size) (hx : m ≠ 0 → ∃ a, ax = some a ∧ ∀ j u, news[j]? = some u → w.cell? (a.add j) = some u) (h1 : ∀ u ∈ news, u.oneCell' = true)
    (h63 : n + m ≤ maxLen) (hbytes : (n + m) * bytes ≤ 140737488355328) (hbase : ∀ k, w.heap.size ≤ k → ¬ base k) :
    ∃ v' w', (Builtin.append_ #[t, t] ty #[v, .slice ax m c]).run P w = .ok v' w' ∧ ownsR w' base e size v' (n + m) (xs ++ news) ∧ w.grownBy w' v.ownBlock ∧ (∀ k, blockOf v' = some k → blockOf v = some k ∨ w.heap.size ≤ k) ∧ v'.oneCell' = true := by
  subst hsize
  subst hby
  by_cases hm : m = 0
  · subst hm
    have hn : news = [] := List.eq_nil_of_length_eq_zero (by simpa using hl)
    subst hn
    rcases hown.2 with ⟨rfl, rfl⟩ | ⟨g, o, cap, cur, rfl, hbg, hg, hnc, hcm, hcs, htake⟩
    · refine ⟨.slice none 0 0, w, ?_, by simpa using hown, World.grownBy.refl _ _, fun k hk => .inl hk, rfl⟩
      cases ax <;> simp [Builtin.append_, run_underlying ht, sizeOf, typeInfo, hi, Builtin.lenOf, Builtin.firstCells, loadCells, loadCellsFrom]
    · refine ⟨.slice (some ⟨g, o, none⟩) n cap, w, ?_, by simpa using hown, World.grownBy.refl _ _, fun k hk => .inl hk, rfl⟩
      cases ax <;> simp [Builtin.append_, run_underlying ht, sizeOf, typeInfo, hi, Builtin.lenOf, Builtin.firstCells, loadCells, loadCellsFrom, hnc, storeCells]
  · obtain ⟨a, rfl, hnews⟩ := hx hm
    have hlen : (xs ++ news).length = (n + m) * i.size := by rw [List.length_append, hown.1, hl, Nat.add_mul]
    have grown : ∀ (old : Nat), old < n + m → ∀ (row : Option Nat),
        (w.drew.alloc (.cells (xs.toArray ++ news.toArray ++ Builtin.zeroCells z.cells (grownCap w (n + m) old e - (n + m))) e)).ownsRow w.heap.size e i.size
          (.slice (some ⟨w.heap.size, 0, none⟩) (n + m) (grownCap w (n + m) old e)) (n + m) (xs ++ news) ∧
        w.grownBy (w.drew.alloc (.cells (xs.toArray ++ news.toArray ++ Builtin.zeroCells z.cells (grownCap w (n + m) old e - (n + m))) e)) row := by
      intro old ho row
      have hge := grownCap_ge w (n + m) old e
      have hcm : grownCap w (n + m) old e ≤ maxLen := grownCap_le_maxLen w (n + m) old e h63
      refine ⟨⟨hlen, .inr ⟨w.heap.size, _, _, rfl, Nat.le_refl _, heap_alloc_new w.drew _, hge, hcm, ?_, ?_⟩⟩, ⟨rfl, rfl, rfl, by simp, fun k hk _ => heap_alloc_old w.drew _ hk⟩⟩
      · simp only [Array.size_append, List.size_toArray, size_zeroCells, hzs, hown.1, hl, ← Nat.add_mul]
        congr 1
        omega
      · simp only [Array.toList_append, List.append_assoc]
        rw [← List.append_assoc, ← hlen]
        exact List.take_left
    have hsmall : n + m ≤ 9223372036854775807 := by simp only [maxLen] at h63; omega
    rcases hown.2 with ⟨rfl, rfl⟩ | ⟨g, o, cap, cur, rfl, hbg, hg, hnc, hcm, hcs, htake⟩
    · have hx : xs = [] := List.eq_nil_of_length_eq_zero (by simpa using hown.1)
      subst hx
      have hr := run_append_nil (P := P) w t ty e i z ht hi hz a m c news hl hnews (by omega) (by omega) (by have hb := hbytes; simp only [Nat.zero_add] at hb; omega)
      have hgr := grown 0 (by omega) (Value.ownBlock (.slice none 0 0))
      simp only [Nat.zero_add, List.nil_append, Array.empty_append] at hgr ⊢
      exact ⟨_, _, hr, ownsR_of hbase hgr.1, hgr.2, fun k hk => .inr (by simp only [blockOf, Option.some.injEq] at hk; omega), rfl⟩
    · by_cases hroom : n + m ≤ cap
      · have hfit : o + n * i.size + news.length ≤ cur.size := by have := Nat.mul_le_mul_right i.size hroom; rw [Nat.add_mul] at this; rw [hl]; omega
        have hr := run_append_roomO (P := P) w t ty e i ht hi g o n cap cur hg a m c news hl hnews h1 hroom hfit
        refine ⟨_, _, hr, ⟨hlen, .inr ⟨g, o, cap, _, rfl, hbg, setRow_heap w g cur _ e _ hg, hroom, hcm, ?_, ?_⟩⟩, ⟨rfl, rfl, rfl, by simp, fun k _ hk => setRow_other w g k _ (fun e => hk (by simp [Value.ownBlock, e]))⟩, fun k hk => .inl hk, rfl⟩
        · simp only [List.size_toArray, List.length_append, List.length_take, List.length_drop, Array.length_toList]
          omega
        · have e1 : (cur.toList.take (o + n * i.size)).drop o = xs := by
            rw [← htake, List.take_add, List.drop_append_of_le_length (by rw [List.length_take, Array.length_toList]; omega), List.drop_of_length_le (by rw [List.length_take]; omega), List.nil_append]
          have e2 : o ≤ (cur.toList.take (o + n * i.size)).length := by rw [List.length_take, Array.length_toList]; omega
          show (List.drop o (cur.toList.take (o + n * i.size) ++ news ++ cur.toList.drop (o + n * i.size + news.length))).take _ = _
          rw [List.append_assoc, List.drop_append_of_le_length e2, e1, ← List.append_assoc, ← hlen]
          exact List.take_left
      · have holds : ∀ j u, xs[j]? = some u → w.cell? ((⟨g, o, none⟩ : Addr).add j) = some u := fun j u hu => by
          rw [Addr.add_lit, hown.cellAt j (by rw [← hown.1]; exact (List.getElem?_eq_some_iff.1 hu).1)]; exact hu
        have hr := run_append_grow (P := P) w t ty e i z ht hi hz ⟨g, o, none⟩ n cap xs hown.1 holds a m c news hl hnews (by omega) (by omega) (growslice_fits (by omega) hbytes)
        have hgr := grown cap (by omega) (Value.ownBlock (.slice (some ⟨g, o, none⟩) n cap))
        exact ⟨_, _, hr, ownsR_of hbase hgr.1, hgr.2, fun k hk => .inr (by simp only [blockOf, Option.some.injEq] at hk; omega), rfl⟩
end
section
variable {E : Env} {W0 : Wd} {w : World} {okb : Nat → Prop} {μ : Nat → Option Value} {st : SE E} {acts : List Act} {R : Type} {r : R}
theorem elemT_spec {t e : Nat} (h : elemT E.P t = some e) : E.P.underlying t = some (.slice e) := by
  unfold elemT at h; split at h
  · rename_i hu; obtain rfl := Option.some.inj h; exact hu
  · cases h
theorem ownBlock_eq {c : Value} {n e s : Nat} {B : Nat → Prop} {xs : List Value} (h : ownsR w B e s c n xs) : c.ownBlock = blockOf c := by
  rcases h.2 with ⟨rfl, _⟩ | ⟨g, o, cap, cur, rfl, _⟩ <;> rfl
/-- what is appended lies in memory -/
theorem src_spec (H : RelM E.T E.P W0 okb μ st acts w) (hT : E.T.Ok E.P) {e : Nat} {x : VE E} {cx : Value} {m : List (E.T.A e)} (hx : REP E st μ W0 okb w x cx) (h : srcV E st e x = some m) :
    ∃ ax cap, ∃ news : List Value, cx = .slice ax m.length cap ∧ news.length = m.length * szT E.P e ∧ (m.length ≠ 0 → ∃ a, ax = some a ∧ ∀ j u, news[j]? = some u → w.cell? (a.add j) = some u) ∧ (∀ u ∈ news, u.oneCell' = true) ∧
      ∀ j y q v, m[j]? = some y → (E.T.enc e y)[q]? = some v → REP E st μ W0 okb w v (news.getD (j * szT E.P e + q) undef) := by
  have hone : ∀ i c, μ i = some c → c.oneCell' = true := fun i c h => (H.dom i c h).2
  have fin : ∀ (e : Nat) (m : List (E.T.A e)) (cf : Nat → Value), E.T.known e = true → (∀ j y q v, m[j]? = some y → (E.T.enc e y)[q]? = some v → REP E st μ W0 okb w v (cf (j * szT E.P e + q))) →
      (∀ u ∈ (List.range (m.length * szT E.P e)).map cf, u.oneCell' = true) ∧ ∀ j y q v, m[j]? = some y → (E.T.enc e y)[q]? = some v → REP E st μ W0 okb w v (((List.range (m.length * szT E.P e)).map cf).getD (j * szT E.P e + q) undef) := by
    intro e m cf hk hr
    have hidx : ∀ j y q v, m[j]? = some y → (E.T.enc e y)[q]? = some v → j * szT E.P e + q < m.length * szT E.P e := fun j y q v hy hv => by
      have hj : j < m.length := (List.getElem?_eq_some_iff.1 hy).1
      have hq : q < szT E.P e := by rw [← hT.len e y hk]; exact (List.getElem?_eq_some_iff.1 hv).1
      have := Nat.mul_le_mul_right (szT E.P e) (show j + 1 ≤ m.length by omega)
      rw [Nat.add_mul, Nat.one_mul] at this; omega
    refine ⟨fun u hu => ?_, fun j y q v hy hv => ?_⟩
    · obtain ⟨k, hk2, rfl⟩ := List.mem_map.1 hu
      have hk2 : k < m.length * szT E.P e := List.mem_range.1 hk2
      have hsz := hT.size e hk
      have hj : k / szT E.P e < m.length := (Nat.div_lt_iff_lt_mul hsz).2 hk2
      have hq : k % szT E.P e < (E.T.enc e m[k / szT E.P e]).length := by rw [hT.len e _ hk]; exact Nat.mod_lt _ hsz
      have h2 := hr _ _ _ _ (List.getElem?_eq_getElem hj) (List.getElem?_eq_getElem hq)
      rw [Nat.mul_comm, Nat.div_add_mod] at h2
      exact h2.oneCell (hT.pure e _ _ hk (List.getElem_mem hq)).2 hone
    · rw [List.getD_eq_getElem?_getD, List.getElem?_map, List.getElem?_range (hidx j y q v hy hv)]
      exact hr j y q v hy hv
  unfold srcV at h
  split at h
  · rename_i e' m'
    split at h
    · rename_i he
      subst he
      obtain rfl := Option.some.inj h
      cases hx with | ro _ _ a cap cf hk hcap hmax ha hr =>
      obtain ⟨f1, f2⟩ := fin e' m' cf hk hr
      refine ⟨a, cap, (List.range (m'.length * szT E.P e')).map cf, rfl, by simp, fun hne => ?_, f1, f2⟩
      obtain ⟨b, o, rfl, hb, hc⟩ := ha (fun e => hne (by rw [e]; rfl))
      refine ⟨_, rfl, fun j u hu => ?_⟩
      have hj : j < m'.length * szT E.P e' := by have := (List.getElem?_eq_some_iff.1 hu).1; simpa using this
      rw [List.getElem?_map, List.getElem?_range hj] at hu
      obtain rfl := Option.some.inj hu
      rw [Addr.add_lit]; exact hc j hj
    · cases h
  · rename_i i
    split at h
    · rename_i e' m' z hb
      split at h
      · rename_i he
        subst he
        obtain rfl := Option.some.inj h
        have hm := hx.own_inv
        have hrep := row_rep H (okx := fun b => okM st.hp μ W0 okb w b ∨ blockOf cx = some b) hb hm (fun b hb => .inl hb) (fun b hb => .inr hb)
        cases H.blk i _ hb with | row _ _ _ c cs hk hm' ho hr0 =>
        rw [hm] at hm'
        obtain rfl := Option.some.inj hm'
        obtain ⟨f1, f2⟩ := fin e' m' (fun j => cs.getD j undef) hk hr0
        have ho' := ho
        rcases ho.2 with ⟨rfl, h0⟩ | ⟨g, o, cap, cur, rfl, hB, hh, hcap, hmax, hs, ht⟩
        · have : m' = [] := List.eq_nil_of_length_eq_zero h0
          subst this
          exact ⟨none, 0, [], rfl, by simp, fun h => absurd rfl h, fun u hu => (by cases hu), fun j y q v hy => (by simp at hy)⟩
        · refine ⟨_, _, (List.range (m'.length * szT E.P e')).map fun j => cs.getD j undef, rfl, by simp, fun hne => ⟨_, rfl, fun j u hu => ?_⟩, f1, f2⟩
          have hj : j < m'.length * szT E.P e' := by have := (List.getElem?_eq_some_iff.1 hu).1; simpa using this
          rw [List.getElem?_map, List.getElem?_range hj] at hu
          obtain rfl := Option.some.inj hu
          have hlt : j < cs.length := by rw [ho'.1]; exact hj
          rw [Addr.add_lit, ownsR.cellAt ho' j hj, List.getElem?_eq_getElem hlt]
          simp [hlt]
      · cases h
    · cases h
  · obtain rfl := Option.some.inj h
    cases hx
    exact ⟨_, _, [], rfl, by simp, fun h => absurd rfl h, fun u hu => (by cases hu), fun j y q v hy => (by simp at hy)⟩
  · cases h
theorem append_sound (hT : E.T.Ok E.P) {a : Act} {as : List Act} (H : RelM E.T E.P W0 okb μ st (a :: as) w) {nb : Nat} (hnb : Fr μ nb) {o : Oper} {t : Nat} {os ox : Operand} (ho : o.op = .call { callee := .builtin .append, args := #[os, ox], argTypes := #[t, t] }) {K : VE E → SE E → Option R} (h : appendV E st nb t (st.ev os) (st.ev ox) K = some r) :
    ∃ v st', K v st' = some r ∧ OpRes E W0 okb μ st.nx nb (a :: as) a o w v st' := by
  unfold appendV at h
  split at h
  · cases h
  · rename_i e he
    have hu := elemT_spec he
    split at h
    · rename_i m hk hsrc
      obtain ⟨i, z, hi, hz, hzz, hby⟩ := hT.info e hk
      have hsz : i.size = szT E.P e := (szT_of hi).symm
      obtain ⟨ax, cap, news, hcx, hl, hax, h1, hrep⟩ := src_spec H hT (ev_rep H ox) hsrc
      have hbytes : ∀ n : Nat, n < 16777216 → n * i.bytes ≤ 140737488355328 := fun n hn => by
        have := Nat.mul_le_mul (Nat.le_of_lt hn) hby
        omega
      have mkblk : ∀ {l : List (E.T.A e)} {xs : List Value} {w' : World} {μ' : Nat → Option Value} {ok' : Nat → Prop} {c' : Value}, (∀ b, okM st.hp μ W0 okb w b → ok' b ∧ w'.heap[b]? = w.heap[b]?) → (∀ i x, μ i = some x → μ' i = some x) → xs.length = l.length * szT E.P e → μ' nb = some c' →
          (∀ j y q v, l[j]? = some y → (E.T.enc e y)[q]? = some v → REP E st μ W0 okb w v (xs.getD (j * szT E.P e + q) undef)) → ownsR w' W0.old e (szT E.P e) c' (l.length + m.length) (xs ++ news) → BlkRel E.T E.P W0 w' μ' ok' nb (.row e (l ++ m) false) := by
        intro l xs w' μ' ok' c' hok' hμ' hxl hm' hr0 how
        refine .row e _ false c' (xs ++ news) hk hm' (by rw [List.length_append]; exact how) fun j y q v hy hv => ?_
        have hq : q < szT E.P e := by rw [← hT.len e y hk]; exact (List.getElem?_eq_some_iff.1 hv).1
        by_cases hj : j < l.length
        · rw [List.getElem?_append_left hj] at hy
          have h2 := (hr0 j y q v hy hv).mono hok' hμ'
          have hlt : j * szT E.P e + q < xs.length := by
            have := Nat.mul_le_mul_right (szT E.P e) (show j + 1 ≤ l.length by omega)
            rw [Nat.add_mul, Nat.one_mul] at this; omega
          rw [List.getD_eq_getElem?_getD, List.getElem?_append_left hlt, ← List.getD_eq_getElem?_getD]
          exact h2
        · rw [List.getElem?_append_right (by omega)] at hy
          have h2 := (hrep (j - l.length) y q v hy hv).mono hok' hμ'
          have e2 : (j - l.length) * szT E.P e + q = j * szT E.P e + q - xs.length := by
            rw [hxl, Nat.sub_mul]
            have := Nat.mul_le_mul_right (szT E.P e) (show l.length ≤ j by omega)
            omega
          have hge : xs.length ≤ j * szT E.P e + q := by
            have := Nat.mul_le_mul_right (szT E.P e) (show l.length ≤ j by omega)
            omega
          rw [List.getD_eq_getElem?_getD, List.getElem?_append_right hge, ← e2, ← List.getD_eq_getElem?_getD]
          exact h2
      split at h
      · rename_i hs
        split at h
        · rename_i hlt
          have hes := ev_rep H os
          rw [hs] at hes
          have e1 := hes.nils_inv
          obtain ⟨v', w', hr, h2, h3, h4, h5⟩ := run_append_gen (P := E.P) w W0.old t o.type e i z (szT E.P e) i.bytes hu hi hz hsz rfl (by rw [hzz, hsz]) (hT.size e hk) (.slice none 0 0) 0 [] (ownsR_of (base := w.heap.size) H.below.new (World.ownsRow_nil _ _ _ _)) ax m.length cap news hl hax h1 (by simp only [maxLen]; omega) (hbytes _ (by omega)) H.below.new
          have hnew := H.new (c := v') (blk := .row e m false) hnb (w' := w') h3 h5 (fun k hk => by rcases h4 k hk with h | h; cases h; exact h) fun ok' hok' hμ' => ?_
          · exact ⟨_, _, h, _, _, _, side_upd _ _ _ _, .inl (by unfold execOp; simp only [ho, resolve, invoke, builtin, Sem.run_bind, Sem.run_pure, Result.andThen_ok, List.map_toArray, List.map_cons, List.map_nil, e1, hcx, hr]), hnew.1, .own _ _ (upd_same _ _ _)⟩
          · have := mkblk (l := []) (xs := []) (c' := v') hok' hμ' (by simp) (upd_same _ _ _) (fun j y q v hy => by simp at hy) (by simpa using h2)
            simpa using this
        · cases h
      · rename_i i0 hs
        split at h
        · rename_i e' l hb
          split at h
          · rename_i hee
            subst hee
            split at h
            · rename_i hlt
              have hes := ev_rep H os
              rw [hs] at hes
              have hm0 := hes.own_inv
              generalize hcs : a.eval os = cs at *
              have hB := H.blk i0 _ hb
              cases hB with | row _ _ _ c xs hk0 hm1 how hr0 =>
              rw [hm0] at hm1
              obtain rfl := Option.some.inj hm1
              obtain ⟨v', w', hr, h2, h3, h4, h5⟩ := run_append_gen (P := E.P) w W0.old t o.type e' i z (szT E.P e') i.bytes hu hi hz hsz rfl (by rw [hzz, hsz]) (hT.size e' hk) cs l.length xs how ax m.length cap news hl hax h1 (by simp only [maxLen]; omega) (hbytes _ (by omega)) H.below.new
              have hext := H.upd_ext hnb v'
              rw [ownBlock_eq how] at h3
              have hother : ∀ j bj d k, j ≠ i0 → look st.hp j = some bj → μ j = some d → blockOf d = some k → blockOf v' ≠ some k := by
                intro j bj d k hj hbj hd hk2 hk3
                rcases h4 k hk3 with h6 | h6
                · exact hj (H.inj j i0 bj _ d cs k hbj hb hd hm0 hk2 h6)
                · have := ((H.blk j bj hbj).block hd hk2).2; omega
              have hlk : ∀ j bj, look ((nb, Blk.row e' (l ++ m) false) :: delk st.hp i0) j = some bj → (j = nb ∧ bj = .row e' (l ++ m) false) ∨ (j ≠ nb ∧ j ≠ i0 ∧ look st.hp j = some bj) := by
                intro j bj hj
                rw [look_cons] at hj
                split at hj
                · rename_i e2; exact .inl ⟨e2.symm, (Option.some.inj hj).symm⟩
                · rename_i e2
                  rw [look_delk] at hj
                  split at hj
                  · cases hj
                  · rename_i e3; exact .inr ⟨fun e => e2 e.symm, e3, hj⟩
              have hstep := H.step (w' := w') (μ' := upd μ nb v') ((nb, .row e' (l ++ m) false) :: delk st.hp i0) (Nat.max st.nx (nb + 1)) (blockOf cs)
                (fun k hk2 => ⟨(H.blk i0 _ hb).block hm0 hk2 |>.1, i0, _, cs, hb, rfl, hm0, hk2⟩) h3 hext
                (fun j d hd => by
                  by_cases e2 : j = nb
                  · subst e2; rw [upd_same] at hd; obtain rfl := Option.some.inj hd; exact ⟨Nat.lt_of_lt_of_le (Nat.lt_succ_self _) (Nat.le_max_right _ _), h5⟩
                  · rw [upd_ne μ v' e2] at hd
                    have := H.dom j d hd
                    exact ⟨Nat.lt_of_lt_of_le this.1 (Nat.le_max_left _ _), this.2⟩)
                (fun b hbok j bj d hj hlive hd => by
                  rcases hlk j bj hj with ⟨rfl, rfl⟩ | ⟨g1, g2, g3⟩
                  · rw [upd_same] at hd; obtain rfl := Option.some.inj hd
                    intro hk2
                    rcases h4 b hk2 with h6 | h6
                    · exact hbok.2.2 i0 _ cs hb rfl hm0 h6
                    · have := hbok.1; omega
                  · rw [upd_ne μ v' g1] at hd
                    exact hbok.2.2 j bj d g3 hlive hd)
                (fun hmono j bj hj => by
                  rcases hlk j bj hj with ⟨rfl, rfl⟩ | ⟨g1, g2, g3⟩
                  · exact .inr (mkblk hmono hext how.1 (upd_same _ _ _) hr0 h2)
                  · obtain ⟨d, hd⟩ := (H.blk j bj g3).mu
                    exact .inl ⟨bj, d, g3, .inl rfl, hd, fun k hk2 hk3 => g2 (H.inj j i0 bj _ d cs k g3 hb hd hm0 hk3 hk2)⟩)
                (fun j j2 bj bj2 d d2 k hj hj2 hd hd2 hk2 hk3 => by
                  rcases hlk j bj hj with ⟨rfl, rfl⟩ | ⟨g1, g2, g3⟩
                  · rcases hlk j2 bj2 hj2 with ⟨rfl, rfl⟩ | ⟨f1, f2, f3⟩
                    · rfl
                    · rw [upd_same] at hd; obtain rfl := Option.some.inj hd
                      rw [upd_ne μ v' f1] at hd2
                      exact absurd hk2 (hother j2 bj2 d2 k f2 f3 hd2 hk3)
                  · rw [upd_ne μ v' g1] at hd
                    rcases hlk j2 bj2 hj2 with ⟨rfl, rfl⟩ | ⟨f1, f2, f3⟩
                    · rw [upd_same] at hd2; obtain rfl := Option.some.inj hd2
                      exact absurd hk3 (hother j bj d k g2 g3 hd hk2)
                    · rw [upd_ne μ v' f1] at hd2
                      exact H.inj j j2 bj bj2 d d2 k g3 f3 hd hd2 hk2 hk3)
              exact ⟨_, _, h, _, _, _, side_upd _ _ _ _, .inl (by unfold execOp; simp only [ho, resolve, invoke, builtin, Sem.run_bind, Sem.run_pure, Result.andThen_ok, List.map_toArray, List.map_cons, List.map_nil, hcs, hcx, hr]), hstep.1, .own _ _ (upd_same _ _ _)⟩
            · cases h
          · cases h
        · cases h
      · cases h
    · cases h
end
end Go.Proofs.YtpbpebjfglfjfaaGreatDoor.X
