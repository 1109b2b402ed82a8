/-
  SOUNDNESS, rows of the call's own: told by their elements; literals, make, append, stores.
-/
import Derived.Test.YtpbpebjfglfjfaaGreatDoorX6
import Derived.Great.BuildSlice
set_option autoImplicit false
set_option linter.unusedVariables false
set_option linter.unusedSimpArgs false
namespace Go.Proofs.YtpbpebjfglfjfaaGreatDoor.X
open Go Go.RowKit
section
variable {E : Env} {W0 : Wd} {w : World} {okb : Nat → Prop} {μ : Nat → Option Value} {st : SE E} {acts : List Act} {R : Type} {r : R}

theorem shut_succ (hp : List (Nat × Blk E.T.A)) (n : Nat) (v : VE E) : shut hp (n + 1) v = shut1 hp (shut hp n) v := rfl
/-- 'the blocks of these are allowed' -/
def Allows (μ : Nat → Option Value) (ids : List Nat) (okx : Nat → Prop) : Prop := ∀ i ∈ ids, ∀ c b, μ i = some c → blockOf c = some b → okx b
theorem mapO_spec {α β : Type} {f : α → Option β} (l : List α) : ∀ m : List β, mapO f l = some m → m.length = l.length ∧ ∀ (i : Nat) (v : α), l[i]? = some v → ∃ u, m[i]? = some u ∧ f v = some u := by
  induction l with
  | nil => intro m h; obtain rfl := Option.some.inj h; exact ⟨rfl, fun i v hv => by cases hv⟩
  | cons x l ih =>
    intro m h
    have h : cons2 (f x) (mapO f l) = some m := h
    unfold cons2 at h
    split at h
    · rename_i y z hy hz
      obtain rfl := Option.some.inj h
      obtain ⟨h1, h2⟩ := ih z hz
      refine ⟨by simp [h1], fun i v hv => ?_⟩
      cases i with
      | zero => obtain rfl := Option.some.inj hv; exact ⟨y, rfl, hy⟩
      | succ i => exact h2 i v hv
    · cases h
theorem shutAgg_spec {l : Option (List (VE E))} {u : VE E} (h : shutAgg l = some u) : ∃ m, l = some m ∧ u = .agg m := by
  unfold shutAgg at h; split at h
  · exact ⟨_, rfl, (Option.some.inj h).symm⟩
  · cases h
theorem shutOwn_spec {b : Option (Blk E.T.A)} {u : VE E} (h : shutOwn b = some u) : ∃ e l z, b = some (.row e l z) ∧ u = .ro e l := by
  unfold shutOwn at h; split at h
  · exact ⟨_, _, _, rfl, (Option.some.inj h).symm⟩
  · cases h
theorem row_rep (H : RelM E.T E.P W0 okb μ st acts w) {i e : Nat} {l : List (E.T.A e)} {z : Bool} {c : Value} {okx : Nat → Prop} (hb : look st.hp i = some (.row e l z)) (hm : μ i = some c) (h1 : ∀ b, okM st.hp μ W0 okb w b → okx b) (h2 : ∀ b, blockOf c = some b → okx b) :
    Rep E.T E.P w μ okx (.ro e l) c := by
  cases H.blk i _ hb with | row _ _ _ c' cs hk hm' ho h =>
  rw [hm] at hm'
  obtain rfl := Option.some.inj hm'
  have ho' := ho
  have hr : ∀ j x q v, l[j]? = some x → (E.T.enc e x)[q]? = some v → Rep E.T E.P w μ okx v (cs.getD (j * szT E.P e + q) undef) := fun j x q v hx hv => (h j x q v hx hv).mono (fun b hb => ⟨h1 b hb, rfl⟩) (fun _ _ h => h)
  rcases ho.2 with ⟨rfl, h0⟩ | ⟨g, o, cap, cur, rfl, hB, hh, hcap, hmax, hs, ht⟩
  · have : l = [] := List.eq_nil_of_length_eq_zero h0
    subst this
    exact .ro e [] none 0 (fun j => cs.getD j undef) hk (Nat.le_refl _) (Nat.zero_le _) (fun h => absurd rfl h) (fun j x i v hx => by simp at hx)
  · refine .ro e l _ cap (fun j => cs.getD j undef) hk hcap hmax (fun _ => ⟨g, o, rfl, h2 g rfl, fun j hj => ?_⟩) hr
    have hlt : j < cs.length := by rw [ho.1]; exact hj
    rw [ownsR.cellAt ho' j hj, List.getD_eq_getElem?_getD, List.getElem?_eq_getElem hlt]
    rfl
theorem shut_rep (H : RelM E.T E.P W0 okb μ st acts w) {okx : Nat → Prop} (h1 : ∀ b, okM st.hp μ W0 okb w b → okx b) : ∀ (n : Nat) (v u : VE E) (c : Value), shut st.hp n v = some u → REP E st μ W0 okb w v c → Allows μ (v.ids n) okx → Rep E.T E.P w μ okx u c
  | 0, v, u, c, hs, _, _ => by cases hs
  | n + 1, v, u, c, hs, hv, ha => by
    have keep : ∀ u, REP E st μ W0 okb w u c → Rep E.T E.P w μ okx u c := fun u hu => hu.mono (fun b hb => ⟨h1 b hb, rfl⟩) (fun _ _ h => h)
    cases v with
    | own i =>
      obtain ⟨e, l, z, hb, rfl⟩ := shutOwn_spec hs
      cases hv with | own _ _ hm =>
      exact row_rep H hb hm h1 fun b hk => ha i (by show i ∈ [i]; simp) c b hm hk
    | agg l =>
      obtain ⟨m, hm, rfl⟩ := shutAgg_spec hs
      obtain ⟨hl, hall⟩ := mapO_spec l m hm
      cases hv with | agg _ cs hcl hr =>
      refine .agg m cs (by rw [hcl, hl]) fun i u hu => ?_
      have hi : i < l.length := by rw [← hl]; exact (List.getElem?_eq_some_iff.1 hu).1
      obtain ⟨u', h2, h3⟩ := hall i _ (List.getElem?_eq_getElem hi)
      rw [hu] at h2
      obtain rfl := Option.some.inj h2
      exact shut_rep H h1 n _ u _ h3 (hr i _ (List.getElem?_eq_getElem hi)) fun k hk c b h4 h5 => ha k (List.mem_flatMap.2 ⟨l[i], List.getElem_mem hi, hk⟩) c b h4 h5
    | fn f l =>
      cases l with
      | nil => obtain rfl : V.fn f [] = u := Option.some.inj hs; exact keep _ hv
      | cons x l => cases hs
    | int k m => obtain rfl : V.int k m = u := Option.some.inj hs; exact keep _ hv
    | bool b => obtain rfl : V.bool b = u := Option.some.inj hs; exact keep _ hv
    | str b => obtain rfl : V.str b = u := Option.some.inj hs; exact keep _ hv
    | nils => obtain rfl : V.nils = u := Option.some.inj hs; exact keep _ hv
    | ro e l => obtain rfl : V.ro e l = u := Option.some.inj hs; exact keep _ hv
    | nul b => obtain rfl : V.nul b = u := Option.some.inj hs; exact keep _ hv
    | unk => obtain rfl : V.unk = u := Option.some.inj hs; exact keep _ hv
    | _ => cases hs
theorem shutL_spec {hp : List (Nat × Blk E.T.A)} {l m : List (VE E)} (h : shutL hp l = some m) : m.length = l.length ∧ ∀ (i : Nat) (v : VE E), l[i]? = some v → ∃ u, m[i]? = some u ∧ shut hp 2 v = some u := mapO_spec l m h
theorem okM_frozen (H : RelM E.T E.P W0 okb μ st acts w) {ids : List Nat} : Allows μ (ids.filter fun i => (look st.hp i).isSome) (okM (freeze st.hp ids) μ W0 okb w) := by
  intro i hi c b hc hb
  simp only [List.mem_filter, Option.isSome_iff_exists] at hi
  obtain ⟨hi, blk, hblk⟩ := hi
  obtain ⟨h1, h2⟩ := (H.blk i blk hblk).block hc hb
  refine ⟨h2, .inl h1, fun j bj d hj hlive hd hk => ?_⟩
  rw [look_freeze] at hj
  cases hj0 : look st.hp j with
  | none => rw [hj0] at hj; cases hj
  | some b0 =>
    rw [hj0] at hj
    obtain rfl := H.inj j i b0 blk d c b hj0 hblk hd hc hk hb
    simp only [Option.map_some, hi, if_true, Option.some.injEq] at hj
    rw [← hj, freeze_live] at hlive
    cases hlive
/-- what is told by its elements once its rows are set fast -/
theorem shut_frozen (H : RelM E.T E.P W0 okb μ st acts w) (ids : List Nat) (n : Nat) (v u : VE E) (c : Value) (hs : shut st.hp n v = some u) (hv : REP E st μ W0 okb w v c) (hids : ∀ i ∈ v.ids n, i ∈ ids) : Rep E.T E.P w μ (okM (freeze st.hp ids) μ W0 okb w) u c := by
  have key : ∀ (n : Nat) (v u : VE E), shut st.hp n v = some u → ∀ i ∈ v.ids n, (look st.hp i).isSome = true := by
    intro n
    induction n with
    | zero => intro v u h; cases h
    | succ n ih =>
      intro v u h i hi
      cases v with
      | own k =>
        have hi : i ∈ [k] := hi
        simp only [List.mem_singleton] at hi
        subst hi
        obtain ⟨e, l, z, hb, _⟩ := shutOwn_spec h
        rw [hb]; rfl
      | agg l =>
        obtain ⟨m, hm, rfl⟩ := shutAgg_spec h
        obtain ⟨_, hall⟩ := mapO_spec l m hm
        have hi : i ∈ l.flatMap (V.ids n) := hi
        obtain ⟨x, hx, hix⟩ := List.mem_flatMap.1 hi
        obtain ⟨q, hq, rfl⟩ := List.getElem_of_mem hx
        obtain ⟨u', _, h3⟩ := hall q _ (List.getElem?_eq_getElem hq)
        exact ih _ u' h3 i hix
      | fn f l =>
        cases l with
        | nil => cases hi
        | cons x l => cases h
      | _ => first | (have hi : i ∈ ([] : List Nat) := hi; cases hi) | (have h : (none : Option (VE E)) = some u := h; cases h)
  exact shut_rep H (H.freeze ids).2 n v u c hs hv fun i hi => okM_frozen H i (List.mem_filter.2 ⟨hids i hi, key n v u hs i hi⟩)

/-- cells of an element, told, as the element's own cells -/
theorem dec_rep (hT : E.T.Ok E.P) {e : Nat} {cs : List (VE E)} {x : E.T.A e} {okx : Nat → Prop} {μ' : Nat → Option Value} {w' : World} {ds : Nat → Value} (hk : E.T.known e = true) (hd : E.T.dec e cs = some x) (h : ∀ i v, cs[i]? = some v → Rep E.T E.P w' μ' okx v (ds i)) :
    ∀ q v, (E.T.enc e x)[q]? = some v → Rep E.T E.P w' μ' okx v (ds q) := by
  obtain ⟨h1, h2⟩ := hT.dec e cs x hk hd
  intro q v hv
  have hq : q < cs.length := by rw [h1, ← hT.len e x hk]; exact (List.getElem?_eq_some_iff.1 hv).1
  exact (h q _ (List.getElem?_eq_getElem hq)).sub (h2 q _ v (List.getElem?_eq_getElem hq) hv)

/-! make -/
theorem makeSlice_sound (hT : E.T.Ok E.P) {a : Act} {as : List Act} (H : RelM E.T E.P W0 okb μ st (a :: as) w) {nb : Nat} (hnb : Fr μ nb) {o : Oper} {t : Nat} {on oc : Operand} (ho : o.op = .makeSlice t on oc) {K : VE E → SE E → Option R} (h : makeSliceV E st nb t (st.ev on) (st.ev oc) K = some r) :
    ∃ v st', K v st' = some r ∧ OpRes E W0 okb μ st.nx nb (a :: as) a o w v st' := by
  unfold makeSliceV at h
  split at h
  · rename_i e k1 n k2 c he hn hc
    split at h
    · rename_i z hk hz
      split at h
      · rename_i y hy
        split at h
        · split at h
          · split at h
            · rename_i h0 h1 h2
              have hu : E.P.underlying t = some (.slice e) := by
                unfold elemT at he; split at he
                · rename_i hu; obtain rfl := Option.some.inj he; exact hu
                · cases he
              obtain ⟨i, zv, hi, hzv, hzs⟩ := zerosT_spec hz
              obtain ⟨i', z', hi', hz', hzz, hby⟩ := hT.info e hk
              rw [hi] at hi'; obtain rfl := Option.some.inj hi'
              rw [hzv] at hz'; obtain rfl := Option.some.inj hz'
              have hen := ev_rep H on
              have hec := ev_rep H oc
              rw [hn] at hen
              rw [hc] at hec
              have e1 : a.eval on = .int k1 n := hen.int_inv
              have e2 : a.eval oc = .int k2 c := hec.int_inv
              have hbytes : (i.bytes : Int) * c ≤ 281474976710656 := by
                have h3 : (i.bytes : Int) ≤ 65536 := by omega
                calc (i.bytes : Int) * c ≤ 65536 * c := Int.mul_le_mul_of_nonneg_right h3 (by omega)
                  _ ≤ 281474976710656 := by omega
              have hrun := run_make (P := E.P) w t e i zv hu hi hzv k1 k2 n c h0 h1 hbytes (by omega)
              have hsz : szT E.P e = i.size := szT_of hi
              have hsp := hT.size e hk
              have hnew := H.new (c := .slice (some ⟨w.heap.size, 0, none⟩) n.toNat c.toNat) (blk := .row e (List.replicate n.toNat y) false) hnb (World.grownBy_alloc w (.cells (madeCells zv.cells (c.toNat * i.size)) e) none) rfl
                (fun k hk => by simp only [blockOf, Option.some.injEq] at hk; omega) fun ok' hok' hμ' => ?_
              · exact ⟨_, _, h, _, _, _, side_upd _ _ _ _, .inl (by unfold execOp; simp only [ho, e1, e2, Sem.run_bind, hrun, Result.andThen_ok, Sem.run_pure]), hnew.1, .own _ _ (upd_same _ _ _)⟩
              · have hge : n.toNat * i.size ≤ c.toNat * i.size := Nat.mul_le_mul_right _ (by omega)
                refine .row e _ false _ ((madeCells zv.cells (c.toNat * i.size)).toList.take (n.toNat * i.size)) hk (upd_same _ _ _) (ownsR_of (base := w.heap.size) H.below.new ⟨?_, .inr ⟨w.heap.size, c.toNat, madeCells zv.cells (c.toNat * i.size), ?_, Nat.le_refl _, heap_alloc_new w _, ?_, ?_, ?_, ?_⟩⟩) ?_
                · rw [hsz, List.length_take, Array.length_toList, size_madeCells, List.length_replicate]; omega
                · rw [List.length_replicate]
                · rw [List.length_replicate]; omega
                · simp only [maxLen]; omega
                · rw [hsz, size_madeCells]
                · rw [hsz, List.length_replicate]
                · intro j x q v hx hv
                  have hx' : x = y ∧ j < n.toNat := by
                    rw [List.getElem?_replicate] at hx
                    split at hx
                    · exact ⟨(Option.some.inj hx).symm, by assumption⟩
                    · cases hx
                  obtain ⟨rfl, hj⟩ := hx'
                  have hq : q < i.size := by rw [← hsz, ← hT.len e x hk]; exact (List.getElem?_eq_some_iff.1 hv).1
                  have hidx : j * i.size + q < n.toNat * i.size := by
                    have := Nat.mul_le_mul_right i.size (show j + 1 ≤ n.toNat by omega)
                    rw [Nat.add_mul, Nat.one_mul] at this; omega
                  have hval : ((madeCells zv.cells (c.toNat * i.size)).toList.take (n.toNat * i.size)).getD (j * szT E.P e + q) undef = zv.cells.toList.getD q undef := by
                    rw [hsz, List.getD_eq_getElem?_getD, List.getElem?_take, if_pos hidx]
                    have h3 : (j * i.size + q) % zv.cells.size = q := by rw [hzz, Nat.mul_comm, Nat.mul_add_mod, Nat.mod_eq_of_lt hq]
                    have h4 : j * i.size + q < c.toNat * i.size := by omega
                    simp [madeCells, h4, h3, show q < zv.cells.size by omega]
                  rw [hval]
                  refine dec_rep hT (ds := fun q => zv.cells.toList.getD q undef) hk hy (fun q v hv => ?_) q v hv
                  rw [hzs, List.getElem?_map] at hv
                  cases hc2 : zv.cells.toList[q]? with
                  | none => rw [hc2] at hv; cases hv
                  | some c2 =>
                    rw [hc2] at hv
                    obtain rfl := Option.some.inj hv
                    rw [List.getD_eq_getElem?_getD, hc2]
                    exact cv_rep c2
            · cases h
          · cases h
        · cases h
      · cases h
    · cases h
  · cases h
end
end Go.Proofs.YtpbpebjfglfjfaaGreatDoor.X
