/-
  SOUNDNESS of one operation.
-/
import Derived.Test.YtpbpebjfglfjfaaGreatDoorXM
set_option autoImplicit false
set_option linter.unusedVariables false
set_option linter.unusedSimpArgs false
namespace Go.Proofs.YtpbpebjfglfjfaaGreatDoor.X
open Go Go.RowKit
section
variable {E : Env} {W0 : Wd} {w : World} {okb : Nat → Prop} {μ : Nat → Option Value} {st : SE E} {acts : List Act} {R : Type} {r : R}
theorem run_size_i {t : Nat} {i : TypeInfo} (hi : E.P.info? t = some i) (hs : i.size = szT E.P t) (w : World) : (sizeOf t).run E.P w = .ok (szT E.P t) w := by simp [sizeOf, typeInfo, hi, hs]
/-- the bounds of a slice expression -/
theorem bounds_spec {lo hi : Option (VE E)} {clo chi : Option Value} {n : Nat} {k : Nat → Nat → Option R} (hlo : ∀ v, lo = some v → ∃ c, clo = some c ∧ REP E st μ W0 okb w v c) (hlo' : lo = none → clo = none) (hhi : ∀ v, hi = some v → ∃ c, chi = some c ∧ REP E st μ W0 okb w v c) (hhi' : hi = none → chi = none)
    (h : boundsV lo hi n k = some r) : ∃ l u, k l u = some r ∧ l ≤ u ∧ u ≤ n ∧ ∀ (s : Bool) (cap : Nat), n ≤ cap → (Instr.sliceBounds s n cap clo chi none).run E.P w = .ok (l, u, cap) w := by
  unfold boundsV at h
  split at h
  · rw [hlo' rfl, hhi' rfl]
    exact ⟨0, n, h, Nat.zero_le _, Nat.le_refl _, fun s cap hc => by simp [Instr.sliceBounds]⟩
  · split at h
    · split at h
      · rename_i k1 l h0 h1
        obtain ⟨c, rfl, hc⟩ := hlo _ rfl
        rw [hc.int_inv, hhi' rfl]
        exact ⟨_, n, h, by omega, Nat.le_refl _, fun s cap hc => by simp [Instr.sliceBounds, run_sliceBound, h0, h1]⟩
      · cases h
    · cases h
  · split at h
    · split at h
      · rename_i k1 u h0 h1
        obtain ⟨c, rfl, hc⟩ := hhi _ rfl
        rw [hc.int_inv, hlo' rfl]
        exact ⟨0, _, h, Nat.zero_le _, by omega, fun s cap hc => by simp [Instr.sliceBounds, run_sliceBound, h0, show u ≤ (cap : Int) by omega]⟩
      · cases h
    · cases h
  · split at h
    · split at h
      · split at h
        · rename_i k1 l k2 u h0 h1 h2
          obtain ⟨c, rfl, hc⟩ := hlo _ rfl
          obtain ⟨d, rfl, hd⟩ := hhi _ rfl
          rw [hc.int_inv, hd.int_inv]
          refine ⟨_, _, h, by omega, by omega, fun s cap hc => ?_⟩
          have eu : (u.toNat : Int) = u := Int.toNat_of_nonneg (by omega)
          simp [Instr.sliceBounds, run_sliceBound, h0, show (0 : Int) ≤ u by omega, show u ≤ (cap : Int) by omega, eu, h1]
        · cases h
      · cases h
    · cases h
  · cases h
theorem ro_sub {T : Tab} {P : Program} {w : World} {μ : Nat → Option Value} {ok : Nat → Prop} {e : Nat} {l : List (T.A e)} {a : Option Addr} {n cap x y : Nat} (hx : x ≤ y) (hy : y ≤ l.length) (h : Rep T P w μ ok (.ro e l) (.slice a n cap)) : Rep T P w μ ok (.ro e ((l.take y).drop x)) (sliced a x y cap (szT P e)) := by
  cases h with | ro _ _ _ _ cf hk hcap hmax ha hr =>
  have hlen : ((l.take y).drop x).length = y - x := by simp; omega
  unfold sliced
  rw [← hlen]
  refine .ro e _ _ _ (fun j => cf (x * szT P e + j)) hk (by omega) (by omega) (fun hne => ?_) (fun j z i v hz hv => ?_)
  · have hxy : x < y := by
      rcases Nat.lt_or_ge x y with h | h
      · exact h
      · exact absurd (List.eq_nil_of_length_eq_zero (by omega)) hne
    obtain ⟨b, o, rfl, hb, hc⟩ := ha (fun e => by rw [e] at hy; simp at hy; omega)
    refine ⟨b, o + x * szT P e, ?_, hb, fun j hj => ?_⟩
    · rw [if_neg (by omega)]; simp [Addr.add_lit]
    · rw [hlen] at hj
      rw [Nat.add_assoc]
      refine hc _ ?_
      have := Nat.mul_le_mul_right (szT P e) (show y ≤ l.length by omega)
      have h2 : x * szT P e + (y - x) * szT P e = y * szT P e := by rw [← Nat.add_mul]; congr 1; omega
      omega
  · rw [List.getElem?_drop, List.getElem?_take] at hz
    split at hz
    · have := hr (x + j) z i v hz hv
      rw [Nat.add_mul] at this
      rw [← Nat.add_assoc]; exact this
    · cases hz
theorem slice_sound (hT : E.T.Ok E.P) {a : Act} {as : List Act} (H : RelM E.T E.P W0 okb μ st (a :: as) w) {nb : Nat} {o : Oper} {t : Nat} {ox : Operand} {lo hi : Option Operand} (ho : o.op = .slice t ox lo hi none) {K : VE E → SE E → Option R} (h : sliceV E st t (st.ev ox) (lo.map st.ev) (hi.map st.ev) K = some r) :
    ∃ v st', K v st' = some r ∧ OpRes E W0 okb μ st.nx nb (a :: as) a o w v st' := by
  have hex := ev_rep H ox
  have hb : ∀ {n : Nat} {k : Nat → Nat → Option R}, boundsV (lo.map st.ev) (hi.map st.ev) n k = some r → _ := fun {n k} h => bounds_spec (st := st) (μ := μ) (W0 := W0) (okb := okb) (w := w) (clo := lo.map a.eval) (chi := hi.map a.eval)
    (fun v hv => by cases lo with | none => cases hv | some x => obtain rfl := Option.some.inj hv; exact ⟨_, rfl, ev_rep H x⟩) (fun hv => by cases lo with | none => rfl | some x => cases hv)
    (fun v hv => by cases hi with | none => cases hv | some x => obtain rfl := Option.some.inj hv; exact ⟨_, rfl, ev_rep H x⟩) (fun hv => by cases hi with | none => rfl | some x => cases hv) h
  unfold sliceV at h
  generalize hcx : a.eval ox = cx at *
  split at h
  · rename_i s hu hx
    rw [hx] at hex
    obtain ⟨l, u, hK, h1, h2, h3⟩ := hb h
    refine ⟨_, _, hK, μ, .string (subB s l u), w, side_same _ _ _, .inl ?_, H.nx (Nat.le_max_left _ _), .str _⟩
    have := h3 false s.size (Nat.le_refl _)
    unfold execOp
    simp only [ho, hcx, hex.str_inv, Instr.sliceAt, Sem.run_bind, run_underlying hu, Result.andThen_ok, Instr.slice, Option.map_none, Option.isSome_none, Bool.false_eq_true, if_false, this, Sem.run_pure]
    congr 3
    apply ByteArray.ext
    unfold subB
    rw [ByteArray.data_extract]
    apply Array.ext'
    simp
  · rename_i e' e l hu hx
    rw [hx] at hex
    split at h
    · rename_i he
      obtain rfl := Nat.eq_of_beq_eq_true he
      obtain ⟨x, y, hK, h1, h2, h3⟩ := hb h
      have hex2 := hex
      cases hex with | ro _ _ ad cap cf hk hcap hmax ha hr =>
      refine ⟨_, _, hK, μ, _, w, side_same _ _ _, .inl ?_, H.nx (Nat.le_max_left _ _), ro_sub h1 h2 hex2⟩
      obtain ⟨i, hi, hs⟩ := szT_info (E := E) (t := e') (by have := hT.size e' hk; omega)
      unfold execOp
      simp only [ho, hcx, Instr.sliceAt, Sem.run_bind, run_underlying hu, Result.andThen_ok, Instr.slice, Option.map_none, h3 true cap hcap, Sem.run_pure, run_size_i hi hs, sliced]
    · cases h
  · rename_i e' id hu hx
    rw [hx] at hex
    split at h
    · rename_i e l z hbk
      split at h
      · rename_i he
        obtain rfl := Nat.eq_of_beq_eq_true he
        obtain ⟨x, y, hK, h1, h2, h3⟩ := hb h
        have hm := hex.own_inv
        obtain ⟨ad, cap, rfl, hcap, _⟩ := row_len H hbk hm
        have hrep := row_rep H (okx := okM (freeze st.hp [id]) μ W0 okb w) hbk hm (H.freeze [id]).2 fun b hb => okM_frozen H (ids := [id]) id (by simp [hbk]) _ b hm hb
        have hk : E.T.known e' = true := by cases H.blk _ _ hbk; assumption
        refine ⟨_, _, hK, μ, _, w, side_same _ _ _, .inl ?_, (H.freeze [id]).1.nx (Nat.le_max_left _ _), ro_sub h1 h2 hrep⟩
        obtain ⟨i, hi, hs⟩ := szT_info (E := E) (t := e') (by have := hT.size e' hk; omega)
        unfold execOp
        simp only [ho, hcx, Instr.sliceAt, Sem.run_bind, run_underlying hu, Result.andThen_ok, Instr.slice, Option.map_none, h3 true cap hcap, Sem.run_pure, run_size_i hi hs, sliced]
      · cases h
    · cases h
  · cases h
/-- a block is taken over by a new number -/
theorem RelM.takeover {a : Act} {as : List Act} (H : RelM E.T E.P W0 okb μ st (a :: as) w) {nb : Nat} (hnb : Fr μ nb) {i0 : Nat} {b0 : Blk E.T.A} (hb : look st.hp i0 = some b0) (hlive : b0.live = true) {cs v' : Value} (hm0 : μ i0 = some cs) {w' : World} (h3 : w.grownBy w' (blockOf cs))
    (h4 : ∀ k, blockOf v' = some k → blockOf cs = some k ∨ w.heap.size ≤ k) (h5 : v'.oneCell' = true) {b1 : Blk E.T.A}
    (mk : ∀ ok' : Nat → Prop, (∀ b, okM st.hp μ W0 okb w b → ok' b ∧ w'.heap[b]? = w.heap[b]?) → BlkRel E.T E.P W0 w' (upd μ nb v') ok' nb b1) :
    RelM E.T E.P W0 okb (upd μ nb v') { st with hp := (nb, b1) :: delk st.hp i0, nx := Nat.max st.nx (nb + 1) } (a :: as) w' := by
  have hext := H.upd_ext hnb v'
  have hother : ∀ j bj d k, j ≠ i0 → look st.hp j = some bj → μ j = some d → blockOf d = some k → blockOf v' ≠ some k := by
    intro j bj d k hj hbj hd hk2 hk3
    rcases h4 k hk3 with h6 | h6
    · exact hj (H.inj j i0 bj _ d cs k hbj hb hd hm0 hk2 h6)
    · have := ((H.blk j bj hbj).block hd hk2).2; omega
  have hlk : ∀ j bj, look ((nb, b1) :: delk st.hp i0) j = some bj → (j = nb ∧ bj = b1) ∨ (j ≠ nb ∧ j ≠ i0 ∧ look st.hp j = some bj) := by
    intro j bj hj
    rw [look_cons] at hj
    split at hj
    · rename_i e2; exact .inl ⟨e2.symm, (Option.some.inj hj).symm⟩
    · rename_i e2
      rw [look_delk] at hj
      split at hj
      · cases hj
      · rename_i e3; exact .inr ⟨fun e => e2 e.symm, e3, hj⟩
  have hstep := H.step (w' := w') (μ' := upd μ nb v') ((nb, b1) :: delk st.hp i0) (Nat.max st.nx (nb + 1)) (blockOf cs)
    (fun k hk2 => ⟨(H.blk i0 _ hb).block hm0 hk2 |>.1, i0, _, cs, hb, hlive, hm0, hk2⟩) h3 hext
    (fun j d hd => by
      by_cases e2 : j = nb
      · subst e2; rw [upd_same] at hd; obtain rfl := Option.some.inj hd; exact ⟨Nat.lt_of_lt_of_le (Nat.lt_succ_self _) (Nat.le_max_right _ _), h5⟩
      · rw [upd_ne μ v' e2] at hd
        have := H.dom j d hd
        exact ⟨Nat.lt_of_lt_of_le this.1 (Nat.le_max_left _ _), this.2⟩)
    (fun b hbok j bj d hj hlv hd => by
      rcases hlk j bj hj with ⟨rfl, rfl⟩ | ⟨g1, g2, g3⟩
      · rw [upd_same] at hd; obtain rfl := Option.some.inj hd
        intro hk2
        rcases h4 b hk2 with h6 | h6
        · exact hbok.2.2 i0 _ cs hb hlive hm0 h6
        · have := hbok.1; omega
      · rw [upd_ne μ v' g1] at hd
        exact hbok.2.2 j bj d g3 hlv hd)
    (fun hmono j bj hj => by
      rcases hlk j bj hj with ⟨rfl, rfl⟩ | ⟨g1, g2, g3⟩
      · exact .inr (mk _ hmono)
      · obtain ⟨d, hd⟩ := (H.blk j bj g3).mu
        exact .inl ⟨bj, d, g3, .inl rfl, hd, fun k hk2 hk3 => g2 (H.inj j i0 bj _ d cs k g3 hb hd hm0 hk3 hk2)⟩)
    (fun j j2 bj bj2 d d2 k hj hj2 hd hd2 hk2 hk3 => by
      rcases hlk j bj hj with ⟨rfl, rfl⟩ | ⟨g1, g2, g3⟩
      · rcases hlk j2 bj2 hj2 with ⟨rfl, rfl⟩ | ⟨f1, f2, f3⟩
        · rfl
        · rw [upd_same] at hd; obtain rfl := Option.some.inj hd
          rw [upd_ne μ v' f1] at hd2
          exact absurd hk2 (hother j2 bj2 d2 k f2 f3 hd2 hk3)
      · rw [upd_ne μ v' g1] at hd
        rcases hlk j2 bj2 hj2 with ⟨rfl, rfl⟩ | ⟨f1, f2, f3⟩
        · rw [upd_same] at hd2; obtain rfl := Option.some.inj hd2
          exact absurd hk3 (hother j bj d k g2 g3 hd hk2)
        · rw [upd_ne μ v' f1] at hd2
          exact H.inj j j2 bj bj2 d d2 k g3 f3 hd hd2 hk2 hk3)
  exact hstep.1
/-- the rest of a row of the call's own -/
theorem ownsR_drop {w : World} {base : Nat → Prop} {e size : Nat} {len : Nat} {ad : Option Addr} {cap : Nat} {xs : List Value} {n : Nat} (hn : n ≤ len) (h : ownsR w base e size (.slice ad len cap) len xs) : ownsR w base e size (sliced ad n len cap size) (len - n) (xs.drop (n * size)) ∧ (∀ k, blockOf (sliced ad n len cap size) = some k → blockOf (.slice ad len cap) = some k) ∧ (sliced ad n len cap size).oneCell' = true := by
  have hl : (xs.drop (n * size)).length = (len - n) * size := by rw [List.length_drop, h.1, Nat.sub_mul]
  rcases h.2 with ⟨h1, h2⟩ | ⟨g, o, cap', cur, h1, hB, hh, h3, h4, h5, h6⟩
  · simp only [Value.slice.injEq] at h1
    obtain ⟨rfl, rfl, rfl⟩ := h1
    have : n = 0 := by omega
    subst this
    exact ⟨⟨hl, .inl ⟨rfl, rfl⟩⟩, fun k hk => hk, rfl⟩
  · simp only [Value.slice.injEq, true_and] at h1
    obtain ⟨rfl, rfl⟩ := h1
    unfold sliced
    by_cases hc : cap = n
    · rw [if_pos hc]
      refine ⟨⟨hl, .inr ⟨g, o, cap - n, cur, rfl, hB, hh, by omega, by omega, ?_, ?_⟩⟩, fun k hk => hk, rfl⟩
      · rw [hc, Nat.sub_self, Nat.zero_mul]
        have := Nat.zero_le (cap * size)
        omega
      · have h0 : len - n = 0 := by omega
        have h7 : xs.drop (n * size) = [] := List.eq_nil_of_length_eq_zero (by rw [hl, h0, Nat.zero_mul])
        rw [h0, h7, Nat.zero_mul, List.take_zero]
    · rw [if_neg hc]
      refine ⟨⟨hl, .inr ⟨g, o + n * size, cap - n, cur, by simp [Addr.add_lit], hB, hh, by omega, by omega, ?_, ?_⟩⟩, fun k hk => by simpa [blockOf, Addr.add_lit] using hk, rfl⟩
      · rw [Nat.add_assoc, ← Nat.add_mul, Nat.add_sub_cancel' (by omega)]; exact h5
      · rw [← h6, List.drop_take, List.drop_drop, Nat.sub_mul]
theorem sliceW_sound (hT : E.T.Ok E.P) {a : Act} {as : List Act} (H : RelM E.T E.P W0 okb μ st (a :: as) w) {nb : Nat} (hnb : Fr μ nb) {o : Oper} {t : Nat} {ox lo : Operand} (ho : o.op = .slice t ox (some lo) none none) {K : VE E → SE E → Option R} (h : sliceW E st nb t (st.ev ox) (st.ev lo) K = some r) :
    ∃ v st', K v st' = some r ∧ OpRes E W0 okb μ st.nx nb (a :: as) a o w v st' := by
  unfold sliceW at h
  split at h
  · rename_i e' id k n hu hx hlo
    split at h
    · rename_i e l hbk
      split at h
      · rename_i he
        obtain rfl := Nat.eq_of_beq_eq_true he
        split at h
        · split at h
          · rename_i h0 h1
            have hex := ev_rep H ox
            rw [hx] at hex
            have hm := hex.own_inv
            have hel := ev_rep H lo
            rw [hlo] at hel
            have e1 : a.eval lo = .int k n := hel.int_inv
            generalize hcx : a.eval ox = cx at *
            have hB := H.blk _ _ hbk
            cases hB with | row _ _ _ c cs hk hm' ho' hr =>
            rw [hm] at hm'
            obtain rfl := Option.some.inj hm'
            have hn : n.toNat ≤ l.length := by omega
            obtain ⟨ad, cap, rfl, hcap, _⟩ := row_len H hbk hm
            obtain ⟨o1, o2, o3⟩ := ownsR_drop hn ho'
            obtain ⟨i, hi, hs⟩ := szT_info (E := E) (t := e') (by have := hT.size e' hk; omega)
            have hsp := hT.size e' hk
            have hbd : (Instr.sliceBounds true l.length cap (some (a.eval lo)) none none).run E.P w = .ok (n.toNat, l.length, cap) w := by
              rw [e1]; simp [Instr.sliceBounds, run_sliceBound, h0, h1]
            have hnew := H.takeover hnb (v' := sliced ad n.toNat l.length cap (szT E.P e')) hbk rfl hm (World.grownBy.refl w _) (fun k hk => .inl (o2 k hk)) o3 (b1 := .row e' (l.drop n.toNat) false) fun ok' hok' => by
              refine .row e' _ false _ (cs.drop (n.toNat * szT E.P e')) hk (upd_same _ _ _) (by rw [List.length_drop]; exact o1) fun j x q v hx hv => ?_
              rw [List.getElem?_drop] at hx
              have := (hr (n.toNat + j) x q v hx hv).mono hok' (H.upd_ext hnb (sliced ad n.toNat l.length cap (szT E.P e')))
              rw [List.getD_eq_getElem?_getD, List.getElem?_drop, ← List.getD_eq_getElem?_getD, ← Nat.add_assoc, ← Nat.add_mul]
              exact this
            refine ⟨_, _, h, _, _, _, side_upd _ _ _ _, .inl ?_, hnew, .own _ _ (upd_same _ _ _)⟩
            unfold execOp
            simp only [ho, hcx, Instr.sliceAt, Sem.run_bind, run_underlying hu, Result.andThen_ok, Instr.slice, Option.map_some, Option.map_none, hbd, Sem.run_pure, run_size_i hi hs, sliced]
          · cases h
        · cases h
      · cases h
    · rename_i hne
      rw [← hx, ← hlo] at h
      exact slice_sound hT H (nb := nb) (lo := some lo) (hi := none) ho h
  · exact slice_sound hT H (nb := nb) (lo := some lo) (hi := none) ho h
theorem mapO_mapM {α β : Type} (f : α → Option β) (l : List α) : mapO f l = l.mapM f := by
  induction l with
  | nil => rfl
  | cons x l ih =>
    have e : mapO f (x :: l) = cons2 (f x) (mapO f l) := rfl
    rw [e, ih, List.mapM_cons]
    unfold cons2
    cases f x with
    | none => rfl
    | some y => cases List.mapM f l <;> rfl
theorem len_sound (H : RelM E.T E.P W0 okb μ st acts w) {t : Nat} {x : VE E} {cx : Value} {ty : Nat} {K : VE E → Option R} (hx : REP E st μ W0 okb w x cx) (h : lenV E st t x K = some r) :
    ∃ v, K v = some r ∧ ∃ c, (Builtin.len_ #[t] ty #[cx]).run E.P w = .ok c w ∧ REP E st μ W0 okb w v c := by
  unfold lenV at h
  split at h
  · rename_i s hu; rw [hx.str_inv]; exact ⟨_, h, _, by simp [Builtin.len_, run_underlying hu, goInt], .int _ _⟩
  · rename_i hu; rw [hx.nils_inv]; exact ⟨_, h, _, by simp [Builtin.len_, run_underlying hu, goInt], .int _ _⟩
  · rename_i e l hu; cases hx; exact ⟨_, h, _, by simp [Builtin.len_, run_underlying hu, goInt], .int _ _⟩
  · rename_i i hu
    split at h
    · rename_i e l z hb
      obtain ⟨ad, cap, rfl, _⟩ := row_len H hb hx.own_inv
      exact ⟨_, h, _, by simp [Builtin.len_, run_underlying hu, goInt], .int _ _⟩
    · cases h
  · rename_i n e hu; exact ⟨_, h, _, by simp [Builtin.len_, run_underlying hu, goInt], .int _ _⟩
  · rename_i k e i hu
    split at h
    · rename_i l z hb
      obtain ⟨r, es, n, rfl, _, h2, h3, _⟩ := map_own H hb hx.mapr_inv
      exact ⟨_, h, _, by simp [Builtin.len_, run_underlying hu, goInt, getMap_run h2, h3, ents_len], .int _ _⟩
    · cases h
  · cases h
theorem foldI_spec (g : Int → Int → Int) (k : IntKind) (f : Value → Value → Sem Value) (hf : ∀ x y, f (.int k x) (.int k y) = pure (.int k (g x y))) : ∀ (xs : List (VE E)) (cs : List Value) (a : Int) (v : VE E), (∀ (i : Nat) (x : VE E), xs[i]? = some x → ∃ c, cs[i]? = some c ∧ REP E st μ W0 okb w x c) → xs.length = cs.length → foldI g k xs a = some v →
    ∃ n, v = .int k n ∧ (cs.foldlM f (.int k a)).run E.P w = .ok (.int k n) w
  | [], [], a, v, _, _, h => by obtain rfl := Option.some.inj h; exact ⟨a, rfl, rfl⟩
  | [], _ :: _, a, v, _, hl, _ => by cases hl
  | _ :: _, [], a, v, _, hl, _ => by cases hl
  | x :: xs, c :: cs, a, v, hx, hl, h => by
    have h : fold1 g k x (foldI g k xs) a = some v := h
    unfold fold1 at h
    split at h
    · rename_i j b _
      split at h
      · rename_i hj
        obtain rfl : j = k := of_decide_eq_true hj
        obtain ⟨c', hc, hr⟩ := hx 0 _ rfl
        obtain rfl := Option.some.inj hc
        obtain ⟨n, h1, h2⟩ := foldI_spec g j f hf xs cs (g a b) v (fun i x hi => hx (i + 1) x hi) (by simpa using hl) h
        exact ⟨n, h1, by rw [hr.int_inv, List.foldlM_cons, hf]; simpa using h2⟩
      · cases h
    · cases h
theorem extreme_sound (g : Int → Int → Int) (f : Value → Value → Sem Value) (hf : ∀ k x y, f (.int k x) (.int k y) = pure (.int k (g x y))) {xs : List (VE E)} {cs : List Value} {K : VE E → Option R} (hx : ∀ (i : Nat) (x : VE E), xs[i]? = some x → ∃ c, cs[i]? = some c ∧ REP E st μ W0 okb w x c) (hl : xs.length = cs.length) (h : extremeV g xs K = some r) :
    ∃ v, K v = some r ∧ ∃ c, (match cs with | [] => stuck "max: at least one argument expected" | x :: rest => rest.foldlM f x : Sem Value).run E.P w = .ok c w ∧ REP E st μ W0 okb w v c := by
  unfold extremeV at h
  split at h
  · rename_i k a xs
    split at h
    · rename_i v hv
      cases cs with
      | nil => cases hl
      | cons c cs =>
        obtain ⟨c', hc, hr⟩ := hx 0 _ rfl
        obtain rfl := Option.some.inj hc
        obtain ⟨n, rfl, h2⟩ := foldI_spec g k f (hf k) xs cs a v (fun i x hi => hx (i + 1) x hi) (by simpa using hl) hv
        exact ⟨_, h, _, by rw [hr.int_inv]; exact h2, .int _ _⟩
    · cases h
  · cases h
theorem args_rep {a : Act} {as : List Act} (H : RelM E.T E.P W0 okb μ st (a :: as) w) (xs : List Operand) : ∀ (i : Nat) (x : VE E), (xs.map st.ev)[i]? = some x → ∃ c, (xs.map a.eval)[i]? = some c ∧ REP E st μ W0 okb w x c := by
  intro i x hx
  rw [List.getElem?_map] at hx
  cases h : xs[i]? with
  | none => rw [h] at hx; cases hx
  | some y => rw [h] at hx; obtain rfl := Option.some.inj hx; exact ⟨_, by rw [List.getElem?_map, h]; rfl, ev_rep H y⟩
/-- ONE OPERATION. -/
theorem opv_sound (hT : E.T.Ok E.P) {a : Act} {as : List Act} (H : RelM E.T E.P W0 okb μ st (a :: as) w) {nb : Nat} (hnb : Fr μ nb) {o : Oper} {K : VE E → SE E → Option R} (h : opv E st o nb K = some r) :
    ∃ v st', K v st' = some r ∧ OpRes E W0 okb μ st.nx nb (a :: as) a o w v st' := by
  unfold opv at h
  split at h
  · rename_i x ho; rw [force_eq] at h
    exact opres_read H ⟨_, h, _, by unfold execOp; simp only [ho, Sem.run_pure], ev_rep H x⟩
  · rename_i x ho; rw [force_eq] at h
    exact opres_read H ⟨_, h, _, by unfold execOp; simp only [ho, Sem.run_pure], ev_rep H x⟩
  · rename_i c x y ho
    split at h
    · rename_i t hc
      have hcr := ev_rep H c
      rw [hc] at hcr
      split at h
      · rename_i ht; rw [force_eq] at h
        exact opres_read H ⟨_, h, _, by unfold execOp; simp only [ho, hcr.bool_inv, asBool, Sem.run_bind, Sem.run_pure, Result.andThen_ok, ht, if_true], ev_rep H x⟩
      · rename_i ht; rw [force_eq] at h
        exact opres_read H ⟨_, h, _, by unfold execOp; simp only [ho, hcr.bool_inv, asBool, Sem.run_bind, Sem.run_pure, Result.andThen_ok, ht, if_false, Bool.false_eq_true], ev_rep H y⟩
    · cases h
  · rename_i t ho
    split at h
    · rename_i z hz
      obtain ⟨i, y, hi, hy, rfl⟩ := zerosT_spec hz
      have hrun : (Instr.alloc t true (.tuple #[])).run E.P w = .ok (.pointer (some ⟨w.heap.size, 0, none⟩)) (w.alloc (.cells y.cells t)) := by
        simp [Instr.alloc, run_zero hi hy, newVar, newRow]
      refine ⟨_, _, h, _, _, _, side_upd _ _ _ _, .inl (by unfold execOp; simp only [ho, Sem.run_bind, hrun, Result.andThen_ok, Sem.run_pure]), alloc_sound H hnb (cs := y.cells) (t := t) (by simp) (fun j v hv => ?_), .ptr _ _ _ (upd_same _ _ _)⟩
      rw [List.getElem?_map] at hv
      cases hc : y.cells.toList[j]? with
      | none => rw [hc] at hv; cases hv
      | some c =>
        rw [hc] at hv
        obtain rfl := Option.some.inj hv
        rw [Array.getD_eq_getD_getElem?, ← Array.getElem?_toList, hc]
        exact cv_rep c
    · cases h
  · rename_i t x ho
    split at h
    · rename_i hl h1
      obtain ⟨c1, c2⟩ := cells_rep (ev_rep H x) (fun i c h => (H.dom i c h).2) h1
      have hrun : (Instr.box t (a.eval x)).run E.P w = .ok (.pointer (some ⟨w.heap.size, 0, none⟩)) (w.alloc (.cells (a.eval x).cells t)) := by
        simp [Instr.box, newVar, newRow]
      exact ⟨_, _, h, _, _, _, side_upd _ _ _ _, .inl (by unfold execOp; simp only [ho, Sem.run_bind, hrun, Result.andThen_ok, Sem.run_pure]), alloc_sound H hnb (t := t) c1 c2, .ptr _ _ _ (upd_same _ _ _)⟩
    · cases h
  · rename_i t ps ho
    unfold buildV at h
    split at h
    · cases h
    · rename_i z hz
      obtain ⟨i, y, hi, hy, rfl⟩ := zerosT_spec hz
      have hone : ∀ i c, μ i = some c → c.oneCell' = true := fun i c h => (H.dom i c h).2
      have hzr : ∀ j v, (y.cells.toList.map cv)[j]? = some v → REP E st μ W0 okb w v (y.cells.getD j undef) := fun j v hv => by
        rw [List.getElem?_map] at hv
        cases hc : y.cells.toList[j]? with
        | none => rw [hc] at hv; cases hv
        | some c =>
          rw [hc] at hv
          obtain rfl := Option.some.inj hv
          rw [Array.getD_eq_getD_getElem?, ← Array.getElem?_toList, hc]
          exact cv_rep c
      have hmap : (ps.map fun (i, x) => (i, a.eval x)).toList = ps.toList.map fun p => (p.1, a.eval p.2) := by rw [Array.toList_map]
      split at h
      · rename_i fs hu
        split at h
        · rename_i pl hpl
          split at h
          · rename_i cs hcs
            obtain ⟨ds, d1, d2, d3⟩ := fill_rep (nth pl) hone ps.toList _ y.cells a as cs H (by simp) hzr hcs
            refine opres_read H ⟨_, h, .agg ds, ?_, .agg _ _ d2 d3⟩
            have hbl : E.P.built t (ps.map fun (i, x) => (i, a.eval x)).toList = some ds := by
              unfold Program.built
              rw [hi, hu, hmap]
              simp only [hy, ← mapO_mapM, hpl]
              rw [← d1]; congr 1; funext i; rw [nth_eq]; simp
            unfold execOp
            simp only [ho, Sem.run_bind, run_build w t _ ds hbl, Result.andThen_ok, Sem.run_pure]
          · cases h
        · cases h
      · rename_i n e hu
        split at h
        · rename_i ie hie
          split at h
          · rename_i cs hcs
            obtain ⟨ds, d1, d2, d3⟩ := fill_rep (fun i => some (i * ie.size, ie.size)) hone ps.toList _ y.cells a as cs H (by simp) hzr hcs
            refine opres_read H ⟨_, h, .agg ds, ?_, .agg _ _ d2 d3⟩
            have hbl : E.P.built t (ps.map fun (i, x) => (i, a.eval x)).toList = some ds := by
              unfold Program.built
              rw [hi, hu, hmap]
              simp only [hy, hie]
              exact d1
            unfold execOp
            simp only [ho, Sem.run_bind, run_build w t _ ds hbl, Result.andThen_ok, Sem.run_pure]
          · cases h
        · cases h
      · cases h
  · rename_i t n ps ho; exact buildSlice_sound hT H hnb ho h
  · rename_i t x ho
    obtain ⟨v, hK, c, h1, h2⟩ := run_loadV H hT (ev_rep H x) h
    exact opres_read H ⟨v, hK, c, by unfold execOp; simp only [ho, Sem.run_bind, h1, Result.andThen_ok, Sem.run_pure], h2⟩
  · rename_i t x y ho
    obtain ⟨st', h1, h2⟩ := store_sound hT H ho h
    exact ⟨_, st', h1, h2⟩
  · rename_i x ho
    have hx := ev_rep H x
    split at h
    · rename_i i f he
      rw [he] at hx
      generalize hc : a.eval x = c at *
      have hx2 := hx
      cases hx with | ptr _ _ b hm =>
      exact opres_read H ⟨_, h, _, by unfold execOp; simp only [ho, hc, Sem.run_pure], hx2⟩
    · rename_i e i j f he
      rw [he] at hx
      generalize hc : a.eval x = c at *
      have hx2 := hx
      cases hx with | elt _ _ _ _ b og n cap hm hj =>
      exact opres_read H ⟨_, h, _, by unfold execOp; simp only [ho, hc, Sem.run_pure], hx2⟩
    · rename_i cs he
      rw [he] at hx
      generalize hc : a.eval x = c at *
      have hx2 := hx
      cases hx with | rel _ b o2 cf hb hcl hr =>
      exact opres_read H ⟨_, h, _, by unfold execOp; simp only [ho, hc, Sem.run_pure], hx2⟩
    · rename_i f cs he
      rw [he] at hx
      generalize hc : a.eval x = c at *
      have hx2 := hx
      cases hx with | fn _ _ arr hl hr =>
      exact opres_read H ⟨_, h, _, by unfold execOp; simp only [ho, hc, Sem.run_pure], hx2⟩
    · cases h
  · rename_i op t x y u ho
    obtain ⟨v, hK, c, h1, h2⟩ := run_binV (p := x) (q := y) (ev_rep H x) (ev_rep H y) h
    exact opres_read H ⟨v, hK, c, by unfold execOp; simp only [ho]; rw [Sem.run_bind, h1]; rfl, h2⟩
  · rename_i op t x ho
    obtain ⟨v, hK, c, h1, h2⟩ := run_unV (ev_rep H x) h
    exact opres_read H ⟨v, hK, c, by unfold execOp; simp only [ho, Sem.run_bind, h1, Result.andThen_ok, Sem.run_pure], h2⟩
  · rename_i s t x ho
    obtain ⟨v, hK, c, h1, h2⟩ := run_convV (ev_rep H x) h
    exact opres_read H ⟨v, hK, c, by unfold execOp; simp only [ho, Sem.run_bind, h1, Result.andThen_ok, Sem.run_pure], h2⟩
  · rename_i t x ho
    split at h
    · rename_i hc
      exact opres_read H ⟨_, h, .iface t (a.eval x), by unfold execOp; simp only [ho, Sem.run_bind, run_makeInterface w t _ hc, Result.andThen_ok, Sem.run_pure], .unk _⟩
    · cases h
  · rename_i f first caps ho
    split at h
    · rename_i hf
      have hf : first = #[] := by apply Array.ext'; simpa using hf
      subst hf
      refine opres_read H ⟨_, h, .func (.func f) #[] (caps.map a.eval), by unfold execOp; simp [ho, Instr.makeFunc], .fn f _ _ (by simp) fun i v hv => ?_⟩
      obtain ⟨c, h1, h2⟩ := args_rep H caps.toList i v hv
      rw [Array.getD_eq_getD_getElem?, ← Array.getElem?_toList, Array.toList_map, h1]
      exact h2
    · rename_i y l0 hf hc
      have hc : caps = #[] := by apply Array.ext'; simpa using hc
      subst hc
      rw [← hf] at h
      refine opres_read H ⟨_, h, .func (.func f) (first.map a.eval) #[], by unfold execOp; simp [ho, Instr.makeFunc], .meth f _ _ (by simp) fun i v hv => ?_⟩
      obtain ⟨c, h1, h2⟩ := args_rep H first.toList i v hv
      rw [Array.getD_eq_getD_getElem?, ← Array.getElem?_toList, Array.toList_map, h1]
      exact h2
    · cases h
  · rename_i t n c ho; exact makeSlice_sound hT H hnb ho h
  · rename_i t x lo hi ho; exact slice_sound hT H ho h
  · rename_i s x f ho
    obtain ⟨v, hK, c, h1, h2⟩ := run_fieldAddrV (ev_rep H x) h
    exact opres_read H ⟨v, hK, c, by unfold execOp; simp only [ho, Sem.run_bind, h1, Result.andThen_ok, Sem.run_pure], h2⟩
  · rename_i s x f ho
    obtain ⟨v, hK, c, h1, h2⟩ := run_fieldV (ev_rep H x) h
    exact opres_read H ⟨v, hK, c, by unfold execOp; simp only [ho, Sem.run_bind, h1, Result.andThen_ok, Sem.run_pure], h2⟩
  · rename_i t x i ho
    obtain ⟨v, hK, c, h1, h2⟩ := run_indexAddrV H hT (ev_rep H x) (ev_rep H i) h
    exact opres_read H ⟨v, hK, c, by unfold execOp; simp only [ho, Sem.run_bind, h1, Result.andThen_ok, Sem.run_pure], h2⟩
  · rename_i t x i ho
    obtain ⟨v, hK, c, h1, h2⟩ := run_indexV (ev_rep H x) (ev_rep H i) h
    exact opres_read H ⟨v, hK, c, by unfold execOp; simp only [ho, Sem.run_bind, h1, Result.andThen_ok, Sem.run_pure], h2⟩
  · rename_i t ho; exact makeMap_sound H hnb ho h
  · rename_i t x k ok ho
    obtain ⟨v, hK, c, h1, h2⟩ := lookup_sound hT H (ev_rep H x) (ev_rep H k) h
    exact opres_read H ⟨v, hK, c, by unfold execOp; simp only [ho, Sem.run_bind, h1, Result.andThen_ok, Sem.run_pure], h2⟩
  · rename_i t m k v ho; exact mapUpdate_sound hT H (.inl ho) h
  · rename_i t m k v ho; exact mapUpdate_sound hT H (.inr ho) h
  · rename_i x i ho
    have hx := ev_rep H x
    split at h
    · rename_i l he
      rw [he] at hx
      split at h
      · rename_i v hv
        rw [force_eq] at h
        rw [nth_eq] at hv
        generalize hc : a.eval x = c at *
        cases hx with | tup _ cs hl hr =>
        have hi : i < cs.size := by rw [hl]; exact (List.getElem?_eq_some_iff.1 hv).1
        exact opres_read H ⟨v, h, cs[i], by unfold execOp; simp [ho, hc, Instr.extract, hi], by simpa [hi] using hr i v hv⟩
      · cases h
    · cases h
  · rename_i c ho
    have hargs := args_rep H c.args.toList
    split at h
    · rename_i hcal
      split at h
      · rename_i x t hx ht
        obtain ⟨v, hK, cc, h1, h2⟩ := len_sound H (ty := o.type) (ev_rep H x) h
        refine opres_read H ⟨v, hK, cc, ?_, h2⟩
        have hx : c.args = #[x] := by apply Array.ext'; simpa using hx
        have ht : c.argTypes = #[t] := by apply Array.ext'; simpa using ht
        unfold execOp
        simp only [ho, resolve, hcal, hx, ht, invoke, builtin, Sem.run_bind, Sem.run_pure, Result.andThen_ok, List.map_toArray, List.map_cons, List.map_nil, h1]
      · cases h
    · rename_i hcal
      split at h
      · rename_i s x t u hx ht
        split at h
        · rename_i hu
          obtain rfl := Nat.eq_of_beq_eq_true hu
          refine append_sound hT H hnb (t := t) (os := s) (ox := x) ?_ h
          obtain ⟨cal, args, argTypes⟩ := c
          have hx : args = #[s, x] := by apply Array.ext'; simpa using hx
          have ht : argTypes = #[t, t] := by apply Array.ext'; simpa using ht
          simp only at hcal
          rw [ho, hcal, hx, ht]
        · cases h
      · cases h
    · rename_i hcal
      obtain ⟨v, hK, cc, h1, h2⟩ := extreme_sound mxI Builtin.max2 (fun k x y => rfl) hargs (by simp) h
      refine opres_read H ⟨v, hK, cc, ?_, h2⟩
      have hne : List.map a.eval c.args.toList ≠ [] := fun e => by
        rw [show (List.map a.eval c.args.toList) = [] from e] at h1; simp at h1
      unfold execOp
      simp only [ho, resolve, hcal, invoke, builtin, Sem.run_bind, Sem.run_pure, Result.andThen_ok, Builtin.max_, Array.toList_map]
      cases hl : List.map a.eval c.args.toList with
      | nil => exact absurd hl hne
      | cons y ys =>
        rw [hl] at h1
        simp only at h1 ⊢
        rw [h1]
        rfl
    · rename_i hcal
      obtain ⟨v, hK, cc, h1, h2⟩ := extreme_sound mnI Builtin.min2 (fun k x y => rfl) hargs (by simp) h
      refine opres_read H ⟨v, hK, cc, ?_, h2⟩
      have hne : List.map a.eval c.args.toList ≠ [] := fun e => by
        rw [show (List.map a.eval c.args.toList) = [] from e] at h1; simp at h1
      unfold execOp
      simp only [ho, resolve, hcal, invoke, builtin, Sem.run_bind, Sem.run_pure, Result.andThen_ok, Builtin.min_, Array.toList_map]
      cases hl : List.map a.eval c.args.toList with
      | nil => exact absurd hl hne
      | cons y ys =>
        rw [hl] at h1
        simp only at h1 ⊢
        rw [h1]
        rfl
    · cases h
  · cases h
end
end Go.Proofs.YtpbpebjfglfjfaaGreatDoor.X
