/-
  SOUNDNESS of calls that write behind their arguments.
-/
import Derived.Test.YtpbpebjfglfjfaaGreatDoorX12
import Derived.LoopN
set_option autoImplicit false
set_option linter.unusedVariables false
set_option linter.unusedSimpArgs false
namespace Go.Proofs.YtpbpebjfglfjfaaGreatDoor.X
open Go Go.RowKit
/-- what is asked of the world holds of one whose blocks all stay -/
def GD (G : World → Prop) (W0 : Wd) : Prop := ∃ R : World, G R ∧ Below R.heap.size R W0.w ∧ ∀ b, b < R.heap.size → W0.old b
theorem GD.of {G : World → Prop} {w : World} (h : G w) : GD G (.of w) := ⟨w, h, Below.refl _ _, fun _ h => h⟩
theorem GD.below {G : World → Prop} {W0 : Wd} {w : World} (h : GD G W0) (hb : BelowW W0 w) : ∃ R : World, G R ∧ Below R.heap.size R w ∧ ∀ b, b < R.heap.size → W0.old b := by
  obtain ⟨R, h1, h2, h3⟩ := h
  exact ⟨R, h1, ⟨hb.os.trans h2.os, hb.tape.trans h2.tape, hb.output.trans h2.output, Nat.le_trans h2.size hb.size, fun k hk => (hb.block k (h3 k hk)).trans (h2.block k hk)⟩, h3⟩
theorem GD.at {G : World → Prop} {W0 : Wd} {w : World} (h : GD G W0) (hs : ∀ w w', G w → Below w.heap.size w w' → G w') (hb : BelowW W0 w) : G w := by
  obtain ⟨R, h1, h2, _⟩ := h.below hb
  exact hs R w h1 h2
/-- What such a call hands back: the blocks that it was given as they are now, and new ones. -/
def RetP (T : Tab) (P : Program) (W0 : Wd) (okb : Nat → Prop) (k : Nat) (μ : Nat → Option Value) (r : Res T.A) (e : Ending) (w' : World) : Prop :=
  ∃ c μr n, e = .returned c ∧ RelM T P W0 okb μr { env := [], stk := [], hp := r.2, nx := n } [act0] w' ∧ Rep T P w' μr (okM r.2 μr W0 okb w') r.1 c ∧ ∀ t b, t < k → look r.2 t = some b → μr t = μ t
def OkP (T : Tab) (P : Program) (G : World → Prop) (f : Nat) (g : St T.A → Option (Res T.A)) : Prop :=
  Enters P f ∧ ∀ (W0 : Wd) (okb : Nat → Prop) (μ : Nat → Option Value) (args : List (V T.A)) (hp : List (Nat × Blk T.A)) (n : Nat) (cs : Array Value) (w : World) (r : Res T.A), GD G W0 →
    RelM T P W0 okb μ { env := [], stk := [], hp := hp, nx := n } [act0] w → cs.size = args.length → (∀ i v, args[i]? = some v → Rep T P w μ (okM hp μ W0 okb w) v (cs.getD i undef)) →
    g { env := bindArgs args 0, stk := [], hp := hp, nx := n } = some r → Calls P f cs w (RetP T P W0 okb n μ r)
/-- How a call goes on: what it hands back stands for a value with which the rest yields q. -/
def Next' (E : Env) (W0 : Wd) (okb : Nat → Prop) (acts : List Act) (K : VE E → SE E → Option (Res E.T.A)) (q : Res E.T.A) (e : Ending) (w' : World) : Prop :=
  ∃ c v st' μ', e = .returned c ∧ K v st' = some q ∧ RelM E.T E.P W0 okb μ' st' acts w' ∧ REP E st' μ' W0 okb w' v c
theorem keysB_spec {α : Type} : ∀ (l : List (Nat × α)) (j : Nat), keysB l j = true → ∀ (t : Nat) (p : Nat × α), l[t]? = some p → p.1 = j + t ∧ look l p.1 = some p.2
  | [], j, _, t, p, h => by cases h
  | q :: l, j, h, t, p, hp => by
    replace h : (match Nat.beq q.1 j with | true => keysB l (j + 1) | false => false) = true := h
    split at h
    · rename_i hq
      have hq := Nat.eq_of_beq_eq_true hq
      cases t with
      | zero =>
        obtain rfl := Option.some.inj hp
        exact ⟨hq, by rw [look_cons, if_pos rfl]⟩
      | succ t =>
        obtain ⟨h1, h2⟩ := keysB_spec l (j + 1) h t p hp
        exact ⟨by omega, by rw [look_cons, if_neg (by omega)]; exact h2⟩
    · cases h
theorem look_anc {A : Nat → Type} (hp : List (Nat × Blk A)) (t : Nat) (v : V A) (h : look (ancEnv hp) t = some v) : ∃ b, look hp t = some b ∧ v = kindV t b := by
  induction hp with
  | nil => cases h
  | cons p hp ih =>
    replace h : look ((p.1, kindV p.1 p.2) :: ancEnv hp) t = some v := h
    rw [look_cons] at h ⊢
    dsimp only at h
    split at h
    · rename_i e
      subst e
      exact ⟨p.2, by rw [if_pos rfl], (Option.some.inj h).symm⟩
    · rename_i e
      rw [if_neg e]
      exact ih h
theorem look_delAll {A : Nat → Type} (hp : List (Nat × Blk A)) (ord : List Nat) (i : Nat) (b : Blk A) (h : look (delAll hp ord) i = some b) : look hp i = some b ∧ i ∉ ord := by
  induction hp with
  | nil => cases h
  | cons p hp ih =>
    replace h : look (match memN p.1 ord with | true => delAll hp ord | false => p :: delAll hp ord) i = some b := h
    split at h
    · rename_i hm
      obtain ⟨h1, h2⟩ := ih h
      refine ⟨?_, h2⟩
      rw [look_cons, if_neg]
      · exact h1
      · intro e; subst e; exact h2 ((memN_iff _ _).1 hm)
    · rename_i hm
      rw [look_cons] at h ⊢
      split at h
      · rename_i e
        subst e
        exact ⟨by rw [if_pos rfl]; exact h, fun hh => by rw [(memN_iff _ _).2 hh] at hm; cases hm⟩
      · rename_i e
        rw [if_neg e]
        exact ih h
theorem bkHp_spec {A : Nat → Type} (f : Nat → Option Nat) (old : List (Nat × Blk A)) : ∀ (l : List (Nat × Blk A)) (i : Nat) (b : Blk A), look (bkHp f old l) i = some b → (∃ t b0, f t = some i ∧ look l t = some b0 ∧ b = b0.ren f) ∨ look old i = some b
  | [], i, b, h => .inr h
  | p :: l, i, b, h => by
    replace h : look (match f p.1 with | some j => (j, p.2.ren f) :: bkHp f old l | none => bkHp f old l) i = some b := h
    have step : look (bkHp f old l) i = some b → f p.1 ≠ some i → (∃ t b0, f t = some i ∧ look (p :: l) t = some b0 ∧ b = b0.ren f) ∨ look old i = some b := by
      intro h hne
      rcases bkHp_spec f old l i b h with ⟨t, b0, h1, h2, h3⟩ | h1
      · exact .inl ⟨t, b0, h1, by rw [look_cons, if_neg (fun e => hne (by rw [e]; exact h1))]; exact h2, h3⟩
      · exact .inr h1
    split at h
    · rename_i j hj
      rw [look_cons] at h
      dsimp only at h
      split at h
      · rename_i e
        subst e
        exact .inl ⟨p.1, p.2, hj, by rw [look_cons, if_pos rfl], (Option.some.inj h).symm⟩
      · rename_i e
        exact step h (by rw [hj]; exact fun h => e (Option.some.inj h))
    · rename_i hj
      exact step h (by rw [hj]; exact fun h => by cases h)
section
variable {E : Env} {G : World → Prop} {W0 : Wd} {w : World} {okb : Nat → Prop} {μ : Nat → Option Value} {st : SE E} {acts : List Act}
theorem BlkRel.rebase {T : Tab} {P : Program} {W1 : Wd} {ok : Nat → Prop} {i : Nat} {b : Blk T.A} (h : BlkRel T P W0 w μ ok i b) (hB : ∀ c k, μ i = some c → blockOf c = some k → ¬ W1.old k) : BlkRel T P W1 w μ ok i b := by
  cases h with
  | var l z b cs e hm hB2 hh hl hr => exact .var l z b cs e hm (hB _ _ hm rfl) hh hl hr
  | row e l z c cs hk hm ho hr =>
    refine .row e l z c cs hk hm ⟨ho.1, ?_⟩ hr
    rcases ho.2 with h | ⟨g, o, cap, cur, rfl, h2, h3⟩
    · exact .inl h
    · exact .inr ⟨g, o, cap, cur, rfl, hB _ _ hm rfl, h3⟩
  | map l z r es n hm hB2 hh hl hr => exact .map l z r es n hm (hB _ _ hm rfl) hh hl hr
theorem pcall_sound (hT : E.T.Ok E.P) (hGD : GD G W0) {a : Act} {as : List Act} (H : RelM E.T E.P W0 okb μ st (a :: as) w) {f : Nat} {args : List (VE E)} {cs : Array Value} (hl : cs.size = args.length) (hargs : ∀ i v, args[i]? = some v → REP E st μ W0 okb w v (cs.getD i undef))
    {g : SE E → Option (Bool × Res E.T.A)} (hg : OkP E.T E.P G f fun s => conO (g s)) {K : VE E → SE E → Option (Res E.T.A)} {q : Res E.T.A} (h : pcallV E st st.nx g args K = some q) : Enters E.P f ∧ Calls E.P f cs w (Next' E W0 okb (a :: as) K q) := by
  unfold pcallV at h
  split at h
  case h_2 => cases h
  rename_i hlv
  rw [conV_eq] at h
  obtain ⟨r, hr, habs⟩ := Option.bind_eq_some_iff.1 h
  generalize ho : viewO st args = ord at *
  have hlive : ∀ i ∈ ord, ∃ b, look st.hp i = some b ∧ b.live = true := fun i hi => by
    have := List.all_eq_true.1 hlv i hi
    unfold liveO at this
    split at this
    · rename_i b hb; exact ⟨b, hb, this⟩
    · cases this
  refine ⟨hg.1, ?_⟩
  let W1 : Wd := ⟨w, fun b => b < w.heap.size ∧ ∀ i ∈ ord, ∀ c, μ i = some c → blockOf c ≠ some b, fun _ h => h.1⟩
  have hsub : ∀ k, W0.old k → W1.old k := fun k hk => ⟨Nat.lt_of_lt_of_le (W0.lt k hk) H.below.size, fun i hi c hc hb => by
    obtain ⟨b, h1, _⟩ := hlive i hi
    exact ((H.blk i b h1).block hc hb).1 hk⟩
  have hokW : ∀ b, okM st.hp μ W0 okb w b → W1.old b := fun b hb => ⟨hb.1, fun i hi c hc hk => by
    obtain ⟨blk, h1, h2⟩ := hlive i hi
    exact hb.2.2 i blk c h1 h2 hc hk⟩
  have hother : ∀ i b c k, i ∉ ord → look st.hp i = some b → μ i = some c → blockOf c = some k → W1.old k := fun i b c k hi hb hc hk =>
    ⟨((H.blk i b hb).block hc hk).2, fun i2 hi2 c2 hc2 hk2 => by
      obtain ⟨b2, h1, _⟩ := hlive i2 hi2
      have := H.inj i i2 b b2 c c2 k hb h1 hc hc2 hk hk2
      exact hi (this ▸ hi2)⟩
  obtain ⟨HV, hV⟩ := ren_heap hT H ord (es := [[]]) (as := [act0]) (env := []) (stk := []) rfl (And.intro ⟨rfl, fun t v hv => by simp [look] at hv⟩ trivial)
  have hok0 : ∀ b, okM st.hp μ W0 okb w b → okM (renHp st.hp (posN ord) ord) (numbered μ ord) W1 (okM st.hp μ W0 okb w) w b := fun b hb => ⟨hb.1, .inr hb, (hV b hb).2.2⟩
  have hmem : ∀ i j, posN ord i = some j → i ∈ ord := fun i j h => List.mem_of_getElem? (posN_spec ord i j h)
  have Hview : RelM E.T E.P W1 (okM st.hp μ W0 okb w) (numbered μ ord) { env := [], stk := [], hp := renHp st.hp (posN ord) ord, nx := ord.length } [act0] w := by
    refine ⟨⟨rfl, rfl, rfl, Nat.le_refl _, fun _ _ => rfl⟩, HV.dom, fun j b hb => ?_, HV.inj, And.intro ⟨rfl, fun t v hv => by cases hv⟩ trivial⟩
    obtain ⟨i, b0, h4, h5, rfl⟩ := renHp_spec _ _ _ _ _ hb
    refine ((H.blk i b0 h4).ren hT (posN ord) (numbered_ext ord) hok0 h5).rebase fun c k hc hk hold => ?_
    have e1 : numbered μ ord j = μ i := by unfold numbered; rw [posN_spec ord i j h5]
    rw [e1] at hc
    exact hold.2 i (hmem i j h5) c hc hk
  have hGD1 : GD G W1 := by
    obtain ⟨R, h1, h2, h3⟩ := hGD.below H.below
    exact ⟨R, h1, h2, fun b hb => hsub b (h3 b hb)⟩
  refine (hg.2 W1 (okM st.hp μ W0 okb w) (numbered μ ord) (args.map (V.ren (posN ord) 3)) (renHp st.hp (posN ord) ord) ord.length cs w r hGD1 Hview (by simp [hl]) (fun i v hv => ?_) hr).mono fun e w' hret => ?_
  · rw [List.getElem?_map] at hv
    cases h2 : args[i]? with
    | none => rw [h2] at hv; cases hv
    | some x =>
      rw [h2] at hv
      obtain rfl := Option.some.inj hv
      exact (Rep.ren hT (posN ord) (numbered_ext ord) 3 x _ (hargs i x h2)).mono (fun b hb => ⟨hok0 b hb, rfl⟩) (fun _ _ h => h)
  obtain ⟨c, μr, n, rfl, Hr, hv, hkeep⟩ := hret
  unfold pAbs at habs
  split at habs
  case h_2 => cases habs
  rename_i hmax
  have hmax := Nat.le_of_ble_eq_true hmax
  rw [force_eq] at habs
  let μ' : Nat → Option Value := fun i => if st.nx ≤ i ∧ i < st.nx + 64 then μr (ord.length + (i - st.nx)) else μ i
  have hext : ∀ i x, μ i = some x → μ' i = some x := fun i x hx => by
    show (if st.nx ≤ i ∧ i < st.nx + 64 then μr (ord.length + (i - st.nx)) else μ i) = some x
    have := (H.dom i x hx).1
    rw [if_neg (by omega)]; exact hx
  have hF : ∀ t j c, bkF ord st.nx r.2 t = some j → μr t = some c → μ' j = some c := fun t j c ht hc => by
    unfold bkF at ht
    split at ht
    · rename_i b hb
      obtain rfl := Option.some.inj ht
      unfold bkI
      rw [nth_eq]
      rcases Nat.lt_or_ge t ord.length with h1 | h1
      · rw [List.getElem?_eq_getElem h1]
        dsimp only
        refine hext _ _ ?_
        have := hkeep t b h1 hb
        rw [hc] at this
        unfold numbered at this
        rw [List.getElem?_eq_getElem h1] at this
        exact this.symm
      · rw [List.getElem?_eq_none h1]
        dsimp only
        have := maxK_spec r.2 t b hb
        show (if st.nx ≤ st.nx + (t - ord.length) ∧ st.nx + (t - ord.length) < st.nx + 64 then μr (ord.length + (st.nx + (t - ord.length) - st.nx)) else μ _) = some c
        rw [if_pos (by omega), show ord.length + (st.nx + (t - ord.length) - st.nx) = t by omega]
        exact hc
    · cases ht
  have hnew : ∀ t b, look r.2 t = some b → ∃ d, μr t = some d := fun t b hb => (Hr.blk t b hb).mu
  have hFb : ∀ t j, bkF ord st.nx r.2 t = some j → ∃ b, look r.2 t = some b := fun t j ht => by
    unfold bkF at ht
    split at ht
    · rename_i b hb; exact ⟨b, hb⟩
    · cases ht
  have hsp : ∀ i b, look (bkHp (bkF ord st.nx r.2) (delAll st.hp ord) r.2) i = some b → (∃ t b0 d, bkF ord st.nx r.2 t = some i ∧ look r.2 t = some b0 ∧ b = b0.ren (bkF ord st.nx r.2) ∧ μr t = some d ∧ μ' i = some d) ∨ (look st.hp i = some b ∧ i ∉ ord ∧ ∃ d, μ i = some d ∧ μ' i = some d) := fun i b hb => by
    rcases bkHp_spec _ _ _ _ _ hb with ⟨t, b0, h1, h2, h3⟩ | h1
    · obtain ⟨d, hd⟩ := hnew t b0 h2
      exact .inl ⟨t, b0, d, h1, h2, h3, hd, hF t i d h1 hd⟩
    · obtain ⟨h2, h3⟩ := look_delAll _ _ _ _ h1
      obtain ⟨d, hd⟩ := (H.blk i b h2).mu
      exact .inr ⟨h2, h3, d, hd, hext i d hd⟩
  have hmono : ∀ b, okM st.hp μ W0 okb w b → okM (bkHp (bkF ord st.nx r.2) (delAll st.hp ord) r.2) μ' W0 okb w' b ∧ w'.heap[b]? = w.heap[b]? := fun b hb => by
    refine ⟨⟨Nat.lt_of_lt_of_le hb.1 Hr.below.size, hb.2.1, fun i blk d h1 h2 h3 h4 => ?_⟩, Hr.below.block b (hokW b hb)⟩
    rcases hsp i blk h1 with ⟨t, b0, d', g1, g2, rfl, g3, g4⟩ | ⟨g1, g2, d', g3, g4⟩
    · rw [g4] at h3; obtain rfl := Option.some.inj h3
      exact ((Hr.blk t b0 g2).block g3 h4).1 (hokW b hb)
    · rw [g4] at h3; obtain rfl := Option.some.inj h3
      exact hb.2.2 i blk d' g1 h2 g3 h4
  have hokr : ∀ b, okM r.2 μr W1 (okM st.hp μ W0 okb w) w' b → okM (bkHp (bkF ord st.nx r.2) (delAll st.hp ord) r.2) μ' W0 okb w' b := fun b hb => by
    refine ⟨hb.1, ?_, fun i blk d h1 h2 h3 h4 => ?_⟩
    · rcases hb.2.1 with h5 | h5
      · exact .inl fun h6 => h5 (hsub b h6)
      · exact h5.2.1
    · rcases hsp i blk h1 with ⟨t, b0, d', g1, g2, rfl, g3, g4⟩ | ⟨g1, g2, d', g3, g4⟩
      · rw [g4] at h3; obtain rfl := Option.some.inj h3
        exact hb.2.2 t b0 d' g2 (by rw [ren_live] at h2; exact h2) g3 h4
      · rw [g4] at h3; obtain rfl := Option.some.inj h3
        rcases hb.2.1 with h5 | h5
        · exact h5 (hother i blk d' b g2 g1 g3 h4)
        · exact h5.2.2 i blk d' g1 h2 g3 h4
  refine ⟨c, _, _, μ', rfl, habs, ⟨⟨Hr.below.os.trans H.below.os, Hr.below.tape.trans H.below.tape, Hr.below.output.trans H.below.output, Nat.le_trans H.below.size Hr.below.size, fun k hk => (Hr.below.block k (hsub k hk)).trans (H.below.block k hk)⟩, fun i d hd => ?_, fun i b hb => ?_, fun i j b b' d d' k h1 h2 h3 h4 h5 h6 => ?_, FR.mono hmono hext H.fr⟩, ?_⟩
  · have hd : (if st.nx ≤ i ∧ i < st.nx + 64 then μr (ord.length + (i - st.nx)) else μ i) = some d := hd
    split at hd
    · rename_i hi; exact ⟨hi.2, (Hr.dom _ d hd).2⟩
    · have := H.dom i d hd; exact ⟨by have := this.1; show i < st.nx + 64; omega, this.2⟩
  · rcases hsp i b hb with ⟨t, b0, d', g1, g2, rfl, g3, g4⟩ | ⟨g1, g2, d', g3, g4⟩
    · exact BlkRel.base hsub ((Hr.blk t b0 g2).ren hT (bkF ord st.nx r.2) hF hokr g1)
    · exact (H.blk i b g1).mono hmono hext fun c' k hc' hk hlt => Hr.below.block k (hother i b c' k g2 g1 hc' hk)
  · rcases hsp i b h1 with ⟨t, b0, d1, g1, g2, rfl, g3, g4⟩ | ⟨g1, g2, d1, g3, g4⟩
    · rw [g4] at h3; obtain rfl := Option.some.inj h3
      rcases hsp j b' h2 with ⟨t', b1, d2, f1, f2, rfl, f3, f4⟩ | ⟨f1, f2, d2, f3, f4⟩
      · rw [f4] at h4; obtain rfl := Option.some.inj h4
        obtain rfl := Hr.inj t t' b0 b1 d1 d2 k g2 f2 g3 f3 h5 h6
        rw [g1] at f1; exact Option.some.inj f1
      · rw [f4] at h4; obtain rfl := Option.some.inj h4
        exact absurd (hother j b' d2 k f2 f1 f3 h6) ((Hr.blk t b0 g2).block g3 h5).1
    · rw [g4] at h3; obtain rfl := Option.some.inj h3
      rcases hsp j b' h2 with ⟨t', b1, d2, f1, f2, rfl, f3, f4⟩ | ⟨f1, f2, d2, f3, f4⟩
      · rw [f4] at h4; obtain rfl := Option.some.inj h4
        exact absurd (hother i b d1 k g2 g1 g3 h5) ((Hr.blk t' b1 f2).block f3 h6).1
      · rw [f4] at h4; obtain rfl := Option.some.inj h4
        exact H.inj i j b b' d1 d2 k g1 f1 g3 f3 h5 h6
  · exact (Rep.ren hT (bkF ord st.nx r.2) hF 3 r.1 c hv).mono (fun b hb => ⟨hokr b hb, rfl⟩) (fun _ _ h => h)
end
end Go.Proofs.YtpbpebjfglfjfaaGreatDoor.X
