/-
  SOUNDNESS, numbers anew: what is dropped, renamed, taken over.
-/
import Derived.Test.YtpbpebjfglfjfaaGreatDoorX10
set_option autoImplicit false
set_option linter.unusedVariables false
set_option linter.unusedSimpArgs false
namespace Go.Proofs.YtpbpebjfglfjfaaGreatDoor.X
open Go Go.RowKit
section
variable {T : Tab} {P : Program} {w : World} {μ μ' : Nat → Option Value} {ok : Nat → Prop}
theorem pure_succ {A : Nat → Type} (n : Nat) (v : V A) : v.pure (n + 1) = V.pure1 (V.pure n) v := rfl
theorem Rep.pure (hT : T.Ok P) {v : V T.A} {c : Value} (h : Rep T P w μ ok v c) : ∀ n, v.pure n = true → Rep T P w μ' ok v c := by
  induction h with
  | int k n => exact fun _ _ => .int k n
  | bool b => exact fun _ _ => .bool b
  | str s => exact fun _ _ => .str s
  | nils => exact fun _ _ => .nils
  | nul c h => exact fun _ _ => .nul c h
  | unk c => exact fun _ _ => .unk c
  | glob g => exact fun _ _ => .glob g
  | agg l cs hl _ ih =>
    intro n hn
    cases n with
    | zero => cases hn
    | succ n =>
      have hn : l.all (V.pure n) = true := hn
      exact .agg l cs hl fun i v hv => ih i v hv n (List.all_eq_true.1 hn v (List.mem_of_getElem? hv))
  | tup l cs hl _ ih =>
    intro n hn
    cases n with
    | zero => cases hn
    | succ n =>
      have hn : l.all (V.pure n) = true := hn
      exact .tup l cs hl fun i v hv => ih i v hv n (List.all_eq_true.1 hn v (List.mem_of_getElem? hv))
  | fn f l cs hl _ ih =>
    intro n hn
    cases n with
    | zero => cases hn
    | succ n =>
      have hn : l.all (V.pure n) = true := hn
      exact .fn f l cs hl fun i v hv => ih i v hv n (List.all_eq_true.1 hn v (List.mem_of_getElem? hv))
  | meth f l cs hl _ ih => intro n hn; cases n <;> cases hn
  | ro e l a cap cf hk hcap hmax ha _ ih =>
    intro n _
    exact .ro e l a cap cf hk hcap hmax ha fun j x i v hx hv => ih j x i v hx hv 1 (hT.pure e x v hk (List.mem_of_getElem? hv)).1
  | own i c h => intro n hn; cases n <;> cases hn
  | ptr i off b h => intro n hn; cases n <;> cases hn
  | elt e i j off b o n cap h hj => intro n hn; cases n <;> cases hn
  | rel cs b o cf hb hc _ ih =>
    intro n hn
    cases n with
    | zero => cases hn
    | succ n =>
      have hn : cs.all (V.pure n) = true := hn
      exact .rel cs b o cf hb hc fun i v hv => ih i v hv n (List.all_eq_true.1 hn v (List.mem_of_getElem? hv))
  | mapr i c h => intro n hn; cases n <;> cases hn
theorem Rep.scalar {v : V T.A} {c : Value} {w' : World} {ok' : Nat → Prop} (h : Rep T P w μ ok v c) : ∀ n, v.scalar n = true → Rep T P w' μ' ok' v c := by
  induction h with
  | int k n => exact fun _ _ => .int k n
  | bool b => exact fun _ _ => .bool b
  | str s => exact fun _ _ => .str s
  | nils => exact fun _ _ => .nils
  | nul c h => exact fun _ _ => .nul c h
  | unk c => exact fun _ _ => .unk c
  | glob g => intro n hn; cases n <;> cases hn
  | agg l cs hl _ ih =>
    intro n hn
    cases n with
    | zero => cases hn
    | succ n =>
      have hn : l.all (V.scalar n) = true := hn
      exact .agg l cs hl fun i v hv => ih i v hv n (List.all_eq_true.1 hn v (List.mem_of_getElem? hv))
  | tup l cs hl _ ih =>
    intro n hn
    cases n with
    | zero => cases hn
    | succ n =>
      have hn : l.all (V.scalar n) = true := hn
      exact .tup l cs hl fun i v hv => ih i v hv n (List.all_eq_true.1 hn v (List.mem_of_getElem? hv))
  | fn f l cs hl _ ih => intro n hn; cases n <;> cases hn
  | meth f l cs hl _ ih => intro n hn; cases n <;> cases hn
  | ro e l a cap cf hk hcap hmax ha _ ih => intro n hn; cases n <;> cases hn
  | own i c h => intro n hn; cases n <;> cases hn
  | ptr i off b h => intro n hn; cases n <;> cases hn
  | elt e i j off b o n cap h hj => intro n hn; cases n <;> cases hn
  | rel cs b o cf hb hc _ ih => intro n hn; cases n <;> cases hn
  | mapr i c h => intro n hn; cases n <;> cases hn
/-- what is told is without numbers -/
theorem shut_pure {hp : List (Nat × Blk T.A)} : ∀ (n : Nat) (v u : V T.A), shut hp n v = some u → u.pure (n + 1) = true
  | 0, v, u, h => by cases h
  | n + 1, v, u, h => by
    have h : shut1 hp (shut hp n) v = some u := h
    unfold shut1 at h
    split at h
    · unfold shutOwn at h; split at h
      · obtain rfl := Option.some.inj h; rfl
      · cases h
    · unfold shutAgg at h; split at h
      · rename_i l l' m hm
        obtain rfl := Option.some.inj h
        have : ∀ (l m : List (V T.A)), mapO (shut hp n) l = some m → m.all (V.pure (n + 1)) = true := by
          intro l
          induction l with
          | nil => intro m h; obtain rfl := Option.some.inj h; rfl
          | cons x l ih =>
            intro m h
            have h : cons2 (shut hp n x) (mapO (shut hp n) l) = some m := h
            unfold cons2 at h
            split at h
            · rename_i y z hy hz
              obtain rfl := Option.some.inj h
              simp [shut_pure n x y hy, ih z hz]
            · cases h
        exact this _ _ hm
      · cases h
    · obtain rfl := Option.some.inj h; rfl
    all_goals first | (obtain rfl := Option.some.inj h; rfl) | cases h
theorem Rep.ren (hT : T.Ok P) (f : Nat → Option Nat) (hf : ∀ i j c, f i = some j → μ i = some c → μ' j = some c) : ∀ (n : Nat) (v : V T.A) (c : Value), Rep T P w μ ok v c → Rep T P w μ' ok (v.ren f n) c
  | 0, v, c, _ => .unk c
  | n + 1, v, c, h => by
    show Rep T P w μ' ok (V.ren1 f (V.ren f n) v) c
    have hh := h
    cases h with
    | int k n => exact .int k n
    | bool b => exact .bool b
    | str s => exact .str s
    | nils => exact .nils
    | nul c h => exact .nul c h
    | unk c => exact .unk c
    | glob g => exact .glob g
    | agg l cs hl hr =>
      refine .agg _ cs (by simp [hl]) fun i v hv => ?_
      rw [List.getElem?_map] at hv
      cases h2 : l[i]? with
      | none => rw [h2] at hv; cases hv
      | some x => rw [h2] at hv; obtain rfl := Option.some.inj hv; exact Rep.ren hT f hf n x _ (hr i x h2)
    | tup l cs hl hr =>
      refine .tup _ cs (by simp [hl]) fun i v hv => ?_
      rw [List.getElem?_map] at hv
      cases h2 : l[i]? with
      | none => rw [h2] at hv; cases hv
      | some x => rw [h2] at hv; obtain rfl := Option.some.inj hv; exact Rep.ren hT f hf n x _ (hr i x h2)
    | fn g l cs hl hr =>
      refine .fn g _ cs (by simp [hl]) fun i v hv => ?_
      rw [List.getElem?_map] at hv
      cases h2 : l[i]? with
      | none => rw [h2] at hv; cases hv
      | some x => rw [h2] at hv; obtain rfl := Option.some.inj hv; exact Rep.ren hT f hf n x _ (hr i x h2)
    | meth g l cs hl hr =>
      refine .meth g _ cs (by simp [hl]) fun i v hv => ?_
      rw [List.getElem?_map] at hv
      cases h2 : l[i]? with
      | none => rw [h2] at hv; cases hv
      | some x => rw [h2] at hv; obtain rfl := Option.some.inj hv; exact Rep.ren hT f hf n x _ (hr i x h2)
    | ro e l a cap cf hk hcap hmax ha _ => exact hh.pure hT 1 rfl
    | own i c h =>
      unfold V.ren1; dsimp only; split
      · rename_i j hj; exact .own j c (hf i j c hj h)
      · exact .unk _
    | ptr i off b h =>
      unfold V.ren1; dsimp only; split
      · rename_i j hj; exact .ptr j off b (hf i j _ hj h)
      · exact .unk _
    | elt e i j off b o n cap h hjn =>
      unfold V.ren1; dsimp only; split
      · rename_i k hk; exact .elt e k j off b o n cap (hf i k _ hk h) hjn
      · exact .unk _
    | rel cs b o cf hb hc hr =>
      unfold V.ren1; dsimp only; split
      · rename_i hp; exact .rel cs b o cf hb hc fun i v hv => (hr i v hv).pure hT 4 (List.all_eq_true.1 hp v (List.mem_of_getElem? hv))
      · exact .unk _
    | mapr i c h =>
      unfold V.ren1; dsimp only; split
      · rename_i j hj; exact .mapr j c (hf i j c hj h)
      · exact .unk _
end
section
variable {E : Env} {W0 : Wd} {w : World} {okb : Nat → Prop} {μ : Nat → Option Value} {st : SE E} {acts : List Act}
theorem BlkRel.ren {T : Tab} {P : Program} {μ' : Nat → Option Value} {ok ok' : Nat → Prop} (hT : T.Ok P) (f : Nat → Option Nat) (hf : ∀ i j c, f i = some j → μ i = some c → μ' j = some c) (hok : ∀ b, ok b → ok' b) {i j : Nat} {b : Blk T.A} (hij : f i = some j) (h : BlkRel T P W0 w μ ok i b) : BlkRel T P W0 w μ' ok' j (b.ren f) := by
  cases h with
  | var l z b cs e hm hB hh hl hr =>
    refine .var _ z b cs e (hf i j _ hij hm) hB hh (by simp [hl]) fun q v hv => ?_
    rw [List.getElem?_map] at hv
    cases h2 : l[q]? with
    | none => rw [h2] at hv; cases hv
    | some x =>
      rw [h2] at hv; obtain rfl := Option.some.inj hv
      exact (Rep.ren hT f hf 3 x _ (hr q x h2)).mono (fun b hb => ⟨hok b hb, rfl⟩) (fun _ _ h => h)
  | row e l z c cs hk hm ho hr =>
    refine .row e l z c cs hk (hf i j c hij hm) ho fun q x k v hx hv => ?_
    exact ((hr q x k v hx hv).pure hT 1 (hT.pure e x v hk (List.mem_of_getElem? hv)).1).mono (fun b hb => ⟨hok b hb, rfl⟩) (fun _ _ h => h)
  | map m z r es n hm hB hh hl hr =>
    cases m with
    | pl l =>
      refine .map _ z r es n (hf i j _ hij hm) hB hh (by rw [hl]; show l.length = (l.map _).length; simp) fun q v hv => ?_
      replace hv : (l.map fun p => (V.ren f 3 p.1, V.ren f 3 p.2))[q]? = some v := hv
      rw [List.getElem?_map] at hv
      cases h2 : l[q]? with
      | none => rw [h2] at hv; cases hv
      | some x =>
        rw [h2] at hv; obtain rfl := Option.some.inj hv
        obtain ⟨e, g1, g2, g3⟩ := hr q x h2
        exact ⟨e, g1, (Rep.ren hT f hf 3 _ _ g2).mono (fun b hb => ⟨hok b hb, rfl⟩) (fun _ _ h => h), (Rep.ren hT f hf 3 _ _ g3).mono (fun b hb => ⟨hok b hb, rfl⟩) (fun _ _ h => h)⟩
    | ty kt vt l =>
      refine .map _ z r es n (hf i j _ hij hm) hB hh hl fun q v hv => ?_
      replace hv : ((ML.ty kt vt l).ents T P)[q]? = some v := hv
      obtain ⟨e, g1, g2, g3⟩ := hr q v hv
      have key : ∀ (u : V T.A) (c : Value), u.pure 2 = true → Rep T P w μ ok u c → Rep T P w μ' ok' u c := fun u c hp h => (h.pure hT 2 hp).mono (fun b hb => ⟨hok b hb, rfl⟩) (fun _ _ h => h)
      have hp : v.1.pure 2 = true ∧ v.2.pure 2 = true := by
        cases hg : goodT T kt vt with
        | true =>
          rw [ents_ty hg] at hv
          obtain ⟨k1, k2, _⟩ := goodT_spec hg
          obtain ⟨p, _, rfl⟩ := List.mem_map.1 (List.mem_of_getElem? hv)
          exact ⟨valV_pure hT k1 _, valV_pure hT k2 _⟩
        | false =>
          replace hv : (match goodT T kt vt with | true => l.map (encP T P kt vt) | false => l.map fun _ => (.unk, .unk))[q]? = some v := hv
          rw [hg] at hv
          obtain ⟨p, _, rfl⟩ := List.mem_map.1 (List.mem_of_getElem? hv)
          exact ⟨rfl, rfl⟩
      exact ⟨e, g1, key _ _ hp.1 g2, key _ _ hp.2 g3⟩
theorem ren_live {A : Nat → Type} (f : Nat → Option Nat) (b : Blk A) : (b.ren f).live = b.live := by cases b <;> rfl
theorem posN_spec (l : List Nat) (i j : Nat) (h : posN l i = some j) : l[j]? = some i := by
  have key : ∀ (l : List Nat) (n j : Nat), (List.rec (motive := fun _ => Nat → Option Nat) (fun _ => none) (fun x _ r n => match Nat.beq x i with | true => some n | false => r (n + 1)) l) n = some j → ∃ k, j = n + k ∧ l[k]? = some i := by
    intro l
    induction l with
    | nil => intro n j h; cases h
    | cons x l ih =>
      intro n j h
      dsimp only at h
      split at h
      · rename_i hb
        obtain rfl := Option.some.inj h
        exact ⟨0, rfl, by rw [Nat.eq_of_beq_eq_true hb]; rfl⟩
      · obtain ⟨k, h1, h2⟩ := ih (n + 1) j h
        exact ⟨k + 1, by omega, h2⟩
  obtain ⟨k, h1, h2⟩ := key l 0 j h
  rw [Nat.zero_add] at h1
  rw [h1]; exact h2
theorem renHp_spec (hp : List (Nat × Blk E.T.A)) (f : Nat → Option Nat) (ord : List Nat) (j : Nat) (b : Blk E.T.A) (h : look (renHp hp f ord) j = some b) : ∃ i b0, look hp i = some b0 ∧ f i = some j ∧ b = b0.ren f := by
  unfold renHp at h
  induction ord with
  | nil => cases h
  | cons i ord ih =>
    rw [List.filterMap_cons] at h
    split at h
    · exact ih h
    · rename_i p hp2
      split at hp2
      · rename_i b0 k hb0 hk
        obtain rfl := Option.some.inj hp2
        rw [look_cons] at h
        split at h
        · rename_i e
          dsimp only at e
          subst e
          exact ⟨i, b0, hb0, hk, (Option.some.inj h).symm⟩
        · exact ih h
      · cases hp2
theorem look_renEnv (f : Nat → Option Nat) (e : List (Nat × VE E)) (t : Nat) : look (renEnv f e) t = (look e t).map (V.ren f 3) := by
  induction e with
  | nil => rfl
  | cons p e ih =>
    have h : renEnv f (p :: e) = (p.1, p.2.ren f 3) :: renEnv f e := rfl
    rw [h, look_cons, look_cons, ih]
    dsimp only
    split <;> rfl
theorem FR.ren {μ' : Nat → Option Value} {ok ok' : Nat → Prop} (hT : E.T.Ok E.P) (f : Nat → Option Nat) (hf : ∀ i j c, f i = some j → μ i = some c → μ' j = some c) (hok : ∀ b, ok b → ok' b) : ∀ {es : List (List (Nat × VE E))} {as : List Act}, FR E.T E.P w μ ok es as → FR E.T E.P w μ' ok' (es.map (renEnv f)) as
  | [], [], _ => trivial
  | e :: es, a :: as, h => ⟨⟨h.1.1, fun t v hv => by
      rw [look_renEnv] at hv
      cases h2 : look e t with
      | none => rw [h2] at hv; cases hv
      | some x =>
        rw [h2] at hv; obtain rfl := Option.some.inj hv
        exact (Rep.ren hT f hf 3 x _ (h.1.2 t x h2)).mono (fun b hb => ⟨hok b hb, rfl⟩) (fun _ _ h => h)⟩, FR.ren hT f hf hok h.2⟩
  | [], _ :: _, h => h.elim
  | _ :: _, [], h => h.elim
/-- the numbers of 'ord', anew -/
def numbered (μ : Nat → Option Value) (ord : List Nat) (j : Nat) : Option Value := match ord[j]? with | some i => μ i | none => none
theorem numbered_ext (ord : List Nat) : ∀ i j c, posN ord i = some j → μ i = some c → numbered μ ord j = some c := fun i j c h hc => by
  unfold numbered; rw [posN_spec ord i j h]; exact hc
theorem ren_heap (hT : E.T.Ok E.P) (H : RelM E.T E.P W0 okb μ st acts w) (ord : List Nat) {es : List (List (Nat × VE E))} {as : List Act} {env : List (Nat × VE E)} {stk : List (List (Nat × VE E))} (hes : env :: stk = es.map (renEnv (posN ord))) (hfr : FR E.T E.P w μ (okM st.hp μ W0 okb w) es as) :
    RelM E.T E.P W0 okb (numbered μ ord) { env := env, stk := stk, hp := renHp st.hp (posN ord) ord, nx := ord.length } as w ∧ (∀ b, okM st.hp μ W0 okb w b → okM (renHp st.hp (posN ord) ord) (numbered μ ord) W0 okb w b) := by
  have hok : ∀ b, okM st.hp μ W0 okb w b → okM (renHp st.hp (posN ord) ord) (numbered μ ord) W0 okb w b := fun b hb => by
    refine ⟨hb.1, hb.2.1, fun j blk c h1 h2 h3 => ?_⟩
    obtain ⟨i, b0, h4, h5, rfl⟩ := renHp_spec _ _ _ _ _ h1
    rw [ren_live] at h2
    have : numbered μ ord j = μ i := by unfold numbered; rw [posN_spec ord i j h5]
    rw [this] at h3
    exact hb.2.2 i b0 c h4 h2 h3
  refine ⟨⟨H.below, fun j c hj => ?_, fun j b hb => ?_, fun j1 j2 b1 b2 c1 c2 k h1 h2 h3 h4 h5 h6 => ?_, ?_⟩, hok⟩
  · unfold numbered at hj
    split at hj
    · rename_i i hi; exact ⟨(List.getElem?_eq_some_iff.1 hi).1, (H.dom i c hj).2⟩
    · cases hj
  · obtain ⟨i, b0, h4, h5, rfl⟩ := renHp_spec _ _ _ _ _ hb
    exact (H.blk i b0 h4).ren hT (posN ord) (numbered_ext ord) hok h5
  · obtain ⟨i1, x1, g1, g2, rfl⟩ := renHp_spec _ _ _ _ _ h1
    obtain ⟨i2, x2, g3, g4, rfl⟩ := renHp_spec _ _ _ _ _ h2
    have e1 : numbered μ ord j1 = μ i1 := by unfold numbered; rw [posN_spec ord i1 j1 g2]
    have e2 : numbered μ ord j2 = μ i2 := by unfold numbered; rw [posN_spec ord i2 j2 g4]
    rw [e1] at h3; rw [e2] at h4
    obtain rfl := H.inj i1 i2 x1 x2 c1 c2 k g1 g3 h3 h4 h5 h6
    rw [g2] at g4; exact Option.some.inj g4
  · show FR _ _ _ _ _ (env :: stk) as
    rw [hes]
    exact FR.ren hT (posN ord) (numbered_ext ord) hok hfr
theorem look_keep (env : List (Nat × VE E)) (ks : List (Nat × Option Nat)) (t : Nat) (v : VE E) (h : look (keepEnv env ks) t = some v) : look env t = some v := by
  unfold keepEnv at h
  induction ks with
  | nil => cases h
  | cons k ks ih =>
    rw [List.filterMap_cons] at h
    split at h
    · exact ih h
    · rename_i p hp
      split at hp
      · rename_i x hx
        obtain rfl := Option.some.inj hp
        rw [look_cons] at h
        split at h
        · rename_i e
          dsimp only at e
          subst e
          obtain rfl := Option.some.inj h
          exact hx
        · exact ih h
      · cases hp
theorem canonEnv_sound (hT : E.T.Ok E.P) {a : Act} {as : List Act} (H : RelM E.T E.P W0 okb μ st (a :: as) w) {env : List (Nat × VE E)} (henv : ∀ t v, look env t = some v → look st.env t = some v) : ∃ μ', RelM E.T E.P W0 okb μ' (canonEnv st env) (a :: as) w :=
  have h1 : FR E.T E.P w μ (okM st.hp μ W0 okb w) (env :: st.stk) (a :: as) := And.intro ⟨H.fr.1.1, fun t v hv => H.fr.1.2 t v (henv t v hv)⟩ H.fr.2
  ⟨_, (ren_heap hT H (reach st.hp 4096 (env.flatMap (fun p => p.2.ids 3) ++ st.stk.flatMap fun e => e.flatMap fun p => p.2.ids 3) []) (es := env :: st.stk) rfl h1).1⟩
/-- the head frame knows a value -/
theorem RelM.setEnv {a : Act} {as : List Act} (H : RelM E.T E.P W0 okb μ st (a :: as) w) {env : List (Nat × VE E)} (h : ∀ t v, look env t = some v → REP E st μ W0 okb w v (a.tmps.getD t undef)) : RelM E.T E.P W0 okb μ { st with env := env } (a :: as) w :=
  ⟨H.below, H.dom, H.blk, H.inj, ⟨H.fr.1.1, h⟩, H.fr.2⟩
theorem opens_sound (hT : E.T.Ok E.P) {a : Act} {as : List Act} : ∀ (ks : List (Nat × Option Nat)) (st : SE E) (μ : Nat → Option Value), RelM E.T E.P W0 okb μ st (a :: as) w → ∃ μ', RelM E.T E.P W0 okb μ' (opens E.T st ks) (a :: as) w
  | [], st, μ, H => ⟨μ, H⟩
  | k :: ks, st, μ, H => by
    unfold opens
    rw [List.foldl_cons]
    refine (?_ : ∃ μ1, RelM E.T E.P W0 okb μ1 _ (a :: as) w).elim fun μ1 H1 => opens_sound hT ks _ μ1 H1
    split
    · rename_i e he hl
      split
      · rename_i hk
        have hc := (H.fr.1.2 _ _ hl).nils_inv
        have hnew := H.new (nb := st.nx) (c := .slice none 0 0) (blk := .row e [] false) H.isFr (World.grownBy.refl w none) rfl (fun k hk => by cases hk) fun ok' hok' hμ' => ?_
        · rw [show Nat.max st.nx (st.nx + 1) = st.nx + 1 from Nat.max_eq_right (Nat.le_succ _)] at hnew
          refine ⟨_, hnew.1.setEnv (env := (k.1, .own st.nx) :: st.env) fun t v hv => ?_⟩
          rw [look_cons] at hv
          split at hv
          · rename_i e2
            dsimp only at e2
            subst e2
            obtain rfl := Option.some.inj hv
            rw [hc]
            exact .own _ _ (upd_same _ _ _)
          · exact hnew.1.fr.1.2 t v hv
        · exact .row e [] false _ [] hk (upd_same _ _ _) (ownsR_of (base := w.heap.size) H.below.new (World.ownsRow_nil _ _ _ _)) fun j x q v hx => by simp at hx
      · exact ⟨μ, H⟩
    · exact ⟨μ, H⟩
theorem head_sound (hT : E.T.Ok E.P) {a : Act} {as : List Act} (H : RelM E.T E.P W0 okb μ st (a :: as) w) (f : Nat) (c : Code) : ∃ μ', RelM E.T E.P W0 okb μ' (headV E f c st) (a :: as) w := by
  unfold headV
  split
  · rename_i ks _
    obtain ⟨μ1, H1⟩ := opens_sound hT ks st μ H
    exact canonEnv_sound hT H1 (look_keep _ ks)
  · exact ⟨μ, H⟩
theorem exit_sound (hT : E.T.Ok E.P) {a : Act} {as : List Act} (H : RelM E.T E.P W0 okb μ st (a :: as) w) (f : Nat) (c : Code) : ∃ μ', RelM E.T E.P W0 okb μ' (exitV E f c st) (a :: as) w := by
  unfold exitV
  split
  · rename_i ks _
    obtain ⟨μ1, H1⟩ := opens_sound hT ks st μ H
    exact canonEnv_sound hT H1 (look_keep _ ks)
  · exact ⟨μ, H⟩
end
end Go.Proofs.YtpbpebjfglfjfaaGreatDoor.X
