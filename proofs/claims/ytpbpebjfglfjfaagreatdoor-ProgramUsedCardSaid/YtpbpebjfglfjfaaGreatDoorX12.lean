/-
  SOUNDNESS of calls: what a call hands back is taken over.
-/
import Derived.Test.YtpbpebjfglfjfaaGreatDoorX11
set_option autoImplicit false
set_option linter.unusedVariables false
set_option linter.unusedSimpArgs false
namespace Go.Proofs.YtpbpebjfglfjfaaGreatDoor.X
open Go Go.RowKit
def act0 : Act := { tmps := #[], defers := [] }
/-- What a call from 'w' may hand back: a value, and the blocks that it has made. -/
def RetRel (T : Tab) (P : Program) (w : World) (okb : Nat → Prop) (r : Res T.A) (e : Ending) (w' : World) : Prop :=
  ∃ c μr n, e = .returned c ∧ RelM T P (.of w) okb μr { env := [], stk := [], hp := r.2, nx := n } [act0] w' ∧ Rep T P w' μr (okM r.2 μr (.of w) okb w') r.1 c
def Enters (P : Program) (f : Nat) : Prop := ∃ fn, P.funcs[f]? = some fn ∧ (fn.name == "runtime.NumGoroutine") = false ∧ fn.body.isNone = false
/-- A CONTRACT: called with what these stand for, the function hands back what 'g' says. -/
def OkC (T : Tab) (P : Program) (G : World → Prop) (f : Nat) (g : List (V T.A) → Option (Res T.A)) : Prop :=
  Enters P f ∧ ∀ (w : World) (okb : Nat → Prop) (as : List (V T.A)) (cs : Array Value) (r : Res T.A), G w → cs.size = as.length → (∀ i v, as[i]? = some v → Rep T P w (fun _ => none) okb v (cs.getD i undef)) → (∀ b, okb b → b < w.heap.size) → g as = some r → Calls P f cs w (RetRel T P w okb r)
section
variable {E : Env} {W0 : Wd} {w : World} {okb : Nat → Prop} {μ : Nat → Option Value} {st : SE E} {acts : List Act}
theorem grown_of_below {w w' : World} (h : Below w.heap.size w w') : w.grownBy w' none := ⟨h.os, h.tape, h.output, h.size, fun k hk _ => h.block k hk⟩
/-- the world grows; nothing of what there was turns -/
theorem RelM.grow (H : RelM E.T E.P W0 okb μ st acts w) {w' : World} (hw : w.grownBy w' none) : RelM E.T E.P W0 okb μ st acts w' ∧ (∀ b, okM st.hp μ W0 okb w b → okM st.hp μ W0 okb w' b ∧ w'.heap[b]? = w.heap[b]?) := by
  have := H.step (w' := w') (μ' := μ) st.hp st.nx none (fun k h => by cases h) hw (fun _ _ h => h) H.dom (fun b hb => hb.2.2)
    (fun _ i b hb => by obtain ⟨c, hc⟩ := (H.blk i b hb).mu; exact .inl ⟨b, c, hb, .inl rfl, hc, fun k h => by cases h⟩) H.inj
  exact this
theorem appHp_spec (nb : Nat) (f : Nat → Option Nat) (old : List (Nat × Blk E.T.A)) : ∀ (l : List (Nat × Blk E.T.A)) (i : Nat) (b : Blk E.T.A), look (appHp nb f old l) i = some b → (∃ k b0, i = nb + k ∧ look l k = some b0 ∧ b = b0.ren f) ∨ look old i = some b
  | [], i, b, h => .inr h
  | p :: l, i, b, h => by
    have h : look ((nb + p.1, p.2.ren f) :: appHp nb f old l) i = some b := h
    rw [look_cons] at h
    split at h
    · rename_i e
      exact .inl ⟨p.1, p.2, e.symm, by rw [look_cons, if_pos rfl], (Option.some.inj h).symm⟩
    · rename_i e
      rcases appHp_spec nb f old l i b h with ⟨k, b0, rfl, h2, h3⟩ | h2
      · exact .inl ⟨k, b0, rfl, by rw [look_cons, if_neg (fun e2 => e (by dsimp only; rw [e2]))]; exact h2, h3⟩
      · exact .inr h2
theorem maxK_spec : ∀ (l : List (Nat × Blk E.T.A)) (k : Nat) (b : Blk E.T.A), look l k = some b → k < maxK l
  | [], k, b, h => by cases h
  | p :: l, k, b, h => by
    show k < Nat.max (p.1 + 1) (maxK l)
    rw [look_cons] at h
    split at h
    · rename_i e; have := Nat.le_max_left (p.1 + 1) (maxK l); show k < max (p.1 + 1) (maxK l); omega
    · have := maxK_spec l k b h
      have := Nat.le_max_right (p.1 + 1) (maxK l); show k < max (p.1 + 1) (maxK l); omega
theorem ownsRow_base {w : World} {B B' : Nat → Prop} {e s n : Nat} {c : Value} {xs : List Value} (hB : ∀ k, B' k → B k) (h : ownsR w B e s c n xs) : ownsR w B' e s c n xs := by
  refine ⟨h.1, ?_⟩
  rcases h.2 with h | ⟨g, o, cap, cur, h1, h2, h3⟩
  · exact .inl h
  · exact .inr ⟨g, o, cap, cur, h1, fun h => h2 (hB _ h), h3⟩
theorem BlkRel.base {T : Tab} {P : Program} {W1 : Wd} {ok : Nat → Prop} {i : Nat} {b : Blk T.A} (hB : ∀ k, W0.old k → W1.old k) (h : BlkRel T P W1 w μ ok i b) : BlkRel T P W0 w μ ok i b := by
  cases h with
  | var l z b cs e hm hB2 hh hl hr => exact .var l z b cs e hm (fun h => hB2 (hB _ h)) hh hl hr
  | row e l z c cs hk hm ho hr => exact .row e l z c cs hk hm (ownsRow_base hB ho) hr
  | map l z r es n hm hB2 hh hl hr => exact .map l z r es n hm (fun h => hB2 (hB _ h)) hh hl hr
theorem absorb_sound (hT : E.T.Ok E.P) {a : Act} {as : List Act} (H : RelM E.T E.P W0 okb μ st (a :: as) w) {nb : Nat} (hnb : Fr μ nb) {fr : List Nat} {r : Res E.T.A} {R : Type} {q : R} {K : VE E → SE E → Option R} {e : Ending} {w' : World}
    (hr : RetRel E.T E.P w (okM (freeze st.hp fr) μ W0 okb w) r e w') (h : absorb E st nb fr r K = some q) :
    ∃ c v st' μ', e = .returned c ∧ K v st' = some q ∧ Side μ μ' st.nx nb st'.nx ∧ RelM E.T E.P W0 okb μ' { st' with nx := Nat.max st.nx st'.nx } (a :: as) w' ∧ REP E st' μ' W0 okb w' v c := by
  obtain ⟨c, μr, n, rfl, Hr, hv⟩ := hr
  have hgr := grown_of_below Hr.below.of
  have hsz := H.below.size
  have hWw : ∀ k, W0.old k → (Wd.of w).old k := fun k hk => Nat.lt_of_lt_of_le (W0.lt k hk) hsz
  have Hf := (H.freeze fr).1
  -- what the callee may use, the caller may
  have hcross : ∀ (hp : List (Nat × Blk E.T.A)) (b : Nat), okM r.2 μr (.of w) (okM (freeze st.hp fr) μ W0 okb w) w' b → b < w'.heap.size ∧ (¬ W0.old b ∨ okb b) ∧ (∀ i blk c, look (freeze st.hp fr) i = some blk → blk.live = true → μ i = some c → blockOf c ≠ some b) := by
    intro hp b hb
    refine ⟨hb.1, ?_, fun i blk d h1 h2 h3 h4 => ?_⟩
    · rcases hb.2.1 with h | h
      · exact .inl fun h5 => h (hWw b h5)
      · exact h.2.1
    · have h5 := ((Hf.blk i blk h1).block h3 h4).2
      rcases hb.2.1 with h | h
      · exact h h5
      · exact h.2.2 i blk d h1 h2 h3 h4
  unfold absorb at h
  split at h
  · rename_i hr2
    split at h
    · rename_i hs
      rw [force_eq] at h
      obtain ⟨H', _⟩ := H.grow hgr
      exact ⟨c, _, _, μ, rfl, h, side_same _ _ _, H'.nx (Nat.le_max_left _ _), hv.scalar 3 hs⟩
    · split at h
      · rename_i hp
        rw [force_eq] at h
        obtain ⟨H', _⟩ := Hf.grow hgr
        refine ⟨c, _, _, μ, rfl, h, side_same _ _ _, H'.nx (Nat.le_max_left _ _), (hv.mono (ok' := okM (freeze st.hp fr) μ W0 okb w') (w' := w') (μ' := μr) (fun b hb => ⟨?_, rfl⟩) (fun _ _ h => h)).pure hT 3 hp⟩
        exact hcross [] b hb
      · cases h
  · rename_i b0 bs hr2
    split at h
    case h_2 => cases h
    rename_i hmax
    have hmax := Nat.le_of_ble_eq_true hmax
    rw [force_eq] at h
    generalize hl : b0 :: bs = l at *
    rw [hr2] at Hr hv hcross
    let μ' : Nat → Option Value := fun i => if nb ≤ i ∧ i < nb + maxK l then μr (i - nb) else μ i
    have hμold : ∀ i x, μ i = some x → μ' i = some x := fun i x hx => by
      show (if nb ≤ i ∧ i < nb + maxK l then μr (i - nb) else μ i) = some x
      rw [if_neg (fun h => hnb i x hx ⟨h.1, by omega⟩)]; exact hx
    have hμnew : ∀ k, k < maxK l → μ' (nb + k) = μr k := fun k hk => by
      show (if nb ≤ nb + k ∧ nb + k < nb + maxK l then μr (nb + k - nb) else μ (nb + k)) = μr k
      rw [if_pos ⟨by omega, by omega⟩]; congr 1; omega
    have hf : ∀ i j c, moved nb l i = some j → μr i = some c → μ' j = some c := fun i j c hij hc => by
      unfold moved at hij
      split at hij
      · rename_i b hb
        obtain rfl := Option.some.inj hij
        rw [hμnew i (maxK_spec l i b hb)]; exact hc
      · cases hij
    -- an old number's value under μ'
    have hold : ∀ i blk, look (freeze st.hp fr) i = some blk → ∃ d, μ i = some d ∧ μ' i = some d := fun i blk hi => by
      obtain ⟨d, hd⟩ := (Hf.blk i blk hi).mu
      exact ⟨d, hd, hμold i d hd⟩
    have hnew : ∀ k blk, look l k = some blk → ∃ d, μr k = some d ∧ μ' (nb + k) = some d := fun k blk hk => by
      obtain ⟨d, hd⟩ := (Hr.blk k blk hk).mu
      exact ⟨d, hd, by rw [hμnew k (maxK_spec l k blk hk)]; exact hd⟩
    have hokr : ∀ b, okM l μr (.of w) (okM (freeze st.hp fr) μ W0 okb w) w' b → okM (appHp nb (moved nb l) (freeze st.hp fr) l) μ' W0 okb w' b := by
      intro b hb
      obtain ⟨h1, h2, h3⟩ := hcross [] b hb
      refine ⟨h1, h2, fun i blk d g1 g2 g3 => ?_⟩
      rcases appHp_spec _ _ _ _ _ _ g1 with ⟨k, b1, rfl, g4, rfl⟩ | g4
      · obtain ⟨d', g5, g6⟩ := hnew k b1 g4
        rw [g6] at g3; obtain rfl := Option.some.inj g3
        exact hb.2.2 k b1 d' g4 (by rw [ren_live] at g2; exact g2) g5
      · obtain ⟨d', g5, g6⟩ := hold i blk g4
        rw [g6] at g3; obtain rfl := Option.some.inj g3
        exact h3 i blk d' g4 g2 g5
    have hstep := Hf.step (w' := w') (μ' := μ') (appHp nb (moved nb l) (freeze st.hp fr) l) (Nat.max st.nx (nb + maxK l)) none (fun k h => by cases h) hgr hμold
      (fun i d hd => by
        have hd : (if nb ≤ i ∧ i < nb + maxK l then μr (i - nb) else μ i) = some d := hd
        split at hd
        · exact ⟨Nat.lt_of_lt_of_le (by omega : i < nb + maxK l) (Nat.le_max_right _ _), (Hr.dom _ d hd).2⟩
        · have := H.dom i d hd
          exact ⟨Nat.lt_of_lt_of_le this.1 (Nat.le_max_left _ _), this.2⟩)
      (fun b hb i blk d g1 g2 g3 g7 => by
        rcases appHp_spec _ _ _ _ _ _ g1 with ⟨k, b1, rfl, g4, rfl⟩ | g4
        · obtain ⟨d', g5, g6⟩ := hnew k b1 g4
          rw [g6] at g3; obtain rfl := Option.some.inj g3
          exact ((Hr.blk k b1 g4).block g5 g7).1 hb.1
        · obtain ⟨d', g5, g6⟩ := hold i blk g4
          rw [g6] at g3; obtain rfl := Option.some.inj g3
          exact hb.2.2 i blk d' g4 g2 g5 g7)
      (fun hmono i blk hi => by
        rcases appHp_spec _ _ _ _ _ _ hi with ⟨k, b1, rfl, g4, rfl⟩ | g4
        · exact .inr (((Hr.blk k b1 g4).ren hT (moved nb l) hf hokr (by unfold moved; rw [g4])).base hWw)
        · obtain ⟨d', g5, g6⟩ := hold i blk g4
          exact .inl ⟨blk, d', g4, .inl rfl, g5, fun k h => by cases h⟩)
      (fun i j b1 b2 d1 d2 k g1 g2 g3 g4 g5 g6 => by
        rcases appHp_spec _ _ _ _ _ _ g1 with ⟨k1, x1, rfl, f1, rfl⟩ | f1
        · obtain ⟨e1, f2, f3⟩ := hnew k1 x1 f1
          rw [f3] at g3; obtain rfl := Option.some.inj g3
          rcases appHp_spec _ _ _ _ _ _ g2 with ⟨k2, x2, rfl, f4, rfl⟩ | f4
          · obtain ⟨e2, f5, f6⟩ := hnew k2 x2 f4
            rw [f6] at g4; obtain rfl := Option.some.inj g4
            rw [Hr.inj k1 k2 x1 x2 e1 e2 k f1 f4 f2 f5 g5 g6]
          · obtain ⟨e2, f5, f6⟩ := hold j b2 f4
            rw [f6] at g4; obtain rfl := Option.some.inj g4
            have h7 := ((Hr.blk k1 x1 f1).block f2 g5).1
            have h8 := ((Hf.blk j b2 f4).block f5 g6).2
            exact absurd h8 h7
        · obtain ⟨e1, f2, f3⟩ := hold i b1 f1
          rw [f3] at g3; obtain rfl := Option.some.inj g3
          rcases appHp_spec _ _ _ _ _ _ g2 with ⟨k2, x2, rfl, f4, rfl⟩ | f4
          · obtain ⟨e2, f5, f6⟩ := hnew k2 x2 f4
            rw [f6] at g4; obtain rfl := Option.some.inj g4
            have h7 := ((Hr.blk k2 x2 f4).block f5 g6).1
            have h8 := ((Hf.blk i b1 f1).block f2 g5).2
            exact absurd h8 h7
          · obtain ⟨e2, f5, f6⟩ := hold j b2 f4
            rw [f6] at g4; obtain rfl := Option.some.inj g4
            exact Hf.inj i j b1 b2 e1 e2 k f1 f4 f2 f5 g5 g6)
    refine ⟨c, _, _, μ', rfl, h, ⟨.inr ⟨Nat.le_add_right _ _, by show nb + maxK l ≤ nb + 64; omega⟩, fun i d hd => ?_⟩, hstep.1, (Rep.ren hT (moved nb l) hf 3 _ c hv).mono (fun b hb => ⟨hokr b hb, rfl⟩) (fun _ _ h => h)⟩
    have hd : (if nb ≤ i ∧ i < nb + maxK l then μr (i - nb) else μ i) = some d := hd
    split at hd
    · exact .inr ⟨by omega, by omega⟩
    · exact .inl hd
end
end Go.Proofs.YtpbpebjfglfjfaaGreatDoor.X
