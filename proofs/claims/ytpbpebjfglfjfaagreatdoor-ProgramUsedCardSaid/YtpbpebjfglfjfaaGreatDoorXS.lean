/-
  CONTRACTS told by elements: what comes back is shut.
-/
import Derived.Test.YtpbpebjfglfjfaaGreatDoorX17
set_option autoImplicit false
set_option linter.unusedVariables false
set_option linter.unusedSimpArgs false
namespace Go.Proofs.YtpbpebjfglfjfaaGreatDoor.X
open Go Go.RowKit
noncomputable section
variable {A : Nat → Type}
def shutTup {A : Nat → Type} (l : Option (List (V A))) : Option (V A) := match l with | some l => some (.tup l) | none => none
def shutR {A : Nat → Type} (hp : List (Nat × Blk A)) (v : V A) : Option (V A) := match v with | .tup l => shutTup (mapO (shut hp 2) l) | v => shut hp 2 v
def shutRes {A : Nat → Type} (r : Option (Res A)) : Option (Res A) := match r with | some r => (match shutR r.2 r.1 with | some u => some (u, []) | none => none) | none => none
/-- nil or empty: told as the elements' kind has it -/
def co1 (T : Tab) (e : Option Nat) (v : V T.A) : Option (V T.A) := match e, v with
  | some e, .agg cs => (match T.known e, T.dec e cs with | true, some x => some (.agg (T.enc e x)) | _, _ => none)
  | some e, .nils => (match T.known e with | true => some (.ro e []) | false => none)
  | some e, v => some v
  | none, v => some v
def coL (T : Tab) (l : List (V T.A)) : List (Option Nat) → Option (List (V T.A)) := List.rec (motive := fun _ => List (Option Nat) → Option (List (V T.A))) (fun _ => some []) (fun v _ ih ts => match ts with | e :: ts => cons2 (co1 T e v) (ih ts) | [] => cons2 (some v) (ih [])) l
def coT (l : Option (List (V A))) : Option (V A) := match l with | some l => some (.tup l) | none => none
def coR (T : Tab) (ts : List (Option Nat)) (v : V T.A) : Option (V T.A) := match v with | .tup l => coT (coL T l ts) | v => (match ts with | [e] => co1 T e v | _ => some v)
def coRes (T : Tab) (ts : List (Option Nat)) (r : Option (Res T.A)) : Option (Res T.A) := match r with | some (v, []) => (match coR T ts v with | some u => some (u, []) | none => none) | _ => none
end
section
variable {E : Env} {w w' : World} {okb : Nat → Prop}
theorem shutR_cases {A : Nat → Type} (hp : List (Nat × Blk A)) (v : V A) : (∃ l, v = .tup l) ∨ shutR hp v = shut hp 2 v := by
  cases v with
  | tup l => exact .inl ⟨l, rfl⟩
  | _ => exact .inr rfl
theorem ret_none {W : World} (hb : Below w.heap.size w W) : RelM E.T E.P (.of w) okb (fun _ => none) { env := [], stk := [], hp := [], nx := 0 } [act0] W :=
  ⟨BelowW.to hb, fun i c h => (by cases h), fun i b h => (by cases h), fun i j b b' c d k h => (by cases h), And.intro ⟨rfl, fun t v h => (by cases h)⟩ trivial⟩
theorem ret_shut (hT : E.T.Ok E.P) {r : Res E.T.A} {u : VE E} {e : Ending} (h : RetRel E.T E.P w okb r e w') (hs : shutR r.2 r.1 = some u) : RetRel E.T E.P w okb (u, []) e w' := by
  obtain ⟨c, μr, n, rfl, H, hv⟩ := h
  refine ⟨c, fun _ => none, 0, rfl, ret_none (E := E) (okb := okb) H.below.of, ?_⟩
  have one : ∀ (ids : List Nat) (v u : VE E) (c : Value), shut r.2 2 v = some u → Rep E.T E.P w' μr (okM r.2 μr (.of w) okb w') v c → (∀ i ∈ v.ids 2, i ∈ ids) → Rep E.T E.P w' (fun _ => none) (okM ([] : List (Nat × Blk E.T.A)) (fun _ => none) (.of w) okb w') u c := fun ids v u c h1 h2 h3 => by
    have h4 := (shut_frozen H ids 2 v u c h1 h2 h3).pure hT (μ' := fun _ => none) 3 (shut_pure 2 _ _ h1)
    exact h4.mono (fun b hb => ⟨⟨hb.1, hb.2.1, fun i blk c h => (by cases h)⟩, rfl⟩) (fun _ _ h => h)
  rcases shutR_cases r.2 r.1 with ⟨l, hl⟩ | hl
  · rw [hl] at hs hv
    have hs : shutTup (mapO (shut r.2 2) l) = some u := hs
    unfold shutTup at hs
    split at hs
    · rename_i m hm
      obtain rfl := Option.some.inj hs
      obtain ⟨hlen, hall⟩ := mapO_spec l m hm
      cases hv with | tup _ cs hcl hcr =>
      refine .tup m cs (by rw [hcl, hlen]) fun i v hv => ?_
      have hi : i < l.length := by rw [← hlen]; exact (List.getElem?_eq_some_iff.1 hv).1
      obtain ⟨u', h3, h4⟩ := hall i _ (List.getElem?_eq_getElem hi)
      rw [hv] at h3
      obtain rfl := Option.some.inj h3
      exact one _ _ _ _ h4 (hcr i _ (List.getElem?_eq_getElem hi)) fun _ h => h
    · cases hs
  · rw [hl] at hs
    exact one _ _ _ _ hs hv fun _ h => h
theorem ok_shut (hT : E.T.Ok E.P) {G : World → Prop} {f : Nat} {g g' : List (VE E) → Option (Res E.T.A)} (h : OkC E.T E.P G f g) (hg : ∀ l r, g' l = some r → shutRes (g l) = some r) : OkC E.T E.P G f g' := by
  refine ⟨h.1, fun w okb as cs r hG hs hr hok h1 => ?_⟩
  have h2 := hg as r h1
  unfold shutRes at h2
  split at h2
  · rename_i r0 h3
    split at h2
    · rename_i u hu
      obtain rfl := Option.some.inj h2
      exact (h.2 w okb as cs r0 hG hs hr hok h3).mono fun e w' hret => ret_shut hT hret hu
    · cases h2
  · cases h2
theorem co1_rep (hT : E.T.Ok E.P) {e : Option Nat} {v u : VE E} {W : World} {μ : Nat → Option Value} {ok : Nat → Prop} {c : Value} (h : co1 E.T e v = some u) (hv : Rep E.T E.P W μ ok v c) : Rep E.T E.P W μ ok u c := by
  unfold co1 at h
  split at h
  · split at h
    · rename_i e0 cs _ _ x hk hd
      obtain rfl := Option.some.inj h
      obtain ⟨h1, h2⟩ := hT.dec e0 cs x hk hd
      have h3 := hT.len e0 x hk
      cases hv with | agg _ arr hl hr =>
      refine .agg _ arr (by rw [hl, h1, h3]) fun i v hv => ?_
      have hi : i < cs.length := by rw [h1, ← h3]; exact (List.getElem?_eq_some_iff.1 hv).1
      exact (hr i _ (List.getElem?_eq_getElem hi)).sub (h2 i _ v (List.getElem?_eq_getElem hi) hv)
    · cases h
  · split at h
    · rename_i e0 _ hk
      obtain rfl := Option.some.inj h
      exact hv.sub (.inr ⟨rfl, e0, hk, rfl⟩)
    · cases h
  · obtain rfl := Option.some.inj h; exact hv
  · obtain rfl := Option.some.inj h; exact hv
theorem coL_spec {T : Tab} : ∀ (l : List (V T.A)) (ts : List (Option Nat)) (m : List (V T.A)), coL T l ts = some m → m.length = l.length ∧ ∀ (i : Nat) (v : V T.A), l[i]? = some v → ∃ e u, m[i]? = some u ∧ co1 T e v = some u
  | [], ts, m, h => by obtain rfl := Option.some.inj h; exact ⟨rfl, fun i v hv => (by cases hv)⟩
  | x :: l, ts, m, h => by
    have key : ∀ (e : Option Nat) (ts' : List (Option Nat)), cons2 (co1 T e x) (coL T l ts') = some m → m.length = (x :: l).length ∧ ∀ (i : Nat) (v : V T.A), (x :: l)[i]? = some v → ∃ e u, m[i]? = some u ∧ co1 T e v = some u := by
      intro e ts' h
      unfold cons2 at h
      split at h
      · rename_i y z hy hz
        obtain rfl := Option.some.inj h
        obtain ⟨h1, h2⟩ := coL_spec l ts' z hz
        refine ⟨by simp [h1], fun i v hv => ?_⟩
        cases i with
        | zero => obtain rfl := Option.some.inj hv; exact ⟨e, y, rfl, hy⟩
        | succ i => exact h2 i v hv
      · cases h
    cases ts with
    | nil => exact key none [] (by have h : cons2 (some x) (coL T l []) = some m := h; rw [show co1 T none x = some x from by unfold co1; rfl]; exact h)
    | cons e ts => exact key e ts h
theorem ret_co (hT : E.T.Ok E.P) {ts : List (Option Nat)} {v u : VE E} {e : Ending} (h : RetRel E.T E.P w okb (v, []) e w') (hs : coR E.T ts v = some u) : RetRel E.T E.P w okb (u, []) e w' := by
  obtain ⟨c, μr, n, rfl, H, hv⟩ := h
  refine ⟨c, μr, n, rfl, H, ?_⟩
  replace hv : Rep E.T E.P w' μr (okM ([] : List (Nat × Blk E.T.A)) μr (.of w) okb w') v c := hv
  show Rep E.T E.P w' μr (okM ([] : List (Nat × Blk E.T.A)) μr (.of w) okb w') u c
  unfold coR at hs
  split at hs
  · rename_i l
    unfold coT at hs
    split at hs
    · rename_i m hm
      obtain rfl := Option.some.inj hs
      obtain ⟨hlen, hall⟩ := coL_spec l ts m hm
      cases hv with | tup _ cs hcl hcr =>
      refine .tup m cs (by rw [hcl, hlen]) fun i v hv => ?_
      have hi : i < l.length := by rw [← hlen]; exact (List.getElem?_eq_some_iff.1 hv).1
      obtain ⟨e, u', h3, h4⟩ := hall i _ (List.getElem?_eq_getElem hi)
      rw [hv] at h3
      obtain rfl := Option.some.inj h3
      exact co1_rep hT h4 (hcr i _ (List.getElem?_eq_getElem hi))
    · cases hs
  · split at hs
    · exact co1_rep hT hs hv
    · obtain rfl := Option.some.inj hs; exact hv
theorem ok_co (hT : E.T.Ok E.P) {G : World → Prop} {f : Nat} {g g' : List (VE E) → Option (Res E.T.A)} (h : OkC E.T E.P G f g) (ts : List (Option Nat)) (hg : ∀ l r, g' l = some r → coRes E.T ts (shutRes (g l)) = some r) : OkC E.T E.P G f g' := by
  have h1 : OkC E.T E.P G f fun l => shutRes (g l) := ok_shut hT h fun l r h => h
  refine ⟨h.1, fun w okb as cs r hG hs hr hok hgr => ?_⟩
  have h2 := hg as r hgr
  unfold coRes at h2
  split at h2
  · rename_i v h3
    split at h2
    · rename_i u hu
      obtain rfl := Option.some.inj h2
      exact (h1.2 w okb as cs _ hG hs hr hok h3).mono fun e w' hret => ret_co hT hret hu
    · cases h2
  · cases h2
end
end Go.Proofs.YtpbpebjfglfjfaaGreatDoor.X
