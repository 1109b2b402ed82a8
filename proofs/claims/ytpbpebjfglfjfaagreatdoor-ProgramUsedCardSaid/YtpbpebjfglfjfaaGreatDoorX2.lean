/-
  WHAT A VALUE OF THE EXECUTOR STANDS FOR IN A WORLD, and how that stays.
-/
import Derived.Test.YtpbpebjfglfjfaaGreatDoorX1
import Derived.Below
set_option autoImplicit false
set_option linter.unusedVariables false
set_option linter.unusedSimpArgs false
namespace Go.Proofs.YtpbpebjfglfjfaaGreatDoor.X
open Go Go.RowKit

structure Tab.Ok (T : Tab) (P : Program) : Prop where
  size : ∀ e, T.known e = true → 0 < szT P e
  len : ∀ e x, T.known e = true → (T.enc e x).length = szT P e
  info : ∀ e, T.known e = true → ∃ i z, P.info? e = some i ∧ i.zero = some z ∧ z.cells.size = i.size ∧ i.bytes ≤ 65536
  pure : ∀ e x v, T.known e = true → v ∈ T.enc e x → v.pure 1 = true ∧ v.one = true
  key : ∀ e x y, T.key e = true → T.known e = true → isO (keyE (T.enc e x) (T.enc e y)) = true
  dec : ∀ e cs x, T.known e = true → T.dec e cs = some x → cs.length = szT P e ∧ ∀ (i : Nat) (v u : V T.A), cs[i]? = some v → (T.enc e x)[i]? = some u → v = u ∨ (v = V.nils ∧ ∃ e', T.known e' = true ∧ u = V.ro e' [])

inductive Rep (T : Tab) (P : Program) (w : World) (μ : Nat → Option Value) (ok : Nat → Prop) : V T.A → Value → Prop
  | int (k n) : Rep T P w μ ok (.int k n) (.int k n)
  | bool (b) : Rep T P w μ ok (.bool b) (.bool b)
  | str (s) : Rep T P w μ ok (.str s) (.string s)
  | nils : Rep T P w μ ok .nils (.slice none 0 0)
  | nul (c) (h : c.oneCell' = true) : Rep T P w μ ok (.nul c) c
  | unk (c) : Rep T P w μ ok .unk c
  | glob (g) : Rep T P w μ ok (.glob g) (.pointer (some ⟨g, 0, none⟩))
  | agg (l) (cs : Array Value) (hl : cs.size = l.length) (h : ∀ i v, l[i]? = some v → Rep T P w μ ok v (cs.getD i undef)) : Rep T P w μ ok (.agg l) (.agg cs)
  | tup (l) (cs : Array Value) (hl : cs.size = l.length) (h : ∀ i v, l[i]? = some v → Rep T P w μ ok v (cs.getD i undef)) : Rep T P w μ ok (.tup l) (.tuple cs)
  | fn (f l) (cs : Array Value) (hl : cs.size = l.length) (h : ∀ i v, l[i]? = some v → Rep T P w μ ok v (cs.getD i undef)) : Rep T P w μ ok (.fn f l) (.func (.func f) #[] cs)
  | meth (f l) (cs : Array Value) (hl : cs.size = l.length) (h : ∀ i v, l[i]? = some v → Rep T P w μ ok v (cs.getD i undef)) : Rep T P w μ ok (.meth f l) (.func (.func f) cs #[])
  | ro (e) (l : List (T.A e)) (a : Option Addr) (cap : Nat) (cf : Nat → Value) (hk : T.known e = true) (hcap : l.length ≤ cap) (hmax : cap ≤ maxLen)
      (ha : l ≠ [] → ∃ b o, a = some ⟨b, o, none⟩ ∧ ok b ∧ ∀ j, j < l.length * szT P e → w.cell? ⟨b, o + j, none⟩ = some (cf j))
      (h : ∀ j x i v, l[j]? = some x → (T.enc e x)[i]? = some v → Rep T P w μ ok v (cf (j * szT P e + i))) : Rep T P w μ ok (.ro e l) (.slice a l.length cap)
  | own (i c) (h : μ i = some c) : Rep T P w μ ok (.own i) c
  | ptr (i off b) (h : μ i = some (.pointer (some ⟨b, 0, none⟩))) : Rep T P w μ ok (.ptr i off) (.pointer (some ⟨b, off, none⟩))
  | elt (e i j off b o n cap) (h : μ i = some (.slice (some ⟨b, o, none⟩) n cap)) (hj : j < n) : Rep T P w μ ok (.elt e i j off) (.pointer (some ⟨b, o + (j * szT P e + off), none⟩))
  | rel (cs : List (V T.A)) (b o) (cf : Nat → Value) (hb : ok b) (hc : ∀ i, i < cs.length → w.cell? ⟨b, o + i, none⟩ = some (cf i)) (h : ∀ i v, cs[i]? = some v → Rep T P w μ ok v (cf i)) : Rep T P w μ ok (.rel cs) (.pointer (some ⟨b, o, none⟩))
  | mapr (i c) (h : μ i = some c) : Rep T P w μ ok (.mapr i) c

section
variable {T : Tab} {P : Program} {w w' : World} {μ μ' : Nat → Option Value} {ok ok' : Nat → Prop}

theorem Rep.mono {v : V T.A} {c : Value} (h : Rep T P w μ ok v c) (hok : ∀ b, ok b → ok' b ∧ w'.heap[b]? = w.heap[b]?) (hμ : ∀ i x, μ i = some x → μ' i = some x) : Rep T P w' μ' ok' v c := by
  induction h with
  | int k n => exact .int k n
  | bool b => exact .bool b
  | str s => exact .str s
  | nils => exact .nils
  | nul c h => exact .nul c h
  | unk c => exact .unk c
  | glob g => exact .glob g
  | agg l cs hl _ ih => exact .agg l cs hl ih
  | tup l cs hl _ ih => exact .tup l cs hl ih
  | fn f l cs hl _ ih => exact .fn f l cs hl ih
  | meth f l cs hl _ ih => exact .meth f l cs hl ih
  | ro e l a cap cf hk hcap hmax ha _ ih =>
    refine .ro e l a cap cf hk hcap hmax (fun hne => ?_) ih
    obtain ⟨b, o, h1, h2, h3⟩ := ha hne
    exact ⟨b, o, h1, (hok b h2).1, fun j hj => (World.cell?_of_block (hok b h2).2).trans (h3 j hj)⟩
  | own i c h => exact .own i c (hμ _ _ h)
  | ptr i off b h => exact .ptr i off b (hμ _ _ h)
  | elt e i j off b o n cap h hj => exact .elt e i j off b o n cap (hμ _ _ h) hj
  | rel cs b o cf hb hc _ ih => exact .rel cs b o cf (hok b hb).1 (fun i hi => (World.cell?_of_block (hok b hb).2).trans (hc i hi)) ih
  | mapr i c h => exact .mapr i c (hμ _ _ h)

theorem Rep.sub {v u : V T.A} {c : Value} (h : Rep T P w μ ok v c) (hs : v = u ∨ (v = .nils ∧ ∃ e', T.known e' = true ∧ u = .ro e' [])) : Rep T P w μ ok u c := by
  rcases hs with rfl | ⟨rfl, e', hk, rfl⟩
  · exact h
  · cases h
    exact .ro e' [] none 0 (fun _ => undef) hk (Nat.le_refl _) (Nat.zero_le _) (fun h => absurd rfl h) (fun j x i v hx => by simp at hx)

theorem Rep.oneCell {v : V T.A} {c : Value} (h : Rep T P w μ ok v c) (h1 : v.one = true) (hμ : ∀ i x, μ i = some x → x.oneCell' = true) : c.oneCell' = true := by
  cases h <;> first | rfl | (simp [V.one] at h1; done) | (exact hμ _ _ (by assumption)) | assumption

/-! lists -/
theorem look_nil {α : Type} (t : Nat) : look ([] : List (Nat × α)) t = none := rfl
theorem look_cons {α : Type} (p : Nat × α) (l : List (Nat × α)) (t : Nat) : look (p :: l) t = if p.1 = t then some p.2 else look l t := by
  show (match Nat.beq p.1 t with | true => some p.2 | false => look l t) = _
  by_cases h : p.1 = t
  · rw [if_pos h, h, Nat.beq_refl]
  · rw [if_neg h]
    have : Nat.beq p.1 t = false := by rw [Bool.eq_false_iff]; exact fun e => h (Nat.eq_of_beq_eq_true e)
    rw [this]
theorem beq_iff (a b : Nat) : Nat.beq a b = decide (a = b) := by
  by_cases h : a = b
  · subst h; simp [Nat.beq_refl]
  · rw [decide_eq_false h, Bool.eq_false_iff]; exact fun e => h (Nat.eq_of_beq_eq_true e)
theorem look_setk {α : Type} (l : List (Nat × α)) (t : Nat) (x : α) (u : Nat) : look (setk l t x) u = if u = t ∧ (look l t).isSome then some x else look l u := by
  induction l with
  | nil => simp [setk, look]
  | cons p l ih =>
    have e : setk (p :: l) t x = match Nat.beq p.1 t with | true => (t, x) :: l | false => p :: setk l t x := rfl
    rw [e, beq_iff, look_cons, look_cons]
    by_cases h : p.1 = t
    · subst h
      simp only [decide_true, look_cons]
      by_cases h2 : u = p.1
      · subst h2; simp
      · simp [h2, Ne.symm h2]
    · simp only [h, decide_false, look_cons, ih]
      by_cases h2 : p.1 = u
      · subst h2; simp [h]
      · simp [h2]
theorem look_delk {α : Type} (l : List (Nat × α)) (t u : Nat) : look (delk l t) u = if u = t then none else look l u := by
  induction l with
  | nil => simp [delk, look]
  | cons p l ih =>
    have e : delk (p :: l) t = match Nat.beq p.1 t with | true => delk l t | false => p :: delk l t := rfl
    rw [e, beq_iff]
    by_cases h : p.1 = t
    · simp only [h, decide_true, ih, look_cons]
      by_cases h2 : u = t
      · simp [h2]
      · simp [h2, Ne.symm h2]
    · simp only [h, decide_false, look_cons, ih]
      by_cases h2 : p.1 = u
      · subst h2; simp [h]
      · simp [h2]
theorem freeze_cons {A : Nat → Type} (hp : List (Nat × Blk A)) (i : Nat) (ids : List Nat) : freeze hp (i :: ids) = match look (freeze hp ids) i with | some b => setk (freeze hp ids) i b.freeze | none => freeze hp ids := rfl
theorem freeze_freeze {A : Nat → Type} (b : Blk A) : b.freeze.freeze = b.freeze := by cases b <;> rfl
theorem freeze_live {A : Nat → Type} (b : Blk A) : b.freeze.live = false := by cases b <;> rfl
theorem look_freeze {A : Nat → Type} (hp : List (Nat × Blk A)) (u : Nat) : ∀ ids : List Nat, look (freeze hp ids) u = (look hp u).map fun b => if u ∈ ids then b.freeze else b
  | [] => by simp [freeze]
  | i :: ids => by
    rw [freeze_cons]
    have ih := look_freeze hp u ids
    have ihi := look_freeze hp i ids
    cases h : look (freeze hp ids) i with
    | none =>
      simp only [ih]
      cases hu : look hp u with
      | none => rfl
      | some b =>
        by_cases h2 : u = i
        · subst h2; rw [ih, hu] at h; simp at h
        · simp [h2]
    | some b =>
      simp only [look_setk, ih]
      by_cases h2 : u = i
      · subst h2
        simp only [h, Option.isSome_some, and_self, if_true]
        rw [ih] at h
        cases hu : look hp u with
        | none => rw [hu] at h; simp at h
        | some c =>
          rw [hu] at h
          simp only [Option.map_some, Option.some.injEq] at h ⊢
          simp only [List.mem_cons, true_or, if_true]
          subst h
          split
          · exact freeze_freeze c
          · rfl
      · simp [h2]
end

/-- a world, and which of its blocks stay as they are -/
structure Wd where
  w : World
  old : Nat → Prop
  lt : ∀ b, old b → b < w.heap.size
def Wd.of (w : World) : Wd := ⟨w, fun b => b < w.heap.size, fun _ h => h⟩
structure BelowW (W0 : Wd) (w : World) : Prop where
  os : w.os = W0.w.os
  tape : w.tape = W0.w.tape
  output : w.output = W0.w.output
  size : W0.w.heap.size ≤ w.heap.size
  block : ∀ k, W0.old k → w.heap[k]? = W0.w.heap[k]?
theorem BelowW.of {w w' : World} (h : BelowW (.of w) w') : Below w.heap.size w w' := ⟨h.os, h.tape, h.output, h.size, h.block⟩
theorem BelowW.to {w w' : World} (h : Below w.heap.size w w') : BelowW (.of w) w' := ⟨h.os, h.tape, h.output, h.size, h.block⟩
theorem BelowW.new {W0 : Wd} {w : World} (h : BelowW W0 w) : ∀ k, w.heap.size ≤ k → ¬ W0.old k := fun k hk ho => by
  have := W0.lt k ho; have := h.size; omega
theorem BelowW.grown {W0 : Wd} {w w' : World} {row : Option Nat} (h : BelowW W0 w) (hg : w.grownBy w' row) (hr : ∀ k, row = some k → ¬ W0.old k) : BelowW W0 w' :=
  ⟨hg.os.trans h.os, hg.tape.trans h.tape, hg.output.trans h.output, Nat.le_trans h.size hg.size, fun k hk => (hg.block k (by have := W0.lt k hk; have := h.size; omega) (fun e => hr k e.symm hk)).trans (h.block k hk)⟩
/-! The heap of the call's own blocks -/
def blockOf : Value → Option Nat
  | .pointer (some a) => some a.block
  | .slice (some a) _ _ => some a.block
  | .map r => r
  | _ => none
def okM {A : Nat → Type} (hp : List (Nat × Blk A)) (μ : Nat → Option Value) (W0 : Wd) (okb : Nat → Prop) (w : World) (b : Nat) : Prop :=
  b < w.heap.size ∧ (¬ W0.old b ∨ okb b) ∧ ∀ i blk c, look hp i = some blk → blk.live = true → μ i = some c → blockOf c ≠ some b
/-- a row of the call's own: from some cell of its block on -/
def ownsR (w : World) (old : Nat → Prop) (e : TypeId) (size : Nat) (v : Value) (n : Nat) (xs : List Value) : Prop :=
  xs.length = n * size ∧
  ((v = .slice none 0 0 ∧ n = 0) ∨
   ∃ g o cap cur, v = .slice (some ⟨g, o, none⟩) n cap ∧ ¬ old g ∧ w.heap[g]? = some (.cells cur e (0, 0)) ∧ n ≤ cap ∧ cap ≤ maxLen ∧ o + cap * size ≤ cur.size ∧ (cur.toList.drop o).take (n * size) = xs)
theorem ownsR_of {w : World} {base : Nat} {old : Nat → Prop} {e : TypeId} {size : Nat} {v : Value} {n : Nat} {xs : List Value} (hb : ∀ g, base ≤ g → ¬ old g) (h : w.ownsRow base e size v n xs) : ownsR w old e size v n xs :=
  ⟨h.1, h.2.imp id fun ⟨g, cap, cur, h1, h2, h3, h4, h5, h6, h7⟩ => ⟨g, 0, cap, cur, h1, hb g h2, h3, h4, h5, by rw [Nat.zero_add]; exact Nat.le_of_eq h6.symm, by rw [List.drop_zero]; exact h7⟩⟩
theorem ownsR.cellAt {w : World} {base : Nat → Prop} {e : TypeId} {size : Nat} {n : Nat} {xs : List Value} {g o cap : Nat} (h : ownsR w base e size (.slice (some ⟨g, o, none⟩) n cap) n xs) (j : Nat) (hj : j < n * size) : w.cell? ⟨g, o + j, none⟩ = xs[j]? := by
  rcases h.2 with ⟨h', _⟩ | ⟨g', o', cap', cur, h', _, hg, _, _, _, htake⟩
  · simp at h'
  · simp only [Value.slice.injEq, Option.some.injEq, Addr.mk.injEq, and_true, true_and] at h'
    obtain ⟨⟨rfl, rfl⟩, rfl⟩ := h'
    rw [cell_of_row w g (o + j) cur e (0, 0) hg, ← htake, List.getElem?_take, if_pos hj, List.getElem?_drop]
    simp
/-- the entries of a map as values; those of known kinds only where they are known -/
noncomputable def ML.ents (T : Tab) (P : Program) : ML T.A → List (V T.A × V T.A)
  | .pl l => l
  | .ty kt vt l => (match goodT T kt vt with | true => l.map (encP T P kt vt) | false => l.map fun _ => (.unk, .unk))
inductive BlkRel (T : Tab) (P : Program) (W0 : Wd) (w : World) (μ : Nat → Option Value) (ok : Nat → Prop) (i : Nat) : Blk T.A → Prop
  | var (l z b) (cs : Array Value) (e : Nat) (hμ : μ i = some (.pointer (some ⟨b, 0, none⟩))) (hb : ¬ W0.old b) (hh : w.heap[b]? = some (.cells cs e (0, 0))) (hl : cs.size = l.length)
      (h : ∀ j v, l[j]? = some v → Rep T P w μ ok v (cs.getD j undef)) : BlkRel T P W0 w μ ok i (.var l z)
  | row (e) (l : List (T.A e)) (z) (c : Value) (cs : List Value) (hk : T.known e = true) (hμ : μ i = some c) (ho : ownsR w W0.old e (szT P e) c l.length cs)
      (h : ∀ j x q v, l[j]? = some x → (T.enc e x)[q]? = some v → Rep T P w μ ok v (cs.getD (j * szT P e + q) undef)) : BlkRel T P W0 w μ ok i (.row e l z)
  | map (l z r) (es : Array MapEntry) (n : Nat) (hμ : μ i = some (.map (some r))) (hb : ¬ W0.old r) (hh : w.heap[r]? = some (.map es n)) (hl : es.size = (l.ents T P).length)
      (h : ∀ (j : Nat) (p : V T.A × V T.A), (l.ents T P)[j]? = some p → ∃ e : MapEntry, es[j]? = some e ∧ Rep T P w μ ok p.1 e.key ∧ Rep T P w μ ok p.2 e.val) : BlkRel T P W0 w μ ok i (.map l z)
def EnvRel (T : Tab) (P : Program) (w : World) (μ : Nat → Option Value) (ok : Nat → Prop) (env : List (Nat × V T.A)) (a : Act) : Prop :=
  a.defers = [] ∧ ∀ t v, look env t = some v → Rep T P w μ ok v (a.tmps.getD t undef)
def FR (T : Tab) (P : Program) (w : World) (μ : Nat → Option Value) (ok : Nat → Prop) : List (List (Nat × V T.A)) → List Act → Prop
  | [], [] => True
  | e :: es, a :: as => EnvRel T P w μ ok e a ∧ FR T P w μ ok es as
  | _, _ => False
structure RelM (T : Tab) (P : Program) (W0 : Wd) (okb : Nat → Prop) (μ : Nat → Option Value) (st : St T.A) (acts : List Act) (w : World) : Prop where
  below : BelowW W0 w
  dom : ∀ i c, μ i = some c → i < st.nx ∧ c.oneCell' = true
  blk : ∀ i b, look st.hp i = some b → BlkRel T P W0 w μ (okM st.hp μ W0 okb w) i b
  inj : ∀ i j b b' c d k, look st.hp i = some b → look st.hp j = some b' → μ i = some c → μ j = some d → blockOf c = some k → blockOf d = some k → i = j
  fr : FR T P w μ (okM st.hp μ W0 okb w) (st.env :: st.stk) acts

section
variable {T : Tab} {P : Program} {W0 : Wd} {w w' : World} {okb : Nat → Prop} {μ μ' : Nat → Option Value} {ok ok' : Nat → Prop}
theorem EnvRel.mono {env : List (Nat × V T.A)} {a : Act} (h : EnvRel T P w μ ok env a) (hok : ∀ b, ok b → ok' b ∧ w'.heap[b]? = w.heap[b]?) (hμ : ∀ i x, μ i = some x → μ' i = some x) : EnvRel T P w' μ' ok' env a :=
  ⟨h.1, fun t v hv => (h.2 t v hv).mono hok hμ⟩
theorem FR.mono (hok : ∀ b, ok b → ok' b ∧ w'.heap[b]? = w.heap[b]?) (hμ : ∀ i x, μ i = some x → μ' i = some x) : ∀ {es : List (List (Nat × V T.A))} {as : List Act}, FR T P w μ ok es as → FR T P w' μ' ok' es as
  | [], [], _ => trivial
  | e :: es, a :: as, h => ⟨h.1.mono hok hμ, FR.mono hok hμ h.2⟩
  | [], _ :: _, h => h.elim
  | _ :: _, [], h => h.elim
theorem BlkRel.mono {i : Nat} {b : Blk T.A} (h : BlkRel T P W0 w μ ok i b) (hok : ∀ b, ok b → ok' b ∧ w'.heap[b]? = w.heap[b]?) (hμ : ∀ i x, μ i = some x → μ' i = some x)
    (hb : ∀ c k, μ i = some c → blockOf c = some k → k < w.heap.size → w'.heap[k]? = w.heap[k]?) : BlkRel T P W0 w' μ' ok' i b := by
  cases h with
  | var l z b cs e hm hB hh hl h =>
    have hlt : b < w.heap.size := (Array.getElem?_eq_some_iff.1 hh).1
    exact .var l z b cs e (hμ _ _ hm) hB ((hb _ b hm rfl hlt).trans hh) hl fun j v hv => (h j v hv).mono hok hμ
  | row e l z c cs hk hm ho h =>
    refine .row e l z c cs hk (hμ _ _ hm) ⟨ho.1, ?_⟩ fun j x q v hx hv => (h j x q v hx hv).mono hok hμ
    rcases ho.2 with h' | ⟨g, o, cap, cur, rfl, hB, hh, h3, h4, h5, h6⟩
    · exact .inl h'
    · have hlt : g < w.heap.size := (Array.getElem?_eq_some_iff.1 hh).1
      exact .inr ⟨g, o, cap, cur, rfl, hB, (hb _ g hm rfl hlt).trans hh, h3, h4, h5, h6⟩
  | map l z r es n hm hB hh hl h =>
    have hlt : r < w.heap.size := (Array.getElem?_eq_some_iff.1 hh).1
    exact .map l z r es n (hμ _ _ hm) hB ((hb _ r hm rfl hlt).trans hh) hl fun j p hp => by
      obtain ⟨e, h1, h2, h3⟩ := h j p hp
      exact ⟨e, h1, h2.mono hok hμ, h3.mono hok hμ⟩
theorem BlkRel.mu {i : Nat} {b : Blk T.A} (h : BlkRel T P W0 w μ ok i b) : ∃ c, μ i = some c := by cases h <;> exact ⟨_, by assumption⟩
theorem BlkRel.block {i : Nat} {b : Blk T.A} {c : Value} {k : Nat} (h : BlkRel T P W0 w μ ok i b) (hc : μ i = some c) (hk : blockOf c = some k) : ¬ W0.old k ∧ k < w.heap.size := by
  cases h with
  | var l z b cs e hm hB hh hl h =>
    rw [hm] at hc; obtain rfl := Option.some.inj hc
    simp only [blockOf, Option.some.injEq] at hk; subst hk
    exact ⟨hB, (Array.getElem?_eq_some_iff.1 hh).1⟩
  | row e l z c' cs hkn hm ho h =>
    rw [hm] at hc; obtain rfl := Option.some.inj hc
    rcases ho.2 with ⟨rfl, _⟩ | ⟨g, o, cap, cur, rfl, hB, hh, h3, h4, h5, h6⟩
    · simp [blockOf] at hk
    · simp only [blockOf, Option.some.injEq] at hk; subst hk
      exact ⟨hB, (Array.getElem?_eq_some_iff.1 hh).1⟩
  | map l z r es n hm hB hh hl h =>
    rw [hm] at hc; obtain rfl := Option.some.inj hc
    simp only [blockOf, Option.some.injEq] at hk; subst hk
    exact ⟨hB, (Array.getElem?_eq_some_iff.1 hh).1⟩

/-- THE STEP: the heap, the numbers, the world have moved on; each block that is named is either as it was, or said anew. -/
theorem RelM.step {st : St T.A} {acts : List Act} (H : RelM T P W0 okb μ st acts w) (hp' : List (Nat × Blk T.A)) (nx' : Nat) (g : Option Nat)
    (hg : ∀ k, g = some k → ¬ W0.old k ∧ ∃ i b c, look st.hp i = some b ∧ b.live = true ∧ μ i = some c ∧ blockOf c = some k)
    (hw : w.grownBy w' g) (hμ : ∀ i x, μ i = some x → μ' i = some x) (hdom : ∀ i c, μ' i = some c → i < nx' ∧ c.oneCell' = true)
    (hok : ∀ b, okM st.hp μ W0 okb w b → ∀ i blk c, look hp' i = some blk → blk.live = true → μ' i = some c → blockOf c ≠ some b)
    (hblk : (∀ b, okM st.hp μ W0 okb w b → okM hp' μ' W0 okb w' b ∧ w'.heap[b]? = w.heap[b]?) → ∀ i b, look hp' i = some b → (∃ b0 c, look st.hp i = some b0 ∧ (b = b0 ∨ b = b0.freeze) ∧ μ i = some c ∧ ∀ k, g = some k → blockOf c ≠ some k) ∨ BlkRel T P W0 w' μ' (okM hp' μ' W0 okb w') i b)
    (hinj : ∀ i j b b' c d k, look hp' i = some b → look hp' j = some b' → μ' i = some c → μ' j = some d → blockOf c = some k → blockOf d = some k → i = j) :
    RelM T P W0 okb μ' { st with hp := hp', nx := nx' } acts w' ∧ (∀ b, okM st.hp μ W0 okb w b → okM hp' μ' W0 okb w' b ∧ w'.heap[b]? = w.heap[b]?) := by
  have hmono : ∀ b, okM st.hp μ W0 okb w b → okM hp' μ' W0 okb w' b ∧ w'.heap[b]? = w.heap[b]? := fun b hb => by
    refine ⟨⟨Nat.lt_of_lt_of_le hb.1 hw.size, hb.2.1, hok b hb⟩, hw.block b hb.1 fun e => ?_⟩
    obtain ⟨_, i, blk, c, h1, h2, h3, h4⟩ := hg b e.symm
    exact hb.2.2 i blk c h1 h2 h3 h4
  refine ⟨⟨H.below.grown hw (fun k hk => (hg k hk).1), hdom, fun i b hb => ?_, hinj, FR.mono hmono hμ H.fr⟩, hmono⟩
  rcases hblk hmono i b hb with ⟨b0, c, h1, h2, h3, h4⟩ | h
  · have h5 : BlkRel T P W0 w' μ' (okM hp' μ' W0 okb w') i b0 := (H.blk i b0 h1).mono hmono hμ fun c' k hc' hk hlt => by
      rw [h3] at hc'; obtain rfl := Option.some.inj hc'
      exact hw.block k hlt fun e => h4 k e.symm hk
    rcases h2 with rfl | rfl
    · exact h5
    · cases h5 with
      | var l z b cs e hm hB hh hl h => exact .var l true b cs e hm hB hh hl h
      | row e l z c cs hk hm ho h => exact .row e l true c cs hk hm ho h
      | map l z r es n hm hB hh hl h => exact .map l true r es n hm hB hh hl h
  · exact h
end
end Go.Proofs.YtpbpebjfglfjfaaGreatDoor.X
