/-
  ARGUMENTS OPENED, KIND BY KIND: what reads as data of a type is of the kind that the walks speak of: numbers, texts, truths, structs of these, slices of these.
-/
import Derived.Test.YtjjbdgngncgikaaGreatDoorV0
import Derived.Deep.Slices
import Derived.ChangeArms
namespace Go.Proofs.YtjjbdgngncgikaaGreatDoor
open Go Go.RowKit Go.Proofs.YtjjbdgngncgikaaGreatDoorW.PrintWords Go.Proofs.YtjjbdgngncgikaaGreatDoorW.PrintMore
set_option linter.unusedVariables false
set_option linter.unusedSimpArgs false
/-- Whatever reads as data of type t is of kind d, and its value is such. -/
def Opens {α : Type} (d : Kd α) (P : Program) (t : TypeId) (Q : α → Prop) : Prop :=
  ∀ {H : Type} (enc : TypeId × Value → H) (w : World) (base : Nat) (spare : Nat → Bool) (held : Bool) (fuel : Nat) (cs : List Value) (x : DataW H × List MemPlace), DataW.trod enc P w base spare held fuel t cs = some x → ∃ v, d.K w v cs ∧ Q v
theorem opens_int {P : Program} {t : TypeId} {k : IntKind} (ht : P.underlying t = some (.int k)) : Opens (Kd.int k) P t (fun n => (Lit.int k n).wf = true) := by
  intro H enc w base spare held fuel cs x h
  obtain ⟨n, h1, _, h2⟩ := DataW.trod_int ht h
  exact ⟨n, h1, h2⟩
theorem opens_string {P : Program} {t : TypeId} (ht : P.underlying t = some .string) : Opens Kd.string P t (fun s => s.size ≤ maxLen) := by
  intro H enc w base spare held fuel cs x h
  obtain ⟨n, h1, _, h2⟩ := DataW.trod_string ht h
  exact ⟨n, h1, h2⟩
theorem opens_bool {P : Program} {t : TypeId} (ht : P.underlying t = some .bool) : Opens Kd.bool P t (fun _ => True) := by
  intro H enc w base spare held fuel cs x h
  obtain ⟨n, h1, _⟩ := DataW.trod_bool ht h
  exact ⟨n, h1, trivial⟩
theorem opens_iso {α β : Type} {d : Kd α} {P : Program} {t : TypeId} {Q : α → Prop} {f : β → α} (g : α → β) (hfg : ∀ a, f (g a) = a) (h : Opens d P t Q) : Opens (Kd.iso d f) P t (fun b => Q (f b)) := by
  intro H enc w base spare held fuel cs x hx
  obtain ⟨v, h1, h2⟩ := h enc w base spare held fuel cs x hx
  exact ⟨g v, by show d.K w (f (g v)) cs; rw [hfg]; exact h1, by show Q (f (g v)); rw [hfg]; exact h2⟩
/-- The fields from one on: the cells from its offset on. -/
def OpensF {α : Type} (d : Kd α) (P : Program) (l : List Field) (off : Nat) (Q : α → Prop) : Prop :=
  ∀ {H : Type} (enc : TypeId × Value → H) (w : World) (base : Nat) (spare : Nat → Bool) (held : Bool) (fuel : Nat) (cs : List Value), (∀ f ∈ l, ∃ x, DataW.trod enc P w base spare held fuel f.type ((cs.drop f.offset).take (P.cellsOf f.type)) = some x) → ∃ v, d.K w v ((cs.drop off).take d.sz) ∧ Q v
theorem opensF_one {α : Type} {d : Kd α} {P : Program} {f : Field} {off : Nat} {Q : α → Prop} (ho : f.offset = off) (hc : P.cellsOf f.type = d.sz) (h : Opens d P f.type Q) : OpensF d P [f] off Q := by
  intro H enc w base spare held fuel cs hf
  obtain ⟨x, hx⟩ := hf f (by simp)
  rw [ho, hc] at hx
  exact h enc w base spare held fuel _ x hx
theorem opensF_cons {α β : Type} {d : Kd α} {d2 : Kd β} {P : Program} {f : Field} {l : List Field} {off : Nat} {Q : α → Prop} {Q2 : β → Prop} (ho : f.offset = off) (hc : P.cellsOf f.type = d.sz) (h : Opens d P f.type Q) (h2 : OpensF d2 P l (off + d.sz) Q2) :
    OpensF (Kd.pair d d2) P (f :: l) off (fun v => Q v.1 ∧ Q2 v.2) := by
  intro H enc w base spare held fuel cs hf
  obtain ⟨x, hx⟩ := hf f (by simp)
  rw [ho, hc] at hx
  obtain ⟨a, ha, qa⟩ := h enc w base spare held fuel _ x hx
  obtain ⟨b, hb, qb⟩ := h2 enc w base spare held fuel cs (fun g hg => hf g (List.mem_cons_of_mem _ hg))
  refine ⟨(a, b), ⟨_, _, ?_, ha, hb⟩, qa, qb⟩
  show (cs.drop off).take (d.sz + d2.sz) = _
  rw [List.take_add, List.drop_drop]
theorem opens_struct {α : Type} {d : Kd α} {P : Program} {t : TypeId} {fs : Array Field} {Q : α → Prop} (ht : P.underlying t = some (.struct fs)) (hc : P.cellsOf t = d.sz) (h : OpensF d P fs.toList 0 Q) : Opens d P t Q := by
  intro H enc w base spare held fuel cs x hx
  obtain ⟨xs, n, _, _, hl, hn, hf⟩ := DataW.trod_struct ht hx
  have := h enc w base spare held n cs (fun f hm => by
    obtain ⟨i, hi, e⟩ := List.getElem_of_mem hm
    have hi' : i < fs.size := by simpa using hi
    have e2 : fs[i]? = some f := by rw [Array.getElem?_eq_getElem hi', ← e]; simp
    refine ⟨xs[i]'(by omega), ?_⟩
    rw [hf i f e2, List.getElem?_eq_getElem (by omega)])
  rw [List.drop_zero, List.take_of_length_le (by omega)] at this
  exact this
theorem pick_each {α : Type} {R : α → List Value → Prop} {p : α → Prop} : ∀ (n : Nat) (g : Nat → Option (List Value)) (_ : ∀ i, i < n → ∃ c v, g i = some c ∧ R v c ∧ p v), ∃ xs : List α, xs.length = n ∧ (∀ v ∈ xs, p v) ∧ ∀ j v, xs[j]? = some v → ∃ c, g j = some c ∧ R v c
  | 0, _, _ => ⟨[], rfl, by simp, fun j v h => by simp at h⟩
  | n + 1, g, h => by
    obtain ⟨xs, hl, hp, hx⟩ := pick_each n g (fun i hi => h i (by omega))
    obtain ⟨c, v, hg, hr, hv⟩ := h n (by omega)
    refine ⟨xs ++ [v], by simp [hl], fun u hu => ?_, fun j u hj => ?_⟩
    · rcases List.mem_append.1 hu with hu | hu
      · exact hp u hu
      · rw [List.mem_singleton.1 hu]; exact hv
    · by_cases hjn : j < n
      · rw [List.getElem?_append_left (by omega)] at hj
        exact hx j u hj
      · have hlt : j < (xs ++ [v]).length := (List.getElem?_eq_some_iff.1 hj).1
        have : j = n := by simp [hl] at hlt; omega
        subst this
        rw [List.getElem?_append_right (by omega), hl] at hj
        simp at hj
        subst hj
        exact ⟨c, hg, hr⟩
/-- A slice, opened: its elements, and where they lie. -/
theorem slice_row {α : Type} {d : Kd α} {P : Program} {t e : TypeId} {Q : α → Prop} (ht : P.underlying t = some (.slice e)) (hc : P.cellsOf e = d.sz) (h : Opens d P e Q)
    {H : Type} {enc : TypeId × Value → H} {w : World} {base : Nat} {spare : Nat → Bool} {held : Bool} {fuel : Nat} {cs : List Value} {x : DataW H × List MemPlace} (hx : DataW.trod enc P w base spare held fuel t cs = some x) :
    ∃ (A : Option Addr) (c : Nat) (xs : List α), cs = [.slice A xs.length c] ∧ xs.length ≤ c ∧ c ≤ maxLen ∧ d.C w A xs.length xs ∧ ∀ v ∈ xs, Q v := by
  rcases Go.Deep.open_slice ht hx with ⟨rfl, _⟩ | ⟨a, len, cap, m, n, D, Pl, rfl, hb, hl, hm, hmm, _, hel⟩
  · exact ⟨none, 0, [], rfl, Nat.le_refl _, Nat.zero_le _, ⟨rfl, Nat.zero_le _, fun h => absurd h (by simp)⟩, by simp⟩
  · have hlm : len ≤ m := by rw [hmm]; split <;> omega
    obtain ⟨xs, hxl, hq, hxs⟩ := pick_each (R := fun v c => c.length = d.sz ∧ d.K w v c) (p := Q) len (fun i => w.cells? base (a.add (i * P.cellsOf e)) (P.cellsOf e)) (fun i hi => by
      obtain ⟨cs', h1, h2⟩ := hel i (by omega)
      obtain ⟨v, k1, k2⟩ := h enc w base spare held n cs' _ h2
      exact ⟨cs', v, h1, ⟨d.K_len k1, k1⟩, k2⟩)
    have hmx : maxLen ≤ 9223372036854775807 := by decide
    refine ⟨some a, cap, xs, by rw [hxl], by omega, hm, ⟨rfl, by omega, fun _ => ⟨a, rfl, fun j p hj => ?_⟩⟩, hq⟩
    obtain ⟨c, hg, hcl, hk⟩ := hxs j p hj
    refine ⟨c, hcl, hk, fun i u hu => ?_⟩
    obtain ⟨_, hcl2, hcell⟩ := World.cells?_some hg
    have hi : i < P.cellsOf e := by rw [← hcl2]; exact (List.getElem?_eq_some_iff.1 hu).1
    have := hcell i hi
    rw [hu, Addr.add_add] at this
    rw [← hc]
    exact this
theorem opens_slice {α : Type} {d : Kd α} {P : Program} {t e : TypeId} {Q : α → Prop} (q : Nat) (ht : P.underlying t = some (.slice e)) (hc : P.cellsOf e = d.sz) (h : Opens d P e Q) : Opens (Kd.slice q d) P t (fun xs => xs.length ≤ maxLen ∧ ∀ x ∈ xs, Q x) := by
  intro H enc w base spare held fuel cs x hx
  obtain ⟨A, c, xs, h1, h2, h3, h4, h5⟩ := slice_row ht hc h hx
  exact ⟨xs, ⟨A, c, h1, h2, h4⟩, by omega, h5⟩
/-- An argument that is a slice: its elements. -/
theorem arg_slice {α : Type} {d : Kd α} {P : Program} {t e : TypeId} {Q : α → Prop} (ht : P.underlying t = some (.slice e)) (hc : P.cellsOf e = d.sz) (h : Opens d P e Q)
    {H : Type} {enc : TypeId × Value → H} {w : World} {base : Nat} {spare : Nat → Bool} {held : Bool} {a : Option Addr} {len cap : Nat} {y : DataW H} {p : List MemPlace} (hx : DataW.Trod enc P w base spare held t (.slice a len cap) y p) :
    ∃ xs : List α, xs.length = len ∧ len ≤ cap ∧ cap ≤ maxLen ∧ d.C w a xs.length xs ∧ ∀ v ∈ xs, Q v := by
  obtain ⟨fuel, hf⟩ := hx
  obtain ⟨A, c, xs, h1, h2, h3, h4, h5⟩ := slice_row ht hc h hf
  simp [Value.cells] at h1
  obtain ⟨rfl, rfl, rfl⟩ := h1
  exact ⟨xs, rfl, h2, h3, h4, h5⟩
end Go.Proofs.YtjjbdgngncgikaaGreatDoor
