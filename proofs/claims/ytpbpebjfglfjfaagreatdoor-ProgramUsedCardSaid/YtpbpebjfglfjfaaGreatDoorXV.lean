/-
  ARGUMENTS OPENED for the executor, kind by kind: numbers, texts, truths, structs of these, slices of these.
-/
import Derived.Test.YtpbpebjfglfjfaaGreatDoorXR
import Derived.Deep.Slices
import Derived.ChangeArms
import Derived.SizedLaws
set_option autoImplicit false
set_option linter.unusedVariables false
set_option linter.unusedSimpArgs false
set_option maxRecDepth 100000
namespace Go.Proofs.YtpbpebjfglfjfaaGreatDoor.X
open Go Go.Proofs Go.RowKit Go.Proofs.YtpbpebjfglfjfaaGreatDoor
abbrev RepW (w : World) (v : VT) (c : Value) : Prop := Rep TT Tryz.prog w (fun _ => none) (fun b => b < w.heap.size) v c
def RepL (w : World) (vs : List VT) (cs : List Value) : Prop := cs.length = vs.length ∧ ∀ (i : Nat) (v : VT), vs[i]? = some v → RepW w v (cs.getD i undef)
theorem RepL.one {w : World} {v : VT} {c : Value} (h : RepW w v c) : RepL w [v] [c] := ⟨rfl, fun i u hu => by
  cases i with
  | zero => obtain rfl := Option.some.inj hu; exact h
  | succ i => cases hu⟩
theorem RepL.get0 {w : World} {v : VT} {c : Value} (h : RepL w [v] [c]) : RepW w v c := h.2 0 v rfl
theorem RepL.app {w : World} {a b : List VT} {x y : List Value} (h : RepL w a x) (k : RepL w b y) : RepL w (a ++ b) (x ++ y) := by
  refine ⟨by simp [h.1, k.1], fun i v hv => ?_⟩
  by_cases hi : i < a.length
  · rw [List.getElem?_append_left hi] at hv
    have := h.2 i v hv
    rw [List.getD_eq_getElem?_getD, List.getElem?_append_left (by rw [h.1]; exact hi), ← List.getD_eq_getElem?_getD]
    exact this
  · rw [List.getElem?_append_right (by omega)] at hv
    have := k.2 _ v hv
    rw [List.getD_eq_getElem?_getD, List.getElem?_append_right (by rw [h.1]; omega), h.1, ← List.getD_eq_getElem?_getD]
    exact this
/-- Whatever reads as data of type t is told by f of some x, and x is such. -/
def OpX {α : Type} (f : α → List VT) (t : TypeId) (Q : α → Prop) : Prop :=
  ∀ {H : Type} (enc : TypeId × Value → H) (w : World) (base : Nat) (spare : Nat → Bool) (held : Bool) (fuel : Nat) (cs : List Value) (x : DataW H × List MemPlace), DataW.trod enc Tryz.prog w base spare held fuel t cs = some x → ∃ v, RepL w (f v) cs ∧ Q v
theorem opx_int {t : TypeId} {k : IntKind} (ht : Tryz.prog.underlying t = some (.int k)) : OpX (fun n : Int => [.int k n]) t (fun n => (Lit.int k n).wf = true) := by
  intro H enc w base spare held fuel cs x h
  obtain ⟨n, rfl, _, h2⟩ := DataW.trod_int ht h
  exact ⟨n, .one (.int _ _), h2⟩
theorem opx_string {t : TypeId} (ht : Tryz.prog.underlying t = some .string) : OpX (fun s : ByteArray => [.str s]) t (fun s => s.size ≤ maxLen) := by
  intro H enc w base spare held fuel cs x h
  obtain ⟨n, rfl, _, h2⟩ := DataW.trod_string ht h
  exact ⟨n, .one (.str _), h2⟩
theorem opx_bool {t : TypeId} (ht : Tryz.prog.underlying t = some .bool) : OpX (fun b : Bool => [.bool b]) t (fun _ => True) := by
  intro H enc w base spare held fuel cs x h
  obtain ⟨n, rfl, _⟩ := DataW.trod_bool ht h
  exact ⟨n, .one (.bool _), trivial⟩
theorem opx_iso {α β : Type} {f : α → List VT} {t : TypeId} {Q : α → Prop} {f2 : β → List VT} (h : OpX f t Q) (g : α → β) (u : β → α) (hu : ∀ a, u (g a) = a) (hfg : ∀ a, f2 (g a) = f a) : OpX f2 t (fun b => Q (u b)) := by
  intro H enc w base spare held fuel cs x hx
  obtain ⟨v, h1, h2⟩ := h enc w base spare held fuel cs x hx
  exact ⟨g v, by rw [hfg]; exact h1, by show Q (u (g v)); rw [hu]; exact h2⟩
/-- The fields from one on: the cells from its offset on. -/
def OpXF {α : Type} (f : α → List VT) (l : List Field) (off n : Nat) (Q : α → Prop) : Prop :=
  ∀ {H : Type} (enc : TypeId × Value → H) (w : World) (base : Nat) (spare : Nat → Bool) (held : Bool) (fuel : Nat) (cs : List Value), (∀ g ∈ l, ∃ x, DataW.trod enc Tryz.prog w base spare held fuel g.type ((cs.drop g.offset).take (Tryz.prog.cellsOf g.type)) = some x) → ∃ v, RepL w (f v) ((cs.drop off).take n) ∧ Q v
theorem opxF_one {α : Type} {f : α → List VT} {g : Field} {off n : Nat} {Q : α → Prop} (ho : g.offset = off) (hc : Tryz.prog.cellsOf g.type = n) (h : OpX f g.type Q) : OpXF f [g] off n Q := by
  intro H enc w base spare held fuel cs hf
  obtain ⟨x, hx⟩ := hf g (by simp)
  rw [ho, hc] at hx
  exact h enc w base spare held fuel _ x hx
theorem opxF_cons {α β : Type} {f : α → List VT} {f2 : β → List VT} {g : Field} {l : List Field} {off n m : Nat} {Q : α → Prop} {Q2 : β → Prop} (ho : g.offset = off) (hc : Tryz.prog.cellsOf g.type = n) (h : OpX f g.type Q) (h2 : OpXF f2 l (off + n) m Q2) :
    OpXF (fun v : α × β => f v.1 ++ f2 v.2) (g :: l) off (n + m) (fun v => Q v.1 ∧ Q2 v.2) := by
  intro H enc w base spare held fuel cs hf
  obtain ⟨x, hx⟩ := hf g (by simp)
  rw [ho, hc] at hx
  obtain ⟨a, ha, qa⟩ := h enc w base spare held fuel _ x hx
  obtain ⟨b, hb, qb⟩ := h2 enc w base spare held fuel cs (fun k hk => hf k (List.mem_cons_of_mem _ hk))
  refine ⟨(a, b), ?_, qa, qb⟩
  have e : (cs.drop off).take (n + m) = (cs.drop off).take n ++ (cs.drop (off + n)).take m := by rw [List.take_add, List.drop_drop]
  rw [e]
  exact ha.app hb
theorem opx_struct {α : Type} {f : α → List VT} {t : TypeId} {fs : Array Field} {n : Nat} {Q : α → Prop} (ht : Tryz.prog.underlying t = some (.struct fs)) (hc : Tryz.prog.cellsOf t = n) (h : OpXF f fs.toList 0 n Q) : OpX f t Q := by
  intro H enc w base spare held fuel cs x hx
  obtain ⟨xs, m, _, _, hl, hn, hf⟩ := DataW.trod_struct ht hx
  have := h enc w base spare held m cs (fun g hm => by
    obtain ⟨i, hi, e⟩ := List.getElem_of_mem hm
    have hi' : i < fs.size := by simpa using hi
    have e2 : fs[i]? = some g := by rw [Array.getElem?_eq_getElem hi', ← e]; simp
    refine ⟨xs[i]'(by omega), ?_⟩
    rw [hf i g e2, List.getElem?_eq_getElem (by omega)])
  rw [List.drop_zero, List.take_of_length_le (by omega)] at this
  exact this
theorem pick_eachX {α : Type} {R : Nat → α → Prop} : ∀ (n : Nat) (_ : ∀ i, i < n → ∃ v, R i v), ∃ xs : List α, xs.length = n ∧ ∀ j v, xs[j]? = some v → R j v
  | 0, _ => ⟨[], rfl, fun j v h => by simp at h⟩
  | n + 1, h => by
    obtain ⟨xs, hl, hx⟩ := pick_eachX n (fun i hi => h i (by omega))
    obtain ⟨v, hv⟩ := h n (by omega)
    refine ⟨xs ++ [v], by simp [hl], fun j u hj => ?_⟩
    by_cases hjn : j < n
    · rw [List.getElem?_append_left (by omega)] at hj
      exact hx j u hj
    · have hlt : j < (xs ++ [v]).length := (List.getElem?_eq_some_iff.1 hj).1
      have : j = n := by simp [hl] at hlt; omega
      subst this
      rw [List.getElem?_append_right (by omega), hl] at hj
      simp at hj
      subst hj
      exact hv
theorem opx_slice (e : Nat) {t : TypeId} {Q : At e → Prop} (ht : Tryz.prog.underlying t = some (.slice e)) (hk : knownT e = true) (h : OpX (encT e) e Q) : OpX (fun xs : List (At e) => [.ro e xs]) t (fun xs => xs.length ≤ maxLen ∧ ∀ x ∈ xs, Q x) := by
  intro H enc w base spare held fuel cs x hx
  rcases Go.Deep.open_slice ht hx with ⟨rfl, _⟩ | ⟨a, len, cap, m, n, D, Pl, rfl, hb, hl, hm, hmm, _, hel⟩
  · exact ⟨[], .one (Rep.ro (T := TT) e [] none 0 (fun _ => undef) hk (Nat.le_refl _) (Nat.zero_le _) (fun h => absurd rfl h) (fun j x i v hx => by simp at hx)), Nat.zero_le _, by simp⟩
  · have hlm : len ≤ m := by rw [hmm]; split <;> omega
    have hz : 0 < szT Tryz.prog e := TT_ok.size e hk
    obtain ⟨xs, hxl, hxs⟩ := pick_eachX (α := At e) (R := fun i v => ∃ c, w.cells? base (a.add (i * Tryz.prog.cellsOf e)) (Tryz.prog.cellsOf e) = some c ∧ RepL w (encT e v) c ∧ Q v) len (fun i hi => by
      obtain ⟨cs', h1, h2⟩ := hel i (by omega)
      obtain ⟨v, k1, k2⟩ := h enc w base spare held n cs' _ h2
      exact ⟨v, cs', h1, k1, k2⟩)
    have hlen : ∀ x : At e, (encT e x).length = szT Tryz.prog e := fun x => TT_ok.len e x hk
    have hs : xs ≠ [] → a.spot = none := fun hne => by
      obtain ⟨x, l, rfl⟩ := List.exists_cons_of_ne_nil hne
      obtain ⟨c, h1, h2, _⟩ := hxs 0 x rfl
      obtain ⟨_, h3, h4⟩ := World.cells?_some h1
      have h5 := h4 0 (by rw [← h3, h2.1, hlen]; exact hz)
      rw [List.getElem?_eq_getElem (by rw [h2.1, hlen]; exact hz), Nat.zero_mul] at h5
      unfold Addr.add at h5
      rw [if_pos rfl, if_pos rfl] at h5
      unfold World.cell? at h5
      split at h5
      · split at h5
        · cases h5
        · rename_i hn; simpa using hn
      · cases h5
    have hadd : a.spot = none → ∀ k, a.add k = ⟨a.block, a.off + k, none⟩ := fun h0 k => by
      unfold Addr.add
      split
      · rename_i hk0; subst hk0; cases a; cases h0; rfl
      · rfl
    have hcell : ∀ (j : Nat) (x : At e), xs[j]? = some x → ∀ i, i < szT Tryz.prog e → ∃ c, w.cell? ⟨a.block, a.off + (j * szT Tryz.prog e + i), none⟩ = some c ∧ ∀ v, (encT e x)[i]? = some v → RepW w v c := fun j x hj i hi => by
      have hsp := hs (by intro h0; subst h0; simp at hj)
      obtain ⟨c, h1, h2, _⟩ := hxs j x hj
      obtain ⟨_, h3, h4⟩ := World.cells?_some h1
      have hic : i < c.length := by rw [h2.1, hlen]; exact hi
      have h5 := h4 i (by rw [← h3]; exact hic)
      rw [hadd hsp] at h5
      have e1 : (⟨a.block, a.off + j * Tryz.prog.cellsOf e, none⟩ : Addr).add i = ⟨a.block, a.off + (j * szT Tryz.prog e + i), none⟩ := by
        unfold Addr.add
        split
        · rename_i h0; subst h0; rfl
        · show (⟨a.block, a.off + j * Tryz.prog.cellsOf e + i, none⟩ : Addr) = _
          rw [Nat.add_assoc]; rfl
      rw [e1, List.getElem?_eq_getElem hic] at h5
      refine ⟨_, h5, fun v hv => ?_⟩
      have := h2.2 i v hv
      rw [List.getD_eq_getElem?_getD, List.getElem?_eq_getElem hic] at this
      exact this
    refine ⟨xs, .one ?_, Nat.le_trans (Nat.le_trans (Nat.le_of_eq hxl) hl) hm, fun x hx => ?_⟩
    · subst hxl
      refine Rep.ro (T := TT) e xs (some a) cap (fun q => (w.cell? ⟨a.block, a.off + q, none⟩).getD undef) hk hl hm (fun hne => ?_) (fun j x i v hx hv => ?_)
      · refine ⟨a.block, a.off, ?_, ?_, fun j hj => ?_⟩
        · have := hs hne; cases a; cases this; rfl
        · obtain ⟨x, l, rfl⟩ := List.exists_cons_of_ne_nil hne
          obtain ⟨c, h5, _⟩ := hcell 0 x rfl 0 hz
          unfold World.cell? at h5
          split at h5
          · rename_i hh; exact (Array.getElem?_eq_some_iff.1 hh).1
          · cases h5
        · have hj1 : j / szT Tryz.prog e < xs.length := Nat.div_lt_of_lt_mul (by rw [Nat.mul_comm]; exact hj)
          obtain ⟨c, h5, _⟩ := hcell (j / szT Tryz.prog e) _ (List.getElem?_eq_getElem hj1) (j % szT Tryz.prog e) (Nat.mod_lt _ hz)
          rw [show j / szT Tryz.prog e * szT Tryz.prog e + j % szT Tryz.prog e = j by rw [Nat.mul_comm]; exact Nat.div_add_mod _ _] at h5
          rw [h5]; rfl
      · have hi : i < szT Tryz.prog e := by rw [← hlen x]; exact (List.getElem?_eq_some_iff.1 hv).1
        obtain ⟨c, h5, h6⟩ := hcell j x hx i hi
        rw [h5]
        exact h6 v hv
    · obtain ⟨j, hj, rfl⟩ := List.getElem_of_mem hx
      obtain ⟨c, _, _, h3⟩ := hxs j _ (List.getElem?_eq_getElem hj)
      exact h3
theorem rep_agg {w : World} {vs : List VT} {c : Array Value} (h : RepL w vs (Value.agg c).cells.toList) : RepW w (.agg vs) (.agg c) := by
  refine Rep.agg (T := TT) vs c ((Array.length_toList (xs := c)).symm.trans h.1) fun i v hv => ?_
  have := h.2 i v hv
  rw [List.getD_eq_getElem?_getD, Array.getElem?_toList] at this
  rw [Array.getD_eq_getD_getElem?]; exact this
/-- an argument of one cell -/
theorem arg_x {α : Type} {f : α → List VT} {t : TypeId} {Q : α → Prop} (h : OpX f t Q) {H : Type} {enc : TypeId × Value → H} {w : World} {base : Nat} {spare : Nat → Bool} {held : Bool} {c : Value} {y : DataW H} {p : List MemPlace} (hx : DataW.Trod enc Tryz.prog w base spare held t c y p) : ∃ v, RepL w (f v) c.cells.toList ∧ Q v := by
  obtain ⟨fuel, hf⟩ := hx
  exact h enc w base spare held fuel _ _ hf
end Go.Proofs.YtpbpebjfglfjfaaGreatDoor.X
/-! Sizes: what the row says of the slices in a program. -/
namespace Go.Proofs.YtpbpebjfglfjfaaGreatDoor.X
open Go Go.Proofs Go.RowKit Go.Proofs.YtpbpebjfglfjfaaGreatDoor
theorem ro_len {T : Tab} {P : Program} {w : World} {μ : Nat → Option Value} {ok : Nat → Prop} {e : Nat} {l : List (T.A e)} {c : Value} (h : Rep T P w μ ok (.ro e l) c) : ∀ a n cap, c = .slice a n cap → l.length = n := by
  cases h with | ro _ _ _ _ _ _ _ _ _ _ =>
  intro a n cap hc
  cases hc
  rfl
theorem RepL.at {w : World} {vs : List VT} {cs : List Value} (h : RepL w vs cs) {i : Nat} {v : VT} (hi : vs[i]? = some v) : RepL w [v] ((cs.drop i).take 1) := by
  have hl : i < cs.length := by rw [h.1]; exact (List.getElem?_eq_some_iff.1 hi).1
  have h2 := h.2 i v hi
  rw [List.getD_eq_getElem?_getD, List.getElem?_eq_getElem hl] at h2
  rw [List.drop_eq_getElem_cons hl]
  exact .one h2
/-- a slice's length, by its weight -/
theorem few_slice (e : Nat) {t : TypeId} (ht : Tryz.prog.underlying t = some (.slice e)) (hb : 0 < Tryz.prog.bytesOf e) {H : Type} {enc : TypeId × Value → H} {w : World} {base : Nat} {spare : Nat → Bool} {held : Bool} {fuel : Nat} {cs : List Value} {x : DataW H × List MemPlace}
    (h : DataW.trod enc Tryz.prog w base spare held fuel t cs = some x) (hw : ∀ n ∈ x.1.weights Tryz.prog t, n ≤ reachBytes) {xs : List (At e)} (hr : RepL w [.ro e xs] cs) : xs.length ≤ reachBytes := by
  rcases Go.Deep.open_slice ht h with ⟨rfl, _⟩ | ⟨a, len, cap, m, n, D, Pl, rfl, _, _, _, _, rfl, _⟩
  · exact Nat.le_trans (Nat.le_of_eq (ro_len hr.get0 none 0 0 rfl)) (Nat.zero_le _)
  · refine Nat.le_trans (Nat.le_of_eq (ro_len hr.get0 (some a) len cap rfl)) ?_
    have := hw ((len + (m - len)) * Tryz.prog.bytesOf e) (by simp [DataW.weights, ht])
    have h2 := Nat.le_mul_of_pos_right (len + (m - len)) hb
    omega
/-- a field's data, and its weights -/
theorem few_field {t : TypeId} {fs : Array Field} (ht : Tryz.prog.underlying t = some (.struct fs)) {H : Type} {enc : TypeId × Value → H} {w : World} {base : Nat} {spare : Nat → Bool} {held : Bool} {fuel : Nat} {cs : List Value} {x : DataW H × List MemPlace}
    (h : DataW.trod enc Tryz.prog w base spare held fuel t cs = some x) (hw : ∀ n ∈ x.1.weights Tryz.prog t, n ≤ reachBytes) {i : Nat} {g : Field} (hi : fs[i]? = some g) :
    ∃ m y, DataW.trod enc Tryz.prog w base spare held m g.type ((cs.drop g.offset).take (Tryz.prog.cellsOf g.type)) = some y ∧ ∀ n ∈ y.1.weights Tryz.prog g.type, n ≤ reachBytes := by
  obtain ⟨xs, m, _, rfl, hl, hn, hf⟩ := DataW.trod_struct ht h
  have hlt : i < xs.length := by rw [hn]; exact (Array.getElem?_eq_some_iff.1 hi).1
  refine ⟨m, xs[i], by rw [hf i g hi, List.getElem?_eq_getElem hlt], fun n hm => hw n ?_⟩
  have e : DataW.weights Tryz.prog t (DataW.agg (xs.map (·.1))) = DataW.weightsEach Tryz.prog (fs.toList.map (·.type)) (xs.map (·.1)) := by simp [DataW.weights, ht]
  show n ∈ DataW.weights Tryz.prog t (DataW.agg (xs.map (·.1)))
  rw [e]
  exact DataW.weights_mem_each (j := i) (by rw [List.getElem?_map, Array.getElem?_toList, hi]; rfl) (by rw [List.getElem?_map, List.getElem?_eq_getElem hlt]; rfl) n hm
theorem few_program {H : Type} {enc : TypeId × Value → H} {w : World} {base : Nat} {spare : Nat → Bool} {held : Bool} {c : Value} {y : DataW H} {p : List MemPlace} {v : GProgram} (h : DataW.Trod enc Tryz.prog w base spare held 31 c y p) (hr : RepL w (encT 31 v) c.cells.toList) (hw : ∀ n ∈ y.weights Tryz.prog 31, n ≤ reachBytes) :
    v.nodes.length ≤ reachBytes ∧ v.drives.length ≤ reachBytes := by
  obtain ⟨fuel, h⟩ := h
  have ht : ∃ fs, Tryz.prog.underlying 31 = some (.struct fs) ∧ (fs[2]?.map fun g => (g.type, g.offset)) = some (28, 2) ∧ (fs[3]?.map fun g => (g.type, g.offset)) = some (29, 3) := ⟨_, Tryz.underlying31, rfl, rfl⟩
  obtain ⟨fs, ht, h2, h3⟩ := ht
  cases e2 : fs[2]? with
  | none => rw [e2] at h2; cases h2
  | some g2 =>
    cases e3 : fs[3]? with
    | none => rw [e3] at h3; cases h3
    | some g3 =>
      rw [e2] at h2
      rw [e3] at h3
      obtain ⟨t2, o2⟩ := Prod.mk.inj (Option.some.inj h2)
      obtain ⟨t3, o3⟩ := Prod.mk.inj (Option.some.inj h3)
      obtain ⟨m2, y2, k2, w2⟩ := few_field ht h hw e2
      obtain ⟨m3, y3, k3, w3⟩ := few_field ht h hw e3
      rw [t2, o2, show Tryz.prog.cellsOf 28 = 1 by kernel_rfl] at k2
      rw [t2] at w2
      rw [t3, o3, show Tryz.prog.cellsOf 29 = 1 by kernel_rfl] at k3
      rw [t3] at w3
      exact ⟨few_slice 58 Tryz.underlying28 (of_decide_eq_true (by kernel_rfl)) k2 w2 (hr.at (i := 2) rfl), few_slice 89 Tryz.underlying29 (of_decide_eq_true (by kernel_rfl)) k3 w3 (hr.at (i := 3) rfl)⟩
end Go.Proofs.YtpbpebjfglfjfaaGreatDoor.X
