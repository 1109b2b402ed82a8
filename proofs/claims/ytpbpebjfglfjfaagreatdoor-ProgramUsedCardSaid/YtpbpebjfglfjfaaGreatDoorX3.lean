/-
  SOUNDNESS, the operations that read: what the executor yields stands for what the operation yields, in the same world.
-/
import Derived.Test.YtpbpebjfglfjfaaGreatDoorX2
import Derived.Deep.MidRow
set_option autoImplicit false
set_option linter.unusedVariables false
set_option linter.unusedSimpArgs false
namespace Go.Proofs.YtpbpebjfglfjfaaGreatDoor.X
open Go Go.RowKit
section
variable {T : Tab} {P : Program} {w : World} {μ : Nat → Option Value} {ok : Nat → Prop}

theorem Rep.int_inv {k : IntKind} {n : Int} {c : Value} (h : Rep T P w μ ok (.int k n) c) : c = .int k n := by cases h; rfl
theorem Rep.bool_inv {b : Bool} {c : Value} (h : Rep T P w μ ok (.bool b) c) : c = .bool b := by cases h; rfl
theorem Rep.str_inv {b : ByteArray} {c : Value} (h : Rep T P w μ ok (.str b) c) : c = .string b := by cases h; rfl
theorem Rep.own_inv {i : Nat} {c : Value} (h : Rep T P w μ ok (.own i) c) : μ i = some c := by cases h; assumption
theorem Rep.nils_inv {c : Value} (h : Rep T P w μ ok .nils c) : c = .slice none 0 0 := by cases h; rfl
theorem force_eq {A : Nat → Type} {R : Type} (v : V A) (K : V A → Option R) : v.force K = K v := by cases v <;> rfl
theorem cv_rep (c : Value) : Rep T P w μ ok (cv c) c := by
  cases c with
  | int k n => exact .int k n
  | bool b => exact .bool b
  | string s => exact .str s
  | slice a n m =>
    unfold cv
    split <;> rename_i h
    · cases h
    · cases h
    · cases h
    · cases h; exact .nils
    · split
      · exact .nul _ rfl
      · exact .unk _
  | agg cs => exact .unk _
  | tuple vs => exact .unk _
  | _ => exact .nul _ rfl

/-! cells in a row of memory -/
/-- what lies from here on: a Rep each -/
def CellsAt (T : Tab) (P : Program) (w : World) (μ : Nat → Option Value) (ok : Nat → Prop) (b o : Nat) (cs : List (V T.A)) : Prop :=
  ∀ i v, cs[i]? = some v → ∃ c, w.cell? ⟨b, o + i, none⟩ = some c ∧ Rep T P w μ ok v c
theorem dropN_eq {α : Type} (n : Nat) (l : List α) : dropN n l = l.drop n := by
  induction n generalizing l with
  | zero => cases l <;> rfl
  | succ n ih =>
    cases l with
    | nil => rfl
    | cons x l => exact ih l
theorem takeN_eq {α : Type} (n : Nat) (l : List α) : takeN n l = if n ≤ l.length then some (l.take n) else none := by
  induction n generalizing l with
  | zero => cases l <;> rfl
  | succ n ih =>
    cases l with
    | nil => rfl
    | cons x l =>
      show (match takeN n l with | some y => some (x :: y) | none => none) = _
      rw [ih]
      by_cases h : n ≤ l.length
      · simp [h]
      · simp [h]
theorem nth_eq {α : Type} (l : List α) (n : Nat) : nth l n = l[n]? := by
  induction l generalizing n with
  | nil => rfl
  | cons x l ih =>
    cases n with
    | zero => rfl
    | succ n => show nth l n = _; rw [ih]; rfl
theorem CellsAt.drop {b o : Nat} {cs : List (V T.A)} (h : CellsAt T P w μ ok b o cs) (n : Nat) : CellsAt T P w μ ok b (o + n) (dropN n cs) := fun i v hv => by
  rw [dropN_eq, List.getElem?_drop] at hv
  obtain ⟨c, h1, h2⟩ := h _ v hv
  exact ⟨c, by rw [show o + n + i = o + (n + i) by omega]; exact h1, h2⟩
theorem szT_of {t : Nat} {i : TypeInfo} (h : P.info? t = some i) : szT P t = i.size := by simp [szT, Program.cellsOf, h]
theorem info_of_under {t : Nat} {d : TypeDesc} (h : P.underlying t = some d) : ∃ i, P.info? t = some i := by
  unfold Program.underlying at h
  split at h
  · exact ⟨_, by assumption⟩
  · exact ⟨_, by assumption⟩
  · cases h
theorem under_aggT {t : Nat} {b : Bool} (h : aggT P t = some b) : ∃ d, P.underlying t = some d ∧ (match d with | .struct _ | .array _ _ => true | _ => false) = b := by
  unfold aggT at h
  split at h <;> first | (cases h; done) | (obtain rfl := Option.some.inj h; exact ⟨_, by assumption, by first | rfl | (split <;> simp_all)⟩)
theorem run_isAgg_b {t : Nat} {b : Bool} (h : aggT P t = some b) (w : World) : (isAgg t).run P w = .ok b w := by
  obtain ⟨d, h1, h2⟩ := under_aggT h
  unfold isAgg
  rw [Sem.run_bind, run_underlying h1 w]
  subst h2
  cases d <;> rfl
theorem run_sizeOf_T {t : Nat} {d : TypeDesc} (h : P.underlying t = some d) (w : World) : (sizeOf t).run P w = .ok (szT P t) w := by
  obtain ⟨i, hi⟩ := info_of_under h
  simp [sizeOf, typeInfo, hi, szT_of hi]
/-- a value of type t is read off the cells from here on -/
theorem run_loadVar_cells {t b o : Nat} {cs : List (V T.A)} {v : V T.A} (h : CellsAt T P w μ ok b o cs) (hv : pickV P t cs = some v) :
    ∃ c, (loadVar t ⟨b, o, none⟩).run P w = .ok c w ∧ Rep T P w μ ok v c := by
  unfold pickV at hv
  split at hv
  · rename_i ha
    rw [takeN_eq] at hv
    by_cases hn : szT P t ≤ cs.length
    · rw [if_pos hn] at hv
      obtain rfl := Option.some.inj hv
      obtain ⟨d, hd, _⟩ := under_aggT ha
      have hex : ∀ j, j < szT P t → ∃ c, w.cell? ⟨b, o + j, none⟩ = some c ∧ ∀ v, cs[j]? = some v → Rep T P w μ ok v c := fun j hj => by
        obtain ⟨c, h1, h2⟩ := h j _ (List.getElem?_eq_getElem (Nat.lt_of_lt_of_le hj hn))
        exact ⟨c, h1, fun v hv => by rw [List.getElem?_eq_getElem (Nat.lt_of_lt_of_le hj hn)] at hv; obtain rfl := Option.some.inj hv; exact h2⟩
      have hcell : ∀ j, j < szT P t → w.cell? ((⟨b, o, none⟩ : Addr).add j) = some ((w.cell? ⟨b, o + j, none⟩).getD undef) := fun j hj => by
        obtain ⟨c, h1, _⟩ := hex j hj
        have hadd : (⟨b, o, none⟩ : Addr).add j = ⟨b, o + j, none⟩ := by unfold Addr.add; split <;> simp_all
        rw [hadd, h1]; rfl
      have hl := run_loadCells (P := P) w ⟨b, o, none⟩ (szT P t) (fun j => (w.cell? ⟨b, o + j, none⟩).getD undef) hcell
      refine ⟨_, by simp only [loadVar, Sem.run_bind, run_isAgg_b ha, Result.andThen_ok, if_true, run_sizeOf_T hd, hl, Sem.run_pure]; rfl, .agg _ _ (by simp [Nat.min_eq_left hn]) fun i v hv => ?_⟩
      have hi : i < szT P t := by
        have := (List.getElem?_eq_some_iff.1 hv).1
        simp at this; omega
      obtain ⟨c, h1, h2⟩ := hex i hi
      rw [List.getElem?_take, if_pos hi] at hv
      simpa [hi, h1] using h2 v hv
    · rw [if_neg hn] at hv; cases hv
  · rename_i ha
    split at hv
    · rename_i x r
      obtain rfl := Option.some.inj hv
      obtain ⟨c, h1, h2⟩ := h 0 _ rfl
      refine ⟨c, ?_, h2⟩
      simp only [Nat.add_zero] at h1
      simp [loadVar, run_isAgg_b ha, h1]
    · cases hv
  · cases hv
/-- the same off a value's cells -/
theorem run_part_cells {t off : Nat} {l : List (V T.A)} {cs : Array Value} {v : V T.A} (hl : cs.size = l.length) (h : ∀ i v, l[i]? = some v → Rep T P w μ ok v (cs.getD i undef)) (hv : pickV P t (dropN off l) = some v) :
    ∃ c, (part t cs off).run P w = .ok c w ∧ Rep T P w μ ok v c := by
  unfold pickV at hv
  rw [dropN_eq] at hv
  split at hv
  · rename_i ha
    rw [takeN_eq] at hv
    by_cases hn : szT P t ≤ (l.drop off).length
    · rw [if_pos hn] at hv
      obtain rfl := Option.some.inj hv
      obtain ⟨d, hd, _⟩ := under_aggT ha
      have hn' : szT P t ≤ l.length - off := by simpa using hn
      refine ⟨.agg (cs.extract off (off + szT P t)), by simp [part, run_isAgg_b ha, run_sizeOf_T hd], .agg _ _ ?_ fun i v hv => ?_⟩
      · by_cases h0 : szT P t = 0
        · simp [h0]; omega
        · simp [hl]; omega
      · have hi : i < szT P t := by
          have := (List.getElem?_eq_some_iff.1 hv).1
          simp at this; omega
        rw [List.getElem?_take, if_pos hi, List.getElem?_drop] at hv
        have := h _ v hv
        have hlt : off + i < cs.size := by rw [hl]; exact (List.getElem?_eq_some_iff.1 hv).1
        rw [Array.getD_eq_getD_getElem?, Array.getElem?_eq_getElem hlt] at this
        simpa [Array.getElem?_extract, hi, show i < min (off + szT P t) cs.size - off by omega] using this
    · rw [if_neg hn] at hv; cases hv
  · rename_i ha
    split at hv
    · rename_i x r hd
      obtain rfl := Option.some.inj hv
      have h0 : l[off]? = some x := by
        have := congrArg (fun q => q[0]?) hd
        simpa [List.getElem?_drop] using this
      have hlt : off < cs.size := by rw [hl]; exact (List.getElem?_eq_some_iff.1 h0).1
      exact ⟨cs[off], by simp [part, run_isAgg_b ha, hlt], by simpa [hlt] using h off _ h0⟩
    · cases hv
  · cases hv
end
end Go.Proofs.YtpbpebjfglfjfaaGreatDoor.X
