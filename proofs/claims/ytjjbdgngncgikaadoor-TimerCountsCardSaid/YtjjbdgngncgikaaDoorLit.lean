/-
  A GREAT LITERAL BY ONE RUN: a region in a fixed order that only builds structs and slice literals (out of constants and of what it has built) is run by a plain function 'litRun', the kernel computes it once; 'litRun_sound': what it computes is what the walk of the region comes to. The world: the blocks that are made, one behind the other ('allocs').
-/
import Derived.Great.Walk
import Derived.Test.YtjjbdgngncgikaaDoorV0
namespace Go.Proofs.YtjjbdgngncgikaaDoor
open Go Go.RowKit Go.Proofs.YtjjbdgngncgikaaDoorW.PrintWords

def allocs (w : World) : List Obj → World
  | [] => w
  | o :: r => allocs (w.alloc o) r
theorem allocs_snoc (o : Obj) : ∀ (l : List Obj) (w : World), allocs w (l ++ [o]) = (allocs w l).alloc o
  | [], _ => rfl
  | _ :: l, w => allocs_snoc o l (w.alloc _)
theorem alloc_size (w : World) (o : Obj) : (w.alloc o).heap.size = w.heap.size + 1 := by simp
theorem allocs_size : ∀ (l : List Obj) (w : World), (allocs w l).heap.size = w.heap.size + l.length
  | [], w => by simp [allocs]
  | o :: l, w => by simp only [allocs]; rw [allocs_size l (w.alloc o), alloc_size, List.length_cons]; omega
theorem allocs_below : ∀ (l : List Obj) (w : World), Below w.heap.size w (allocs w l)
  | [], w => Below.refl _ _
  | o :: l, w => by
    have h1 := allocs_below l (w.alloc o)
    exact (below_alloc (Below.refl w.heap.size w) o).trans (h1.mono (by rw [alloc_size]; omega))
theorem allocs_block : ∀ (l : List Obj) (w : World) (j : Nat) (o : Obj), l[j]? = some o → (allocs w l).heap[w.heap.size + j]? = some o
  | [], _, _, _, h => by simp at h
  | p :: l, w, 0, o, h => by
    simp only [List.getElem?_cons_zero, Option.some.injEq] at h
    subst h
    have h1 := (allocs_below l (w.alloc p)).block w.heap.size (by rw [alloc_size]; omega)
    simp only [allocs, Nat.add_zero]
    rw [h1]
    exact heap_alloc_new w p
  | p :: l, w, j + 1, o, h => by
    have h1 := allocs_block l (w.alloc p) j o (by simpa using h)
    rw [alloc_size] at h1
    simp only [allocs]
    rw [show w.heap.size + (j + 1) = w.heap.size + 1 + j by omega]
    exact h1

def look : List (Nat × Value) → Nat → Option Value
  | [], _ => none
  | (t, v) :: r, x => if t = x then some v else look r x
def litEval (env : List (Nat × Value)) : Operand → Option Value
  | .tmp t => look env t
  | .const v => some v
  | _ => none
def litParts (env : List (Nat × Value)) : List (Nat × Operand) → Option (List (Nat × Value))
  | [] => some []
  | (i, x) :: r => match litEval env x, litParts env r with
    | some v, some vs => some ((i, v) :: vs)
    | _, _ => none
def litRun (P : Program) (n : Nat) : List Oper → List (Nat × Value) → List Obj → Option (List (Nat × Value) × List Obj)
  | [], env, bs => some (env, bs)
  | o :: rest, env, bs => match o.guard, o.dst, o.op with
    | none, some d, .build t parts => match litParts env parts.toList with
      | some vs => match P.built t vs with
        | some cells => litRun P n rest ((d, .agg cells) :: env) bs
        | none => none
      | none => none
    | none, some d, .buildSlice t len parts => match P.underlying t, litParts env parts.toList with
      | some (.slice e), some vs => match P.builtSlice e len vs with
        | some cells => litRun P n rest ((d, .slice (some ⟨n + bs.length, 0, none⟩) len len) :: env) (bs ++ [.cells cells e (0, 0)])
        | none => none
      | _, _ => none
    | none, some d, .assign x => match litEval env x with
      | some v => litRun P n rest ((d, v) :: env) bs
      | none => none
    | _, _, _ => none

/-- The frame holds what the run knows, and has room for what it will write. -/
def Fits (N : Nat) (env : List (Nat × Value)) (a : Act) : Prop := a.tmps.size = N ∧ ∀ t v, look env t = some v → a.tmps.getD t undef = v
theorem fits_put {N : Nat} {env : List (Nat × Value)} {a : Act} (h : Fits N env a) (d : Nat) (v : Value) (hd : d < N) : Fits N ((d, v) :: env) (a.put (some d) v) := by
  refine ⟨by simp [Act.put, h.1], fun t u hu => ?_⟩
  simp only [look] at hu
  by_cases e : d = t
  · subst e
    rw [if_pos rfl] at hu
    have hu := Option.some.inj hu
    subst hu
    simp [Act.put, Array.getD_eq_getD_getElem?, h.1, hd]
  · rw [if_neg e] at hu
    have := h.2 t u hu
    simp only [Act.put, Array.getD_eq_getD_getElem?, Array.getElem?_setIfInBounds, if_neg e] at this ⊢
    exact this
theorem fits_eval {N : Nat} {env : List (Nat × Value)} {a : Act} (h : Fits N env a) {x : Operand} {v : Value} (hx : litEval env x = some v) : a.eval x = v := by
  cases x with
  | tmp t => exact h.2 t v hx
  | const u => exact Option.some.inj hx
  | _ => cases hx
theorem fits_parts {N : Nat} {env : List (Nat × Value)} {a : Act} (h : Fits N env a) : ∀ {ps : List (Nat × Operand)} {vs : List (Nat × Value)}, litParts env ps = some vs → ps.map (fun (i, x) => (i, a.eval x)) = vs
  | [], vs, hp => Option.some.inj hp
  | (i, x) :: r, vs, hp => by
    simp only [litParts] at hp
    split at hp
    · rename_i v us hv hus
      have hp := Option.some.inj hp
      subst hp
      simp only [List.map_cons]
      rw [fits_eval h hv, fits_parts h hus]
    · cases hp
theorem parts_list {a : Act} {ps : Array (Nat × Operand)} {vs : List (Nat × Value)} (h : ps.toList.map (fun (i, x) => (i, a.eval x)) = vs) : (ps.map fun (i, x) => (i, a.eval x)).toList = vs := by rw [Array.toList_map]; exact h

/-- Every place that is written lies in the frame. -/
def dstsIn (N : Nat) : List Oper → Bool
  | [] => true
  | o :: r => (match o.dst with | some d => decide (d < N) | none => true) && dstsIn N r

theorem litRun_sound {P : Program} {ops : Array Oper} {Q : Exit → Act → World → Prop} {N : Nat} (w : World) : ∀ (l : List Oper) (env : List (Nat × Value)) (bs : List Obj) (env' : List (Nat × Value)) (bs' : List Obj) (a : Act),
    litRun P w.heap.size l env bs = some (env', bs') → dstsIn N l = true → Fits N env a → (∀ a', Fits N env' a' → a'.defers = a.defers → Q .normal a' (allocs w bs')) → wpList P ops Q l a (allocs w bs)
  | [], env, bs, env', bs', a, h, _, hf, hQ => by
    simp only [litRun, Option.some.injEq, Prod.mk.injEq] at h
    obtain ⟨rfl, rfl⟩ := h
    exact wpList_nil (hQ a hf rfl)
  | o :: rest, env, bs, env', bs', a, h, hd, hf, hQ => by
    simp only [dstsIn, Bool.and_eq_true] at hd
    obtain ⟨hd0, hd1⟩ := hd
    have hput : ∀ (d : Nat) (v : Value), (a.put (some d) v).defers = a.defers := fun _ _ => rfl
    simp only [litRun] at h
    split at h
    · rename_i d t parts hg hdst hop
      split at h
      · rename_i vs hvs
        split at h
        · rename_i cells hc
          have hdN : d < N := by rw [hdst] at hd0; exact of_decide_eq_true hd0
          refine wpList_buildTo hg t parts hop (some d) hdst cells ?_ ?_
          · rw [parts_list (fits_parts hf hvs)]; exact hc
          · exact litRun_sound w rest _ bs env' bs' _ h hd1 (fits_put hf d _ hdN) (fun a' h1 h2 => hQ a' h1 (h2.trans (hput _ _)))
        · cases h
      · cases h
    · rename_i d t len parts hg hdst hop
      split at h
      · rename_i e vs hu hvs
        split at h
        · rename_i cells hc
          have hdN : d < N := by rw [hdst] at hd0; exact of_decide_eq_true hd0
          refine Great.wpList_buildSliceTo hg t e len parts hop (w.heap.size + bs.length) (allocs_size bs w) (some d) hdst hu cells ?_ ?_
          · rw [parts_list (fits_parts hf hvs)]; exact hc
          · rw [← allocs_snoc]
            exact litRun_sound w rest _ _ env' bs' _ h hd1 (fits_put hf d _ hdN) (fun a' h1 h2 => hQ a' h1 (h2.trans (hput _ _)))
        · cases h
      · cases h
    · rename_i d x hg hdst hop
      split at h
      · rename_i v hv
        have hdN : d < N := by rw [hdst] at hd0; exact of_decide_eq_true hd0
        refine Great.wpList_readTo hg (some d) hdst v ?_ ?_
        · have : (execOp a.eval o) = pure (.value (a.eval x)) := by unfold execOp; rw [hop]
          rw [this, fits_eval hf hv]
          rfl
        · exact litRun_sound w rest _ bs env' bs' _ h hd1 (fits_put hf d _ hdN) (fun a' h1 h2 => hQ a' h1 (h2.trans (hput _ _)))
      · cases h
    · cases h

/-! Rows out of blocks -/
theorem Reps.put {α : Type} {R : α → List Value → Prop} {size : Nat} {ps : List α} {cs c : List Value} {p : α} (hp : R p c) (hc : c.length = size) (h : Reps R size ps cs) : Reps R size (p :: ps) (c ++ cs) := by
  refine ⟨by rw [List.length_append, h.1, hc, List.length_cons, Nat.add_mul, Nat.one_mul, Nat.add_comm], fun j q hq => ?_⟩
  cases j with
  | zero =>
    simp only [List.getElem?_cons_zero, Option.some.injEq] at hq
    subst hq
    rw [Nat.zero_mul, List.drop_zero, ← hc, List.take_left]
    exact hp
  | succ j =>
    have h2 := h.2 j q (by simpa using hq)
    rw [show (j + 1) * size = c.length + j * size by rw [hc, Nat.add_mul, Nat.one_mul, Nat.add_comm], List.drop_append, List.drop_eq_nil_of_le (by omega), List.nil_append, Nat.add_sub_cancel_left]
    exact h2
theorem reps_flat {α : Type} {R : α → List Value → Prop} {size : Nat} (c : α → List Value) (hR : ∀ x, R x (c x)) (hc : ∀ x, (c x).length = size) : ∀ ps : List α, Reps R size ps (ps.flatMap c)
  | [] => Reps.none _ _
  | p :: ps => by rw [List.flatMap_cons]; exact Reps.put (hR p) (hc p) (reps_flat c hR hc ps)
/-- A row whose block is known: elements that lead to no other row. -/
theorem R_block {α : Type} (d : Kd α) {W : World} {base b e : Nat} {ok : Nat → Prop} {xs : List α} {inner : List Value} (hb : base ≤ b) (hok : ok b) (hm : xs.length ≤ 9223372036854775807)
    (hblk : W.heap[b]? = some (.cells inner.toArray e (0, 0))) (hr : Reps (d.M W base (fun k => ok k ∧ some k ≠ (some b : Option Nat))) d.sz xs inner) :
    d.R e W base ok (.slice (some ⟨b, 0, none⟩) xs.length xs.length) xs := by
  refine ⟨fun k hk => ?_, inner, ⟨hr.1, .inr ⟨b, xs.length, inner.toArray, rfl, hb, hblk, Nat.le_refl _, by simpa [maxLen] using hm, by simpa using hr.1, ?_⟩⟩, ?_⟩
  · have : b = k := by simpa [Value.ownBlock] using hk
    subst this
    exact hok
  · exact List.take_of_length_le (by rw [hr.1]; exact Nat.le_refl _)
  · exact hr
end Go.Proofs.YtjjbdgngncgikaaDoor
