/-
  Split, Cut, ReplaceAll and Contains AT ONE BYTE as plain recursions that the kernel computes in one pass; and that they are the shelf's functions.
-/
import Derived.Lib.Replace
import Derived.Lib.IndexBytes
import Derived.Lib.CutLaws
namespace Go.Proofs.YtpbpebjfglfjfaaGreatDoor.Fast
open Go Go.Lib

theorem ib_cons (b c : UInt8) (l : List UInt8) : indexByte (b :: l) c = if b == c then 0 else if indexByte l c == -1 then -1 else indexByte l c + 1 := rfl
theorem ib_none {c : UInt8} : ∀ {l : List UInt8}, c ∉ l → indexByte l c = -1
  | [], _ => rfl
  | b :: l, h => by
    rw [ib_cons, if_neg (by simp only [List.mem_cons, not_or] at h; simpa using fun e => h.1 e.symm), ib_none (fun hm => h (List.mem_cons_of_mem _ hm))]
    rfl
theorem ib_some {c : UInt8} (post : List UInt8) : ∀ {pre : List UInt8}, c ∉ pre → indexByte (pre ++ c :: post) c = pre.length
  | [], _ => by rw [List.nil_append, ib_cons, if_pos (by simp)]; rfl
  | b :: l, h => by
    have hr := ib_some post (pre := l) (fun hm => h (List.mem_cons_of_mem _ hm))
    rw [List.cons_append, ib_cons, if_neg (by simp only [List.mem_cons, not_or] at h; simpa using fun e => h.1 e.symm), hr, if_neg (by simp <;> omega), List.length_cons]
    omega
theorem ib_mem (c : UInt8) (l : List UInt8) : decide (0 ≤ indexByte l c) = l.elem c := by
  by_cases h : c ∈ l
  · obtain ⟨pre, post, rfl, hn⟩ := List.eq_append_cons_of_mem h
    rw [ib_some post hn]
    simp
  · rw [ib_none h]
    simpa using h
theorem ix_none {c : UInt8} {l : List UInt8} (h : c ∉ l) : index l [c] = -1 := by rw [index_one, ib_none h]
theorem ix_some {c : UInt8} {pre : List UInt8} (post : List UInt8) (h : c ∉ pre) : index (pre ++ c :: post) [c] = pre.length := by rw [index_one, ib_some post h]

def lsplit (c : UInt8) : List UInt8 → List UInt8 → List (List UInt8)
  | cur, [] => [cur.reverse]
  | cur, b :: l => if b = c then cur.reverse :: lsplit c [] l else lsplit c (b :: cur) l
theorem lsplit_none {c : UInt8} : ∀ {l : List UInt8} (cur : List UInt8), c ∉ l → lsplit c cur l = [cur.reverse ++ l]
  | [], cur, _ => by simp [lsplit]
  | b :: l, cur, h => by
    rw [lsplit, if_neg (fun e => h (by rw [e]; exact List.mem_cons_self)), lsplit_none (b :: cur) (fun hm => h (List.mem_cons_of_mem _ hm))]
    simp
theorem lsplit_some {c : UInt8} (post : List UInt8) : ∀ {pre : List UInt8} (cur : List UInt8), c ∉ pre → lsplit c cur (pre ++ c :: post) = (cur.reverse ++ pre) :: lsplit c [] post
  | [], cur, _ => by simp [lsplit]
  | b :: l, cur, h => by
    rw [List.cons_append, lsplit, if_neg (fun e => h (by rw [e]; exact List.mem_cons_self)), lsplit_some post (b :: cur) (fun hm => h (List.mem_cons_of_mem _ hm))]
    simp
theorem split_fast (c : UInt8) : ∀ (n : Nat) (s : List UInt8), s.length ≤ n → split s [c] = lsplit c [] s := by
  intro n
  induction n with
  | zero =>
    intro s hs
    have : s = [] := List.length_eq_zero_iff.1 (by omega)
    subst this
    rfl
  | succ n ih =>
    intro s hs
    by_cases h : c ∈ s
    · obtain ⟨pre, post, rfl, hn⟩ := List.eq_append_cons_of_mem h
      rw [lsplit_some post [] hn, ← ih post (by simp at hs; omega)]
      have hx := ix_some post hn
      unfold split
      rw [count_hit (by simp) hx]
      rw [show 1 + count ((pre ++ c :: post).drop (pre.length + [c].length)) [c] = count post [c] + 1 by simp <;> omega]
      rw [splitK, if_neg (by rw [hx]; simp <;> omega), hx]
      simp
    · rw [lsplit_none [] h]
      unfold split
      rw [count_miss (ix_none h)]
      simp [splitK]

def cutAt (c : UInt8) : List UInt8 → List UInt8 → List UInt8 × List UInt8 × Bool
  | cur, [] => (cur.reverse, [], false)
  | cur, b :: l => if b = c then (cur.reverse, l, true) else cutAt c (b :: cur) l
theorem cutAt_none {c : UInt8} : ∀ {l : List UInt8} (cur : List UInt8), c ∉ l → cutAt c cur l = (cur.reverse ++ l, [], false)
  | [], cur, _ => by simp [cutAt]
  | b :: l, cur, h => by
    rw [cutAt, if_neg (fun e => h (by rw [e]; exact List.mem_cons_self)), cutAt_none (b :: cur) (fun hm => h (List.mem_cons_of_mem _ hm))]
    simp
theorem cutAt_some {c : UInt8} (post : List UInt8) : ∀ {pre : List UInt8} (cur : List UInt8), c ∉ pre → cutAt c cur (pre ++ c :: post) = (cur.reverse ++ pre, post, true)
  | [], cur, _ => by simp [cutAt]
  | b :: l, cur, h => by
    rw [List.cons_append, cutAt, if_neg (fun e => h (by rw [e]; exact List.mem_cons_self)), cutAt_some post (b :: cur) (fun hm => h (List.mem_cons_of_mem _ hm))]
    simp
theorem cut_fast (c : UInt8) (s : List UInt8) : Lib.cut s [c] = cutAt c [] s := by
  by_cases h : c ∈ s
  · obtain ⟨pre, post, rfl, hn⟩ := List.eq_append_cons_of_mem h
    rw [cutAt_some post [] hn]
    have hx := ix_some post hn
    unfold Lib.cut
    rw [hx, if_pos (by omega)]
    simp
  · rw [cutAt_none [] h]
    unfold Lib.cut
    rw [ix_none h, if_neg (by omega)]
    rfl

theorem replaceK_fast (c d : UInt8) : ∀ (n : Nat) (s : List UInt8), s.length ≤ n → replaceK [c] [d] (count s [c]) s = s.map fun b => if b = c then d else b := by
  intro n
  induction n with
  | zero =>
    intro s hs
    have : s = [] := List.length_eq_zero_iff.1 (by omega)
    subst this
    rfl
  | succ n ih =>
    intro s hs
    by_cases h : c ∈ s
    · obtain ⟨pre, post, rfl, hn⟩ := List.eq_append_cons_of_mem h
      have hx := ix_some post hn
      rw [count_hit (by simp) hx]
      rw [show 1 + count ((pre ++ c :: post).drop (pre.length + [c].length)) [c] = count post [c] + 1 by simp <;> omega]
      rw [replaceK_hit _ _ _ _ _ hx, List.map_append, List.map_cons, ← ih post (by simp at hs; omega)]
      have e : pre.map (fun b => if b = c then d else b) = pre := by
        rw [List.map_congr_left (g := id)]
        · simp
        · intro b hb
          rw [if_neg (fun e => hn (by rw [← e]; exact hb))]
          rfl
      rw [e]
      simp
    · rw [count_miss (ix_none h), replaceK]
      rw [List.map_congr_left (g := id)]
      · simp
      · intro b hb
        rw [if_neg (fun e => h (by rw [← e]; exact hb))]
        rfl
theorem replace_fast (c d : UInt8) (s : List UInt8) : replaceAll s [c] [d] = s.map fun b => if b = c then d else b := by
  unfold replaceAll replace
  split
  · rename_i h
    have e : c = d := by simpa using h
    subst e
    rw [List.map_congr_left (g := id)]
    · simp
    · intro b hb
      by_cases e : b = c
      · rw [if_pos e, e]; rfl
      · rw [if_neg e]; rfl
  · unfold replaceNum
    rw [if_pos (.inl (by omega))]
    exact replaceK_fast c d _ s (Nat.le_refl _)
end Go.Proofs.YtpbpebjfglfjfaaGreatDoor.Fast
