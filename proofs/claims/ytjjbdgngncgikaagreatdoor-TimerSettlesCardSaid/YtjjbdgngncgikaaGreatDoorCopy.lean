/-
  copy(v, ys): a row of numbers of the call's own is written over, whole, by a slice that is read, of the same length.
-/
import Derived.Test.YtjjbdgngncgikaaGreatDoorV0
import Derived.Laws.IdiomCopy
import Derived.Laws.OwnMore
namespace Go.Proofs.YtjjbdgngncgikaaGreatDoor
open Go Go.RowKit Go.Proofs.YtjjbdgngncgikaaGreatDoorW.PrintWords Go.Proofs.YtjjbdgngncgikaaGreatDoorW.PrintMore
set_option linter.unusedVariables false
set_option linter.unusedSimpArgs false
theorem own_setCells {base g cap : Nat} {e : TypeId} {n : Nat} : ∀ (news olds : List Value) (done : List Value) (W : World), olds.length = news.length → W.ownsRow base e 1 (.slice (some ⟨g, 0, none⟩) n cap) n (done ++ olds) →
    (W.setCells g done.length news).ownsRow base e 1 (.slice (some ⟨g, 0, none⟩) n cap) n (done ++ news) ∧ W.grownBy (W.setCells g done.length news) (some g)
  | [], olds, done, W, hl, h => by
    obtain rfl : olds = [] := List.eq_nil_of_length_eq_zero hl
    exact ⟨h, World.grownBy.refl W _⟩
  | x :: news, olds, done, W, hl, h => by
    match olds, hl with
    | y :: olds, hl =>
      have hs := h.stored done.length x
      have e1 : (done ++ y :: olds).set done.length x = (done ++ [x]) ++ olds := by
        rw [List.set_append_right _ _ (Nat.le_refl _), Nat.sub_self]; simp
      rw [e1] at hs
      have ih := own_setCells news olds (done ++ [x]) (W.setCell ⟨g, done.length, none⟩ x) (by simpa using hl) hs.1
      simp only [List.length_append, List.length_singleton] at ih
      refine ⟨?_, hs.2.trans ih.2⟩
      simpa [World.setCells] using ih.1
section
variable {P : Program} {ops : Array Oper} {rest : List Oper} {o : Oper} {a : Act} {Q : Exit → Act → World → Prop}
theorem copy_row {w0 W : World} (base : Nat) (hgd : o.guard = none) (s x : Operand) (t e : TypeId) {z : Option Value} {bytes : Nat}
    (ho : o.op = .call { callee := .builtin .copy, args := #[s, x], argTypes := #[t, t] })
    (ht : P.underlying t = some (.slice e)) (hinfo0 : (P.info? e).map (fun i => (i.zero, i.size, i.bytes)) = some (z, 1, bytes))
    (v : Value) (xs ys : List Int) (A : Option Addr) (m c : Nat) (ok : Nat → Prop) (hs : a.eval s = v) (hx : a.eval x = .slice A m c)
    (HO : (Kd.int .i64).R e W base ok v xs) (HR : (Kd.int .i64).C W A m ys) (hlen : xs.length = m) (HB : Below base w0 W) (hbase : base ≤ W.heap.size)
    (h : ∀ v1 w1, v1 = v → (Kd.int .i64).R e w1 base ok v1 ys → Below base w0 w1 → W.grownBy w1 v.ownBlock → (v1.ownBlock = v.ownBlock ∨ ∃ b, v1.ownBlock = some b ∧ W.heap.size ≤ b) → wpList P ops Q rest (a.put o.dst (.int .i64 m)) w1) :
    wpList P ops Q (o :: rest) a W := by
  have hinfo : (P.info? e).map (·.size) = some 1 := by
    obtain ⟨i0, hi, hzz⟩ := Option.map_eq_some_iff.1 hinfo0
    simp only [Prod.mk.injEq] at hzz
    rw [hi]; simp [hzz.2.1]
  have hm : ys.length = m := HR.1
  obtain ⟨hok, inner, hown1, hr⟩ := HO
  have hown : W.ownsRow base e 1 v xs.length inner := hown1
  have hrun : ∃ w1, (Builtin.copy_ #[t, t] o.type #[v, .slice A m c]).run P W = .ok (goInt m) w1 ∧ (Kd.int .i64).R e w1 base ok v ys ∧ W.grownBy w1 v.ownBlock := by
    by_cases h0 : m = 0
    · subst h0
      obtain rfl : ys = [] := List.eq_nil_of_length_eq_zero hm
      obtain rfl : xs = [] := List.eq_nil_of_length_eq_zero hlen
      refine ⟨W, ?_, ⟨hok, inner, hown, hr⟩, World.grownBy.refl W _⟩
      rcases hown.2 with ⟨rfl, _⟩ | ⟨g, cap, cur, rfl, _⟩
      · exact run_copy_none W t t o.type e _ _ _ _ _ _ ht hinfo (by simp)
      · exact run_copy_none W t t o.type e _ _ _ _ _ _ ht hinfo (by simp)
    · rcases hown.2 with ⟨rfl, hn⟩ | ⟨g, cap, cur, rfl, hg, hh, hnc, hcm, hcs, htk⟩
      · omega
      · obtain ⟨ad, rfl, hcell⟩ := HR.2.2 (by omega)
        have hcells : ∀ j u, (ys.map (Value.int .i64))[j]? = some u → W.cell? (ad.add j) = some u := by
          intro j u hu
          rw [List.getElem?_map] at hu
          obtain ⟨y, hy, rfl⟩ := Option.map_eq_some_iff.1 hu
          obtain ⟨cc, hl, hk, hu2⟩ := hcell j y hy
          have hk' : cc = [.int .i64 y] := hk
          have h2 := hu2 0 (.int .i64 y) (by rw [hk']; rfl)
          rwa [show j * (Kd.int .i64).sz + 0 = j from by simp [Kd.int, Kd.scalar]] at h2
        have hil : inner.length = (ys.map (Value.int .i64)).length := by
          rw [hown.1, List.length_map]; omega
        have hset := own_setCells (ys.map (Value.int .i64)) inner [] W hil (by simpa using hown)
        simp only [List.length_nil, List.nil_append] at hset
        refine ⟨_, ?_, ⟨hok, _, by rw [hm, ← hlen]; exact hset.1, ?_⟩, hset.2⟩
        · have := run_copy_cells (P := P) W t t o.type e g 0 xs.length cap ad m c (ys.map (Value.int .i64)) ht hinfo (by rw [List.length_map, hm, hlen]; simp) hcells
            (fun j hj => by
              rw [List.length_map] at hj
              have hjc : j < cur.size := by rw [hcs]; omega
              rw [Nat.zero_add]
              unfold World.cell?
              rw [hh]
              simp [hjc])
            (fun j hj => by
              rw [Nat.zero_add]
              unfold World.frozen?
              rw [hh]
              simp)
            (fun u hu => by
              obtain ⟨y, _, rfl⟩ := List.mem_map.1 hu
              rfl)
          rw [List.length_map, hm] at this
          exact this
        · exact Kd.reps_scalar (enc := Value.int .i64) ys
  obtain ⟨w1, hrun, hR, hgr⟩ := hrun
  refine wpList_plain hgd fun K hK => ?_
  unfold Oper.wp execOp
  simp only [ho, resolve, invoke, builtin, Sem.run_bind, Sem.run_pure, Result.andThen_ok, List.map_toArray, List.map_cons, List.map_nil, hs, hx, hrun]
  exact hK _ _ (h v w1 rfl hR (HB.grown hgr hbase (own_base hown)) hgr (.inl rfl))
end
end Go.Proofs.YtjjbdgngncgikaaGreatDoor
