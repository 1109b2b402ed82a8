/-
  REGIONS THAT DRAW THEIR ORDER, part 2: one operation, wherever it comes up.
-/
import Derived.Test.YtpbpebjfglfjfaaGreatDoorX14
set_option autoImplicit false
set_option linter.unusedVariables false
set_option linter.unusedSimpArgs false
namespace Go.Proofs.YtpbpebjfglfjfaaGreatDoor.X
open Go Go.RowKit
section
variable {E : Env} {st : SE E}
/-- the operands of an operation, as it looks at them -/
def opsOf (o : Oper) : List Operand := o.op.operands.toList
/-- What an operation does, told apart from where it stands: it adds blocks, it sets blocks fast, it yields a value; wherever its operands are the same and what it reads is the same, it does the same. -/
def Loc (E : Env) (L : List Operand) (nb : Nat) (F : SE E → Option (VE E × SE E)) (st : SE E) (v : VE E) (st' : SE E) (nomem : Prop) : Prop :=
  ∃ (news : List (Nat × Blk E.T.A)) (fr : List Nat), st'.hp = news ++ freeze st.hp fr ∧ st'.env = st.env ∧ st'.stk = st.stk ∧ (∀ p ∈ news, nb ≤ p.1 ∧ p.1 < nb + 64) ∧ (∀ i ∈ fr, ∃ x ∈ L, i ∈ deep st.hp (st.ev x)) ∧ (nomem → news = [] ∧ fr = []) ∧
    ∀ s : SE E, (∀ x ∈ L, s.ev x = st.ev x) → (nomem ∨ ∀ x ∈ L, Reads st s (deep st.hp (st.ev x))) → ∃ s', F s = some (v, s') ∧ s'.env = s.env ∧ s'.stk = s.stk ∧ s'.hp = news ++ freeze s.hp fr
theorem ids_mono {A : Nat → Type} : ∀ (n : Nat) (v : V A) (i : Nat), i ∈ v.ids n → i ∈ v.ids (n + 1)
  | 0, v, i, h => by cases h
  | n + 1, v, i, h => by
    have hh : i ∈ V.ids1 (V.ids n) v := h
    show i ∈ V.ids1 (V.ids (n + 1)) v
    cases v with
    | agg l => obtain ⟨x, hx, hi⟩ := List.mem_flatMap.1 hh; exact List.mem_flatMap.2 ⟨x, hx, ids_mono n x i hi⟩
    | tup l => obtain ⟨x, hx, hi⟩ := List.mem_flatMap.1 hh; exact List.mem_flatMap.2 ⟨x, hx, ids_mono n x i hi⟩
    | fn f l => obtain ⟨x, hx, hi⟩ := List.mem_flatMap.1 hh; exact List.mem_flatMap.2 ⟨x, hx, ids_mono n x i hi⟩
    | meth f l => obtain ⟨x, hx, hi⟩ := List.mem_flatMap.1 hh; exact List.mem_flatMap.2 ⟨x, hx, ids_mono n x i hi⟩
    | _ => exact hh
theorem hid_ids {A : Nat → Type} (v : V A) (n i : Nat) (h : i ∈ hid v) : i ∈ v.ids (n + 1) := by
  cases v with
  | own j => exact h
  | ptr j o => exact h
  | elt e j a o => exact h
  | mapr j => exact h
  | _ => cases h
theorem cells_ids {A : Nat → Type} (v : V A) (i : Nat) (h : i ∈ v.cells.flatMap (V.ids 2)) : i ∈ v.ids 3 := by
  cases v with
  | agg l => exact h
  | _ => (have h : i ∈ (V.ids 2 _ ++ [] : List Nat) := h; rw [List.append_nil] at h; exact ids_mono 2 _ i h)
theorem ids_deep {A : Nat → Type} {hp : List (Nat × Blk A)} {v : V A} {i : Nat} (h : i ∈ v.ids 3) : i ∈ deep hp v := List.mem_append_left _ (ids_mono 3 v i h)
theorem idsAN_mono {A : Nat → Type} {hp : List (Nat × Blk A)} : ∀ (n : Nat) {v : V A}, ∀ i ∈ idsAN hp n v, i ∈ idsAN hp (n + 1) v
  | 0, v, i, hi => by cases hi
  | n + 1, v, i, hi => by
    rw [idsAN_succ] at hi ⊢
    cases v with
    | ptr k o =>
      have hi : i ∈ k :: (cellsOf (look hp k)).flatMap (idsAN hp n) := hi
      show i ∈ k :: (cellsOf (look hp k)).flatMap (idsAN hp (n + 1))
      rcases List.mem_cons.1 hi with rfl | hi
      · exact List.mem_cons_self ..
      · obtain ⟨x, hx, hi⟩ := List.mem_flatMap.1 hi
        exact List.mem_cons_of_mem _ (List.mem_flatMap.2 ⟨x, hx, idsAN_mono n i hi⟩)
    | fn f caps =>
      have hi : i ∈ caps.flatMap (idsAN hp n) := hi
      show i ∈ caps.flatMap (idsAN hp (n + 1))
      obtain ⟨x, hx, hi⟩ := List.mem_flatMap.1 hi
      exact List.mem_flatMap.2 ⟨x, hx, idsAN_mono n i hi⟩
    | _ => exact hi
theorem idsA_deep {A : Nat → Type} {hp : List (Nat × Blk A)} {v : V A} {i : Nat} (h : i ∈ idsA hp v) : i ∈ deep hp v := List.mem_append_right _ (idsAN_mono 6 i h)
theorem idsA_caught {A : Nat → Type} {hp : List (Nat × Blk A)} {f : Nat} {caps : List (V A)} {x : V A} {i : Nat} (hx : x ∈ caps) (h : i ∈ idsA hp x) : i ∈ deep hp (.fn f caps) := List.mem_append_right _ (List.mem_flatMap.2 ⟨x, hx, h⟩)
theorem reads_sub {s : SE E} {a b : List Nat} (h : Reads st s b) (hab : ∀ i ∈ a, i ∈ b) : Reads st s a := fun i hi => h i (hab i hi)
/-- nothing is added -/
theorem loc_val {L : List Operand} {nb : Nat} {F : SE E → Option (VE E × SE E)} {v : VE E} {nomem : Prop} (h : ∀ s : SE E, (∀ x ∈ L, s.ev x = st.ev x) → (nomem ∨ ∀ x ∈ L, Reads st s (deep st.hp (st.ev x))) → F s = some (v, s)) : Loc E L nb F st v st nomem :=
  ⟨[], [], rfl, rfl, rfl, fun p hp => (by cases hp), fun i hi => (by cases hi), fun _ => ⟨rfl, rfl⟩, fun s h1 h2 => ⟨s, h s h1 h2, rfl, rfl, rfl⟩⟩
theorem bind_some_pair {α : Type} {z : Option α} {st : SE E} {p : α × SE E} (h : (z.bind fun v => some (v, st)) = some p) : z = some p.1 ∧ p.2 = st := by
  cases z with
  | none => cases h
  | some x => obtain rfl := Option.some.inj h; exact ⟨rfl, rfl⟩
theorem opv_loc {o : Oper} {nb : Nat} {v : VE E} {st' : SE E} (hc : cls o ≠ .W) (hcal : callee o = none) (h : opv E st o nb (fun v s => some (v, s)) = some (v, st')) : Loc E (opsOf o) nb (fun s => opv E s o nb fun v s => some (v, s)) st v st' (cls o = .P) := by
  by_cases hP : cls o = .P
  · rw [opvP o hP] at h
    obtain ⟨h1, h2⟩ := bind_some_pair h
    dsimp only at h1 h2
    subst h2
    refine loc_val fun s hs _ => ?_
    rw [opvP o hP, valP_congr o hs, h1]; rfl
  · unfold opsOf
    unfold cls at hc hP
    cases ho : o.op with
    | load t x =>
      have e : ∀ s : SE E, opv E s o nb (fun v s => some (v, s)) = (loadV E s t (s.ev x) some).bind fun v => some (v, s) := fun s => by unfold opv; rw [ho]; exact loadV_par _ _ _
      rw [e st] at h
      obtain ⟨h1, h2⟩ := bind_some_pair h
      dsimp only at h1 h2
      subst h2
      refine loc_val fun s hs hr => ?_
      rcases hr with hr | hr
      · exact absurd hr hP
      · rw [e s, hs x (by simp [Op.operands]), loadV_st (reads_sub (hr x (by simp [Op.operands])) fun i hi => ids_deep (hid_ids _ 2 i hi)) h1]; rfl
    | indexAddr t x i =>
      have e : ∀ s : SE E, opv E s o nb (fun v s => some (v, s)) = (indexAddrV E s t (s.ev x) (s.ev i) some).bind fun v => some (v, s) := fun s => by unfold opv; rw [ho]; exact indexAddrV_par _ _ _ _
      rw [e st] at h
      obtain ⟨h1, h2⟩ := bind_some_pair h
      dsimp only at h1 h2
      subst h2
      refine loc_val fun s hs hr => ?_
      rcases hr with hr | hr
      · exact absurd hr hP
      · rw [e s, hs x (by simp [Op.operands]), hs i (by simp [Op.operands]), indexAddrV_st (reads_sub (hr x (by simp [Op.operands])) fun i hi => ids_deep (hid_ids _ 2 i hi)) h1]; rfl
    | lookup t x k ok =>
      have e : ∀ s : SE E, opv E s o nb (fun v s => some (v, s)) = (lookupV E s t (s.ev x) (s.ev k) ok some).bind fun v => some (v, s) := fun s => by unfold opv; rw [ho]; exact lookupV_par _ _ _ _ _
      rw [e st] at h
      obtain ⟨h1, h2⟩ := bind_some_pair h
      dsimp only at h1 h2
      subst h2
      refine loc_val fun s hs hr => ?_
      rcases hr with hr | hr
      · exact absurd hr hP
      · rw [e s, hs x (by simp [Op.operands]), hs k (by simp [Op.operands]), lookupV_st (reads_sub (hr x (by simp [Op.operands])) fun i hi => ids_deep (hid_ids _ 2 i hi)) h1]; rfl
    | makeMap t rs =>
      cases rs with
      | some _ => unfold opv at h; rw [ho] at h; cases h
      | none =>
        unfold opv at h ⊢
        rw [ho] at h
        dsimp only at h
        obtain ⟨rfl, rfl⟩ := Prod.mk.inj (Option.some.inj h)
        refine ⟨[(nb, .map (newM E.T E.P t) false)], [], rfl, rfl, rfl, fun p hp => ?_, fun i hi => (by cases hi), fun hp => absurd hp hP, fun s _ _ => ?_⟩
        · simp only [List.mem_singleton] at hp; subst hp; exact ⟨Nat.le_refl _, by show nb < nb + 64; omega⟩
        · simp only [ho]; exact ⟨_, rfl, rfl, rfl, rfl⟩
    | alloc t =>
      unfold opv at h ⊢
      rw [ho] at h
      dsimp only at h
      split at h
      · rename_i z hz
        obtain ⟨rfl, rfl⟩ := Prod.mk.inj (Option.some.inj h)
        refine ⟨[(nb, .var z false)], [], rfl, rfl, rfl, fun p hp => ?_, fun i hi => (by cases hi), fun hp => absurd hp hP, fun s _ _ => ?_⟩
        · simp only [List.mem_singleton] at hp; subst hp; exact ⟨Nat.le_refl _, by show nb < nb + 64; omega⟩
        · simp only [ho, hz]; exact ⟨_, rfl, rfl, rfl, rfl⟩
      · cases h
    | box t x =>
      unfold opv at h ⊢
      rw [ho] at h
      dsimp only at h
      split at h
      · rename_i h1 h2
        obtain ⟨rfl, rfl⟩ := Prod.mk.inj (Option.some.inj h)
        refine ⟨[(nb, .var (st.ev x).cells false)], [], rfl, rfl, rfl, fun p hp => ?_, fun i hi => (by cases hi), fun hp => absurd hp hP, fun s hs _ => ?_⟩
        · simp only [List.mem_singleton] at hp; subst hp; exact ⟨Nat.le_refl _, by show nb < nb + 64; omega⟩
        · simp only [ho, hs x (by simp [Op.operands]), h1, h2]; exact ⟨_, rfl, rfl, rfl, rfl⟩
      · cases h
    | buildSlice t n ps =>
      have e : ∀ (s : SE E) (K : VE E → SE E → Option (VE E × SE E)), opv E s o nb K = buildSliceV E s nb t n (partsV s ps.toList) K := fun s K => by unfold opv; rw [ho]
      rw [e] at h
      unfold buildSliceV at h
      split at h
      · cases h
      · rename_i el he
        split at h
        · rename_i l g1 g2 g3 g4
          obtain ⟨rfl, rfl⟩ := Prod.mk.inj (Option.some.inj h)
          refine ⟨[(nb, .row el l false)], (partsV st ps.toList).flatMap fun p => p.2.cells.flatMap (V.ids 2), rfl, rfl, rfl, fun p hp => ?_, fun i hi => ?_, fun hp => absurd hp hP, fun s hs hr => ?_⟩
          · simp only [List.mem_singleton] at hp; subst hp; exact ⟨Nat.le_refl _, by show nb < nb + 64; omega⟩
          · obtain ⟨p, hp, hi⟩ := List.mem_flatMap.1 hi
            obtain ⟨q, hq, rfl⟩ := List.mem_map.1 hp
            exact ⟨q.2, by simp only [Op.operands, List.mem_map]; exact ⟨q, hq, rfl⟩, ids_deep (cells_ids _ i hi)⟩
          · rcases hr with hr | hr
            · exact absurd hr hP
            · have hparts : partsV s ps.toList = partsV st ps.toList := by
                unfold partsV
                apply List.map_congr_left
                intro q hq
                rw [hs q.2 (by simp only [Op.operands, List.mem_map]; exact ⟨q, hq, rfl⟩)]
              have hlit : litV E.T E.P s.hp el (partsV st ps.toList) 0 = some l := by
                have key : ∀ (l : List (Nat × VE E)) (n : Nat) (m : List (E.T.A el)), (∀ p ∈ l, ∀ i ∈ p.2.cells.flatMap (V.ids 2), (look st.hp i).isSome → Same (look s.hp i) (look st.hp i)) → litV E.T E.P st.hp el l n = some m → litV E.T E.P s.hp el l n = some m := by
                  intro l
                  induction l with
                  | nil => intro n m _ h; exact h
                  | cons p l ih =>
                    intro n m hp h
                    have h : lit1 E.T E.P st.hp el p n (litV E.T E.P st.hp el l (n + 1)) = some m := h
                    show lit1 E.T E.P s.hp el p n (litV E.T E.P s.hp el l (n + 1)) = some m
                    unfold lit1 at h ⊢
                    split at h
                    · rename_i cs k1 k2 k3 k4
                      split at h
                      · rename_i x m2 hx hm2
                        simp only [k1, k2, k3, shutL_st (hp p (by simp)) k4, hx, ih (n + 1) m2 (fun q hq => hp q (List.mem_cons_of_mem _ hq)) hm2]
                        exact h
                      · cases h
                    · cases h
                refine key _ 0 l (fun p hp i hi => ?_) g4
                obtain ⟨q, hq, rfl⟩ := List.mem_map.1 hp
                exact hr q.2 (by simp only [Op.operands, List.mem_map]; exact ⟨q, hq, rfl⟩) i (ids_deep (cells_ids _ i hi))
              dsimp only
              rw [e, hparts]
              unfold buildSliceV
              simp only [he, g1, g2, g3, hlit]
              exact ⟨_, rfl, rfl, rfl, rfl⟩
        · cases h
    | makeSlice t a b =>
      have e : ∀ (s : SE E) (K : VE E → SE E → Option (VE E × SE E)), opv E s o nb K = makeSliceV E s nb t (s.ev a) (s.ev b) K := fun s K => by unfold opv; rw [ho]
      rw [e] at h
      unfold makeSliceV at h
      split at h
      · rename_i el k1 n k2 c he hn hcc
        split at h
        · rename_i z g1 g2
          split at h
          · rename_i y hy
            split at h
            · split at h
              · split at h
                · rename_i c1 c2 c3
                  obtain ⟨rfl, rfl⟩ := Prod.mk.inj (Option.some.inj h)
                  refine ⟨[(nb, .row el (List.replicate n.toNat y) false)], [], rfl, rfl, rfl, fun p hp => ?_, fun i hi => (by cases hi), fun hp => absurd hp hP, fun s hs _ => ?_⟩
                  · simp only [List.mem_singleton] at hp; subst hp; exact ⟨Nat.le_refl _, by show nb < nb + 64; omega⟩
                  · dsimp only
                    rw [e, hs a (by simp [Op.operands]), hs b (by simp [Op.operands]), hn, hcc]
                    unfold makeSliceV
                    simp only [he, g1, g2, hy, c1, c2, c3, if_true]
                    exact ⟨_, rfl, rfl, rfl, rfl⟩
                · cases h
              · cases h
            · cases h
          · cases h
        · cases h
      · cases h
    | slice t x lo hi mx =>
      cases mx with
      | some m => unfold opv at h; rw [ho] at h; cases h
      | none =>
        have e : ∀ (s : SE E) (K : VE E → SE E → Option (VE E × SE E)), opv E s o nb K = sliceV E s t (s.ev x) (lo.map s.ev) (hi.map s.ev) K := fun s K => by unfold opv; rw [ho]
        have hmem : ∀ y, (y = x ∨ lo = some y ∨ hi = some y) → y ∈ (Op.slice t x lo hi none).operands.toList := by
          intro y hy
          rcases hy with rfl | rfl | rfl <;> simp [Op.operands]
        have hlo : ∀ s : SE E, (∀ y ∈ (Op.slice t x lo hi none).operands.toList, s.ev y = st.ev y) → lo.map s.ev = lo.map st.ev ∧ hi.map s.ev = hi.map st.ev := fun s hs => by
          refine ⟨?_, ?_⟩
          · cases lo with
            | none => rfl
            | some y => simp only [Option.map_some]; rw [hs y (hmem y (.inr (.inl rfl)))]
          · cases hi with
            | none => rfl
            | some y => simp only [Option.map_some]; rw [hs y (hmem y (.inr (.inr rfl)))]
        rw [e] at h
        unfold sliceV at h
        split at h
        · rename_i s0 hu hx
          rw [bounds_par] at h
          obtain ⟨⟨p, q⟩, hb, h⟩ := Option.bind_eq_some_iff.1 h
          obtain ⟨rfl, rfl⟩ := Prod.mk.inj (Option.some.inj h)
          refine loc_val fun s hs _ => ?_
          dsimp only
          rw [e, (hlo s hs).1, (hlo s hs).2, hs x (hmem x (.inl rfl)), hx]
          unfold sliceV
          simp only [hu]
          rw [bounds_par, hb]; rfl
        · rename_i e' el l hu hx
          split at h
          · rename_i hee
            rw [bounds_par] at h
            obtain ⟨⟨p, q⟩, hb, h⟩ := Option.bind_eq_some_iff.1 h
            obtain ⟨rfl, rfl⟩ := Prod.mk.inj (Option.some.inj h)
            refine loc_val fun s hs _ => ?_
            dsimp only
            rw [e, (hlo s hs).1, (hlo s hs).2, hs x (hmem x (.inl rfl)), hx]
            unfold sliceV
            simp only [hu, hee]
            rw [bounds_par, hb]; rfl
          · cases h
        · rename_i e' id hu hx
          split at h
          · rename_i el l z hbk
            split at h
            · rename_i hee
              rw [bounds_par] at h
              obtain ⟨⟨p, q⟩, hb, h⟩ := Option.bind_eq_some_iff.1 h
              obtain ⟨rfl, rfl⟩ := Prod.mk.inj (Option.some.inj h)
              refine ⟨[], [id], rfl, rfl, rfl, fun p hp => (by cases hp), fun i hi => ?_, fun hp => absurd hp hP, fun s hs hr => ?_⟩
              · simp only [List.mem_singleton] at hi; subst hi
                exact ⟨x, hmem x (.inl rfl), by rw [hx]; exact ids_deep (hp := st.hp) (List.mem_singleton.2 rfl)⟩
              · rcases hr with hr | hr
                · exact absurd hr hP
                · have hrd := hr x (hmem x (.inl rfl)) id (by rw [hx]; exact ids_deep (hp := st.hp) (List.mem_singleton.2 rfl)) (by rw [hbk]; rfl)
                  obtain ⟨z', h2⟩ := same_row hrd hbk
                  dsimp only
                  rw [e, (hlo s hs).1, (hlo s hs).2, hs x (hmem x (.inl rfl)), hx]
                  unfold sliceV
                  simp only [hu, h2, hee]
                  rw [bounds_par, hb]
                  exact ⟨_, rfl, rfl, rfl, rfl⟩
            · cases h
          · cases h
        · cases h
    | call c =>
      rw [ho] at hc hP
      dsimp only at hc hP
      unfold callee at hcal
      rw [ho] at hcal
      dsimp only at hcal
      cases hk : c.callee with
      | builtin b =>
        rw [hk] at hc hP
        cases b with
        | len =>
          unfold opv at h
          rw [ho] at h
          simp only [hk] at h
          split at h
          · rename_i x t hx ht
            rw [lenV_par] at h
            obtain ⟨h1, h2⟩ := bind_some_pair h
            dsimp only at h1 h2
            subst h2
            have hmem : x ∈ (Op.call c).operands.toList := by simp [Op.operands, Call.operands, hx]
            refine loc_val fun s hs hr => ?_
            rcases hr with hr | hr
            · exact absurd hr (by simp [cls, ho, hk])
            · unfold opv
              simp only [ho, hk, hx, ht]
              rw [lenV_par, hs x hmem, lenV_st (reads_sub (hr x hmem) fun i hi => ids_deep (hid_ids _ 2 i hi)) h1]; rfl
          · cases h
        | max => exact absurd rfl hP
        | min => exact absurd rfl hP
        | _ => exact absurd rfl hc
      | value f => rw [hk] at hcal; cases hcal
      | invoke a b => rw [hk] at hc; exact absurd rfl hc
    | _ => rw [ho] at hc hP; first | exact absurd rfl hP | exact absurd rfl hc
theorem look_append {α : Type} (a b : List (Nat × α)) (t : Nat) : look (a ++ b) t = match look a t with | some x => some x | none => look b t := by
  induction a with
  | nil => rfl
  | cons p a ih =>
    rw [List.cons_append, look_cons, look_cons, ih]
    by_cases h : p.1 = t
    · simp [h]
    · simp [h]
theorem appHp_eq (nb : Nat) (f : Nat → Option Nat) (old l : List (Nat × Blk E.T.A)) : appHp nb f old l = (l.map fun p => (nb + p.1, p.2.ren f)) ++ old := by
  induction l with
  | nil => rfl
  | cons p l ih =>
    show (nb + p.1, p.2.ren f) :: appHp nb f old l = _
    rw [ih]; rfl
theorem maxK_mem : ∀ (l : List (Nat × Blk E.T.A)) (p : Nat × Blk E.T.A), p ∈ l → p.1 < maxK l
  | [], p, h => by cases h
  | q :: l, p, h => by
    show p.1 < Nat.max (q.1 + 1) (maxK l)
    rcases List.mem_cons.1 h with rfl | h
    · have := Nat.le_max_left (p.1 + 1) (maxK l); show p.1 < max (p.1 + 1) (maxK l); omega
    · have := maxK_mem l p h
      have := Nat.le_max_right (q.1 + 1) (maxK l); show p.1 < max (q.1 + 1) (maxK l); omega
/-- what comes back of a call, taken over wherever -/
theorem absorb_loc {nb : Nat} {fr : List Nat} {r : Res E.T.A} {v : VE E} {st' : SE E} (h : absorb E st nb fr r (fun v s => some (v, s)) = some (v, st')) :
    ∃ (news : List (Nat × Blk E.T.A)) (fr' : List Nat), st'.hp = news ++ freeze st.hp fr' ∧ st'.env = st.env ∧ st'.stk = st.stk ∧ (∀ p ∈ news, nb ≤ p.1 ∧ p.1 < nb + 64) ∧ (fr' = fr ∨ fr' = []) ∧
      ∀ s : SE E, ∃ s', absorb E s nb fr r (fun v s => some (v, s)) = some (v, s') ∧ s'.env = s.env ∧ s'.stk = s.stk ∧ s'.hp = news ++ freeze s.hp fr' := by
  unfold absorb at h ⊢
  split at h
  · split at h
    · rw [force_eq] at h
      obtain ⟨rfl, rfl⟩ := Prod.mk.inj (Option.some.inj h)
      exact ⟨[], [], rfl, rfl, rfl, fun p hp => (by cases hp), .inr rfl, fun s => ⟨s, by rw [force_eq], rfl, rfl, rfl⟩⟩
    · split at h
      · rw [force_eq] at h
        obtain ⟨rfl, rfl⟩ := Prod.mk.inj (Option.some.inj h)
        exact ⟨[], fr, rfl, rfl, rfl, fun p hp => (by cases hp), .inl rfl, fun s => ⟨{ s with hp := freeze s.hp fr }, by rw [force_eq], rfl, rfl, rfl⟩⟩
      · cases h
  · rename_i b bs hb
    split at h
    · rename_i hmax
      have hmax := Nat.le_of_ble_eq_true hmax
      rw [force_eq] at h
      obtain ⟨rfl, rfl⟩ := Prod.mk.inj (Option.some.inj h)
      refine ⟨(b :: bs).map fun p => (nb + p.1, p.2.ren (moved nb (b :: bs))), fr, appHp_eq nb (moved nb (b :: bs)) (freeze st.hp fr) (b :: bs), rfl, rfl, fun p hp => ?_, .inl rfl, fun s => ⟨{ s with hp := appHp nb (moved nb (b :: bs)) (freeze s.hp fr) (b :: bs), nx := nb + maxK (b :: bs) }, by rw [force_eq], rfl, rfl, appHp_eq nb (moved nb (b :: bs)) (freeze s.hp fr) (b :: bs)⟩⟩
      obtain ⟨q, hq, rfl⟩ := List.mem_map.1 hp
      have := maxK_mem (b :: bs) q hq
      exact ⟨Nat.le_add_right _ _, by show nb + q.1 < nb + 64; omega⟩
    · cases h
theorem retD_st {ih : Rec E} {s : SE E} {f : Nat} {args : List (VE E)} {r : Res E.T.A} (hs : Reads st s (frA st.hp args)) (h : retD E ih st f args = some r) : retD E ih s f args = some r := by
  unfold retD at h ⊢
  split at h
  · split at h
    · rename_i as ha
      rw [shutAL_st hs ha]; exact h
    · cases h
  · split at h
    · cases h
    · split at h
      · cases h
      · split at h
        · rename_i as ha
          rw [shutAL_st hs ha]; exact h
        · cases h
theorem retD_shut {ih : Rec E} {f : Nat} {args : List (VE E)} {r : Res E.T.A} (h : retD E ih st f args = some r) : ∃ m, shutAL st.hp args = some m := by
  unfold retD at h
  split at h
  · split at h
    · rename_i m hm; exact ⟨m, hm⟩
    · cases h
  · split at h
    · cases h
    · split at h
      · cases h
      · split at h
        · rename_i m hm; exact ⟨m, hm⟩
        · cases h
/-- THE OPERATION, whatever it is (no store, no append). -/
theorem opD_loc {ih : Rec E} {o : Oper} {nb : Nat} {v : VE E} {st' : SE E} (hc : cls o ≠ .W) (h : opD E ih o nb st (fun v s => some (v, s)) = some (v, st')) : Loc E (opsOf o) nb (fun s => opD E ih o nb s fun v s => some (v, s)) st v st' (cls o = .P) := by
  cases hcal : callee o with
  | none =>
    have e : ∀ s : SE E, opD E ih o nb s (fun v s => some (v, s)) = opv E s o nb (fun v s => some (v, s)) := fun s => by unfold opD; rw [hcal]
    rw [e] at h
    obtain ⟨news, fr, h1, h2, h3, h4, h5, h6, h7⟩ := opv_loc hc hcal h
    exact ⟨news, fr, h1, h2, h3, h4, h5, h6, fun s hs hr => by obtain ⟨s', g1, g2⟩ := h7 s hs hr; exact ⟨s', by dsimp only; rw [e]; exact g1, g2⟩⟩
  | some p =>
    obtain ⟨fo, args⟩ := p
    have hop : ∃ c : Call, o.op = .call c ∧ c.callee = .value fo ∧ c.args = args := by
      unfold callee at hcal
      split at hcal
      · rename_i c ho
        split at hcal
        · rename_i fo' hk
          simp only [Option.some.injEq, Prod.mk.injEq] at hcal
          exact ⟨c, ho, by rw [hk, hcal.1], hcal.2⟩
        · cases hcal
      · cases hcal
    obtain ⟨c, ho, hk, rfl⟩ := hop
    have hP : cls o ≠ .P := by unfold cls; rw [ho]; dsimp only; rw [hk]; intro h; cases h
    have e : ∀ s : SE E, opD E ih o nb s (fun v s => some (v, s)) = callD E ih s nb (s.ev fo) (c.args.toList.map s.ev) (fun v s => some (v, s)) := fun s => by unfold opD; rw [hcal]
    have hfo : fo ∈ opsOf o := by unfold opsOf; rw [ho]; simp [Op.operands, Call.operands, hk]
    have hargs : ∀ x ∈ c.args.toList, x ∈ opsOf o := fun x hx => by unfold opsOf; rw [ho]; simp only [Op.operands, Call.operands, Array.toList_append, List.mem_append]; exact .inr hx
    rw [e] at h
    unfold callD at h
    split at h
    · rename_i f caps hf
      rw [retK_eq] at h
      obtain ⟨r, hr, habs⟩ := Option.bind_eq_some_iff.1 h
      obtain ⟨news, fr, h1, h2, h3, h4, h5, h6⟩ := absorb_loc habs
      have hids : ∀ i ∈ frA st.hp (c.args.toList.map st.ev ++ caps), ∃ x ∈ opsOf o, i ∈ deep st.hp (st.ev x) := fun i hi => by
        obtain ⟨x, hx, hi⟩ := List.mem_flatMap.1 hi
        rcases List.mem_append.1 hx with hx | hx
        · obtain ⟨y, hy, rfl⟩ := List.mem_map.1 hx
          exact ⟨y, hargs y hy, idsA_deep hi⟩
        · exact ⟨fo, hfo, by rw [hf]; exact idsA_caught hx hi⟩
      refine ⟨news, fr, h1, h2, h3, h4, fun i hi => ?_, fun hp => absurd hp hP, fun s hs hrd => ?_⟩
      · rcases h5 with rfl | rfl
        · exact hids i hi
        · cases hi
      · rcases hrd with hrd | hrd
        · exact absurd hrd hP
        · have hev : c.args.toList.map s.ev = c.args.toList.map st.ev := List.map_congr_left fun x hx => hs x (hargs x hx)
          obtain ⟨s', g1, g2⟩ := h6 s
          refine ⟨s', ?_, g2⟩
          dsimp only
          rw [e, hs fo hfo, hf, hev]
          unfold callD
          dsimp only
          rw [retK_eq]
          have hsame : ∀ i ∈ frA st.hp (c.args.toList.map st.ev ++ caps), (look st.hp i).isSome → Same (look s.hp i) (look st.hp i) := fun i hi hl => by obtain ⟨x, hx, hxi⟩ := hids i hi; exact hrd x hx i hxi hl
          obtain ⟨m, hm⟩ := retD_shut hr
          rw [retD_st hsame hr, frA_same hsame hm]
          exact g1
    · cases h
end
end Go.Proofs.YtpbpebjfglfjfaaGreatDoor.X
