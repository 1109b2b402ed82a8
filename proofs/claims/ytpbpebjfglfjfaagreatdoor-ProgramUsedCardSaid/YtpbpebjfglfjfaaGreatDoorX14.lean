/-
  REGIONS THAT DRAW THEIR ORDER, part 1: what one operation looks at, and what it adds.
-/
import Derived.Test.YtpbpebjfglfjfaaGreatDoorX13
set_option autoImplicit false
set_option linter.unusedVariables false
set_option linter.unusedSimpArgs false
namespace Go.Proofs.YtpbpebjfglfjfaaGreatDoor.X
open Go Go.RowKit
section
variable {A : Nat → Type} {R : Type}
theorem intOp_par (op : BinOp) (k j : IntKind) (x y : Int) (K : V A → Option R) : intOp op k j x y K = (intOp op k j x y some).bind K := by
  unfold intOp; repeat' (first | rfl | split)
theorem strOp_par (op : BinOp) (x y : ByteArray) (K : V A → Option R) : strOp op x y K = (strOp op x y some).bind K := by
  unfold strOp; repeat' (first | rfl | split)
theorem nilOp_par (op : BinOp) (b : Option Bool) (K : V A → Option R) : nilOp op b K = (nilOp op b some).bind K := by
  unfold nilOp; repeat' (first | rfl | split)
theorem binV_par (P : Program) (op : BinOp) (t : Nat) (x y : V A) (K : V A → Option R) : binV P op t x y K = (binV P op t x y some).bind K := by
  unfold binV
  split
  · exact intOp_par _ _ _ _ _ _
  · exact strOp_par _ _ _ _
  all_goals repeat' (first | rfl | exact nilOp_par _ _ _ | split)
theorem unV_par (op : UnOp) (x : V A) (K : V A → Option R) : unV op x K = (unV op x some).bind K := by
  unfold unV; repeat' (first | rfl | split)
theorem convV_par (P : Program) (s t : Nat) (x : V A) (K : V A → Option R) : convV P s t x K = (convV P s t x some).bind K := by
  unfold convV; repeat' (first | rfl | split)
theorem force_par (v : V A) (K : V A → Option R) : v.force K = (v.force some).bind K := by cases v <;> rfl
theorem fieldAddrV_par (P : Program) (s f : Nat) (x : V A) (K : V A → Option R) : fieldAddrV P s f x K = (fieldAddrV P s f x some).bind K := by
  unfold fieldAddrV; repeat' (first | rfl | split)
theorem fieldV_par (P : Program) (s f : Nat) (x : V A) (K : V A → Option R) : fieldV P s f x K = (fieldV P s f x some).bind K := by
  unfold fieldV
  split
  · split
    · exact force_par _ _
    · rfl
  · rfl
theorem indexV_par (P : Program) (t : Nat) (x i : V A) (K : V A → Option R) : indexV P t x i K = (indexV P t x i some).bind K := by
  unfold indexV
  split
  · repeat' (first | rfl | split)
  · split
    · split
      · split
        · exact force_par _ _
        · rfl
      · rfl
    · rfl
  · rfl
theorem buildV_par (P : Program) (t : Nat) (ps : List (Nat × V A)) (K : V A → Option R) : buildV P t ps K = (buildV P t ps some).bind K := by
  unfold buildV; repeat' (first | rfl | split)
theorem extremeV_par (g : Int → Int → Int) (xs : List (V A)) (K : V A → Option R) : extremeV g xs K = (extremeV g xs some).bind K := by
  unfold extremeV; repeat' (first | rfl | split)
end
section
variable {E : Env} {R : Type} {st : SE E}
theorem loadV_par (t : Nat) (a : VE E) (K : VE E → Option R) : loadV E st t a K = (loadV E st t a some).bind K := by
  unfold loadV
  split
  · split
    · split
      · exact force_par _ _
      · rfl
    · rfl
  · split
    · split
      · split
        · exact force_par _ _
        · rfl
      · rfl
    · rfl
  · split
    · exact force_par _ _
    · rfl
  · rfl
theorem indexAddrV_par (t : Nat) (x i : VE E) (K : VE E → Option R) : indexAddrV E st t x i K = (indexAddrV E st t x i some).bind K := by
  unfold indexAddrV; repeat' (first | rfl | split)
theorem lenV_par (t : Nat) (x : VE E) (K : VE E → Option R) : lenV E st t x K = (lenV E st t x some).bind K := by
  unfold lenV; repeat' (first | rfl | split)
theorem bounds_par {A : Nat → Type} (lo hi : Option (V A)) (n : Nat) (k : Nat → Nat → Option R) : boundsV lo hi n k = (boundsV lo hi n fun a b => some (a, b)).bind fun p => k p.1 p.2 := by
  unfold boundsV; repeat' (first | rfl | split)
/-- the same but for being set fast -/
def Same {A : Nat → Type} (a b : Option (Blk A)) : Prop := a.map Blk.freeze = b.map Blk.freeze
theorem same_row {e : Nat} {l : List (E.T.A e)} {z : Bool} {a b : Option (Blk E.T.A)} (h : Same a b) (hb : b = some (.row e l z)) : ∃ z', a = some (.row e l z') := by
  subst hb
  cases a with
  | none => cases h
  | some x =>
    have h : some x.freeze = some (Blk.row e l true) := h
    cases x with
    | var m y => cases h
    | map m y => cases h
    | row e' m y =>
      simp only [Blk.freeze, Option.some.injEq, Blk.row.injEq, and_true] at h
      obtain ⟨rfl, h⟩ := h
      obtain rfl := eq_of_heq h
      exact ⟨y, rfl⟩
theorem same_var {l : List (VE E)} {z : Bool} {a b : Option (Blk E.T.A)} (h : Same a b) (hb : b = some (.var l z)) : ∃ z', a = some (.var l z') := by
  subst hb
  cases a with
  | none => cases h
  | some x =>
    have h : some x.freeze = some (Blk.var l true) := h
    cases x with
    | var m y => simp only [Blk.freeze, Option.some.injEq, Blk.var.injEq, and_true] at h; subst h; exact ⟨y, rfl⟩
    | row e' m y => cases h
    | map m y => cases h
theorem same_map {l : ML E.T.A} {z : Bool} {a b : Option (Blk E.T.A)} (h : Same a b) (hb : b = some (.map l z)) : ∃ z', a = some (.map l z') := by
  subst hb
  cases a with
  | none => cases h
  | some x =>
    have h : some x.freeze = some (Blk.map l true) := h
    cases x with
    | map m y => simp only [Blk.freeze, Option.some.injEq, Blk.map.injEq, and_true] at h; subst h; exact ⟨y, rfl⟩
    | row e' m y => cases h
    | var m y => cases h
/-- what a value names -/
def hid {A : Nat → Type} : V A → List Nat
  | .own i => [i]
  | .ptr i _ => [i]
  | .elt _ i _ _ => [i]
  | .mapr i => [i]
  | _ => []
def Reads (st s : SE E) (ids : List Nat) : Prop := ∀ i ∈ ids, (look st.hp i).isSome → Same (look s.hp i) (look st.hp i)
theorem loadV_st {s : SE E} {t : Nat} {a v : VE E} (hs : Reads st s (hid a)) (h : loadV E st t a some = some v) : loadV E s t a some = some v := by
  unfold loadV at h ⊢
  split at h
  · rename_i i off
    have hs := hs i (by simp [hid])
    split at h
    · rename_i l z hb
      obtain ⟨z', h2⟩ := same_var (hs (by rw [hb]; rfl)) hb
      simp only [h2]; exact h
    · cases h
  · rename_i e i j off
    have hs := hs i (by simp [hid])
    split at h
    · rename_i e' l z hb
      obtain ⟨z', h2⟩ := same_row (hs (by rw [hb]; rfl)) hb
      simp only [h2]; exact h
    · cases h
  · exact h
  · cases h
theorem indexAddrV_st {s : SE E} {t : Nat} {x i v : VE E} (hs : Reads st s (hid x)) (h : indexAddrV E st t x i some = some v) : indexAddrV E s t x i some = some v := by
  unfold indexAddrV at h ⊢
  split at h
  · rename_i hu; (try simp only [hu]); exact h
  · rename_i e' id k n hu
    (try simp only [hu])
    have hs := hs id (by simp [hid])
    split at h
    · rename_i e l z hb
      obtain ⟨z', h2⟩ := same_row (hs (by rw [hb]; rfl)) hb
      simp only [h2]; exact h
    · cases h
  · rename_i hu; (try simp only [hu]); exact h
  · rename_i hu; (try simp only [hu]); exact h
  · cases h
theorem lenV_st {s : SE E} {t : Nat} {x v : VE E} (hs : Reads st s (hid x)) (h : lenV E st t x some = some v) : lenV E s t x some = some v := by
  unfold lenV at h ⊢
  split at h
  · rename_i hu; (try simp only [hu]); exact h
  · rename_i hu; (try simp only [hu]); exact h
  · rename_i hu; (try simp only [hu]); exact h
  · rename_i i hu
    (try simp only [hu])
    have hs := hs i (by simp [hid])
    split at h
    · rename_i e l z hb
      obtain ⟨z', h2⟩ := same_row (hs (by rw [hb]; rfl)) hb
      simp only [h2]; exact h
    · cases h
  · rename_i n e hu
    (try simp only [hu]); exact h
  · rename_i k e i hu
    (try simp only [hu])
    have hs := hs i (by simp [hid])
    split at h
    · rename_i l z hb
      obtain ⟨z', h2⟩ := same_map (hs (by rw [hb]; rfl)) hb
      simp only [h2]; exact h
    · cases h
  · cases h
theorem lookOk_par {A : Nat → Type} (ok : Bool) (v : V A) (b : Bool) (K : V A → Option R) : lookOk ok v b K = (lookOk ok v b some).bind K := by
  unfold lookOk; cases ok <;> first | rfl | exact force_par _ _
theorem lookPl_par (kt vt : Nat) (l : List (VE E × VE E)) (k : VE E) (ok : Bool) (K : VE E → Option R) : lookPl E kt vt l k ok K = (lookPl E kt vt l k ok some).bind K := by
  rw [lookPl_eq, lookPl_eq]; repeat' (first | rfl | exact lookOk_par _ _ _ _ | split)
theorem lookTy_par (kt vt : Nat) (l : List (E.T.A kt × E.T.A vt)) (k : VE E) (ok : Bool) (K : VE E → Option R) : lookTy E kt vt l k ok K = (lookTy E kt vt l k ok some).bind K := by
  unfold lookTy; repeat' (first | rfl | exact lookOk_par _ _ _ _ | split)
theorem lookupV_par (t : Nat) (x k : VE E) (ok : Bool) (K : VE E → Option R) : lookupV E st t x k ok K = (lookupV E st t x k ok some).bind K := by
  unfold lookupV; repeat' (first | rfl | exact lookPl_par _ _ _ _ _ _ | exact lookTy_par _ _ _ _ _ _ | split)
theorem entriesV_st {s : SE E} {x : VE E} {l : ML E.T.A} (hs : Reads st s (hid x)) (h : entriesV E st x = some l) : entriesV E s x = some l := by
  unfold entriesV at h ⊢
  split at h
  · rename_i i
    have hs := hs i (by simp [hid])
    split at h
    · rename_i l z hb
      obtain ⟨z', h2⟩ := same_map (hs (by rw [hb]; rfl)) hb
      simp only [h2]; exact h
    · cases h
  · exact h
  · cases h
theorem lookupV_st {s : SE E} {t : Nat} {x k v : VE E} {ok : Bool} (hs : Reads st s (hid x)) (h : lookupV E st t x k ok some = some v) : lookupV E s t x k ok some = some v := by
  unfold lookupV at h ⊢
  split at h
  · rename_i kt vt hu
    cases he : entriesV E st x with
    | none => rw [he] at h; cases h
    | some m =>
      rw [he] at h
      simp only [hu, entriesV_st hs he]
      exact h
  · cases h
theorem mapO_congr {α β : Type} {f g : α → Option β} {l : List α} (h : ∀ x ∈ l, f x = g x) : mapO f l = mapO g l := by
  induction l with
  | nil => rfl
  | cons x l ih =>
    show cons2 (f x) (mapO f l) = cons2 (g x) (mapO g l)
    rw [h x (by simp), ih fun y hy => h y (List.mem_cons_of_mem _ hy)]
theorem shut_st {hp hp' : List (Nat × Blk E.T.A)} : ∀ (n : Nat) (v u : VE E), (∀ i ∈ v.ids n, (look hp i).isSome → Same (look hp' i) (look hp i)) → shut hp n v = some u → shut hp' n v = some u
  | 0, v, u, _, h => by cases h
  | n + 1, v, u, hs, h => by
    cases v with
    | own i =>
      obtain ⟨e, l, z, hb, rfl⟩ := shutOwn_spec h
      obtain ⟨z', h2⟩ := same_row (hs i (by show i ∈ [i]; simp) (by rw [hb]; rfl)) hb
      show shutOwn (look hp' i) = _
      rw [h2]; rfl
    | agg l =>
      obtain ⟨m, hm, rfl⟩ := shutAgg_spec h
      show shutAgg (mapO (shut hp' n) l) = some (.agg m)
      have key : ∀ (l m : List (VE E)), (∀ x ∈ l, ∀ i ∈ x.ids n, (look hp i).isSome → Same (look hp' i) (look hp i)) → mapO (shut hp n) l = some m → mapO (shut hp' n) l = some m := by
        intro l
        induction l with
        | nil => intro m _ h; exact h
        | cons x l ih =>
          intro m hx h
          have h : cons2 (shut hp n x) (mapO (shut hp n) l) = some m := h
          show cons2 (shut hp' n x) (mapO (shut hp' n) l) = some m
          unfold cons2 at h
          split at h
          · rename_i y z hy hz
            rw [shut_st n x y (hx x (by simp)) hy, ih z (fun q hq => hx q (List.mem_cons_of_mem _ hq)) hz]; exact h
          · cases h
      rw [key l m (fun x hx i hi => hs i (List.mem_flatMap.2 ⟨x, hx, hi⟩)) hm]; rfl
    | fn f l => cases l with | nil => exact h | cons x l => cases h
    | _ => exact h
theorem shutL_st {hp hp' : List (Nat × Blk E.T.A)} {l m : List (VE E)} (hs : ∀ i ∈ l.flatMap (V.ids 2), (look hp i).isSome → Same (look hp' i) (look hp i)) (h : shutL hp l = some m) : shutL hp' l = some m := by
  unfold shutL at *
  induction l generalizing m with
  | nil => exact h
  | cons x l ih =>
    have h : cons2 (shut hp 2 x) (mapO (shut hp 2) l) = some m := h
    show cons2 (shut hp' 2 x) (mapO (shut hp' 2) l) = some m
    unfold cons2 at h
    split at h
    · rename_i y z hy hz
      rw [shut_st 2 x y (fun i hi => hs i (List.mem_flatMap.2 ⟨x, by simp, hi⟩)) hy, ih (fun i hi => hs i (by
        obtain ⟨q, hq, hiq⟩ := List.mem_flatMap.1 hi
        exact List.mem_flatMap.2 ⟨q, List.mem_cons_of_mem _ hq, hiq⟩)) hz]
      exact h
    · cases h
theorem mapO_st {hp hp' : List (Nat × Blk E.T.A)} {f g : VE E → Option (VE E)} : ∀ (l m : List (VE E)), (∀ x ∈ l, ∀ u, f x = some u → g x = some u) → mapO f l = some m → mapO g l = some m
  | [], m, _, h => h
  | x :: l, m, hx, h => by
    have h : cons2 (f x) (mapO f l) = some m := h
    show cons2 (g x) (mapO g l) = some m
    unfold cons2 at h
    split at h
    · rename_i y z hy hz
      rw [hx x (by simp) y hy, mapO_st (hp := hp) (hp' := hp') l z (fun q hq => hx q (List.mem_cons_of_mem _ hq)) hz]; exact h
    · cases h
theorem shutAN_st {hp hp' : List (Nat × Blk E.T.A)} : ∀ (n : Nat) {v u : VE E}, (∀ i ∈ idsAN hp n v, (look hp i).isSome → Same (look hp' i) (look hp i)) → shutAN hp n v = some u → shutAN hp' n v = some u
  | 0, v, u, _, h => by cases h
  | n + 1, v, u, hs, h => by
    rw [shutAN_succ] at h ⊢
    rw [idsAN_succ] at hs
    rcases shutA1_cases hp (shutAN hp n) (idsAN hp n) v with ⟨i, o, rfl⟩ | ⟨f, caps, rfl⟩ | ⟨cs, rfl⟩ | ⟨e1, e2⟩
    · have h : shutPtr (shutAN hp n) o (look hp i) = some u := h
      show shutPtr (shutAN hp' n) o (look hp' i) = some u
      have hs : ∀ k ∈ i :: (cellsOf (look hp i)).flatMap (idsAN hp n), (look hp k).isSome → Same (look hp' k) (look hp k) := hs
      unfold shutPtr at h
      split at h
      · rename_i l z hb
        obtain ⟨z', h2⟩ := same_var (hs i (by simp) (by rw [hb]; rfl)) hb
        rw [hb] at hs
        rw [h2]
        split at h
        · rename_i cs hcs
          unfold shutPtr
          dsimp only
          rw [mapO_st (hp := hp) (hp' := hp') l cs (fun x hx y hy => shutAN_st n (fun k hk => hs k (List.mem_cons_of_mem _ (List.mem_flatMap.2 ⟨x, hx, hk⟩))) hy) hcs]
          exact h
        · cases h
      · cases h
    · have h : shutAF f (mapO (shutAN hp n) caps) = some u := h
      have hs : ∀ k ∈ caps.flatMap (idsAN hp n), (look hp k).isSome → Same (look hp' k) (look hp k) := hs
      show shutAF f (mapO (shutAN hp' n) caps) = some u
      unfold shutAF at h
      split at h
      · rename_i l hl
        unfold shutAF
        rw [mapO_st (hp := hp) (hp' := hp') caps l (fun x hx y hy => shutAN_st n (fun k hk => hs k (List.mem_flatMap.2 ⟨x, hx, hk⟩)) hy) hl]
        exact h
      · cases h
    · exact h
    · rw [e1] at h
      rw [e2] at hs
      rcases shutA1_cases hp' (shutAN hp' n) (idsAN hp' n) v with ⟨i, o, rfl⟩ | ⟨f, caps, rfl⟩ | ⟨cs, rfl⟩ | ⟨e3, _⟩
      · cases h
      · cases caps with
        | nil => exact h
        | cons x l => cases h
      · cases h
      · rw [e3]; exact shut_st 2 _ u hs h
theorem shutA_st {hp hp' : List (Nat × Blk E.T.A)} {v u : VE E} (hs : ∀ i ∈ idsA hp v, (look hp i).isSome → Same (look hp' i) (look hp i)) (h : shutA hp v = some u) : shutA hp' v = some u := shutAN_st 6 hs h
theorem shutAL_st {hp hp' : List (Nat × Blk E.T.A)} {l m : List (VE E)} (hs : ∀ i ∈ frA hp l, (look hp i).isSome → Same (look hp' i) (look hp i)) (h : shutAL hp l = some m) : shutAL hp' l = some m :=
  mapO_st (hp := hp) (hp' := hp') l m (fun x hx y hy => shutA_st (fun k hk => hs k (List.mem_flatMap.2 ⟨x, hx, hk⟩)) hy) h
/-- where what is named is the same, so is what lies behind it -/
theorem flatMap_same {α β : Type} {l : List α} {f g : α → List β} (h : ∀ x ∈ l, f x = g x) : l.flatMap f = l.flatMap g := by
  induction l with
  | nil => rfl
  | cons x l ih => rw [List.flatMap_cons, List.flatMap_cons, h x (by simp), ih fun y hy => h y (List.mem_cons_of_mem _ hy)]
theorem cellsOf_same {a b : Option (Blk E.T.A)} (h : Same a b) : cellsOf a = cellsOf b := by
  cases b with
  | none => cases a with | none => rfl | some x => cases h
  | some x =>
    cases x with
    | var l z => obtain ⟨z', rfl⟩ := same_var h rfl; rfl
    | row e l z => obtain ⟨z', rfl⟩ := same_row h rfl; rfl
    | map l z => obtain ⟨z', rfl⟩ := same_map h rfl; rfl
theorem idsAN_eq {hp hp' : List (Nat × Blk E.T.A)} : ∀ (n : Nat) {v : VE E}, (∀ i ∈ idsAN hp n v, Same (look hp' i) (look hp i)) → idsAN hp' n v = idsAN hp n v
  | 0, v, _ => rfl
  | n + 1, v, hs => by
    rw [idsAN_succ] at hs
    rw [idsAN_succ, idsAN_succ]
    cases v with
    | ptr i o =>
      have hs : ∀ k ∈ i :: (cellsOf (look hp i)).flatMap (idsAN hp n), Same (look hp' k) (look hp k) := hs
      show i :: (cellsOf (look hp' i)).flatMap (idsAN hp' n) = i :: (cellsOf (look hp i)).flatMap (idsAN hp n)
      rw [cellsOf_same (hs i (by simp))]
      rw [flatMap_same fun x hx => idsAN_eq n fun k hk => hs k (List.mem_cons_of_mem _ (List.mem_flatMap.2 ⟨x, hx, hk⟩))]
    | fn f caps =>
      have hs : ∀ k ∈ caps.flatMap (idsAN hp n), Same (look hp' k) (look hp k) := hs
      show caps.flatMap (idsAN hp' n) = caps.flatMap (idsAN hp n)
      exact flatMap_same fun x hx => idsAN_eq n fun k hk => hs k (List.mem_flatMap.2 ⟨x, hx, hk⟩)
    | _ => rfl
theorem deep_same {hp hp' : List (Nat × Blk E.T.A)} {v : VE E} (h : ∀ i ∈ deep hp v, Same (look hp' i) (look hp i)) : deep hp' v = deep hp v := by
  unfold deep
  rw [idsAN_eq 7 fun i hi => h i (List.mem_append_right _ hi)]
theorem mapO_mem {α β : Type} {f : α → Option β} {l : List α} {m : List β} (h : mapO f l = some m) : ∀ x ∈ l, ∃ y, f x = some y := by
  intro x hx
  obtain ⟨_, hall⟩ := mapO_spec l m h
  obtain ⟨k, hk, rfl⟩ := List.getElem_of_mem hx
  obtain ⟨u, _, h2⟩ := hall k _ (List.getElem?_eq_getElem hk)
  exact ⟨u, h2⟩
theorem idsAN_same {hp hp' : List (Nat × Blk E.T.A)} : ∀ (n : Nat) {v u : VE E}, (∀ i ∈ idsAN hp n v, (look hp i).isSome → Same (look hp' i) (look hp i)) → shutAN hp n v = some u → idsAN hp' n v = idsAN hp n v
  | 0, v, u, _, h => by cases h
  | n + 1, v, u, hs, h => by
    rw [shutAN_succ] at h
    rw [idsAN_succ] at hs
    rw [idsAN_succ, idsAN_succ]
    cases v with
    | ptr i o =>
      have h : shutPtr (shutAN hp n) o (look hp i) = some u := h
      have hs : ∀ k ∈ i :: (cellsOf (look hp i)).flatMap (idsAN hp n), (look hp k).isSome → Same (look hp' k) (look hp k) := hs
      show i :: (cellsOf (look hp' i)).flatMap (idsAN hp' n) = i :: (cellsOf (look hp i)).flatMap (idsAN hp n)
      unfold shutPtr at h
      split at h
      · rename_i l z hb
        split at h
        · rename_i cs hcs
          rw [cellsOf_same (hs i (by simp) (by rw [hb]; rfl))]
          rw [hb] at hs ⊢
          rw [flatMap_same fun x hx => by
            obtain ⟨y, hy⟩ := mapO_mem hcs x hx
            exact idsAN_same n (fun k hk => hs k (List.mem_cons_of_mem _ (List.mem_flatMap.2 ⟨x, hx, hk⟩))) hy]
        · cases h
      · cases h
    | fn f caps =>
      have h : shutAF f (mapO (shutAN hp n) caps) = some u := h
      have hs : ∀ k ∈ caps.flatMap (idsAN hp n), (look hp k).isSome → Same (look hp' k) (look hp k) := hs
      show caps.flatMap (idsAN hp' n) = caps.flatMap (idsAN hp n)
      unfold shutAF at h
      split at h
      · rename_i l hl
        exact flatMap_same fun x hx => by
          obtain ⟨y, hy⟩ := mapO_mem hl x hx
          exact idsAN_same n (fun k hk => hs k (List.mem_flatMap.2 ⟨x, hx, hk⟩)) hy
      · cases h
    | _ => rfl
theorem idsA_same {hp hp' : List (Nat × Blk E.T.A)} {v u : VE E} (hs : ∀ i ∈ idsA hp v, (look hp i).isSome → Same (look hp' i) (look hp i)) (h : shutA hp v = some u) : idsA hp' v = idsA hp v := idsAN_same 6 hs h
theorem frA_same {hp hp' : List (Nat × Blk E.T.A)} {l m : List (VE E)} (hs : ∀ i ∈ frA hp l, (look hp i).isSome → Same (look hp' i) (look hp i)) (h : shutAL hp l = some m) : frA hp' l = frA hp l := by
  refine flatMap_same fun c hc => ?_
  obtain ⟨y, hy⟩ := mapO_mem h c hc
  exact idsA_same (fun i hi => hs i (List.mem_flatMap.2 ⟨c, hc, hi⟩)) hy
/-- an operation that memory is nothing to -/
noncomputable def valP (E : Env) (ρ : Operand → VE E) (o : Oper) : Option (VE E) := match o.op with
  | .move x => (ρ x).force some
  | .assign x => (ρ x).force some
  | .pick c a b => (match ρ c with | .bool t => if t = true then (ρ a).force some else (ρ b).force some | _ => none)
  | .build t ps => buildV E.P t (ps.toList.map fun p => (p.1, ρ p.2)) some
  | .nilCheck x => (match ρ x with | .ptr i f => some (.ptr i f) | .elt e i j f => some (.elt e i j f) | .rel c => some (.rel c) | .fn f c => some (.fn f c) | _ => none)
  | .binOp op t x y _ => binV E.P op t (ρ x) (ρ y) some
  | .unOp op _ x => unV op (ρ x) some
  | .convert s t x => convV E.P s t (ρ x) some
  | .makeInterface t x => (match E.P.concrete t with | true => some .unk | false => none)
  | .makeFunc (.func f) first caps => (match first.toList, caps.toList with | [], c => some (.fn f (c.map ρ)) | x :: r, [] => some (.meth f ((x :: r).map ρ)) | _, _ => none)
  | .fieldAddr s x f => fieldAddrV E.P s f (ρ x) some
  | .field s x f => fieldV E.P s f (ρ x) some
  | .index t x i => indexV E.P t (ρ x) (ρ i) some
  | .extract x i => (match ρ x with | .tup l => (match nth l i with | some v => v.force some | none => none) | _ => none)
  | .call c => (match c.callee with
    | .builtin .max => extremeV mxI (c.args.toList.map ρ) some
    | .builtin .min => extremeV mnI (c.args.toList.map ρ) some
    | _ => none)
  | _ => none
theorem opvP (o : Oper) (hc : cls o = .P) (s : SE E) (nb : Nat) (K : VE E → SE E → Option R) : opv E s o nb K = (valP E s.ev o).bind fun v => K v s := by
  unfold cls at hc
  unfold opv valP
  cases ho : o.op with
  | move x => exact force_par _ _
  | assign x => exact force_par _ _
  | pick c a b =>
    dsimp only
    cases s.ev c with
    | bool t =>
      dsimp only
      by_cases ht : t = true
      · rw [if_pos ht, if_pos ht]; exact force_par _ _
      · rw [if_neg ht, if_neg ht]; exact force_par _ _
    | _ => rfl
  | build t ps => exact buildV_par _ _ _ _
  | nilCheck x => dsimp only; cases s.ev x <;> rfl
  | binOp op t x y u => exact binV_par _ _ _ _ _ _
  | unOp op t x => exact unV_par _ _ _
  | convert a b x => exact convV_par _ _ _ _ _
  | makeInterface t x => dsimp only; cases E.P.concrete t <;> rfl
  | makeFunc f first caps =>
    cases f with
    | func f => dsimp only; cases first.toList <;> cases caps.toList <;> rfl
    | _ => rfl
  | fieldAddr a x f => exact fieldAddrV_par _ _ _ _ _
  | field a x f => exact fieldV_par _ _ _ _ _
  | index t x i => exact indexV_par _ _ _ _ _
  | extract x i =>
    dsimp only
    cases s.ev x with
    | tup l =>
      dsimp only
      cases nth l i with
      | none => rfl
      | some v => exact force_par _ _
    | _ => rfl
  | call c =>
    rw [ho] at hc
    dsimp only at hc ⊢
    cases hcal : c.callee with
    | builtin b =>
      rw [hcal] at hc
      cases b with
      | max => exact extremeV_par _ _ _
      | min => exact extremeV_par _ _ _
      | _ => cases hc
    | _ => rw [hcal] at hc; cases hc
  | _ => rw [ho] at hc; cases hc
theorem valP_congr {ρ ρ' : Operand → VE E} (o : Oper) (h : ∀ x ∈ o.op.operands.toList, ρ x = ρ' x) : valP E ρ o = valP E ρ' o := by
  unfold valP
  cases ho : o.op with
  | build t ps =>
    rw [ho] at h
    dsimp only
    congr 1
    apply List.map_congr_left
    intro p hp
    rw [h p.2 (by simp only [Op.operands, List.mem_map]; exact ⟨p, hp, rfl⟩)]
  | makeFunc f first caps =>
    rw [ho] at h
    cases f with
    | func f =>
      dsimp only
      split
      · congr 2
        apply List.map_congr_left
        intro p hp
        exact h p (by simp only [Op.operands, Array.toList_append, List.mem_append]; exact .inr hp)
      · rename_i hf _
        rw [← hf]
        congr 2
        apply List.map_congr_left
        intro p hp
        exact h p (by simp only [Op.operands, Array.toList_append, List.mem_append]; exact .inl hp)
      · rfl
    | _ => rfl
  | call c =>
    rw [ho] at h
    dsimp only
    have : c.args.toList.map ρ = c.args.toList.map ρ' := List.map_congr_left fun p hp => h p (by
      simp only [Op.operands, Call.operands, Array.toList_append, List.mem_append]; exact .inr hp)
    rw [this]
  | _ => first | rfl | (rw [ho] at h; simp only [Op.operands, List.mem_cons, List.not_mem_nil, or_false, forall_eq_or_imp, forall_eq] at h; simp only [h])
end
end Go.Proofs.YtpbpebjfglfjfaaGreatDoor.X
