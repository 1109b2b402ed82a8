/-
  BlockChoice.
-/
import Derived.Test.YtbcpnhnalhhfoaaGreatDoorXF5
set_option autoImplicit false
set_option linter.unusedVariables false
set_option linter.unusedSimpArgs false
set_option maxRecDepth 100000
namespace Go.Proofs.YtbcpnhnalhhfoaaGreatDoor.X
open Go Go.Proofs Go.RowKit Go.Proofs.YtbcpnhnalhhfoaaGreatDoor
noncomputable section
def binG (b : Bool) : GValue := ⟨2, bitI b⟩
def bCh : ByteArray := ⟨#[99, 104, 111, 111, 115, 101]⟩
def bPk : ByteArray := ⟨#[112, 105, 99, 107]⟩
def vOf (o : Option (Res At)) : GValue := ⟨gV1 o, gV2 o⟩
def ex38 (l : List VT) : Option GValue := match l with | [.int .i64 a, .int .i64 b] => some ⟨a, b⟩ | _ => none
theorem ex38_spec {l : List VT} {v : GValue} (h : ex38 l = some v) : l = enc38 v := by
  unfold ex38 at h
  split at h
  · obtain rfl := Option.some.inj h; rfl
  · cases h
structure Kch1 where
  s : Bool
  st : Int
  l : List GValue
  res : Bool
  i : Int
structure Ech1 where
  s : Bool
  st : Int
  l : List GValue
  res : Bool
def Sch1 (k : Kch1) : St At := { env := [(0, .bool k.s), (1, .int .i64 k.st), (2, .ro 38 k.l), (6, .bool k.res), (7, .int .i64 k.i)], stk := [], hp := [], nx := 0 }
def Xch1 (k : Ech1) : St At := { env := [(0, .bool k.s), (1, .int .i64 k.st), (2, .ro 38 k.l), (6, .bool k.res)], stk := [], hp := [], nx := 0 }
def Cch1 : Cfg := { cs := lib11, ks := [((8, 6), [(0, none), (1, none), (2, none), (6, none), (7, none)])], xs := [((8, 6), [(0, none), (1, none), (2, none), (6, none)])], lps := [] }
theorem Cch1_ok : CfgOK Cch1 := { con := lib11_ok }
def stch1 {α : Type} (k : Kch1) (go : Kch1 → α) (ex ret : Ech1 → α) (no : α) : α :=
  if decide (k.i < (↑k.l.length : Int)) = true then
   if 0 ≤ k.i then
    if k.i < (↑k.l.length : Int) then
     if (!plainB (gt { kind := 0, n := 0 : GValue } k.l k.i.toNat).kind (gt { kind := 0, n := 0 : GValue } k.l k.i.toNat).n) = false then
      if 0 ≤ k.i then
       if k.i < (↑k.l.length : Int) then
        if 0 < (↑k.l.length : Int) then
         if (!decide ((gt { kind := 0, n := 0 : GValue } k.l k.i.toNat).kind = (gt { kind := 0, n := 0 : GValue } k.l (Int.toNat 0)).kind)) = true then
          ret ⟨(k.s), (k.st), (k.l), (true)⟩
         else
          go ⟨(k.s), (k.st), (k.l), (k.res), (IntKind.i64.wrap (k.i + 1))⟩
        else
         no
       else
        no
      else
       no
     else
      ret ⟨(k.s), (k.st), (k.l), (true)⟩
    else
     no
   else
    no
  else
   ex ⟨(k.s), (k.st), (k.l), (k.res)⟩
def stepch1 (k : Kch1) : Nx Kch1 Ech1 := stch1 k .go .ex .ret .no
theorem Bch1 (k : Kch1) (m : Nat) (R : St At → Option (Res At)) (K : Xit → St At → Option (Res At)) : B Cch1 8 6 (m + 60) (Sch1 k) R K = stch1 k (fun k => R (Sch1 k)) (fun x => K (.ex 0) (Xch1 x)) (fun x => K .ret (Xch1 x)) none := by kernel_rfl
def uch1 (st : St At) : Option Kch1 := match st with
  | ⟨[(0, .bool s), (1, .int .i64 st), (2, vl), (6, .bool res), (7, .int .i64 i)], [], [], 0⟩ => (match roV 38 vl with | some l => some ⟨s, st, l, res, i⟩ | _ => none)
  | _ => none
theorem uch1_spec {st : St At} {k : Kch1} (h : uch1 st = some k) : st = Sch1 k := by
  unfold uch1 at h
  split at h
  · split at h
    · rename_i h0
      obtain rfl := Option.some.inj h
      rw [roV_spec h0]
      rfl
    · cases h
  · cases h
theorem oklch1 {g : LP} (hg : ∀ st K q, g st K = some q → ∃ k n e, st = Sch1 k ∧ iter stepch1 n k = some e ∧ e.k 0 Xch1 Xch1 K = some q) : OKL 8 6 g := okl_iter Cch1_ok (S := Sch1) (X := Xch1) (Y := Xch1) (step := stepch1) (id := 0) (by kernel_rfl) (by kernel_rfl)
  (fun k m R K => by rw [Bch1]; unfold stepch1 stch1; simp only [Nx.k_ite]; rfl) (fun k => by kernel_rfl) hg
/-- the contract out of a closed form -/
theorem okfch1 {g : LP} {fuel : Kch1 → Nat} {ok : Kch1 → Bool} {F : Kch1 → Fx Ech1} (hF : ∀ k, ok k = true → iter stepch1 (fuel k) k = some (F k)) (hg : ∀ st K, g st K = (match uch1 st with | some k => if ok k = true then (F k).k 0 Xch1 Xch1 K else none | none => none)) : OKL 8 6 g := oklch1 fun st K q h => by
  rw [hg] at h
  split at h
  · rename_i k hu
    split at h
    · rename_i hok; exact ⟨k, _, _, uch1_spec hu, hF k hok, h⟩
    · cases h
  · cases h
structure Kch2 where
  st : Int
  l : List GValue
  v : GValue
  e : Int
  w : GValue
  f : Int
  want : GValue
  ch : GValue
  i : Int
structure Ech2 where
  v : GValue
  e : Int
  w : GValue
  f : Int
  want : GValue
  ch : GValue
def Sch2 (k : Kch2) : St At := { env := [(1, .int .i64 k.st), (2, .ro 38 k.l), (8, .ptr 0 0), (9, .int .i64 k.e), (11, .ptr 1 0), (12, .int .i64 k.f), (13, .ptr 2 0), (14, .ptr 3 0), (15, .int .i64 k.i)], stk := [], hp := [(0, .var (enc38 k.v) false), (1, .var (enc38 k.w) false), (2, .var (enc38 k.want) false), (3, .var (enc38 k.ch) false)], nx := 4 }
def Xch2 (k : Ech2) : St At := { env := [(8, .ptr 0 0), (9, .int .i64 k.e), (11, .ptr 1 0), (12, .int .i64 k.f), (13, .ptr 2 0), (14, .ptr 3 0)], stk := [], hp := [(0, .var (enc38 k.v) false), (1, .var (enc38 k.w) false), (2, .var (enc38 k.want) false), (3, .var (enc38 k.ch) false)], nx := 4 }
def Cch2 : Cfg := { cs := lib11, ks := [((8, 18), [(1, none), (2, none), (8, none), (9, none), (11, none), (12, none), (13, none), (14, none), (15, none)])], xs := [((8, 18), [(8, none), (9, none), (11, none), (12, none), (13, none), (14, none)])], lps := [] }
theorem Cch2_ok : CfgOK Cch2 := { con := lib11_ok }
def stch2 {α : Type} (k : Kch2) (go : Kch2 → α) (ex ret : Ech2 → α) (no : α) : α :=
  if decide (k.i < IntKind.i64.wrap ((↑k.l.length : Int) - 1)) = true then
   if decide (k.st = IntKind.i64.wrap (k.i + 1)) = true then
    if 0 ≤ k.i then
     if k.i < (↑k.l.length : Int) then
      go ⟨(k.st), (k.l), (k.v), (k.e), (k.w), (k.f), (k.want), ((gt { kind := 0, n := 0 : GValue } k.l k.i.toNat)), (IntKind.i64.wrap (k.i + 1))⟩
     else
      no
    else
     no
   else
    go ⟨(k.st), (k.l), (k.v), (k.e), (k.w), (k.f), (k.want), (k.ch), (IntKind.i64.wrap (k.i + 1))⟩
  else
   ex ⟨(k.v), (k.e), (k.w), (k.f), (k.want), (k.ch)⟩
def stepch2 (k : Kch2) : Nx Kch2 Ech2 := stch2 k .go .ex .ret .no
theorem Bch2 (k : Kch2) (m : Nat) (R : St At → Option (Res At)) (K : Xit → St At → Option (Res At)) : B Cch2 8 18 (m + 60) (Sch2 k) R K = stch2 k (fun k => R (Sch2 k)) (fun x => K (.ex 2) (Xch2 x)) (fun x => K .ret (Xch2 x)) none := by kernel_rfl
def uch2 (st : St At) : Option Kch2 := match st with
  | ⟨[(1, .int .i64 st), (2, vl), (8, .ptr 0 0), (9, .int .i64 e), (11, .ptr 1 0), (12, .int .i64 f), (13, .ptr 2 0), (14, .ptr 3 0), (15, .int .i64 i)], [], [(0, .var wv false), (1, .var ww false), (2, .var wwant false), (3, .var wch false)], 4⟩ => (match roV 38 vl, ex38 wv, ex38 ww, ex38 wwant, ex38 wch with | some l, some v, some w, some want, some ch => some ⟨st, l, v, e, w, f, want, ch, i⟩ | _, _, _, _, _ => none)
  | _ => none
theorem uch2_spec {st : St At} {k : Kch2} (h : uch2 st = some k) : st = Sch2 k := by
  unfold uch2 at h
  split at h
  · split at h
    · rename_i h0 h1 h2 h3 h4
      obtain rfl := Option.some.inj h
      rw [roV_spec h0, ex38_spec h1, ex38_spec h2, ex38_spec h3, ex38_spec h4]
      rfl
    · cases h
  · cases h
theorem oklch2 {g : LP} (hg : ∀ st K q, g st K = some q → ∃ k n e, st = Sch2 k ∧ iter stepch2 n k = some e ∧ e.k 2 Xch2 Xch2 K = some q) : OKL 8 18 g := okl_iter Cch2_ok (S := Sch2) (X := Xch2) (Y := Xch2) (step := stepch2) (id := 2) (by kernel_rfl) (by kernel_rfl)
  (fun k m R K => by rw [Bch2]; unfold stepch2 stch2; simp only [Nx.k_ite]; rfl) (fun k => by kernel_rfl) hg
/-- the contract out of a closed form -/
theorem okfch2 {g : LP} {fuel : Kch2 → Nat} {ok : Kch2 → Bool} {F : Kch2 → Fx Ech2} (hF : ∀ k, ok k = true → iter stepch2 (fuel k) k = some (F k)) (hg : ∀ st K, g st K = (match uch2 st with | some k => if ok k = true then (F k).k 2 Xch2 Xch2 K else none | none => none)) : OKL 8 18 g := oklch2 fun st K q h => by
  rw [hg] at h
  split at h
  · rename_i k hu
    split at h
    · rename_i hok; exact ⟨k, _, _, uch2_spec hu, hF k hok, h⟩
    · cases h
  · cases h
def chk (k : Int) (v : GValue) : Bool := plainB v.kind v.n && decide (v.kind = k)
theorem step_ch1 (s : Bool) (st : Int) (l : List GValue) (res : Bool) (j : Nat) (h : j < l.length) (hm : l.length ≤ 9223372036854775807) :
    stepch1 ⟨s, st, l, res, (j : Int)⟩ = if chk (gt gv0 l 0).kind l[j] = true then .go ⟨s, st, l, res, ((j + 1 : Nat) : Int)⟩ else .ret ⟨s, st, l, true⟩ := by
  unfold stepch1 stch1
  dsimp only
  have h0 : (0 : Int) < (l.length : Int) := by omega
  simp only [cnt h hm, gtj _ _ _ h, if_pos (lt1 h), if_pos (lt0 (j := j)), if_pos (lt2 h), if_pos h0]
  show (if (!plainB (l[j]).kind (l[j]).n) = false then (if (!decide ((l[j]).kind = (gt gv0 l 0).kind)) = true then (.ret ⟨s, st, l, true⟩ : Nx Kch1 Ech1) else .go ⟨s, st, l, res, ((j + 1 : Nat) : Int)⟩) else .ret ⟨s, st, l, true⟩) = _
  unfold chk
  cases plainB (l[j]).kind (l[j]).n <;> cases decide ((l[j]).kind = (gt gv0 l 0).kind) <;> rfl
theorem scan_all (p : GValue → Bool) : ∀ l : List GValue, scanL (fun (_ : Unit) v => if p v = true then (.inl () : Unit ⊕ Unit) else .inr ()) () l = if l.all p = true then .inl () else .inr ()
  | [] => rfl
  | v :: l => by
    unfold scanL
    by_cases h : p v = true
    · rw [if_pos h]
      show scanL _ () l = _
      rw [scan_all p l, List.all_cons, h, Bool.true_and]
    · rw [if_neg h, List.all_cons, Bool.eq_false_iff.2 h]; rfl
def okch1 (k : Kch1) : Bool := decide (k.i = 0) && Nat.ble k.l.length 8
def Fch1 (k : Kch1) : Fx Ech1 := if k.l.all (chk (gt gv0 k.l 0).kind) = true then .ex ⟨k.s, k.st, k.l, k.res⟩ else .ret ⟨k.s, k.st, k.l, true⟩
theorem ich1 (k : Kch1) (h : okch1 k = true) : iter stepch1 k.l.length k = some (Fch1 k) := by
  unfold okch1 at h
  simp only [Bool.and_eq_true, decide_eq_true_eq] at h
  obtain ⟨h0, h1⟩ := h
  replace h1 := Nat.le_of_ble_eq_true h1
  obtain ⟨s, st, l, res, i⟩ := k
  dsimp only at h0 h1
  subst h0
  have := iter_scan (step := stepch1) l (fun (_ : Unit) j => (⟨s, st, l, res, (j : Int)⟩ : Kch1)) (fun _ v => if chk (gt gv0 l 0).kind v = true then .inl () else .inr ()) (fun _ => (⟨s, st, l, res⟩ : Ech1)) (fun _ => (⟨s, st, l, true⟩ : Ech1)) (fun _ _ => True)
    (fun b j h _ => by
      have hs := step_ch1 s st l res j h (by omega)
      refine ⟨fun b' hb => ⟨?_, trivial⟩, fun y hy => ?_⟩
      · split at hb
        · rename_i hc; rw [if_pos hc] at hs; exact hs
        · cases hb
      · split at hy
        · cases hy
        · rename_i hc; rw [if_neg hc] at hs; exact hs) (fun b _ => by unfold stepch1 stch1; dsimp only; rw [if_neg lt3]) l.length 0 () (by omega) trivial
  rw [List.drop_zero, scan_all] at this
  unfold Fch1
  refine this.trans ?_
  dsimp only
  by_cases hc : l.all (chk (gt gv0 l 0).kind) = true
  · rw [if_pos hc, if_pos hc]
  · rw [if_neg hc, if_neg hc]
def gch1 : LP := fun st K => match uch1 st with | some k => if okch1 k = true then (if k.l.all (chk (gt gv0 k.l 0).kind) = true then K (.ex 0) (Xch1 ⟨k.s, k.st, k.l, k.res⟩) else K .ret (Xch1 ⟨k.s, k.st, k.l, true⟩)) else none | none => none
theorem okgch1 : OKL 8 6 gch1 := okfch1 (fuel := fun k => k.l.length) (ok := okch1) (F := Fch1) ich1 fun st K => by
  unfold gch1
  split
  · rename_i k hu
    split
    · unfold Fch1
      cases k.l.all (chk (gt gv0 k.l 0).kind) <;> rfl
    · rfl
  · rfl
/-! the second loop -/
def pickG (st : Int) (c : GValue) (l : List GValue) (n : Nat) : GValue := (l.zipIdx n).foldl (fun ch p => if st = (p.2 : Int) + 1 then p.1 else ch) c
theorem pickG_eq (st : Int) : ∀ (l : List GValue) (c : GValue) (n : Nat), pickG st c l n = if (n : Int) + 1 ≤ st ∧ st ≤ (n : Int) + (l.length : Int) then l.getD (st - 1 - (n : Int)).toNat gv0 else c
  | [], c, n => by
    unfold pickG
    rw [if_neg (by simp; omega)]; rfl
  | v :: l, c, n => by
    have ih := pickG_eq st l (if st = (n : Int) + 1 then v else c) (n + 1)
    have e : pickG st c (v :: l) n = pickG st (if st = (n : Int) + 1 then v else c) l (n + 1) := by unfold pickG; rw [List.zipIdx_cons, List.foldl_cons]
    rw [e, ih]
    by_cases h1 : st = (n : Int) + 1
    · rw [if_neg (by omega), if_pos h1, if_pos (by simp; omega), show (st - 1 - (n : Int)).toNat = 0 by omega]; rfl
    · rw [if_neg h1]
      by_cases h2 : (n : Int) + 1 ≤ st ∧ st ≤ (n : Int) + ((v :: l).length : Int)
      · simp only [List.length_cons] at h2
        rw [if_pos (by omega), if_pos (by simp; omega)]
        obtain ⟨m, hm⟩ : ∃ m : Nat, (st - 1 - (n : Int)).toNat = m + 1 := ⟨(st - 1 - (n : Int)).toNat - 1, by omega⟩
        rw [hm, show (st - 1 - ((n + 1 : Nat) : Int)).toNat = m by omega]; rfl
      · rw [if_neg h2, if_neg (by simp only [List.length_cons] at h2; omega)]
def okch2 (k : Kch2) : Bool := decide (k.i = 0) && (Nat.ble 1 k.l.length && Nat.ble k.l.length 8)
def Gch2 (k : Kch2) : Ech2 := ⟨k.v, k.e, k.w, k.f, k.want, pickG k.st k.ch k.l.dropLast 0⟩
theorem ich2 (k : Kch2) (h : okch2 k = true) : iter stepch2 (k.l.length - 1) k = some (.ex (Gch2 k)) := by
  unfold okch2 at h
  simp only [Bool.and_eq_true, decide_eq_true_eq] at h
  obtain ⟨h0, h1, h2⟩ := h
  replace h1 := Nat.le_of_ble_eq_true h1
  replace h2 := Nat.le_of_ble_eq_true h2
  obtain ⟨st, l, v, e, w, f, want, ch, i⟩ := k
  dsimp only at h0 h1 h2
  subst h0
  have hL : (l.dropLast.zipIdx 0).length = l.length - 1 := by simp
  have hw : IntKind.i64.wrap ((l.length : Int) - 1) = ((l.length - 1 : Nat) : Int) := by rw [wrap_small (by omega) (by omega)]; omega
  have := iter_fold (step := stepch2) (l.dropLast.zipIdx 0) (fun ch j => (⟨st, l, v, e, w, f, want, ch, (j : Int)⟩ : Kch2)) (fun ch p => if st = (p.2 : Int) + 1 then p.1 else ch) (fun ch => (⟨v, e, w, f, want, ch⟩ : Ech2)) (fun _ _ => True)
    (fun b j h _ => ⟨by
      have hj : j < l.length - 1 := by omega
      have hjl : j < l.length := by omega
      unfold stepch2 stch2
      dsimp only
      rw [hw, wrap_small (i := (j : Int) + 1) (by omega) (by omega), if_pos (lt1 hj)]
      simp only [if_pos (lt0 (j := j)), if_pos (lt2 hjl), gtj _ _ _ hjl]
      have e1 : (l.dropLast.zipIdx 0)[j] = (l[j], j) := by simp
      rw [e1]
      dsimp only
      by_cases hs : st = (j : Int) + 1
      · rw [if_pos (decide_eq_true hs), if_pos hs]; rfl
      · rw [if_neg (by simp [hs]), if_neg hs]; rfl, trivial⟩) (fun b _ => by unfold stepch2 stch2; dsimp only; rw [hw, hL, if_neg lt3]) (l.length - 1) 0 ch (by omega) trivial
  rw [List.drop_zero] at this
  exact this
def gch2 : LP := fun st K => match uch2 st with | some k => if okch2 k = true then K (.ex 2) (Xch2 (Gch2 k)) else none | none => none
theorem okgch2 : OKL 8 18 gch2 := okfch2 (fuel := fun k => k.l.length - 1) (ok := okch2) (F := fun k => .ex (Gch2 k)) ich2 fun st K => rfl
def C13 : Cfg := { cs := lib11, ks := Cch1.ks ++ Cch2.ks, xs := Cch1.xs ++ Cch2.xs, lps := [((8, 6), gch1), ((8, 18), gch2)] }
theorem C13_ok : CfgOK C13 := { con := lib11_ok, lp := .cons okgch1 (.cons okgch2 .nil) }
def Rchoice (A P : Option (Res At)) (x y : GValue) (s : Bool) (st : Int) (l : List GValue) : Option (Res At) :=
  if decide ((↑l.length : Int) < 1) = false then
   if decide ((↑l.length : Int) > 7) = false then
    if decide (st < 1) = false then
     if decide (st > 16) = true then
      some ((.bool true), [])
     else
      if okch1 { s := s, st := st, l := l, res := false, i := 0 : Kch1 } = true then
       if l.all (chk (gt gv0 l 0).kind) = true then
        if [{ kind := 3, n := st : GValue }].length + l.length < 16777216 then
         if isR A = true then
          if 0 ≤ IntKind.i64.wrap ((↑l.length : Int) - 1) then
           if IntKind.i64.wrap ((↑l.length : Int) - 1) < (↑l.length : Int) then
            if 0 < (↑l.length : Int) then
             if isR P = true then
              if s = true then
               if 0 < (↑l.length : Int) then
                if okch2 { st := st, l := l, v := (vOf A), e := gV3 A, w := (vOf P), f := gV3 P, want := x, ch := y, i := 0 : Kch2 } = true then
                 if decide ((Gch2 { st := st, l := l, v := (vOf A), e := gV3 A, w := (vOf P), f := gV3 P, want := x, ch := y, i := 0 : Kch2 }).e = 0) = true then
                  if (decide ((Gch2 { st := st, l := l, v := (vOf A), e := gV3 A, w := (vOf P), f := gV3 P, want := x, ch := y, i := 0 : Kch2 }).v.kind = (Gch2 { st := st, l := l, v := (vOf A), e := gV3 A, w := (vOf P), f := gV3 P, want := x, ch := y, i := 0 : Kch2 }).ch.kind) && (decide ((Gch2 { st := st, l := l, v := (vOf A), e := gV3 A, w := (vOf P), f := gV3 P, want := x, ch := y, i := 0 : Kch2 }).v.n = (Gch2 { st := st, l := l, v := (vOf A), e := gV3 A, w := (vOf P), f := gV3 P, want := x, ch := y, i := 0 : Kch2 }).ch.n) && true)) = true then
                   if decide ((Gch2 { st := st, l := l, v := (vOf A), e := gV3 A, w := (vOf P), f := gV3 P, want := x, ch := y, i := 0 : Kch2 }).f = 0) = true then
                    some ((.bool (decide ((Gch2 { st := st, l := l, v := (vOf A), e := gV3 A, w := (vOf P), f := gV3 P, want := x, ch := y, i := 0 : Kch2 }).w.kind = (Gch2 { st := st, l := l, v := (vOf A), e := gV3 A, w := (vOf P), f := gV3 P, want := x, ch := y, i := 0 : Kch2 }).want.kind) && (decide ((Gch2 { st := st, l := l, v := (vOf A), e := gV3 A, w := (vOf P), f := gV3 P, want := x, ch := y, i := 0 : Kch2 }).w.n = (Gch2 { st := st, l := l, v := (vOf A), e := gV3 A, w := (vOf P), f := gV3 P, want := x, ch := y, i := 0 : Kch2 }).want.n) && true))), [])
                   else
                    some ((.bool false), [])
                  else
                   some ((.bool false), [])
                 else
                  some ((.bool false), [])
                else
                 none
               else
                none
              else
               if okch2 { st := st, l := l, v := (vOf A), e := gV3 A, w := (vOf P), f := gV3 P, want := y, ch := y, i := 0 : Kch2 } = true then
                if decide ((Gch2 { st := st, l := l, v := (vOf A), e := gV3 A, w := (vOf P), f := gV3 P, want := y, ch := y, i := 0 : Kch2 }).e = 0) = true then
                 if (decide ((Gch2 { st := st, l := l, v := (vOf A), e := gV3 A, w := (vOf P), f := gV3 P, want := y, ch := y, i := 0 : Kch2 }).v.kind = (Gch2 { st := st, l := l, v := (vOf A), e := gV3 A, w := (vOf P), f := gV3 P, want := y, ch := y, i := 0 : Kch2 }).ch.kind) && (decide ((Gch2 { st := st, l := l, v := (vOf A), e := gV3 A, w := (vOf P), f := gV3 P, want := y, ch := y, i := 0 : Kch2 }).v.n = (Gch2 { st := st, l := l, v := (vOf A), e := gV3 A, w := (vOf P), f := gV3 P, want := y, ch := y, i := 0 : Kch2 }).ch.n) && true)) = true then
                  if decide ((Gch2 { st := st, l := l, v := (vOf A), e := gV3 A, w := (vOf P), f := gV3 P, want := y, ch := y, i := 0 : Kch2 }).f = 0) = true then
                   some ((.bool (decide ((Gch2 { st := st, l := l, v := (vOf A), e := gV3 A, w := (vOf P), f := gV3 P, want := y, ch := y, i := 0 : Kch2 }).w.kind = (Gch2 { st := st, l := l, v := (vOf A), e := gV3 A, w := (vOf P), f := gV3 P, want := y, ch := y, i := 0 : Kch2 }).want.kind) && (decide ((Gch2 { st := st, l := l, v := (vOf A), e := gV3 A, w := (vOf P), f := gV3 P, want := y, ch := y, i := 0 : Kch2 }).w.n = (Gch2 { st := st, l := l, v := (vOf A), e := gV3 A, w := (vOf P), f := gV3 P, want := y, ch := y, i := 0 : Kch2 }).want.n) && true))), [])
                  else
                   some ((.bool false), [])
                 else
                  some ((.bool false), [])
                else
                 some ((.bool false), [])
               else
                none
             else
              none
            else
             none
           else
            none
          else
           none
         else
          none
        else
         none
       else
        some ((.bool true), [])
      else
       none
    else
     some ((.bool true), [])
   else
    some ((.bool true), [])
  else
   some ((.bool true), [])
theorem run_Rchoice (s : Bool) (st : Int) (l : List GValue) : runF C13 80 8 [.bool s, .int .i64 st, .ro 38 l] = Rchoice (Reval bCh [] (⟨3, st⟩ :: l)) (Reval bPk [] [binG s, gt gv0 l 0, gt gv0 l (IntKind.i64.wrap ((l.length : Int) - 1)).toNat]) (gt gv0 l 0) (gt gv0 l (IntKind.i64.wrap ((l.length : Int) - 1)).toNat) s st l := by kernel_rfl
def EE (n : Int) : Option (Res At) := some ((.tup [(.agg [(.int .i64 0), (.int .i64 0)]), (.int .i64 n)]), [])
def okV (v : GValue) : Option (Res At) := some (.tup [.agg [.int .i64 v.kind, .int .i64 v.n], .int .i64 0], [])
def dCh : GDescriptor := orD (findD bCh libL)
def dPk : GDescriptor := orD (findD bPk libL)
def prE (d : GDescriptor) (vs : List GValue) (z : Option (Res At)) : Option (Res At) :=
  if (!decide ((inpR (some d) (vs.length : Int)).snd = 0)) = false then
   if fitC (inpR (some d) (vs.length : Int)).fst vs = true then
    if (!fitL 0 (inpR (some d) (vs.length : Int)).fst vs) = true then EE 11 else z
   else none
  else EE 1
theorem ev_ch (vs : List GValue) : Reval bCh [] vs = prE dCh vs (if 0 < (vs.length : Int) then
                if 0 ≤ mnI (gt gv0 vs (Int.toNat 0)).n (IntKind.i64.wrap ((vs.length : Int) - 1)) then
                 if mnI (gt gv0 vs (Int.toNat 0)).n (IntKind.i64.wrap ((vs.length : Int) - 1)) < (vs.length : Int) then okV (gt gv0 vs (mnI (gt gv0 vs (Int.toNat 0)).n (IntKind.i64.wrap ((vs.length : Int) - 1))).toNat) else none
                else none
               else none) := by kernel_rfl
theorem ev_pk (vs : List GValue) : Reval bPk [] vs = prE dPk vs (if 0 < (vs.length : Int) then
               if decide ((gt gv0 vs (Int.toNat 0)).n = 1) = true then if 1 < (vs.length : Int) then okV (gt gv0 vs (Int.toNat 1)) else none
               else if 2 < (vs.length : Int) then okV (gt gv0 vs (Int.toNat 2)) else none
              else none) := by kernel_rfl
def tyT (p : GPort) : Bool := match eqB p.type_ ⟨#[98, 105, 110, 97, 114, 121]⟩, eqB p.type_ ⟨#[109, 117, 108, 116, 105]⟩, eqB p.type_ ⟨#[84]⟩ with | false, false, true => true | _, _, _ => false
theorem tyT_spec {p : GPort} (h : tyT p = true) : eqB p.type_ ⟨#[98, 105, 110, 97, 114, 121]⟩ = false ∧ eqB p.type_ ⟨#[109, 117, 108, 116, 105]⟩ = false ∧ eqB p.type_ ⟨#[84]⟩ = true := by
  unfold tyT at h
  split at h
  · rename_i h1 h2 h3; exact ⟨h1, h2, h3⟩
  · cases h
theorem poss_plain {k n : Int} (h : plainB k n = true) : possB k n k = true ∧ k ≠ 0 := by
  unfold plainB at h
  unfold possB
  by_cases h1 : k = 1
  · subst h1; exact ⟨rfl, by omega⟩
  · rw [decide_eq_false h1] at h
    by_cases h2 : k = 2
    · subst h2; exact ⟨h, by omega⟩
    · dsimp only at h
      rw [decide_eq_false h2] at h
      by_cases h3 : k = 3
      · subst h3; exact ⟨h, by omega⟩
      · dsimp only at h
        rw [decide_eq_false h3] at h
        cases h
theorem fit_T (k : Int) : ∀ (any : Int) (ps : List GPort) (l : List GValue), ps.all tyT = true → ps.length ≤ l.length → l.all (chk k) = true → (any = 0 ∨ any = k) → fitL any ps l = true
  | _, [], _, _, _, _, _ => by unfold fitL; rfl
  | any, p :: ps, [], h, hl, _, _ => by simp at hl
  | any, p :: ps, v :: l, h, hl, hk, ha => by
    rw [List.all_cons, Bool.and_eq_true] at h hk
    obtain ⟨h1, h2, h3⟩ := tyT_spec h.1
    have hv := hk.1
    unfold chk at hv
    simp only [Bool.and_eq_true, decide_eq_true_eq] at hv
    obtain ⟨hp, hvk⟩ := hv
    have hpos := poss_plain hp
    have e1 : kindT any p v = v.kind := by
      unfold kindT
      rw [if_neg (by rw [h1]; simp), if_neg (by rw [h2]; simp), if_pos h3]
      rcases ha with rfl | rfl
      · rfl
      · rw [if_neg (by simp only [decide_eq_true_eq]; rw [← hvk]; exact hpos.2), hvk]
    have e2 : anyT any p v = k := by
      unfold anyT
      rw [if_neg (by rw [h1]; simp), if_neg (by rw [h2]; simp), if_pos h3]
      rcases ha with rfl | rfl
      · exact hvk
      · rw [if_neg (by simp only [decide_eq_true_eq]; rw [← hvk]; exact hpos.2)]
    unfold fitL
    rw [e1, e2, hpos.1, Bool.true_and]
    exact fit_T k k ps l h.2 (by simpa using hl) hk.2 (.inr rfl)
def chChk (n : Nat) : Bool := match inpR (some dCh) (n : Int) with
  | (p :: ps, e) => decide (e = 0) && (Nat.beq (ps.length + 1) n && (ps.all tyT && (!eqB p.type_ ⟨#[98, 105, 110, 97, 114, 121]⟩ && eqB p.type_ ⟨#[109, 117, 108, 116, 105]⟩)))
  | _ => false
theorem ch_chk : (List.range 7).all (fun k => chChk (k + 2)) = true := by kernel_rfl
theorem ch_inp (n : Nat) (h2 : 2 ≤ n) (h8 : n ≤ 8) : ∃ p ps, inpR (some dCh) (n : Int) = (p :: ps, 0) ∧ ps.length + 1 = n ∧ ps.all tyT = true ∧ eqB p.type_ ⟨#[98, 105, 110, 97, 114, 121]⟩ = false ∧ eqB p.type_ ⟨#[109, 117, 108, 116, 105]⟩ = true := by
  have h : chChk n = true := by
    obtain ⟨k, rfl⟩ : ∃ k, n = k + 2 := ⟨n - 2, by omega⟩
    exact List.all_eq_true.1 ch_chk k (by simp; omega)
  unfold chChk at h
  split at h
  · rename_i p ps e he
    simp only [Bool.and_eq_true, decide_eq_true_eq, Bool.not_eq_true'] at h
    exact ⟨p, ps, by rw [he, h.1], Nat.eq_of_beq_eq_true h.2.1, h.2.2.1, h.2.2.2.1, h.2.2.2.2⟩
  · cases h
theorem fitC_of' (ps : List GPort) (vs : List GValue) (h : ps.length ≤ vs.length) (h2 : vs.length ≤ 9223372036854775807) : fitC ps vs = true := by
  unfold fitC
  rw [Nat.ble_eq_true_of_le h, Nat.ble_eq_true_of_le (show ps.length ≤ 9223372036854775807 by omega)]; rfl
theorem choose_val (st : Int) (l : List GValue) (k : Int) (h1 : 1 ≤ l.length) (h7 : l.length ≤ 7) (hs : 1 ≤ st ∧ st ≤ 16) (hk : l.all (chk k) = true) : Reval bCh [] (⟨3, st⟩ :: l) = okV (gt gv0 (⟨3, st⟩ :: l) (min st (l.length : Int)).toNat) := by
  have hlen : (((⟨3, st⟩ : GValue) :: l).length : Int) = (l.length : Int) + 1 := by simp
  obtain ⟨p, ps, e1, e2, e3, e4, e5⟩ := ch_inp ((⟨3, st⟩ : GValue) :: l).length (by simp; omega) (by simp; omega)
  have hl2 : ps.length = l.length := by simpa using e2
  have hw : IntKind.i64.wrap ((((⟨3, st⟩ : GValue) :: l).length : Int) - 1) = (l.length : Int) := by rw [hlen, wrap_small (by omega) (by omega)]; omega
  have hf : fitL 0 (p :: ps) (⟨3, st⟩ :: l) = true := by
    unfold fitL
    have k1 : kindT 0 p ⟨3, st⟩ = 3 := by unfold kindT; rw [if_neg (by rw [e4]; simp), if_pos e5]
    have k2 : anyT 0 p ⟨3, st⟩ = 0 := by unfold anyT; rw [if_neg (by rw [e4]; simp), if_pos e5]
    rw [k1, k2, fit_T k 0 ps l e3 (by omega) hk (.inl rfl), Bool.and_true]
    show andB (decide (st ≥ 1)) (decide (st ≤ 16)) = true
    rw [decide_eq_true hs.1, decide_eq_true hs.2]; rfl
  have hm : mnI (gt gv0 ((⟨3, st⟩ : GValue) :: l) (Int.toNat 0)).n (IntKind.i64.wrap ((((⟨3, st⟩ : GValue) :: l).length : Int) - 1)) = min st (l.length : Int) := by rw [hw, mnI_eq]; rfl
  rw [ev_ch]
  unfold prE
  rw [e1]
  refine (if_pos rfl).trans ((if_pos (fitC_of' _ _ (by simp; omega) (by simp; omega))).trans ((if_neg (by rw [hf]; simp)).trans ?_))
  rw [hm, hlen, if_pos (by omega), if_pos (by omega), if_pos (by omega)]
theorem pick_val (s : Bool) (x y : GValue) (hx : chk x.kind x = true) (hy : chk x.kind y = true) : Reval bPk [] [binG s, x, y] = okV (if s = true then x else y) := by
  rw [ev_pk]
  have hf : fitL 0 (inpR (some dPk) (([binG s, x, y] : List GValue).length : Int)).fst [binG s, x, y] = true := by
    show fitL 0 (⟨⟨#[115]⟩, ⟨#[98, 105, 110, 97, 114, 121]⟩⟩ :: [⟨⟨#[97]⟩, ⟨#[84]⟩⟩, ⟨⟨#[98]⟩, ⟨#[84]⟩⟩]) (binG s :: [x, y]) = true
    unfold fitL
    have h := fit_T x.kind 0 [⟨⟨#[97]⟩, ⟨#[84]⟩⟩, ⟨⟨#[98]⟩, ⟨#[84]⟩⟩] [x, y] (by rfl) (by simp) (by simp [hx, hy]) (.inl rfl)
    rw [show anyT 0 ⟨⟨#[115]⟩, ⟨#[98, 105, 110, 97, 114, 121]⟩⟩ (binG s) = 0 from rfl, h]
    cases s <;> rfl
  unfold prE
  refine (if_pos rfl).trans ((if_pos rfl).trans ((if_neg (by rw [hf]; simp)).trans ?_))
  cases s <;> rfl
theorem choice_true (s : Bool) (st : Int) (l : List GValue) : Rchoice (Reval bCh [] (⟨3, st⟩ :: l)) (Reval bPk [] [binG s, gt gv0 l 0, gt gv0 l (IntKind.i64.wrap ((l.length : Int) - 1)).toNat]) (gt gv0 l 0) (gt gv0 l (IntKind.i64.wrap ((l.length : Int) - 1)).toNat) s st l = some (.bool true, []) := by
  by_cases h1 : (l.length : Int) < 1
  · exact if_neg (by simp only [decide_eq_false_iff_not]; omega)
  refine (if_pos (by simp only [decide_eq_false_iff_not]; omega)).trans ?_
  by_cases h2 : (l.length : Int) > 7
  · exact if_neg (by simp only [decide_eq_false_iff_not]; omega)
  refine (if_pos (by simp only [decide_eq_false_iff_not]; omega)).trans ?_
  by_cases h3 : st < 1
  · exact if_neg (by simp only [decide_eq_false_iff_not]; omega)
  refine (if_pos (by simp only [decide_eq_false_iff_not]; omega)).trans ?_
  by_cases h4 : st > 16
  · exact if_pos (by simp only [decide_eq_true_eq]; omega)
  refine (if_neg (by simp only [decide_eq_true_eq]; omega)).trans ?_
  refine (if_pos (by unfold okch1; simp only [Bool.and_eq_true, decide_eq_true_eq]; exact ⟨trivial, Nat.ble_eq_true_of_le (by omega)⟩)).trans ?_
  by_cases hn : ¬ l.all (chk (gt gv0 l 0).kind) = true
  · exact if_neg hn
  have hk : l.all (chk (gt gv0 l 0).kind) = true := Decidable.not_not.1 hn
  refine (if_pos hk).trans ((if_pos (show 1 + l.length < 16777216 by omega)).trans ?_)
  have hw : IntKind.i64.wrap ((l.length : Int) - 1) = (l.length : Int) - 1 := wrap_small (by omega) (by omega)
  have hy : gt gv0 l (IntKind.i64.wrap ((l.length : Int) - 1)).toNat = l[l.length - 1]'(by omega) := by rw [hw, show ((l.length : Int) - 1).toNat = l.length - 1 by omega, gt_at _ _ _ (by omega)]
  have hx : gt gv0 l 0 = l[0]'(by omega) := gt_at _ _ _ (by omega)
  have hxk : chk (gt gv0 l 0).kind (gt gv0 l 0) = true := List.all_eq_true.1 hk _ (by rw [hx]; exact List.getElem_mem _)
  have hyk : chk (gt gv0 l 0).kind (gt gv0 l (IntKind.i64.wrap ((l.length : Int) - 1)).toNat) = true := List.all_eq_true.1 hk _ (by rw [hy]; exact List.getElem_mem _)
  rw [choose_val st l _ (by omega) (by omega) (by omega) hk, pick_val s _ _ hxk hyk]
  have hc : pickG st (gt gv0 l (IntKind.i64.wrap ((l.length : Int) - 1)).toNat) l.dropLast 0 = gt gv0 (⟨3, st⟩ :: l) (min st (l.length : Int)).toNat := by
    rw [pickG_eq, hy]
    have hdl : (l.dropLast.length : Int) = (l.length : Int) - 1 := by simp; omega
    rw [hdl]
    by_cases hr : ((0 : Nat) : Int) + 1 ≤ st ∧ st ≤ ((0 : Nat) : Int) + ((l.length : Int) - 1)
    · rw [if_pos hr, show (min st (l.length : Int)).toNat = (st - 1 - ((0 : Nat) : Int)).toNat + 1 by omega]
      show _ = gt gv0 l (st - 1 - ((0 : Nat) : Int)).toNat
      rw [gt_at gv0 l _ (by omega), List.getD_eq_getElem?_getD, List.getElem?_eq_getElem (by simp; omega)]
      simp
    · rw [if_neg hr, show (min st (l.length : Int)).toNat = (l.length - 1) + 1 by omega]
      show _ = gt gv0 l (l.length - 1)
      rw [gt_at gv0 l _ (by omega)]
  have hw2 : ∀ v : GValue, vOf (okV v) = v := fun v => rfl
  have hw3 : ∀ v : GValue, gV3 (okV v) = 0 := fun v => rfl
  have ho : ∀ (a b c d : GValue) (e f : Int), okch2 ⟨st, l, a, e, b, f, c, d, 0⟩ = true := fun a b c d e f => by
    unfold okch2
    simp only [Bool.and_eq_true, decide_eq_true_eq]
    exact ⟨trivial, Nat.ble_eq_true_of_le (by omega), Nat.ble_eq_true_of_le (by omega)⟩
  refine (if_pos rfl).trans ((if_pos (by rw [hw]; omega)).trans ((if_pos (by rw [hw]; omega)).trans ((if_pos (by omega)).trans ((if_pos rfl).trans ?_))))
  rw [hw2, hw2, hw3, hw3]
  unfold Gch2
  cases s
  · refine (if_neg (by simp)).trans ((if_pos (ho _ _ _ _ _ _)).trans ((if_pos rfl).trans ?_))
    dsimp only
    rw [hc]
    simp
  · refine (if_pos rfl).trans ((if_pos (by omega)).trans ((if_pos (ho _ _ _ _ _ _)).trans ((if_pos rfl).trans ?_)))
    dsimp only
    rw [hc]
    simp
def onBIL {R : Type} (e : Nat) (F : Bool → Int → List (At e) → Option R) (l : List VT) : Option R := match l with | [.bool b, .int .i64 n, x] => (match roV e x with | some a => F b n a | _ => none) | _ => none
theorem onBIL_spec {R : Type} {e : Nat} {F : Bool → Int → List (At e) → Option R} {l : List VT} {r : R} (h : onBIL e F l = some r) : ∃ b n a, l = [.bool b, .int .i64 n, .ro e a] ∧ F b n a = some r := by
  unfold onBIL at h
  split at h
  · split at h
    · rename_i hx
      exact ⟨_, _, _, by rw [roV_spec hx], h⟩
    · cases h
  · cases h
def conTrueC : CON := onBIL 38 fun b n (l : List GValue) => some (true, (.bool true, []))
theorem okBlockChoice : OK 8 conTrueC := ok_run C13_ok (by kernel_rfl) fun l r h => by
  replace h := onBIL_spec h
  obtain ⟨s, st, l, rfl, h⟩ := h
  obtain ⟨_, rfl⟩ := some_pair h
  exact ⟨80, (run_Rchoice s st l).trans (choice_true s st l)⟩
theorem hgBlockChoice {Q : At 38 → Prop} (b : Bool) (n : Int) (l : List (At 38)) (hn : (Lit.int .i64 n).wf = true) (h : l.length ≤ maxLen ∧ ∀ x ∈ l, Q x) : conTrueC [.bool b, .int .i64 n, .ro 38 l] = some (true, (.bool true, [])) := rfl
end
end Go.Proofs.YtbcpnhnalhhfoaaGreatDoor.X
