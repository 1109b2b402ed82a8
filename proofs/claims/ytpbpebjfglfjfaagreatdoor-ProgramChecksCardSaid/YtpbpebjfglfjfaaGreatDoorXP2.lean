/-
  Params of the program: its loops.
-/
import Derived.Test.YtpbpebjfglfjfaaGreatDoorXP1
set_option autoImplicit false
set_option linter.unusedVariables false
set_option linter.unusedSimpArgs false
set_option maxRecDepth 100000
namespace Go.Proofs.YtpbpebjfglfjfaaGreatDoor.X
open Go Go.Proofs Go.RowKit Go.Proofs.YtpbpebjfglfjfaaGreatDoor
noncomputable section
def mlook9_2 (s : ByteArray) (m : List (ByteArray × Int)) : Option Int := tlook TT Tryz.prog 9 2 s m
def mupd9_2 (s : ByteArray) (v : Int) (m : List (ByteArray × Int)) : List (ByteArray × Int) := tupd TT Tryz.prog 9 2 s v m
structure Kpa1 where
  s : ByteArray
  l : List GParam
  er : Int
  d : GDescriptor
  m : List (ByteArray × Int)
  q : List GParam
  n : Int
  i : Int
structure Epa1 where
  s : ByteArray
  l : List GParam
  er : Int
  d : GDescriptor
  m : List (ByteArray × Int)
def Spa1 (k : Kpa1) : St At := { env := [(0, .str k.s), (1, .ro 93 k.l), (4, .nils), (5, .int .i64 k.er), (6, .ptr 0 0), (8, .mapr 1), (9, .fn 121 [.ptr 0 0]), (34, .ro 93 k.q), (35, .int .i64 k.n), (36, .int .i64 k.i)], stk := [], hp := [(0, .var (enc150 k.d) false), (1, .map (.ty 9 2 k.m) false)], nx := 2 }
def Xpa1 (k : Epa1) : St At := { env := [(0, .str k.s), (1, .ro 93 k.l), (4, .nils), (5, .int .i64 k.er), (6, .ptr 0 0), (8, .mapr 1), (9, .fn 121 [.ptr 0 0])], stk := [], hp := [(0, .var (enc150 k.d) false), (1, .map (.ty 9 2 k.m) false)], nx := 2 }
def Cpa1 : Cfg := { cs := libP2, ks := [((60, 7), [(0, none), (1, none), (4, none), (5, none), (6, none), (8, none), (9, none), (34, none), (35, none), (36, none)])], xs := [((60, 7), [(0, none), (1, none), (4, none), (5, none), (6, none), (8, none), (9, none)])], lps := [] }
theorem Cpa1_ok : CfgOK Cpa1 := { con := libP2_ok }
def stpa1 {α : Type} (k : Kpa1) (go : Kpa1 → α) (ex ret : Epa1 → α) (no : α) : α :=
  if decide (k.i < k.n) = true then
   if 0 ≤ k.i then
    if k.i < (↑k.q.length : Int) then
     if lenB k.d.params = true then
      if decide (idxB (gt { name := { data := #[] : ByteArray }, value := 0 : GParam } k.q k.i.toNat).name k.d.params < 0) = true then
       ret ⟨(k.s), (k.l), (3), (k.d), (k.m)⟩
      else
       go ⟨(k.s), (k.l), (k.er), (k.d), (k.m), (k.q), (k.n), (IntKind.i64.wrap (k.i + 1))⟩
     else
      no
    else
     no
   else
    no
  else
   ex ⟨(k.s), (k.l), (k.er), (k.d), (k.m)⟩
def steppa1 (k : Kpa1) : Nx Kpa1 Epa1 := stpa1 k .go .ex .ret .no
theorem Bpa1 (k : Kpa1) (m : Nat) (R : St At → Option (Res At)) (K : Xit → St At → Option (Res At)) : B Cpa1 60 7 (m + 60) (Spa1 k) R K = stpa1 k (fun k => R (Spa1 k)) (fun x => K (.ex 0) (Xpa1 x)) (fun x => K .ret (Xpa1 x)) none := by kernel_rfl
def upa1 (st : St At) : Option Kpa1 := match st with
  | ⟨[(0, .str s), (1, vl), (4, .nils), (5, .int .i64 er), (6, .ptr 0 0), (8, .mapr 1), (9, .fn 121 [.ptr 0 0]), (34, vq), (35, .int .i64 n), (36, .int .i64 i)], [], [(0, .var wd false), (1, bm)], 2⟩ => (match roV 93 vl, ex150 wd, mapB 9 2 bm, roV 93 vq with | some l, some d, some m, some q => some ⟨s, l, er, d, m, q, n, i⟩ | _, _, _, _ => none)
  | _ => none
theorem upa1_spec {st : St At} {k : Kpa1} (h : upa1 st = some k) : st = Spa1 k := by
  unfold upa1 at h
  split at h
  · split at h
    · rename_i h0 h1 h2 h3
      obtain rfl := Option.some.inj h
      rw [roV_spec h0, ex150_spec h1, mapB_spec h2, roV_spec h3]
      rfl
    · cases h
  · cases h
theorem oklpa1 {g : LP} (hg : ∀ st K q, g st K = some q → ∃ k n e, st = Spa1 k ∧ iter steppa1 n k = some e ∧ e.k 0 Xpa1 Xpa1 K = some q) : OKL 60 7 g := okl_iter Cpa1_ok (S := Spa1) (X := Xpa1) (Y := Xpa1) (step := steppa1) (id := 0) (by kernel_rfl) (by kernel_rfl)
  (fun k m R K => by rw [Bpa1]; unfold steppa1 stpa1; simp only [Nx.k_ite]; rfl) (fun k => by kernel_rfl) hg
/-- the contract out of a closed form -/
theorem okfpa1 {g : LP} {fuel : Kpa1 → Nat} {ok : Kpa1 → Bool} {F : Kpa1 → Fx Epa1} (hF : ∀ k, ok k = true → iter steppa1 (fuel k) k = some (F k)) (hg : ∀ st K, g st K = (match upa1 st with | some k => if ok k = true then (F k).k 0 Xpa1 Xpa1 K else none | none => none)) : OKL 60 7 g := oklpa1 fun st K q h => by
  rw [hg] at h
  split at h
  · rename_i k hu
    split at h
    · rename_i hok; exact ⟨k, _, _, upa1_spec hu, hF k hok, h⟩
    · cases h
  · cases h
structure Kpa2 where
  s : ByteArray
  l : List GParam
  er : Int
  d : GDescriptor
  m : List (ByteArray × Int)
  q : List GParam
  n : Int
  i : Int
structure Epa2 where
  s : ByteArray
  l : List GParam
  er : Int
  d : GDescriptor
  m : List (ByteArray × Int)
def Spa2 (k : Kpa2) : St At := { env := [(0, .str k.s), (1, .ro 93 k.l), (4, .nils), (5, .int .i64 k.er), (6, .ptr 0 0), (8, .mapr 1), (9, .fn 121 [.ptr 0 0]), (45, .ro 93 k.q), (46, .int .i64 k.n), (47, .int .i64 k.i)], stk := [], hp := [(0, .var (enc150 k.d) false), (1, .map (.ty 9 2 k.m) false)], nx := 2 }
def Xpa2 (k : Epa2) : St At := { env := [(0, .str k.s), (1, .ro 93 k.l), (4, .nils), (5, .int .i64 k.er), (6, .ptr 0 0), (8, .mapr 1), (9, .fn 121 [.ptr 0 0])], stk := [], hp := [(0, .var (enc150 k.d) false), (1, .map (.ty 9 2 k.m) false)], nx := 2 }
def Cpa2 : Cfg := { cs := libP2, ks := [((60, 13), [(0, none), (1, none), (4, none), (5, none), (6, none), (8, none), (9, none), (45, none), (46, none), (47, none)])], xs := [((60, 13), [(0, none), (1, none), (4, none), (5, none), (6, none), (8, none), (9, none)])], lps := [] }
theorem Cpa2_ok : CfgOK Cpa2 := { con := libP2_ok }
def stpa2 {α : Type} (k : Kpa2) (go : Kpa2 → α) (ex ret : Epa2 → α) (no : α) : α :=
  if decide (k.i < k.n) = true then
   if 0 ≤ k.i then
    if k.i < (↑k.q.length : Int) then
     if isO (mlook9_2 (gt { name := { data := #[] : ByteArray }, value := 0 : GParam } k.q k.i.toNat).name k.m) = true then
      ret ⟨(k.s), (k.l), (5), (k.d), (k.m)⟩
     else
      go ⟨(k.s), (k.l), (k.er), (k.d), (mupd9_2 (gt { name := { data := #[] : ByteArray }, value := 0 : GParam } k.q k.i.toNat).name (gt { name := { data := #[] : ByteArray }, value := 0 : GParam } k.q k.i.toNat).value k.m), (k.q), (k.n), (IntKind.i64.wrap (k.i + 1))⟩
    else
     no
   else
    no
  else
   ex ⟨(k.s), (k.l), (k.er), (k.d), (k.m)⟩
def steppa2 (k : Kpa2) : Nx Kpa2 Epa2 := stpa2 k .go .ex .ret .no
theorem Bpa2 (k : Kpa2) (m : Nat) (R : St At → Option (Res At)) (K : Xit → St At → Option (Res At)) : B Cpa2 60 13 (m + 60) (Spa2 k) R K = stpa2 k (fun k => R (Spa2 k)) (fun x => K (.ex 2) (Xpa2 x)) (fun x => K .ret (Xpa2 x)) none := by kernel_rfl
def upa2 (st : St At) : Option Kpa2 := match st with
  | ⟨[(0, .str s), (1, vl), (4, .nils), (5, .int .i64 er), (6, .ptr 0 0), (8, .mapr 1), (9, .fn 121 [.ptr 0 0]), (45, vq), (46, .int .i64 n), (47, .int .i64 i)], [], [(0, .var wd false), (1, bm)], 2⟩ => (match roV 93 vl, ex150 wd, mapB 9 2 bm, roV 93 vq with | some l, some d, some m, some q => some ⟨s, l, er, d, m, q, n, i⟩ | _, _, _, _ => none)
  | _ => none
theorem upa2_spec {st : St At} {k : Kpa2} (h : upa2 st = some k) : st = Spa2 k := by
  unfold upa2 at h
  split at h
  · split at h
    · rename_i h0 h1 h2 h3
      obtain rfl := Option.some.inj h
      rw [roV_spec h0, ex150_spec h1, mapB_spec h2, roV_spec h3]
      rfl
    · cases h
  · cases h
theorem oklpa2 {g : LP} (hg : ∀ st K q, g st K = some q → ∃ k n e, st = Spa2 k ∧ iter steppa2 n k = some e ∧ e.k 2 Xpa2 Xpa2 K = some q) : OKL 60 13 g := okl_iter Cpa2_ok (S := Spa2) (X := Xpa2) (Y := Xpa2) (step := steppa2) (id := 2) (by kernel_rfl) (by kernel_rfl)
  (fun k m R K => by rw [Bpa2]; unfold steppa2 stpa2; simp only [Nx.k_ite]; rfl) (fun k => by kernel_rfl) hg
/-- the contract out of a closed form -/
theorem okfpa2 {g : LP} {fuel : Kpa2 → Nat} {ok : Kpa2 → Bool} {F : Kpa2 → Fx Epa2} (hF : ∀ k, ok k = true → iter steppa2 (fuel k) k = some (F k)) (hg : ∀ st K, g st K = (match upa2 st with | some k => if ok k = true then (F k).k 2 Xpa2 Xpa2 K else none | none => none)) : OKL 60 13 g := oklpa2 fun st K q h => by
  rw [hg] at h
  split at h
  · rename_i k hu
    split at h
    · rename_i hok; exact ⟨k, _, _, upa2_spec hu, hF k hok, h⟩
    · cases h
  · cases h
structure Kpa3 where
  s : ByteArray
  l : List GParam
  er : Int
  d : GDescriptor
  m : List (ByteArray × Int)
  q : List GParam
  n : Int
  i : Int
structure Epa3 where
  s : ByteArray
  l : List GParam
  er : Int
  d : GDescriptor
  m : List (ByteArray × Int)
def Spa3 (k : Kpa3) : St At := { env := [(0, .str k.s), (1, .ro 93 k.l), (4, .nils), (5, .int .i64 k.er), (6, .ptr 0 0), (8, .mapr 1), (9, .fn 121 [.ptr 0 0]), (65, .ro 93 k.q), (66, .int .i64 k.n), (67, .int .i64 k.i)], stk := [], hp := [(0, .var (enc150 k.d) false), (1, .map (.ty 9 2 k.m) false)], nx := 2 }
def Xpa3 (k : Epa3) : St At := { env := [(0, .str k.s), (1, .ro 93 k.l), (4, .nils), (5, .int .i64 k.er), (6, .ptr 0 0), (8, .mapr 1), (9, .fn 121 [.ptr 0 0])], stk := [], hp := [(0, .var (enc150 k.d) false), (1, .map (.ty 9 2 k.m) false)], nx := 2 }
def Cpa3 : Cfg := { cs := libP2, ks := [((60, 21), [(0, none), (1, none), (4, none), (5, none), (6, none), (8, none), (9, none), (65, none), (66, none), (67, none)])], xs := [((60, 21), [(0, none), (1, none), (4, none), (5, none), (6, none), (8, none), (9, none)])], lps := [] }
theorem Cpa3_ok : CfgOK Cpa3 := { con := libP2_ok }
def stpa3 {α : Type} (k : Kpa3) (go : Kpa3 → α) (ex ret : Epa3 → α) (no : α) : α :=
  if decide (k.i < k.n) = true then
   if 0 ≤ k.i then
    if k.i < (↑k.q.length : Int) then
     if lenB k.d.params = true then
      if 0 ≤ idxB (gt { name := { data := #[] : ByteArray }, value := 0 : GParam } k.q k.i.toNat).name k.d.params then
       if idxB (gt { name := { data := #[] : ByteArray }, value := 0 : GParam } k.q k.i.toNat).name k.d.params < (↑k.d.params.length : Int) then
        if decide ((gt { name := { data := #[] : ByteArray }, value := 0 : GParam } k.q k.i.toNat).value < (gt { name := { data := #[] : ByteArray }, lo := 0, hi := 0, default_ := 0 : GBound } k.d.params (idxB (gt { name := { data := #[] : ByteArray }, value := 0 : GParam } k.q k.i.toNat).name k.d.params).toNat).lo) = false then
         if decide ((gt { name := { data := #[] : ByteArray }, value := 0 : GParam } k.q k.i.toNat).value > (gt { name := { data := #[] : ByteArray }, lo := 0, hi := 0, default_ := 0 : GBound } k.d.params (idxB (gt { name := { data := #[] : ByteArray }, value := 0 : GParam } k.q k.i.toNat).name k.d.params).toNat).hi) = true then
          ret ⟨(k.s), (k.l), (6), (k.d), (k.m)⟩
         else
          go ⟨(k.s), (k.l), (k.er), (k.d), (k.m), (k.q), (k.n), (IntKind.i64.wrap (k.i + 1))⟩
        else
         ret ⟨(k.s), (k.l), (6), (k.d), (k.m)⟩
       else
        no
      else
       no
     else
      no
    else
     no
   else
    no
  else
   ex ⟨(k.s), (k.l), (k.er), (k.d), (k.m)⟩
def steppa3 (k : Kpa3) : Nx Kpa3 Epa3 := stpa3 k .go .ex .ret .no
theorem Bpa3 (k : Kpa3) (m : Nat) (R : St At → Option (Res At)) (K : Xit → St At → Option (Res At)) : B Cpa3 60 21 (m + 60) (Spa3 k) R K = stpa3 k (fun k => R (Spa3 k)) (fun x => K (.ex 4) (Xpa3 x)) (fun x => K .ret (Xpa3 x)) none := by kernel_rfl
def upa3 (st : St At) : Option Kpa3 := match st with
  | ⟨[(0, .str s), (1, vl), (4, .nils), (5, .int .i64 er), (6, .ptr 0 0), (8, .mapr 1), (9, .fn 121 [.ptr 0 0]), (65, vq), (66, .int .i64 n), (67, .int .i64 i)], [], [(0, .var wd false), (1, bm)], 2⟩ => (match roV 93 vl, ex150 wd, mapB 9 2 bm, roV 93 vq with | some l, some d, some m, some q => some ⟨s, l, er, d, m, q, n, i⟩ | _, _, _, _ => none)
  | _ => none
theorem upa3_spec {st : St At} {k : Kpa3} (h : upa3 st = some k) : st = Spa3 k := by
  unfold upa3 at h
  split at h
  · split at h
    · rename_i h0 h1 h2 h3
      obtain rfl := Option.some.inj h
      rw [roV_spec h0, ex150_spec h1, mapB_spec h2, roV_spec h3]
      rfl
    · cases h
  · cases h
theorem oklpa3 {g : LP} (hg : ∀ st K q, g st K = some q → ∃ k n e, st = Spa3 k ∧ iter steppa3 n k = some e ∧ e.k 4 Xpa3 Xpa3 K = some q) : OKL 60 21 g := okl_iter Cpa3_ok (S := Spa3) (X := Xpa3) (Y := Xpa3) (step := steppa3) (id := 4) (by kernel_rfl) (by kernel_rfl)
  (fun k m R K => by rw [Bpa3]; unfold steppa3 stpa3; simp only [Nx.k_ite]; rfl) (fun k => by kernel_rfl) hg
/-- the contract out of a closed form -/
theorem okfpa3 {g : LP} {fuel : Kpa3 → Nat} {ok : Kpa3 → Bool} {F : Kpa3 → Fx Epa3} (hF : ∀ k, ok k = true → iter steppa3 (fuel k) k = some (F k)) (hg : ∀ st K, g st K = (match upa3 st with | some k => if ok k = true then (F k).k 4 Xpa3 Xpa3 K else none | none => none)) : OKL 60 21 g := oklpa3 fun st K q h => by
  rw [hg] at h
  split at h
  · rename_i k hu
    split at h
    · rename_i hok; exact ⟨k, _, _, upa3_spec hu, hF k hok, h⟩
    · cases h
  · cases h
structure Kpa4 where
  s : ByteArray
  m : List (ByteArray × Int)
  o : List Int
  q : List GBound
  n : Int
  i : Int
structure Epa4 where
  s : ByteArray
  o : List Int
def Spa4 (k : Kpa4) : St At := { env := [(0, .str k.s), (8, .mapr 0), (19, .own 1), (92, .ro 155 k.q), (93, .int .i64 k.n), (94, .int .i64 k.i)], stk := [], hp := [(0, .map (.ty 9 2 k.m) false), (1, .row 2 k.o false)], nx := 2 }
def Xpa4 (k : Epa4) : St At := { env := [(0, .str k.s), (19, .own 0)], stk := [], hp := [(0, .row 2 k.o false)], nx := 1 }
def Cpa4 : Cfg := { cs := libP2, ks := [((60, 29), [(0, none), (8, none), (19, some 2), (92, none), (93, none), (94, none)])], xs := [((60, 29), [(0, none), (19, some 2)])], lps := [] }
theorem Cpa4_ok : CfgOK Cpa4 := { con := libP2_ok }
def stpa4 {α : Type} (k : Kpa4) (go : Kpa4 → α) (ex ret : Epa4 → α) (no : α) : α :=
  if decide (k.i < k.n) = true then
   if 0 ≤ k.i then
    if k.i < (↑k.q.length : Int) then
     if (!isO (mlook9_2 (gt { name := { data := #[] : ByteArray }, lo := 0, hi := 0, default_ := 0 : GBound } k.q k.i.toNat).name k.m)) = true then
      if k.o.length + [(gt { name := { data := #[] : ByteArray }, lo := 0, hi := 0, default_ := 0 : GBound } k.q k.i.toNat).default_].length < 16777216 then
       go ⟨(k.s), (k.m), (k.o ++ [(gt { name := { data := #[] : ByteArray }, lo := 0, hi := 0, default_ := 0 : GBound } k.q k.i.toNat).default_]), (k.q), (k.n), (IntKind.i64.wrap (k.i + 1))⟩
      else
       no
     else
      if k.o.length + [getO 0 (mlook9_2 (gt { name := { data := #[] : ByteArray }, lo := 0, hi := 0, default_ := 0 : GBound } k.q k.i.toNat).name k.m)].length < 16777216 then
       go ⟨(k.s), (k.m), (k.o ++ [getO 0 (mlook9_2 (gt { name := { data := #[] : ByteArray }, lo := 0, hi := 0, default_ := 0 : GBound } k.q k.i.toNat).name k.m)]), (k.q), (k.n), (IntKind.i64.wrap (k.i + 1))⟩
      else
       no
    else
     no
   else
    no
  else
   ex ⟨(k.s), (k.o)⟩
def steppa4 (k : Kpa4) : Nx Kpa4 Epa4 := stpa4 k .go .ex .ret .no
theorem Bpa4 (k : Kpa4) (m : Nat) (R : St At → Option (Res At)) (K : Xit → St At → Option (Res At)) : B Cpa4 60 29 (m + 60) (Spa4 k) R K = stpa4 k (fun k => R (Spa4 k)) (fun x => K (.ex 6) (Xpa4 x)) (fun x => K .ret (Xpa4 x)) none := by kernel_rfl
def upa4 (st : St At) : Option Kpa4 := match st with
  | ⟨[(0, .str s), (8, .mapr 0), (19, .own 1), (92, vq), (93, .int .i64 n), (94, .int .i64 i)], [], [(0, bm), (1, bo)], 2⟩ => (match mapB 9 2 bm, rowB 2 bo, roV 155 vq with | some m, some o, some q => some ⟨s, m, o, q, n, i⟩ | _, _, _ => none)
  | _ => none
theorem upa4_spec {st : St At} {k : Kpa4} (h : upa4 st = some k) : st = Spa4 k := by
  unfold upa4 at h
  split at h
  · split at h
    · rename_i h0 h1 h2
      obtain rfl := Option.some.inj h
      rw [mapB_spec h0, rowB_spec h1, roV_spec h2]
      rfl
    · cases h
  · cases h
theorem oklpa4 {g : LP} (hg : ∀ st K q, g st K = some q → ∃ k n e, st = Spa4 k ∧ iter steppa4 n k = some e ∧ e.k 6 Xpa4 Xpa4 K = some q) : OKL 60 29 g := okl_iter Cpa4_ok (S := Spa4) (X := Xpa4) (Y := Xpa4) (step := steppa4) (id := 6) (by kernel_rfl) (by kernel_rfl)
  (fun k m R K => by rw [Bpa4]; unfold steppa4 stpa4; simp only [Nx.k_ite]; rfl) (fun k => by kernel_rfl) hg
/-- the contract out of a closed form -/
theorem okfpa4 {g : LP} {fuel : Kpa4 → Nat} {ok : Kpa4 → Bool} {F : Kpa4 → Fx Epa4} (hF : ∀ k, ok k = true → iter steppa4 (fuel k) k = some (F k)) (hg : ∀ st K, g st K = (match upa4 st with | some k => if ok k = true then (F k).k 6 Xpa4 Xpa4 K else none | none => none)) : OKL 60 29 g := oklpa4 fun st K q h => by
  rw [hg] at h
  split at h
  · rename_i k hu
    split at h
    · rename_i hok; exact ⟨k, _, _, upa4_spec hu, hF k hok, h⟩
    · cases h
  · cases h
def gp00 : GParam := ⟨⟨#[]⟩, 0⟩
def stp1 (d : GDescriptor) (_ : Unit) (x : GParam) : Unit ⊕ Unit := if decide (idxB x.name d.params < 0) = true then .inr () else .inl ()
def stp2 (m : List (ByteArray × Int)) (x : GParam) : List (ByteArray × Int) ⊕ List (ByteArray × Int) := if isO (mlook9_2 x.name m) = true then .inr m else .inl (mupd9_2 x.name x.value m)
def rngB (d : GDescriptor) (x : GParam) : Bool := if decide (x.value < (gt gb0 d.params (idxB x.name d.params).toNat).lo) = false then decide (x.value > (gt gb0 d.params (idxB x.name d.params).toNat).hi) else true
def stp3 (d : GDescriptor) (_ : Unit) (x : GParam) : Unit ⊕ Unit := if rngB d x = true then .inr () else .inl ()
def isL {α β : Type} (o : α ⊕ β) : Bool := match o with | .inl _ => true | .inr _ => false
def getL {α β : Type} (d : α) (o : α ⊕ β) : α := match o with | .inl x => x | .inr _ => d
def getR {α β : Type} (d : β) (o : α ⊕ β) : β := match o with | .inl _ => d | .inr y => y
def parV (m : List (ByteArray × Int)) (b : GBound) : Int := if (!isO (mlook9_2 b.name m)) = true then b.default_ else getO 0 (mlook9_2 b.name m)
def okpa1 (k : Kpa1) : Bool := decide (k.i = 0) && (decide (k.n = (k.q.length : Int)) && (Nat.ble k.q.length 9223372036854775807 && lenB k.d.params))
def Fpa1 (k : Kpa1) : Fx Epa1 := match scanL (stp1 k.d) () k.q with | .inl _ => .ex ⟨k.s, k.l, k.er, k.d, k.m⟩ | .inr _ => .ret ⟨k.s, k.l, 3, k.d, k.m⟩
theorem ipa1 (k : Kpa1) (h : okpa1 k = true) : iter steppa1 k.q.length k = some (Fpa1 k) := by
  unfold okpa1 at h
  simp only [Bool.and_eq_true, decide_eq_true_eq] at h
  obtain ⟨h0, h1, h2, h3⟩ := h
  replace h2 := Nat.le_of_ble_eq_true h2
  obtain ⟨s, l, er, d, m, q, n, i⟩ := k
  dsimp only at h0 h1 h2 h3
  subst h0; subst h1
  have := iter_scan (step := steppa1) q (fun (_ : Unit) j => (⟨s, l, er, d, m, q, (q.length : Int), (j : Int)⟩ : Kpa1)) (stp1 d) (fun _ => (⟨s, l, er, d, m⟩ : Epa1)) (fun _ => (⟨s, l, 3, d, m⟩ : Epa1)) (fun _ _ => True)
    (fun b j h _ => by
      have hs : steppa1 ⟨s, l, er, d, m, q, (q.length : Int), (j : Int)⟩ = if decide (idxB (q[j]).name d.params < 0) = true then .ret ⟨s, l, 3, d, m⟩ else .go ⟨s, l, er, d, m, q, (q.length : Int), ((j + 1 : Nat) : Int)⟩ := by
        unfold steppa1 stpa1
        dsimp only
        rw [cnt h h2, gtj _ _ _ h, if_pos (lt1 h), if_pos lt0, if_pos (lt2 h), if_pos h3]
      unfold stp1
      rw [hs]
      by_cases hc : decide (idxB (q[j]).name d.params < 0) = true
      · rw [if_pos hc, if_pos hc]
        exact ⟨fun b' hb => (by cases hb), fun y hy => rfl⟩
      · rw [if_neg hc, if_neg hc]
        exact ⟨fun b' hb => ⟨rfl, trivial⟩, fun y hy => (by cases hy)⟩) (fun b _ => by unfold steppa1 stpa1; dsimp only; rw [if_neg lt3]) q.length 0 () (by omega) trivial
  rw [List.drop_zero] at this
  refine this.trans ?_
  unfold Fpa1
  dsimp only
  cases scanL (stp1 d) () q <;> rfl
def gpa1 : LP := fun st K => match upa1 st with | some k => if okpa1 k = true then (if isL (scanL (stp1 k.d) () k.q) = true then K (.ex 0) (Xpa1 ⟨k.s, k.l, k.er, k.d, k.m⟩) else K .ret (Xpa1 ⟨k.s, k.l, 3, k.d, k.m⟩)) else none | none => none
theorem okgpa1 : OKL 60 7 gpa1 := okfpa1 (fuel := fun k => k.q.length) (ok := okpa1) (F := Fpa1) ipa1 fun st K => by
  unfold gpa1
  split
  · rename_i k hu
    split
    · unfold Fpa1
      cases scanL (stp1 k.d) () k.q <;> rfl
    · rfl
  · rfl
def okpa2 (k : Kpa2) : Bool := decide (k.i = 0) && (decide (k.n = (k.q.length : Int)) && Nat.ble k.q.length 9223372036854775807)
def Fpa2 (k : Kpa2) : Fx Epa2 := match scanL stp2 k.m k.q with | .inl m => .ex ⟨k.s, k.l, k.er, k.d, m⟩ | .inr m => .ret ⟨k.s, k.l, 5, k.d, m⟩
theorem ipa2 (k : Kpa2) (h : okpa2 k = true) : iter steppa2 k.q.length k = some (Fpa2 k) := by
  unfold okpa2 at h
  simp only [Bool.and_eq_true, decide_eq_true_eq] at h
  obtain ⟨h0, h1, h2⟩ := h
  replace h2 := Nat.le_of_ble_eq_true h2
  obtain ⟨s, l, er, d, m, q, n, i⟩ := k
  dsimp only at h0 h1 h2
  subst h0; subst h1
  have := iter_scan (step := steppa2) q (fun m j => (⟨s, l, er, d, m, q, (q.length : Int), (j : Int)⟩ : Kpa2)) stp2 (fun m => (⟨s, l, er, d, m⟩ : Epa2)) (fun m => (⟨s, l, 5, d, m⟩ : Epa2)) (fun _ _ => True)
    (fun b j h _ => by
      have hs : steppa2 ⟨s, l, er, d, b, q, (q.length : Int), (j : Int)⟩ = if isO (mlook9_2 (q[j]).name b) = true then .ret ⟨s, l, 5, d, b⟩ else .go ⟨s, l, er, d, mupd9_2 (q[j]).name (q[j]).value b, q, (q.length : Int), ((j + 1 : Nat) : Int)⟩ := by
        unfold steppa2 stpa2
        dsimp only
        rw [cnt h h2, gtj _ _ _ h, if_pos (lt1 h), if_pos lt0, if_pos (lt2 h)]
      unfold stp2
      rw [hs]
      by_cases hc : isO (mlook9_2 (q[j]).name b) = true
      · rw [if_pos hc, if_pos hc]
        exact ⟨fun b' hb => (by cases hb), fun y hy => (by cases hy; rfl)⟩
      · rw [if_neg hc, if_neg hc]
        exact ⟨fun b' hb => (by cases hb; exact ⟨rfl, trivial⟩), fun y hy => (by cases hy)⟩) (fun b _ => by unfold steppa2 stpa2; dsimp only; rw [if_neg lt3]) q.length 0 m (by omega) trivial
  rw [List.drop_zero] at this
  refine this.trans ?_
  unfold Fpa2
  dsimp only
  cases scanL stp2 m q <;> rfl
def gpa2 : LP := fun st K => match upa2 st with | some k => if okpa2 k = true then (if isL (scanL stp2 k.m k.q) = true then K (.ex 2) (Xpa2 ⟨k.s, k.l, k.er, k.d, getL [] (scanL stp2 k.m k.q)⟩) else K .ret (Xpa2 ⟨k.s, k.l, 5, k.d, getR [] (scanL stp2 k.m k.q)⟩)) else none | none => none
theorem okgpa2 : OKL 60 13 gpa2 := okfpa2 (fuel := fun k => k.q.length) (ok := okpa2) (F := Fpa2) ipa2 fun st K => by
  unfold gpa2
  split
  · rename_i k hu
    split
    · unfold Fpa2
      cases scanL stp2 k.m k.q <;> rfl
    · rfl
  · rfl
/-- all names are there -/
def idxC (d : GDescriptor) (l : List GParam) : Bool := l.all fun x => decide (0 ≤ idxB x.name d.params) && decide (idxB x.name d.params < (d.params.length : Int))
def okpa3 (k : Kpa3) : Bool := decide (k.i = 0) && (decide (k.n = (k.q.length : Int)) && (Nat.ble k.q.length 9223372036854775807 && (lenB k.d.params && idxC k.d k.q)))
def Fpa3 (k : Kpa3) : Fx Epa3 := match scanL (stp3 k.d) () k.q with | .inl _ => .ex ⟨k.s, k.l, k.er, k.d, k.m⟩ | .inr _ => .ret ⟨k.s, k.l, 6, k.d, k.m⟩
theorem ipa3 (k : Kpa3) (h : okpa3 k = true) : iter steppa3 k.q.length k = some (Fpa3 k) := by
  unfold okpa3 at h
  simp only [Bool.and_eq_true, decide_eq_true_eq] at h
  obtain ⟨h0, h1, h2, h3, h4⟩ := h
  replace h2 := Nat.le_of_ble_eq_true h2
  obtain ⟨s, l, er, d, m, q, n, i⟩ := k
  dsimp only at h0 h1 h2 h3 h4
  subst h0; subst h1
  have := iter_scan (step := steppa3) q (fun (_ : Unit) j => (⟨s, l, er, d, m, q, (q.length : Int), (j : Int)⟩ : Kpa3)) (stp3 d) (fun _ => (⟨s, l, er, d, m⟩ : Epa3)) (fun _ => (⟨s, l, 6, d, m⟩ : Epa3)) (fun _ _ => True)
    (fun b j h _ => by
      have hj := List.all_eq_true.1 h4 q[j] (List.getElem_mem h)
      simp only [Bool.and_eq_true, decide_eq_true_eq] at hj
      have hs : steppa3 ⟨s, l, er, d, m, q, (q.length : Int), (j : Int)⟩ = if rngB d q[j] = true then .ret ⟨s, l, 6, d, m⟩ else .go ⟨s, l, er, d, m, q, (q.length : Int), ((j + 1 : Nat) : Int)⟩ := by
        unfold steppa3 stpa3
        dsimp only
        rw [cnt h h2, gtj _ _ _ h, if_pos (lt1 h), if_pos lt0, if_pos (lt2 h), if_pos h3, if_pos hj.1, if_pos hj.2]
        unfold rngB
        show (if decide ((q[j]).value < (gt gb0 d.params (idxB (q[j]).name d.params).toNat).lo) = false then (if decide ((q[j]).value > (gt gb0 d.params (idxB (q[j]).name d.params).toNat).hi) = true then (.ret ⟨s, l, 6, d, m⟩ : Nx Kpa3 Epa3) else .go ⟨s, l, er, d, m, q, (q.length : Int), ((j + 1 : Nat) : Int)⟩) else .ret ⟨s, l, 6, d, m⟩) = _
        cases decide ((q[j]).value < (gt gb0 d.params (idxB (q[j]).name d.params).toNat).lo) <;> cases decide ((q[j]).value > (gt gb0 d.params (idxB (q[j]).name d.params).toNat).hi) <;> rfl
      unfold stp3
      rw [hs]
      by_cases hc : rngB d q[j] = true
      · rw [if_pos hc, if_pos hc]
        exact ⟨fun b' hb => (by cases hb), fun y hy => rfl⟩
      · rw [if_neg hc, if_neg hc]
        exact ⟨fun b' hb => ⟨rfl, trivial⟩, fun y hy => (by cases hy)⟩) (fun b _ => by unfold steppa3 stpa3; dsimp only; rw [if_neg lt3]) q.length 0 () (by omega) trivial
  rw [List.drop_zero] at this
  refine this.trans ?_
  unfold Fpa3
  dsimp only
  cases scanL (stp3 d) () q <;> rfl
def gpa3 : LP := fun st K => match upa3 st with | some k => if okpa3 k = true then (if isL (scanL (stp3 k.d) () k.q) = true then K (.ex 4) (Xpa3 ⟨k.s, k.l, k.er, k.d, k.m⟩) else K .ret (Xpa3 ⟨k.s, k.l, 6, k.d, k.m⟩)) else none | none => none
theorem okgpa3 : OKL 60 21 gpa3 := okfpa3 (fuel := fun k => k.q.length) (ok := okpa3) (F := Fpa3) ipa3 fun st K => by
  unfold gpa3
  split
  · rename_i k hu
    split
    · unfold Fpa3
      cases scanL (stp3 k.d) () k.q <;> rfl
    · rfl
  · rfl
def okpa4 (k : Kpa4) : Bool := decide (k.i = 0) && (decide (k.n = (k.q.length : Int)) && Nat.blt (k.o.length + k.q.length) 16777216)
theorem ipa4 (k : Kpa4) (h : okpa4 k = true) : iter steppa4 k.q.length k = some (.ex ⟨k.s, k.o ++ k.q.map (parV k.m)⟩) := by
  unfold okpa4 at h
  simp only [Bool.and_eq_true, decide_eq_true_eq] at h
  obtain ⟨h0, h1, h2⟩ := h
  replace h2 : k.o.length + k.q.length < 16777216 := Nat.le_of_ble_eq_true h2
  obtain ⟨s, m, o, q, n, i⟩ := k
  dsimp only at h0 h1 h2
  subst h0; subst h1
  have e : ∀ (l : List GBound) (o : List Int), l.foldl (fun o x => o ++ [parV m x]) o = o ++ l.map (parV m) := fun l => by
    induction l with
    | nil => intro o; simp
    | cons x l ih => intro o; rw [List.foldl_cons, ih]; simp
  have := iter_fold (step := steppa4) q (fun o j => (⟨s, m, o, q, (q.length : Int), (j : Int)⟩ : Kpa4)) (fun o x => o ++ [parV m x]) (fun o => (⟨s, o⟩ : Epa4)) (fun o j => o.length + (q.length - j) < 16777216)
    (fun b j h hI => ⟨by
      unfold steppa4 stpa4
      dsimp only
      rw [cnt h (by omega), gtj _ _ _ h, if_pos (lt1 h), if_pos lt0, if_pos (lt2 h)]
      unfold parV
      by_cases hc : (!isO (mlook9_2 (q[j]).name m)) = true
      · rw [if_pos hc, if_pos hc]
        exact if_pos (show b.length + 1 < 16777216 by omega)
      · rw [if_neg hc, if_neg hc]
        exact if_pos (show b.length + 1 < 16777216 by omega), by simp; omega⟩) (fun b _ => by unfold steppa4 stpa4; dsimp only; rw [if_neg lt3]) q.length 0 o (by omega) (by simpa using h2)
  rw [List.drop_zero, e] at this
  exact this
def gpa4 : LP := fun st K => match upa4 st with | some k => if okpa4 k = true then K (.ex 6) (Xpa4 ⟨k.s, k.o ++ k.q.map (parV k.m)⟩) else none | none => none
theorem okgpa4 : OKL 60 29 gpa4 := okfpa4 (fuel := fun k => k.q.length) (ok := okpa4) (F := fun k => .ex ⟨k.s, k.o ++ k.q.map (parV k.m)⟩) ipa4 fun st K => rfl
def CP4 : Cfg := { cs := libP2, ks := Cpa1.ks ++ (Cpa2.ks ++ (Cpa3.ks ++ Cpa4.ks)), xs := Cpa1.xs ++ (Cpa2.xs ++ (Cpa3.xs ++ Cpa4.xs)), lps := [((60, 7), gpa1), ((60, 13), gpa2), ((60, 21), gpa3), ((60, 29), gpa4)] }
theorem CP4_ok : CfgOK CP4 := { con := libP2_ok, lp := .cons okgpa1 (.cons okgpa2 (.cons okgpa3 (.cons okgpa4 .nil))) }
def Rpar (n : ByteArray) (l : List GParam) : Option (Res At) :=
  if (n.size + 1).blt 4611686018427387904 = true then
   if (!decide (erD (findD n libL) = 0)) = true then
    some ((.tup [.nils, (.int .i64 (erD (findD n libL)))]), [])
   else
    if okpa1 { s := n, l := l, er := 0, d := orD (findD n libL), m := [], q := l, n := (↑l.length : Int), i := 0 : Kpa1 } = true then
     if isL (scanL (stp1 (orD (findD n libL))) () l) = true then
      if okpa2 { s := n, l := l, er := 0, d := orD (findD n libL), m := [], q := l, n := (↑l.length : Int), i := 0 : Kpa2 } = true then
       if isL (scanL stp2 [] l) = true then
        if okpa3 { s := n, l := l, er := 0, d := orD (findD n libL), m := getL [] (scanL stp2 [] l), q := l, n := (↑l.length : Int), i := 0 : Kpa3 } = true then
         if isL (scanL (stp3 (orD (findD n libL))) () l) = true then
          if okpa4 { s := n, m := getL [] (scanL stp2 [] l), o := [], q := (orD (findD n libL)).params, n := (↑(orD (findD n libL)).params.length : Int), i := 0 : Kpa4 } = true then
           if (holdsN n).ble ([] ++ List.map (parV (getL [] (scanL stp2 [] l))) (orD (findD n libL)).params).length = true then
            if (!holdsV n ([] ++ List.map (parV (getL [] (scanL stp2 [] l))) (orD (findD n libL)).params)) = true then
             some ((.tup [.nils, (.int .i64 10)]), [])
            else
             some ((.tup [(.own 0), (.int .i64 0)]), [(0, (.row 2 ([] ++ List.map (parV (getL [] (scanL stp2 [] l))) (orD (findD n libL)).params) false))])
           else
            none
          else
           none
         else
          some ((.tup [.nils, (.int .i64 6)]), [])
        else
         none
       else
        some ((.tup [.nils, (.int .i64 5)]), [])
      else
       none
     else
      some ((.tup [.nils, (.int .i64 3)]), [])
    else
     none
  else
   none
theorem run_Rpar (n : ByteArray) (l : List GParam) : runF CP4 80 60 [.str n, .ro 93 l] = Rpar n l := by kernel_rfl
end
end Go.Proofs.YtpbpebjfglfjfaaGreatDoor.X
