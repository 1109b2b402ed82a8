/-
  BlockLogic.
-/
import Derived.Test.YtbcpnhnalhhfoaaGreatDoorXF5
set_option autoImplicit false
set_option linter.unusedVariables false
set_option linter.unusedSimpArgs false
set_option maxRecDepth 100000
namespace Go.Proofs.YtbcpnhnalhhfoaaGreatDoor.X
open Go Go.Proofs Go.RowKit Go.Proofs.YtbcpnhnalhhfoaaGreatDoor
noncomputable section
def bNot : ByteArray := ⟨#[110, 111, 116]⟩
def bAnd : ByteArray := ⟨#[97, 110, 100]⟩
def bOr : ByteArray := ⟨#[111, 114]⟩
def bXor : ByteArray := ⟨#[120, 111, 114]⟩
def binG (b : Bool) : GValue := ⟨2, bitI b⟩
theorem ev_not (b : Bool) : Reval bNot [] [binG b] = some (.tup [.agg [.int .i64 2, .int .i64 (bitI !b)], .int .i64 0], []) := by cases b <;> kernel_rfl
theorem ev_xor (a b : Bool) : Reval bXor [] [binG a, binG b] = some (.tup [.agg [.int .i64 2, .int .i64 (bitI (a != b))], .int .i64 0], []) := by cases a <;> cases b <;> kernel_rfl
def E11 (n : Int) : Option (Res At) := some ((.tup [(.agg [(.int .i64 0), (.int .i64 0)]), (.int .i64 n)]), [])
def binEv (s : ByteArray) (d : GDescriptor) (vs : List GValue) : Option (Res At) :=
  if (!decide ((inpR (some d) (vs.length : Int)).snd = 0)) = false then
   if fitC (inpR (some d) (vs.length : Int)).fst vs = true then
    if (!fitL 0 (inpR (some d) (vs.length : Int)).fst vs) = true then E11 11
    else if okevl { nm := s, ps := [], d := d, o := [], l := vs, n := (vs.length : Int), i := 0 } = true then
      if isR (Rlog s ([] ++ numsL vs)) = true then some ((.tup [(.agg [(.int .i64 2), (.int .i64 (gB (Rlog s ([] ++ numsL vs))))]), (.int .i64 0)]), [])
      else none
     else none
   else none
  else E11 1
def dAnd : GDescriptor := orD (findD bAnd libL)
def dOr : GDescriptor := orD (findD bOr libL)
theorem ev_and (vs : List GValue) : Reval bAnd [] vs = binEv bAnd dAnd vs := by kernel_rfl
theorem ev_or (vs : List GValue) : Reval bOr [] vs = binEv bOr dOr vs := by kernel_rfl
def binP (p : GPort) : Bool := eqB p.type_ ⟨#[98, 105, 110, 97, 114, 121]⟩
theorem fit_bin : ∀ (any : Int) (ps : List GPort) (l : List Bool), ps.all binP = true → ps.length ≤ l.length → fitL any ps (l.map binG) = true
  | _, [], _, _, _ => by unfold fitL; rfl
  | any, p :: ps, [], h, hl => by simp at hl
  | any, p :: ps, b :: l, h, hl => by
    rw [List.all_cons, Bool.and_eq_true] at h
    have h1 : eqB p.type_ ⟨#[98, 105, 110, 97, 114, 121]⟩ = true := h.1
    show fitL any (p :: ps) (binG b :: l.map binG) = true
    unfold fitL kindT anyT
    rw [if_pos h1, if_pos h1, fit_bin any ps l h.2 (by simpa using hl)]
    cases b <;> rfl
def inpChk (d : GDescriptor) (n : Nat) : Bool := decide ((inpR (some d) (n : Int)).snd = 0) && (Nat.beq (inpR (some d) (n : Int)).fst.length n && (inpR (some d) (n : Int)).fst.all binP)
theorem inp_and : (List.range 7).all (fun k => inpChk dAnd (k + 2)) = true := by kernel_rfl
theorem inp_or : (List.range 7).all (fun k => inpChk dOr (k + 2)) = true := by kernel_rfl
theorem inp_bin (d : GDescriptor) (hd : d = dAnd ∨ d = dOr) (n : Nat) (h2 : 2 ≤ n) (h8 : n ≤ 8) : (inpR (some d) (n : Int)).snd = 0 ∧ (inpR (some d) (n : Int)).fst.length = n ∧ (inpR (some d) (n : Int)).fst.all binP = true := by
  have h : inpChk d n = true := by
    obtain ⟨k, rfl⟩ : ∃ k, n = k + 2 := ⟨n - 2, by omega⟩
    have hk : k ∈ List.range 7 := by simp; omega
    rcases hd with e | e
    · rw [e]; exact List.all_eq_true.1 inp_and k hk
    · rw [e]; exact List.all_eq_true.1 inp_or k hk
  unfold inpChk at h
  simp only [Bool.and_eq_true, decide_eq_true_eq] at h
  exact ⟨h.1, Nat.eq_of_beq_eq_true h.2.1, h.2.2⟩
theorem okevl_of (nm : ByteArray) (ps : List Int) (d : GDescriptor) (l : List GValue) (h : l.length < 16777216) : okevl ⟨nm, ps, d, [], l, (l.length : Int), 0⟩ = true := by
  unfold okevl
  simp only [Bool.and_eq_true, decide_eq_true_eq]
  exact ⟨trivial, trivial, Nat.ble_eq_true_of_le (show 0 + l.length + 1 ≤ 16777216 by omega)⟩
theorem fitC_of (ps : List GPort) (vs : List GValue) (h : ps.length ≤ vs.length) (h2 : vs.length ≤ 9223372036854775807) : fitC ps vs = true := by
  unfold fitC
  rw [Nat.ble_eq_true_of_le h, Nat.ble_eq_true_of_le (show ps.length ≤ 9223372036854775807 by omega)]; rfl
theorem lenC_of (l : List Int) (h : 1 ≤ l.length) (h2 : l.length ≤ 9223372036854775807) : lenC l = true := by
  unfold lenC
  rw [Nat.ble_eq_true_of_le h, Nat.ble_eq_true_of_le h2]; rfl
theorem nums_bin (l : List Bool) : numsL (l.map binG) = l.map bitI := by
  unfold numsL
  rw [List.map_map]
  apply List.map_congr_left
  intro b _
  cases b <;> rfl
theorem min_bin : ∀ (l : List Bool) (b : Bool), (l.map bitI).foldl mnI (bitI b) = bitI (b && l.all id)
  | [], b => by simp
  | a :: l, b => by
    rw [List.map_cons, List.foldl_cons, show mnI (bitI b) (bitI a) = bitI (b && a) by cases a <;> cases b <;> rfl, min_bin l]
    simp [Bool.and_assoc]
theorem max_bin : ∀ (l : List Bool) (b : Bool), (l.map bitI).foldl mxI (bitI b) = bitI (b || l.any id)
  | [], b => by simp
  | a :: l, b => by
    rw [List.map_cons, List.foldl_cons, show mxI (bitI b) (bitI a) = bitI (b || a) by cases a <;> cases b <;> rfl, max_bin l]
    simp [Bool.or_assoc]
theorem bit1 (b : Bool) : decide (bitI b = 1) = b := by cases b <;> rfl
theorem log_and (nums : List Int) : Rlog bAnd nums = (if lenC nums = true then if decide (minZ nums = 1) = true then some ((.agg [(.int .i64 2), (.int .i64 1)]), []) else some ((.agg [(.int .i64 2), (.int .i64 0)]), []) else none : Option (Res At)) := by kernel_rfl
theorem log_or (nums : List Int) : Rlog bOr nums = (if lenC nums = true then if decide (maxZ nums = 1) = true then some ((.agg [(.int .i64 2), (.int .i64 1)]), []) else some ((.agg [(.int .i64 2), (.int .i64 0)]), []) else none : Option (Res At)) := by kernel_rfl
theorem and_log (l : List Bool) (h2 : 2 ≤ l.length) (h8 : l.length ≤ 8) : Rlog bAnd (l.map bitI) = some (.agg [.int .i64 2, .int .i64 (bitI (l.all id))], []) := by
  rw [log_and, if_pos (lenC_of _ (by simp; omega) (by simp; omega))]
  cases l with
  | nil => simp at h2
  | cons b l =>
    have e : minZ ((b :: l).map bitI) = bitI ((b :: l).all id) := by
      show (l.map bitI).foldl mnI (bitI b) = _
      rw [min_bin]; rfl
    rw [e, bit1]
    cases (b :: l).all id <;> rfl
theorem and_val (l : List Bool) (h2 : 2 ≤ l.length) (h8 : l.length ≤ 8) : Reval bAnd [] (l.map binG) = some (.tup [.agg [.int .i64 2, .int .i64 (bitI (l.all id))], .int .i64 0], []) := by
  have hl : (l.map binG).length = l.length := by simp
  have hi := inp_bin dAnd (.inl rfl) (l.map binG).length (by omega) (by omega)
  rw [ev_and]
  unfold binEv
  rw [hi.1, if_pos (by simp), if_pos (fitC_of _ _ (by omega) (by omega)), if_neg (by rw [fit_bin _ _ l hi.2.2 (by omega)]; simp), if_pos (okevl_of _ _ _ _ (by omega)), List.nil_append, nums_bin, and_log l h2 h8]
  rfl
theorem or_log (l : List Bool) (h2 : 2 ≤ l.length) (h8 : l.length ≤ 8) : Rlog bOr (l.map bitI) = some (.agg [.int .i64 2, .int .i64 (bitI (l.any id))], []) := by
  rw [log_or, if_pos (lenC_of _ (by simp; omega) (by simp; omega))]
  cases l with
  | nil => simp at h2
  | cons b l =>
    have e : maxZ ((b :: l).map bitI) = bitI ((b :: l).any id) := by
      show (l.map bitI).foldl mxI (bitI b) = _
      rw [max_bin]; rfl
    rw [e, bit1]
    cases (b :: l).any id <;> rfl
theorem or_val (l : List Bool) (h2 : 2 ≤ l.length) (h8 : l.length ≤ 8) : Reval bOr [] (l.map binG) = some (.tup [.agg [.int .i64 2, .int .i64 (bitI (l.any id))], .int .i64 0], []) := by
  have hl : (l.map binG).length = l.length := by simp
  have hi := inp_bin dOr (.inr rfl) (l.map binG).length (by omega) (by omega)
  rw [ev_or]
  unfold binEv
  rw [hi.1, if_pos (by simp), if_pos (fitC_of _ _ (by omega) (by omega)), if_neg (by rw [fit_bin _ _ l hi.2.2 (by omega)]; simp), if_pos (okevl_of _ _ _ _ (by omega)), List.nil_append, nums_bin, or_log l h2 h8]
  rfl
structure Klgc where
  l : List Bool
  res : Bool
  ins : List GValue
  nos : List GValue
  i : Int
structure Elgc where
  l : List Bool
  res : Bool
  ins : List GValue
  nos : List GValue
def Slgc (k : Klgc) : St At := { env := [(0, .ro 4 k.l), (2, .bool k.res), (3, .own 0), (4, .own 1), (5, .int .i64 k.i)], stk := [], hp := [(0, .row 38 k.ins false), (1, .row 38 k.nos false)], nx := 2 }
def Xlgc (k : Elgc) : St At := { env := [(0, .ro 4 k.l), (2, .bool k.res), (3, .own 0), (4, .own 1)], stk := [], hp := [(0, .row 38 k.ins false), (1, .row 38 k.nos false)], nx := 2 }
def Clgc : Cfg := { cs := lib11, ks := [((5, 8), [(0, none), (2, none), (3, some 38), (4, some 38), (5, none)])], xs := [((5, 8), [(0, none), (2, none), (3, some 38), (4, some 38)])], lps := [] }
theorem Clgc_ok : CfgOK Clgc := { con := lib11_ok }
def stlgc {α : Type} (k : Klgc) (go : Klgc → α) (ex ret : Elgc → α) (no : α) : α :=
  if decide (k.i < (↑k.l.length : Int)) = true then
   if 0 ≤ k.i then
    if k.i < (↑k.l.length : Int) then
     if k.ins.length + [{ kind := 2, n := bitI (gt false k.l k.i.toNat) : GValue }].length < 16777216 then
      if 0 ≤ k.i then
       if k.i < (↑k.l.length : Int) then
        if isR (Reval { data := #[110, 111, 116] : ByteArray } [] [{ kind := 2, n := bitI (gt false k.l k.i.toNat) : GValue }]) = true then
         if (!decide (gV3 (Reval { data := #[110, 111, 116] : ByteArray } [] [{ kind := 2, n := bitI (gt false k.l k.i.toNat) : GValue }]) = 0)) = false then
          if 0 ≤ k.i then
           if k.i < (↑k.l.length : Int) then
            if (!(decide (gV1 (Reval { data := #[110, 111, 116] : ByteArray } [] [{ kind := 2, n := bitI (gt false k.l k.i.toNat) : GValue }]) = 2) && (decide (gV2 (Reval { data := #[110, 111, 116] : ByteArray } [] [{ kind := 2, n := bitI (gt false k.l k.i.toNat) : GValue }]) = bitI !gt false k.l k.i.toNat) && true))) = true then
             ret ⟨(k.l), (false), (k.ins ++ [{ kind := 2, n := bitI (gt false k.l k.i.toNat) : GValue }]), (k.nos)⟩
            else
             if k.nos.length + [{ kind := gV1 (Reval { data := #[110, 111, 116] : ByteArray } [] [{ kind := 2, n := bitI (gt false k.l k.i.toNat) : GValue }]), n := gV2 (Reval { data := #[110, 111, 116] : ByteArray } [] [{ kind := 2, n := bitI (gt false k.l k.i.toNat) : GValue }]) : GValue }].length < 16777216 then
              go ⟨(k.l), (k.res), (k.ins ++ [{ kind := 2, n := bitI (gt false k.l k.i.toNat) : GValue }]), (k.nos ++ [{ kind := gV1 (Reval { data := #[110, 111, 116] : ByteArray } [] [{ kind := 2, n := bitI (gt false k.l k.i.toNat) : GValue }]), n := gV2 (Reval { data := #[110, 111, 116] : ByteArray } [] [{ kind := 2, n := bitI (gt false k.l k.i.toNat) : GValue }]) : GValue }]), (IntKind.i64.wrap (k.i + 1))⟩
             else
              no
           else
            no
          else
           no
         else
          ret ⟨(k.l), (false), (k.ins ++ [{ kind := 2, n := bitI (gt false k.l k.i.toNat) : GValue }]), (k.nos)⟩
        else
         no
       else
        no
      else
       no
     else
      no
    else
     no
   else
    no
  else
   ex ⟨(k.l), (k.res), (k.ins), (k.nos)⟩
def steplgc (k : Klgc) : Nx Klgc Elgc := stlgc k .go .ex .ret .no
theorem Blgc (k : Klgc) (m : Nat) (R : St At → Option (Res At)) (K : Xit → St At → Option (Res At)) : B Clgc 5 8 (m + 60) (Slgc k) R K = stlgc k (fun k => R (Slgc k)) (fun x => K (.ex 0) (Xlgc x)) (fun x => K .ret (Xlgc x)) none := by kernel_rfl
def ulgc (st : St At) : Option Klgc := match st with
  | ⟨[(0, vl), (2, .bool res), (3, .own 0), (4, .own 1), (5, .int .i64 i)], [], [(0, bins), (1, bnos)], 2⟩ => (match roV 4 vl, rowB 38 bins, rowB 38 bnos with | some l, some ins, some nos => some ⟨l, res, ins, nos, i⟩ | _, _, _ => none)
  | _ => none
theorem ulgc_spec {st : St At} {k : Klgc} (h : ulgc st = some k) : st = Slgc k := by
  unfold ulgc at h
  split at h
  · split at h
    · rename_i h0 h1 h2
      obtain rfl := Option.some.inj h
      rw [roV_spec h0, rowB_spec h1, rowB_spec h2]
      rfl
    · cases h
  · cases h
theorem okllgc {g : LP} (hg : ∀ st K q, g st K = some q → ∃ k n e, st = Slgc k ∧ iter steplgc n k = some e ∧ e.k 0 Xlgc Xlgc K = some q) : OKL 5 8 g := okl_iter Clgc_ok (S := Slgc) (X := Xlgc) (Y := Xlgc) (step := steplgc) (id := 0) (by kernel_rfl) (by kernel_rfl)
  (fun k m R K => by rw [Blgc]; unfold steplgc stlgc; simp only [Nx.k_ite]; rfl) (fun k => by kernel_rfl) hg
/-- the contract out of a closed form -/
theorem okflgc {g : LP} {fuel : Klgc → Nat} {ok : Klgc → Bool} {F : Klgc → Fx Elgc} (hF : ∀ k, ok k = true → iter steplgc (fuel k) k = some (F k)) (hg : ∀ st K, g st K = (match ulgc st with | some k => if ok k = true then (F k).k 0 Xlgc Xlgc K else none | none => none)) : OKL 5 8 g := okllgc fun st K q h => by
  rw [hg] at h
  split at h
  · rename_i k hu
    split at h
    · rename_i hok; exact ⟨k, _, _, ulgc_spec hu, hF k hok, h⟩
    · cases h
  · cases h
theorem b_not : ({ data := #[110, 111, 116] : ByteArray }) = bNot := rfl
theorem step_lgc (l : List Bool) (res : Bool) (ins nos : List GValue) (j : Nat) (h : j < l.length) (hm : l.length ≤ 9223372036854775807) (h1 : ins.length + 1 < 16777216) (h2 : nos.length + 1 < 16777216) :
    steplgc ⟨l, res, ins, nos, (j : Int)⟩ = .go ⟨l, res, ins ++ [binG l[j]], nos ++ [binG !l[j]], ((j + 1 : Nat) : Int)⟩ := by
  unfold steplgc stlgc
  dsimp only
  rw [cnt h hm, gtj _ _ _ h, b_not]
  rw [show Reval bNot [] [{ kind := 2, n := bitI l[j] : GValue }] = some (.tup [.agg [.int .i64 2, .int .i64 (bitI !l[j])], .int .i64 0], []) from ev_not l[j]]
  rw [show gV1 (some (.tup [.agg [.int .i64 2, .int .i64 (bitI !l[j])], .int .i64 0], [])) = 2 from rfl, show gV2 (some (.tup [.agg [.int .i64 2, .int .i64 (bitI !l[j])], .int .i64 0], [])) = bitI !l[j] from rfl, show gV3 (some (.tup [.agg [.int .i64 2, .int .i64 (bitI !l[j])], .int .i64 0], [])) = 0 from rfl]
  rw [show isR (some (.tup [.agg [.int .i64 2, .int .i64 (bitI !l[j])], .int .i64 0], [])) = true from rfl]
  simp only [if_pos (lt1 h), if_pos (lt0 (j := j)), if_pos (lt2 h)]
  refine (if_pos (show ins.length + 1 < 16777216 from h1)).trans ?_
  rw [if_pos trivial, if_pos (by simp), if_neg (by simp)]
  exact if_pos (show nos.length + 1 < 16777216 from h2)
def oklgc (k : Klgc) : Bool := decide (k.i = 0) && (Nat.ble k.l.length 8 && (Nat.ble k.ins.length 8 && Nat.ble k.nos.length 8))
theorem ilgc (k : Klgc) (h : oklgc k = true) : iter steplgc k.l.length k = some (.ex ⟨k.l, k.res, k.ins ++ k.l.map binG, k.nos ++ (k.l.map not).map binG⟩) := by
  unfold oklgc at h
  simp only [Bool.and_eq_true, decide_eq_true_eq] at h
  obtain ⟨h0, h1, h2, h3⟩ := h
  replace h1 := Nat.le_of_ble_eq_true h1
  replace h2 := Nat.le_of_ble_eq_true h2
  replace h3 := Nat.le_of_ble_eq_true h3
  obtain ⟨l, res, ins, nos, i⟩ := k
  dsimp only at h0 h1 h2 h3
  subst h0
  have e : ∀ (l : List Bool) (a b : List GValue), l.foldl (fun (p : List GValue × List GValue) x => (p.1 ++ [binG x], p.2 ++ [binG !x])) (a, b) = (a ++ l.map binG, b ++ (l.map not).map binG) := fun l => by
    induction l with
    | nil => intro a b; simp
    | cons x l ih => intro a b; rw [List.foldl_cons, ih]; simp
  have := iter_fold (step := steplgc) l (fun p j => (⟨l, res, p.1, p.2, (j : Int)⟩ : Klgc)) (fun p x => (p.1 ++ [binG x], p.2 ++ [binG !x])) (fun p => (⟨l, res, p.1, p.2⟩ : Elgc)) (fun p j => p.1.length ≤ 8 + j ∧ p.2.length ≤ 8 + j)
    (fun p j h hI => ⟨step_lgc l res p.1 p.2 j h (by omega) (by omega) (by omega), by simp; omega⟩) (fun b _ => by unfold steplgc stlgc; dsimp only; rw [if_neg lt3]) l.length 0 (ins, nos) (by omega) (by simpa using ⟨h2, h3⟩)
  rw [List.drop_zero, e] at this
  exact this
def glgc : LP := fun st K => match ulgc st with | some k => if oklgc k = true then K (.ex 0) (Xlgc ⟨k.l, k.res, k.ins ++ k.l.map binG, k.nos ++ (k.l.map not).map binG⟩) else none | none => none
theorem okglgc : OKL 5 8 glgc := okflgc (fuel := fun k => k.l.length) (ok := oklgc) (F := fun k => .ex ⟨k.l, k.res, k.ins ++ k.l.map binG, k.nos ++ (k.l.map not).map binG⟩) ilgc fun st K => rfl
def C12 : Cfg := { cs := lib11, ks := Clgc.ks, xs := Clgc.xs, lps := [((5, 8), glgc)] }
theorem C12_ok : CfgOK C12 := { con := lib11_ok, lp := .cons okglgc .nil }
def Rlogic (A N O X : Option (Res At)) (l : List Bool) : Option (Res At) :=
  if decide ((↑l.length : Int) < 2) = false then
   if decide ((↑l.length : Int) > 8) = true then
    some ((.bool true), [])
   else
    if oklgc { l := l, res := false, ins := [], nos := [], i := 0 : Klgc } = true then
     if isR A = true then
      if isR N = true then
       if isR O = true then
        if 2 ≤ (↑([] ++ List.map binG l).length : Int) then
         if isR X = true then
          if decide (gV3 A = 0) = true then
           if decide (gV3 N = 0) = true then
            if decide (gV3 O = 0) = true then
             if decide (gV3 X = 0) = true then
              if (decide (gV1 N = gV1 O) && (decide (gV2 N = gV2 O) && true)) = true then
               if 0 < (↑l.length : Int) then
                if 1 < (↑l.length : Int) then
                 some ((.bool (decide (gV1 X = 2) && (decide (gV2 X = bitI !gt false l (Int.toNat 0) == gt false l (Int.toNat 1)) && true))), [])
                else
                 none
               else
                none
              else
               some ((.bool false), [])
             else
              some ((.bool false), [])
            else
             some ((.bool false), [])
           else
            some ((.bool false), [])
          else
           some ((.bool false), [])
         else
          none
        else
         none
       else
        none
      else
       none
     else
      none
    else
     none
  else
   some ((.bool true), [])
theorem run_Rlogic (l : List Bool) : runF C12 80 5 [.ro 4 l] = Rlogic (Reval bAnd [] ([] ++ List.map binG l)) (Reval bNot [] [⟨gV1 (Reval bAnd [] ([] ++ List.map binG l)), gV2 (Reval bAnd [] ([] ++ List.map binG l))⟩]) (Reval bOr [] ([] ++ List.map binG (List.map not l))) (Reval bXor [] (List.drop 0 (List.take (Int.toNat 2) ([] ++ List.map binG l)))) l := by kernel_rfl
def two (n : Int) : Option (Res At) := some (.tup [.agg [.int .i64 2, .int .i64 n], .int .i64 0], [])
theorem any_not (l : List Bool) : (l.map not).any id = !l.all id := by
  induction l with
  | nil => rfl
  | cons b l ih => simp only [List.map_cons, List.any_cons, List.all_cons, ih]; cases b <;> simp
theorem logic_true (l : List Bool) : Rlogic (Reval bAnd [] ([] ++ List.map binG l)) (Reval bNot [] [⟨gV1 (Reval bAnd [] ([] ++ List.map binG l)), gV2 (Reval bAnd [] ([] ++ List.map binG l))⟩]) (Reval bOr [] ([] ++ List.map binG (List.map not l))) (Reval bXor [] (List.drop 0 (List.take (Int.toNat 2) ([] ++ List.map binG l)))) l = some (.bool true, []) := by
  by_cases h2 : (l.length : Int) < 2
  · unfold Rlogic; rw [if_neg (by simp; omega)]
  · by_cases h8 : (l.length : Int) > 8
    · unfold Rlogic; rw [if_pos (by simp; omega), if_pos (by simp; omega)]
    · rw [List.nil_append, List.nil_append, and_val l (by omega) (by omega), or_val (l.map not) (by simp; omega) (by simp; omega), any_not]
      rw [show gV1 (some (.tup [.agg [.int .i64 2, .int .i64 (bitI (l.all id))], .int .i64 0], [])) = 2 from rfl, show gV2 (some (.tup [.agg [.int .i64 2, .int .i64 (bitI (l.all id))], .int .i64 0], [])) = bitI (l.all id) from rfl]
      rw [show Reval bNot [] [⟨2, bitI (l.all id)⟩] = two (bitI !(l.all id)) from ev_not (l.all id)]
      match l, h2, h8 with
      | a :: b :: l, h2, h8 =>
        rw [show Reval bXor [] (List.drop 0 (List.take (Int.toNat 2) ((a :: b :: l).map binG))) = two (bitI (a != b)) from ev_xor a b]
        have ho : oklgc ⟨a :: b :: l, false, [], [], 0⟩ = true := by
          unfold oklgc
          simp only [Bool.and_eq_true, decide_eq_true_eq]
          exact ⟨trivial, Nat.ble_eq_true_of_le (by omega), rfl, rfl⟩
        unfold Rlogic
        have hlen : (a :: b :: l).length = l.length + 2 := rfl
        refine (if_pos (by simp only [decide_eq_false_iff_not]; omega)).trans ?_
        refine (if_neg (by simp only [decide_eq_true_eq]; omega)).trans ?_
        refine (if_pos ho).trans ((if_pos rfl).trans ((if_pos rfl).trans ((if_pos rfl).trans ?_)))
        refine (if_pos (by simp; omega)).trans ((if_pos rfl).trans ((if_pos rfl).trans ((if_pos rfl).trans ((if_pos rfl).trans ((if_pos rfl).trans ?_)))))
        refine (if_pos (by show (decide ((2 : Int) = 2) && (decide (bitI (!(a :: b :: l).all id) = bitI (!(a :: b :: l).all id)) && true)) = true; simp)).trans ?_
        refine (if_pos (by omega)).trans ((if_pos (by omega)).trans ?_)
        cases a <;> cases b <;> rfl
      | [a], h2, h8 => exact absurd (show (1 : Int) < 2 by omega) h2
      | [], h2, h8 => exact absurd (show (0 : Int) < 2 by omega) h2
def conTrueB : CON := onL 4 fun (l : List Bool) => some (true, (.bool true, []))
theorem okBlockLogic : OK 5 conTrueB := ok_run C12_ok (by kernel_rfl) fun l r h => by
  replace h := onL_spec h
  obtain ⟨l, rfl, h⟩ := h
  obtain ⟨_, rfl⟩ := some_pair h
  exact ⟨80, (run_Rlogic l).trans (logic_true l)⟩
theorem hgBlockLogic (l : List Bool) (h : l.length ≤ maxLen ∧ ∀ x ∈ l, True) : conTrueB [.ro 4 l] = some (true, (.bool true, [])) := rfl
end
end Go.Proofs.YtbcpnhnalhhfoaaGreatDoor.X
