/-
  CONTRACTS of the library, out of the shelf.
-/
import Derived.Test.YtpbpebjfglfjfaaGreatDoorXT
import Derived.Test.YtpbpebjfglfjfaaGreatDoorOwn0
import Derived.Test.YtpbpebjfglfjfaaGreatDoorFast
import Derived.Lib.SmallJoins
set_option autoImplicit false
set_option linter.unusedVariables false
set_option linter.unusedSimpArgs false
set_option maxRecDepth 100000
namespace Go.Proofs.YtpbpebjfglfjfaaGreatDoor.X
open Go Go.Proofs Go.RowKit Go.Proofs.YtpbpebjfglfjfaaGreatDoor
section
variable {T : Tab} {P : Program} {w w' : World} {okb : Nat → Prop}
/-- a value without blocks -/
theorem ret_val {v : V T.A} {c : Value} (hb : Below w.heap.size w w') (hv : ∀ ok, Rep T P w' (fun _ => none) ok v c) : RetRel T P w okb (v, []) (.returned c) w' :=
  ⟨c, fun _ => none, 0, rfl, ⟨BelowW.to hb, fun i c h => (by cases h), fun i b h => (by cases h), fun i j b b' c d k h => (by cases h), And.intro ⟨rfl, fun t v h => (by cases h)⟩ trivial⟩, hv _⟩
/-- one new row -/
theorem ret_row {e : Nat} {l : List (T.A e)} {c : Value} {cs : List Value} (hk : T.known e = true) (hb : Below w.heap.size w w') (hc : c.oneCell' = true) (ho : w'.ownsRow w.heap.size e (szT P e) c l.length cs)
    (h : ∀ ok j x q v, l[j]? = some x → (T.enc e x)[q]? = some v → Rep T P w' (fun _ => none) ok v (cs.getD (j * szT P e + q) undef)) : RetRel T P w okb (.own 0, [(0, .row e l false)]) (.returned c) w' := by
  refine ⟨c, upd (fun _ => none) 0 c, 1, rfl, ⟨BelowW.to hb, fun i d hd => ?_, fun i b hi => ?_, fun i j b b' c' d k h1 h2 _ _ _ _ => ?_, And.intro ⟨rfl, fun t v h => (by cases h)⟩ trivial⟩, .own 0 c (upd_same _ _ _)⟩
  · by_cases e0 : i = 0
    · subst e0; rw [upd_same] at hd; obtain rfl := Option.some.inj hd; exact ⟨Nat.one_pos, hc⟩
    · rw [upd_ne _ _ e0] at hd; cases hd
  · rw [look_cons] at hi
    split at hi
    · rename_i e0
      dsimp only at e0
      subst e0
      obtain rfl := Option.some.inj hi
      exact .row e l false c cs hk (upd_same _ _ _) (ownsR_of (fun _ h hl => absurd hl (Nat.not_lt.2 h)) ho) fun j x q v hx hv => (h _ j x q v hx hv).mono (fun b hb => ⟨hb, rfl⟩) (fun i x hx => by cases hx)
    · simp [look] at hi
  · have z : ∀ i b, look [(0, Blk.row e l false)] i = some b → i = 0 := fun i b hi => by
      rw [look_cons] at hi
      split at hi
      · rename_i e0; exact e0.symm
      · simp [look] at hi
    rw [z i b h1, z j b' h2]
theorem args2 {xs : List (V T.A)} {cs : Array Value} {μ : Nat → Option Value} {ok : Nat → Prop} {a b : V T.A} (hs : cs.size = xs.length) (hr : ∀ i v, xs[i]? = some v → Rep T P w μ ok v (cs.getD i undef)) (e : xs = [a, b]) : ∃ x y, cs = #[x, y] ∧ Rep T P w μ ok a x ∧ Rep T P w μ ok b y := by
  subst e
  obtain ⟨l⟩ := cs
  match l, hs with
  | [x, y], _ => exact ⟨x, y, rfl, hr 0 _ rfl, hr 1 _ rfl⟩
theorem args1 {xs : List (V T.A)} {cs : Array Value} {μ : Nat → Option Value} {ok : Nat → Prop} {a : V T.A} (hs : cs.size = xs.length) (hr : ∀ i v, xs[i]? = some v → Rep T P w μ ok v (cs.getD i undef)) (e : xs = [a]) : ∃ x, cs = #[x] ∧ Rep T P w μ ok a x := by
  subst e
  obtain ⟨l⟩ := cs
  match l, hs with
  | [x], _ => exact ⟨x, rfl, hr 0 _ rfl⟩
theorem args3 {xs : List (V T.A)} {cs : Array Value} {μ : Nat → Option Value} {ok : Nat → Prop} {a b c : V T.A} (hs : cs.size = xs.length) (hr : ∀ i v, xs[i]? = some v → Rep T P w μ ok v (cs.getD i undef)) (e : xs = [a, b, c]) : ∃ x y z, cs = #[x, y, z] ∧ Rep T P w μ ok a x ∧ Rep T P w μ ok b y ∧ Rep T P w μ ok c z := by
  subst e
  obtain ⟨l⟩ := cs
  match l, hs with
  | [x, y, z], _ => exact ⟨x, y, z, rfl, hr 0 _ rfl, hr 1 _ rfl, hr 2 _ rfl⟩
/-- the cells of a new row of texts -/
theorem strs_row (hz : szT P 9 = 1) (he : ∀ x : T.A 9, ∃ s : ByteArray, T.enc 9 x = [.str s]) (f : T.A 9 → ByteArray) (hf : ∀ x, T.enc 9 x = [.str (f x)]) (hk : T.known 9 = true) (w : World) (okb : Nat → Prop) (l : List (T.A 9)) (n : Nat) (hn : n = l.length) (hl : l.length ≤ maxLen) (o : Obj) (ho : o = .cells (l.map fun x => Value.string (f x)).toArray 9) :
    RetRel T P w okb (.own 0, [(0, .row 9 l false)]) (.returned (.slice (some ⟨w.heap.size, 0, none⟩) n n)) (w.alloc o) := by
  subst hn; subst ho
  refine ret_row (cs := l.map fun x => Value.string (f x)) hk (Joins.below_alloc1 w _) rfl ⟨by rw [hz]; simp, .inr ⟨w.heap.size, l.length, _, rfl, Nat.le_refl _, heap_alloc_new w _, Nat.le_refl _, hl, by rw [hz]; simp, by rw [hz, Nat.mul_one]; exact List.take_of_length_le (by simp)⟩⟩ fun ok j x q v hx hv => ?_
  rw [hf] at hv
  cases q with
  | zero =>
    obtain rfl := Option.some.inj hv
    rw [hz, Nat.mul_one, Nat.add_zero, List.getD_eq_getElem?_getD, List.getElem?_map, hx]
    exact .str _
  | succ q => cases hv
end
noncomputable section
theorem ent {f : Nat} {fn : Func} (h : Tryz.prog.funcs[f]? = some fn) (h1 : (fn.name == "runtime.NumGoroutine") = false) (h2 : fn.body.isNone = false) : Enters Tryz.prog f := ⟨fn, h, h1, h2⟩
def entB (f : Nat) : Bool := match Tryz.prog.funcs[f]? with | some fn => !(fn.name == "runtime.NumGoroutine") && !fn.body.isNone | none => false
theorem entB_spec {f : Nat} (h : entB f = true) : Enters Tryz.prog f := by
  unfold entB at h
  split at h
  · rename_i fn hf
    simp only [Bool.and_eq_true, Bool.not_eq_true'] at h
    exact ⟨fn, hf, h.1, h.2⟩
  · cases h
abbrev CON := List VT → Option (Bool × Res At)
abbrev OK (f : Nat) (g : CON) : Prop := OkC TT Tryz.prog GW f fun l => conO (g l)
theorem conO_some {o : Option (Bool × Res At)} {r : Res At} (h : conO o = some r) : o = some (true, r) := by
  unfold conO at h
  split at h
  · rename_i p
    split at h
    · rename_i hp
      obtain ⟨b, q⟩ := p
      obtain rfl := Option.some.inj h
      rw [show b = true from hp]
    · cases h
  · cases h
theorem some_pair {b : Bool} {r q : Res At} (h : some (b, r) = some (true, q)) : b = true ∧ r = q := Prod.mk.inj (Option.some.inj h)
def bts (l : List UInt8) : ByteArray := ⟨l.toArray⟩
def splitC (a : ByteArray) (c : UInt8) : List ByteArray := (Fast.lsplit c [] a.data.toList).map bts
def onSS {R : Type} (F : ByteArray → ByteArray → Option R) (l : List VT) : Option R := match l with | [.str a, .str b] => F a b | _ => none
theorem onSS_spec {R : Type} {F : ByteArray → ByteArray → Option R} {l : List VT} {r : R} (h : onSS F l = some r) : ∃ a b, l = [.str a, .str b] ∧ F a b = some r := by
  unfold onSS at h
  split at h
  · exact ⟨_, _, rfl, h⟩
  · cases h
def onS {R : Type} (F : ByteArray → Option R) (l : List VT) : Option R := match l with | [.str a] => F a | _ => none
theorem onS_spec {R : Type} {F : ByteArray → Option R} {l : List VT} {r : R} (h : onS F l = some r) : ∃ a, l = [.str a] ∧ F a = some r := by
  unfold onS at h
  split at h
  · exact ⟨_, rfl, h⟩
  · cases h
def onSSS {R : Type} (F : ByteArray → ByteArray → ByteArray → Option R) (l : List VT) : Option R := match l with | [.str a, .str b, .str c] => F a b c | _ => none
theorem onSSS_spec {R : Type} {F : ByteArray → ByteArray → ByteArray → Option R} {l : List VT} {r : R} (h : onSSS F l = some r) : ∃ a b c, l = [.str a, .str b, .str c] ∧ F a b c = some r := by
  unfold onSSS at h
  split at h
  · exact ⟨_, _, _, rfl, h⟩
  · cases h
def onSII {R : Type} (F : ByteArray → Int → Int → Option R) (l : List VT) : Option R := match l with | [.str a, .int .i64 b, .int .i64 c] => F a b c | _ => none
theorem onSII_spec {R : Type} {F : ByteArray → Int → Int → Option R} {l : List VT} {r : R} (h : onSII F l = some r) : ∃ a b c, l = [.str a, .int .i64 b, .int .i64 c] ∧ F a b c = some r := by
  unfold onSII at h
  split at h
  · exact ⟨_, _, _, rfl, h⟩
  · cases h
/-- at one byte -/
def at1 {R : Type} (b : ByteArray) (F : UInt8 → Option R) : Option R := match b.data.toList with | [c] => F c | _ => none
theorem at1_spec {R : Type} {b : ByteArray} {F : UInt8 → Option R} {r : R} (h : at1 b F = some r) : ∃ c, b = ⟨#[c]⟩ ∧ F c = some r := by
  unfold at1 at h
  split at h
  · rename_i c hc
    refine ⟨c, ?_, h⟩
    obtain ⟨⟨l⟩⟩ := b
    simp only at hc
    rw [hc]
  · cases h
theorem sz1 (c : UInt8) : (⟨#[c]⟩ : ByteArray).size = 1 := rfl
theorem szStr : szT Tryz.prog 9 = 1 := by kernel_rfl

def conSplit : CON := onSS fun a b => at1 b fun c => some (Nat.blt a.size 4294967281, (.own 0, [(0, .row 9 (splitC a c) false)]))
theorem okSplit : OK 153 conSplit := by
  refine ⟨entB_spec (by kernel_rfl), fun w okb xs cs r hG hs hr hok h => ?_⟩
  replace h := onSS_spec (conO_some h)
  obtain ⟨a0, a1, rfl, h⟩ := h
  replace h := at1_spec h
  obtain ⟨c, rfl, h⟩ := h
  obtain ⟨x, y, rfl, hx, hy⟩ := args2 hs hr rfl
  rw [hx.str_inv, hy.str_inv]
  · obtain ⟨hc, rfl⟩ := some_pair h
    replace hc : a0.size < 4294967281 := Nat.le_of_ble_eq_true hc
    obtain ⟨⟨m, hm⟩, _⟩ := hG
    have hr : Lib.splitB ⟨#[c]⟩ 0 (Lib.countB a0 ⟨#[c]⟩) a0 = splitC a0 c := by
      unfold splitC
      rw [← Fast.split_fast c _ _ (Nat.le_refl _)]
      have h3 := Lib.splitB_data ⟨#[c]⟩ 0 (Lib.countB a0 ⟨#[c]⟩) a0
      have h4 : Lib.countB a0 ⟨#[c]⟩ = Lib.count a0.data.toList [c] := by unfold Lib.countB; rfl
      unfold Lib.split
      rw [← h4]
      rw [show (⟨#[c]⟩ : ByteArray).data.toList = [c] from rfl] at h3
      rw [← h3, List.map_map]
      simp [Function.comp_def, bts]
    have hl := Lib.splitB_all ⟨#[c]⟩ (Nat.le_refl 1) 0 _ a0 rfl
    refine (Tryz.strings_Split a0 ⟨#[c]⟩ m w hc hm (Nat.le_refl 1)).mono ?_
    rintro e w' ⟨rfl, rfl⟩
    have hle := Lib.countB_le ⟨#[c]⟩ (by rw [sz1]; omega) a0.size a0 (Nat.le_refl _)
    rw [hr] at hl ⊢
    exact strs_row (T := TT) szStr (fun x => ⟨x, rfl⟩) (fun x : ByteArray => x) (fun x => rfl) rfl w okb (splitC a0 c) _ hl.symm (Nat.le_trans (Nat.le_of_eq hl) (by show _ ≤ 9223372036854775807; omega)) _ rfl
def fieldsC (a : ByteArray) : List ByteArray := (Lib.fields a.data.toList).map bts
def conFields : CON := onS fun a => some (Nat.blt a.size 4294967281 && a.data.toList.all (fun b => Nat.blt b.toNat 128), (.own 0, [(0, .row 9 (fieldsC a) false)]))
theorem okFields : OK 136 conFields := by
  refine ⟨entB_spec (by kernel_rfl), fun w okb xs cs r hG hs hr hok h => ?_⟩
  replace h := onS_spec (conO_some h)
  obtain ⟨a0, rfl, h⟩ := h
  obtain ⟨x, rfl, hx⟩ := args1 hs hr rfl
  rw [hx.str_inv]
  · obtain ⟨hc, rfl⟩ := some_pair h
    rw [Bool.and_eq_true] at hc
    obtain ⟨hc, hall⟩ := hc
    replace hc : a0.size < 4294967281 := Nat.le_of_ble_eq_true hc
    · skip
      have hle : (Lib.fields a0.data.toList).length ≤ 9223372036854775807 := by
        have h1 := fields_length_le a0.data.toList
        have h2 : a0.data.toList.length = a0.size := rfl
        omega
      refine (Tryz.strings_Fields a0 w hc (fun j b hb => by have := List.all_eq_true.1 hall b (List.mem_of_getElem? hb); exact Nat.le_of_ble_eq_true this) hG.2).mono ?_
      rintro e w' ⟨rfl, rfl⟩
      refine strs_row (T := TT) szStr (fun x => ⟨x, rfl⟩) (fun x : ByteArray => x) (fun x => rfl) rfl w okb (fieldsC a0) _ (by unfold fieldsC; exact (List.length_map _).symm) (by unfold fieldsC; exact Nat.le_trans (Nat.le_of_eq (List.length_map _)) hle) _ ?_
      unfold fieldsC
      show _ = Obj.cells (List.map (fun x : ByteArray => Value.string x) (List.map bts _)).toArray 9
      rw [List.map_map]
      rfl
def conCut : CON := onSS fun a b => at1 b fun c => some (Nat.blt a.size 4294967281, (.tup [.str (bts (Fast.cutAt c [] a.data.toList).1), .str (bts (Fast.cutAt c [] a.data.toList).2.1), .bool (Fast.cutAt c [] a.data.toList).2.2], []))
theorem okCut : OK 215 conCut := by
  refine ⟨entB_spec (by kernel_rfl), fun w okb xs cs r hG hs hr hok h => ?_⟩
  replace h := onSS_spec (conO_some h)
  obtain ⟨a0, a1, rfl, h⟩ := h
  replace h := at1_spec h
  obtain ⟨c, rfl, h⟩ := h
  obtain ⟨x, y, rfl, hx, hy⟩ := args2 hs hr rfl
  rw [hx.str_inv, hy.str_inv]
  · obtain ⟨hc, rfl⟩ := some_pair h
    replace hc : a0.size < 4294967281 := Nat.le_of_ble_eq_true hc
    obtain ⟨⟨m, hm⟩, _⟩ := hG
    refine (Tryz.strings_Cut a0 ⟨#[c]⟩ m w hc hm).mono ?_
    rintro e w' ⟨rfl, n, rfl⟩
    rw [show (⟨#[c]⟩ : ByteArray).data.toList = [c] from rfl, Fast.cut_fast]
    refine ret_val ⟨rfl, rfl, rfl, Nat.le_refl _, fun _ _ => rfl⟩ fun ok => .tup _ _ rfl fun i v hv => ?_
    match i, hv with
    | 0, hv => obtain rfl := Option.some.inj hv; exact .str _
    | 1, hv => obtain rfl := Option.some.inj hv; exact .str _
    | 2, hv => obtain rfl := Option.some.inj hv; exact .bool _
def conReplace : CON := onSSS fun a b d => at1 b fun x => at1 d fun y => some (Nat.blt a.size 4294967281, (.str (bts (a.data.toList.map fun b => if b = x then y else b)), []))
theorem okReplace : OK 216 conReplace := by
  refine ⟨entB_spec (by kernel_rfl), fun w okb xs cs r hG hs hr hok h => ?_⟩
  replace h := onSSS_spec (conO_some h)
  obtain ⟨a0, a1, a2, rfl, h⟩ := h
  replace h := at1_spec h
  obtain ⟨c, rfl, h⟩ := h
  replace h := at1_spec h
  obtain ⟨d, rfl, h⟩ := h
  obtain ⟨x, y, z, rfl, hx, hy, hz⟩ := args3 hs hr rfl
  rw [hx.str_inv, hy.str_inv, hz.str_inv]
  · obtain ⟨hc, rfl⟩ := some_pair h
    replace hc : a0.size < 4294967281 := Nat.le_of_ble_eq_true hc
    obtain ⟨⟨m, hm⟩, _⟩ := hG
    have hle := Lib.countB_le ⟨#[c]⟩ (by rw [sz1]; omega) a0.size a0 (Nat.le_refl _)
    refine (Tryz.strings_ReplaceAll a0 ⟨#[c]⟩ ⟨#[d]⟩ m w hc hm (Nat.le_refl 1) (by rw [sz1]; omega)).mono ?_
    rintro e w' ⟨rfl, hb⟩
    rw [show (⟨#[c]⟩ : ByteArray).data.toList = [c] from rfl, show (⟨#[d]⟩ : ByteArray).data.toList = [d] from rfl, Fast.replace_fast]
    exact ret_val hb fun ok => .str _
def conContains : CON := onSS fun a b => at1 b fun c => some (true, (.bool (a.data.toList.elem c), []))
theorem okContains : OK 155 conContains := by
  refine ⟨entB_spec (by kernel_rfl), fun w okb xs cs r hG hs hr hok h => ?_⟩
  replace h := onSS_spec (conO_some h)
  obtain ⟨a0, a1, rfl, h⟩ := h
  replace h := at1_spec h
  obtain ⟨c, rfl, h⟩ := h
  obtain ⟨x, y, rfl, hx, hy⟩ := args2 hs hr rfl
  rw [hx.str_inv, hy.str_inv]
  obtain ⟨_, rfl⟩ := some_pair h
  refine (Tryz.strings_Contains_one a0 c w).mono ?_
  rintro e w' ⟨rfl, rfl⟩
  rw [Fast.ib_mem]
  exact ret_val (Below.refl _ _) fun ok => .bool _
def conHasPrefix : CON := onSS fun a b => some (true, (.bool (Lib.hasPrefix a.data.toList b.data.toList), []))
theorem okHasPrefix : OK 154 conHasPrefix := by
  refine ⟨entB_spec (by kernel_rfl), fun w okb xs cs r hG hs hr hok h => ?_⟩
  replace h := onSS_spec (conO_some h)
  obtain ⟨a0, a1, rfl, h⟩ := h
  obtain ⟨x, y, rfl, hx, hy⟩ := args2 hs hr rfl
  rw [hx.str_inv, hy.str_inv]
  obtain ⟨_, rfl⟩ := some_pair h
  refine (Tryz.strings_HasPrefix a0 a1 w).mono ?_
  rintro e w' ⟨rfl, rfl⟩
  exact ret_val (Below.refl _ _) fun ok => .bool _
def conParse : CON := onSII fun a b c => (match Lib.parseIntB 64 a.data.toList with | .ok v => some (decide (b = 10) && decide (c = 64) && Nat.ble a.size 9223372036854775806, (.tup [.int .i64 v, .nul .nilIface], [])) | _ => none)
theorem okParse : OK 217 conParse := by
  refine ⟨entB_spec (by kernel_rfl), fun w okb xs cs r hG hs hr hok h => ?_⟩
  replace h := onSII_spec (conO_some h)
  obtain ⟨a0, a1, a2, rfl, h⟩ := h
  obtain ⟨x, y, z, rfl, hx, hy, hz⟩ := args3 hs hr rfl
  rw [hx.str_inv, hy.int_inv, hz.int_inv]
  split at h
  · rename_i v hv
    obtain ⟨hc, rfl⟩ := some_pair h
    simp only [Bool.and_eq_true, decide_eq_true_eq] at hc
    obtain ⟨⟨rfl, rfl⟩, hc⟩ := hc
    refine (Tryz.strconv_ParseInt_10_at64_ok a0 (Nat.le_of_ble_eq_true hc) v hv w).mono ?_
    rintro e w' ⟨rfl, hw⟩
    refine ret_val ?_ fun ok => .tup _ _ rfl fun i v hv => ?_
    · rcases hw with rfl | ⟨t, rfl⟩
      · exact Below.refl _ _
      · exact Joins.below_bytesWorld _ w _ _ (Nat.le_refl _)
    · match i, hv with
      | 0, hv => obtain rfl := Option.some.inj hv; exact .int _ _
      | 1, hv => obtain rfl := Option.some.inj hv; exact .nul _ rfl
  · cases h
end
end Go.Proofs.YtpbpebjfglfjfaaGreatDoor.X
