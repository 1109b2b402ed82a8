/-
  SOUNDNESS, the operations that reckon: numbers, texts, truths, structs; addresses; parts.
-/
import Derived.Test.YtpbpebjfglfjfaaGreatDoorX3
import Derived.Laws.StructEq
set_option autoImplicit false
set_option linter.unusedVariables false
set_option linter.unusedSimpArgs false
namespace Go.Proofs.YtpbpebjfglfjfaaGreatDoor.X
open Go Go.RowKit
section
variable {T : Tab} {P : Program} {w : World} {μ : Nat → Option Value} {ok : Nat → Prop} {R : Type} {r : R}

/-! texts -/
theorem eqL_iff (a b : List UInt8) : eqL a b = decide (a = b) := by
  induction a generalizing b with
  | nil => cases b <;> rfl
  | cons x a ih =>
    cases b with
    | nil => rfl
    | cons y b =>
      show (match Nat.beq x.toNat y.toNat with | true => eqL a b | false => false) = _
      rw [beq_iff]
      by_cases h : x = y
      · subst h; simp [ih]
      · have h' : ¬ x.toNat = y.toNat := fun e => h (UInt8.toNat_inj.1 e)
        simp [h, h']
theorem eqB_list (a b : ByteArray) : eqB a b = (a.toList == b.toList) := by
  rw [ByteArray.toList_eq, ByteArray.toList_eq]
  unfold eqB
  rw [eqL_iff]
  rw [Bool.eq_iff_iff]; simp
theorem eqB_iff (a b : ByteArray) : eqB a b = decide (a = b) := by
  unfold eqB
  rw [eqL_iff]
  by_cases h : a = b
  · subst h; simp
  · have h' : ¬ a.data.toList = b.data.toList := fun e => h (by
      obtain ⟨⟨x⟩⟩ := a
      obtain ⟨⟨y⟩⟩ := b
      exact congrArg (fun z => ByteArray.mk (Array.mk z)) e)
    simp only [h, h', decide_false]
theorem ltL_eq (a b : List UInt8) : ltL a b = Op.bytesLess a b := by
  induction a generalizing b with
  | nil => cases b <;> rfl
  | cons x a ih =>
    cases b with
    | nil => rfl
    | cons y b =>
      show (match Nat.blt x.toNat y.toNat with | true => true | false => match Nat.beq x.toNat y.toNat with | true => ltL a b | false => false) = (decide (x < y) || (x == y && Op.bytesLess a b))
      rw [beq_iff, ih]
      have hb : Nat.blt x.toNat y.toNat = decide (x < y) := by
        rw [Bool.eq_iff_iff]
        simp [UInt8.lt_iff_toNat_lt]
      rw [hb]
      have he : decide (x.toNat = y.toNat) = (x == y) := by
        by_cases h : x = y
        · subst h; simp
        · have h' : ¬ x.toNat = y.toNat := fun e => h (UInt8.toNat_inj.1 e)
          simp [h, h']
      rw [he]
      cases decide (x < y) <;> cases (x == y) <;> rfl
theorem ltB_list (a b : ByteArray) : ltB a b = Op.bytesLess a.toList b.toList := by
  rw [ByteArray.toList_eq, ByteArray.toList_eq]
  exact ltL_eq _ _
theorem catB_eq (a b : ByteArray) : catB a b = a ++ b := by
  obtain ⟨⟨x⟩⟩ := a
  obtain ⟨⟨y⟩⟩ := b
  show _ = ByteArray.append _ _
  simp [catB]
  rfl
theorem run_strOp {op : BinOp} {x y : ByteArray} {K : V T.A → Option R} (h : strOp op x y K = some r) : ∃ v, K v = some r ∧ ∃ c, (Op.stringOp op x y).run P w = .ok c w ∧ Rep T P w μ ok v c := by
  unfold strOp at h
  cases op <;> simp only at h <;> first
    | (cases h; done)
    | (split at h
       · rename_i hlt
         refine ⟨_, h, _, ?_, .str _⟩
         have h2 : ¬ (((x.size + y.size : Nat) : Int) > IntKind.i64.max) := by rw [IntKind.max_i64]; omega
         simp only [Op.stringOp, if_neg h2, Sem.run_pure, catB_eq]
       · cases h)
    | exact ⟨_, h, _, by simp only [Op.stringOp, Sem.run_pure, ← eqB_list, ← ltB_list], .bool _⟩

/-! numbers -/
theorem run_intOp {op : BinOp} {t : TypeId} {k j : IntKind} {x y : Int} {K : V T.A → Option R} (h : intOp op k j x y K = some r) : ∃ v, K v = some r ∧ ∃ c, (binOp op t (.int k x) (.int j y)).run P w = .ok c w ∧ Rep T P w μ ok v c := by
  unfold intOp at h
  split at h
  · split at h
    · rename_i h0
      refine ⟨_, h, _, ?_, .int _ _⟩
      rw [binOp_shl]; simp only [Op.shift, if_neg (show ¬ y < 0 by omega), Sem.run_pure]
    · cases h
  · split at h
    · rename_i h0
      refine ⟨_, h, _, ?_, .int _ _⟩
      rw [binOp_shr]; simp only [Op.shift, if_neg (show ¬ y < 0 by omega), Sem.run_pure]
    · cases h
  · split at h
    · cases h
    · rename_i hk
      obtain rfl : k = j := of_decide_eq_true hk
      split at h
      · exact ⟨_, h, _, by rw [binOp_add]; rfl, .int _ _⟩
      · exact ⟨_, h, _, by rw [binOp_sub]; rfl, .int _ _⟩
      · exact ⟨_, h, _, by rw [binOp_mul]; rfl, .int _ _⟩
      · split at h
        · cases h
        · rename_i h0; exact ⟨_, h, _, by rw [binOp_quo]; simp only [Op.intDiv, if_neg h0, Sem.run_pure], .int _ _⟩
      · split at h
        · cases h
        · rename_i h0; exact ⟨_, h, _, by rw [binOp_rem]; simp only [Op.intDiv, if_neg h0, Sem.run_pure], .int _ _⟩
      · exact ⟨_, h, _, by rw [binOp_and, intBits_and]; rfl, .int _ _⟩
      · exact ⟨_, h, _, by rw [binOp_or, intBits_or]; rfl, .int _ _⟩
      · exact ⟨_, h, _, by rw [binOp_xor, intBits_xor]; rfl, .int _ _⟩
      · exact ⟨_, h, _, by rw [binOp_andNot, intBits_andNot]; rfl, .int _ _⟩
      · exact ⟨_, h, _, by rw [binOp_eql]; simp only [Sem.run_pure]; by_cases e : x = y <;> simp [e], .bool _⟩
      · exact ⟨_, h, _, by rw [binOp_neq]; simp only [Sem.run_pure]; by_cases e : x = y <;> simp [e], .bool _⟩
      · exact ⟨_, h, _, by rw [binOp_lss]; rfl, .bool _⟩
      · exact ⟨_, h, _, by rw [binOp_leq]; rfl, .bool _⟩
      · exact ⟨_, h, _, by rw [binOp_gtr]; rfl, .bool _⟩
      · exact ⟨_, h, _, by rw [binOp_geq]; rfl, .bool _⟩
      · cases h

/-! structs -/
def rowT : TypeDesc → Bool
  | .struct _ => true
  | .array _ _ => true
  | _ => false
theorem plain_part {t off : Nat} {cs : Array Value} {c : Value} {d : TypeDesc} (hu : P.underlying t = some d) (hp : rowT d = false) (hc : cs[off]? = some c) : (part t cs off).run P w = .ok c w := by
  cases d <;> first | (cases hp; done) | simp [part, isAgg, run_underlying hu, hc]
theorem eqF_nil (k : Nat) (a b : List (V T.A)) : eqF P [] k a b = eqF0 a b := rfl
theorem eqF_cons (f : Field) (fs : List Field) (k : Nat) (x y : V T.A) (a b : List (V T.A)) : eqF P (f :: fs) k (x :: a) (y :: b) = eqF1 P f k x y (eqF P fs (k + 1) a b) := rfl
theorem eqFields_run : ∀ (fs : List Field) (k d : Nat) (a b : List (V T.A)) (xs ys : Array Value) (q : Bool),
    (∀ i v, a[i]? = some v → ∃ c, xs[k + i]? = some c ∧ Rep T P w μ ok v c) → (∀ i v, b[i]? = some v → ∃ c, ys[k + i]? = some c ∧ Rep T P w μ ok v c) → eqF P fs k a b = some q →
    (Op.eqFields (d + 1) xs ys fs).run P w = .ok q w
  | [], k, d, a, b, xs, ys, q, _, _, he => by
    rw [eqF_nil] at he
    unfold eqF0 at he
    split at he
    · obtain rfl := Option.some.inj he; rfl
    · cases he
  | f :: fs, k, d, [], b, xs, ys, q, _, _, he => by cases he
  | f :: fs, k, d, x :: a, [], xs, ys, q, _, _, he => by cases he
  | f :: fs, k, d, x :: a, y :: b, xs, ys, q, ha, hb, he => by
    have ih := fun q => eqFields_run fs (k + 1) d a b xs ys q (fun i v hv => by rw [show k + 1 + i = k + (i + 1) by omega]; exact ha (i + 1) v hv) (fun i v hv => by rw [show k + 1 + i = k + (i + 1) by omega]; exact hb (i + 1) v hv)
    obtain ⟨c, hc, hcr⟩ := ha 0 x rfl
    obtain ⟨e, hd, hdr⟩ := hb 0 y rfl
    simp only [Nat.add_zero] at hc hd
    rw [eqF_cons] at he
    unfold eqF1 at he
    clear ha hb
    have key : ∀ (q1 q2 : Bool), (Nat.beq f.offset k && (f.name != "_")) = true → (∃ d, P.underlying f.type = some d ∧ rowT d = false) → (Op.equalIn (d + 1) f.type c e).run P w = .ok q1 w → eqF P fs (k + 1) a b = some q2 → (Op.eqFields (d + 1) xs ys (f :: fs)).run P w = .ok (q1 && q2) w := by
      intro q1 q2 hn hu h1 h2
      simp only [Bool.and_eq_true, bne_iff_ne] at hn
      obtain ⟨u, hu1, hu2⟩ := hu
      simp only [Op.eqFields, hn.2, ne_eq, not_false_eq_true, if_true, Sem.run_bind]
      rw [Nat.eq_of_beq_eq_true hn.1, plain_part hu1 hu2 hc, Result.andThen_ok, plain_part hu1 hu2 hd, Result.andThen_ok, h1, Result.andThen_ok]
      cases q1
      · simp
      · simp [ih q2 h2]
    split at he
    · rename_i k1 j m q n r hn hu hr
      cases hcr; cases hdr
      split at he
      · rename_i hjk
        obtain rfl : j = q := of_decide_eq_true hjk
        obtain rfl := Option.some.inj he
        exact key _ _ hn ⟨_, hu, rfl⟩ (by rw [run_equalIn_int w d _ j _ m n hu]; by_cases e : m = n <;> simp [e]) hr
      · cases he
    · rename_i m n r hn hu hr
      cases hcr; cases hdr
      obtain rfl := Option.some.inj he
      exact key _ _ hn ⟨_, hu, rfl⟩ (by rw [run_equalIn_string w d _ m n hu, eqB_list]) hr
    · rename_i m n r hn hu hr
      cases hcr; cases hdr
      obtain rfl := Option.some.inj he
      exact key _ _ hn ⟨_, hu, rfl⟩ (by rw [run_equalIn_bool w d _ m n hu]) hr
    · cases he
theorem run_eqS {t : Nat} {a b : List (V T.A)} {xs ys : Array Value} {q : Bool} (hx : Rep T P w μ ok (.agg a) (.agg xs)) (hy : Rep T P w μ ok (.agg b) (.agg ys)) (he : eqS P t a b = some q) :
    (Op.equalIn 10000 t (.agg xs) (.agg ys)).run P w = .ok q w ∧ P.eqGuardType P.depth t = false := by
  unfold eqS at he
  split at he
  · rename_i fs hu
    split at he
    · rename_i hs hg
      refine ⟨?_, hg⟩
      have hf : P.fieldsOf t = fs := by simp [Program.fieldsOf, hu]
      rw [run_equalIn_agg w 9999 t xs ys (by rw [hf]; exact hu) hs, hf]
      cases hx with | agg _ _ hlx hrx => cases hy with | agg _ _ hly hry =>
      refine eqFields_run (μ := μ) (ok := ok) fs.toList 0 9998 a b xs ys q (fun i v hv => ?_) (fun i v hv => ?_) he
      · have hi : i < xs.size := by rw [hlx]; exact (List.getElem?_eq_some_iff.1 hv).1
        exact ⟨xs[i], by simp [hi], by simpa [hi] using hrx i v hv⟩
      · have hi : i < ys.size := by rw [hly]; exact (List.getElem?_eq_some_iff.1 hv).1
        exact ⟨ys[i], by simp [hi], by simpa [hi] using hry i v hv⟩
    · cases he
  · cases he
theorem eqD_run : ∀ (n t : Nat) (x y : V T.A) (cx cy : Value) (q : Bool), Rep T P w μ ok x cx → Rep T P w μ ok y cy → eqD P n t x y = some q → ∀ d, n ≤ d → (Op.equalIn d t cx cy).run P w = .ok q w
  | 0, t, x, y, cx, cy, q, hx, hy, h, d, hd => by cases h
  | n + 1, t, x, y, cx, cy, q, hx, hy, h, d, hd => by
    replace h : eqD1 P (eqD P n) t x y = some q := h
    obtain ⟨d, rfl⟩ : ∃ k, d = k + 1 := ⟨d - 1, by omega⟩
    unfold eqD1 at h
    split at h
    · rename_i k1 j m p n' hu
      cases hx; cases hy
      split at h
      · rename_i hjk
        obtain rfl : j = p := of_decide_eq_true hjk
        obtain rfl := Option.some.inj h
        rw [run_equalIn_int w d t j _ m n' hu]
        by_cases e : m = n' <;> simp [e]
      · cases h
    · rename_i m n' hu
      cases hx; cases hy
      obtain rfl := Option.some.inj h
      rw [run_equalIn_string w d t m n' hu, eqB_list]
    · rename_i m n' hu
      cases hx; cases hy
      obtain rfl := Option.some.inj h
      rw [run_equalIn_bool w d t m n' hu]
    · rename_i fs a b hu
      cases hx with | agg _ xs hlx hrx => cases hy with | agg _ ys hly hry =>
      split at h
      · rename_i hs
        have hf : P.fieldsOf t = fs := by simp [Program.fieldsOf, hu]
        rw [run_equalIn_agg w d t xs ys (by rw [hf]; exact hu) hs, hf]
        have key : ∀ (l : List Field) (q : Bool), eqFs P (eqD P n) a b l = some q → (Op.eqFields d xs ys l).run P w = .ok q w := by
          intro l
          induction l with
          | nil => intro q h; obtain rfl := Option.some.inj h; rfl
          | cons f l ihl =>
            intro q h
            replace h : eqFs1 (eqD P n) f.type (f.name != "_") (pickV P f.type (dropN f.offset a)) (pickV P f.type (dropN f.offset b)) (eqFs P (eqD P n) a b l) = some q := h
            unfold eqFs1 at h
            split at h
            · rename_i x y hn hx hy
              unfold and2 at h
              split at h
              · rename_i q1 q2 h1 h2
                obtain rfl := Option.some.inj h
                obtain ⟨c, hc, hcr⟩ := run_part_cells hlx hrx hx
                obtain ⟨e, he, her⟩ := run_part_cells hly hry hy
                have h3 := eqD_run n f.type x y c e q1 hcr her h1 d (by omega)
                simp only [bne_iff_ne] at hn
                simp only [Op.eqFields, hn, ne_eq, not_false_eq_true, if_true, Sem.run_bind]
                rw [hc, Result.andThen_ok, he, Result.andThen_ok, h3, Result.andThen_ok]
                cases q1
                · simp
                · simp [ihl q2 h2]
              · cases h
            · cases h
        exact key fs.toList q h
      · cases h
    · cases h
theorem run_eqA {t : Nat} {a b : List (V T.A)} {xs ys : Array Value} {q : Bool} (hx : Rep T P w μ ok (.agg a) (.agg xs)) (hy : Rep T P w μ ok (.agg b) (.agg ys)) (he : eqA P t a b = some q) :
    (Op.equalIn 10000 t (.agg xs) (.agg ys)).run P w = .ok q w ∧ P.eqGuardType P.depth t = false := by
  unfold eqA at he
  split at he
  · rename_i r hr
    obtain rfl := Option.some.inj he
    exact run_eqS hx hy hr
  · split at he
    · rename_i hg
      exact ⟨eqD_run 4 t _ _ _ _ q hx hy he 10000 (by omega), hg⟩
    · cases he
/-- two operands -/
theorem eqIn_slice (d : Nat) {t e : TypeId} (a : Option Addr) (l c : Nat) (h : P.underlying t = some (.slice e)) : (Op.equalIn (d + 1) t (.slice a l c) (.slice none 0 0)).run P w = .ok a.isNone w := by
  cases a <;> simp [Op.equalIn, run_underlying h]
theorem eqIn_ptr (d : Nat) {t e : TypeId} (a : Option Addr) (h : P.underlying t = some (.pointer e)) : (Op.equalIn (d + 1) t (.pointer a) (.pointer none)).run P w = .ok a.isNone w := by
  cases a <;> simp [Op.equalIn, run_underlying h]
theorem eqIn_fun (d : Nat) {t : TypeId} {x y : Array TypeId} {z : Bool} (f : Fn) (p q : Array Value) (h : P.underlying t = some (.func x y z)) : (Op.equalIn (d + 1) t (.func f p q) .nilFunc).run P w = .ok false w := by
  simp [Op.equalIn, run_underlying h]
theorem eqIn_nilf (d : Nat) {t : TypeId} {x y : Array TypeId} {z : Bool} (h : P.underlying t = some (.func x y z)) : (Op.equalIn (d + 1) t .nilFunc .nilFunc).run P w = .ok true w := by
  simp [Op.equalIn, run_underlying h]
theorem nilEq_spec {t : Nat} {x y : V T.A} {cx cy : Value} {b : Bool} (hx : Rep T P w μ ok x cx) (hy : Rep T P w μ ok y cy) (h : nilEq P t x y = some b) : (Op.equal t cx cy).run P w = .ok b w ∧
    (∀ op p q, (eqGuard op t p q cx cy).run P w = .ok () w) ∧ binOp .eql t cx cy = (do pure (.bool (← Op.equal t cx cy))) ∧ binOp .neq t cx cy = (do pure (.bool (!(← Op.equal t cx cy)))) := by
  have g : ∀ {cx cy : Value}, (∀ op p q, eqGuard op t p q cx cy = if !(op matches .eql | .neq) then pure () else pure ()) → ∀ op p q, (eqGuard op t p q cx cy).run P w = .ok () w := fun h op p q => by
    rw [h]; split <;> rfl
  unfold nilEq at h
  split at h
  · rename_i e hu
    obtain rfl := Option.some.inj h
    cases hx; cases hy
    exact ⟨eqIn_slice 9999 none 0 0 hu, g fun op p q => rfl, rfl, rfl⟩
  · rename_i e k y l hu
    obtain rfl := Option.some.inj h
    cases hy
    cases hx with | ro _ _ a cap cf hk hcap hmax ha hr =>
    obtain ⟨b, o, rfl, _⟩ := ha (by simp)
    exact ⟨eqIn_slice 9999 (some _) _ _ hu, g fun op p q => rfl, rfl, rfl⟩
  · rename_i hu
    obtain rfl := Option.some.inj h
    cases hx; cases hy
    exact ⟨eqIn_slice 9999 (some _) _ _ hu, g fun op p q => rfl, rfl, rfl⟩
  · rename_i hu
    obtain rfl := Option.some.inj h
    cases hx; cases hy
    exact ⟨eqIn_slice 9999 none _ _ hu, g fun op p q => rfl, rfl, rfl⟩
  · rename_i e hu
    obtain rfl := Option.some.inj h
    cases hx; cases hy
    exact ⟨eqIn_ptr 9999 none hu, g fun op p q => rfl, rfl, rfl⟩
  · rename_i e i f hu
    obtain rfl := Option.some.inj h
    cases hx; cases hy
    exact ⟨eqIn_ptr 9999 (some _) hu, g fun op p q => rfl, rfl, rfl⟩
  · rename_i e i j k f hu
    obtain rfl := Option.some.inj h
    cases hx; cases hy
    exact ⟨eqIn_ptr 9999 (some _) hu, g fun op p q => rfl, rfl, rfl⟩
  · rename_i e i hu
    obtain rfl := Option.some.inj h
    cases hx; cases hy
    exact ⟨eqIn_ptr 9999 (some _) hu, g fun op p q => rfl, rfl, rfl⟩
  · rename_i a b c hu
    obtain rfl := Option.some.inj h
    cases hx; cases hy
    exact ⟨eqIn_nilf 9999 hu, g fun op p q => rfl, rfl, rfl⟩
  · rename_i a b c f l hu
    obtain rfl := Option.some.inj h
    cases hx; cases hy
    exact ⟨eqIn_fun 9999 _ _ _ hu, g fun op p q => rfl, rfl, rfl⟩
  · cases h
theorem run_binV {op : BinOp} {t : Nat} {p q : Operand} {x y : V T.A} {cx cy : Value} {K : V T.A → Option R} (hx : Rep T P w μ ok x cx) (hy : Rep T P w μ ok y cy) (h : binV P op t x y K = some r) :
    ∃ v, K v = some r ∧ ∃ c, (do eqGuard op t p q cx cy; binOp op t cx cy : Sem Value).run P w = .ok c w ∧ Rep T P w μ ok v c := by
  unfold binV at h
  split at h
  · cases hx; cases hy
    obtain ⟨v, h1, c, h2, h3⟩ := run_intOp (P := P) (w := w) (μ := μ) (ok := ok) (t := t) h
    exact ⟨v, h1, c, by rw [eqGuard_at_int]; simpa using h2, h3⟩
  · cases hx; cases hy
    rename_i m n
    obtain ⟨v, h1, c, h2, h3⟩ := run_strOp (P := P) (w := w) (μ := μ) (ok := ok) h
    refine ⟨v, h1, c, ?_, h3⟩
    rw [eqGuard_at_string]
    have : binOp op t (.string m) (.string n) = Op.stringOp op m n := by cases op <;> first | rfl | (unfold strOp at h; cases h)
    rw [this]; simpa using h2
  · cases hx; cases hy
    rename_i m n
    split at h
    · rename_i hu
      split at h
      · exact ⟨_, h, _, by rw [eqGuard_at_bool]; simpa using run_eql_bool w t m n hu, .bool _⟩
      · exact ⟨_, h, _, by rw [eqGuard_at_bool]; simpa using run_neq_bool w t m n hu, .bool _⟩
      · cases h
    · cases h
  · rename_i a b
    have hx' := hx
    have hy' := hy
    cases hx'; cases hy'
    split at h
    · rename_i q2 he
      obtain ⟨h1, h2⟩ := run_eqA hx hy he
      split at h
      · exact ⟨_, h, _, by rw [Sem.run_bind, run_eqGuard_agg w _ t p q _ _ h2, Result.andThen_ok, run_eql_struct, h1]; rfl, .bool _⟩
      · exact ⟨_, h, _, by rw [Sem.run_bind, run_eqGuard_agg w _ t p q _ _ h2, Result.andThen_ok, run_neq_struct, h1]; rfl, .bool _⟩
      · cases h
    · cases h
  · unfold nilOp at h
    split at h
    · rename_i b hb
      obtain ⟨h1, h2, h3, h4⟩ := nilEq_spec hx hy hb
      split at h
      · exact ⟨_, h, _, by rw [Sem.run_bind, h2, Result.andThen_ok, h3, Sem.run_bind, h1]; rfl, .bool _⟩
      · exact ⟨_, h, _, by rw [Sem.run_bind, h2, Result.andThen_ok, h4, Sem.run_bind, h1]; rfl, .bool _⟩
      · cases h
    · cases h
theorem run_unV {op : UnOp} {x : V T.A} {cx : Value} {K : V T.A → Option R} (hx : Rep T P w μ ok x cx) (h : unV op x K = some r) : ∃ v, K v = some r ∧ ∃ c, (Op.unary op cx).run P w = .ok c w ∧ Rep T P w μ ok v c := by
  unfold unV at h
  split at h
  · cases hx; exact ⟨_, h, _, rfl, .int _ _⟩
  · cases hx; exact ⟨_, h, _, rfl, .bool _⟩
  · cases h
theorem run_convV {s t : Nat} {x : V T.A} {cx : Value} {K : V T.A → Option R} (hx : Rep T P w μ ok x cx) (h : convV P s t x K = some r) : ∃ v, K v = some r ∧ ∃ c, (convert s t cx).run P w = .ok c w ∧ Rep T P w μ ok v c := by
  unfold convV at h
  split at h
  · rename_i hs ht
    cases hx
    exact ⟨_, h, _, by simp [convert, run_underlying hs, run_underlying ht, Conv.intToInt], .int _ _⟩
  · rename_i hs ht
    cases hx
    exact ⟨_, h, _, by simp [convert, run_underlying hs, run_underlying ht], .str _⟩
  · cases h
end
end Go.Proofs.YtpbpebjfglfjfaaGreatDoor.X
