/-
  The division of 128 bits: its contract.
-/
import Derived.Test.YtbcpnhnalhhfoaaGreatDoorXQ2
import Derived.Lib.ItoaNum
import Derived.Laws.Closers25b
set_option autoImplicit false
set_option linter.unusedVariables false
set_option linter.unusedSimpArgs false
set_option maxRecDepth 100000
namespace Go.Proofs.YtbcpnhnalhhfoaaGreatDoor.X
open Go Go.Proofs Go.RowKit Go.Proofs.YtbcpnhnalhhfoaaGreatDoor
noncomputable section
theorem wrapU_in (n : Int) : 0 ≤ IntKind.u64.wrap n ∧ IntKind.u64.wrap n < 18446744073709551616 := by
  unfold IntKind.wrap
  simp [IntKind.signed, IntKind.bits]
  omega
theorem wrapU_small {n : Int} (h0 : 0 ≤ n) (h1 : n < 18446744073709551616) : IntKind.u64.wrap n = n := by
  unfold IntKind.wrap
  simp [IntKind.signed, IntKind.bits]
  omega
theorem bitsU_in (op : BinOp) (a b : Int) : 0 ≤ bits op .u64 a b ∧ bits op .u64 a b < 18446744073709551616 := wrapU_in _
/-! the loops end, and keep all but the two numbers -/
theorem keep76 {d : K76 → Int} : ∀ (n : Nat) (k x : K76), iter (step76 d) n k = some (.ex x) → x = { k with q := x.q, r := x.r }
  | n, k, x, h => by
    have one : ∀ (k x : K76), step76 d k = .ex x → x = { k with q := x.q, r := x.r } := fun k x h => by
      unfold step76 st76 at h
      (repeat' split at h) <;> first | (cases h; done) | (injection h with h; subst h; rfl)
    have two : ∀ (k x : K76), step76 d k = .go x → x = { k with q := x.q, r := x.r } := fun k x h => by
      unfold step76 st76 at h
      (repeat' split at h) <;> first | (cases h; done) | (injection h with h; subst h; rfl)
    cases n with
    | zero =>
      rw [iter] at h
      split at h
      · rename_i y hy
        obtain rfl : y = x := by injection h with h; injection h
        exact one k y hy
      · cases h
      · cases h
    | succ n =>
      rw [iter] at h
      split at h
      · rename_i k' hk
        have h1 := keep76 n k' x h
        have h2 := two k k' hk
        rw [h1, h2]
      · rename_i y hy
        obtain rfl : y = x := by injection h with h; injection h
        exact one k y hy
      · cases h
      · cases h
theorem end76_ex (d : K76 → Int) (k : K76) (ha : 2147483648 ≤ k.a) (ha2 : k.a < 4294967296) (hr : 0 ≤ k.r) (hr2 : k.r < 4294967296) : isEx (end76 d k) = true := by
  have w1 : IntKind.u64.wrap (k.r + k.a) = k.r + k.a := wrapU_small (by omega) (by omega)
  have stp : ∀ k : K76, 0 ≤ k.r → k.r < 4294967296 → 2147483648 ≤ k.a → k.a < 4294967296 → (∃ x, step76 d k = .ex x) ∨ (k.r + k.a < 4294967296 ∧ ∃ q, step76 d k = .go { k with q := q, r := k.r + k.a }) := fun k h0 h1 h2 h3 => by
    have w1 : IntKind.u64.wrap (k.r + k.a) = k.r + k.a := wrapU_small (by omega) (by omega)
    unfold step76 st76
    rw [w1]
    by_cases hg : k.r + k.a ≥ 4294967296
    · left
      rw [if_pos (c := decide (k.r + k.a ≥ 4294967296) = true) (decide_eq_true hg)]
      split
      · split
        · exact ⟨_, rfl⟩
        · exact ⟨_, rfl⟩
      · exact ⟨_, rfl⟩
    · rw [if_neg (c := decide (k.r + k.a ≥ 4294967296) = true) (by simp only [decide_eq_true_eq]; exact hg)]
      split
      · split
        · right; exact ⟨by omega, _, rfl⟩
        · left; exact ⟨_, rfl⟩
      · right; exact ⟨by omega, _, rfl⟩
  unfold end76
  rcases stp k hr hr2 ha ha2 with ⟨x, hx⟩ | ⟨h1, q, hq⟩
  · rw [iter_ex hx]; rfl
  · rw [iter_go hq]
    rcases stp { k with q := q, r := k.r + k.a } (by dsimp only; omega) h1 ha ha2 with ⟨x, hx⟩ | ⟨h2, _⟩
    · rw [iter_ex hx]; rfl
    · dsimp only at h2; omega
theorem keepE {d : K76 → Int} {k : K76} (h : isEx (end76 d k) = true) : exD' k (end76 d k) = { k with q := (exD' k (end76 d k)).q, r := (exD' k (end76 d k)).r } := keep76 3 k _ (isEx_spec k h)
/-! its numbers -/
def dvS (c : Int) : Int := IntKind.u64.wrap (64 - (Lib.bitLen c.toNat : Int))
def dvSh (x c : Int) : Int := IntKind.u64.wrap (x * 2 ^ min (dvS c).toNat IntKind.u64.bits)
def hi32 (x : Int) : Int := x.fdiv (2 ^ min (Int.toNat 32) IntKind.u64.bits)
def lo32 (x : Int) : Int := bits BinOp.and IntKind.u64 x 4294967295
def un32 (a b c : Int) : Int := bits BinOp.or IntKind.u64 (dvSh a c) (b.fdiv (2 ^ min (IntKind.u64.wrap (64 - dvS c)).toNat IntKind.u64.bits))
def dvR (x y : Int) : Int := IntKind.u64.wrap (x - IntKind.u64.wrap (IntKind.u64.wrap (x.tdiv y) * y))
def k1 (a b c : Int) : K76 := ⟨dvSh c c, dvS c, hi32 (dvSh c c), lo32 (dvSh c c), un32 a b c, hi32 (dvSh b c), lo32 (dvSh b c), IntKind.u64.wrap ((un32 a b c).tdiv (hi32 (dvSh c c))), dvR (un32 a b c) (hi32 (dvSh c c))⟩
def un21 (k : K76) : Int := IntKind.u64.wrap (IntKind.u64.wrap (IntKind.u64.wrap (k.c * 4294967296) + k.d) - IntKind.u64.wrap (k.q * k.y))
def k2 (k : K76) : K76 := ⟨k.y, k.s, k.a, k.b, k.e, k.q, un21 k, IntKind.u64.wrap ((un21 k).tdiv k.a), dvR (un21 k) k.a⟩
def dvEnd (k : K76) : Option (Res At) := some (.tup [.int .u64 (IntKind.u64.wrap (IntKind.u64.wrap (k.d * 4294967296) + k.q)), .int .u64 ((IntKind.u64.wrap (IntKind.u64.wrap (IntKind.u64.wrap (k.e * 4294967296) + k.c) - IntKind.u64.wrap (k.q * k.y))).fdiv (2 ^ min k.s.toNat IntKind.u64.bits))], [])
def dv2 (k : K76) : Option (Res At) :=
  if k.a = 0 then none else
   if isEx (end76 K76.c (k2 k)) = true then
    if 0 ≤ (exD' (k2 k) (end76 K76.c (k2 k))).s then dvEnd (exD' (k2 k) (end76 K76.c (k2 k))) else none
   else none
theorem run_div64 (a b c : Int) : runF C76' 80 76 [.int .u64 a, .int .u64 b, .int .u64 c] = (
  if decide (c = 0) = true then none else
   if decide (c ≤ a) = true then none else
    if decide (a = 0) = true then
     if c = 0 then none else if c = 0 then none else some ((.tup [(.int .u64 (IntKind.u64.wrap (b.tdiv c))), (.int .u64 (b.tmod c))]), [])
    else
     if (decide (0 ≤ c) && decide (c ≤ 18446744073709551615)) = true then
      if 0 ≤ dvS c then
       if 0 ≤ dvS c then
        if 0 ≤ IntKind.u64.wrap (64 - dvS c) then
         if 0 ≤ dvS c then
          if hi32 (dvSh c c) = 0 then none
          else
           if isEx (end76 K76.d (k1 a b c)) = true then dv2 (exD' (k1 a b c) (end76 K76.d (k1 a b c)))
           else none
         else none
        else none
       else none
      else none
     else none : Option (Res At)) := by kernel_rfl
theorem norm_dv {c : Int} (h0 : 0 < c) (h1 : c < 18446744073709551616) : 0 ≤ dvS c ∧ 2147483648 ≤ hi32 (dvSh c c) ∧ hi32 (dvSh c c) < 4294967296 := by
  have hb := Lib.bitLenAux_bounds 64 c.toNat (by omega) (by omega)
  have hle := Lib.bitLen_le c.toNat 64 (Nat.le_refl _) (by omega)
  change 1 ≤ Lib.bitLen c.toNat ∧ 2 ^ (Lib.bitLen c.toNat - 1) ≤ c.toNat ∧ c.toNat < 2 ^ Lib.bitLen c.toNat at hb
  have hs : dvS c = ((64 - Lib.bitLen c.toNat : Nat) : Int) := by
    unfold dvS
    rw [wrapU_small (by omega) (by omega)]; omega
  have hy : 9223372036854775808 ≤ dvSh c c ∧ dvSh c c < 18446744073709551616 := by
    refine ⟨?_, (wrapU_in _).2⟩
    unfold dvSh
    have hm : min (dvS c).toNat IntKind.u64.bits = 64 - Lib.bitLen c.toNat := by rw [hs]; simp [IntKind.bits]
    rw [hm]
    generalize hB : Lib.bitLen c.toNat = B at *
    have e1 : 2 ^ (B - 1) * 2 ^ (64 - B) = 9223372036854775808 := by rw [← Nat.pow_add, show B - 1 + (64 - B) = 63 by omega]
    have e2 : 2 ^ B * 2 ^ (64 - B) = 18446744073709551616 := by rw [← Nat.pow_add, show B + (64 - B) = 64 by omega]
    have l1 : 9223372036854775808 ≤ c.toNat * 2 ^ (64 - B) := by rw [← e1]; exact Nat.mul_le_mul_right _ hb.2.1
    have l2 : c.toNat * 2 ^ (64 - B) < 18446744073709551616 := by rw [← e2]; exact Nat.mul_lt_mul_of_pos_right hb.2.2 (Nat.pow_pos (by omega))
    have ec : c * 2 ^ (64 - B) = ((c.toNat * 2 ^ (64 - B) : Nat) : Int) := by
      rw [Int.natCast_mul, Int.toNat_of_nonneg (by omega)]
      simp
    rw [ec, wrapU_small (by omega) (by omega)]
    omega
  refine ⟨by omega, ?_⟩
  have e : hi32 (dvSh c c) = dvSh c c / 4294967296 := by
    unfold hi32
    rw [Int.fdiv_eq_ediv_of_nonneg _ (Int.le_of_lt (Int.pow_pos (by omega)))]
    rfl
  rw [e]
  omega
theorem dvR_in {x y : Int} (hx : 0 ≤ x) (hx2 : x < 18446744073709551616) (hy : 0 < y) (hy2 : y < 4294967296) : 0 ≤ dvR x y ∧ dvR x y < 4294967296 := by
  unfold dvR
  have e : x.tdiv y = x / y := Int.tdiv_eq_ediv_of_nonneg hx
  rw [e]
  have h1 : 0 ≤ x / y := Int.ediv_nonneg hx (Int.le_of_lt hy)
  have h2 : x / y * y ≤ x := Int.ediv_mul_le x (by omega)
  have h3 : x / y ≤ x := Int.ediv_le_self y hx
  have h4 : x - x / y * y < y := by
    have := Int.emod_lt_of_pos x hy
    have e2 := Int.mul_ediv_add_emod x y
    rw [Int.mul_comm] at e2
    omega
  have h5 : 0 ≤ x / y * y := Int.mul_nonneg h1 (Int.le_of_lt hy)
  rw [wrapU_small h1 (by omega), wrapU_small h5 (by omega), wrapU_small (by omega) (by omega)]
  omega
theorem div64_some (a b c : Int) (h0 : 0 ≤ a) (h1 : a < c) (h2 : c < 18446744073709551616) : ∃ q r, runF C76' 80 76 [.int .u64 a, .int .u64 b, .int .u64 c] = some (.tup [.int .u64 q, .int .u64 r], []) := by
  rw [run_div64, if_neg (by simp; omega), if_neg (by simp; omega)]
  by_cases ha : a = 0
  · rw [if_pos (by simp [ha]), if_neg (by omega), if_neg (by omega)]
    exact ⟨_, _, rfl⟩
  · obtain ⟨hs, hy1, hy2⟩ := norm_dv (c := c) (by omega) h2
    rw [if_neg (by simp [ha]), if_pos (by simp; omega), if_pos hs, if_pos hs, if_pos (wrapU_in _).1, if_pos hs, if_neg (by omega)]
    have hr := dvR_in (x := un32 a b c) (y := hi32 (dvSh c c)) (bitsU_in _ _ _).1 (bitsU_in _ _ _).2 (by omega) hy2
    have hx1 := end76_ex K76.d (k1 a b c) hy1 hy2 hr.1 hr.2
    rw [if_pos hx1]
    have hk := keepE hx1
    generalize exD' (k1 a b c) (end76 K76.d (k1 a b c)) = x at hk
    have xa : x.a = hi32 (dvSh c c) := by rw [hk]; rfl
    have xs : x.s = dvS c := by rw [hk]; rfl
    unfold dv2
    rw [if_neg (by rw [xa]; omega)]
    have hr2 := dvR_in (x := un21 x) (y := x.a) (wrapU_in _).1 (wrapU_in _).2 (by rw [xa]; omega) (by rw [xa]; omega)
    have hx2 := end76_ex K76.c (k2 x) (by show 2147483648 ≤ x.a; rw [xa]; exact hy1) (by show x.a < _; rw [xa]; exact hy2) hr2.1 hr2.2
    rw [if_pos hx2]
    have hk2 := keepE hx2
    rw [if_pos (by rw [hk2]; show 0 ≤ x.s; rw [xs]; exact hs)]
    exact ⟨_, _, rfl⟩
def divX (o : Option (Res At)) : Int × Int := match o with | some (.tup [.int .u64 q, .int .u64 r], []) => (q, r) | _ => (0, 0)
def div64 (a b c : Int) : Int × Int := divX (runF C76' 80 76 [.int .u64 a, .int .u64 b, .int .u64 c])
theorem div64_zero (b c : Int) (h : 0 < c) : div64 0 b c = (IntKind.u64.wrap (b.tdiv c), b.tmod c) := by
  unfold div64
  rw [run_div64, if_neg (by simp; omega), if_neg (by simp; omega), if_pos (by simp), if_neg (by omega), if_neg (by omega)]
  rfl
def onUUU {R : Type} (F : Int → Int → Int → Option R) (l : List VT) : Option R := match l with | [.int .u64 n, .int .u64 m, .int .u64 k] => F n m k | _ => none
theorem onUUU_spec {R : Type} {F : Int → Int → Int → Option R} {l : List VT} {r : R} (h : onUUU F l = some r) : ∃ n m k, l = [.int .u64 n, .int .u64 m, .int .u64 k] ∧ F n m k = some r := by
  unfold onUUU at h
  split at h
  · exact ⟨_, _, _, rfl, h⟩
  · cases h
def conDiv : CON := onUUU fun a b c => some (decide (0 ≤ a) && (decide (a < c) && decide (c < 18446744073709551616)), (.tup [.int .u64 (div64 a b c).1, .int .u64 (div64 a b c).2], []))
theorem okDiv : OK 76 conDiv := ok_run C76'_ok (by kernel_rfl) fun l r h => by
  replace h := onUUU_spec h
  obtain ⟨a, b, c, rfl, h⟩ := h
  obtain ⟨hc, rfl⟩ := some_pair h
  simp only [Bool.and_eq_true, decide_eq_true_eq] at hc
  obtain ⟨q, r, e⟩ := div64_some a b c hc.1 hc.2.1 hc.2.2
  refine ⟨80, ?_⟩
  unfold div64
  rw [e]
  rfl
end
end Go.Proofs.YtbcpnhnalhhfoaaGreatDoor.X
