/-
  LOOPS BY THEIR ROUNDS: a round as a plain function; the loop, as that function again and again.
-/
import Derived.Test.YtbcpnhnalhhfoaaGreatDoorXK
set_option autoImplicit false
set_option linter.unusedVariables false
set_option linter.unusedSimpArgs false
set_option maxRecDepth 100000
namespace Go.Proofs.YtbcpnhnalhhfoaaGreatDoor.X
open Go Go.Proofs Go.RowKit Go.Proofs.YtbcpnhnalhhfoaaGreatDoor
noncomputable section
/-- how a round ends -/
inductive Nx (σ ρ : Type) | go (s : σ) | ex (x : ρ) | ret (x : ρ) | no
/-- how a loop ends -/
inductive Fx (ρ : Type) | ex (x : ρ) | ret (x : ρ)
def Fx.k {ρ : Type} (id : Nat) (X Y : ρ → St At) (K : Xit → St At → Option (Res At)) (e : Fx ρ) : Option (Res At) := match e with | .ex x => K (.ex id) (X x) | .ret x => K .ret (Y x)
def iter {σ ρ : Type} (step : σ → Nx σ ρ) : Nat → σ → Option (Fx ρ)
  | 0, s => (match step s with | .ex x => some (.ex x) | .ret x => some (.ret x) | _ => none)
  | k + 1, s => (match step s with | .go s' => iter step k s' | .ex x => some (.ex x) | .ret x => some (.ret x) | .no => none)
theorem iter_go {σ ρ : Type} {step : σ → Nx σ ρ} {s s' : σ} (h : step s = .go s') (k : Nat) : iter step (k + 1) s = iter step k s' := by rw [iter, h]
theorem iter_ex {σ ρ : Type} {step : σ → Nx σ ρ} {s : σ} {x : ρ} (h : step s = .ex x) (k : Nat) : iter step k s = some (.ex x) := by cases k <;> rw [iter, h]
theorem iter_ret {σ ρ : Type} {step : σ → Nx σ ρ} {s : σ} {x : ρ} (h : step s = .ret x) (k : Nat) : iter step k s = some (.ret x) := by cases k <;> rw [iter, h]
/-- a round, with what comes behind it -/
def Nx.k {σ ρ : Type} (id : Nat) (S : σ → St At) (X Y : ρ → St At) (R : St At → Option (Res At)) (K : Xit → St At → Option (Res At)) (e : Nx σ ρ) : Option (Res At) := match e with
  | .go s => R (S s) | .ex x => K (.ex id) (X x) | .ret x => K .ret (Y x) | .no => none
theorem Nx.k_ite {σ ρ : Type} {id : Nat} {S : σ → St At} {X Y : ρ → St At} {R : St At → Option (Res At)} {K : Xit → St At → Option (Res At)} {c : Prop} [Decidable c] {a b : Nx σ ρ} : Nx.k id S X Y R K (if c then a else b) = if c then Nx.k id S X Y R K a else Nx.k id S X Y R K b := by
  by_cases h : c
  · rw [if_pos h, if_pos h]
  · rw [if_neg h, if_neg h]
theorem loop_iter {C : Cfg} {f r id : Nat} {σ ρ : Type} {S : σ → St At} {X Y : ρ → St At} {step : σ → Nx σ ρ} (hl : (mkE C).lp f (firstRegion (codeAt f r)) = none)
    (hs : ∀ s m R K, B C f r (m + 60) (S s) R K = (step s).k id S X Y R K) (hh : ∀ s, headV (mkE C) f (codeAt f r) (S s) = S s) (K : Xit → St At → Option (Res At)) :
    ∀ (k : Nat) (s : σ) (e : Fx ρ), iter step k s = some e → L C f r (k + 61) (S s) K = e.k id X Y K
  | 0, s, e, h => by
    rw [show (0 + 61 : Nat) = (0 + 60) + 1 from rfl, L_succ hl (hh s), hs]
    rw [iter] at h
    split at h
    · rename_i x hx; rw [hx]; obtain rfl := Option.some.inj h; rfl
    · rename_i x hx; rw [hx]; obtain rfl := Option.some.inj h; rfl
    · cases h
  | k + 1, s, e, h => by
    rw [show k + 1 + 61 = ((k + 1) + 60) + 1 by omega, L_succ hl (hh s), hs]
    rw [iter] at h
    split at h
    · rename_i s' hx; rw [hx]
      show L C f r (k + 1 + 60) (S s') K = _
      rw [show k + 1 + 60 = k + 61 by omega]
      exact loop_iter hl hs hh K k s' e h
    · rename_i x hx; rw [hx]; obtain rfl := Option.some.inj h; rfl
    · rename_i x hx; rw [hx]; obtain rfl := Option.some.inj h; rfl
    · cases h
/-- the contract of a loop by its rounds -/
theorem okl_iter {C : Cfg} (h : CfgOK C) {f r id : Nat} {σ ρ : Type} {S : σ → St At} {X Y : ρ → St At} {step : σ → Nx σ ρ} (hu : cntL r (loopsIn (codeOf f)) = 1) (hl : (mkE C).lp f (firstRegion (codeAt f r)) = none)
    (hs : ∀ s m R K, B C f r (m + 60) (S s) R K = (step s).k id S X Y R K) (hh : ∀ s, headV (mkE C) f (codeAt f r) (S s) = S s) {g : LP}
    (hg : ∀ st K q, g st K = some q → ∃ s k e, st = S s ∧ iter step k s = some e ∧ e.k id X Y K = some q) : OKL f r g := okl_run h hu fun st K q h => by
  obtain ⟨s, k, e, rfl, h1, h2⟩ := hg st K q h
  exact ⟨k + 61, (loop_iter hl hs hh K k s e h1).trans h2⟩
/-! loops over a list, closed -/
theorem iter_fold {σ ρ α β : Type} {step : σ → Nx σ ρ} (l : List α) (S : β → Nat → σ) (f : β → α → β) (x : β → ρ) (I : β → Nat → Prop) (hgo : ∀ b j (h : j < l.length), I b j → step (S b j) = .go (S (f b l[j]) (j + 1)) ∧ I (f b l[j]) (j + 1)) (hex : ∀ b, I b l.length → step (S b l.length) = .ex (x b)) :
    ∀ (m j : Nat) (b : β), j + m = l.length → I b j → iter step m (S b j) = some (.ex (x ((l.drop j).foldl f b)))
  | 0, j, b, hj, hi => by
    obtain rfl : j = l.length := by omega
    rw [List.drop_length]
    exact iter_ex (hex b hi) 0
  | m + 1, j, b, hj, hi => by
    have h : j < l.length := by omega
    obtain ⟨h1, h2⟩ := hgo b j h hi
    rw [iter_go h1, List.drop_eq_getElem_cons h]
    exact iter_fold l S f x I hgo hex m (j + 1) _ (by omega) h2
/-- a round goes on, or leaves with a result -/
def scanL {α β γ : Type} (f : β → α → β ⊕ γ) : β → List α → β ⊕ γ
  | b, [] => .inl b
  | b, a :: l => (match f b a with | .inl b' => scanL f b' l | .inr y => .inr y)
theorem iter_scan {σ ρ α β γ : Type} {step : σ → Nx σ ρ} (l : List α) (S : β → Nat → σ) (f : β → α → β ⊕ γ) (x : β → ρ) (r : γ → ρ) (I : β → Nat → Prop)
    (hgo : ∀ b j (h : j < l.length), I b j → (∀ b', f b l[j] = .inl b' → step (S b j) = .go (S b' (j + 1)) ∧ I b' (j + 1)) ∧ (∀ y, f b l[j] = .inr y → step (S b j) = .ret (r y))) (hex : ∀ b, I b l.length → step (S b l.length) = .ex (x b)) :
    ∀ (m j : Nat) (b : β), j + m = l.length → I b j → iter step m (S b j) = some (match scanL f b (l.drop j) with | .inl b => .ex (x b) | .inr y => .ret (r y))
  | 0, j, b, hj, hi => by
    obtain rfl : j = l.length := by omega
    rw [List.drop_length]
    exact iter_ex (hex b hi) 0
  | m + 1, j, b, hj, hi => by
    have h : j < l.length := by omega
    obtain ⟨h1, h2⟩ := hgo b j h hi
    rw [List.drop_eq_getElem_cons h]
    unfold scanL
    cases hf : f b l[j] with
    | inl b' =>
      obtain ⟨h3, h4⟩ := h1 b' hf
      rw [iter_go h3]
      exact iter_scan l S f x r I hgo hex m (j + 1) _ (by omega) h4
    | inr y => exact iter_ret (h2 y hf) _
/-! reading what stands in a state -/
def mapB (kt vt : Nat) (b : Blk At) : Option (List (At kt × At vt)) := match b with | .map (.ty k v l) false => (if h : k = kt then (if h2 : v = vt then some (h ▸ h2 ▸ l : List (At kt × At vt)) else none) else none) | _ => none
theorem mapB_spec {kt vt : Nat} {b : Blk At} {l : List (At kt × At vt)} (h : mapB kt vt b = some l) : b = .map (.ty kt vt l) false := by
  unfold mapB at h
  split at h
  · split at h
    · rename_i e
      subst e
      split at h
      · rename_i e
        subst e
        obtain rfl := Option.some.inj h
        rfl
      · cases h
    · cases h
  · cases h
def rowB (e : Nat) (b : Blk At) : Option (List (At e)) := match b with | .row e' l false => (if h : e' = e then some (h ▸ l : List (At e)) else none) | _ => none
theorem rowB_spec {e : Nat} {b : Blk At} {l : List (At e)} (h : rowB e b = some l) : b = .row e l false := by
  unfold rowB at h
  split at h
  · split at h
    · rename_i e'
      subst e'
      obtain rfl := Option.some.inj h
      rfl
    · cases h
  · cases h
end
end Go.Proofs.YtbcpnhnalhhfoaaGreatDoor.X
