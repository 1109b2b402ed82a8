/-
  LOOPS BY THEIR ROUNDS: a round as a plain function; the loop, as that function again and again.
-/
import Derived.Test.YtpbpebjfglfjfaaGreatDoorXF
import Derived.Test.YtpbpebjfglfjfaaGreatDoorXR
set_option autoImplicit false
set_option linter.unusedVariables false
set_option linter.unusedSimpArgs false
set_option maxRecDepth 100000
namespace Go.Proofs.YtpbpebjfglfjfaaGreatDoor.X
open Go Go.Proofs Go.RowKit Go.Proofs.YtpbpebjfglfjfaaGreatDoor
noncomputable section
inductive Nx (σ ρ : Type) | go (s : σ) | ex (x : ρ) | ret (x : ρ) | no
inductive Fx (ρ : Type) | ex (x : ρ) | ret (x : ρ)
def Fx.k {ρ : Type} (id : Nat) (X Y : ρ → St At) (K : Xit → St At → Option (Res At)) (e : Fx ρ) : Option (Res At) := match e with | .ex x => K (.ex id) (X x) | .ret x => K .ret (Y x)
def iter {σ ρ : Type} (step : σ → Nx σ ρ) : Nat → σ → Option (Fx ρ)
  | 0, s => (match step s with | .ex x => some (.ex x) | .ret x => some (.ret x) | _ => none)
  | k + 1, s => (match step s with | .go s' => iter step k s' | .ex x => some (.ex x) | .ret x => some (.ret x) | .no => none)
theorem iter_go {σ ρ : Type} {step : σ → Nx σ ρ} {s s' : σ} (h : step s = .go s') (k : Nat) : iter step (k + 1) s = iter step k s' := by rw [iter, h]
theorem iter_ex {σ ρ : Type} {step : σ → Nx σ ρ} {s : σ} {x : ρ} (h : step s = .ex x) (k : Nat) : iter step k s = some (.ex x) := by cases k <;> rw [iter, h]
theorem iter_ret {σ ρ : Type} {step : σ → Nx σ ρ} {s : σ} {x : ρ} (h : step s = .ret x) (k : Nat) : iter step k s = some (.ret x) := by cases k <;> rw [iter, h]
def Nx.k {σ ρ : Type} (id : Nat) (S : σ → St At) (X Y : ρ → St At) (R : St At → Option (Res At)) (K : Xit → St At → Option (Res At)) (e : Nx σ ρ) : Option (Res At) := match e with
  | .go s => R (S s) | .ex x => K (.ex id) (X x) | .ret x => K .ret (Y x) | .no => none
theorem Nx.k_ite {σ ρ : Type} {id : Nat} {S : σ → St At} {X Y : ρ → St At} {R : St At → Option (Res At)} {K : Xit → St At → Option (Res At)} {c : Prop} [Decidable c] {a b : Nx σ ρ} : Nx.k id S X Y R K (if c then a else b) = if c then Nx.k id S X Y R K a else Nx.k id S X Y R K b := by
  by_cases h : c
  · rw [if_pos h, if_pos h]
  · rw [if_neg h, if_neg h]
theorem loop_iter {C : Cfg} {f r id : Nat} {σ ρ : Type} {S : σ → St At} {X Y : ρ → St At} {step : σ → Nx σ ρ} (hl : (mkE C).lp f (firstRegion (codeAt f r)) = none)
    (hs : ∀ s m R K, B C f r (m + 60) (S s) R K = (step s).k id S X Y R K) (hh : ∀ s, headV (mkE C) f (codeAt f r) (S s) = S s) (K : Xit → St At → Option (Res At)) :
    ∀ (k : Nat) (s : σ) (e : Fx ρ), iter step k s = some e → L C f r (k + 61) (S s) K = e.k id X Y K
  | 0, s, e, h => by
    rw [show (0 + 61 : Nat) = (0 + 60) + 1 from rfl, L_succ hl (hh s), hs]
    rw [iter] at h
    split at h
    · rename_i x hx; rw [hx]; obtain rfl := Option.some.inj h; rfl
    · rename_i x hx; rw [hx]; obtain rfl := Option.some.inj h; rfl
    · cases h
  | k + 1, s, e, h => by
    rw [show k + 1 + 61 = ((k + 1) + 60) + 1 by omega, L_succ hl (hh s), hs]
    rw [iter] at h
    split at h
    · rename_i s' hx; rw [hx]
      show L C f r (k + 1 + 60) (S s') K = _
      rw [show k + 1 + 60 = k + 61 by omega]
      exact loop_iter hl hs hh K k s' e h
    · rename_i x hx; rw [hx]; obtain rfl := Option.some.inj h; rfl
    · rename_i x hx; rw [hx]; obtain rfl := Option.some.inj h; rfl
    · cases h
theorem okl_iter {C : Cfg} (h : CfgOK C) {f r id : Nat} {σ ρ : Type} {S : σ → St At} {X Y : ρ → St At} {step : σ → Nx σ ρ} (hu : cntL r (loopsIn (codeOf f)) = 1) (hl : (mkE C).lp f (firstRegion (codeAt f r)) = none)
    (hs : ∀ s m R K, B C f r (m + 60) (S s) R K = (step s).k id S X Y R K) (hh : ∀ s, headV (mkE C) f (codeAt f r) (S s) = S s) {g : LP}
    (hg : ∀ st K q, g st K = some q → ∃ s k e, st = S s ∧ iter step k s = some e ∧ e.k id X Y K = some q) : OKL f r g := okl_run h hu fun st K q h => by
  obtain ⟨s, k, e, rfl, h1, h2⟩ := hg st K q h
  exact ⟨k + 61, (loop_iter hl hs hh K k s e h1).trans h2⟩
theorem iter_fold {σ ρ α β : Type} {step : σ → Nx σ ρ} (l : List α) (S : β → Nat → σ) (f : β → α → β) (x : β → ρ) (I : β → Nat → Prop) (hgo : ∀ b j (h : j < l.length), I b j → step (S b j) = .go (S (f b l[j]) (j + 1)) ∧ I (f b l[j]) (j + 1)) (hex : ∀ b, I b l.length → step (S b l.length) = .ex (x b)) :
    ∀ (m j : Nat) (b : β), j + m = l.length → I b j → iter step m (S b j) = some (.ex (x ((l.drop j).foldl f b)))
  | 0, j, b, hj, hi => by
    obtain rfl : j = l.length := by omega
    rw [List.drop_length]
    exact iter_ex (hex b hi) 0
  | m + 1, j, b, hj, hi => by
    have h : j < l.length := by omega
    obtain ⟨h1, h2⟩ := hgo b j h hi
    rw [iter_go h1, List.drop_eq_getElem_cons h]
    exact iter_fold l S f x I hgo hex m (j + 1) _ (by omega) h2
def scanL {α β γ : Type} (f : β → α → β ⊕ γ) : β → List α → β ⊕ γ
  | b, [] => .inl b
  | b, a :: l => (match f b a with | .inl b' => scanL f b' l | .inr y => .inr y)
theorem iter_scan {σ ρ α β γ : Type} {step : σ → Nx σ ρ} (l : List α) (S : β → Nat → σ) (f : β → α → β ⊕ γ) (x : β → ρ) (r : γ → ρ) (I : β → Nat → Prop)
    (hgo : ∀ b j (h : j < l.length), I b j → (∀ b', f b l[j] = .inl b' → step (S b j) = .go (S b' (j + 1)) ∧ I b' (j + 1)) ∧ (∀ y, f b l[j] = .inr y → step (S b j) = .ret (r y))) (hex : ∀ b, I b l.length → step (S b l.length) = .ex (x b)) :
    ∀ (m j : Nat) (b : β), j + m = l.length → I b j → iter step m (S b j) = some (match scanL f b (l.drop j) with | .inl b => .ex (x b) | .inr y => .ret (r y))
  | 0, j, b, hj, hi => by
    obtain rfl : j = l.length := by omega
    rw [List.drop_length]
    exact iter_ex (hex b hi) 0
  | m + 1, j, b, hj, hi => by
    have h : j < l.length := by omega
    obtain ⟨h1, h2⟩ := hgo b j h hi
    rw [List.drop_eq_getElem_cons h]
    unfold scanL
    cases hf : f b l[j] with
    | inl b' =>
      obtain ⟨h3, h4⟩ := h1 b' hf
      rw [iter_go h3]
      exact iter_scan l S f x r I hgo hex m (j + 1) _ (by omega) h4
    | inr y => exact iter_ret (h2 y hf) _
def scanO {α β γ : Type} (f : β → α → Option (β ⊕ γ)) : β → List α → Option (β ⊕ γ)
  | b, [] => some (.inl b)
  | b, a :: l => (match f b a with | some (.inl b') => scanO f b' l | some (.inr y) => some (.inr y) | none => none)
def nxO {σ β γ : Type} (S : β → σ) (o : Option (β ⊕ γ)) : Nx σ γ := match o with | some (.inl b) => .go (S b) | some (.inr y) => .ret y | none => .no
theorem nxO_ite {σ β γ : Type} {S : β → σ} {c : Prop} [Decidable c] {a b : Option (β ⊕ γ)} : nxO S (if c then a else b) = if c then nxO S a else nxO S b := by
  by_cases h : c
  · rw [if_pos h, if_pos h]
  · rw [if_neg h, if_neg h]
def isLO {β γ : Type} (o : Option (β ⊕ γ)) : Bool := match o with | some (.inl _) => true | _ => false
def getLO {β γ : Type} (d : β) (o : Option (β ⊕ γ)) : β := match o with | some (.inl b) => b | _ => d
def getRO {β γ : Type} (d : γ) (o : Option (β ⊕ γ)) : γ := match o with | some (.inr y) => y | _ => d
def isOO {α : Type} (o : Option α) : Bool := match o with | some _ => true | none => false
def fxO {β γ : Type} (x : β → γ) (db : β) (dy : γ) (o : Option (β ⊕ γ)) : Fx γ := if isLO o = true then .ex (x (getLO db o)) else .ret (getRO dy o)
theorem iter_scanO {σ α β γ : Type} {step : σ → Nx σ γ} (l : List α) (S : β → Nat → σ) (f : β → α → Option (β ⊕ γ)) (x : β → γ) (db : β) (dy : γ)
    (hgo : ∀ b j (h : j < l.length), step (S b j) = nxO (fun b' => S b' (j + 1)) (f b l[j])) (hex : ∀ b, step (S b l.length) = .ex (x b)) :
    ∀ (m j : Nat) (b : β), j + m = l.length → isOO (scanO f b (l.drop j)) = true → iter step m (S b j) = some (fxO x db dy (scanO f b (l.drop j)))
  | 0, j, b, hj, _ => by
    obtain rfl : j = l.length := by omega
    rw [List.drop_length]
    exact iter_ex (hex b) 0
  | m + 1, j, b, hj, ho => by
    have h : j < l.length := by omega
    have h1 := hgo b j h
    rw [List.drop_eq_getElem_cons h] at ho ⊢
    unfold scanO at ho ⊢
    cases hf : f b l[j] with
    | none => rw [hf] at ho; cases ho
    | some o =>
      rw [hf] at ho h1
      cases o with
      | inl b' =>
        replace h1 : step (S b j) = .go (S b' (j + 1)) := h1
        rw [iter_go h1]
        exact iter_scanO l S f x db dy hgo hex m (j + 1) _ (by omega) ho
      | inr y =>
        replace h1 : step (S b j) = .ret y := h1
        exact iter_ret h1 _
theorem cnt' {j n : Nat} (h : j < n) (hn : n ≤ 9223372036854775807) : IntKind.i64.wrap ((j : Int) + 1) = ((j + 1 : Nat) : Int) := wrap_small (by omega) (by omega)
theorem lt1' {j n : Nat} (h : j < n) : decide ((j : Int) < (n : Int)) = true := by simp; omega
theorem lt2' {j n : Nat} (h : j < n) : (j : Int) < (n : Int) := by omega
theorem lt0' {j : Nat} : 0 ≤ (j : Int) := by omega
theorem lt3' {n : Nat} : ¬ decide ((n : Int) < (n : Int)) = true := by simp
theorem gtj' {α : Type} (d : α) (l : List α) (j : Nat) (h : j < l.length) : gt d l (j : Int).toNat = l[j] := by rw [Int.toNat_natCast, gt_at _ _ _ h]
def mapB (kt vt : Nat) (b : Blk At) : Option (List (At kt × At vt)) := match b with | .map (.ty k v l) false => (if h : k = kt then (if h2 : v = vt then some (h ▸ h2 ▸ l : List (At kt × At vt)) else none) else none) | _ => none
theorem mapB_spec {kt vt : Nat} {b : Blk At} {l : List (At kt × At vt)} (h : mapB kt vt b = some l) : b = .map (.ty kt vt l) false := by
  unfold mapB at h
  split at h
  · split at h
    · rename_i e
      subst e
      split at h
      · rename_i e
        subst e
        obtain rfl := Option.some.inj h
        rfl
      · cases h
    · cases h
  · cases h
def rowB (e : Nat) (b : Blk At) : Option (List (At e)) := match b with | .row e' l false => (if h : e' = e then some (h ▸ l : List (At e)) else none) | _ => none
theorem rowB_spec {e : Nat} {b : Blk At} {l : List (At e)} (h : rowB e b = some l) : b = .row e l false := by
  unfold rowB at h
  split at h
  · split at h
    · rename_i e'
      subst e'
      obtain rfl := Option.some.inj h
      rfl
    · cases h
  · cases h
end
end Go.Proofs.YtpbpebjfglfjfaaGreatDoor.X
/-! slices.Sort and slices.Compact at []string, which write behind their argument: out of the shelf. -/
namespace Go.Proofs.YtpbpebjfglfjfaaGreatDoor.X
open Go Go.Proofs Go.RowKit Go.Proofs.YtpbpebjfglfjfaaGreatDoor Go.Sort
noncomputable section
def toB (l : List ByteArray) : List (List UInt8) := l.map fun s => s.data.toList
def unB (l : List (List UInt8)) : List ByteArray := l.map fun b => ⟨b.toArray⟩
def sortB (l : List ByteArray) : List ByteArray := unB ((toB l).mergeSort fun x y => decide (x ≤ y))
def compB (l : List ByteArray) : List ByteArray := unB (Lib.compact (toB l))
theorem map_enc_unB (l : List (List UInt8)) : l.map encStr = (unB l).map Value.string := by unfold unB; rw [List.map_map]; rfl
theorem map_str_toB (l : List ByteArray) : l.map Value.string = (toB l).map encStr := by unfold toB; rw [List.map_map]; rfl
theorem toB_length (l : List ByteArray) : (toB l).length = l.length := List.length_map ..
theorem unB_length (l : List (List UInt8)) : (unB l).length = l.length := List.length_map ..
theorem heap_turned {w : World} {g o q : Nat} {os : Array Obj} {cur : Array Value} {e : TypeId} {fr : Nat × Nat} (d : Array (List UInt8)) (hb : w.heap[g]? = some (.cells cur e fr)) :
    (grow (putRow encStr (Sort.ahead w q) g o d) os).heap[g]? = some (.cells (putCells encStr o d cur) e fr) := by
  have hg : g < w.heap.size := (Array.getElem?_eq_some_iff.1 hb).1
  rw [heap_grow_old _ _ (by simpa using hg)]
  simp [putRow, mapBlock, Sort.ahead, Array.getElem?_modify, hb, onCells]
theorem grown_turned {w : World} {g o q : Nat} {os : Array Obj} (d : Array (List UInt8)) : w.grownBy (grow (putRow encStr (Sort.ahead w q) g o d) os) (some g) := by
  refine ⟨rfl, rfl, rfl, by simp, fun k hk hne => ?_⟩
  rw [heap_grow_old _ _ (by simpa using hk)]
  have : g ≠ k := fun e => hne (by rw [e])
  simp [putRow, mapBlock, Sort.ahead, Array.getElem?_modify, this]
theorem take_turned (cur : Array Value) (o m : Nat) (d : List (List UInt8)) (h : o + d.length ≤ cur.size) (hm : m ≤ d.length) : ((putCells encStr o d.toArray cur).toList.drop o).take m = (d.take m).map encStr := by
  apply List.ext_getElem?
  intro j
  by_cases hj : j < m
  · rw [List.getElem?_take_of_lt hj, List.getElem?_drop, Array.getElem?_toList]
    have h1 : o + j < cur.size := by omega
    have h2 : o + j < o + d.length := by omega
    have h3 : j < d.length := by omega
    simp [putCells, h1, h3, hj, h2]
  · rw [List.getElem?_take_eq_none (by omega), List.getElem?_eq_none (by simp; omega)]
theorem owns_turned {w : World} {old : Nat → Prop} {e g o cap q m : Nat} {os : Array Obj} {cur : Array Value} (hold : ¬ old g) (hb : w.heap[g]? = some (.cells cur e (0, 0))) (hc : cap ≤ maxLen) (hs : o + cap * 1 ≤ cur.size) (d : List (List UInt8)) (hd : d.length ≤ cap) (hm : m ≤ d.length) :
    ownsR (grow (putRow encStr (Sort.ahead w q) g o d.toArray) os) old e 1 (.slice (some ⟨g, o, none⟩) m cap) m ((d.take m).map encStr) :=
  ⟨by simp; omega, .inr ⟨g, o, cap, _, rfl, hold, heap_turned _ hb, by omega, hc, by simpa [putCells] using hs, by rw [Nat.mul_one]; exact take_turned cur o m d (by omega) hm⟩⟩
theorem holds_owned {w : World} {old : Nat → Prop} {e g o cap : Nat} {cur : Array Value} {l : List (List UInt8)} {xs : List Value} (hb : w.heap[g]? = some (.cells cur e (0, 0))) (hx : xs = l.map encStr) (h : ownsR w old e 1 (.slice (some ⟨g, o, none⟩) l.length cap) l.length xs) : Holds encStr w g o l.toArray := by
  intro j hj
  have hj' : j < l.length := by simpa using hj
  refine ⟨?_, by simp [World.frozen?, hb]⟩
  rw [ownsR.cellAt h j (by omega), hx]
  simp [hj']
theorem bind1 {args : List VT} {i : Nat} {v : VT} (h : bindArgs args 0 = [(i, v)]) : i = 0 ∧ args = [v] := by
  cases args with
  | nil => cases h
  | cons a t =>
    replace h : (0, a) :: bindArgs t 1 = [(i, v)] := h
    cases t with
    | nil => injection h with h1 h2; injection h1 with h3 h4; subst h4; exact ⟨h3.symm, rfl⟩
    | cons b t => injection h with h1 h2; cases h2
theorem strs_cells {W0 : Wd} {okb : Nat → Prop} {μ : Nat → Option Value} {w : World} {l : List ByteArray} {ok : Nat → Prop} (h : BlkRel TT Tryz.prog W0 w μ ok 0 (.row 9 l false)) : ∃ c, μ 0 = some c ∧ ownsR w W0.old 9 1 c l.length (l.map Value.string) := by
  generalize hb : (Blk.row 9 l false : Blk At) = b at h
  cases h with
  | row e l' z c cs hk hm ho hr =>
    cases hb
    refine ⟨c, hm, ?_⟩
    have hz : szT Tryz.prog 9 = 1 := by kernel_rfl
    rw [hz] at ho
    have e1 : cs = l.map Value.string := by
      apply List.ext_getElem
      · rw [ho.1, List.length_map, Nat.mul_one]; exact rfl
      · intro j h1 h2
        have hj : j < l.length := by simpa using h2
        have := hr j l[j] 0 (.str l[j]) (List.getElem?_eq_getElem hj) rfl
        rw [hz, Nat.mul_one, Nat.add_zero, List.getD_eq_getElem?_getD, List.getElem?_eq_getElem h1] at this
        simpa using this.str_inv
    rw [← e1]
    exact ho
theorem blk_strs {W0 : Wd} {μ : Nat → Option Value} {w : World} {i : Nat} {l : List ByteArray} {ok : Nat → Prop} {c : Value} (hm : μ i = some c) (ho : ownsR w W0.old 9 1 c l.length (l.map Value.string)) : BlkRel TT Tryz.prog W0 w μ ok i (.row 9 l false) := by
  have hz : szT Tryz.prog 9 = 1 := by kernel_rfl
  refine .row (T := TT) 9 l false c (l.map Value.string) (by kernel_rfl) hm (by rw [hz]; exact ho) fun j x q v hx hv => ?_
  replace hv : ([.str x] : List VT)[q]? = some v := hv
  cases q with
  | zero =>
    obtain rfl := Option.some.inj hv
    have hj : j < l.length := (List.getElem?_eq_some_iff.1 hx).1
    have e : x = l[j] := by have := List.getElem?_eq_getElem hj; exact Option.some.inj (hx.symm.trans this)
    subst e
    rw [hz, Nat.mul_one, Nat.add_zero, List.getD_eq_getElem?_getD, List.getElem?_map, List.getElem?_eq_getElem hj]
    exact .str _
  | succ q => cases hv
theorem one_row {i j : Nat} {e : Nat} {l : List (At e)} {z : Bool} {b : Blk At} (h : look [(j, Blk.row e l z)] i = some b) : i = j ∧ b = .row e l z := by
  rw [look_cons] at h
  split at h
  · rename_i e0; exact ⟨e0.symm, (Option.some.inj h).symm⟩
  · cases h
theorem retp_same {W0 : Wd} {okb : Nat → Prop} {μ : Nat → Option Value} {w w' : World} {env : List (Nat × VT)} {l l' : List ByteArray} {c : Value} {n : Nat} (H : RelM TT Tryz.prog W0 okb μ { env := env, stk := [], hp := [(0, .row 9 l false)], nx := n } [act0] w) (hb : BelowW W0 w') (hm : μ 0 = some c) (ho : ownsR w' W0.old 9 1 c l'.length (l'.map Value.string)) :
    RetP TT Tryz.prog W0 okb 1 μ (.tup [], [(0, .row 9 l' false)]) (.returned (.tuple #[])) w' :=
  ⟨_, μ, n, rfl, ⟨hb, H.dom, fun i b h => by obtain ⟨rfl, rfl⟩ := one_row h; exact blk_strs hm ho, fun i j b b' c' d k h1 h2 _ _ _ _ => by rw [(one_row h1).1, (one_row h2).1], And.intro ⟨rfl, fun t v h => by cases h⟩ trivial⟩, .tup _ _ rfl fun i v h => (by cases h), fun t b ht h => rfl⟩
theorem retp_new {W0 : Wd} {okb : Nat → Prop} {μ : Nat → Option Value} {w w' : World} {env : List (Nat × VT)} {l l' : List ByteArray} {c : Value} (H : RelM TT Tryz.prog W0 okb μ { env := env, stk := [], hp := [(0, .row 9 l false)], nx := 1 } [act0] w) (hb : BelowW W0 w') (hc : c.oneCell' = true) (ho : ownsR w' W0.old 9 1 c l'.length (l'.map Value.string)) :
    RetP TT Tryz.prog W0 okb 1 μ (.own 1, [(1, .row 9 l' false)]) (.returned c) w' :=
  ⟨_, upd μ 1 c, 2, rfl, ⟨hb, fun i d hd => by
      by_cases e : i = 1
      · subst e; rw [upd_same] at hd; obtain rfl := Option.some.inj hd; exact ⟨Nat.lt_succ_self 1, hc⟩
      · rw [upd_ne _ _ e] at hd; have := H.dom i d hd; exact ⟨Nat.lt_succ_of_lt this.1, this.2⟩,
    fun i b h => by obtain ⟨rfl, rfl⟩ := one_row h; exact blk_strs (upd_same _ _ _) ho, fun i j b b' c' d k h1 h2 _ _ _ _ => by rw [(one_row h1).1, (one_row h2).1], And.intro ⟨rfl, fun t v h => by cases h⟩ trivial⟩, .own 1 c (upd_same _ _ _), fun t b ht h => by obtain ⟨rfl, rfl⟩ := one_row h; omega⟩
def rowS (s : St At) : Option (List ByteArray) := match s with
  | ⟨[(0, .own 0)], [], [(0, b)], 1⟩ => (match rowB 9 b with | some l => some l | none => none)
  | _ => none
theorem rowS_spec {s : St At} {l : List ByteArray} (h : rowS s = some l) : s = ⟨[(0, .own 0)], [], [(0, .row 9 l false)], 1⟩ := by
  unfold rowS at h
  split at h
  · split at h
    · rename_i h1
      obtain rfl := Option.some.inj h
      rw [rowB_spec h1]
    · cases h
  · cases h
def pSort : PCON := fun s => match rowS s with | some l => some (Nat.blt l.length 4611686018427387904, (.tup [], [(0, .row 9 (sortB l) false)])) | none => none
def pComp : PCON := fun s => match rowS s with | some l => some (Nat.ble l.length 9223372036854775807, (.own 1, [(1, .row 9 (compB l) false)])) | none => none
theorem own_arg {W : World} {μ : Nat → Option Value} {ok : Nat → Prop} {i : Nat} {x c : Value} (hx : Rep TT Tryz.prog W μ ok (.own i) x) (hm : μ i = some c) : x = c := by
  cases hx with
  | own j c' h => exact Option.some.inj (h.symm.trans hm)
theorem st_inv {env : List (Nat × VT)} {hp : List (Nat × Blk At)} {n : Nat} {s : St At} (h : ({ env := env, stk := [], hp := hp, nx := n } : St At) = s) : env = s.env ∧ hp = s.hp ∧ n = s.nx := by subst h; exact ⟨rfl, rfl, rfl⟩
theorem okSort : OKP 134 pSort := by
  refine ⟨entB_spec (by kernel_rfl), fun W0 okb μ args hp n cs w r hGD H hl hargs h => ?_⟩
  replace h := conO_some h
  unfold pSort at h
  split at h
  · rename_i l hs
    obtain ⟨h1, h2, h3⟩ := st_inv (rowS_spec hs)
    dsimp only at h1 h2 h3
    obtain ⟨_, rfl⟩ := bind1 h1
    subst h2; subst h3
    obtain ⟨hlt, rfl⟩ := some_pair h
    obtain ⟨x, rfl, hx⟩ := args1 hl hargs rfl
    obtain ⟨c, hm, ho⟩ := strs_cells (H.blk 0 _ rfl) (okb := okb)
    have e : x = c := own_arg hx hm
    subst e
    have hlen : l.length < 4611686018427387904 := Nat.le_of_ble_eq_true hlt
    rcases ho.2 with ⟨rfl, h0⟩ | ⟨g, o, cap, cur, rfl, hB, hh, h5, h6, h7, h8⟩
    · obtain rfl : l = [] := List.eq_nil_of_length_eq_zero h0
      refine (Tryz.slices_Sort_string_none none 0 w).mono ?_
      rintro e w' ⟨rfl, rfl⟩
      have e0 : sortB [] = [] := by unfold sortB toB unB; simp
      rw [e0]
      exact retp_same (l' := []) H H.below hm ho
    · have hH := holds_owned (l := toB l) hh (map_str_toB l) (by rw [toB_length]; exact ho)
      have hc := Tryz.slices_Sort_string g o cap (toB l) w hH (Array.getElem?_eq_some_iff.1 hh).1 (by rw [toB_length]; exact hlen)
      rw [toB_length] at hc
      refine hc.mono ?_
      rintro e w' ⟨rfl, q, os, rfl⟩
      refine retp_same H (H.below.grown (grown_turned _) fun k hk => by obtain rfl := Option.some.inj hk; exact hB) hm ?_
      have := owns_turned (q := q) (os := os) (m := l.length) hB hh h6 h7 ((toB l).mergeSort fun x y => decide (x ≤ y)) (by rw [List.length_mergeSort, toB_length]; exact h5) (by rw [List.length_mergeSort, toB_length]; exact Nat.le_refl _)
      rw [List.take_of_length_le (by rw [List.length_mergeSort, toB_length]; exact Nat.le_refl _), map_enc_unB] at this
      have e : (sortB l).length = l.length := by unfold sortB; rw [unB_length, List.length_mergeSort, toB_length]
      rw [e]
      exact this
  · cases h
theorem compact_le (l : List (List UInt8)) : (Lib.compact l).length ≤ l.length := by
  unfold Lib.compact Lib.compactUpTo
  rw [List.length_map]
  exact Nat.le_trans (List.length_filter_le _ _) (by simp)
theorem okComp : OKP 135 pComp := by
  refine ⟨entB_spec (by kernel_rfl), fun W0 okb μ args hp n cs w r hGD H hl hargs h => ?_⟩
  replace h := conO_some h
  unfold pComp at h
  split at h
  · rename_i l hs
    obtain ⟨h1, h2, h3⟩ := st_inv (rowS_spec hs)
    dsimp only at h1 h2 h3
    obtain ⟨_, rfl⟩ := bind1 h1
    subst h2; subst h3
    obtain ⟨hlt, rfl⟩ := some_pair h
    obtain ⟨x, rfl, hx⟩ := args1 hl hargs rfl
    obtain ⟨c, hm, ho⟩ := strs_cells (H.blk 0 _ rfl) (okb := okb)
    have e : x = c := own_arg hx hm
    subst e
    have hlen : l.length ≤ 9223372036854775807 := Nat.le_of_ble_eq_true hlt
    rcases ho.2 with ⟨rfl, h0⟩ | ⟨g, o, cap, cur, rfl, hB, hh, h5, h6, h7, h8⟩
    · obtain rfl : l = [] := List.eq_nil_of_length_eq_zero h0
      refine (Tryz.slices_Compact_string_empty none 0 w).mono ?_
      rintro e w' ⟨rfl, rfl⟩
      exact retp_new (l' := []) H H.below rfl ho
    · have hH := holds_owned (l := toB l) hh (map_str_toB l) (by rw [toB_length]; exact ho)
      have hc := Tryz.slices_Compact_string g o cap (toB l) w hH (by rw [toB_length]; exact hlen) (by rw [toB_length]; exact h5)
      rw [toB_length] at hc
      refine hc.mono ?_
      rintro e w' ⟨rfl, q, rfl⟩
      have hle := compact_le (toB l)
      rw [toB_length] at hle
      have hg := grown_turned (w := w) (g := g) (o := o) (q := q) (os := #[]) (Lib.compact (toB l) ++ List.replicate (l.length - (Lib.compact (toB l)).length) []).toArray
      rw [grow_empty] at hg
      have e : (compB l).length = (Lib.compact (toB l)).length := unB_length _
      refine retp_new H (H.below.grown hg fun k hk => by obtain rfl := Option.some.inj hk; exact hB) rfl ?_
      have := owns_turned (q := q) (os := #[]) (m := (Lib.compact (toB l)).length) hB hh h6 h7 (Lib.compact (toB l) ++ List.replicate (l.length - (Lib.compact (toB l)).length) []) (by simp; omega) (by simp)
      rw [grow_empty, List.take_left, map_enc_unB, ← e] at this
      rw [e] at this ⊢
      exact this
  · cases h
end
end Go.Proofs.YtpbpebjfglfjfaaGreatDoor.X
/-! Inputs, of the program and of the reference: at every name and number. -/
namespace Go.Proofs.YtpbpebjfglfjfaaGreatDoor.X
open Go Go.Proofs Go.RowKit Go.Proofs.YtpbpebjfglfjfaaGreatDoor
noncomputable section
theorem run_clone159 (a : GPort) (l : List GPort) : runF C0 60 120 [.ro 159 (a :: l)] = if ([] : List GPort).length + (a :: l).length < 16777216 then some ((.own 0), [(0, (.row 159 (a :: l) false))]) else none := by kernel_rfl
def cons1 (l : List GPort) : Bool := match l with | [] => false | _ :: l => Nat.blt (l.length + 1) 16777216
def conClone159 : CON := fun l => match l with | [x] => (match roV 159 x with | some l => some (cons1 l, (.own 0, [(0, .row 159 l false)])) | none => none) | _ => none
theorem okClone159 : OK 120 conClone159 := ok_run C0_ok (by kernel_rfl) fun l r h => by
  unfold conClone159 at h
  split at h
  · split at h
    · rename_i l' hl
      obtain ⟨hc, rfl⟩ := some_pair h
      rw [roV_spec hl]
      cases l' with
      | nil => cases hc
      | cons a l' =>
        have : l'.length + 1 < 16777216 := Nat.le_of_ble_eq_true hc
        exact ⟨60, (run_clone159 a l').trans (if_pos (show (0 : Nat) + (l'.length + 1) < 16777216 by omega))⟩
    · cases h
  · cases h
def lastP (d : GDescriptor) (n : Int) : GPort := gt gp0 d.inputs (IntKind.wrap .i64 (n - 1)).toNat
def st14 {α : Type} (d : GDescriptor) (c n : Int) (l : List GPort) (go : List GPort → α) (ex : List GPort → α) (no : α) : α :=
  if decide ((l.length : Int) < c) = true then
   if 0 ≤ IntKind.i64.wrap (n - 1) then
    if IntKind.i64.wrap (n - 1) < (d.inputs.length : Int) then
     if l.length + [lastP d n].length < 16777216 then go (l ++ [lastP d n]) else no
    else no
   else no
  else ex l
abbrev S14t := GDescriptor × Int × Int × List GPort
def step14 (s : S14t) : Nx S14t (List GPort) := st14 s.1 s.2.1 s.2.2.1 s.2.2.2 (fun l => .go (s.1, s.2.1, s.2.2.1, l)) .ex .no
def more14 (d : GDescriptor) (c : Int) (l : List GPort) : List GPort := l ++ List.replicate (c - (l.length : Int)).toNat (lastP d (d.inputs.length : Int))
theorem iter14 (d : GDescriptor) (c : Int) (h1 : 1 ≤ d.inputs.length) (h2 : d.inputs.length ≤ 9223372036854775807) (hc : c < 16777216) : ∀ (k : Nat) (l : List GPort), (c - (l.length : Int)).toNat = k → iter step14 k (d, c, (d.inputs.length : Int), l) = some (.ex (more14 d c l))
  | 0, l, hk => by
    refine iter_ex ?_ 0
    unfold step14 st14 more14
    rw [if_neg (by simp; omega), hk]
    simp
  | k + 1, l, hk => by
    have hw : IntKind.wrap .i64 ((d.inputs.length : Int) - 1) = (d.inputs.length : Int) - 1 := wrap_small (by omega) (by omega)
    have hs : step14 (d, c, (d.inputs.length : Int), l) = .go (d, c, (d.inputs.length : Int), l ++ [lastP d (d.inputs.length : Int)]) := by
      unfold step14 st14
      dsimp only
      rw [hw, if_pos (by simp; omega), if_pos (by omega), if_pos (by omega), if_pos (by simp; omega)]
    rw [iter_go hs, iter14 d c h1 h2 hc k _ (by simp; omega)]
    unfold more14
    rw [hk, List.replicate_succ, show (c - ((l ++ [lastP d (d.inputs.length : Int)]).length : Int)).toNat = k by simp; omega]
    simp
def u14 (st : St At) : Option S14t := match st with
  | ⟨[(1, .int .i64 c), (6, .ptr 0 0), (8, .int .i64 n), (9, .own 1)], [], [(0, .var x false), (1, b)], 2⟩ => (match exD x, rowB 159 b with | some d, some l => some (d, c, n, l) | _, _ => none)
  | _ => none
def S14 (s : S14t) : St At := { env := [(1, .int .i64 s.2.1), (6, .ptr 0 0), (8, .int .i64 s.2.2.1), (9, .own 1)], stk := [], hp := [(0, .var (enc150 s.1) false), (1, .row 159 s.2.2.2 false)], nx := 2 }
def X14 (l : List GPort) : St At := { env := [(9, .own 0)], stk := [], hp := [(0, .row 159 l false)], nx := 1 }
theorem u14_spec {st : St At} {s : S14t} (h : u14 st = some s) : st = S14 s := by
  unfold u14 at h
  split at h
  · split at h
    · rename_i hx hb
      obtain rfl := Option.some.inj h
      rw [exD_spec hx, rowB_spec hb]
      rfl
    · cases h
  · cases h
def ok14 (s : S14t) : Bool := decide (s.2.2.1 = (s.1.inputs.length : Int)) && Nat.blt 0 s.1.inputs.length && Nat.ble s.1.inputs.length 9223372036854775807 && decide (s.2.1 < 16777216)
def g14 : LP := fun st K => match u14 st with | some s => if ok14 s = true then K (.ex 0) (X14 (more14 s.1 s.2.1 s.2.2.2)) else none | none => none
theorem g14_spec {st : St At} {K : Xit → St At → Option (Res At)} {q : Res At} (h : g14 st K = some q) : ∃ s k e, st = S14 s ∧ iter step14 k s = some e ∧ e.k 0 X14 X14 K = some q := by
  unfold g14 at h
  split at h
  · rename_i s hu
    split at h
    · rename_i hc
      unfold ok14 at hc
      simp only [Bool.and_eq_true, decide_eq_true_eq] at hc
      obtain ⟨⟨⟨h1, h2⟩, h3⟩, h4⟩ := hc
      obtain ⟨d, c, n, l⟩ := s
      dsimp only at h1 h2 h3 h4 h
      subst h1
      exact ⟨_, _, _, u14_spec hu, iter14 d c (Nat.le_of_ble_eq_true h2) (Nat.le_of_ble_eq_true h3) h4 _ l rfl, h⟩
    · cases h
  · cases h
def C14 : Cfg := { cs := (120, conClone159) :: lib2, ks := [((59, 8), [(1, none), (6, none), (8, none), (9, some 159)])], xs := [((59, 8), [(9, none)])] }
theorem C14_ok : CfgOK C14 := { con := .cons okClone159 lib2_ok }
theorem B14 (s : S14t) (m : Nat) (R : St At → Option (Res At)) (K : Xit → St At → Option (Res At)) : B C14 59 8 (m + 60) (S14 s) R K = st14 s.1 s.2.1 s.2.2.1 s.2.2.2 (fun l => R (S14 (s.1, s.2.1, s.2.2.1, l))) (fun l => K (.ex 0) (X14 l)) none := by kernel_rfl
theorem okg14 : OKL 59 8 g14 := okl_iter C14_ok (S := S14) (X := X14) (Y := X14) (step := step14) (id := 0) (by kernel_rfl) (by kernel_rfl)
  (fun s m R K => by rw [B14]; unfold step14 st14; (repeat' split) <;> rfl) (fun s => by kernel_rfl) fun st K q h => g14_spec h
def C14' : Cfg := { cs := C14.cs, ks := C14.ks, xs := C14.xs, lps := [((59, 8), g14)] }
theorem C14'_ok : CfgOK C14' := { con := C14_ok.con, lp := .cons okg14 .nil }
def C15 : Cfg := { cs := lib2, ks := [((66, 8), [(1, none), (6, none), (8, none), (9, some 159)])], xs := [((66, 8), [(9, none)])] }
theorem C15_ok : CfgOK C15 := { con := lib2_ok }
theorem B15 (s : S14t) (m : Nat) (R : St At → Option (Res At)) (K : Xit → St At → Option (Res At)) : B C15 66 8 (m + 60) (S14 s) R K = st14 s.1 s.2.1 s.2.2.1 s.2.2.2 (fun l => R (S14 (s.1, s.2.1, s.2.2.1, l))) (fun l => K (.ex 0) (X14 l)) none := by kernel_rfl
theorem okg15 : OKL 66 8 g14 := okl_iter C15_ok (S := S14) (X := X14) (Y := X14) (step := step14) (id := 0) (by kernel_rfl) (by kernel_rfl)
  (fun s m R K => by rw [B15]; unfold step14 st14; (repeat' split) <;> rfl) (fun s => by kernel_rfl) fun st K q h => g14_spec h
def C15' : Cfg := { cs := C15.cs, ks := C15.ks, xs := C15.xs, lps := [((66, 8), g14)] }
theorem C15'_ok : CfgOK C15' := { con := C15_ok.con, lp := .cons okg15 .nil }
end
end Go.Proofs.YtpbpebjfglfjfaaGreatDoor.X
/-! Inputs: contracts, and BlockInputs. -/
namespace Go.Proofs.YtpbpebjfglfjfaaGreatDoor.X
open Go Go.Proofs Go.RowKit Go.Proofs.YtpbpebjfglfjfaaGreatDoor
noncomputable section
def goodD (d : GDescriptor) : Bool := Nat.blt 0 d.inputs.length && Nat.ble d.inputs.length 3 && decide (1 ≤ d.most) && decide (d.most ≤ 7) && Nat.ble d.params.length 5
theorem lib_good : libL.all goodD = true := by kernel_rfl
theorem findD_mem {n : ByteArray} : ∀ {l : List GDescriptor} {d : GDescriptor}, findD n l = some d → d ∈ l
  | [], d, h => by cases h
  | x :: l, d, h => by
    replace h : (if eqB x.name n = true then some x else findD n l) = some d := h
    split at h
    · obtain rfl := Option.some.inj h; exact List.mem_cons_self ..
    · exact List.mem_cons_of_mem _ (findD_mem h)
theorem find_good {n : ByteArray} {d : GDescriptor} (h : findD n libL = some d) : 1 ≤ d.inputs.length ∧ d.inputs.length ≤ 3 ∧ 1 ≤ d.most ∧ d.most ≤ 7 ∧ d.params.length ≤ 5 := by
  have h1 := List.all_eq_true.1 lib_good d (findD_mem h)
  unfold goodD at h1
  simp only [Bool.and_eq_true, decide_eq_true_eq] at h1
  exact ⟨Nat.le_of_ble_eq_true h1.1.1.1.1, Nat.le_of_ble_eq_true h1.1.1.1.2, h1.1.1.2, h1.1.2, Nat.le_of_ble_eq_true h1.2⟩
def inpD (d : GDescriptor) (c : Int) : List GPort × Int := if c < (d.inputs.length : Int) then ([], 1) else if c > (d.inputs.length : Int) + d.most - 1 then ([], 1) else (more14 d c d.inputs, 0)
def inpR (o : Option GDescriptor) (c : Int) : List GPort × Int := match o with | none => ([], 3) | some d => inpD d c
def inpV (p : List GPort × Int) : Res At := (.tup [.ro 159 p.1, .int .i64 p.2], [])
def crP (z : Option (Res At)) : Option (Res At) := coRes TT [some 159] (shutRes z)
def inpF (z : Option (Res At)) (x : Bool) (y : Bool) (v : List GPort) (d : GDescriptor) (c : Int) : Option (Res At) :=
  if decide (c < (d.inputs.length : Int)) = false then
   if decide (c > IntKind.i64.wrap (IntKind.i64.wrap ((d.inputs.length : Int) + d.most) - 1)) = true then z
   else
    if x = true then
     if y = true then some ((.tup [(.own 0), (.int .i64 0)]), [(0, (.row 159 v false))]) else none
    else none
  else z
theorem run_inputs (n : ByteArray) (c : Int) : runF C14' 60 59 [.str n, .int .i64 c] = (if (n.size + 1).blt 4611686018427387904 = true then
   if (!decide (erD (findD n libL) = 0)) = true then some ((.tup [.nils, (.int .i64 (erD (findD n libL)))]), [])
   else inpF (some (.tup [.nils, (.int .i64 1)], [])) (cons1 (orD (findD n libL)).inputs) (ok14 (orD (findD n libL), c, ((orD (findD n libL)).inputs.length : Int), (orD (findD n libL)).inputs)) (more14 (orD (findD n libL)) c (orD (findD n libL)).inputs) (orD (findD n libL)) c
  else none : Option (Res At)) := by kernel_rfl
theorem run_inputsR (n : ByteArray) (c : Int) : runF C15' 60 66 [.str n, .int .i64 c] = (
   if (!isD (findD n libL)) = true then some ((.tup [.nils, (.int .i64 3)]), [])
   else inpF (some (.tup [.nils, (.int .i64 1)], [])) (decide (([] : List GPort).length + (orD (findD n libL)).inputs.length < 16777216)) (ok14 (orD (findD n libL), c, ((orD (findD n libL)).inputs.length : Int), [] ++ (orD (findD n libL)).inputs)) (more14 (orD (findD n libL)) c ([] ++ (orD (findD n libL)).inputs)) (orD (findD n libL)) c : Option (Res At)) := by
  show _ = (if (!isD (findD n libL)) = true then some ((.tup [.nils, (.int .i64 3)]), []) else
    (if decide (c < ((orD (findD n libL)).inputs.length : Int)) = false then
     if decide (c > IntKind.i64.wrap (IntKind.i64.wrap (((orD (findD n libL)).inputs.length : Int) + (orD (findD n libL)).most) - 1)) = true then (some (.tup [.nils, (.int .i64 1)], []))
     else
      if decide (([] : List GPort).length + (orD (findD n libL)).inputs.length < 16777216) = true then
       if (ok14 (orD (findD n libL), c, ((orD (findD n libL)).inputs.length : Int), [] ++ (orD (findD n libL)).inputs)) = true then some ((.tup [(.own 0), (.int .i64 0)]), [(0, (.row 159 (more14 (orD (findD n libL)) c ([] ++ (orD (findD n libL)).inputs)) false))]) else none
      else none
    else (some (.tup [.nils, (.int .i64 1)], []))) : Option (Res At))
  have h : runF C15' 60 66 [.str n, .int .i64 c] = (if (!isD (findD n libL)) = true then some ((.tup [.nils, (.int .i64 3)]), []) else
    (if decide (c < ((orD (findD n libL)).inputs.length : Int)) = false then
     if decide (c > IntKind.i64.wrap (IntKind.i64.wrap (((orD (findD n libL)).inputs.length : Int) + (orD (findD n libL)).most) - 1)) = true then (some (.tup [.nils, (.int .i64 1)], []))
     else
      if ([] : List GPort).length + (orD (findD n libL)).inputs.length < 16777216 then
       if (ok14 (orD (findD n libL), c, ((orD (findD n libL)).inputs.length : Int), [] ++ (orD (findD n libL)).inputs)) = true then some ((.tup [(.own 0), (.int .i64 0)]), [(0, (.row 159 (more14 (orD (findD n libL)) c ([] ++ (orD (findD n libL)).inputs)) false))]) else none
      else none
    else (some (.tup [.nils, (.int .i64 1)], []))) : Option (Res At)) := by kernel_rfl
  rw [h]
  simp only [decide_eq_true_eq]
theorem inpF_eq {n : ByteArray} {d : GDescriptor} (hd : findD n libL = some d) (x y : Bool) (v : List GPort) (c : Int) (hx : x = true) (hy : c < 16777216 → y = true) (hv : v = more14 d c d.inputs) : crP (inpF (some (.tup [.nils, (.int .i64 1)], [])) x y v d c) = some (inpV (inpD d c)) := by
  obtain ⟨h1, h2, h3, h4, _⟩ := find_good hd
  have hw : IntKind.i64.wrap (IntKind.i64.wrap ((d.inputs.length : Int) + d.most) - 1) = (d.inputs.length : Int) + d.most - 1 := by
    rw [wrap_small (i := (d.inputs.length : Int) + d.most) (by omega) (by omega), wrap_small (by omega) (by omega)]
  unfold inpF inpD
  rw [hw, hx]
  by_cases hc : c < (d.inputs.length : Int)
  · rw [if_pos hc, if_neg (by simp [hc])]; rfl
  · rw [if_neg hc, if_pos (by simp [hc])]
    by_cases hm : c > (d.inputs.length : Int) + d.most - 1
    · rw [if_pos hm, if_pos (by simp only [decide_eq_true_eq]; omega)]; rfl
    · rw [if_neg hm, if_neg (by simp only [decide_eq_true_eq]; omega), if_pos rfl, if_pos (hy (by omega)), hv]
      rfl
theorem ok14_of {n : ByteArray} {d : GDescriptor} (hd : findD n libL = some d) (c : Int) (l : List GPort) (h : c < 16777216) : ok14 (d, c, (d.inputs.length : Int), l) = true := by
  obtain ⟨h1, h2, h3, h4, _⟩ := find_good hd
  unfold ok14
  simp only [Bool.and_eq_true, decide_eq_true_eq]
  exact ⟨⟨⟨trivial, Nat.ble_eq_true_of_le h1⟩, Nat.ble_eq_true_of_le (by omega)⟩, h⟩
theorem cons1_of {n : ByteArray} {d : GDescriptor} (hd : findD n libL = some d) : cons1 d.inputs = true := by
  obtain ⟨h1, h2, _⟩ := find_good hd
  cases hl : d.inputs with
  | nil => rw [hl] at h1; cases h1
  | cons x l => rw [hl] at h2; exact Nat.ble_eq_true_of_le (by simp at h2; omega)
theorem inputs_eq (n : ByteArray) (hn : (n.size + 1).blt 4611686018427387904 = true) (c : Int) : crP (runF C14' 60 59 [.str n, .int .i64 c]) = some (inpV (inpR (findD n libL) c)) := by
  rw [run_inputs, if_pos hn]
  cases ho : findD n libL with
  | none => rfl
  | some d =>
    show crP (inpF _ (cons1 d.inputs) (ok14 (d, c, (d.inputs.length : Int), d.inputs)) (more14 d c d.inputs) d c) = some (inpV (inpD d c))
    exact inpF_eq ho _ _ _ c (cons1_of ho) (ok14_of ho c _) rfl
theorem inputsR_eq (n : ByteArray) (c : Int) : crP (runF C15' 60 66 [.str n, .int .i64 c]) = some (inpV (inpR (findD n libL) c)) := by
  rw [run_inputsR]
  cases ho : findD n libL with
  | none => rfl
  | some d =>
    show crP (inpF _ (decide (0 + d.inputs.length < 16777216)) (ok14 (d, c, (d.inputs.length : Int), d.inputs)) (more14 d c d.inputs) d c) = some (inpV (inpD d c))
    obtain ⟨h1, h2, _⟩ := find_good ho
    exact inpF_eq ho _ _ _ c (by simp; omega) (ok14_of ho c _) rfl
def onSI {R : Type} (F : ByteArray → Int → Option R) (l : List VT) : Option R := match l with | [.str a, .int .i64 b] => F a b | _ => none
theorem onSI_spec {R : Type} {F : ByteArray → Int → Option R} {l : List VT} {r : R} (h : onSI F l = some r) : ∃ a b, l = [.str a, .int .i64 b] ∧ F a b = some r := by
  unfold onSI at h
  split at h
  · exact ⟨_, _, rfl, h⟩
  · cases h
def conInputs : CON := onSI fun n c => some ((n.size + 1).blt 4611686018427387904, inpV (inpR (findD n libL) c))
theorem okInputs : OK 59 conInputs := by
  refine ok_co (E := mkE C14') TT_ok (body_ok (E := mkE C14') (good C14'_ok) (f := 59) (fn := (bodyT 59).getD default) (c := codeOf 59) (by rfl) (by rfl) 60) [some 159] fun l r h => ?_
  replace h := onSI_spec (conO_some h)
  obtain ⟨a, b, rfl, h⟩ := h
  obtain ⟨hn, rfl⟩ := some_pair h
  exact inputs_eq a hn b
def conInputsR : CON := onSI fun n c => some (true, inpV (inpR (findD n libL) c))
theorem okInputsR : OK 66 conInputsR := by
  refine ok_co (E := mkE C15') TT_ok (body_ok (E := mkE C15') (good C15'_ok) (f := 66) (fn := (bodyT 66).getD default) (c := codeOf 66) (by rfl) (by rfl) 60) [some 159] fun l r h => ?_
  replace h := onSI_spec (conO_some h)
  obtain ⟨a, b, rfl, h⟩ := h
  obtain ⟨_, rfl⟩ := some_pair h
  exact inputsR_eq a b
def lib3 : List (Nat × CON) := (59, conInputs) :: (66, conInputsR) :: lib2
theorem lib3_ok : AllOK lib3 := .cons okInputs (.cons okInputsR lib2_ok)
end
end Go.Proofs.YtpbpebjfglfjfaaGreatDoor.X
