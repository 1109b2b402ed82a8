/-
  Plain laws: a copy of a program is the program.
-/
import Derived.Test.YtpbpebjfglfjfaaGreatDoorXS1
import Derived.Test.YtpbpebjfglfjfaaGreatDoorXUs
import Derived.Test.YtpbpebjfglfjfaaGreatDoorXV
set_option autoImplicit false
set_option linter.unusedVariables false
set_option linter.unusedSimpArgs false
set_option maxRecDepth 100000
namespace Go.Proofs.YtpbpebjfglfjfaaGreatDoor.X
open Go Go.Proofs Go.RowKit Go.Proofs.YtpbpebjfglfjfaaGreatDoor
noncomputable section
theorem set_self {α : Type} (l : List α) (i : Nat) (h : i < l.length) : l.set i l[i] = l := List.set_getElem_self h
theorem blt_t {a b : Nat} (h : a < b) : Nat.blt a b = true := Nat.ble_eq_true_of_le h
theorem cp3 (p : GProgram) (h : SmallP p) : iCp3 { x1 := p, x14 := (↑p.nodes.length : Int), x15 := 0 : KCp3 } = some (.inl ⟨p⟩) := by
  have := iter2_any (ρ := Q_Cp3) p.nodes.length (fun j => (⟨p, (j : Int)⟩ : B_Cp3)) (⟨p⟩ : P_Cp3) ⟨p⟩ (fun _ => false) (sCp3 { x1 := p, x14 := (↑p.nodes.length : Int), x15 := 0 : KCp3 }) (fun j hj => by
    have a1 : (0 : Int) ≤ (j : Int) := by omega
    have a2 : (j : Int) < (p.nodes.length : Int) := by omega
    have hg : ∀ d, gt d p.nodes (j : Int).toNat = p.nodes[j] := fun d => gtj' d _ _ hj
    have hs : p.nodes.set (j : Int).toNat p.nodes[j] = p.nodes := set_self _ _ hj
    have hp : (p.nodes[j]).params.length.blt 16777216 = true := blt_t (by have := h.pa _ (List.getElem_mem hj); omega)
    have hi : (p.nodes[j]).inputs.length.blt 16777216 = true := blt_t (by have := h.inp _ (List.getElem_mem hj); omega)
    unfold sCp3 stCp3 putCp3
    dsimp only
    simp only [hg, hs]
    rw [if_pos (lt1' hj), cnt' hj h.nl]
    simp only [if_pos a1, if_pos a2, if_pos hp, if_pos hi]
    rw [if_neg (by simp)]) (fun j hj => by
    unfold sCp3 stCp3 putCp3
    dsimp only
    rw [ltno hj, if_neg (by simp)]) p.nodes.length 0 (by omega)
  rw [if_neg (by simp)] at this
  exact this
theorem cp_run (p : GProgram) (h : SmallP p) : crR [some 31] (RCp p) = some (.agg (enc31 p), []) := by
  have h1 : p.nodes.length.blt 16777216 = true := blt_t (by have := h.nd; omega)
  have h2 : p.drives.length.blt 16777216 = true := blt_t (by have := h.nd; omega)
  have o3 : okCp3 { x1 := p, x14 := (↑p.nodes.length : Int), x15 := 0 : KCp3 } = true := by unfold okCp3; rw [cp3 p h]; rfl
  unfold RCp
  rw [if_pos h1, if_pos h2, if_pos o3, cp3 p h, if_pos (isLO_inl _)]
  rfl
theorem cp_eq (p : GProgram) (h : SmallP p) : cCp p = true ∧ vCp p = p := by
  unfold cCp vCp oCp; rw [cp_run p h]; exact ⟨rfl, rfl⟩
theorem us4 (p : GProgram) (h : SmallP p) : oUs4 { x1 := p, x3 := 0, x4 := [], x5 := [], x16 := p.drives, x17 := (↑p.drives.length : Int), x18 := 0 : KUs4 } = some (.inl ⟨p.drives.flatMap (fun x => [x.from_])⟩) := by
  have := flat_le (fun x : GDrive => [x.from_]) 1 p.drives fun x _ => by simp
  have hn := h.nd
  exact scan_app (fun b => (⟨b⟩ : B_Us4)) (fun x : GDrive => [x.from_]) _ (fun b x => rfl) p.drives [] (by simp at this ⊢; omega)
end
end Go.Proofs.YtpbpebjfglfjfaaGreatDoor.X
/-! Plain laws: what is used: the least set of nodes that the drives reach. -/
namespace Go.Proofs.YtpbpebjfglfjfaaGreatDoor.X
open Go Go.Proofs Go.RowKit Go.Proofs.YtpbpebjfglfjfaaGreatDoor
noncomputable section
abbrev UM := List (Int × Bool)
def isU (m : UM) (i : Int) : Bool := getO false (mlook3_4 i m)
theorem look_cons34 (t k : Int) (v : Bool) (m : UM) : mlook3_4 t ((k, v) :: m) = (match decide (t = k) with | true => some v | false => mlook3_4 t m) := by kernel_rfl
theorem upd_cons34 (s k : Int) (v w : Bool) (m : UM) : mupd3_4 s v ((k, w) :: m) = (match decide (s = k) with | true => (s, v) :: m | false => (k, w) :: mupd3_4 s v m) := by kernel_rfl
theorem look_nil34 (t : Int) : mlook3_4 t [] = none := rfl
theorem upd_nil34 (s : Int) (v : Bool) : mupd3_4 s v [] = [(s, v)] := rfl
theorem look_upd34 (s t : Int) (v : Bool) : ∀ m : UM, mlook3_4 t (mupd3_4 s v m) = if t = s then some v else mlook3_4 t m
  | [] => by
    rw [upd_nil34, look_cons34, look_nil34]
    by_cases h : t = s
    · rw [if_pos h, decide_eq_true h]
    · rw [if_neg h, decide_eq_false h]
  | (k, w) :: m => by
    rw [upd_cons34]
    by_cases h : s = k
    · subst h
      rw [decide_eq_true rfl]
      dsimp only
      rw [look_cons34, look_cons34]
      by_cases h2 : t = s
      · rw [if_pos h2, decide_eq_true h2]
      · rw [if_neg h2, decide_eq_false h2]
    · rw [decide_eq_false h]
      dsimp only
      rw [look_cons34, look_cons34, look_upd34 s t v m]
      by_cases h2 : t = k
      · rw [decide_eq_true h2]
        dsimp only
        rw [if_neg (fun e => h (e.symm.trans h2))]
      · rw [decide_eq_false h2]
theorem isU_nil (i : Int) : isU [] i = false := rfl
theorem isU_upd (i j : Int) (m : UM) : isU (mupd3_4 i true m) j = if j = i then true else isU m j := by
  unfold isU
  rw [look_upd34]
  by_cases h : j = i
  · rw [if_pos h, if_pos h]; rfl
  · rw [if_neg h, if_neg h]
def idxN (p : GProgram) (s : ByteArray) : Int := idxP (fun x : GNode => eqB x.name s) p.nodes
def Known (p : GProgram) (s : ByteArray) : Prop := s ≠ bE → ∃ x ∈ p.nodes, x.name = s
theorem idxN_known {p : GProgram} {s : ByteArray} (h : ∃ x ∈ p.nodes, x.name = s) : ∃ i, ∃ h : i < p.nodes.length, idxN p s = (i : Int) ∧ (p.nodes[i]).name = s := by
  unfold idxN idxP
  cases hf : p.nodes.findIdx? (fun x : GNode => eqB x.name s) with
  | none =>
    rw [List.findIdx?_eq_none_iff] at hf
    obtain ⟨x, hx, he⟩ := h
    have := hf x hx
    rw [eqB_t.2 he] at this
    cases this
  | some i =>
    obtain ⟨h1, h2, h3⟩ := List.findIdx?_eq_some_iff_getElem.1 hf
    exact ⟨i, h1, rfl, eqB_t.1 h2⟩
def Apart (l : List GNode) : Prop := ∀ i j, (hi : i < l.length) → (hj : j < l.length) → l[i].name = l[j].name → i = j
theorem idxN_at {p : GProgram} (h : Apart p.nodes) (i : Nat) (hi : i < p.nodes.length) : idxN p (p.nodes[i]).name = (i : Int) := by
  obtain ⟨j, hj, h1, h2⟩ := idxN_known (p := p) ⟨_, List.getElem_mem hi, rfl⟩
  rw [h1, h j i hj hi h2]
def sumU (m : UM) : List GNode → Nat → Nat
  | [], _ => 0
  | x :: l, j => (if isU m (j : Int) = true then 0 else x.inputs.length) + sumU m l (j + 1)
theorem sumU_nil : ∀ (l : List GNode) (j : Nat), sumU [] l j = (l.flatMap fun x => x.inputs).length
  | [], _ => rfl
  | x :: l, j => by rw [sumU, sumU_nil l, isU_nil, if_neg (by simp), List.flatMap_cons, List.length_append]
theorem sumU_far (m : UM) (i : Nat) : ∀ (l : List GNode) (j : Nat), i < j → sumU (mupd3_4 (i : Int) true m) l j = sumU m l j
  | [], _, _ => rfl
  | x :: l, j, h => by rw [sumU, sumU, sumU_far m i l (j + 1) (by omega), isU_upd, if_neg (show ¬ ((j : Int) = (i : Int)) by omega)]
theorem sumU_upd (m : UM) (i : Nat) (hu : isU m (i : Int) = false) : ∀ (l : List GNode) (j : Nat) (h1 : j ≤ i) (h2 : i - j < l.length), sumU (mupd3_4 (i : Int) true m) l j + (l[i - j]).inputs.length = sumU m l j
  | [], j, h1, h2 => by simp at h2
  | x :: l, j, h1, h2 => by
    rw [sumU, sumU, isU_upd]
    by_cases e : i = j
    · subst e
      rw [if_pos rfl, if_pos rfl, sumU_far m i l (i + 1) (by omega), hu, if_neg (by simp)]
      simp only [Nat.sub_self, List.getElem_cons_zero]
      omega
    · have h3 : i - (j + 1) < l.length := by simp at h2; omega
      have := sumU_upd m i hu l (j + 1) (by omega) h3
      rw [if_neg (show ¬ ((j : Int) = (i : Int)) by omega)]
      have e2 : (x :: l)[i - j] = l[i - (j + 1)] := by
        rw [List.getElem_cons, dif_neg (by omega)]
        congr 1
      rw [e2]
      omega
structure UsRes (p : GProgram) (m : UM) (q : List GLink) (m' : UM) : Prop where
  mono : ∀ i, isU m i = true → isU m' i = true
  que : ∀ l ∈ q, l.node ≠ bE → isU m' (idxN p l.node) = true
  clos : ∀ (i : Nat) (h : i < p.nodes.length), isU m' (i : Int) = true → isU m (i : Int) = true ∨ ∀ l ∈ (p.nodes[i]).inputs, l.node ≠ bE → isU m' (idxN p l.node) = true
  least : ∀ S : Int → Prop, (∀ i, isU m i = true → S i) → (∀ l ∈ q, l.node ≠ bE → S (idxN p l.node)) → (∀ (i : Nat) (h : i < p.nodes.length), S (i : Int) → ∀ l ∈ (p.nodes[i]).inputs, l.node ≠ bE → S (idxN p l.node)) → ∀ i, isU m' i = true → S i
theorem mem_inputs {p : GProgram} {x : GNode} (hx : x ∈ p.nodes) {l : GLink} (hl : l ∈ x.inputs) : l ∈ linksV p := by
  unfold linksV
  exact List.mem_append.2 (.inl (List.mem_flatMap.2 ⟨x, hx, hl⟩))
theorem mem_drives {p : GProgram} {l : GLink} (hl : l ∈ p.drives.map fun d => d.from_) : l ∈ linksV p := by
  obtain ⟨d, hd, rfl⟩ := List.mem_map.1 hl
  unfold linksV
  exact List.mem_append.2 (.inr (List.mem_flatMap.2 ⟨d, hd, List.mem_singleton.2 rfl⟩))
theorem us8_nil (k : KUs8) (m : UM) (n : Nat) : iter2 (sUs8 k) n ⟨m, []⟩ = some (.inl ⟨m⟩) := by
  have h : sUs8 k ⟨m, []⟩ = .ex ⟨m⟩ := rfl
  cases n with
  | zero => rw [iter2, h]
  | succ n => rw [iter2, h]
theorem us8_head (k : KUs8) (m : UM) (l : GLink) (q : List GLink) : decide ((↑(l :: q).length : Int) > 0) = true ∧ (0 : Int) < (↑(l :: q).length : Int) ∧ (1 : Int) ≤ (↑(l :: q).length : Int) := by
  have : 1 ≤ (l :: q).length := by simp
  exact ⟨decide_eq_true (by omega), by omega, by omega⟩
theorem us8_skip (k : KUs8) (m : UM) (l : GLink) (q : List GLink) (hl : l.node = bE) : sUs8 k ⟨m, l :: q⟩ = .go ⟨m, q⟩ := by
  obtain ⟨h0, h1, h2⟩ := us8_head k m l q
  have hg : ∀ d : GLink, gt d (l :: q) (Int.toNat 0) = l := fun d => rfl
  unfold sUs8 stUs8 putUs8
  dsimp only
  rw [if_pos h0, if_pos h1, if_pos h2]
  simp only [hg]
  rw [hl, if_pos (show eqB bE ⟨#[]⟩ = true from eqB_refl _)]
  rfl
theorem us8_old (k : KUs8) (m : UM) (l : GLink) (q : List GLink) (hl : l.node ≠ bE) (i : Nat) (hi : i < k.x1.nodes.length) (he : idxN k.x1 l.node = (i : Int)) (hm : k.x1.nodes.length ≤ 9223372036854775807) (hu : isU m (i : Int) = true) : sUs8 k ⟨m, l :: q⟩ = .go ⟨m, q⟩ := by
  obtain ⟨h0, h1, h2⟩ := us8_head k m l q
  have hg : ∀ d : GLink, gt d (l :: q) (Int.toNat 0) = l := fun d => rfl
  have hv : vFi k.x1 l.node = (i : Int) := (fi_eq k.x1 l.node hm).2.trans he
  have hu' : getO false (mlook3_4 (i : Int) m) = true := hu
  unfold sUs8 stUs8 putUs8
  dsimp only
  rw [if_pos h0, if_pos h1, if_pos h2]
  simp only [hg, hv]
  rw [if_neg (show ¬ eqB l.node ⟨#[]⟩ = true from fun e => hl (eqB_t.1 e)), if_pos (fi_eq k.x1 l.node hm).1, if_neg (by simp), hu', if_neg (by simp)]
  rfl
theorem us8_new (k : KUs8) (m : UM) (l : GLink) (q : List GLink) (hl : l.node ≠ bE) (i : Nat) (hi : i < k.x1.nodes.length) (he : idxN k.x1 l.node = (i : Int)) (hm : k.x1.nodes.length ≤ 9223372036854775807) (hu : isU m (i : Int) = false) (hb : q.length + (k.x1.nodes[i]).inputs.length < 16777216) : sUs8 k ⟨m, l :: q⟩ = .go ⟨mupd3_4 (i : Int) true m, q ++ (k.x1.nodes[i]).inputs⟩ := by
  obtain ⟨h0, h1, h2⟩ := us8_head k m l q
  have hg : ∀ d : GLink, gt d (l :: q) (Int.toNat 0) = l := fun d => rfl
  have hg2 : ∀ d : GNode, gt d k.x1.nodes (i : Int).toNat = k.x1.nodes[i] := fun d => gtj' d _ _ hi
  have hd : List.drop (Int.toNat 1) (l :: q) = q := rfl
  have hv : vFi k.x1 l.node = (i : Int) := (fi_eq k.x1 l.node hm).2.trans he
  have hu' : getO false (mlook3_4 (i : Int) m) = false := hu
  have a1 : (0 : Int) ≤ (i : Int) := by omega
  have a2 : (i : Int) < (k.x1.nodes.length : Int) := by omega
  unfold sUs8 stUs8 putUs8
  dsimp only
  rw [if_pos h0, if_pos h1, if_pos h2]
  simp only [hg, hv, hg2, hd]
  rw [if_neg (show ¬ eqB l.node ⟨#[]⟩ = true from fun e => hl (eqB_t.1 e)), if_pos (fi_eq k.x1 l.node hm).1, if_neg (by simp), hu', if_pos (by simp), if_pos a1, if_pos a2, if_pos hb]
theorem used_loop (k : KUs8) (hm : k.x1.nodes.length ≤ 9223372036854775807) (hk : ∀ l ∈ linksV k.x1, Known k.x1 l.node) : ∀ (n : Nat) (m : UM) (q : List GLink), (∀ l ∈ q, Known k.x1 l.node) → q.length + sumU m k.x1.nodes 0 ≤ n → q.length + sumU m k.x1.nodes 0 < 16777216 →
    ∃ m', iter2 (sUs8 k) n ⟨m, q⟩ = some (.inl ⟨m'⟩) ∧ UsRes k.x1 m q m'
  | n, m, [], hq, hn, hb => ⟨m, us8_nil k m n, ⟨fun _ h => h, fun l hl => by simp at hl, fun i h hu => .inl hu, fun S h _ _ i hi => h i hi⟩⟩
  | 0, m, l :: q, hq, hn, hb => by simp at hn
  | n + 1, m, l :: q, hq, hn, hb => by
    rw [List.length_cons] at hn hb
    have hq' : ∀ l ∈ q, Known k.x1 l.node := fun x hx => hq x (List.mem_cons_of_mem _ hx)
    by_cases hl : l.node = bE
    · obtain ⟨m', h1, h2⟩ := used_loop k hm hk n m q hq' (by omega) (by omega)
      refine ⟨m', by rw [iter2, us8_skip k m l q hl]; exact h1, h2.mono, fun x hx hne => ?_, h2.clos, fun S a b c => h2.least S a (fun x hx => b x (List.mem_cons_of_mem _ hx)) c⟩
      rcases List.mem_cons.1 hx with rfl | hx
      · exact absurd hl hne
      · exact h2.que x hx hne
    · obtain ⟨i, hi, he, hnm⟩ := idxN_known (hq l (List.mem_cons_self ..) hl)
      cases hu : isU m (i : Int) with
      | true =>
        obtain ⟨m', h1, h2⟩ := used_loop k hm hk n m q hq' (by omega) (by omega)
        refine ⟨m', by rw [iter2, us8_old k m l q hl i hi he hm hu]; exact h1, h2.mono, fun x hx hne => ?_, h2.clos, fun S a b c => h2.least S a (fun x hx => b x (List.mem_cons_of_mem _ hx)) c⟩
        rcases List.mem_cons.1 hx with rfl | hx
        · rw [he]; exact h2.mono _ hu
        · exact h2.que x hx hne
      | false =>
        have hs := sumU_upd m i hu k.x1.nodes 0 (Nat.zero_le _) (by simpa using hi)
        simp only [Nat.sub_zero] at hs
        obtain ⟨m', h1, h2⟩ := used_loop k hm hk n (mupd3_4 (i : Int) true m) (q ++ (k.x1.nodes[i]).inputs) (fun x hx => by
          rcases List.mem_append.1 hx with hx | hx
          · exact hq' x hx
          · exact hk x (mem_inputs (List.getElem_mem hi) hx)) (by rw [List.length_append]; omega) (by rw [List.length_append]; omega)
        refine ⟨m', by rw [iter2, us8_new k m l q hl i hi he hm hu (by omega)]; exact h1, fun j hj => h2.mono j (by rw [isU_upd, hj]; simp), fun x hx hne => ?_, fun j hj hu' => ?_, fun S a b c => h2.least S (fun j hj => ?_) (fun x hx hne => ?_) c⟩
        · rcases List.mem_cons.1 hx with rfl | hx
          · rw [he]; exact h2.mono _ (by rw [isU_upd, if_pos rfl])
          · exact h2.que x (List.mem_append.2 (.inl hx)) hne
        · rcases h2.clos j hj hu' with h3 | h3
          · rw [isU_upd] at h3
            by_cases e : (j : Int) = (i : Int)
            · obtain rfl : j = i := by omega
              exact .inr fun x hx hne => h2.que x (List.mem_append.2 (.inr hx)) hne
            · rw [if_neg e] at h3; exact .inl h3
          · exact .inr h3
        · rw [isU_upd] at hj
          by_cases e : j = (i : Int)
          · subst e; rw [← he]; exact b l (List.mem_cons_self ..) hl
          · rw [if_neg e] at hj; exact a j hj
        · rcases List.mem_append.1 hx with hx | hx
          · exact b x (List.mem_cons_of_mem _ hx) hne
          · exact c i hi (by rw [← he]; exact b l (List.mem_cons_self ..) hl) x hx hne
def keepN (m : UM) : List GNode → Nat → List GNode
  | [], _ => []
  | x :: l, j => if isU m (j : Int) = true then x :: keepN m l (j + 1) else keepN m l (j + 1)
theorem keepN_sub (m : UM) : ∀ (l : List GNode) (j : Nat), (keepN m l j).Sublist l
  | [], _ => .slnil
  | x :: l, j => by
    rw [keepN]
    split
    · exact .cons_cons x (keepN_sub m l (j + 1))
    · exact (keepN_sub m l (j + 1)).cons x
theorem keepN_mem (m : UM) (x : GNode) : ∀ (l : List GNode) (j : Nat), x ∈ keepN m l j ↔ ∃ i, ∃ h : i < l.length, l[i] = x ∧ isU m ((j + i : Nat) : Int) = true
  | [], j => by simp [keepN]
  | y :: l, j => by
    have ih := keepN_mem m x l (j + 1)
    rw [keepN]
    constructor
    · intro h
      have tail : x ∈ keepN m l (j + 1) → ∃ i, ∃ h : i < (y :: l).length, (y :: l)[i] = x ∧ isU m ((j + i : Nat) : Int) = true := fun h => by
        obtain ⟨i, h1, h2, h3⟩ := ih.1 h
        exact ⟨i + 1, by simp; omega, by simpa using h2, by rw [show j + (i + 1) = j + 1 + i by omega]; exact h3⟩
      split at h
      · rename_i hu
        rcases List.mem_cons.1 h with rfl | h
        · exact ⟨0, by simp, rfl, hu⟩
        · exact tail h
      · exact tail h
    · rintro ⟨i, h1, h2, h3⟩
      cases i with
      | zero =>
        rw [if_pos (by simpa using h3)]
        exact List.mem_cons.2 (.inl (by simpa using h2.symm))
      | succ i =>
        have := ih.2 ⟨i, by simp at h1; omega, by simpa using h2, by rw [show j + 1 + i = j + (i + 1) by omega]; exact h3⟩
        split
        · exact List.mem_cons_of_mem _ this
        · exact this
theorem keepN_all (m : UM) : ∀ (l : List GNode) (j : Nat), (∀ i, i < l.length → isU m ((j + i : Nat) : Int) = true) → keepN m l j = l
  | [], _, _ => rfl
  | x :: l, j, h => by
    rw [keepN, if_pos (by have := h 0 (by simp); simpa using this), keepN_all m l (j + 1) fun i hi => by have := h (i + 1) (by simp; omega); rwa [show j + (i + 1) = j + 1 + i by omega] at this]
def cutP (p : GProgram) (m : UM) : GProgram := { p with nodes := keepN m p.nodes 0 }
theorem cut_mem (p : GProgram) (m : UM) (x : GNode) : x ∈ (cutP p m).nodes ↔ ∃ i, ∃ h : i < p.nodes.length, p.nodes[i] = x ∧ isU m (i : Int) = true := by
  have := keepN_mem m x p.nodes 0
  simp only [Nat.zero_add] at this
  exact this
theorem us21 (p : GProgram) (m : UM) (x10 : GProgram) (hl : p.nodes.length < 16777216) : ∀ (l : List GNode) (j : Nat) (b : List GNode), b.length + l.length < 16777216 → scanO (fUs21 { x4 := m, x10 := x10, x11 := [], x63 := p.nodes, x64 := (↑p.nodes.length : Int), x65 := 0 : KUs21 }) ⟨b⟩ (l.zipIdx j) = some (.inl ⟨b ++ keepN m l j⟩)
  | [], j, b, h => by rw [List.zipIdx_nil, scanO, keepN, List.append_nil]
  | x :: l, j, b, h => by
    rw [List.zipIdx_cons, scanO, keepN]
    rw [List.length_cons] at h
    unfold fUs21
    dsimp only
    by_cases hu : isU m (j : Int) = true
    · rw [show getO false (mlook3_4 (j : Int) m) = true from hu, if_pos rfl, if_pos hu, if_pos (show b.length + [x].length < 16777216 by simp; omega)]
      dsimp only
      have := us21 p m x10 hl l (j + 1) (b ++ [x]) (by simp; omega)
      unfold fUs21 at this
      rw [this, List.append_assoc]
      rfl
    · rw [if_neg (show ¬ getO false (mlook3_4 (j : Int) m) = true from hu), if_neg hu]
      dsimp only
      have := us21 p m x10 hl l (j + 1) b (by omega)
      unfold fUs21 at this
      rw [this]
end
end Go.Proofs.YtpbpebjfglfjfaaGreatDoor.X
/-! Plain laws: what is used of a valid program is valid, is used again, and each of its nodes is read. -/
namespace Go.Proofs.YtpbpebjfglfjfaaGreatDoor.X
open Go Go.Proofs Go.RowKit Go.Proofs.YtpbpebjfglfjfaaGreatDoor
noncomputable section
def froms (p : GProgram) : List GLink := p.drives.map fun d => d.from_
abbrev Cut (p : GProgram) (m : UM) : Prop := UsRes p [] (froms p) m
abbrev KnownP (p : GProgram) : Prop := ∀ l ∈ linksV p, Known p l.node
theorem cut_sub (p : GProgram) (m : UM) : (cutP p m).nodes.Sublist p.nodes := keepN_sub m p.nodes 0
theorem cut_links {p : GProgram} {m : UM} {l : GLink} (h : l ∈ linksV (cutP p m)) : l ∈ linksV p := by
  unfold linksV at h
  rcases List.mem_append.1 h with h | h
  · obtain ⟨x, hx, hl⟩ := List.mem_flatMap.1 h
    exact mem_inputs ((cut_sub p m).mem hx) hl
  · unfold linksV; exact List.mem_append.2 (.inr h)
theorem in_cut {p : GProgram} {m : UM} {s : ByteArray} (hs : ∃ x ∈ p.nodes, x.name = s) (hu : isU m (idxN p s) = true) : ∃ x ∈ (cutP p m).nodes, x.name = s := by
  obtain ⟨i, hi, h1, h2⟩ := idxN_known hs
  exact ⟨_, (cut_mem p m _).2 ⟨i, hi, rfl, by rw [← h1]; exact hu⟩, h2⟩
theorem cut_inputs {p : GProgram} {m : UM} (h : Cut p m) (hk : KnownP p) : ∀ x ∈ (cutP p m).nodes, ∀ l ∈ x.inputs, l.node ≠ bE → isU m (idxN p l.node) = true := fun x hx l hl hne => by
  obtain ⟨i, hi, rfl, hu⟩ := (cut_mem p m x).1 hx
  rcases h.clos i hi hu with h2 | h2
  · cases h2
  · exact h2 l hl hne
theorem cut_known {p : GProgram} {m : UM} (h : Cut p m) (hk : KnownP p) : KnownP (cutP p m) := fun l hl hne => by
  have hkl := hk l (cut_links hl) hne
  unfold linksV at hl
  rcases List.mem_append.1 hl with hl | hl
  · obtain ⟨x, hx, hl⟩ := List.mem_flatMap.1 hl
    exact in_cut hkl (cut_inputs h hk x hx l hl hne)
  · obtain ⟨d, hd, hl⟩ := List.mem_flatMap.1 hl
    obtain rfl := List.mem_singleton.1 hl
    exact in_cut hkl (h.que _ (List.mem_map.2 ⟨d, hd, rfl⟩) hne)
theorem cut_least {p : GProgram} {m : UM} (h : Cut p m) (hk : KnownP p) (S : ByteArray → Prop) (hd : ∀ d ∈ p.drives, d.from_.node ≠ bE → S d.from_.node) (hn : ∀ x ∈ (cutP p m).nodes, S x.name → ∀ l ∈ x.inputs, l.node ≠ bE → S l.node) : ∀ x ∈ (cutP p m).nodes, S x.name := fun x hx => by
  obtain ⟨i, hi, rfl, hu⟩ := (cut_mem p m x).1 hx
  obtain ⟨j, hj, e, _, hs⟩ := h.least (fun z => ∃ i, ∃ h : i < p.nodes.length, z = (i : Int) ∧ isU m (i : Int) = true ∧ S (p.nodes[i]).name) (fun j hj => by cases hj) (fun l hl hne => by
    have hu := h.que l hl hne
    obtain ⟨d, hd', rfl⟩ := List.mem_map.1 hl
    obtain ⟨i, hi, h1, h2⟩ := idxN_known (hk _ (mem_drives hl) hne)
    exact ⟨i, hi, h1, by rw [← h1]; exact hu, by rw [h2]; exact hd d hd' hne⟩) (fun i hi ⟨j, hj, e, hu, hs⟩ l hl hne => by
    obtain rfl : i = j := by omega
    have hx := (cut_mem p m _).2 ⟨i, hi, rfl, hu⟩
    obtain ⟨k, hk', h1, h2⟩ := idxN_known (hk l (mem_inputs (List.getElem_mem hi) hl) hne)
    exact ⟨k, hk', h1, by rw [← h1]; exact cut_inputs h hk _ hx l hl hne, by rw [h2]; exact hn _ hx hs l hl hne⟩) (i : Int) hu
  obtain rfl : i = j := by omega
  exact hs
theorem apart_sub {l l' : List GNode} (h : l'.Sublist l) (ha : (l.map fun x => x.name).Nodup) : (l'.map fun x => x.name).Nodup := (h.map _).nodup ha
theorem apart_of {l : List GNode} (ha : (l.map fun x => x.name).Nodup) : Apart l := fun i j hi hj e =>
  (List.getElem_inj (h₀ := by simpa using hi) (h₁ := by simpa using hj) ha).1 (by simpa using e)
theorem cut_again {p : GProgram} {m m2 : UM} (h : Cut p m) (hk : KnownP p) (ha : (p.nodes.map fun x => x.name).Nodup) (h2 : Cut (cutP p m) m2) : cutP (cutP p m) m2 = cutP p m := by
  have hk2 := cut_known h hk
  have ha2 := apart_of (apart_sub (cut_sub p m) ha)
  have hall := cut_least h hk (fun s => isU m2 (idxN (cutP p m) s) = true) (fun d hd hne => h2.que _ (List.mem_map.2 ⟨d, hd, rfl⟩) hne) (fun x hx hs l hl hne => by
    obtain ⟨k, hk', rfl⟩ := List.getElem_of_mem hx
    rw [idxN_at ha2 k hk'] at hs
    rcases h2.clos k hk' hs with h3 | h3
    · cases h3
    · exact h3 l hl hne)
  have e := keepN_all m2 (cutP p m).nodes 0 fun i hi => by
    have := hall _ (List.getElem_mem hi)
    rw [idxN_at ha2 i hi] at this
    rwa [Nat.zero_add]
  show ({ cutP p m with nodes := keepN m2 (cutP p m).nodes 0 } : GProgram) = _
  rw [e]
theorem cut_read {p : GProgram} {m : UM} (h : Cut p m) (hk : KnownP p) : ∀ x ∈ (cutP p m).nodes, ∃ l ∈ linksV (cutP p m), l.node = x.name :=
  cut_least h hk (fun s => ∃ l ∈ linksV (cutP p m), l.node = s) (fun d hd hne => ⟨_, mem_drives (p := cutP p m) (List.mem_map.2 ⟨d, hd, rfl⟩), rfl⟩) (fun x hx _ l hl _ => ⟨l, mem_inputs hx hl, rfl⟩)
theorem cut_small {p : GProgram} {m : UM} (h : SmallP p) : SmallP (cutP p m) := by
  have hs := cut_sub p m
  refine ⟨?_, fun x hx => h.pa x (hs.mem hx), fun x hx => h.inp x (hs.mem hx), fun x hx => h.li x (cut_links hx), fun x hx => h.bl x (hs.mem hx)⟩
  have := hs.length_le
  have := h.nd
  show (cutP p m).nodes.length + p.drives.length ≤ 80
  omega
theorem any_sub {α : Type} {P : α → Bool} {l l' : List α} (h : ∀ x ∈ l', x ∈ l) (ha : l.any P = false) : l'.any P = false := by
  rw [List.any_eq_false] at ha ⊢
  exact fun x hx => ha x (h x hx)
theorem dupN_sub : ∀ {l l' : List GNode}, l'.Sublist l → ∀ (S S' : List ByteArray), (∀ s ∈ S', s ∈ S) → dupN S l = false → dupN S' l' = false := by
  intro l l' h
  induction h with
  | slnil => intro S S' hS hd; rfl
  | cons x _ ih =>
    intro S S' hS hd
    rw [dupN, Bool.or_eq_false_iff, Bool.or_eq_false_iff] at hd
    exact ih _ _ (fun s hs => List.mem_cons_of_mem _ (hS s hs)) hd.2.2
  | cons_cons x _ ih =>
    intro S S' hS hd
    rw [dupN, Bool.or_eq_false_iff, Bool.or_eq_false_iff] at hd ⊢
    refine ⟨any_sub hS hd.1, hd.2.1, ih _ _ (fun s hs => ?_) hd.2.2⟩
    rcases List.mem_cons.1 hs with rfl | hs
    · exact List.mem_cons_self ..
    · exact List.mem_cons_of_mem _ (hS s hs)
theorem dup_nodup {l : List GNode} (h : dupN [] l = false) : (l.map fun x => x.name).Nodup := by
  unfold List.Nodup
  rw [List.pairwise_iff_getElem]
  intro i j hi hj hij e
  have hi' : i < l.length := by simpa using hi
  have hj' : j < l.length := by simpa using hj
  have : dupN [] l = true := (dupN_iff l []).2 ⟨j, hj', .inl (.inr ⟨i, hij, by simpa using e⟩)⟩
  rw [this] at h; cases h
theorem firstE_zero {α : Type} {E : α → Int} : ∀ (l : List α), firstE E l = 0 ↔ ∀ x ∈ l, E x = 0
  | [] => by simp [firstE]
  | x :: l => by
    rw [firstE]
    by_cases h : E x = 0
    · rw [h, decide_eq_true rfl, if_neg (by simp), firstE_zero l]
      simp [h]
    · rw [decide_eq_false h, if_pos (by simp)]
      simp [h]
structure ValidP (pts : List GPoint) (p : GProgram) : Prop where
  many : (decide ((p.nodes.length : Int) > 64) || decide ((p.drives.length : Int) > 256)) = false
  name : nameV p.name = true
  names : (p.nodes.any fun x => !nameV x.name) = false
  formed : (linksV p).any (fun x => !formedV x) = false
  levels : (decide (p.period < 1) || (decide (p.period > 86400) || p.drives.any fun x => !levelV x.level)) = false
  dn : dupN [] p.nodes = false
  dd : dupD [] p.drives = false
  unkN : p.nodes.any unkN = false
  unkL : (linksV p).any (unkL pts p) = false
  unkD : (p.drives.any fun d => !knownV pts d.point) = false
  inputs : ∀ x ∈ p.nodes, eI x = 0
  params : ∀ x ∈ p.nodes, eP x = 0
  drives : ∀ x ∈ p.drives, eC pts x = 0
theorem ite_ne {c : Prop} [Decidable c] {a b : Int} (h : (if c then a else b) = 0) (ha : a ≠ 0) : ¬ c ∧ b = 0 := by
  by_cases hc : c
  · rw [if_pos hc] at h; exact absurd h ha
  · rw [if_neg hc] at h; exact ⟨hc, h⟩
theorem ite_err {a b : Int} (h : (if (!decide (a = 0)) = true then a else b) = 0) : a = 0 ∧ b = 0 := by
  by_cases ha : a = 0
  · rw [decide_eq_true ha, if_neg (by simp)] at h; exact ⟨ha, h⟩
  · rw [decide_eq_false ha, if_pos (by simp)] at h; exact absurd h ha
theorem valid_iff (pts : List GPoint) (p : GProgram) : specV pts p = 0 ↔ ValidP pts p := by
  constructor
  · intro h
    unfold specV at h
    obtain ⟨h1, h⟩ := ite_err h
    obtain ⟨h2, h⟩ := ite_ne h (by decide)
    obtain ⟨h3, h⟩ := ite_err h
    obtain ⟨h4, h⟩ := ite_err h
    obtain ⟨h5, h⟩ := ite_err h
    unfold specN at h1
    obtain ⟨n1, h1⟩ := ite_ne h1 (by decide)
    obtain ⟨n2, h1⟩ := ite_ne h1 (by decide)
    obtain ⟨n3, h1⟩ := ite_ne h1 (by decide)
    obtain ⟨n4, h1⟩ := ite_ne h1 (by decide)
    obtain ⟨n5, h1⟩ := ite_ne h1 (by decide)
    rw [Bool.not_eq_true] at h2 n1 n2 n3 n4 n5
    unfold unknownV at h2
    unfold twiceV at n5
    rw [Bool.or_eq_false_iff] at h2 n2 n5
    rw [Bool.or_eq_false_iff] at h2
    exact ⟨n1, by simpa using n2.1, n2.2, n3, n4, n5.1, n5.2, h2.1, h2.2.1, h2.2.2, (firstE_zero _).1 h3, (firstE_zero _).1 h4, (firstE_zero _).1 h5⟩
  · intro h
    have e1 : specN p = 0 := by
      unfold specN twiceV
      rw [h.many, h.name, h.names, h.formed, h.levels, h.dn, h.dd]
      rfl
    unfold specV unknownV
    rw [e1, h.unkN, h.unkL, h.unkD, (firstE_zero _).2 h.inputs, (firstE_zero _).2 h.params, (firstE_zero _).2 h.drives]
    rfl
theorem ValidP.known {pts : List GPoint} {p : GProgram} (h : ValidP pts p) : KnownP p := fun l hl hne => by
  have := List.any_eq_false.1 h.unkL l hl
  unfold Go.Proofs.YtpbpebjfglfjfaaGreatDoor.X.unkL at this
  rw [Bool.not_eq_true, Bool.or_eq_false_iff, Bool.and_eq_false_iff] at this
  rcases this.1 with h1 | h1
  · rw [Bool.not_eq_false'] at h1
    exact absurd (eqB_t.1 h1) hne
  · rw [Bool.not_eq_false', List.any_eq_true] at h1
    obtain ⟨x, hx, he⟩ := h1
    exact ⟨x, hx, eqB_t.1 he⟩
theorem cut_valid {pts : List GPoint} {p : GProgram} {m : UM} (hc : Cut p m) (h : ValidP pts p) : ValidP pts (cutP p m) := by
  have hs := cut_sub p m
  have hm : ∀ x ∈ (cutP p m).nodes, x ∈ p.nodes := fun x hx => hs.mem hx
  refine ⟨?_, h.name, any_sub hm h.names, any_sub (fun x hx => cut_links hx) h.formed, h.levels, dupN_sub hs _ _ (fun _ h => h) h.dn, h.dd, any_sub hm h.unkN, ?_, h.unkD, fun x hx => h.inputs x (hm x hx), fun x hx => h.params x (hm x hx), h.drives⟩
  · have h1 := h.many
    have h2 := hs.length_le
    rw [Bool.or_eq_false_iff, decide_eq_false_iff_not, decide_eq_false_iff_not] at h1 ⊢
    exact ⟨by omega, h1.2⟩
  · rw [List.any_eq_false]
    intro l hl
    have h1 := List.any_eq_false.1 h.unkL l (cut_links hl)
    have h2 := cut_known hc h.known l hl
    unfold Go.Proofs.YtpbpebjfglfjfaaGreatDoor.X.unkL at h1 ⊢
    rw [Bool.not_eq_true, Bool.or_eq_false_iff] at h1 ⊢
    refine ⟨?_, h1.2⟩
    rw [Bool.and_eq_false_iff]
    by_cases he : l.node = bE
    · exact .inl (by rw [he]; rfl)
    · obtain ⟨x, hx, e⟩ := h2 he
      refine .inr ?_
      rw [Bool.not_eq_false', List.any_eq_true]
      exact ⟨x, hx, eqB_t.2 e⟩
end
end Go.Proofs.YtpbpebjfglfjfaaGreatDoor.X
/-! Plain laws: slices, nodes, programs that are the same. -/
namespace Go.Proofs.YtpbpebjfglfjfaaGreatDoor.X
open Go Go.Proofs Go.RowKit Go.Proofs.YtpbpebjfglfjfaaGreatDoor
noncomputable section
def eqLs {α : Type} (d : α) (eq : α → α → Bool) (a b : List α) : Bool := decide (a.length = b.length) && !(List.range' 0 (a.length - 0)).any fun j => !eq (gt d a j) (gt d b j)
theorem eqLs_iff {α : Type} (d : α) {eq : α → α → Bool} (h : ∀ x y, eq x y = true ↔ x = y) (a b : List α) : eqLs d eq a b = true ↔ a = b := by
  unfold eqLs
  rw [Bool.and_eq_true, decide_eq_true_eq, Bool.not_eq_true', ← Bool.not_eq_true, any_range]
  constructor
  · rintro ⟨hl, hn⟩
    apply List.ext_getElem hl
    intro i h1 h2
    by_cases he : eq a[i] b[i] = true
    · exact (h _ _).1 he
    · exact absurd ⟨i, h1, by rw [gt_at _ _ _ h1, gt_at _ _ _ h2]; simpa using he⟩ hn
  · rintro rfl
    refine ⟨rfl, ?_⟩
    rintro ⟨i, hi, hp⟩
    rw [(h _ _).2 rfl] at hp
    cases hp
theorem len_ne {α β : Type} (a : List α) (b : List β) : (!decide ((↑a.length : Int) = (↑b.length : Int))) = !decide (a.length = b.length) := by
  by_cases h : a.length = b.length
  · rw [decide_eq_true h, decide_eq_true (by omega)]
  · rw [decide_eq_false h, decide_eq_false (by omega)]
def eqLi (x y : GLink) : Bool := eqB x.node y.node && (decide (x.port = y.port) && (eqB x.point y.point && (decide (x.const.kind = y.const.kind) && (decide (x.const.n = y.const.n) && true) && (x.delayed == y.delayed && (decide (x.initial.kind = y.initial.kind) && (decide (x.initial.n = y.initial.n) && true) && true)))))
theorem eqLi_iff (x y : GLink) : eqLi x y = true ↔ x = y := by
  obtain ⟨n, p, q, c, d, i⟩ := x
  obtain ⟨n', p', q', c', d', i'⟩ := y
  cases c; cases c'; cases i; cases i'
  unfold eqLi
  simp only [Bool.and_eq_true, eqB_t, decide_eq_true_eq, beq_iff_eq, and_true, GLink.mk.injEq, GValue.mk.injEq]
def eqPa (x y : GParam) : Bool := eqB x.name y.name && (decide (x.value = y.value) && true)
theorem eqPa_iff (x y : GParam) : eqPa x y = true ↔ x = y := by
  cases x; cases y
  unfold eqPa
  simp only [Bool.and_eq_true, eqB_t, decide_eq_true_eq, and_true, GParam.mk.injEq]
def eqDr (x y : GDrive) : Bool := eqB x.point y.point && (decide (x.level = y.level) && (eqB x.from_.node y.from_.node && (decide (x.from_.port = y.from_.port) && (eqB x.from_.point y.from_.point && (decide (x.from_.const.kind = y.from_.const.kind) && (decide (x.from_.const.n = y.from_.const.n) && true) && (x.from_.delayed == y.from_.delayed && (decide (x.from_.initial.kind = y.from_.initial.kind) && (decide (x.from_.initial.n = y.from_.initial.n) && true) && true))))) && true))
theorem eqDr_iff (x y : GDrive) : eqDr x y = true ↔ x = y := by
  obtain ⟨pt, lv, l⟩ := x
  obtain ⟨pt', lv', l'⟩ := y
  have := eqLi_iff l l'
  unfold eqLi at this
  unfold eqDr
  simp only [Bool.and_eq_true, eqB_t, decide_eq_true_eq, beq_iff_eq, and_true, GDrive.mk.injEq] at this ⊢
  rw [← this]
theorem ed_it (a b : List GDrive) (hm : a.length ≤ 9223372036854775807) (hl : a.length = b.length) : iEd4 { x0 := a, x1 := b, x4 := false, x12 := (↑a.length : Int), x13 := 0 : KEd4 } = some (if ((List.range' 0 (a.length - 0)).any fun j => !eqDr (gt (dD) a j) (gt (dD) b j)) = true then .inr ⟨false⟩ else .inl ()) := by
  have := iter2_any (ε := P_Ed4) a.length (fun j => (⟨(j : Int)⟩ : B_Ed4)) () (⟨false⟩ : Q_Ed4) (fun j => !eqDr (gt (dD) a j) (gt (dD) b j)) (sEd4 { x0 := a, x1 := b, x4 := false, x12 := (↑a.length : Int), x13 := 0 : KEd4 }) (fun j hj => by
    have a1 : (0 : Int) ≤ (j : Int) := by omega
    have a2 : (j : Int) < (a.length : Int) := by omega
    have a3 : (j : Int) < (b.length : Int) := by omega
    have g1 : ∀ d, gt d a (j : Int).toNat = a[j] := fun d => gtj' d _ _ hj
    have g2 : ∀ d, gt d b (j : Int).toNat = b[j]'(by omega) := fun d => gtj' d _ _ (by omega)
    have g3 : ∀ d, gt d a j = a[j] := fun d => gt_at d _ _ hj
    have g4 : ∀ d, gt d b j = b[j]'(by omega) := fun d => gt_at d _ _ (by omega)
    unfold sEd4 stEd4 putEd4
    dsimp only
    simp only [g1, g2, g3, g4]
    rw [if_pos (lt1' hj), if_pos a1, if_pos a2, if_pos a1, if_pos a3, cnt' hj hm]
    rfl) (fun j hj => by
    unfold sEd4 stEd4 putEd4
    dsimp only
    rw [ltno hj, if_neg (by simp)]) a.length 0 (by omega)
  exact this
theorem ed_eq (a b : List GDrive) (hm : a.length ≤ 9223372036854775807) : cEd a b = true ∧ vEd a b = eqLs (dD) eqDr a b := by
  have h : REd a b = some (.bool (eqLs (dD) eqDr a b), []) := by
    unfold REd eqLs
    rw [len_ne]
    by_cases hl : a.length = b.length
    · have hi := ed_it a b hm hl
      have ho : okEd4 { x0 := a, x1 := b, x4 := false, x12 := (↑a.length : Int), x13 := 0 : KEd4 } = true := by unfold okEd4; rw [hi]; rfl
      rw [decide_eq_true hl, if_neg (by simp), if_pos ho, hi]
      cases (List.range' 0 (a.length - 0)).any fun j => !eqDr (gt (dD) a j) (gt (dD) b j) <;> rfl
    · rw [decide_eq_false hl]; rfl
  unfold cEd vEd oEd; rw [h]; exact ⟨rfl, rfl⟩
theorem ea_it (a b : List GParam) (hm : a.length ≤ 9223372036854775807) (hl : a.length = b.length) : iEa4 { x0 := a, x1 := b, x4 := false, x12 := (↑a.length : Int), x13 := 0 : KEa4 } = some (if ((List.range' 0 (a.length - 0)).any fun j => !eqPa (gt (⟨⟨#[]⟩, 0⟩) a j) (gt (⟨⟨#[]⟩, 0⟩) b j)) = true then .inr ⟨false⟩ else .inl ()) := by
  have := iter2_any (ε := P_Ea4) a.length (fun j => (⟨(j : Int)⟩ : B_Ea4)) () (⟨false⟩ : Q_Ea4) (fun j => !eqPa (gt (⟨⟨#[]⟩, 0⟩) a j) (gt (⟨⟨#[]⟩, 0⟩) b j)) (sEa4 { x0 := a, x1 := b, x4 := false, x12 := (↑a.length : Int), x13 := 0 : KEa4 }) (fun j hj => by
    have a1 : (0 : Int) ≤ (j : Int) := by omega
    have a2 : (j : Int) < (a.length : Int) := by omega
    have a3 : (j : Int) < (b.length : Int) := by omega
    have g1 : ∀ d, gt d a (j : Int).toNat = a[j] := fun d => gtj' d _ _ hj
    have g2 : ∀ d, gt d b (j : Int).toNat = b[j]'(by omega) := fun d => gtj' d _ _ (by omega)
    have g3 : ∀ d, gt d a j = a[j] := fun d => gt_at d _ _ hj
    have g4 : ∀ d, gt d b j = b[j]'(by omega) := fun d => gt_at d _ _ (by omega)
    unfold sEa4 stEa4 putEa4
    dsimp only
    simp only [g1, g2, g3, g4]
    rw [if_pos (lt1' hj), if_pos a1, if_pos a2, if_pos a1, if_pos a3, cnt' hj hm]
    rfl) (fun j hj => by
    unfold sEa4 stEa4 putEa4
    dsimp only
    rw [ltno hj, if_neg (by simp)]) a.length 0 (by omega)
  exact this
theorem ea_eq (a b : List GParam) (hm : a.length ≤ 9223372036854775807) : cEa a b = true ∧ vEa a b = eqLs (⟨⟨#[]⟩, 0⟩) eqPa a b := by
  have h : REa a b = some (.bool (eqLs (⟨⟨#[]⟩, 0⟩) eqPa a b), []) := by
    unfold REa eqLs
    rw [len_ne]
    by_cases hl : a.length = b.length
    · have hi := ea_it a b hm hl
      have ho : okEa4 { x0 := a, x1 := b, x4 := false, x12 := (↑a.length : Int), x13 := 0 : KEa4 } = true := by unfold okEa4; rw [hi]; rfl
      rw [decide_eq_true hl, if_neg (by simp), if_pos ho, hi]
      cases (List.range' 0 (a.length - 0)).any fun j => !eqPa (gt (⟨⟨#[]⟩, 0⟩) a j) (gt (⟨⟨#[]⟩, 0⟩) b j) <;> rfl
    · rw [decide_eq_false hl]; rfl
  unfold cEa vEa oEa; rw [h]; exact ⟨rfl, rfl⟩
theorem el_it (a b : List GLink) (hm : a.length ≤ 9223372036854775807) (hl : a.length = b.length) : iEl4 { x0 := a, x1 := b, x4 := false, x12 := (↑a.length : Int), x13 := 0 : KEl4 } = some (if ((List.range' 0 (a.length - 0)).any fun j => !eqLi (gt (⟨⟨#[]⟩, 0, ⟨#[]⟩, ⟨0, 0⟩, false, ⟨0, 0⟩⟩) a j) (gt (⟨⟨#[]⟩, 0, ⟨#[]⟩, ⟨0, 0⟩, false, ⟨0, 0⟩⟩) b j)) = true then .inr ⟨false⟩ else .inl ()) := by
  have := iter2_any (ε := P_El4) a.length (fun j => (⟨(j : Int)⟩ : B_El4)) () (⟨false⟩ : Q_El4) (fun j => !eqLi (gt (⟨⟨#[]⟩, 0, ⟨#[]⟩, ⟨0, 0⟩, false, ⟨0, 0⟩⟩) a j) (gt (⟨⟨#[]⟩, 0, ⟨#[]⟩, ⟨0, 0⟩, false, ⟨0, 0⟩⟩) b j)) (sEl4 { x0 := a, x1 := b, x4 := false, x12 := (↑a.length : Int), x13 := 0 : KEl4 }) (fun j hj => by
    have a1 : (0 : Int) ≤ (j : Int) := by omega
    have a2 : (j : Int) < (a.length : Int) := by omega
    have a3 : (j : Int) < (b.length : Int) := by omega
    have g1 : ∀ d, gt d a (j : Int).toNat = a[j] := fun d => gtj' d _ _ hj
    have g2 : ∀ d, gt d b (j : Int).toNat = b[j]'(by omega) := fun d => gtj' d _ _ (by omega)
    have g3 : ∀ d, gt d a j = a[j] := fun d => gt_at d _ _ hj
    have g4 : ∀ d, gt d b j = b[j]'(by omega) := fun d => gt_at d _ _ (by omega)
    unfold sEl4 stEl4 putEl4
    dsimp only
    simp only [g1, g2, g3, g4]
    rw [if_pos (lt1' hj), if_pos a1, if_pos a2, if_pos a1, if_pos a3, cnt' hj hm]
    rfl) (fun j hj => by
    unfold sEl4 stEl4 putEl4
    dsimp only
    rw [ltno hj, if_neg (by simp)]) a.length 0 (by omega)
  exact this
theorem el_eq (a b : List GLink) (hm : a.length ≤ 9223372036854775807) : cEl a b = true ∧ vEl a b = eqLs (⟨⟨#[]⟩, 0, ⟨#[]⟩, ⟨0, 0⟩, false, ⟨0, 0⟩⟩) eqLi a b := by
  have h : REl a b = some (.bool (eqLs (⟨⟨#[]⟩, 0, ⟨#[]⟩, ⟨0, 0⟩, false, ⟨0, 0⟩⟩) eqLi a b), []) := by
    unfold REl eqLs
    rw [len_ne]
    by_cases hl : a.length = b.length
    · have hi := el_it a b hm hl
      have ho : okEl4 { x0 := a, x1 := b, x4 := false, x12 := (↑a.length : Int), x13 := 0 : KEl4 } = true := by unfold okEl4; rw [hi]; rfl
      rw [decide_eq_true hl, if_neg (by simp), if_pos ho, hi]
      cases (List.range' 0 (a.length - 0)).any fun j => !eqLi (gt (⟨⟨#[]⟩, 0, ⟨#[]⟩, ⟨0, 0⟩, false, ⟨0, 0⟩⟩) a j) (gt (⟨⟨#[]⟩, 0, ⟨#[]⟩, ⟨0, 0⟩, false, ⟨0, 0⟩⟩) b j) <;> rfl
    · rw [decide_eq_false hl]; rfl
  unfold cEl vEl oEl; rw [h]; exact ⟨rfl, rfl⟩
def eqNd (x y : GNode) : Bool := eqB x.name y.name && (eqB x.block y.block && (eqLs (⟨⟨#[]⟩, 0⟩) eqPa x.params y.params && eqLs (⟨⟨#[]⟩, 0, ⟨#[]⟩, ⟨0, 0⟩, false, ⟨0, 0⟩⟩) eqLi x.inputs y.inputs))
theorem eqNd_iff (x y : GNode) : eqNd x y = true ↔ x = y := by
  cases x; cases y
  unfold eqNd
  simp only [Bool.and_eq_true, eqB_t, eqLs_iff _ eqPa_iff, eqLs_iff _ eqLi_iff, GNode.mk.injEq]
theorem ep_eq (x y : GNode) (hp : x.params.length ≤ 9223372036854775807) (hi : x.inputs.length ≤ 9223372036854775807) : cEp x y = true ∧ vEp x y = eqNd x y := by
  have h : REp x y = some (.bool (eqNd x y), []) := by
    unfold REp eqNd
    rw [if_pos (ea_eq _ _ hp).1, (ea_eq _ _ hp).2, if_pos (el_eq _ _ hi).1, (el_eq _ _ hi).2]
    cases eqB x.name y.name <;> cases eqB x.block y.block <;> cases eqLs (⟨⟨#[]⟩, 0⟩) eqPa x.params y.params <;> rfl
  unfold cEp vEp oEp; rw [h]; exact ⟨rfl, rfl⟩
theorem en_it (a b : List GNode) (hm : a.length ≤ 9223372036854775807) (hs : ∀ x ∈ a, x.params.length ≤ 9223372036854775807 ∧ x.inputs.length ≤ 9223372036854775807) (hl : a.length = b.length) : iEn4 { x1 := b, x6 := false, x15 := a, x16 := (↑a.length : Int), x17 := 0 : KEn4 } = some (if ((List.range' 0 (a.length - 0)).any fun j => !eqNd (gt dN a j) (gt dN b j)) = true then .inr ⟨false⟩ else .inl ()) := by
  have := iter2_any (ε := P_En4) a.length (fun j => (⟨(j : Int)⟩ : B_En4)) () (⟨false⟩ : Q_En4) (fun j => !eqNd (gt dN a j) (gt dN b j)) (sEn4 { x1 := b, x6 := false, x15 := a, x16 := (↑a.length : Int), x17 := 0 : KEn4 }) (fun j hj => by
    have a1 : (0 : Int) ≤ (j : Int) := by omega
    have a2 : (j : Int) < (a.length : Int) := by omega
    have a3 : (j : Int) < (b.length : Int) := by omega
    have g1 : ∀ d, gt d a (j : Int).toNat = a[j] := fun d => gtj' d _ _ hj
    have g2 : ∀ d, gt d b (j : Int).toNat = b[j]'(by omega) := fun d => gtj' d _ _ (by omega)
    have g3 : ∀ d, gt d a j = a[j] := fun d => gt_at d _ _ hj
    have g4 : ∀ d, gt d b j = b[j]'(by omega) := fun d => gt_at d _ _ (by omega)
    have hx := hs a[j] (List.getElem_mem hj)
    unfold sEn4 stEn4 putEn4
    dsimp only
    simp only [g1, g2, g3, g4]
    rw [if_pos (lt1' hj), if_pos a1, if_pos a2, if_pos a1, if_pos a3, if_pos (ep_eq _ _ hx.1 hx.2).1, (ep_eq _ _ hx.1 hx.2).2, cnt' hj hm]) (fun j hj => by
    unfold sEn4 stEn4 putEn4
    dsimp only
    rw [ltno hj, if_neg (by simp)]) a.length 0 (by omega)
  exact this
theorem en_eq (a b : List GNode) (hm : a.length ≤ 9223372036854775807) (hs : ∀ x ∈ a, x.params.length ≤ 9223372036854775807 ∧ x.inputs.length ≤ 9223372036854775807) : cEn a b () = true ∧ vEn a b () = eqLs dN eqNd a b := by
  have h : REn a b () = some (.bool (eqLs dN eqNd a b), []) := by
    unfold REn eqLs
    rw [len_ne]
    by_cases hl : a.length = b.length
    · have hi := en_it a b hm hs hl
      have ho : okEn4 { x1 := b, x6 := false, x15 := a, x16 := (↑a.length : Int), x17 := 0 : KEn4 } = true := by unfold okEn4; rw [hi]; rfl
      rw [decide_eq_true hl, if_neg (by simp), if_pos ho, hi]
      cases (List.range' 0 (a.length - 0)).any fun j => !eqNd (gt dN a j) (gt dN b j) <;> rfl
    · rw [decide_eq_false hl]; rfl
  unfold cEn vEn oEn; rw [h]; exact ⟨rfl, rfl⟩
def eqPr (x y : GProgram) : Bool := eqB x.name y.name && (decide (x.period = y.period) && (eqLs dD eqDr x.drives y.drives && eqLs dN eqNd x.nodes y.nodes))
theorem eqPr_iff (x y : GProgram) : eqPr x y = true ↔ x = y := by
  cases x; cases y
  unfold eqPr
  simp only [Bool.and_eq_true, eqB_t, decide_eq_true_eq, eqLs_iff _ eqDr_iff, eqLs_iff _ eqNd_iff, GProgram.mk.injEq]
  constructor
  · rintro ⟨a, b, c, d⟩; exact ⟨a, b, d, c⟩
  · rintro ⟨a, b, c, d⟩; exact ⟨a, b, d, c⟩
theorem eq_eq (x y : GProgram) (h : SmallP x) : cEq x y = true ∧ vEq x y = eqPr x y := by
  have hs : ∀ n ∈ x.nodes, n.params.length ≤ 9223372036854775807 ∧ n.inputs.length ≤ 9223372036854775807 := fun n hn => ⟨h.pl n hn, by have := h.inp n hn; omega⟩
  have hr : REq x y = some (.bool (eqPr x y), []) := by
    unfold REq eqPr
    rw [if_pos (ed_eq _ _ h.dl).1, (ed_eq _ _ h.dl).2, if_pos (en_eq _ _ h.nl hs).1, (en_eq _ _ h.nl hs).2]
    cases eqB x.name y.name <;> cases decide (x.period = y.period) <;> cases eqLs dD eqDr x.drives y.drives <;> rfl
  unfold cEq vEq oEq; rw [hr]; exact ⟨rfl, rfl⟩
theorem sa_it (a b : List ByteArray) (hm : a.length ≤ 9223372036854775807) (hl : a.length = b.length) : iSa4 { x0 := a, x1 := b, x4 := false, x5 := 0 : KSa4 } = some (if ((List.range' 0 (a.length - 0)).any fun j => !eqB (gt ⟨#[]⟩ a j) (gt ⟨#[]⟩ b j)) = true then .inr ⟨false⟩ else .inl ()) := by
  have := iter2_any (ε := P_Sa4) a.length (fun j => (⟨(j : Int)⟩ : B_Sa4)) () (⟨false⟩ : Q_Sa4) (fun j => !eqB (gt ⟨#[]⟩ a j) (gt ⟨#[]⟩ b j)) (sSa4 { x0 := a, x1 := b, x4 := false, x5 := 0 : KSa4 }) (fun j hj => by
    have a1 : (0 : Int) ≤ (j : Int) := by omega
    have a2 : (j : Int) < (a.length : Int) := by omega
    have a3 : (j : Int) < (b.length : Int) := by omega
    unfold sSa4 stSa4 putSa4
    dsimp only
    rw [if_pos (lt1' hj), if_pos a1, if_pos a2, if_pos a1, if_pos a3, cnt' hj hm]
    rfl) (fun j hj => by
    unfold sSa4 stSa4 putSa4
    dsimp only
    rw [ltno hj, if_neg (by simp)]) a.length 0 (by omega)
  exact this
theorem sa_eq (a b : List ByteArray) (hm : a.length ≤ 9223372036854775807) : cSa a b = true ∧ vSa a b = eqLs ⟨#[]⟩ eqB a b := by
  have h : RSa a b = some (.bool (eqLs ⟨#[]⟩ eqB a b), []) := by
    unfold RSa eqLs
    rw [len_ne]
    by_cases hl : a.length = b.length
    · have hi := sa_it a b hm hl
      have ho : okSa4 { x0 := a, x1 := b, x4 := false, x5 := 0 : KSa4 } = true := by unfold okSa4; rw [hi]; rfl
      rw [decide_eq_true hl, if_neg (by simp), if_pos ho, hi]
      cases (List.range' 0 (a.length - 0)).any fun j => !eqB (gt ⟨#[]⟩ a j) (gt ⟨#[]⟩ b j) <;> rfl
    · rw [decide_eq_false hl]; rfl
  unfold cSa vSa oSa; rw [h]; exact ⟨rfl, rfl⟩
end
end Go.Proofs.YtpbpebjfglfjfaaGreatDoor.X
/-! The law of Used, as its row asks it. -/
namespace Go.Proofs.YtpbpebjfglfjfaaGreatDoor.X
open Go Go.Proofs Go.RowKit Go.Proofs.YtpbpebjfglfjfaaGreatDoor
noncomputable section
theorem froms_eq (p : GProgram) : p.drives.flatMap (fun x => [x.from_]) = froms p := by
  unfold froms
  induction p.drives with
  | nil => rfl
  | cons x l ih => rw [List.flatMap_cons, ih]; rfl
theorem us_run (p : GProgram) (h : SmallP p) (hk : KnownP p) : ∃ m, Cut p m ∧ crR [some 31, none] (RUs p) = some (.tup [.agg (enc31 (cutP p m)), .int .i64 0], []) := by
  have e4 := us4 p h
  have hlen := h.links
  have hl : (froms p).length + sumU [] p.nodes 0 = (linksV p).length := by
    rw [sumU_nil]; unfold linksV; rw [List.length_append, froms_eq]; omega
  have o4 : okUs4 { x1 := p, x3 := 0, x4 := [], x5 := [], x16 := p.drives, x17 := (↑p.drives.length : Int), x18 := 0 : KUs4 } = true := by
    unfold okUs4; rw [e4]; dsimp only; rw [Nat.ble_eq_true_of_le h.dl]; simp [isOO]
  have e4' : (getLO (bUs4 { x1 := p, x3 := 0, x4 := [], x5 := [], x16 := p.drives, x17 := (↑p.drives.length : Int), x18 := 0 : KUs4 }) (oUs4 { x1 := p, x3 := 0, x4 := [], x5 := [], x16 := p.drives, x17 := (↑p.drives.length : Int), x18 := 0 : KUs4 })).x5 = froms p := by rw [e4]; exact froms_eq p
  obtain ⟨m, hm, hc⟩ := used_loop { x1 := p, x3 := 0, x4 := [], x5 := froms p : KUs8 } h.nl hk ((froms p).length + (p.nodes.flatMap fun x => x.inputs).length) [] (froms p) (fun l hl => hk l (mem_drives hl)) (by rw [sumU_nil]; exact Nat.le_refl _) (by show (froms p).length + sumU [] p.nodes 0 < 16777216; rw [hl]; exact hlen)
  have hi8 : iUs8 { x1 := p, x3 := 0, x4 := [], x5 := froms p : KUs8 } = some (.inl ⟨m⟩) := hm
  have o8 : okUs8 { x1 := p, x3 := 0, x4 := [], x5 := froms p : KUs8 } = true := by unfold okUs8; rw [hi8]; rfl
  have cp := cp_eq p h
  have hn : p.nodes.length < 16777216 := by have := h.nd; omega
  have e21 : oUs21 { x4 := m, x10 := p, x11 := [], x63 := p.nodes, x64 := (↑p.nodes.length : Int), x65 := 0 : KUs21 } = some (.inl ⟨keepN m p.nodes 0⟩) := us21 p m p hn p.nodes 0 [] (by simpa using hn)
  have o21 : okUs21 { x4 := m, x10 := p, x11 := [], x63 := p.nodes, x64 := (↑p.nodes.length : Int), x65 := 0 : KUs21 } = true := by
    unfold okUs21; rw [e21]; dsimp only; rw [Nat.ble_eq_true_of_le h.nl]; simp [isOO]
  refine ⟨m, hc, ?_⟩
  unfold RUs
  rw [if_pos o4, e4']
  rw [show isLO (oUs4 { x1 := p, x3 := 0, x4 := [], x5 := [], x16 := p.drives, x17 := (↑p.drives.length : Int), x18 := 0 : KUs4 }) = true by rw [e4]; rfl, if_pos rfl, if_pos o8, hi8, if_pos (isLO_inl _), if_pos cp.1, cp.2]
  rw [show (getLO ({ x4 := [] : P_Us8 }) (some (.inl ⟨m⟩) : Option (P_Us8 ⊕ Q_Us8))).x4 = m from rfl]
  rw [if_pos o21, e21, if_pos (isLO_inl _)]
  rfl
theorem us_eq (p : GProgram) (h : SmallP p) (hk : KnownP p) : ∃ m, Cut p m ∧ cUs p = true ∧ vUs p = (cutP p m, 0) := by
  obtain ⟨m, hc, hr⟩ := us_run p h hk
  refine ⟨m, hc, ?_⟩
  unfold cUs vUs oUs
  rw [hr]
  exact ⟨rfl, rfl⟩
theorem sortB_length (l : List ByteArray) : (sortB l).length = l.length := by unfold sortB; rw [unB_length, List.length_mergeSort, toB_length]
theorem compB_le (l : List ByteArray) : (compB l).length ≤ l.length := by unfold compB; rw [unB_length]; have := compact_le (toB l); rwa [toB_length] at this
def drivesV (p : GProgram) : List ByteArray := compB (sortB (p.drives.flatMap fun d => [d.point]))
theorem dr_len (p : GProgram) : (drivesV p).length ≤ p.drives.length := by
  unfold drivesV
  refine Nat.le_trans (compB_le _) ?_
  rw [sortB_length]
  have := flat_le (fun d : GDrive => [d.point]) 1 p.drives fun x _ => by simp
  omega
theorem dr_run (p : GProgram) (h : SmallP p) : crR [some 9] (RDr p) = some (.ro 9 (drivesV p), []) := by
  have hn := h.nd
  have hl := flat_le (fun d : GDrive => [d.point]) 1 p.drives fun x _ => by simp
  have e3 : oDr3 { x3 := [], x7 := p.drives, x8 := (↑p.drives.length : Int), x9 := 0 : KDr3 } = some (.inl ⟨p.drives.flatMap fun d => [d.point]⟩) := scan_app (fun b => (⟨b⟩ : B_Dr3)) (fun d : GDrive => [d.point]) _ (fun b x => rfl) p.drives [] (by simp at hl ⊢; omega)
  have o3 : okDr3 { x3 := [], x7 := p.drives, x8 := (↑p.drives.length : Int), x9 := 0 : KDr3 } = true := by
    unfold okDr3; rw [e3]; dsimp only; rw [Nat.ble_eq_true_of_le h.dl]; simp [isOO]
  unfold RDr
  rw [if_pos o3, e3, if_pos (isLO_inl _)]
  rw [show (getLO (bDr3 { x3 := [], x7 := p.drives, x8 := (↑p.drives.length : Int), x9 := 0 : KDr3 }) (some (.inl ⟨p.drives.flatMap fun d => [d.point]⟩) : Option (B_Dr3 ⊕ EDr3))).x3 = p.drives.flatMap fun d => [d.point] from rfl]
  rw [if_pos (blt_t (by omega)), if_pos (Nat.ble_eq_true_of_le (by rw [sortB_length]; omega))]
  rfl
theorem dr_eq (p : GProgram) (h : SmallP p) : cDr p = true ∧ vDr p = drivesV p := by
  unfold cDr vDr oDr; rw [dr_run p h]; exact ⟨rfl, rfl⟩
theorem fd_eq (p : GProgram) (s : ByteArray) (hm : p.nodes.length ≤ 9223372036854775807) (hk : ∃ x ∈ p.nodes, x.name = s) : cFd p s = true ∧ (vFd p s).2 = 0 := by
  have hi := fi_eq p s hm
  obtain ⟨i, h, e, _⟩ := idxN_known hk
  have hv : vFi p s = (i : Int) := hi.2.trans e
  have hr : RFd p s = some (.tup [.int .i64 (i : Int), .int .i64 0], []) := by
    unfold RFd
    rw [if_pos hi.1, hv, if_neg (by simp)]
  unfold cFd vFd oFd; rw [hr]; exact ⟨rfl, rfl⟩
theorem fd_c (p : GProgram) (s : ByteArray) (hm : p.nodes.length ≤ 9223372036854775807) : cFd p s = true := by
  have hi := fi_eq p s hm
  have hr : ∃ a b, RFd p s = some (.tup [.int .i64 a, .int .i64 b], []) := by
    unfold RFd
    rw [if_pos hi.1]
    by_cases h : decide (vFi p s < 0) = true
    · rw [if_pos h]; exact ⟨_, _, rfl⟩
    · rw [if_neg h]; exact ⟨_, _, rfl⟩
  obtain ⟨a, b, hr⟩ := hr
  unfold cFd oFd; rw [hr]; rfl
abbrev dLi : GLink := ⟨⟨#[]⟩, 0, ⟨#[]⟩, ⟨0, 0⟩, false, ⟨0, 0⟩⟩
theorem ul11 (u : GProgram) (h : SmallP u) (hk : KnownP u) : iUl11 { x4 := false, x5 := u, x9 := linksV u, x10 := 0 : KUl11 } = some (.inl ()) := by
  have hm : (linksV u).length ≤ 9223372036854775807 := by have := h.links; omega
  have := iter2_any (ε := P_Ul11) (linksV u).length (fun j => (⟨(j : Int)⟩ : B_Ul11)) () (⟨false⟩ : Q_Ul11) (fun j => false) (sUl11 { x4 := false, x5 := u, x9 := linksV u, x10 := 0 : KUl11 }) (fun j hj => by
    have a1 : (0 : Int) ≤ (j : Int) := by omega
    have a2 : (j : Int) < ((linksV u).length : Int) := by omega
    have g1 : ∀ d, gt d (linksV u) (j : Int).toNat = (linksV u)[j] := fun d => gtj' d _ _ hj
    unfold sUl11 stUl11 putUl11
    dsimp only
    simp only [g1]
    rw [if_pos (lt1' hj), if_pos a1, if_pos a2, if_pos (fd_c u _ h.nl), if_pos a1, if_pos a2, cnt' hj hm]
    by_cases he : (linksV u)[j].node = bE
    · rw [show eqB (linksV u)[j].node ⟨#[]⟩ = true from eqB_t.2 he]
      rfl
    · rw [show eqB (linksV u)[j].node ⟨#[]⟩ = false from Bool.eq_false_iff.2 fun e => he (eqB_t.1 e), (fd_eq u _ h.nl (hk _ (List.getElem_mem hj) he)).2]
      rfl) (fun j hj => by
    unfold sUl11 stUl11 putUl11
    dsimp only
    rw [ltno hj, if_neg (by simp)]) (linksV u).length 0 (by omega)
  rw [show (List.range' 0 ((linksV u).length - 0)).any (fun _ => false) = false by rw [List.any_eq_false]; simp] at this
  exact this
theorem ul21 (u : GProgram) (h : SmallP u) (i : Nat) (hi : i < u.nodes.length) : iUl21 { x4 := false, x5 := u, x9 := linksV u, x13 := (i : Int), x14 := false, x15 := 0 : KUl21 } = some (.inl ⟨(linksV u).any fun l => eqB l.node (u.nodes[i]).name⟩) := by
  have hm : (linksV u).length ≤ 9223372036854775807 := by have := h.links; omega
  have := iter2_or (ε := P_Ul21) (ρ := Q_Ul21) (linksV u).length (fun b j => (⟨b, (j : Int)⟩ : B_Ul21)) (fun b => ⟨b⟩) (fun j => eqB (gt dLi (linksV u) j).node (u.nodes[i]).name) (sUl21 { x4 := false, x5 := u, x9 := linksV u, x13 := (i : Int), x14 := false, x15 := 0 : KUl21 }) (fun b j hj => by
    have a1 : (0 : Int) ≤ (j : Int) := by omega
    have a2 : (j : Int) < ((linksV u).length : Int) := by omega
    have a3 : (0 : Int) ≤ (i : Int) := by omega
    have a4 : (i : Int) < (u.nodes.length : Int) := by omega
    have g1 : ∀ d, gt d (linksV u) (j : Int).toNat = (linksV u)[j] := fun d => gtj' d _ _ hj
    have g2 : ∀ d, gt d u.nodes (i : Int).toNat = u.nodes[i] := fun d => gtj' d _ _ hi
    have g3 : ∀ d, gt d (linksV u) j = (linksV u)[j] := fun d => gt_at d _ _ hj
    unfold sUl21 stUl21 putUl21
    dsimp only
    simp only [g1, g2, g3]
    rw [if_pos (lt1' hj), cnt' hj hm]
    cases b with
    | true => rfl
    | false => rw [if_pos rfl, if_pos a1, if_pos a2, if_pos a3, if_pos a4]; rfl) (fun b j hj => by
    unfold sUl21 stUl21 putUl21
    dsimp only
    rw [ltno hj, if_neg (by simp)]) (linksV u).length false 0 (by omega)
  rw [any_gt dLi (linksV u) (fun l => eqB l.node (u.nodes[i]).name), Bool.false_or] at this
  exact this
theorem ul17 (u : GProgram) (h : SmallP u) (hr : ∀ x ∈ u.nodes, ∃ l ∈ linksV u, l.node = x.name) : iUl17 { x4 := false, x5 := u, x9 := linksV u, x13 := 0 : KUl17 } = some (.inl ()) := by
  have := iter2_any (ε := P_Ul17) u.nodes.length (fun j => (⟨(j : Int)⟩ : B_Ul17)) () (⟨false⟩ : Q_Ul17) (fun j => false) (sUl17 { x4 := false, x5 := u, x9 := linksV u, x13 := 0 : KUl17 }) (fun j hj => by
    have hx := ul21 u h j hj
    have ht : ((linksV u).any fun l => eqB l.node (u.nodes[j]).name) = true := by
      obtain ⟨l, hl, e⟩ := hr _ (List.getElem_mem hj)
      exact List.any_eq_true.2 ⟨l, hl, eqB_t.2 e⟩
    rw [ht] at hx
    unfold sUl17 stUl17 putUl17 okUl21
    dsimp only
    rw [if_pos (lt1' hj), hx, if_pos (isO_some _), if_pos (isLO_inl _), cnt' hj h.nl]
    rfl) (fun j hj => by
    unfold sUl17 stUl17 putUl17
    dsimp only
    rw [ltno hj, if_neg (by simp)]) u.nodes.length 0 (by omega)
  rw [show (List.range' 0 (u.nodes.length - 0)).any (fun _ => false) = false by rw [List.any_eq_false]; simp] at this
  exact this
theorem ul_run (pts : List GPoint) (p : GProgram) (hs : p.nodes.length + p.drives.length ≤ 9223372036854775807) : RUl pts p = some (.bool true, []) := by
  unfold RUl
  cases h0 : decide ((pts.length : Int) > 40) with
  | true => rfl
  | false =>
  rw [if_pos rfl, if_pos (sm_eq p hs).1, (sm_eq p hs).2]
  cases h1 : smallV p with
  | false => rfl
  | true =>
  have h := small_p h1
  have hp : pts.length ≤ 9223372036854775807 := by have := of_decide_eq_false h0; omega
  rw [if_pos (show (!true) = false from rfl), if_pos (ck_eq pts p h hp).1, (ck_eq pts p h hp).2]
  by_cases hv : specV pts p = 0
  · have V := (valid_iff pts p).1 hv
    obtain ⟨m, hc, c1, v1⟩ := us_eq p h V.known
    have hu := cut_small (m := m) h
    have Vu := cut_valid hc V
    obtain ⟨m2, hc2, c2, v2⟩ := us_eq (cutP p m) hu Vu.known
    rw [cut_again hc V.known (dup_nodup V.dn) hc2] at v2
    rw [hv, if_neg (by simp), if_pos c1, v1]
    dsimp only
    have eq := eq_eq (cutP p m) (cutP p m) hu
    have ck := ck_eq pts (cutP p m) hu hp
    have du := dr_eq (cutP p m) hu
    have dp := dr_eq p h
    have hdl : (drivesV p).length ≤ 9223372036854775807 := Nat.le_trans (dr_len p) h.dl
    have sa := sa_eq (drivesV p) (drivesV p) hdl
    have lk := lk_eq (cutP p m) hu.nl hu.dl hu.links
    have e11 := ul11 (cutP p m) hu Vu.known
    have e17 := ul17 (cutP p m) hu (cut_read hc V.known)
    have o11 : okUl11 { x4 := false, x5 := cutP p m, x9 := linksV (cutP p m), x10 := 0 : KUl11 } = true := by unfold okUl11; rw [e11]; rfl
    have o17 : okUl17 { x4 := false, x5 := cutP p m, x9 := linksV (cutP p m), x13 := 0 : KUl17 } = true := by unfold okUl17; rw [e17]; rfl
    rw [if_pos c2, if_pos (by rfl), v2]
    dsimp only
    rw [if_pos (by rfl), if_pos eq.1, eq.2, (eqPr_iff _ _).2 rfl, if_pos (by rfl), if_pos ck.1, ck.2, (valid_iff pts _).2 Vu, if_pos (by rfl), if_pos du.1, if_pos dp.1, du.2, dp.2]
    rw [show drivesV (cutP p m) = drivesV p from rfl, if_pos sa.1, sa.2, (eqLs_iff _ (fun x y => eqB_t) _ _).2 rfl, if_neg (by simp), if_pos lk.1, lk.2, if_pos o11, e11, if_pos (isLO_inl _), if_pos o17, e17, if_pos (isLO_inl _)]
  · rw [decide_eq_false hv]; rfl
theorem ul_eq (pts : List GPoint) (p : GProgram) (hs : p.nodes.length + p.drives.length ≤ 9223372036854775807) : cUl pts p = true ∧ vUl pts p = true := by
  unfold cUl vUl oUl; rw [ul_run pts p hs]; exact ⟨rfl, rfl⟩
theorem okProgramUsed : OK 5 conUl := okUl
theorem hgProgramUsed {A B : Prop} (pts : List (At 66)) (p : GProgram) (h0 : A) (h1 : B) (hz : p.nodes.length ≤ reachBytes ∧ p.drives.length ≤ reachBytes) : conUl [.ro 66 pts, .agg (encT 31 p)] = some (true, (.bool true, [])) := by
  have hs : p.nodes.length + p.drives.length ≤ 9223372036854775807 := by
    have h1 : p.nodes.length ≤ 140737488351232 := hz.1
    have h2 : p.drives.length ≤ 140737488351232 := hz.2
    omega
  have h := ul_eq pts p hs
  have e : conUl [.ro 66 pts, .agg (encT 31 p)] = some (cUl pts p, (.bool (vUl pts p), [])) := rfl
  rw [e, h.1, h.2]
end
end Go.Proofs.YtpbpebjfglfjfaaGreatDoor.X
