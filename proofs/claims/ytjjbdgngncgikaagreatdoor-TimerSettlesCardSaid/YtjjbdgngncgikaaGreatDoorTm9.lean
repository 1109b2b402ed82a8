import Derived.Test.YtjjbdgngncgikaaGreatDoorTm8
import Derived.Test.YtjjbdgngncgikaaGreatDoorRx10
import Derived.Test.YtjjbdgngncgikaaGreatDoorRx11
import Derived.Test.YtjjbdgngncgikaaGreatDoorRx13
import Derived.Test.YtjjbdgngncgikaaGreatDoorRx14
import Derived.Test.YtjjbdgngncgikaaGreatDoorRx16
import Derived.Test.YtjjbdgngncgikaaGreatDoorRx19
namespace Go.Proofs.YtjjbdgngncgikaaGreatDoor.Tm
open Go Go.RowKit Go.Proofs.YtjjbdgngncgikaaGreatDoor.R Go.Proofs.YtjjbdgngncgikaaGreatDoorW.PrintWords Go.Proofs.YtjjbdgngncgikaaGreatDoorW.PrintMore
set_option linter.unusedVariables false
set_option linter.unusedSimpArgs false
def Ends (nm : ByteArray) (l : List Int) (r : List S26) (n : Nat) : Prop := ∃ μ : List Int → Nat, ∀ s, VS nm l n s → μ s ≤ 700 ∧ ((gs nm l r s).2.2 ≠ s → μ (gs nm l r s).2.2 < μ s)
theorem ends_idem {nm : ByteArray} {l : List Int} {r : List S26} {n : Nat} (h : ∀ s, VS nm l n s → (gs nm l r (gs nm l r s).2.2).2.2 = (gs nm l r s).2.2) : Ends nm l r n := by
  refine ⟨fun s => if (gs nm l r s).2.2 = s then 0 else 1, fun s hs => ⟨?_, fun hn => ?_⟩⟩
  · simp only; split <;> omega
  · simp only; rw [if_pos (h s hs), if_neg hn]; omega
def Tells (nm : ByteArray) (l s : List Int) (r : List S26) : Prop := ∃ R K, ∀ k, K ≤ k → timer_Settle.f k nm l s r = some R ∧ plenumref19_Settle.f k nm l s r = some R
theorem tells_err {nm : ByteArray} {l s : List Int} {r : List S26} {s' : List Int} {kd x e : Int} (he : e ≠ 0) (h : ∀ k, 80 ≤ k → timer_Step.f k nm l s r 1 = some (s', kd, x, e) ∧ plenumref19_Step.f k nm l s r 1 = some (s', kd, x, e)) : Tells nm l s r := by
  refine ⟨(0, 0, 0, e), 80, fun k hk => ?_⟩
  unfold timer_Settle.f plenumref19_Settle.f
  rw [(h k hk).1, (h k hk).2, Option.bind_some, Option.bind_some, if_neg he, if_neg he]
  exact ⟨rfl, rfl⟩
theorem tells_of {nm : ByteArray} {B : List (Int × Int)} {T : List Bool} {n : Nat} (b : RB nm B T n) (c : Blk nm B T n) (hh : nm.toList = ([104, 121, 115, 116] : List UInt8) → B.length = 2) (hn : 0 < n) (l s : List Int) (r : List S26) (hE : goodP nm B l → inpE T r = 0 → Ends nm l r n) : Tells nm l s r := by
  obtain ⟨s', kd, x, e, _, hb, h0⟩ := both b c hh l s r 1
  by_cases he : e = 0
  · subst he
    obtain ⟨hg, _, _, _, hr⟩ := h0 rfl
    have hv : VS nm l n s := by
      have h := (hb 81 (by omega)).1
      rw [step_f c hh l s r 1 80 (by omega), if_pos hg] at h
      by_cases hs : (s.length : Int) = n
      · rw [if_pos hs] at h
        cases hp : timer_possible.f nm l s with
        | none => rw [hp, Option.bind_none] at h; cases h
        | some p =>
          rw [hp, Option.bind_some] at h
          cases p
          · rw [if_neg (fun h => absurd h.1 (by simp))] at h
            simp only [Option.some.injEq, Prod.mk.injEq] at h
            exact absurd h.2.2.2 (by decide)
          · exact ⟨by omega, hp⟩
      · rw [if_neg hs] at h
        simp only [Option.some.injEq, Prod.mk.injEq] at h
        exact absurd h.2.2.2 (by decide)
    obtain ⟨μ, hμ⟩ := hE hg hr
    obtain ⟨g1, g2, g3⟩ := gs_ok b hg hr s hv
    obtain ⟨R, r1, r2⟩ := settle_loop b c hg hr hn μ hμ 700 s (gs nm l r s).2.2 1 0 2 (hμ _ g2).1 hv g2 rfl (by omega) (by omega) (by omega) (by omega)
    refine ⟨R, 100000, fun k hk => ⟨?_, ?_⟩⟩
    · unfold timer_Settle.f
      obtain ⟨k', rfl⟩ : ∃ m, k = m + 1 := ⟨k - 1, by omega⟩
      rw [step_f c hh l s r 1 k' (by omega), if_pos hg, if_pos (by have := hv.1; omega), hv.2, Option.bind_some, if_pos ⟨rfl, by omega, by omega⟩, if_pos hr, g1 k' (by omega), Option.bind_some, Option.bind_some, if_pos rfl]
      exact r1 _ (by omega)
    · unfold plenumref19_Settle.f
      rw [g3 k (by omega), Option.bind_some, if_pos rfl]
      exact r2 _ (by omega)
  · exact tells_err he hb
/-! ### The blocks -/
theorem good_in1 {r : List S26} (h : inpE [true] r = 0) : ∃ a, r = [bv a] := by
  have hr1 : r.length = ([true] : List Bool).length := by
    unfold inpE at h; split at h
    · assumption
    · omega
  unfold inpE at h; rw [if_pos hr1] at h
  exact inp1_bv hr1 h
theorem good_in2 {r : List S26} (h : inpE [true, true] r = 0) : ∃ a b, r = [bv a, bv b] := by
  have hr1 : r.length = ([true, true] : List Bool).length := by
    unfold inpE at h; split at h
    · assumption
    · omega
  unfold inpE at h; rw [if_pos hr1] at h
  exact inp2_bv hr1 h
theorem good_inA {r : List S26} (h : inpE [false] r = 0) : ∃ x, r = [⟨1, x⟩] := by
  have hr1 : r.length = ([false] : List Bool).length := by
    unfold inpE at h; split at h
    · assumption
    · omega
  unfold inpE at h; rw [if_pos hr1] at h
  exact inp1_an hr1 h
theorem gs_edg (t : Int) (a : Bool) : (gs edgeB [] [bv a] [t]).2.2 = [bitv a] := by
  unfold gs bv
  rw [f_edge, bitv_one]; rfl
theorem ends_edg (r : List S26) (hr : inpE [true] r = 0) : Ends edgeB [] r 1 := by
  obtain ⟨a, rfl⟩ := good_in1 hr
  refine ends_idem fun s hs => ?_
  match s, hs.1 with
  | [t], _ => rw [gs_edg, gs_edg]
theorem gs_lat (t : Int) (a b : Bool) : (gs latchB [] [bv a, bv b] [t]).2.2 = [latS t a b] := by
  unfold gs bv
  rw [f_latch, bitv_one, bitv_one]; rfl
theorem ends_lat (r : List S26) (hr : inpE [true, true] r = 0) : Ends latchB [] r 1 := by
  obtain ⟨a, b, rfl⟩ := good_in2 hr
  refine ends_idem fun s hs => ?_
  match s, hs.1 with
  | [t], _ => rw [gs_lat, gs_lat]; unfold latS; cases a <;> cases b <;> rfl
theorem gs_hys (up dn t x : Int) : (gs hystB [up, dn] [⟨1, x⟩] [t]).2.2 = [hysS up dn t x] := by
  unfold gs
  rw [f_hyst]; rfl
theorem ends_hys (l : List Int) (r : List S26) (hg : goodP hystB [MM, MM] l) (hr : inpE [false] r = 0) : Ends hystB l r 1 := by
  obtain ⟨up, dn, rfl, _⟩ := (goodH2 l).1 hg
  obtain ⟨x, rfl⟩ := good_inA hr
  refine ends_idem fun s hs => ?_
  match s, hs.1 with
  | [t], _ =>
    rw [gs_hys, gs_hys]; unfold hysS
    by_cases c : x > up
    · rw [if_pos c, if_pos c]
    · rw [if_neg c, if_neg c]
      by_cases d : x < dn
      · rw [if_pos d, if_pos d]
      · rw [if_neg d, if_neg d]
theorem gs_cnt (p n : Int) (a b : Bool) (h1 : 0 ≤ n) (h2 : n ≤ 1000000000) : (gs countB [] [bv a, bv b] [p, n]).2.2 = [bitv a, cntS p n a b] := by
  unfold gs bv
  rw [f_count [] p n (bitv a) (bitv b) 2 2 1 [] 59 h1 h2, bitv_one, bitv_one]; rfl
theorem ends_cnt (r : List S26) (hr : inpE [true, true] r = 0) : Ends countB [] r 2 := by
  obtain ⟨a, b, rfl⟩ := good_in2 hr
  refine ends_idem fun s hs => ?_
  match s, hs.1, hs.2 with
  | [p, n], _, h =>
    rw [pos_count] at h
    have h := of_decide_eq_true (Option.some.inj h)
    have hc : 0 ≤ cntS p n a b ∧ cntS p n a b ≤ 1000000000 := by
      unfold cntS; split
      · omega
      · split <;> omega
    rw [gs_cnt p n a b h.2.1 h.2.2, gs_cnt _ _ a b hc.1 hc.2]
    cases b
    · have e : ∀ y, cntS (bitv a) y a false = y := by
        intro y
        unfold cntS
        rw [if_neg (show ¬ (false = true) by simp), if_neg (fun h => by cases a <;> simp [bitv] at h)]
      rw [e]
    · rfl
theorem ends_by {nm : ByteArray} {l : List Int} {r : List S26} {n : Nat} (μ : List Int → Nat) (h : ∀ s, VS nm l n s → μ s ≤ 700 ∧ ((gs nm l r s).2.2 ≠ s → μ (gs nm l r s).2.2 < μ s)) : Ends nm l r n := ⟨μ, h⟩
theorem gs_on (time t : Int) (a : Bool) (t1 : 0 ≤ t) (t2 : t ≤ time + 1) (h1 : 0 ≤ time) (h2 : time ≤ 86400) : (gs ondelayB [time] [bv a] [t]).2.2 = [(onS time 1 t a).1] := by
  unfold gs bv
  rw [f_on time t _ _ 1 _ t1 t2 h1 h2 (by omega) (by omega), bitv_one]; rfl
theorem ends_on (time : Int) (h1 : 0 ≤ time) (h2 : time ≤ 200) (r : List S26) (hr : inpE [true] r = 0) : Ends ondelayB [time] r 1 := by
  obtain ⟨a, rfl⟩ := good_in1 hr
  cases a
  · refine ends_idem fun s hs => ?_
    match s, hs.1, hs.2 with
    | [t], _, h =>
      rw [pos_on time t h1 (by omega)] at h
      have h := of_decide_eq_true (Option.some.inj h)
      rw [gs_on time t false h.1 h.2 h1 (by omega)]
      show (gs ondelayB [time] [bv false] [0]).2.2 = [0]
      rw [gs_on time 0 false (by omega) (by omega) h1 (by omega)]; rfl
  · refine ends_by (fun s => (time + 1 - rd s 0).toNat) fun s hs => ?_
    match s, hs.1, hs.2 with
    | [t], _, h =>
      rw [pos_on time t h1 (by omega)] at h
      have h := of_decide_eq_true (Option.some.inj h)
      rw [gs_on time t true h.1 h.2 h1 (by omega)]
      have e : (onS time 1 t true).1 = if t = 0 then 1 else min t time + 1 := by
        unfold onS
        rw [if_pos rfl]
        simp only
        split
        · rfl
        · omega
      rw [e]
      simp only [r0]
      refine ⟨by omega, fun hn => ?_⟩
      have hn : (if t = 0 then 1 else min t time + 1) ≠ t := fun h => hn (by rw [h])
      by_cases c : t = 0
      · rw [if_pos c] at hn ⊢; omega
      · rw [if_neg c] at hn ⊢; omega
theorem gs_off (time t : Int) (a : Bool) (t1 : -1 ≤ t) (t2 : t ≤ time) (h1 : 0 ≤ time) (h2 : time ≤ 86400) : (gs offdelayB [time] [bv a] [t]).2.2 = [(offS time 1 t a).1] := by
  unfold gs bv
  rw [f_off time t _ _ 1 _ t1 t2 h1 h2 (by omega) (by omega), bitv_one]; rfl
theorem ends_off (time : Int) (h1 : 0 ≤ time) (h2 : time ≤ 200) (r : List S26) (hr : inpE [true] r = 0) : Ends offdelayB [time] r 1 := by
  obtain ⟨a, rfl⟩ := good_in1 hr
  cases a
  · refine ends_by (fun s => if rd s 0 = 0 then 0 else if rd s 0 = -1 then (time + 2).toNat else (time + 1 - rd s 0).toNat) fun s hs => ?_
    match s, hs.1, hs.2 with
    | [t], _, h =>
      rw [pos_off time t] at h
      have h := of_decide_eq_true (Option.some.inj h)
      rw [gs_off time t false h.1 h.2 h1 (by omega)]
      have e : (offS time 1 t false).1 = if t = 0 then 0 else if t = -1 then (if 0 < time then 1 else 0) else (if t < time then t + 1 else 0) := by
        unfold offS
        rw [if_neg (show ¬ (false = true) by simp)]
        by_cases c : t = 0
        · rw [if_pos c, if_pos c]
        · rw [if_neg c, if_neg c]
          by_cases d : t = -1
          · rw [if_pos d, if_pos d]
            by_cases g : 0 < time
            · rw [if_pos g, if_pos g]; rfl
            · rw [if_neg g, if_neg g]
          · rw [if_neg d, if_neg d, show t - 1 + 1 = t by omega]
            by_cases g : t < time
            · rw [if_pos g, if_pos g]
            · rw [if_neg g, if_neg g]
      rw [e]
      simp only [r0]
      refine ⟨by split <;> (try split) <;> omega, fun hn => ?_⟩
      by_cases c : t = 0
      · rw [if_pos c] at hn; exact absurd (by rw [c]) hn
      · rw [if_neg c, if_neg c]
        by_cases d : t = -1
        · rw [if_pos d, if_pos d]
          by_cases g : 0 < time
          · rw [if_pos g, if_neg (by omega), if_neg (by omega)]; omega
          · rw [if_neg g, if_pos rfl]; omega
        · rw [if_neg d, if_neg d]
          by_cases g : t < time
          · rw [if_pos g, if_neg (by omega), if_neg (by omega)]; omega
          · rw [if_neg g, if_pos rfl]; omega
  · refine ends_idem fun s hs => ?_
    match s, hs.1, hs.2 with
    | [t], _, h =>
      rw [pos_off time t] at h
      have h := of_decide_eq_true (Option.some.inj h)
      rw [gs_off time t true h.1 h.2 h1 (by omega)]
      show (gs offdelayB [time] [bv true] [-1]).2.2 = [-1]
      rw [gs_off time (-1) true (by omega) (by omega) h1 (by omega)]; rfl
theorem gs_pul (time p q : Int) (a : Bool) (t1 : 0 ≤ q) (t2 : q ≤ time) (h1 : 0 ≤ time) (h2 : time ≤ 86400) : (gs pulseB [time] [bv a] [p, q]).2.2 = [bitv a, (pulS time 1 p q a).1] := by
  unfold gs bv
  rw [f_pul time p q _ _ 1 _ t1 t2 h1 h2 (by omega) (by omega) 59, bitv_one]; rfl
theorem ends_pul (time : Int) (h1 : 0 ≤ time) (h2 : time ≤ 200) (r : List S26) (hr : inpE [true] r = 0) : Ends pulseB [time] r 2 := by
  obtain ⟨a, rfl⟩ := good_in1 hr
  refine ends_by (fun s => if rd s 0 = bitv a then (if rd s 1 = 0 then 0 else (time + 1 - rd s 1).toNat) else 300) fun s hs => ?_
  match s, hs.1, hs.2 with
  | [p, q], _, h =>
    rw [pos_pulse] at h
    have h := of_decide_eq_true (Option.some.inj h)
    rw [gs_pul time p q a h.2.1 h.2.2 h1 (by omega)]
    have hb := bitv_wf a
    have hv : 0 ≤ (pulS time 1 p q a).1 ∧ (pulS time 1 p q a).1 ≤ time := by
      unfold pulS; split
      · simp only; omega
      · simp only; omega
    obtain ⟨y, hy⟩ : ∃ y, (pulS time 1 p q a).1 = y := ⟨_, rfl⟩
    rw [hy] at hv ⊢
    simp only [r00, r1]
    refine ⟨by split <;> (try split) <;> omega, fun hn => ?_⟩
    rw [if_pos trivial]
    by_cases c : p = bitv a
    · rw [if_pos c]
      have e : y = if q = 0 then 0 else if q < time then q + 1 else 0 := by
        rw [← hy]
        have e1 : pulE 1 p q a = if q = 0 then -1 else q := by
          unfold pulE
          rw [if_neg (fun h => by rw [c] at h; cases a <;> simp [bitv] at h), show q - 1 + 1 = q by omega]
        unfold pulS
        rw [e1]
        by_cases d : q = 0
        · rw [if_pos d, if_pos d, if_neg (by omega)]
        · rw [if_neg d, if_neg d]
          by_cases g : q < time
          · rw [if_pos ⟨by omega, g⟩, if_pos g]
          · rw [if_neg (fun h => g h.2), if_neg g]
      by_cases d : q = 0
      · rw [if_pos d] at e
        exact absurd (by rw [e, c, d]) hn
      · rw [if_neg d] at e ⊢
        by_cases g : q < time
        · rw [if_pos g] at e
          rw [if_neg (by omega)]; omega
        · rw [if_neg g] at e
          rw [if_pos e]; omega
    · rw [if_neg c]
      split <;> omega
theorem gs_min (up dn p q : Int) (a : Bool) (t1 : 0 ≤ q) (t2 : q ≤ 86400) : (gs minrunB [up, dn] [bv a] [p, q]).2.2 = [(minS up dn 1 p q a).1.1, (minS up dn 1 p q a).1.2] := by
  unfold gs bv
  rw [f_min up dn p q _ _ 1 _ t1 t2 (by omega) (by omega) 58, bitv_one]; rfl
def lsp (up dn p : Int) : Int := if p = 1 then up else dn
theorem ends_min (up dn : Int) (h1 : 0 ≤ up) (h2 : up ≤ 200) (h3 : 0 ≤ dn) (h4 : dn ≤ 200) (r : List S26) (hr : inpE [true] r = 0) : Ends minrunB [up, dn] r 2 := by
  obtain ⟨a, rfl⟩ := good_in1 hr
  have hl : ∀ p, 0 ≤ lsp up dn p ∧ lsp up dn p ≤ 200 := by intro p; unfold lsp; split <;> omega
  refine ends_by (fun s => if rd s 0 = bitv a then (if rd s 1 = 0 then 0 else (lsp up dn (rd s 0) + 1 - rd s 1).toNat) else (300 + (lsp up dn (rd s 0) - rd s 1)).toNat) fun s hs => ?_
  match s, hs.1, hs.2 with
  | [p, q], _, h =>
    rw [pos_min] at h
    have h := of_decide_eq_true (Option.some.inj h)
    have hq : 0 ≤ q ∧ q ≤ lsp up dn p := h.2
    have hlp := hl p
    rw [gs_min up dn p q a hq.1 (by omega)]
    have e : minS up dn 1 p q a = if bitv a = p ∨ (q ≠ 0 ∧ q < lsp up dn p) then ((p, if q ≠ 0 ∧ q < lsp up dn p then q + 1 else 0), p == 1) else ((bitv a, bitv (lsp up dn (bitv a) != 0)), a) := by
      unfold minS lsp
      rw [show q - 1 + 1 = q by omega]
    rw [e]
    simp only [r00, r1]
    refine ⟨by split <;> (try split) <;> omega, fun hn => ?_⟩
    by_cases c : bitv a = p
    · have c' : p = bitv a := c.symm
      rw [if_pos (Or.inl c)] at hn ⊢
      simp only at hn ⊢
      rw [if_pos c', if_pos c']
      by_cases d : q = 0
      · rw [if_neg (fun h => h.1 d)] at hn
        exact absurd (by rw [d]) hn
      · rw [if_neg d]
        by_cases g : q < lsp up dn p
        · rw [if_pos (show q ≠ 0 ∧ q < lsp up dn p from ⟨d, g⟩), if_neg (show ¬ q + 1 = 0 by omega)]; omega
        · rw [if_neg (show ¬ (q ≠ 0 ∧ q < lsp up dn p) from fun h => g h.2), if_pos rfl]; omega
    · have c' : ¬ p = bitv a := fun h => c h.symm
      rw [if_neg c']
      by_cases g : q ≠ 0 ∧ q < lsp up dn p
      · rw [if_pos (Or.inr g)]
        simp only
        rw [if_neg c', if_pos g]
        have := g.2; omega
      · rw [if_neg (show ¬ (bitv a = p ∨ (q ≠ 0 ∧ q < lsp up dn p)) from fun h => h.elim c g)]
        simp only
        rw [if_pos trivial]
        have hla := hl (bitv a)
        have hb := bitv_wf (lsp up dn (bitv a) != 0)
        split <;> omega
theorem tells (nm : ByteArray) (l s : List Int) (r : List S26) (hp : nm.toList ≠ ([104, 121, 115, 116] : List UInt8) → ∀ p ∈ l, ¬ (200 < p ∧ p ≤ 86400)) : Tells nm l s r := by
  by_cases h : ∃ x ∈ names8, nm.toList = x.toList
  · obtain ⟨x, hx, h⟩ := h
    obtain rfl := same_bytes h
    simp only [names8, List.mem_cons, List.not_mem_nil, or_false] at hx
    rcases hx with rfl | rfl | rfl | rfl | rfl | rfl | rfl | rfl
    · exact tells_of cnt_rb count_blk (fun h => absurd h nh_cnt) (by omega) l s r fun hg hr => by
        obtain rfl := (good0 nh_cnt l).1 hg
        exact ends_cnt r hr
    · exact tells_of edg_rb edge_blk (fun h => absurd h nh_edg) (by omega) l s r fun hg hr => by
        obtain rfl := (good0 nh_edg l).1 hg
        exact ends_edg r hr
    · exact tells_of hys_rb hyst_blk (fun _ => rfl) (by omega) l s r fun hg hr => ends_hys l r hg hr
    · exact tells_of lat_rb latch_blk (fun h => absurd h nh_lat) (by omega) l s r fun hg hr => by
        obtain rfl := (good0 nh_lat l).1 hg
        exact ends_lat r hr
    · exact tells_of min_rb minrun_blk (fun _ => rfl) (by omega) l s r fun hg hr => by
        obtain ⟨up, dn, rfl, h1, h2⟩ := (good2 nh_min l).1 hg
        have p1 := hp nh_min up (by simp)
        have p2 := hp nh_min dn (by simp)
        exact ends_min up dn (by omega) (by omega) (by omega) (by omega) r hr
    · exact tells_of off_rb offdelay_blk (fun h => absurd h nh_off) (by omega) l s r fun hg hr => by
        obtain ⟨time, rfl, h1, h2⟩ := (good1 nh_off l).1 hg
        have p1 := hp nh_off time (by simp)
        exact ends_off time h1 (by omega) r hr
    · exact tells_of on_rb ondelay_blk (fun h => absurd h nh_on) (by omega) l s r fun hg hr => by
        obtain ⟨time, rfl, h1, h2⟩ := (good1 nh_on l).1 hg
        have p1 := hp nh_on time (by simp)
        exact ends_on time h1 (by omega) r hr
    · exact tells_of pul_rb pulse_blk (fun h => absurd h nh_pul) (by omega) l s r fun hg hr => by
        obtain ⟨time, rfl, h1, h2⟩ := (good1 nh_pul l).1 hg
        have p1 := hp nh_pul time (by simp)
        exact ends_pul time h1 (by omega) r hr
  · obtain ⟨s', kd, x, e, _, h1, h2⟩ := agree nm l s r 1
    refine tells_err (fun he => ?_) h1
    have h : ∀ x ∈ names8, nm.toList ≠ x.toList := fun x hx e => h ⟨x, hx, e⟩
    have h3 := (h1 80 (by omega)).2
    unfold plenumref19_Step.f plenumref19_Check.f plenumref19_Known.f at h3
    have := known_none nm names8 h (by decide) 8 0 80 rfl (by omega)
    rw [show ((0 : Nat) : Int) = 0 from rfl] at this
    rw [rnames_f, Option.bind_some, this, Option.bind_some, if_neg (by simp), Option.bind_some, if_neg (by decide)] at h3
    simp only [Option.some.injEq, Prod.mk.injEq] at h3
    rw [he] at h3
    exact absurd h3.2.2.2 (by decide)
end Go.Proofs.YtjjbdgngncgikaaGreatDoor.Tm
