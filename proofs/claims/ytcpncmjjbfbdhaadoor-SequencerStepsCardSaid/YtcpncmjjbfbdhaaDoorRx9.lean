-- Written by this claim's own program out of the translation; not trusted: Lean checks it.
import Derived.Test.YtcpncmjjbfbdhaaDoorRx0
import Derived.Test.YtcpncmjjbfbdhaaDoorRx5
import Derived.Test.YtcpncmjjbfbdhaaDoorRx6
namespace Go.Proofs.YtcpncmjjbfbdhaaDoor.R
open Go.RowKit Go.Proofs.YtcpncmjjbfbdhaaDoorW.PrintWords Go.Proofs.YtcpncmjjbfbdhaaDoorW.PrintLast Go.Proofs.YtcpncmjjbfbdhaaDoorW.PrintMore
attribute [local go_sem] max2_int min2_int max_two min_two max_three min_three max_four min_four   -- for this text's walks alone
set_option linter.unusedVariables false
set_option linter.unusedSimpArgs false

/-! ### sequencer_Settle: function 16 -/
mutual
def sequencer_Settle.j1 : Nat → List Int → List Int → Int → Int → Option (Int × Int × Int)
 | 0, _, _, _, _ => none
 | k + 1, x0, x1, x2, x3 => if 0 < (x1.length : Int) then (if 1 < (x0.length : Int) then (if x2 > (rd x0 1) then (if 0 < (x0.length : Int) then (sequencer_Settle.j2 k x0 x1 x2 x3 (rd x0 0)) else (none)) else (if 2 < (x0.length : Int) then (if x2 < (rd x0 2) then (sequencer_Settle.j2 k x0 x1 x2 x3 0) else (sequencer_Settle.j2 k x0 x1 x2 x3 (rd x1 0))) else (none))) else (none)) else (none)
def sequencer_Settle.j2 : Nat → List Int → List Int → Int → Int → Int → Option (Int × Int × Int)
 | 0, _, _, _, _, _ => none
 | k + 1, x0, x1, x2, x3, x12 => sequencer_Settle.l0 k x0 x2 x3 x12 0 x1
def sequencer_Settle.l0 : Nat → List Int → Int → Int → Int → Int → List Int → Option (Int × Int × Int)
 | 0, _, _, _, _, _, _ => none
 | k + 1, x0, x2, x3, x12, x13, x14 => if 0 < (x14.length : Int) then (if (rd x14 0) = x12 then (some (x12, x13, 0)) else ((sequencer_stage.f k x0 x14 x2 x3).bind fun t278 => (sequencer_Settle.l0 k x0 x2 x3 x12 (wrap64 (x13 + 1)) t278))) else (none)
def sequencer_Settle.j0 : Nat → List Int → List Int → Int → Int → Bool → Option (Int × Int × Int)
 | 0, _, _, _, _, _ => none
 | k + 1, x0, x1, x2, x3, x29 => if x29 = true then (some (0, 0, 6)) else (if 1 < (x0.length : Int) then (if x2 > (rd x0 1) then (if 2 < (x0.length : Int) then (if x2 < (rd x0 2) then (some (0, 0, 10)) else (sequencer_Settle.j1 k x0 x1 x2 x3)) else (none)) else (sequencer_Settle.j1 k x0 x1 x2 x3)) else (none))
end
def sequencer_Settle.f (k : Nat) (l0 : List Int) (l1 : List Int) (a2 : Int) (a3 : Int) : Option (Int × Int × Int) := (sequencer_Check.f k (⟨#[115, 116, 97, 103, 101]⟩ : ByteArray) l0).bind fun t268 => (if t268 = 0 then ((sequencer_seconds.f a3).bind fun t269 => (if t269 = true then ((sequencer_possible.f k (⟨#[115, 116, 97, 103, 101]⟩ : ByteArray) l0 l1).bind fun t270 => (if t270 = true then (if a2 < (-1000000000000) then (sequencer_Settle.j0 k l0 l1 a2 a3 true) else (sequencer_Settle.j0 k l0 l1 a2 a3 (decide (a2 > 1000000000000)))) else (some (0, 0, 8)))) else (some (0, 0, 1)))) else (some (0, 0, t268)))
theorem sequencer_Settle.mono_l : ∀ k, (∀ y0 y1 y2 y3, LeO (sequencer_Settle.j1 k y0 y1 y2 y3) (sequencer_Settle.j1 (k + 1) y0 y1 y2 y3)) ∧ (∀ y0 y1 y2 y3 y4, LeO (sequencer_Settle.j2 k y0 y1 y2 y3 y4) (sequencer_Settle.j2 (k + 1) y0 y1 y2 y3 y4)) ∧ (∀ y0 y1 y2 y3 y4 y5, LeO (sequencer_Settle.l0 k y0 y1 y2 y3 y4 y5) (sequencer_Settle.l0 (k + 1) y0 y1 y2 y3 y4 y5)) ∧ (∀ y0 y1 y2 y3 y4, LeO (sequencer_Settle.j0 k y0 y1 y2 y3 y4) (sequencer_Settle.j0 (k + 1) y0 y1 y2 y3 y4))
 | 0 => ⟨fun _ _ _ _ r h => by simp [sequencer_Settle.j1] at h, fun _ _ _ _ _ r h => by simp [sequencer_Settle.j2] at h, fun _ _ _ _ _ _ r h => by simp [sequencer_Settle.l0] at h, fun _ _ _ _ _ r h => by simp [sequencer_Settle.j0] at h⟩
 | k + 1 => by
  obtain ⟨ih0, ih1, ih2, ih3⟩ := sequencer_Settle.mono_l k
  refine ⟨?_, ?_, ?_, ?_⟩
  ·
   intro y0 y1 y2 y3
   unfold sequencer_Settle.j1
   repeat' first
   | (with_reducible exact ih0 _ _ _ _)
   | (with_reducible exact ih1 _ _ _ _ _)
   | (with_reducible exact ih2 _ _ _ _ _ _)
   | (with_reducible exact ih3 _ _ _ _ _)
   | (with_reducible exact sequencer_Check.mono _ _ _)
   | (with_reducible exact sequencer_possible.mono _ _ _ _)
   | (with_reducible exact sequencer_stage.mono _ _ _ _ _)
   | (with_reducible exact LeO.refl _)
   | (with_reducible exact LeO.none _)
   | (with_reducible refine LeO.ite ?_ ?_)
   | (with_reducible refine LeO.bind ?_ (fun _ => ?_))
   | exact ih0 _ _ _ _
   | exact ih1 _ _ _ _ _
   | exact ih2 _ _ _ _ _ _
   | exact ih3 _ _ _ _ _
   | exact sequencer_Check.mono _ _ _
   | exact sequencer_possible.mono _ _ _ _
   | exact sequencer_stage.mono _ _ _ _ _
   | exact LeO.none _
   | refine LeO.ite ?_ ?_
   | refine LeO.bind ?_ (fun _ => ?_)
  ·
   intro y0 y1 y2 y3 y4
   unfold sequencer_Settle.j2
   repeat' first
   | (with_reducible exact ih0 _ _ _ _)
   | (with_reducible exact ih1 _ _ _ _ _)
   | (with_reducible exact ih2 _ _ _ _ _ _)
   | (with_reducible exact ih3 _ _ _ _ _)
   | (with_reducible exact sequencer_Check.mono _ _ _)
   | (with_reducible exact sequencer_possible.mono _ _ _ _)
   | (with_reducible exact sequencer_stage.mono _ _ _ _ _)
   | (with_reducible exact LeO.refl _)
   | (with_reducible exact LeO.none _)
   | (with_reducible refine LeO.ite ?_ ?_)
   | (with_reducible refine LeO.bind ?_ (fun _ => ?_))
   | exact ih0 _ _ _ _
   | exact ih1 _ _ _ _ _
   | exact ih2 _ _ _ _ _ _
   | exact ih3 _ _ _ _ _
   | exact sequencer_Check.mono _ _ _
   | exact sequencer_possible.mono _ _ _ _
   | exact sequencer_stage.mono _ _ _ _ _
   | exact LeO.none _
   | refine LeO.ite ?_ ?_
   | refine LeO.bind ?_ (fun _ => ?_)
  ·
   intro y0 y1 y2 y3 y4 y5
   unfold sequencer_Settle.l0
   repeat' first
   | (with_reducible exact ih0 _ _ _ _)
   | (with_reducible exact ih1 _ _ _ _ _)
   | (with_reducible exact ih2 _ _ _ _ _ _)
   | (with_reducible exact ih3 _ _ _ _ _)
   | (with_reducible exact sequencer_Check.mono _ _ _)
   | (with_reducible exact sequencer_possible.mono _ _ _ _)
   | (with_reducible exact sequencer_stage.mono _ _ _ _ _)
   | (with_reducible exact LeO.refl _)
   | (with_reducible exact LeO.none _)
   | (with_reducible refine LeO.ite ?_ ?_)
   | (with_reducible refine LeO.bind ?_ (fun _ => ?_))
   | exact ih0 _ _ _ _
   | exact ih1 _ _ _ _ _
   | exact ih2 _ _ _ _ _ _
   | exact ih3 _ _ _ _ _
   | exact sequencer_Check.mono _ _ _
   | exact sequencer_possible.mono _ _ _ _
   | exact sequencer_stage.mono _ _ _ _ _
   | exact LeO.none _
   | refine LeO.ite ?_ ?_
   | refine LeO.bind ?_ (fun _ => ?_)
  ·
   intro y0 y1 y2 y3 y4
   unfold sequencer_Settle.j0
   repeat' first
   | (with_reducible exact ih0 _ _ _ _)
   | (with_reducible exact ih1 _ _ _ _ _)
   | (with_reducible exact ih2 _ _ _ _ _ _)
   | (with_reducible exact ih3 _ _ _ _ _)
   | (with_reducible exact sequencer_Check.mono _ _ _)
   | (with_reducible exact sequencer_possible.mono _ _ _ _)
   | (with_reducible exact sequencer_stage.mono _ _ _ _ _)
   | (with_reducible exact LeO.refl _)
   | (with_reducible exact LeO.none _)
   | (with_reducible refine LeO.ite ?_ ?_)
   | (with_reducible refine LeO.bind ?_ (fun _ => ?_))
   | exact ih0 _ _ _ _
   | exact ih1 _ _ _ _ _
   | exact ih2 _ _ _ _ _ _
   | exact ih3 _ _ _ _ _
   | exact sequencer_Check.mono _ _ _
   | exact sequencer_possible.mono _ _ _ _
   | exact sequencer_stage.mono _ _ _ _ _
   | exact LeO.none _
   | refine LeO.ite ?_ ?_
   | refine LeO.bind ?_ (fun _ => ?_)
theorem sequencer_Settle.mono : ∀ a0 a1 a2 a3 k, LeO (sequencer_Settle.f k a0 a1 a2 a3) (sequencer_Settle.f (k + 1) a0 a1 a2 a3) := by
 intro a0 a1 a2 a3 k
 obtain ⟨ih0, ih1, ih2, ih3⟩ := sequencer_Settle.mono_l k
 unfold sequencer_Settle.f
 repeat' first
   | (with_reducible exact ih0 _ _ _ _)
   | (with_reducible exact ih1 _ _ _ _ _)
   | (with_reducible exact ih2 _ _ _ _ _ _)
   | (with_reducible exact ih3 _ _ _ _ _)
   | (with_reducible exact sequencer_Check.mono _ _ _)
   | (with_reducible exact sequencer_possible.mono _ _ _ _)
   | (with_reducible exact sequencer_stage.mono _ _ _ _ _)
   | (with_reducible exact LeO.refl _)
   | (with_reducible exact LeO.none _)
   | (with_reducible refine LeO.ite ?_ ?_)
   | (with_reducible refine LeO.bind ?_ (fun _ => ?_))
   | exact ih0 _ _ _ _
   | exact ih1 _ _ _ _ _
   | exact ih2 _ _ _ _ _ _
   | exact ih3 _ _ _ _ _
   | exact sequencer_Check.mono _ _ _
   | exact sequencer_possible.mono _ _ _ _
   | exact sequencer_stage.mono _ _ _ _ _
   | exact LeO.none _
   | refine LeO.ite ?_ ?_
   | refine LeO.bind ?_ (fun _ => ?_)
set_option maxHeartbeats 8000000 in
set_option maxRecDepth 100000 in
theorem sequencer_Settle.calls (k : Nat) (A0 : Option Addr) (c0 : Nat) (l0 : List Int) (P1_ : Nat → Prop) (A1 : Option Addr) (c1 : Nat) (l1 : List Int) (a2 : Int) (a3 : Int) (r1 : Int) (r2 : Int) (r3 : Int) (w : World) (hr0 : Kd.C (Kd.int .i64) w A0 l0.length l0) (hc0 : l0.length ≤ c0) (hs1 : Kd.V (Kd.int .i64) 2 w w.heap.size (fun k_ => P1_ k_) (.slice A1 l1.length c1) l1) (hG : GW w) (h : sequencer_Settle.f k l0 l1 a2 a3 = some (r1, r2, r3)) :
  Calls Tryd.prog 16 #[.slice A0 l0.length c0, .slice A1 l1.length c1, .int .i64 a2, .int .i64 a3] w fun e w' => e = .returned (.tuple #[.int .i64 r1, .int .i64 r2, .int .i64 r3]) ∧ Below w.heap.size w w' := by
 have HG := Aside0.mk hG
 clear hG
 have HR0 := Aside0.mk hr0
 have HC0 := Aside0.mk hc0
 clear hr0 hc0
 have HO1 := Aside0.mk (show Kd.V (Kd.int .i64) 2 w w.heap.size (fun k_ => (P1_ k_ ∨ w.heap.size ≤ k_)) (.slice A1 l1.length c1) l1 from Kd.V_mono hs1 (fun k_ hk => .inl hk))
 have HB := Aside0.mk (Below.refl w.heap.size w)
 have H : ((sequencer_Check.f k (⟨#[115, 116, 97, 103, 101]⟩ : ByteArray) l0).bind fun t268 => (if t268 = 0 then ((sequencer_seconds.f a3).bind fun t269 => (if t269 = true then ((sequencer_possible.f k (⟨#[115, 116, 97, 103, 101]⟩ : ByteArray) l0 l1).bind fun t270 => (if t270 = true then (if a2 < (-1000000000000) then (sequencer_Settle.j0 k l0 l1 a2 a3 true) else (sequencer_Settle.j0 k l0 l1 a2 a3 (decide (a2 > 1000000000000)))) else (some (0, 0, 8)))) else (some (0, 0, 1)))) else (some (0, 0, t268)))) = some (r1, r2, r3) := h
 clear h
 replace H := Option.bind_eq_some_iff.mp H
 obtain ⟨t268, A50, H⟩ := H
 replace H : (if t268 = 0 then ((sequencer_seconds.f a3).bind fun t269 => (if t269 = true then ((sequencer_possible.f k (⟨#[115, 116, 97, 103, 101]⟩ : ByteArray) l0 l1).bind fun t270 => (if t270 = true then (if a2 < (-1000000000000) then (sequencer_Settle.j0 k l0 l1 a2 a3 true) else (sequencer_Settle.j0 k l0 l1 a2 a3 (decide (a2 > 1000000000000)))) else (some (0, 0, 8)))) else (some (0, 0, 1)))) else (some (0, 0, t268))) = some (r1, r2, r3) := H
 have A5 := Aside0.mk A50
 clear A50
 by_cases c6 : t268 = 0
 ·
  rw [if_pos c6] at H
  have c6b0 : (t268 == 0) = true := beq_iff_eq.mpr c6
  have c6b1 : (t268 != 0) = false := bne_eq_false_iff_eq.mpr c6
  clear c6
  have HC7 := Aside0.mk H
  clear H
  go_enter Tryd.func16, Tryd.ntmps16
  go_wp2
  go_step3
  go_upto_block 0 with (first | ((with_reducible refine gate_callee (f := 14) rfl ?_); refine goesL_ (some 16) rfl rfl Tryd.func14 (by kernel_rfl) rfl #[.string (⟨#[115, 116, 97, 103, 101]⟩ : ByteArray), .slice A0 l0.length c0] rfl aeq ?_; (with_reducible refine (sequencer_Check.calls k (⟨#[115, 116, 97, 103, 101]⟩ : ByteArray) _ _ l0 t268 _ ?side1 ?side2 ?side3 A5.out).mono ?_); (case side1 => repeat (first | exact HR0.out | (with_reducible refine Kd.C_alloc ?_ _) | (with_reducible refine Kd.C_drewN ?_ _) | (with_reducible refine Kd.C_drew ?_))); (case side2 => exact HC0.out); (case side3 => exact GW.below HG.out bl); rintro e w8 ⟨rfl, hb⟩; refine ⟨_, rfl, ?_⟩; have n0_ := Aside0.mk (Kd.V_below (by (with_reducible repeat (first | apply Kd.V_alloc | apply Kd.V_drewN | apply Kd.V_drew)); exact HO1.out) hb); have n1_ := Aside0.mk (below_step bl hb); clear HO1; clear HB; have HO1 := n0_; have HB := n1_; clear n0_ n1_; (try clear hb); (try clear hb2); (try clear hk); (try clear hi)))
  (try simp only [Act.put, List.setIfInBounds_toArray, List.set_cons_zero, List.set_cons_succ])
  go_cut [] (fun wc => ∃ (kq : Nat), Aside0 (sequencer_Settle.j1 kq l0 l1 a2 a3 = some (r1, r2, r3)) ∧ Aside0 (kq ≤ k) ∧ Aside0 (Kd.V (Kd.int .i64) 2 wc w.heap.size (fun k_ => (P1_ k_ ∨ w.heap.size ≤ k_)) (.slice A1 l1.length c1) l1) ∧ Aside0 (Below w.heap.size w wc))
  case first =>
   have H := HC7.out
   clear HC7
   replace H := Option.bind_eq_some_iff.mp H
   obtain ⟨t269, A90, H⟩ := H
   replace H : (if t269 = true then ((sequencer_possible.f k (⟨#[115, 116, 97, 103, 101]⟩ : ByteArray) l0 l1).bind fun t270 => (if t270 = true then (if a2 < (-1000000000000) then (sequencer_Settle.j0 k l0 l1 a2 a3 true) else (sequencer_Settle.j0 k l0 l1 a2 a3 (decide (a2 > 1000000000000)))) else (some (0, 0, 8)))) else (some (0, 0, 1))) = some (r1, r2, r3) := H
   have A9 := Aside0.mk A90
   clear A90
   by_cases c10 : t269 = true
   ·
    subst c10
    rw [if_pos rfl] at H
    replace H := Option.bind_eq_some_iff.mp H
    obtain ⟨t270, A110, H⟩ := H
    replace H : (if t270 = true then (if a2 < (-1000000000000) then (sequencer_Settle.j0 k l0 l1 a2 a3 true) else (sequencer_Settle.j0 k l0 l1 a2 a3 (decide (a2 > 1000000000000)))) else (some (0, 0, 8))) = some (r1, r2, r3) := H
    have A11 := Aside0.mk A110
    clear A110
    by_cases c12 : t270 = true
    ·
     subst c12
     rw [if_pos rfl] at H
     have HC13 := Aside0.mk H
     clear H
     go_upto_region 8 with (first | ((with_reducible refine gate_callee (f := 23) rfl ?_); refine goesL_ (some 22) rfl rfl Tryd.func23 (by kernel_rfl) rfl #[.int .i64 a3] rfl aeq ?_; (with_reducible refine (sequencer_seconds.calls a3 true _ A9.out).mono ?_); rintro e w' ⟨rfl, ⟨nd, rfl⟩⟩; refine ⟨_, rfl, ?_⟩) | ((with_reducible refine gate_callee (f := 25) rfl ?_); refine goesL_ (some 27) rfl rfl Tryd.func25 (by kernel_rfl) rfl #[.string (⟨#[115, 116, 97, 103, 101]⟩ : ByteArray), .slice A0 l0.length c0, .slice A1 l1.length c1] rfl aeq ?_; (with_reducible refine (sequencer_possible.calls k (⟨#[115, 116, 97, 103, 101]⟩ : ByteArray) _ _ l0 _ _ l1 true _ ?side1 ?side2 ?side3 ?side4 A11.out).mono ?_); (case side1 => repeat (first | exact (Kd.C_below HR0.out bl) | (with_reducible refine Kd.C_alloc ?_ _) | (with_reducible refine Kd.C_drewN ?_ _) | (with_reducible refine Kd.C_drew ?_))); (case side2 => exact HC0.out); (case side3 => repeat (first | exact (Kd.V_reads' HO1.out).2.2 | (with_reducible refine Kd.C_alloc ?_ _) | (with_reducible refine Kd.C_drewN ?_ _) | (with_reducible refine Kd.C_drew ?_))); (case side4 => exact (Kd.V_reads' HO1.out).2.1); rintro e w' ⟨rfl, ⟨nd, rfl⟩⟩; refine ⟨_, rfl, ?_⟩))
     (try simp only [Act.put, List.setIfInBounds_toArray, List.set_cons_zero, List.set_cons_succ])
     go_cut [29] (fun v29 wc => ∃ (kq : Nat) (x29_12 : Bool), v29 = .bool x29_12 ∧ Aside0 (sequencer_Settle.j0 kq l0 l1 a2 a3 x29_12 = some (r1, r2, r3)) ∧ Aside0 (kq ≤ k) ∧ Aside0 (Kd.V (Kd.int .i64) 2 wc w.heap.size (fun k_ => (P1_ k_ ∨ w.heap.size ≤ k_)) (.slice A1 l1.length c1) l1) ∧ Aside0 (Below w.heap.size w wc))
     case first =>
      have H := HC13.out
      clear HC13
      by_cases c14 : a2 < (-1000000000000)
      ·
       rw [if_pos c14] at H
       have c14b0 : decide (a2 < (-1000000000000)) = true := decide_eq_true c14
       clear c14
       (first | rw [c14b0] | (simp only [i64_w, i32_w]; rw [c14b0]) | skip)
       have H' := Aside0.mk H
       clear H
       go_wp2
       go_meet
       case rel => exact ⟨_, (true), (by first | rfl | (simp; done) | (simp [*]; done)), H', ⟨by first | omega | exact Nat.le_refl _⟩, ⟨by (with_reducible repeat (first | apply Kd.V_alloc | apply Kd.V_drewN | apply Kd.V_drew)); exact HO1.out⟩, ⟨bl⟩⟩
      ·
       rw [if_neg c14] at H
       have c14b0 : decide (a2 < (-1000000000000)) = false := decide_eq_false c14
       clear c14
       (first | rw [c14b0] | (simp only [i64_w, i32_w]; rw [c14b0]) | skip)
       have H' := Aside0.mk H
       clear H
       go_wp2
       go_meet
       case rel => exact ⟨_, (decide (a2 > 1000000000000)), (by first | rfl | (simp; done) | (simp [*]; done)), H', ⟨by first | omega | exact Nat.le_refl _⟩, ⟨by (with_reducible repeat (first | apply Kd.V_alloc | apply Kd.V_drewN | apply Kd.V_drew)); exact HO1.out⟩, ⟨bl⟩⟩
     case rest =>
      clear HC13
      try clear c1
      try clear c2
      try clear p2
      try clear c6
      try clear c6b0
      try clear c6b1
      try clear c10
      try clear c12
      try clear c14
      try clear c14b0
      obtain ⟨kq, x29_12, rfl, HA, HJ12, HO_1, HB⟩ := hcut
      cases kq with
      | zero => exact absurd HA.out (by simp [sequencer_Settle.j0])
      | succ kj12 =>
       have H := HA.out
       clear HA
       simp only [sequencer_Settle.j0] at H
       by_cases c15 : x29_12 = true
       ·
        subst c15
        rw [if_pos rfl] at H
        simp only [Option.some.injEq, Prod.mk.injEq] at H
        obtain ⟨rfl, rfl, rfl⟩ := H
        go_wp2
        (try rw [Exit.noGoto_ret])
        go_ret3
        exact ⟨by first | rfl | (simp [errW_none, errW_some] <;> rfl) | (simp [*, errW_none, errW_some] <;> rfl), bl⟩
       ·
        replace c15 := Bool.eq_false_iff.mpr c15
        subst c15
        rw [if_neg (show ¬ (false = true) by decide)] at H
        by_cases c16 : 1 < (l0.length : Int)
        ·
         rw [if_pos c16] at H
         have c16b0 : decide (1 < (l0.length : Int)) = true := decide_eq_true c16
         have c16b1 : decide (1 < l0.length) = true := decide_eq_true (by omega)
         clear c16
         by_cases c17 : a2 > (rd l0 1)
         ·
          rw [if_pos c17] at H
          have c17b0 : decide ((rd l0 1) < a2) = true := decide_eq_true c17
          clear c17
          by_cases c18 : 2 < (l0.length : Int)
          ·
           rw [if_pos c18] at H
           have c18b0 : decide (2 < (l0.length : Int)) = true := decide_eq_true c18
           have c18b1 : decide (2 < l0.length) = true := decide_eq_true (by omega)
           clear c18
           by_cases c19 : a2 < (rd l0 2)
           ·
            rw [if_pos c19] at H
            have c19b0 : decide (a2 < (rd l0 2)) = true := decide_eq_true c19
            clear c19
            simp only [Option.some.injEq, Prod.mk.injEq] at H
            obtain ⟨rfl, rfl, rfl⟩ := H
            have p271 : 0 ≤ (1 : Int) := (by omega)
            have q271 : 1 < (l0.length : Int) := ode
            obtain ⟨ad271, e271, hx271_0⟩ := Kd.at_int HR0.out 1 p271 q271
            cases e271
            (try simp only [show (1 : Int).toNat = 1 from rfl, Nat.reduceMul, Nat.reduceEqDiff, Go.Addr.add, ↓reduceIte] at hx271_0)
            have qi271 : (1 < l0.length) = True := eq_true (by omega)
            (try rw [show ((1 : Int)).toNat = 1 from rfl] at hx271_0)
            replace hx271_0 := (HB.out.cell (World.block_lt_of_cell? w _ hx271_0)).trans hx271_0
            replace p271 := eq_true p271
            replace q271 := eq_true q271
            have p272 : 0 ≤ (2 : Int) := (by omega)
            have q272 : 2 < (l0.length : Int) := ode
            obtain ⟨ad272, e272, hx272_0⟩ := Kd.at_int HR0.out 2 p272 q272
            obtain rfl : ad271 = ad272 := (by injection e272)
            (try simp only [show (2 : Int).toNat = 2 from rfl, Nat.reduceMul, Nat.reduceEqDiff, Go.Addr.add, ↓reduceIte] at hx272_0)
            have qi272 : (2 < l0.length) = True := eq_true (by omega)
            (try rw [show ((2 : Int)).toNat = 2 from rfl] at hx272_0)
            replace hx272_0 := (HB.out.cell (World.block_lt_of_cell? w _ hx272_0)).trans hx272_0
            replace p272 := eq_true p272
            replace q272 := eq_true q272
            go_wp2
            (try rw [Exit.noGoto_ret])
            go_ret3
            exact ⟨by first | rfl | (simp [errW_none, errW_some] <;> rfl) | (simp [*, errW_none, errW_some] <;> rfl), bl⟩
           ·
            rw [if_neg c19] at H
            have c19b0 : decide (a2 < (rd l0 2)) = false := decide_eq_false c19
            clear c19
            have H' := Aside0.mk H
            clear H
            have p271 : 0 ≤ (1 : Int) := (by omega)
            have q271 : 1 < (l0.length : Int) := ode
            obtain ⟨ad271, e271, hx271_0⟩ := Kd.at_int HR0.out 1 p271 q271
            cases e271
            (try simp only [show (1 : Int).toNat = 1 from rfl, Nat.reduceMul, Nat.reduceEqDiff, Go.Addr.add, ↓reduceIte] at hx271_0)
            have qi271 : (1 < l0.length) = True := eq_true (by omega)
            (try rw [show ((1 : Int)).toNat = 1 from rfl] at hx271_0)
            replace hx271_0 := (HB.out.cell (World.block_lt_of_cell? w _ hx271_0)).trans hx271_0
            replace p271 := eq_true p271
            replace q271 := eq_true q271
            have p272 : 0 ≤ (2 : Int) := (by omega)
            have q272 : 2 < (l0.length : Int) := ode
            obtain ⟨ad272, e272, hx272_0⟩ := Kd.at_int HR0.out 2 p272 q272
            obtain rfl : ad271 = ad272 := (by injection e272)
            (try simp only [show (2 : Int).toNat = 2 from rfl, Nat.reduceMul, Nat.reduceEqDiff, Go.Addr.add, ↓reduceIte] at hx272_0)
            have qi272 : (2 < l0.length) = True := eq_true (by omega)
            (try rw [show ((2 : Int)).toNat = 2 from rfl] at hx272_0)
            replace hx272_0 := (HB.out.cell (World.block_lt_of_cell? w _ hx272_0)).trans hx272_0
            replace p272 := eq_true p272
            replace q272 := eq_true q272
            go_wp2
            go_meet
            case rel => exact ⟨_, H', ⟨by have := HJ12.out; first | omega | exact Nat.le_refl _⟩, ⟨by (with_reducible repeat (first | apply Kd.V_alloc | apply Kd.V_drewN | apply Kd.V_drew)); exact HO_1.out⟩, ⟨bl⟩⟩
          ·
           rw [if_neg c18] at H
           exact absurd H (by simp)
         ·
          rw [if_neg c17] at H
          have c17b0 : decide ((rd l0 1) < a2) = false := decide_eq_false c17
          clear c17
          have H' := Aside0.mk H
          clear H
          have p271 : 0 ≤ (1 : Int) := (by omega)
          have q271 : 1 < (l0.length : Int) := ode
          obtain ⟨ad271, e271, hx271_0⟩ := Kd.at_int HR0.out 1 p271 q271
          cases e271
          (try simp only [show (1 : Int).toNat = 1 from rfl, Nat.reduceMul, Nat.reduceEqDiff, Go.Addr.add, ↓reduceIte] at hx271_0)
          have qi271 : (1 < l0.length) = True := eq_true (by omega)
          (try rw [show ((1 : Int)).toNat = 1 from rfl] at hx271_0)
          replace hx271_0 := (HB.out.cell (World.block_lt_of_cell? w _ hx271_0)).trans hx271_0
          replace p271 := eq_true p271
          replace q271 := eq_true q271
          go_wp2
          go_meet
          case rel => exact ⟨_, H', ⟨by have := HJ12.out; first | omega | exact Nat.le_refl _⟩, ⟨by (with_reducible repeat (first | apply Kd.V_alloc | apply Kd.V_drewN | apply Kd.V_drew)); exact HO_1.out⟩, ⟨bl⟩⟩
        ·
         rw [if_neg c16] at H
         exact absurd H (by simp)
    ·
     replace c12 := Bool.eq_false_iff.mpr c12
     subst c12
     rw [if_neg (show ¬ (false = true) by decide)] at H
     simp only [Option.some.injEq, Prod.mk.injEq] at H
     obtain ⟨rfl, rfl, rfl⟩ := H
     go_wp2_with (first | ((with_reducible refine gate_callee (f := 23) rfl ?_); refine goesL_ (some 22) rfl rfl Tryd.func23 (by kernel_rfl) rfl #[.int .i64 a3] rfl aeq ?_; (with_reducible refine (sequencer_seconds.calls a3 true _ A9.out).mono ?_); rintro e w' ⟨rfl, ⟨nd, rfl⟩⟩; refine ⟨_, rfl, ?_⟩) | ((with_reducible refine gate_callee (f := 25) rfl ?_); refine goesL_ (some 27) rfl rfl Tryd.func25 (by kernel_rfl) rfl #[.string (⟨#[115, 116, 97, 103, 101]⟩ : ByteArray), .slice A0 l0.length c0, .slice A1 l1.length c1] rfl aeq ?_; (with_reducible refine (sequencer_possible.calls k (⟨#[115, 116, 97, 103, 101]⟩ : ByteArray) _ _ l0 _ _ l1 false _ ?side1 ?side2 ?side3 ?side4 A11.out).mono ?_); (case side1 => repeat (first | exact (Kd.C_below HR0.out bl) | (with_reducible refine Kd.C_alloc ?_ _) | (with_reducible refine Kd.C_drewN ?_ _) | (with_reducible refine Kd.C_drew ?_))); (case side2 => exact HC0.out); (case side3 => repeat (first | exact (Kd.V_reads' HO1.out).2.2 | (with_reducible refine Kd.C_alloc ?_ _) | (with_reducible refine Kd.C_drewN ?_ _) | (with_reducible refine Kd.C_drew ?_))); (case side4 => exact (Kd.V_reads' HO1.out).2.1); rintro e w' ⟨rfl, ⟨nd, rfl⟩⟩; refine ⟨_, rfl, ?_⟩))
     (try rw [Exit.noGoto_ret])
     go_ret3
     exact ⟨by first | rfl | (simp [errW_none, errW_some] <;> rfl) | (simp [*, errW_none, errW_some] <;> rfl), bl⟩
   ·
    replace c10 := Bool.eq_false_iff.mpr c10
    subst c10
    rw [if_neg (show ¬ (false = true) by decide)] at H
    simp only [Option.some.injEq, Prod.mk.injEq] at H
    obtain ⟨rfl, rfl, rfl⟩ := H
    go_wp2_with (first | ((with_reducible refine gate_callee (f := 23) rfl ?_); refine goesL_ (some 22) rfl rfl Tryd.func23 (by kernel_rfl) rfl #[.int .i64 a3] rfl aeq ?_; (with_reducible refine (sequencer_seconds.calls a3 false _ A9.out).mono ?_); rintro e w' ⟨rfl, ⟨nd, rfl⟩⟩; refine ⟨_, rfl, ?_⟩))
    (try rw [Exit.noGoto_ret])
    go_ret3
    exact ⟨by first | rfl | (simp [errW_none, errW_some] <;> rfl) | (simp [*, errW_none, errW_some] <;> rfl), bl⟩
  case rest =>
   clear HC7
   try clear c1
   try clear c2
   try clear p2
   try clear q2
   try clear hx2
   try clear qi2
   try clear c6
   try clear c6b0
   try clear c6b1
   try clear c10
   try clear c12
   try clear c14
   try clear c14b0
   try clear c15
   try clear c16
   try clear c16b0
   try clear c16b1
   try clear c17
   try clear c17b0
   try clear c18
   try clear c18b0
   try clear c18b1
   try clear c19
   try clear c19b0
   try clear hx271_0
   try clear hx272_0
   try clear p2
   try clear p271
   try clear p272
   try clear q271
   try clear q272
   obtain ⟨kq, HA, HJ6, HO_1, HB⟩ := hcut
   cases kq with
   | zero => exact absurd HA.out (by simp [sequencer_Settle.j1])
   | succ kj6 =>
    have H := HA.out
    clear HA
    simp only [sequencer_Settle.j1] at H
    by_cases c20 : 0 < (l1.length : Int)
    ·
     rw [if_pos c20] at H
     have c20b0 : decide (0 < (l1.length : Int)) = true := decide_eq_true c20
     have c20b1 : decide (0 < l1.length) = true := decide_eq_true (by omega)
     clear c20
     have HC21 := Aside0.mk H
     clear H
     have p273 : 0 ≤ (0 : Int) := (by omega)
     have q273 : 0 < (l1.length : Int) := ode
     obtain ⟨ad273, e273, hx273_0⟩ := Kd.at_int (Kd.V_reads' HO_1.out).2.2 0 p273 q273
     cases e273
     have qi273 : (0 < l1.length) = True := eq_true (by omega)
     (try rw [show ((0 : Int)).toNat = 0 from rfl] at hx273_0)
     (try rw [Addr.add_zero'] at hx273_0)
     replace p273 := eq_true p273
     replace q273 := eq_true q273
     go_upto_block 1 with (fail)
     go_cut [12] (fun v12 wc => ∃ (kq : Nat) (x12_20 : Int), v12 = .int .i64 x12_20 ∧ Aside0 (sequencer_Settle.j2 kq l0 l1 a2 a3 x12_20 = some (r1, r2, r3)) ∧ Aside0 (kq ≤ kj6) ∧ Aside0 (Kd.V (Kd.int .i64) 2 wc w.heap.size (fun k_ => (P1_ k_ ∨ w.heap.size ≤ k_)) (.slice (some ad273) l1.length c1) l1) ∧ Aside0 (Below w.heap.size w wc))
     case first =>
      have H := HC21.out
      clear HC21
      by_cases c22 : 1 < (l0.length : Int)
      ·
       rw [if_pos c22] at H
       have c22b0 : decide (1 < (l0.length : Int)) = true := decide_eq_true c22
       have c22b1 : decide (1 < l0.length) = true := decide_eq_true (by omega)
       clear c22
       (first | rw [c22b0] | (simp only [i64_w, i32_w]; rw [c22b0]) | skip)
       by_cases c23 : a2 > (rd l0 1)
       ·
        rw [if_pos c23] at H
        have c23b0 : decide ((rd l0 1) < a2) = true := decide_eq_true c23
        clear c23
        by_cases c24 : 0 < (l0.length : Int)
        ·
         rw [if_pos c24] at H
         have c24b0 : decide (0 < (l0.length : Int)) = true := decide_eq_true c24
         have c24b1 : decide (0 < l0.length) = true := decide_eq_true (by omega)
         clear c24
         have H' := Aside0.mk H
         clear H
         have p274 : 0 ≤ (1 : Int) := (by omega)
         have q274 : 1 < (l0.length : Int) := ode
         obtain ⟨ad274, e274, hx274_0⟩ := Kd.at_int HR0.out 1 p274 q274
         cases e274
         (try simp only [show (1 : Int).toNat = 1 from rfl, Nat.reduceMul, Nat.reduceEqDiff, Go.Addr.add, ↓reduceIte] at hx274_0)
         have qi274 : (1 < l0.length) = True := eq_true (by omega)
         (try rw [show ((1 : Int)).toNat = 1 from rfl] at hx274_0)
         replace hx274_0 := (HB.out.cell (World.block_lt_of_cell? w _ hx274_0)).trans hx274_0
         replace p274 := eq_true p274
         replace q274 := eq_true q274
         have p275 : 0 ≤ (0 : Int) := (by omega)
         have q275 : 0 < (l0.length : Int) := ode
         obtain ⟨ad275, e275, hx275_0⟩ := Kd.at_int HR0.out 0 p275 q275
         obtain rfl : ad274 = ad275 := (by injection e275)
         have qi275 : (0 < l0.length) = True := eq_true (by omega)
         (try rw [show ((0 : Int)).toNat = 0 from rfl] at hx275_0)
         (try rw [Addr.add_zero'] at hx275_0)
         replace hx275_0 := (HB.out.cell (World.block_lt_of_cell? w _ hx275_0)).trans hx275_0
         replace p275 := eq_true p275
         replace q275 := eq_true q275
         go_wp2
         go_meet
         case rel => exact ⟨_, (rd l0 0), (by first | rfl | (simp; done) | (simp [*]; done)), H', ⟨by have := HJ6.out; first | omega | exact Nat.le_refl _⟩, ⟨by (with_reducible repeat (first | apply Kd.V_alloc | apply Kd.V_drewN | apply Kd.V_drew)); exact HO_1.out⟩, ⟨bl⟩⟩
        ·
         rw [if_neg c24] at H
         exact absurd H (by simp)
       ·
        rw [if_neg c23] at H
        have c23b0 : decide ((rd l0 1) < a2) = false := decide_eq_false c23
        clear c23
        by_cases c25 : 2 < (l0.length : Int)
        ·
         rw [if_pos c25] at H
         have c25b0 : decide (2 < (l0.length : Int)) = true := decide_eq_true c25
         have c25b1 : decide (2 < l0.length) = true := decide_eq_true (by omega)
         clear c25
         by_cases c26 : a2 < (rd l0 2)
         ·
          rw [if_pos c26] at H
          have c26b0 : decide (a2 < (rd l0 2)) = true := decide_eq_true c26
          clear c26
          have H' := Aside0.mk H
          clear H
          have p274 : 0 ≤ (1 : Int) := (by omega)
          have q274 : 1 < (l0.length : Int) := ode
          obtain ⟨ad274, e274, hx274_0⟩ := Kd.at_int HR0.out 1 p274 q274
          cases e274
          (try simp only [show (1 : Int).toNat = 1 from rfl, Nat.reduceMul, Nat.reduceEqDiff, Go.Addr.add, ↓reduceIte] at hx274_0)
          have qi274 : (1 < l0.length) = True := eq_true (by omega)
          (try rw [show ((1 : Int)).toNat = 1 from rfl] at hx274_0)
          replace hx274_0 := (HB.out.cell (World.block_lt_of_cell? w _ hx274_0)).trans hx274_0
          replace p274 := eq_true p274
          replace q274 := eq_true q274
          have p276 : 0 ≤ (2 : Int) := (by omega)
          have q276 : 2 < (l0.length : Int) := ode
          obtain ⟨ad276, e276, hx276_0⟩ := Kd.at_int HR0.out 2 p276 q276
          obtain rfl : ad274 = ad276 := (by injection e276)
          (try simp only [show (2 : Int).toNat = 2 from rfl, Nat.reduceMul, Nat.reduceEqDiff, Go.Addr.add, ↓reduceIte] at hx276_0)
          have qi276 : (2 < l0.length) = True := eq_true (by omega)
          (try rw [show ((2 : Int)).toNat = 2 from rfl] at hx276_0)
          replace hx276_0 := (HB.out.cell (World.block_lt_of_cell? w _ hx276_0)).trans hx276_0
          replace p276 := eq_true p276
          replace q276 := eq_true q276
          go_wp2
          go_meet
          case rel => exact ⟨_, (0), (by first | rfl | (simp; done) | (simp [*]; done)), H', ⟨by have := HJ6.out; first | omega | exact Nat.le_refl _⟩, ⟨by (with_reducible repeat (first | apply Kd.V_alloc | apply Kd.V_drewN | apply Kd.V_drew)); exact HO_1.out⟩, ⟨bl⟩⟩
         ·
          rw [if_neg c26] at H
          have c26b0 : decide (a2 < (rd l0 2)) = false := decide_eq_false c26
          clear c26
          have H' := Aside0.mk H
          clear H
          have p274 : 0 ≤ (1 : Int) := (by omega)
          have q274 : 1 < (l0.length : Int) := ode
          obtain ⟨ad274, e274, hx274_0⟩ := Kd.at_int HR0.out 1 p274 q274
          cases e274
          (try simp only [show (1 : Int).toNat = 1 from rfl, Nat.reduceMul, Nat.reduceEqDiff, Go.Addr.add, ↓reduceIte] at hx274_0)
          have qi274 : (1 < l0.length) = True := eq_true (by omega)
          (try rw [show ((1 : Int)).toNat = 1 from rfl] at hx274_0)
          replace hx274_0 := (HB.out.cell (World.block_lt_of_cell? w _ hx274_0)).trans hx274_0
          replace p274 := eq_true p274
          replace q274 := eq_true q274
          have p276 : 0 ≤ (2 : Int) := (by omega)
          have q276 : 2 < (l0.length : Int) := ode
          obtain ⟨ad276, e276, hx276_0⟩ := Kd.at_int HR0.out 2 p276 q276
          obtain rfl : ad274 = ad276 := (by injection e276)
          (try simp only [show (2 : Int).toNat = 2 from rfl, Nat.reduceMul, Nat.reduceEqDiff, Go.Addr.add, ↓reduceIte] at hx276_0)
          have qi276 : (2 < l0.length) = True := eq_true (by omega)
          (try rw [show ((2 : Int)).toNat = 2 from rfl] at hx276_0)
          replace hx276_0 := (HB.out.cell (World.block_lt_of_cell? w _ hx276_0)).trans hx276_0
          replace p276 := eq_true p276
          replace q276 := eq_true q276
          go_wp2
          go_meet
          case rel => exact ⟨_, (rd l1 0), (by first | rfl | (simp; done) | (simp [*]; done)), H', ⟨by have := HJ6.out; first | omega | exact Nat.le_refl _⟩, ⟨by (with_reducible repeat (first | apply Kd.V_alloc | apply Kd.V_drewN | apply Kd.V_drew)); exact HO_1.out⟩, ⟨bl⟩⟩
        ·
         rw [if_neg c25] at H
         exact absurd H (by simp)
      ·
       rw [if_neg c22] at H
       exact absurd H (by simp)
     case rest =>
      clear HC21
      try clear c1
      try clear c2
      try clear p2
      try clear q2
      try clear hx2
      try clear qi2
      try clear c6
      try clear c6b0
      try clear c6b1
      try clear c10
      try clear c12
      try clear c14
      try clear c14b0
      try clear c15
      try clear c16
      try clear c16b0
      try clear c16b1
      try clear c17
      try clear c17b0
      try clear c18
      try clear c18b0
      try clear c18b1
      try clear c19
      try clear c19b0
      try clear c20
      try clear c20b0
      try clear c20b1
      try clear c22
      try clear c22b0
      try clear c22b1
      try clear c23
      try clear c23b0
      try clear c24
      try clear c24b0
      try clear c24b1
      try clear c25
      try clear c25b0
      try clear c25b1
      try clear c26
      try clear c26b0
      try clear hx271_0
      try clear hx272_0
      try clear hx273_0
      try clear hx274_0
      try clear hx275_0
      try clear hx276_0
      try clear p2
      try clear p271
      try clear p272
      try clear p273
      try clear p274
      try clear p275
      try clear p276
      try clear q2
      try clear q271
      try clear q272
      try clear q273
      try clear q274
      try clear q275
      try clear q276
      obtain ⟨kq, x12_20, rfl, HA, HJ20, HO_1, HB⟩ := hcut
      cases kq with
      | zero => exact absurd HA.out (by simp [sequencer_Settle.j2])
      | succ kj20 =>
       have H := HA.out
       clear HA
       simp only [sequencer_Settle.j2] at H
       have H' := Aside0.mk H
       clear H
       go_wp2
       repeat (go_step3; go_wp2)
       go_loopg [13, 14] kj20 (fun kq v13 v14 w' => ∃ (x13_3 : Int) (x14_3 : List Int), v13 = .int .i64 x13_3 ∧ Aside0 (sequencer_Settle.l0 kq l0 a2 a3 x12_20 x13_3 x14_3 = some (r1, r2, r3)) ∧ Aside0 (kq ≤ kj20) ∧ Aside0 (Kd.V (Kd.int .i64) 2 w' w.heap.size (fun k_ => (P1_ k_ ∨ w.heap.size ≤ k_)) v14 x14_3) ∧ Aside0 (Below w.heap.size w w'))
       case atStart => exact ⟨(0), (l1), (by first | rfl | (simp; done) | (simp [*]; done)), H', ⟨Nat.le_refl _⟩, ⟨by (with_reducible repeat (first | apply Kd.V_alloc | apply Kd.V_drewN | apply Kd.V_drew)); exact HO_1.out⟩, ⟨bl⟩⟩
       case round =>
        clear H'
        try clear c1
        try clear c2
        try clear p2
        try clear q2
        try clear hx2
        try clear qi2
        try clear c6
        try clear c6b0
        try clear c6b1
        try clear c10
        try clear c12
        try clear c14
        try clear c14b0
        try clear c15
        try clear c16
        try clear c16b0
        try clear c16b1
        try clear c17
        try clear c17b0
        try clear c18
        try clear c18b0
        try clear c18b1
        try clear c19
        try clear c19b0
        try clear c20
        try clear c20b0
        try clear c20b1
        try clear c22
        try clear c22b0
        try clear c22b1
        try clear c23
        try clear c23b0
        try clear c24
        try clear c24b0
        try clear c24b1
        try clear c25
        try clear c25b0
        try clear c25b1
        try clear c26
        try clear c26b0
        try clear hx271_0
        try clear hx272_0
        try clear hx273_0
        try clear hx274_0
        try clear hx275_0
        try clear hx276_0
        try clear p2
        try clear p271
        try clear p272
        try clear p273
        try clear p274
        try clear p275
        try clear p276
        try clear q2
        try clear q271
        try clear q272
        try clear q273
        try clear q274
        try clear q275
        try clear q276
        obtain ⟨x13_3, x14_3, rfl, HA, HK3, HO_14, HB⟩ := hrel
        cases gk with
        | zero => exact absurd HA.out (by simp [sequencer_Settle.l0])
        | succ k3 =>
         have H := HA.out
         clear HA
         simp only [sequencer_Settle.l0] at H
         by_cases c27 : 0 < (x14_3.length : Int)
         ·
          rw [if_pos c27] at H
          have c27b0 : decide (0 < (x14_3.length : Int)) = true := decide_eq_true c27
          have c27b1 : decide (0 < x14_3.length) = true := decide_eq_true (by omega)
          clear c27
          by_cases c28 : (rd x14_3 0) = x12_20
          ·
           rw [if_pos c28] at H
           have c28b0 : ((rd x14_3 0) == x12_20) = true := beq_iff_eq.mpr c28
           have c28b1 : ((rd x14_3 0) != x12_20) = false := bne_eq_false_iff_eq.mpr c28
           clear c28
           simp only [Option.some.injEq, Prod.mk.injEq] at H
           obtain ⟨rfl, rfl, rfl⟩ := H
           obtain ⟨Ao29, co29, eo29⟩ := Kd.V_slice HO_14.out
           subst eo29
           have p277 : 0 ≤ (0 : Int) := (by omega)
           have q277 : 0 < (x14_3.length : Int) := ode
           obtain ⟨ad277, e277, hx277_0⟩ := Kd.at_int (Kd.V_reads' HO_14.out).2.2 0 p277 q277
           cases e277
           have qi277 : (0 < x14_3.length) = True := eq_true (by omega)
           (try rw [show ((0 : Int)).toNat = 0 from rfl] at hx277_0)
           (try rw [Addr.add_zero'] at hx277_0)
           replace p277 := eq_true p277
           replace q277 := eq_true q277
           go_wp2
           (try rw [Exit.noGoto_ret])
           go_ret3
           exact ⟨by first | rfl | (simp [errW_none, errW_some] <;> rfl) | (simp [*, errW_none, errW_some] <;> rfl), bl⟩
          ·
           rw [if_neg c28] at H
           have c28b0 : ((rd x14_3 0) == x12_20) = false := beq_eq_false_iff_ne.mpr c28
           have c28b1 : ((rd x14_3 0) != x12_20) = true := bne_iff_ne.mpr c28
           replace H := Option.bind_eq_some_iff.mp H
           obtain ⟨t278, A300, H⟩ := H
           replace H : (sequencer_Settle.l0 k3 l0 a2 a3 x12_20 (wrap64 (x13_3 + 1)) t278) = some (r1, r2, r3) := H
           have A30 := Aside0.mk A300
           clear A300
           have H' := Aside0.mk H
           clear H
           obtain ⟨Ao31, co31, eo31⟩ := Kd.V_slice HO_14.out
           subst eo31
           have p277 : 0 ≤ (0 : Int) := (by omega)
           have q277 : 0 < (x14_3.length : Int) := ode
           obtain ⟨ad277, e277, hx277_0⟩ := Kd.at_int (Kd.V_reads' HO_14.out).2.2 0 p277 q277
           cases e277
           have qi277 : (0 < x14_3.length) = True := eq_true (by omega)
           (try rw [show ((0 : Int)).toNat = 0 from rfl] at hx277_0)
           (try rw [Addr.add_zero'] at hx277_0)
           replace p277 := eq_true p277
           replace q277 := eq_true q277
           go_wp2_with (first | ((with_reducible refine gate_callee (f := 26) rfl ?_); refine goesL_ (some 79) rfl rfl Tryd.func26 (by kernel_rfl) rfl #[.slice A0 l0.length c0, .slice (some ad277) x14_3.length co31, .int .i64 a2, .int .i64 a3] rfl aeq ?_; (with_reducible refine (sequencer_stage.calls k3 _ _ l0 _ _ x14_3 a2 a3 t278 _ ?side1 ?side2 ?side3 ?side4 A30.out).mono ?_); (case side1 => repeat (first | exact (Kd.C_below HR0.out HB.out) | (with_reducible refine Kd.C_alloc ?_ _) | (with_reducible refine Kd.C_drewN ?_ _) | (with_reducible refine Kd.C_drew ?_))); (case side2 => exact HC0.out); (case side3 => repeat (first | exact (Kd.V_reads' HO_14.out).2.2 | (with_reducible refine Kd.C_alloc ?_ _) | (with_reducible refine Kd.C_drewN ?_ _) | (with_reducible refine Kd.C_drew ?_))); (case side4 => exact (Kd.V_reads' HO_14.out).2.1); rintro e w32 ⟨v279, rfl, ho0, hb⟩; refine ⟨_, rfl, ?_⟩; have n0_ := Aside0.mk (Kd.V_elder' (by (with_reducible repeat (first | apply Kd.V_alloc | apply Kd.V_drewN | apply Kd.V_drew)); exact HO_14.out) (Kd.R_base ho0) hb); have n1_ := Aside0.mk (Kd.R_lower (Kd.R_newM (M := fun k_ => (w.heap.size ≤ k_)) ho0 (below_size bl) (fun k_ h_ => h_)) (below_size bl)); have n2_ := Aside0.mk (below_step bl hb); clear HO_14; clear HB; have HO_14 := n0_; have HO280 := n1_; have HB := n2_; clear n0_ n1_ n2_; (try clear hb); (try clear hb2); (try clear hk); (try clear hi); (try clear ho0)))
           go_roundg k3
           case measure => have := HJ6.out; have := HJ20.out; have := HK3.out; omega
           case rel => exact ⟨(wrap64 (x13_3 + 1)), (t278), (by first | rfl | (simp; done) | (simp [*]; done)), H', ⟨by have := HJ6.out; have := HJ20.out; have := HK3.out; omega⟩, ⟨Kd.V_mono (Kd.R_V (by (with_reducible repeat (first | apply Kd.R_alloc | apply Kd.R_drewN | apply Kd.R_drew)); exact Kd.R_mono HO280.out (fun _ hk => hk.1))) (fun k_ hk => by first | exact ⟨(.inr (hk.1)), hk.2⟩ | exact (.inr (hk)))⟩, ⟨bl⟩⟩
         ·
          rw [if_neg c27] at H
          exact absurd H (by simp)
    ·
     rw [if_neg c20] at H
     exact absurd H (by simp)
 ·
  rw [if_neg c6] at H
  have c6b0 : (t268 == 0) = false := beq_eq_false_iff_ne.mpr c6
  have c6b1 : (t268 != 0) = true := bne_iff_ne.mpr c6
  simp only [Option.some.injEq, Prod.mk.injEq] at H
  obtain ⟨rfl, rfl, rfl⟩ := H
  go_enter Tryd.func16, Tryd.ntmps16
  go_wp2
  go_step3
  go_wp2_with (first | ((with_reducible refine gate_callee (f := 14) rfl ?_); refine goesL_ (some 16) rfl rfl Tryd.func14 (by kernel_rfl) rfl #[.string (⟨#[115, 116, 97, 103, 101]⟩ : ByteArray), .slice A0 l0.length c0] rfl aeq ?_; (with_reducible refine (sequencer_Check.calls k (⟨#[115, 116, 97, 103, 101]⟩ : ByteArray) _ _ l0 t268 _ ?side1 ?side2 ?side3 A5.out).mono ?_); (case side1 => repeat (first | exact HR0.out | (with_reducible refine Kd.C_alloc ?_ _) | (with_reducible refine Kd.C_drewN ?_ _) | (with_reducible refine Kd.C_drew ?_))); (case side2 => exact HC0.out); (case side3 => exact GW.below HG.out bl); rintro e w33 ⟨rfl, hb⟩; refine ⟨_, rfl, ?_⟩; have n0_ := Aside0.mk (Kd.V_below (by (with_reducible repeat (first | apply Kd.V_alloc | apply Kd.V_drewN | apply Kd.V_drew)); exact HO1.out) hb); have n1_ := Aside0.mk (below_step bl hb); clear HO1; clear HB; have HO1 := n0_; have HB := n1_; clear n0_ n1_; (try clear hb); (try clear hb2); (try clear hk); (try clear hi)))
  (try rw [Exit.noGoto_ret])
  go_ret3
  exact ⟨by first | rfl | (simp [errW_none, errW_some] <;> rfl) | (simp [*, errW_none, errW_some] <;> rfl), bl⟩

/-! ### sequencer_Duration: function 20 -/
def sequencer_Duration.f (k : Nat) (l0 : List Int) (a1 : Int) : Option (Int × Int) := (sequencer_Check.f k (⟨#[115, 116, 101, 112, 115]⟩ : ByteArray) l0).bind fun t281 => (if t281 = 0 then ((sequencer_seconds.f a1).bind fun t282 => (if t282 = true then (if 1 < (l0.length : Int) then (if a1 = 0 then (none) else (if 0 < (l0.length : Int) then (some (wrap64 (1 + (wrap64 ((wrap64 ((rd l0 0) - 1)) * (mx 1 (wrap64 (Int.tdiv (wrap64 ((wrap64 ((rd l0 1) + a1)) - 1)) a1)))))), 0)) else (none))) else (none)) else (some (0, 1)))) else (some (0, t281)))
theorem sequencer_Duration.mono : ∀ a0 a1 k, LeO (sequencer_Duration.f k a0 a1) (sequencer_Duration.f (k + 1) a0 a1) := by
 intro a0 a1 k
 unfold sequencer_Duration.f
 repeat' first
   | (with_reducible exact sequencer_Check.mono _ _ _)
   | (with_reducible exact LeO.refl _)
   | (with_reducible exact LeO.none _)
   | (with_reducible refine LeO.ite ?_ ?_)
   | (with_reducible refine LeO.bind ?_ (fun _ => ?_))
   | exact sequencer_Check.mono _ _ _
   | exact LeO.none _
   | refine LeO.ite ?_ ?_
   | refine LeO.bind ?_ (fun _ => ?_)
set_option maxHeartbeats 8000000 in
set_option maxRecDepth 100000 in
theorem sequencer_Duration.calls (k : Nat) (A0 : Option Addr) (c0 : Nat) (l0 : List Int) (a1 : Int) (r1 : Int) (r2 : Int) (w : World) (hr0 : Kd.C (Kd.int .i64) w A0 l0.length l0) (hc0 : l0.length ≤ c0) (hG : GW w) (h : sequencer_Duration.f k l0 a1 = some (r1, r2)) :
  Calls Tryd.prog 20 #[.slice A0 l0.length c0, .int .i64 a1] w fun e w' => e = .returned (.tuple #[.int .i64 r1, .int .i64 r2]) ∧ Below w.heap.size w w' := by
 have HG := Aside0.mk hG
 clear hG
 have HR0 := Aside0.mk hr0
 have HC0 := Aside0.mk hc0
 clear hr0 hc0
 have HB := Aside0.mk (Below.refl w.heap.size w)
 have H : ((sequencer_Check.f k (⟨#[115, 116, 101, 112, 115]⟩ : ByteArray) l0).bind fun t281 => (if t281 = 0 then ((sequencer_seconds.f a1).bind fun t282 => (if t282 = true then (if 1 < (l0.length : Int) then (if a1 = 0 then (none) else (if 0 < (l0.length : Int) then (some (wrap64 (1 + (wrap64 ((wrap64 ((rd l0 0) - 1)) * (mx 1 (wrap64 (Int.tdiv (wrap64 ((wrap64 ((rd l0 1) + a1)) - 1)) a1)))))), 0)) else (none))) else (none)) else (some (0, 1)))) else (some (0, t281)))) = some (r1, r2) := h
 clear h
 replace H := Option.bind_eq_some_iff.mp H
 obtain ⟨t281, A30, H⟩ := H
 replace H : (if t281 = 0 then ((sequencer_seconds.f a1).bind fun t282 => (if t282 = true then (if 1 < (l0.length : Int) then (if a1 = 0 then (none) else (if 0 < (l0.length : Int) then (some (wrap64 (1 + (wrap64 ((wrap64 ((rd l0 0) - 1)) * (mx 1 (wrap64 (Int.tdiv (wrap64 ((wrap64 ((rd l0 1) + a1)) - 1)) a1)))))), 0)) else (none))) else (none)) else (some (0, 1)))) else (some (0, t281))) = some (r1, r2) := H
 have A3 := Aside0.mk A30
 clear A30
 by_cases c4 : t281 = 0
 ·
  rw [if_pos c4] at H
  have c4b0 : (t281 == 0) = true := beq_iff_eq.mpr c4
  have c4b1 : (t281 != 0) = false := bne_eq_false_iff_eq.mpr c4
  clear c4
  replace H := Option.bind_eq_some_iff.mp H
  obtain ⟨t282, A50, H⟩ := H
  replace H : (if t282 = true then (if 1 < (l0.length : Int) then (if a1 = 0 then (none) else (if 0 < (l0.length : Int) then (some (wrap64 (1 + (wrap64 ((wrap64 ((rd l0 0) - 1)) * (mx 1 (wrap64 (Int.tdiv (wrap64 ((wrap64 ((rd l0 1) + a1)) - 1)) a1)))))), 0)) else (none))) else (none)) else (some (0, 1))) = some (r1, r2) := H
  have A5 := Aside0.mk A50
  clear A50
  by_cases c6 : t282 = true
  ·
   subst c6
   rw [if_pos rfl] at H
   by_cases c7 : 1 < (l0.length : Int)
   ·
    rw [if_pos c7] at H
    have c7b0 : decide (1 < (l0.length : Int)) = true := decide_eq_true c7
    have c7b1 : decide (1 < l0.length) = true := decide_eq_true (by omega)
    clear c7
    by_cases c8 : a1 = 0
    ·
     rw [if_pos c8] at H
     exact absurd H (by simp)
    ·
     rw [if_neg c8] at H
     have c8b0 : (a1 == 0) = false := beq_eq_false_iff_ne.mpr c8
     have c8b1 : (a1 != 0) = true := bne_iff_ne.mpr c8
     obtain ⟨ji9, hji9⟩ : ∃ j_ : Int, (mx 1 (wrap64 (Int.tdiv (wrap64 ((wrap64 ((rd l0 1) + a1)) - 1)) a1))) = j_ := ⟨_, rfl⟩
     replace H : (if 0 < (l0.length : Int) then (some (wrap64 (1 + (wrap64 ((wrap64 ((rd l0 0) - 1)) * (ji9)))), 0)) else (none)) = some (r1, r2) := by first | (rw [hji9] at H; exact H) | (simp only [hji9] at H ⊢; exact H)
     (try rw [hji9] at A3)
     (try rw [hji9] at A5)
     (try (have hji9l : 1 ≤ ji9 := by (rw [← hji9]; unfold mx; (repeat' split) <;> omega)))
     (try (have hji9m : 0 ≤ ji9 := by omega))
     have hji9_ : (if 1 < (wrap64 (Int.tdiv (wrap64 ((wrap64 ((rd l0 1) + a1)) - 1)) a1)) then (wrap64 (Int.tdiv (wrap64 ((wrap64 ((rd l0 1) + a1)) - 1)) a1)) else 1) = ji9 := hji9
     by_cases c10 : 0 < (l0.length : Int)
     ·
      rw [if_pos c10] at H
      have c10b0 : decide (0 < (l0.length : Int)) = true := decide_eq_true c10
      have c10b1 : decide (0 < l0.length) = true := decide_eq_true (by omega)
      clear c10
      simp only [Option.some.injEq, Prod.mk.injEq] at H
      obtain ⟨rfl, rfl⟩ := H
      go_enter Tryd.func20, Tryd.ntmps20
      go_wp2_with (first | ((with_reducible refine gate_callee (f := 14) rfl ?_); refine goesL_ (some 9) rfl rfl Tryd.func14 (by kernel_rfl) rfl #[.string (⟨#[115, 116, 101, 112, 115]⟩ : ByteArray), .slice A0 l0.length c0] rfl aeq ?_; (with_reducible refine (sequencer_Check.calls k (⟨#[115, 116, 101, 112, 115]⟩ : ByteArray) _ _ l0 t281 _ ?side1 ?side2 ?side3 A3.out).mono ?_); (case side1 => repeat (first | exact HR0.out | (with_reducible refine Kd.C_alloc ?_ _) | (with_reducible refine Kd.C_drewN ?_ _) | (with_reducible refine Kd.C_drew ?_))); (case side2 => exact HC0.out); (case side3 => exact GW.below HG.out bl); rintro e w11 ⟨rfl, hb⟩; refine ⟨_, rfl, ?_⟩; have n0_ := Aside0.mk (below_step bl hb); clear HB; have HB := n0_; clear n0_; (try clear hb); (try clear hb2); (try clear hk); (try clear hi)) | ((with_reducible refine gate_callee (f := 23) rfl ?_); refine goesL_ (some 14) rfl rfl Tryd.func23 (by kernel_rfl) rfl #[.int .i64 a1] rfl aeq ?_; (with_reducible refine (sequencer_seconds.calls a1 true _ A5.out).mono ?_); rintro e w' ⟨rfl, ⟨nd, rfl⟩⟩; refine ⟨_, rfl, ?_⟩; have p283 : 0 ≤ (1 : Int) := (by omega); have q283 : 1 < (l0.length : Int) := ode; obtain ⟨ad283, e283, hx283_0⟩ := Kd.at_int HR0.out 1 p283 q283; cases e283; (try simp only [show (1 : Int).toNat = 1 from rfl, Nat.reduceMul, Nat.reduceEqDiff, Go.Addr.add, ↓reduceIte] at hx283_0); have qi283 : (1 < l0.length) = True := eq_true (by omega); (try rw [show ((1 : Int)).toNat = 1 from rfl] at hx283_0); replace hx283_0 := (HB.out.cell (World.block_lt_of_cell? w _ hx283_0)).trans hx283_0; replace p283 := eq_true p283; replace q283 := eq_true q283; have p284 : 0 ≤ (0 : Int) := (by omega); have q284 : 0 < (l0.length : Int) := ode; obtain ⟨ad284, e284, hx284_0⟩ := Kd.at_int HR0.out 0 p284 q284; obtain rfl : ad283 = ad284 := (by injection e284); have qi284 : (0 < l0.length) = True := eq_true (by omega); (try rw [show ((0 : Int)).toNat = 0 from rfl] at hx284_0); (try rw [Addr.add_zero'] at hx284_0); replace hx284_0 := (HB.out.cell (World.block_lt_of_cell? w _ hx284_0)).trans hx284_0; replace p284 := eq_true p284; replace q284 := eq_true q284))
      go_ret2
      exact ⟨by first | rfl | (simp [errW_none, errW_some] <;> rfl) | (simp only [← hji9]; first | rfl | (simp [errW_none, errW_some] <;> rfl)) | (simp [*, errW_none, errW_some] <;> rfl), bl⟩
     ·
      rw [if_neg c10] at H
      exact absurd H (by simp)
   ·
    rw [if_neg c7] at H
    exact absurd H (by simp)
  ·
   replace c6 := Bool.eq_false_iff.mpr c6
   subst c6
   rw [if_neg (show ¬ (false = true) by decide)] at H
   simp only [Option.some.injEq, Prod.mk.injEq] at H
   obtain ⟨rfl, rfl⟩ := H
   go_enter Tryd.func20, Tryd.ntmps20
   go_wp2_with (first | ((with_reducible refine gate_callee (f := 14) rfl ?_); refine goesL_ (some 9) rfl rfl Tryd.func14 (by kernel_rfl) rfl #[.string (⟨#[115, 116, 101, 112, 115]⟩ : ByteArray), .slice A0 l0.length c0] rfl aeq ?_; (with_reducible refine (sequencer_Check.calls k (⟨#[115, 116, 101, 112, 115]⟩ : ByteArray) _ _ l0 t281 _ ?side1 ?side2 ?side3 A3.out).mono ?_); (case side1 => repeat (first | exact HR0.out | (with_reducible refine Kd.C_alloc ?_ _) | (with_reducible refine Kd.C_drewN ?_ _) | (with_reducible refine Kd.C_drew ?_))); (case side2 => exact HC0.out); (case side3 => exact GW.below HG.out bl); rintro e w12 ⟨rfl, hb⟩; refine ⟨_, rfl, ?_⟩; have n0_ := Aside0.mk (below_step bl hb); clear HB; have HB := n0_; clear n0_; (try clear hb); (try clear hb2); (try clear hk); (try clear hi)) | ((with_reducible refine gate_callee (f := 23) rfl ?_); refine goesL_ (some 14) rfl rfl Tryd.func23 (by kernel_rfl) rfl #[.int .i64 a1] rfl aeq ?_; (with_reducible refine (sequencer_seconds.calls a1 false _ A5.out).mono ?_); rintro e w' ⟨rfl, ⟨nd, rfl⟩⟩; refine ⟨_, rfl, ?_⟩))
   go_ret2
   exact ⟨by first | rfl | (simp [errW_none, errW_some] <;> rfl) | (simp [*, errW_none, errW_some] <;> rfl), bl⟩
 ·
  rw [if_neg c4] at H
  have c4b0 : (t281 == 0) = false := beq_eq_false_iff_ne.mpr c4
  have c4b1 : (t281 != 0) = true := bne_iff_ne.mpr c4
  simp only [Option.some.injEq, Prod.mk.injEq] at H
  obtain ⟨rfl, rfl⟩ := H
  go_enter Tryd.func20, Tryd.ntmps20
  go_wp2_with (first | ((with_reducible refine gate_callee (f := 14) rfl ?_); refine goesL_ (some 9) rfl rfl Tryd.func14 (by kernel_rfl) rfl #[.string (⟨#[115, 116, 101, 112, 115]⟩ : ByteArray), .slice A0 l0.length c0] rfl aeq ?_; (with_reducible refine (sequencer_Check.calls k (⟨#[115, 116, 101, 112, 115]⟩ : ByteArray) _ _ l0 t281 _ ?side1 ?side2 ?side3 A3.out).mono ?_); (case side1 => repeat (first | exact HR0.out | (with_reducible refine Kd.C_alloc ?_ _) | (with_reducible refine Kd.C_drewN ?_ _) | (with_reducible refine Kd.C_drew ?_))); (case side2 => exact HC0.out); (case side3 => exact GW.below HG.out bl); rintro e w13 ⟨rfl, hb⟩; refine ⟨_, rfl, ?_⟩; have n0_ := Aside0.mk (below_step bl hb); clear HB; have HB := n0_; clear n0_; (try clear hb); (try clear hb2); (try clear hk); (try clear hi)))
  go_ret2
  exact ⟨by first | rfl | (simp [errW_none, errW_some] <;> rfl) | (simp [*, errW_none, errW_some] <;> rfl), bl⟩

end Go.Proofs.YtcpncmjjbfbdhaaDoor.R
