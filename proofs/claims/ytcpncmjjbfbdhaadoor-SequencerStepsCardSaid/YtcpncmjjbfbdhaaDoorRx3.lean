-- Written by this claim's own program out of the translation; not trusted: Lean checks it.
import Derived.Test.YtcpncmjjbfbdhaaDoorRx0
import Derived.Test.YtcpncmjjbfbdhaaDoorRx2
namespace Go.Proofs.YtcpncmjjbfbdhaaDoor.R
open Go.RowKit Go.Proofs.YtcpncmjjbfbdhaaDoorW.PrintWords Go.Proofs.YtcpncmjjbfbdhaaDoorW.PrintLast Go.Proofs.YtcpncmjjbfbdhaaDoorW.PrintMore
attribute [local go_sem] max2_int min2_int max_two min_two max_three min_three max_four min_four   -- for this text's walks alone
set_option linter.unusedVariables false
set_option linter.unusedSimpArgs false

/-! ### block_descriptor: function 37 -/
mutual
def block_descriptor.l0 : Nat → List ByteArray → List ByteArray → Int → Int → ByteArray → List (S73) → List (S73) → Int → Int → Option (ByteArray × (List (S61)) × (List (S73)) × (List (S73)) × Int × Int)
 | 0, _, _, _, _, _, _, _, _, _ => none
 | k + 1, x3, x33, x34, x35, x125000, x125002, x125003, x125004, x125005 => if x35 < x34 then (if 0 ≤ x35 then (if x35 < (x33.length : Int) then ((block_port.f (rdOf ByteArray.empty x33 x35)).bind fun bt130 => (if x125002.length < 4398046511104 then (block_descriptor.l0 k x3 x33 x34 (wrap64 (x35 + 1)) x125000 (x125002 ++ [(⟨bt130.1, bt130.2⟩ : S73)]) x125003 x125004 x125005) else (none))) else (none)) else (none)) else (if 2 < (x3.length : Int) then ((strings_Fields.f (rdOf ByteArray.empty x3 2)).bind fun t136 => (block_descriptor.l1 k t136 (t136.length : Int) 0 x125000 ([] : List (S61)) x125002 x125003 x125004 x125005)) else (none))
def block_descriptor.l1 : Nat → List ByteArray → Int → Int → ByteArray → List (S61) → List (S73) → List (S73) → Int → Int → Option (ByteArray × (List (S61)) × (List (S73)) × (List (S73)) × Int × Int)
 | 0, _, _, _, _, _, _, _, _, _ => none
 | k + 1, x50, x51, x52, x125000, x125001, x125002, x125003, x125004, x125005 => if x52 < x51 then (if 0 ≤ x52 then (if x52 < (x50.length : Int) then ((strings_Split.f (rdOf ByteArray.empty x50 x52) (⟨#[58]⟩ : ByteArray)).bind fun t140 => (if 0 < (t140.length : Int) then (if 1 < (t140.length : Int) then ((block_number.f (rdOf ByteArray.empty t140 1)).bind fun t145 => (if 2 < (t140.length : Int) then ((block_number.f (rdOf ByteArray.empty t140 2)).bind fun t147 => (if 3 < (t140.length : Int) then ((block_number.f (rdOf ByteArray.empty t140 3)).bind fun t149 => (if x125001.length < 3518437208883 then (block_descriptor.l1 k x50 x51 (wrap64 (x52 + 1)) x125000 (x125001 ++ [(⟨rdOf ByteArray.empty t140 0, t145, t147, t149⟩ : S61)]) x125002 x125003 x125004 x125005) else (none))) else (none))) else (none))) else (none)) else (none))) else (none)) else (none)) else (some (x125000, x125001, x125002, x125003, x125004, x125005))
end
def block_descriptor.f (k : Nat) (a0 : ByteArray) : Option (ByteArray × (List (S61)) × (List (S73)) × (List (S73)) × Int × Int) := (strings_Split.f a0 (⟨#[124]⟩ : ByteArray)).bind fun t110 => (if 0 < (t110.length : Int) then (if 3 < (t110.length : Int) then (if 4 + (rdOf ByteArray.empty t110 3).size ≤ 9223372036854775807 then ((block_port.f ((⟨#[111, 117, 116, 58]⟩ : ByteArray) ++ (rdOf ByteArray.empty t110 3))).bind fun bt115 => (if 4 < (t110.length : Int) then ((block_number.f (rdOf ByteArray.empty t110 4)).bind fun t121 => (if 5 < (t110.length : Int) then ((block_number.f (rdOf ByteArray.empty t110 5)).bind fun t123 => (if 1 < (t110.length : Int) then ((strings_Fields.f (rdOf ByteArray.empty t110 1)).bind fun t126 => (block_descriptor.l0 k t110 t126 (t126.length : Int) 0 (rdOf ByteArray.empty t110 0) ([] : List (S73)) (([(⟨bt115.1, bt115.2⟩ : S73)] : List (S73))) t121 t123)) else (none))) else (none))) else (none))) else (none)) else (none)) else (none))
theorem block_descriptor.mono_l : ∀ k, (∀ y0 y1 y2 y3 y4 y5 y6 y7 y8, LeO (block_descriptor.l0 k y0 y1 y2 y3 y4 y5 y6 y7 y8) (block_descriptor.l0 (k + 1) y0 y1 y2 y3 y4 y5 y6 y7 y8)) ∧ (∀ y0 y1 y2 y3 y4 y5 y6 y7 y8, LeO (block_descriptor.l1 k y0 y1 y2 y3 y4 y5 y6 y7 y8) (block_descriptor.l1 (k + 1) y0 y1 y2 y3 y4 y5 y6 y7 y8))
 | 0 => ⟨fun _ _ _ _ _ _ _ _ _ r h => by simp [block_descriptor.l0] at h, fun _ _ _ _ _ _ _ _ _ r h => by simp [block_descriptor.l1] at h⟩
 | k + 1 => by
  obtain ⟨ih0, ih1⟩ := block_descriptor.mono_l k
  refine ⟨?_, ?_⟩
  ·
   intro y0 y1 y2 y3 y4 y5 y6 y7 y8
   unfold block_descriptor.l0
   repeat' first
   | (with_reducible exact ih0 _ _ _ _ _ _ _ _ _)
   | (with_reducible exact ih1 _ _ _ _ _ _ _ _ _)
   | (with_reducible exact LeO.refl _)
   | (with_reducible exact LeO.none _)
   | (with_reducible refine LeO.ite ?_ ?_)
   | (with_reducible refine LeO.bind ?_ (fun _ => ?_))
   | exact ih0 _ _ _ _ _ _ _ _ _
   | exact ih1 _ _ _ _ _ _ _ _ _
   | exact LeO.none _
   | refine LeO.ite ?_ ?_
   | refine LeO.bind ?_ (fun _ => ?_)
  ·
   intro y0 y1 y2 y3 y4 y5 y6 y7 y8
   unfold block_descriptor.l1
   repeat' first
   | (with_reducible exact ih0 _ _ _ _ _ _ _ _ _)
   | (with_reducible exact ih1 _ _ _ _ _ _ _ _ _)
   | (with_reducible exact LeO.refl _)
   | (with_reducible exact LeO.none _)
   | (with_reducible refine LeO.ite ?_ ?_)
   | (with_reducible refine LeO.bind ?_ (fun _ => ?_))
   | exact ih0 _ _ _ _ _ _ _ _ _
   | exact ih1 _ _ _ _ _ _ _ _ _
   | exact LeO.none _
   | refine LeO.ite ?_ ?_
   | refine LeO.bind ?_ (fun _ => ?_)
theorem block_descriptor.mono : ∀ a0 k, LeO (block_descriptor.f k a0) (block_descriptor.f (k + 1) a0) := by
 intro a0 k
 obtain ⟨ih0, ih1⟩ := block_descriptor.mono_l k
 unfold block_descriptor.f
 repeat' first
   | (with_reducible exact ih0 _ _ _ _ _ _ _ _ _)
   | (with_reducible exact ih1 _ _ _ _ _ _ _ _ _)
   | (with_reducible exact LeO.refl _)
   | (with_reducible exact LeO.none _)
   | (with_reducible refine LeO.ite ?_ ?_)
   | (with_reducible refine LeO.bind ?_ (fun _ => ?_))
   | exact ih0 _ _ _ _ _ _ _ _ _
   | exact ih1 _ _ _ _ _ _ _ _ _
   | exact LeO.none _
   | refine LeO.ite ?_ ?_
   | refine LeO.bind ?_ (fun _ => ?_)
def block_descriptor.T2 : Bool × List (List Nat × List Nat) := (true, [([], []), ([0], [0]), ([1], [1]), ([], []), ([3], [3]), ([4], [4]), ([5], [5]), ([6], [6]), ([7], [7]), ([], []), ([9], [9]), ([10], [10]), ([11, 7], [11]), ([], []), ([13], [13]), ([14], [14]), ([15, 12], [15]), ([2, 8, 12, 16], [2, 8, 12, 16]), ([], []), ([18, 17, 16, 0, 1, 2, 3, 4, 5, 6, 7, 8, 9, 10, 11, 12, 13, 14, 15, 16, 17, 18], [17, 18])])
def block_descriptor.B2 : List Nat := [0, 1, 3, 0, 8, 24, 56, 120, 248, 0, 512, 1536, 3832, 0, 8192, 24576, 65272, 131071, 0, 524287]
theorem block_descriptor.tab2 : rtab .any (opsOf Tryd.f37 2) = block_descriptor.T2 := by kernel_rfl
theorem block_descriptor.bits2 : waitsOk block_descriptor.T2.2 block_descriptor.B2 = true := by kernel_rfl
def block_descriptor.T6 : Bool × List (List Nat × List Nat) := (true, [([], []), ([0], [0]), ([], []), ([2], [2]), ([3], [3]), ([1, 4, 3], [1, 4]), ([0, 1, 2, 3, 4, 5], []), ([6, 5, 5, 0, 1, 2, 3, 4, 5], [5, 6])])
def block_descriptor.B6 : List Nat := [0, 1, 0, 4, 12, 31, 63, 127]
theorem block_descriptor.tab6 : rtab .any (opsOf Tryd.f37 6) = block_descriptor.T6 := by kernel_rfl
theorem block_descriptor.bits6 : waitsOk block_descriptor.T6.2 block_descriptor.B6 = true := by kernel_rfl
def block_descriptor.T12 : Bool × List (List Nat × List Nat) := (true, [([], []), ([0], [0]), ([], []), ([2], [2]), ([3], [3]), ([], []), ([5], [5]), ([6], [6]), ([7], [7]), ([], []), ([9], [9]), ([10], [10]), ([11, 8], [11]), ([], []), ([13], [13]), ([14], [14]), ([15, 12], [15]), ([4, 8, 12, 16], [4, 8, 12, 16]), ([17], [17]), ([1, 18, 16], [1, 18]), ([0, 1, 2, 3, 4, 5, 6, 7, 8, 9, 10, 11, 12, 13, 14, 15, 16, 17, 18, 19], []), ([20, 19, 19, 0, 1, 2, 3, 4, 5, 6, 7, 8, 9, 10, 11, 12, 13, 14, 15, 16, 17, 18, 19], [19, 20])])
def block_descriptor.B12 : List Nat := [0, 1, 0, 4, 12, 0, 32, 96, 224, 0, 512, 1536, 4064, 0, 8192, 24576, 65504, 131068, 262140, 524287, 1048575, 2097151]
theorem block_descriptor.tab12 : rtab .any (opsOf Tryd.f37 12) = block_descriptor.T12 := by kernel_rfl
theorem block_descriptor.bits12 : waitsOk block_descriptor.T12.2 block_descriptor.B12 = true := by kernel_rfl
set_option maxHeartbeats 8000000 in
set_option maxRecDepth 100000 in
theorem block_descriptor.calls (k : Nat) (a0 : ByteArray) (r1 : ByteArray) (r2 : List (S61)) (r3 : List (S73)) (r4 : List (S73)) (r5 : Int) (r6 : Int) (w : World) (hG : GW w) (h : block_descriptor.f k a0 = some (r1, r2, r3, r4, r5, r6)) :
  Calls Tryd.prog 37 #[.string a0] w fun e w' => ∃ v1_ v2_ v3_ : Value, e = .returned (.agg #[.string r1, v1_, v2_, v3_, .int .i64 r5, .int .i64 r6]) ∧ Kd.R k61 61 w' w.heap.size (fun _ => True) v1_ r2 ∧ Kd.R k73 73 w' w.heap.size (fun k_ => some k_ ≠ (v3_ : Value).ownBlock) v2_ r3 ∧ Kd.R k73 73 w' w.heap.size (fun k_ => some k_ ≠ (v2_ : Value).ownBlock) v3_ r4 ∧ Below w.heap.size w w' := by
 have hu57 := Tryd.underlying57
 have hu61 := Tryd.underlying61
 have HG := Aside0.mk hG
 clear hG
 have HB := Aside0.mk (Below.refl w.heap.size w)
 have H : ((strings_Split.f a0 (⟨#[124]⟩ : ByteArray)).bind fun t110 => (if 0 < (t110.length : Int) then (if 3 < (t110.length : Int) then (if 4 + (rdOf ByteArray.empty t110 3).size ≤ 9223372036854775807 then ((block_port.f ((⟨#[111, 117, 116, 58]⟩ : ByteArray) ++ (rdOf ByteArray.empty t110 3))).bind fun bt115 => (if 4 < (t110.length : Int) then ((block_number.f (rdOf ByteArray.empty t110 4)).bind fun t121 => (if 5 < (t110.length : Int) then ((block_number.f (rdOf ByteArray.empty t110 5)).bind fun t123 => (if 1 < (t110.length : Int) then ((strings_Fields.f (rdOf ByteArray.empty t110 1)).bind fun t126 => (block_descriptor.l0 k t110 t126 (t126.length : Int) 0 (rdOf ByteArray.empty t110 0) ([] : List (S73)) (([(⟨bt115.1, bt115.2⟩ : S73)] : List (S73))) t121 t123)) else (none))) else (none))) else (none))) else (none)) else (none)) else (none))) = some (r1, r2, r3, r4, r5, r6) := h
 clear h
 replace H := Option.bind_eq_some_iff.mp H
 obtain ⟨t110, A20, H⟩ := H
 replace H : (if 0 < (t110.length : Int) then (if 3 < (t110.length : Int) then (if 4 + (rdOf ByteArray.empty t110 3).size ≤ 9223372036854775807 then ((block_port.f ((⟨#[111, 117, 116, 58]⟩ : ByteArray) ++ (rdOf ByteArray.empty t110 3))).bind fun bt115 => (if 4 < (t110.length : Int) then ((block_number.f (rdOf ByteArray.empty t110 4)).bind fun t121 => (if 5 < (t110.length : Int) then ((block_number.f (rdOf ByteArray.empty t110 5)).bind fun t123 => (if 1 < (t110.length : Int) then ((strings_Fields.f (rdOf ByteArray.empty t110 1)).bind fun t126 => (block_descriptor.l0 k t110 t126 (t126.length : Int) 0 (rdOf ByteArray.empty t110 0) ([] : List (S73)) (([(⟨bt115.1, bt115.2⟩ : S73)] : List (S73))) t121 t123)) else (none))) else (none))) else (none))) else (none)) else (none)) else (none)) = some (r1, r2, r3, r4, r5, r6) := H
 have A2 := Aside0.mk A20
 clear A20
 by_cases c3 : 0 < (t110.length : Int)
 ·
  rw [if_pos c3] at H
  have c3b0 : decide (0 < (t110.length : Int)) = true := decide_eq_true c3
  have c3b1 : decide (0 < t110.length) = true := decide_eq_true (by omega)
  clear c3
  by_cases c4 : 3 < (t110.length : Int)
  ·
   rw [if_pos c4] at H
   have c4b0 : decide (3 < (t110.length : Int)) = true := decide_eq_true c4
   have c4b1 : decide (3 < t110.length) = true := decide_eq_true (by omega)
   clear c4
   by_cases c5 : 4 + (rdOf ByteArray.empty t110 3).size ≤ 9223372036854775807
   ·
    rw [if_pos c5] at H
    have c5b0 := eq_true c5
    have c5b1 : decide (4 + (rdOf ByteArray.empty t110 3).size ≤ 9223372036854775807) = true := decide_eq_true c5
    try have c5b2 : (9223372036854775807 < 4 + (rdOf ByteArray.empty t110 3).size) = False := eq_false (Nat.not_lt.2 c5)
    replace H := Option.bind_eq_some_iff.mp H
    obtain ⟨⟨t115, t116⟩, A60, H⟩ := H
    replace H : (if 4 < (t110.length : Int) then ((block_number.f (rdOf ByteArray.empty t110 4)).bind fun t121 => (if 5 < (t110.length : Int) then ((block_number.f (rdOf ByteArray.empty t110 5)).bind fun t123 => (if 1 < (t110.length : Int) then ((strings_Fields.f (rdOf ByteArray.empty t110 1)).bind fun t126 => (block_descriptor.l0 k t110 t126 (t126.length : Int) 0 (rdOf ByteArray.empty t110 0) ([] : List (S73)) (([(⟨t115, t116⟩ : S73)] : List (S73))) t121 t123)) else (none))) else (none))) else (none)) = some (r1, r2, r3, r4, r5, r6) := H
    have A6 := Aside0.mk A60
    clear A60
    obtain ⟨y117, hy117⟩ : ∃ y_ : List (S73), y_ = (([(⟨t115, t116⟩ : S73)] : List (S73))) := ⟨_, rfl⟩
    replace H : (if 4 < (t110.length : Int) then ((block_number.f (rdOf ByteArray.empty t110 4)).bind fun t121 => (if 5 < (t110.length : Int) then ((block_number.f (rdOf ByteArray.empty t110 5)).bind fun t123 => (if 1 < (t110.length : Int) then ((strings_Fields.f (rdOf ByteArray.empty t110 1)).bind fun t126 => (block_descriptor.l0 k t110 t126 (t126.length : Int) 0 (rdOf ByteArray.empty t110 0) ([] : List (S73)) y117 t121 t123)) else (none))) else (none))) else (none)) = some (r1, r2, r3, r4, r5, r6) := by first | (rw [hy117]; with_reducible exact H) | (have H2_ := (Option.bind_some _ _).symm.trans H; rw [hy117]; with_reducible exact H2_) | (have H2_ := (Option.bind_some _ _).symm.trans H; with_reducible exact H2_) | with_reducible exact H | (rw [hy117]; exact H) | exact H
    have Ny117 := Aside0.mk hy117
    clear hy117
    by_cases c7 : 4 < (t110.length : Int)
    ·
     rw [if_pos c7] at H
     have c7b0 : decide (4 < (t110.length : Int)) = true := decide_eq_true c7
     have c7b1 : decide (4 < t110.length) = true := decide_eq_true (by omega)
     clear c7
     replace H := Option.bind_eq_some_iff.mp H
     obtain ⟨t121, A80, H⟩ := H
     replace H : (if 5 < (t110.length : Int) then ((block_number.f (rdOf ByteArray.empty t110 5)).bind fun t123 => (if 1 < (t110.length : Int) then ((strings_Fields.f (rdOf ByteArray.empty t110 1)).bind fun t126 => (block_descriptor.l0 k t110 t126 (t126.length : Int) 0 (rdOf ByteArray.empty t110 0) ([] : List (S73)) y117 t121 t123)) else (none))) else (none)) = some (r1, r2, r3, r4, r5, r6) := H
     have A8 := Aside0.mk A80
     clear A80
     by_cases c9 : 5 < (t110.length : Int)
     ·
      rw [if_pos c9] at H
      have c9b0 : decide (5 < (t110.length : Int)) = true := decide_eq_true c9
      have c9b1 : decide (5 < t110.length) = true := decide_eq_true (by omega)
      clear c9
      replace H := Option.bind_eq_some_iff.mp H
      obtain ⟨t123, A100, H⟩ := H
      replace H : (if 1 < (t110.length : Int) then ((strings_Fields.f (rdOf ByteArray.empty t110 1)).bind fun t126 => (block_descriptor.l0 k t110 t126 (t126.length : Int) 0 (rdOf ByteArray.empty t110 0) ([] : List (S73)) y117 t121 t123)) else (none)) = some (r1, r2, r3, r4, r5, r6) := H
      have A10 := Aside0.mk A100
      clear A100
      by_cases c11 : 1 < (t110.length : Int)
      ·
       rw [if_pos c11] at H
       have c11b0 : decide (1 < (t110.length : Int)) = true := decide_eq_true c11
       have c11b1 : decide (1 < t110.length) = true := decide_eq_true (by omega)
       clear c11
       replace H := Option.bind_eq_some_iff.mp H
       obtain ⟨t126, A120, H⟩ := H
       replace H : (block_descriptor.l0 k t110 t126 (t126.length : Int) 0 (rdOf ByteArray.empty t110 0) ([] : List (S73)) y117 t121 t123) = some (r1, r2, r3, r4, r5, r6) := H
       have A12 := Aside0.mk A120
       clear A120
       have H' := Aside0.mk H
       clear H
       go_enter Tryd.func37, Tryd.ntmps37
       try go_wp2_with (first | ((with_reducible refine gate_dst (N := 2) rfl ?_); refine box_event ?hg (N := 2) ?hd (cs := #[.string (⟨#[]⟩ : ByteArray), .slice none 0 0, .slice none 0 0, .slice none 0 0, .int .i64 0, .int .i64 0]) (t := 57) ?hr ?_; (case hd => rfl); (case hg => rfl); (case hr => first | (go_simp; done) | (go_simp; rfl)); intro gb109 hg w13 hbox hb; have n0_ := Aside0.mk (below_step bl hb); have n1_ := Aside0.mk (hbox); have n2_ := Aside0.mk ((by rw [hg]; exact (below_size bl) : w.heap.size ≤ gb109)); have n3_ := Aside0.mk ((by rw [hg]; exact (below_size bl) : w.heap.size ≤ gb109)); clear HB; have HB := n0_; have BK109 := n1_; have GW109 := n2_; have GE109 := n3_; clear n0_ n1_ n2_ n3_; clear hb hbox hg) | ((with_reducible refine gate_callee (f := 34) rfl ?_); refine goesL_ (some 11) rfl rfl Tryd.func34 (by kernel_rfl) rfl #[.string a0, .string (⟨#[124]⟩ : ByteArray)] rfl aeq ?_; (with_reducible refine (strings_Split.calls a0 (⟨#[124]⟩ : ByteArray) t110 _ ?side1 A2.out).mono ?_); (case side1 => exact GW.below HG.out (by repeat (first | (with_reducible first | exact HB.out | apply below_alloc | apply pw_below_drewN | apply below_drew1 | refine below_set ?_ GE109.out) | exact HB.out))); rintro e w14 ⟨v111, rfl, ho0, hb⟩; refine ⟨_, rfl, ?_⟩; have n0_ := Aside0.mk (Kd.R_lower ho0 (below_size (by repeat (first | (with_reducible first | exact HB.out | apply below_alloc | apply pw_below_drewN | apply below_drew1 | refine below_set ?_ GE109.out) | exact HB.out)))); have n1_ := Aside0.mk (blk_below (g := gb109) (o := .cells #[.string (⟨#[]⟩ : ByteArray), .slice none 0 0, .slice none 0 0, .slice none 0 0, .int .i64 0, .int .i64 0] 57 (0, 0)) (by (with_reducible repeat (first | refine blk_drewN ?_ _ | refine blk_drew ?_ | refine blk_alloc ?_ _)); exact BK109.out) hb); have n2_ := Aside0.mk (below_step (by repeat (first | (with_reducible first | exact HB.out | apply below_alloc | apply pw_below_drewN | apply below_drew1 | refine below_set ?_ GE109.out) | exact HB.out)) hb); clear BK109; clear HB; have HO112 := n0_; have BK109 := n1_; have HB := n2_; clear n0_ n1_ n2_; (try clear hb); (try clear hb2); (try clear hk); (try clear hi); (try clear ho0)))
       have n0_ := Aside0.mk (Kd.R_drew HO112.out)
       have n1_ := Aside0.mk (blk_drew BK109.out)
       have n2_ := Aside0.mk (below_drew1 HB.out)
       clear HO112
       clear BK109
       clear HB
       have HO112 := n0_
       have BK109 := n1_
       have HB := n2_
       clear n0_ n1_ n2_
       obtain ⟨Ao16, co16, eo16⟩ := Kd.R_slice HO112.out
       (first | subst eo16 | (injection eo16 with f1_ f2_ f3_; have f4_ := f1_.symm; have f5_ := f3_.symm; clear f1_ f2_ f3_; subst f4_; subst f5_))
       have p113 : 0 ≤ (0 : Int) := (by omega)
       have q113 : 0 < (t110.length : Int) := ode
       obtain ⟨ad113, e113, hx113_0⟩ := Kd.at_string (Kd.R_reads' HO112.out).2.2 0 p113 q113
       cases e113
       have qi113 : (0 < t110.length) = True := eq_true (by omega)
       (try rw [show ((0 : Int)).toNat = 0 from rfl] at hx113_0)
       (try rw [Addr.add_zero'] at hx113_0)
       replace p113 := eq_true p113
       replace q113 := eq_true q113
       have p114 : 0 ≤ (3 : Int) := (by omega)
       have q114 : 3 < (t110.length : Int) := ode
       obtain ⟨ad114, e114, hx114_0⟩ := Kd.at_string (Kd.R_reads' HO112.out).2.2 3 p114 q114
       obtain rfl : ad113 = ad114 := (by injection e114)
       (try simp only [show (3 : Int).toNat = 3 from rfl, Nat.reduceMul, Nat.reduceEqDiff, Go.Addr.add, ↓reduceIte] at hx114_0)
       have qi114 : (3 < t110.length) = True := eq_true (by omega)
       (try rw [show ((3 : Int)).toNat = 3 from rfl] at hx114_0)
       replace p114 := eq_true p114
       replace q114 := eq_true q114
       have p120 : 0 ≤ (4 : Int) := (by omega)
       have q120 : 4 < (t110.length : Int) := ode
       obtain ⟨ad120, e120, hx120_0⟩ := Kd.at_string (Kd.R_reads' HO112.out).2.2 4 p120 q120
       obtain rfl : ad113 = ad120 := (by injection e120)
       (try simp only [show (4 : Int).toNat = 4 from rfl, Nat.reduceMul, Nat.reduceEqDiff, Go.Addr.add, ↓reduceIte] at hx120_0)
       have qi120 : (4 < t110.length) = True := eq_true (by omega)
       (try rw [show ((4 : Int)).toNat = 4 from rfl] at hx120_0)
       replace p120 := eq_true p120
       replace q120 := eq_true q120
       have p122 : 0 ≤ (5 : Int) := (by omega)
       have q122 : 5 < (t110.length : Int) := ode
       obtain ⟨ad122, e122, hx122_0⟩ := Kd.at_string (Kd.R_reads' HO112.out).2.2 5 p122 q122
       obtain rfl : ad113 = ad122 := (by injection e122)
       (try simp only [show (5 : Int).toNat = 5 from rfl, Nat.reduceMul, Nat.reduceEqDiff, Go.Addr.add, ↓reduceIte] at hx122_0)
       have qi122 : (5 < t110.length) = True := eq_true (by omega)
       (try rw [show ((5 : Int)).toNat = 5 from rfl] at hx122_0)
       replace p122 := eq_true p122
       replace q122 := eq_true q122
       refine start_ (n := 20) (S := fun w' => w'.cell? ad113 = some (.string (rdOf ByteArray.empty t110 0)) ∧ w'.cell? ⟨ad113.block, ad113.off + 3, none⟩ = some (.string (rdOf ByteArray.empty t110 3)) ∧ w'.cell? ⟨ad113.block, ad113.off + 4, none⟩ = some (.string (rdOf ByteArray.empty t110 4)) ∧ w'.cell? ⟨ad113.block, ad113.off + 5, none⟩ = some (.string (rdOf ByteArray.empty t110 5))) (ds := []) #[false, false, false, false, false, false, false, false, false, false, false, false, false, false, false, false, false, false, false, false] (by kernel_rfl) rfl rfl ⟨hx113_0, hx114_0, hx120_0, hx122_0⟩ (fun hHeld => ?_); refine with_tabW block_descriptor.tab2 block_descriptor.bits2 (fun HT_ HW_ => ?_)
       generalize w14.drew = w15 at HO112 BK109 HB hx113_0 hx114_0 hx120_0 hx122_0 hHeld ⊢
       refine pure_ (i := 0) (N := some 12) (v := ?_) (a' := ?_) #[true, false, false, false, false, false, false, false, false, false, false, false, false, false, false, false, false, false, false, false] rfl rfl (any_of HT_.out (by kernel_rfl)) (fun _ _ _ h => h) (Or.inl ⟨by rfl, ?_⟩) ?_ ?_
       rotate_left
       ·
        intro w'
        go_simp
        with_reducible rfl
       rotate_left
       ·
        simp only [Act.put, List.setIfInBounds_toArray, List.set_cons_zero, List.set_cons_succ, i64_w, i32_w]
        rfl
       refine pure_ (i := 1) (N := some 13) (v := ?_) (a' := ?_) #[true, true, false, false, false, false, false, false, false, false, false, false, false, false, false, false, false, false, false, false] rfl rfl (any_of HT_.out (by kernel_rfl)) (fun _ _ _ h => h) (Or.inl ⟨by rfl, ?_⟩) ?_ ?_
       rotate_left
       ·
        intro w'
        go_simp
        with_reducible rfl
       rotate_left
       ·
        simp only [Act.put, List.setIfInBounds_toArray, List.set_cons_zero, List.set_cons_succ, i64_w, i32_w]
        rfl
       refine pure_ (i := 3) (N := some 15) (v := ?_) (a' := ?_) #[true, true, false, true, false, false, false, false, false, false, false, false, false, false, false, false, false, false, false, false] rfl rfl (any_of HT_.out (by kernel_rfl)) (fun _ _ _ h => h) (Or.inl ⟨by rfl, ?_⟩) ?_ ?_
       rotate_left
       ·
        intro w'
        go_simp
        with_reducible rfl
       rotate_left
       ·
        simp only [Act.put, List.setIfInBounds_toArray, List.set_cons_zero, List.set_cons_succ, i64_w, i32_w]
        rfl
       refine pure_ (i := 4) (N := some 16) (v := ?_) (a' := ?_) #[true, true, false, true, true, false, false, false, false, false, false, false, false, false, false, false, false, false, false, false] rfl rfl (any_of HT_.out (by kernel_rfl)) (fun _ _ _ h => h) (Or.inl ⟨by rfl, ?_⟩) ?_ ?_
       rotate_left
       ·
        intro w'
        go_simp
        with_reducible rfl
       rotate_left
       ·
        simp only [Act.put, List.setIfInBounds_toArray, List.set_cons_zero, List.set_cons_succ, i64_w, i32_w]
        rfl
       refine pure_ (i := 9) (N := some 21) (v := ?_) (a' := ?_) #[true, true, false, true, true, false, false, false, false, true, false, false, false, false, false, false, false, false, false, false] rfl rfl (any_of HT_.out (by kernel_rfl)) (fun _ _ _ h => h) (Or.inl ⟨by rfl, ?_⟩) ?_ ?_
       rotate_left
       ·
        intro w'
        go_simp
        with_reducible rfl
       rotate_left
       ·
        simp only [Act.put, List.setIfInBounds_toArray, List.set_cons_zero, List.set_cons_succ, i64_w, i32_w]
        rfl
       refine pure_ (i := 10) (N := some 22) (v := ?_) (a' := ?_) #[true, true, false, true, true, false, false, false, false, true, true, false, false, false, false, false, false, false, false, false] rfl rfl (any_of HT_.out (by kernel_rfl)) (fun _ _ _ h => h) (Or.inl ⟨by rfl, ?_⟩) ?_ ?_
       rotate_left
       ·
        intro w'
        go_simp
        with_reducible rfl
       rotate_left
       ·
        simp only [Act.put, List.setIfInBounds_toArray, List.set_cons_zero, List.set_cons_succ, i64_w, i32_w]
        rfl
       refine pure_ (i := 13) (N := some 25) (v := ?_) (a' := ?_) #[true, true, false, true, true, false, false, false, false, true, true, false, false, true, false, false, false, false, false, false] rfl rfl (any_of HT_.out (by kernel_rfl)) (fun _ _ _ h => h) (Or.inl ⟨by rfl, ?_⟩) ?_ ?_
       rotate_left
       ·
        intro w'
        go_simp
        with_reducible rfl
       rotate_left
       ·
        simp only [Act.put, List.setIfInBounds_toArray, List.set_cons_zero, List.set_cons_succ, i64_w, i32_w]
        rfl
       refine pure_ (i := 14) (N := some 26) (v := ?_) (a' := ?_) #[true, true, false, true, true, false, false, false, false, true, true, false, false, true, true, false, false, false, false, false] rfl rfl (any_of HT_.out (by kernel_rfl)) (fun _ _ _ h => h) (Or.inl ⟨by rfl, ?_⟩) ?_ ?_
       rotate_left
       ·
        intro w'
        go_simp
        with_reducible rfl
       rotate_left
       ·
        simp only [Act.put, List.setIfInBounds_toArray, List.set_cons_zero, List.set_cons_succ, i64_w, i32_w]
        rfl
       refine take_ (i := 2) (N := some 14) (v := ?_) (a' := ?_) #[true, true, true, true, true, false, false, false, false, true, true, false, false, true, true, false, false, false, false, false] rfl rfl (take_ofW HT_.out HW_.out (by kernel_rfl)) (fun _ _ _ h => h) (Or.inl ⟨by rfl, ?_⟩) hHeld ?_ ?_
       rotate_left
       ·
        rintro w' ⟨s0, s1, s2, s3⟩
        go_simp
        with_reducible rfl
       rotate_left
       ·
        simp only [Act.put, List.setIfInBounds_toArray, List.set_cons_zero, List.set_cons_succ, i64_w, i32_w]
        rfl
       refine take_ (i := 5) (N := some 17) (v := ?_) (a' := ?_) #[true, true, true, true, true, true, false, false, false, true, true, false, false, true, true, false, false, false, false, false] rfl rfl (take_ofW HT_.out HW_.out (by kernel_rfl)) (fun _ _ _ h => h) (Or.inl ⟨by rfl, ?_⟩) hHeld ?_ ?_
       rotate_left
       ·
        rintro w' ⟨s0, s1, s2, s3⟩
        go_simp
        with_reducible rfl
       rotate_left
       ·
        simp only [Act.put, List.setIfInBounds_toArray, List.set_cons_zero, List.set_cons_succ, i64_w, i32_w]
        rfl
       refine pure_ (i := 6) (N := some 18) (v := ?_) (a' := ?_) #[true, true, true, true, true, true, true, false, false, true, true, false, false, true, true, false, false, false, false, false] rfl rfl (any_of HT_.out (by kernel_rfl)) (fun _ _ _ h => h) (Or.inl ⟨by rfl, ?_⟩) ?_ ?_
       rotate_left
       ·
        intro w'
        go_simp
        with_reducible rfl
       rotate_left
       ·
        simp only [Act.put, List.setIfInBounds_toArray, List.set_cons_zero, List.set_cons_succ, i64_w, i32_w]
        rfl
       refine take_ (i := 11) (N := some 23) (v := ?_) (a' := ?_) #[true, true, true, true, true, true, true, false, false, true, true, true, false, true, true, false, false, false, false, false] rfl rfl (take_ofW HT_.out HW_.out (by kernel_rfl)) (fun _ _ _ h => h) (Or.inl ⟨by rfl, ?_⟩) hHeld ?_ ?_
       rotate_left
       ·
        rintro w' ⟨s0, s1, s2, s3⟩
        go_simp
        with_reducible rfl
       rotate_left
       ·
        simp only [Act.put, List.setIfInBounds_toArray, List.set_cons_zero, List.set_cons_succ, i64_w, i32_w]
        rfl
       refine take_ (i := 15) (N := some 27) (v := ?_) (a' := ?_) #[true, true, true, true, true, true, true, false, false, true, true, true, false, true, true, true, false, false, false, false] rfl rfl (take_ofW HT_.out HW_.out (by kernel_rfl)) (fun _ _ _ h => h) (Or.inl ⟨by rfl, ?_⟩) hHeld ?_ ?_
       rotate_left
       ·
        rintro w' ⟨s0, s1, s2, s3⟩
        go_simp
        with_reducible rfl
       rotate_left
       ·
        simp only [Act.put, List.setIfInBounds_toArray, List.set_cons_zero, List.set_cons_succ, i64_w, i32_w]
        rfl
       refine join_ (σ := Value × Nat) 1 #[true, true, true, true, true, true, true, true, true, true, true, true, true, true, true, true, true, true, true, false] (fun s_ => [(19, .agg #[.string t115, .string t116]), (20, s_.1), (24, .int .i64 t121), (28, .int .i64 t123), (4, .pointer (some ⟨s_.2, 0, none⟩)), (29, .agg #[.string (rdOf ByteArray.empty t110 0), .slice none 0 0, .slice none 0 0, s_.1, .int .i64 t121, .int .i64 t123])]) (fun s_ w' => (w'.cell? ad113 = some (.string (rdOf ByteArray.empty t110 0)) ∧ w'.cell? ⟨ad113.block, ad113.off + 3, none⟩ = some (.string (rdOf ByteArray.empty t110 3)) ∧ w'.cell? ⟨ad113.block, ad113.off + 4, none⟩ = some (.string (rdOf ByteArray.empty t110 4)) ∧ w'.cell? ⟨ad113.block, ad113.off + 5, none⟩ = some (.string (rdOf ByteArray.empty t110 5))) ∧ (Kd.R Kd.string 9 w' w.heap.size (fun _ => True) (.slice (some ad113) t110.length co16) t110) ∧ (Kd.R k73 73 w' w.heap.size (fun _ => True) s_.1 y117) ∧ (w'.heap[gb109]? = some (.cells #[.string (⟨#[]⟩ : ByteArray), .slice none 0 0, .slice none 0 0, .slice none 0 0, .int .i64 0, .int .i64 0] 57 (0, 0))) ∧ (w'.heap[s_.2]? = some (.cells #[.string (⟨#[]⟩ : ByteArray), .slice none 0 0, .slice none 0 0, .slice none 0 0, .int .i64 0, .int .i64 0] 57 (0, 0))) ∧ (w.heap.size ≤ s_.2) ∧ (w.heap.size ≤ s_.2) ∧ (gb109 ≠ s_.2) ∧ (s_.2 ≠ gb109) ∧ (Below w.heap.size w w')) ?_ ?_
       rotate_left
       ·
        intro hJ7_8_12_16_18
        refine join_ (σ := Value) 2 #[true, true, true, true, true, true, true, true, true, true, true, true, true, true, true, true, true, true, false, false] (fun s_ => [(19, .agg #[.string t115, .string t116]), (20, s_), (24, .int .i64 t121), (28, .int .i64 t123), (29, .agg #[.string (rdOf ByteArray.empty t110 0), .slice none 0 0, .slice none 0 0, s_, .int .i64 t121, .int .i64 t123])]) (fun s_ w' => (w'.cell? ad113 = some (.string (rdOf ByteArray.empty t110 0)) ∧ w'.cell? ⟨ad113.block, ad113.off + 3, none⟩ = some (.string (rdOf ByteArray.empty t110 3)) ∧ w'.cell? ⟨ad113.block, ad113.off + 4, none⟩ = some (.string (rdOf ByteArray.empty t110 4)) ∧ w'.cell? ⟨ad113.block, ad113.off + 5, none⟩ = some (.string (rdOf ByteArray.empty t110 5))) ∧ (Kd.R Kd.string 9 w' w.heap.size (fun _ => True) (.slice (some ad113) t110.length co16) t110) ∧ (Kd.R k73 73 w' w.heap.size (fun _ => True) s_ y117) ∧ (w'.heap[gb109]? = some (.cells #[.string (⟨#[]⟩ : ByteArray), .slice none 0 0, .slice none 0 0, .slice none 0 0, .int .i64 0, .int .i64 0] 57 (0, 0))) ∧ (Below w.heap.size w w')) ?_ ?_
        rotate_left
        ·
         intro hJ7_8_12_16
         refine join_ (σ := Value × Nat) 3 #[true, true, true, true, true, true, true, true, true, true, true, true, true, true, true, true, false, false, true, false] (fun s_ => [(19, .agg #[.string t115, .string t116]), (20, s_.1), (24, .int .i64 t121), (4, .pointer (some ⟨s_.2, 0, none⟩))]) (fun s_ w' => (w'.cell? ad113 = some (.string (rdOf ByteArray.empty t110 0)) ∧ w'.cell? ⟨ad113.block, ad113.off + 3, none⟩ = some (.string (rdOf ByteArray.empty t110 3)) ∧ w'.cell? ⟨ad113.block, ad113.off + 4, none⟩ = some (.string (rdOf ByteArray.empty t110 4)) ∧ w'.cell? ⟨ad113.block, ad113.off + 5, none⟩ = some (.string (rdOf ByteArray.empty t110 5))) ∧ (Kd.R Kd.string 9 w' w.heap.size (fun _ => True) (.slice (some ad113) t110.length co16) t110) ∧ (Kd.R k73 73 w' w.heap.size (fun _ => True) s_.1 y117) ∧ (w'.heap[gb109]? = some (.cells #[.string (⟨#[]⟩ : ByteArray), .slice none 0 0, .slice none 0 0, .slice none 0 0, .int .i64 0, .int .i64 0] 57 (0, 0))) ∧ (w'.heap[s_.2]? = some (.cells #[.string (⟨#[]⟩ : ByteArray), .slice none 0 0, .slice none 0 0, .slice none 0 0, .int .i64 0, .int .i64 0] 57 (0, 0))) ∧ (w.heap.size ≤ s_.2) ∧ (w.heap.size ≤ s_.2) ∧ (gb109 ≠ s_.2) ∧ (s_.2 ≠ gb109) ∧ (Below w.heap.size w w')) ?_ ?_
         rotate_left
         ·
          intro hJ7_8_12_18
          refine join_ (σ := Nat) 3 #[true, true, true, true, true, true, true, true, false, true, true, true, true, true, true, true, true, false, true, false] (fun s_ => [(19, .agg #[.string t115, .string t116]), (24, .int .i64 t121), (28, .int .i64 t123), (4, .pointer (some ⟨s_, 0, none⟩))]) (fun s_ w' => (w'.cell? ad113 = some (.string (rdOf ByteArray.empty t110 0)) ∧ w'.cell? ⟨ad113.block, ad113.off + 3, none⟩ = some (.string (rdOf ByteArray.empty t110 3)) ∧ w'.cell? ⟨ad113.block, ad113.off + 4, none⟩ = some (.string (rdOf ByteArray.empty t110 4)) ∧ w'.cell? ⟨ad113.block, ad113.off + 5, none⟩ = some (.string (rdOf ByteArray.empty t110 5))) ∧ (Kd.R Kd.string 9 w' w.heap.size (fun _ => True) (.slice (some ad113) t110.length co16) t110) ∧ (w'.heap[gb109]? = some (.cells #[.string (⟨#[]⟩ : ByteArray), .slice none 0 0, .slice none 0 0, .slice none 0 0, .int .i64 0, .int .i64 0] 57 (0, 0))) ∧ (w'.heap[s_]? = some (.cells #[.string (⟨#[]⟩ : ByteArray), .slice none 0 0, .slice none 0 0, .slice none 0 0, .int .i64 0, .int .i64 0] 57 (0, 0))) ∧ (w.heap.size ≤ s_) ∧ (w.heap.size ≤ s_) ∧ (gb109 ≠ s_) ∧ (s_ ≠ gb109) ∧ (Below w.heap.size w w')) ?_ ?_
          rotate_left
          ·
           intro hJ7_12_16_18
           refine join_ (σ := Value) 4 #[true, true, true, true, true, true, true, true, true, true, true, true, true, true, true, true, false, false, false, false] (fun s_ => [(19, .agg #[.string t115, .string t116]), (20, s_), (24, .int .i64 t121)]) (fun s_ w' => (w'.cell? ad113 = some (.string (rdOf ByteArray.empty t110 0)) ∧ w'.cell? ⟨ad113.block, ad113.off + 3, none⟩ = some (.string (rdOf ByteArray.empty t110 3)) ∧ w'.cell? ⟨ad113.block, ad113.off + 4, none⟩ = some (.string (rdOf ByteArray.empty t110 4)) ∧ w'.cell? ⟨ad113.block, ad113.off + 5, none⟩ = some (.string (rdOf ByteArray.empty t110 5))) ∧ (Kd.R Kd.string 9 w' w.heap.size (fun _ => True) (.slice (some ad113) t110.length co16) t110) ∧ (Kd.R k73 73 w' w.heap.size (fun _ => True) s_ y117) ∧ (w'.heap[gb109]? = some (.cells #[.string (⟨#[]⟩ : ByteArray), .slice none 0 0, .slice none 0 0, .slice none 0 0, .int .i64 0, .int .i64 0] 57 (0, 0))) ∧ (Below w.heap.size w w')) ?_ ?_
           rotate_left
           ·
            intro hJ7_8_12
            refine join_ (σ := Value × Nat) 4 #[true, true, true, true, true, true, true, true, true, true, true, true, false, true, true, true, false, false, true, false] (fun s_ => [(19, .agg #[.string t115, .string t116]), (20, s_.1), (4, .pointer (some ⟨s_.2, 0, none⟩))]) (fun s_ w' => (w'.cell? ad113 = some (.string (rdOf ByteArray.empty t110 0)) ∧ w'.cell? ⟨ad113.block, ad113.off + 3, none⟩ = some (.string (rdOf ByteArray.empty t110 3)) ∧ w'.cell? ⟨ad113.block, ad113.off + 4, none⟩ = some (.string (rdOf ByteArray.empty t110 4)) ∧ w'.cell? ⟨ad113.block, ad113.off + 5, none⟩ = some (.string (rdOf ByteArray.empty t110 5))) ∧ (Kd.R Kd.string 9 w' w.heap.size (fun _ => True) (.slice (some ad113) t110.length co16) t110) ∧ (Kd.R k73 73 w' w.heap.size (fun _ => True) s_.1 y117) ∧ (w'.heap[gb109]? = some (.cells #[.string (⟨#[]⟩ : ByteArray), .slice none 0 0, .slice none 0 0, .slice none 0 0, .int .i64 0, .int .i64 0] 57 (0, 0))) ∧ (w'.heap[s_.2]? = some (.cells #[.string (⟨#[]⟩ : ByteArray), .slice none 0 0, .slice none 0 0, .slice none 0 0, .int .i64 0, .int .i64 0] 57 (0, 0))) ∧ (w.heap.size ≤ s_.2) ∧ (w.heap.size ≤ s_.2) ∧ (gb109 ≠ s_.2) ∧ (s_.2 ≠ gb109) ∧ (Below w.heap.size w w')) ?_ ?_
            rotate_left
            ·
             intro hJ7_8_18
             refine join_ (σ := Unit) 4 #[true, true, true, true, true, true, true, true, false, true, true, true, true, true, true, true, true, false, false, false] (fun s_ => [(19, .agg #[.string t115, .string t116]), (24, .int .i64 t121), (28, .int .i64 t123)]) (fun s_ w' => (w'.cell? ad113 = some (.string (rdOf ByteArray.empty t110 0)) ∧ w'.cell? ⟨ad113.block, ad113.off + 3, none⟩ = some (.string (rdOf ByteArray.empty t110 3)) ∧ w'.cell? ⟨ad113.block, ad113.off + 4, none⟩ = some (.string (rdOf ByteArray.empty t110 4)) ∧ w'.cell? ⟨ad113.block, ad113.off + 5, none⟩ = some (.string (rdOf ByteArray.empty t110 5))) ∧ (Kd.R Kd.string 9 w' w.heap.size (fun _ => True) (.slice (some ad113) t110.length co16) t110) ∧ (w'.heap[gb109]? = some (.cells #[.string (⟨#[]⟩ : ByteArray), .slice none 0 0, .slice none 0 0, .slice none 0 0, .int .i64 0, .int .i64 0] 57 (0, 0))) ∧ (Below w.heap.size w w')) ?_ ?_
             rotate_left
             ·
              intro hJ7_12_16
              refine join_ (σ := Nat) 4 #[true, true, true, true, true, true, true, true, false, true, true, true, true, true, true, true, false, false, true, false] (fun s_ => [(19, .agg #[.string t115, .string t116]), (24, .int .i64 t121), (4, .pointer (some ⟨s_, 0, none⟩))]) (fun s_ w' => (w'.cell? ad113 = some (.string (rdOf ByteArray.empty t110 0)) ∧ w'.cell? ⟨ad113.block, ad113.off + 3, none⟩ = some (.string (rdOf ByteArray.empty t110 3)) ∧ w'.cell? ⟨ad113.block, ad113.off + 4, none⟩ = some (.string (rdOf ByteArray.empty t110 4)) ∧ w'.cell? ⟨ad113.block, ad113.off + 5, none⟩ = some (.string (rdOf ByteArray.empty t110 5))) ∧ (Kd.R Kd.string 9 w' w.heap.size (fun _ => True) (.slice (some ad113) t110.length co16) t110) ∧ (w'.heap[gb109]? = some (.cells #[.string (⟨#[]⟩ : ByteArray), .slice none 0 0, .slice none 0 0, .slice none 0 0, .int .i64 0, .int .i64 0] 57 (0, 0))) ∧ (w'.heap[s_]? = some (.cells #[.string (⟨#[]⟩ : ByteArray), .slice none 0 0, .slice none 0 0, .slice none 0 0, .int .i64 0, .int .i64 0] 57 (0, 0))) ∧ (w.heap.size ≤ s_) ∧ (w.heap.size ≤ s_) ∧ (gb109 ≠ s_) ∧ (s_ ≠ gb109) ∧ (Below w.heap.size w w')) ?_ ?_
              rotate_left
              ·
               intro hJ7_12_18
               refine join_ (σ := Value) 5 #[true, true, true, true, true, true, true, true, true, true, true, true, false, true, true, true, false, false, false, false] (fun s_ => [(19, .agg #[.string t115, .string t116]), (20, s_)]) (fun s_ w' => (w'.cell? ad113 = some (.string (rdOf ByteArray.empty t110 0)) ∧ w'.cell? ⟨ad113.block, ad113.off + 3, none⟩ = some (.string (rdOf ByteArray.empty t110 3)) ∧ w'.cell? ⟨ad113.block, ad113.off + 4, none⟩ = some (.string (rdOf ByteArray.empty t110 4)) ∧ w'.cell? ⟨ad113.block, ad113.off + 5, none⟩ = some (.string (rdOf ByteArray.empty t110 5))) ∧ (Kd.R Kd.string 9 w' w.heap.size (fun _ => True) (.slice (some ad113) t110.length co16) t110) ∧ (Kd.R k73 73 w' w.heap.size (fun _ => True) s_ y117) ∧ (w'.heap[gb109]? = some (.cells #[.string (⟨#[]⟩ : ByteArray), .slice none 0 0, .slice none 0 0, .slice none 0 0, .int .i64 0, .int .i64 0] 57 (0, 0))) ∧ (Below w.heap.size w w')) ?_ ?_
               rotate_left
               ·
                intro hJ7_8
                refine join_ (σ := Unit) 5 #[true, true, true, true, true, true, true, true, false, true, true, true, true, true, true, true, false, false, false, false] (fun s_ => [(19, .agg #[.string t115, .string t116]), (24, .int .i64 t121)]) (fun s_ w' => (w'.cell? ad113 = some (.string (rdOf ByteArray.empty t110 0)) ∧ w'.cell? ⟨ad113.block, ad113.off + 3, none⟩ = some (.string (rdOf ByteArray.empty t110 3)) ∧ w'.cell? ⟨ad113.block, ad113.off + 4, none⟩ = some (.string (rdOf ByteArray.empty t110 4)) ∧ w'.cell? ⟨ad113.block, ad113.off + 5, none⟩ = some (.string (rdOf ByteArray.empty t110 5))) ∧ (Kd.R Kd.string 9 w' w.heap.size (fun _ => True) (.slice (some ad113) t110.length co16) t110) ∧ (w'.heap[gb109]? = some (.cells #[.string (⟨#[]⟩ : ByteArray), .slice none 0 0, .slice none 0 0, .slice none 0 0, .int .i64 0, .int .i64 0] 57 (0, 0))) ∧ (Below w.heap.size w w')) ?_ ?_
                rotate_left
                ·
                 intro hJ7_12
                 refine join_ (σ := Nat) 5 #[true, true, true, true, true, true, true, true, false, true, true, true, false, true, true, true, false, false, true, false] (fun s_ => [(19, .agg #[.string t115, .string t116]), (4, .pointer (some ⟨s_, 0, none⟩))]) (fun s_ w' => (w'.cell? ad113 = some (.string (rdOf ByteArray.empty t110 0)) ∧ w'.cell? ⟨ad113.block, ad113.off + 3, none⟩ = some (.string (rdOf ByteArray.empty t110 3)) ∧ w'.cell? ⟨ad113.block, ad113.off + 4, none⟩ = some (.string (rdOf ByteArray.empty t110 4)) ∧ w'.cell? ⟨ad113.block, ad113.off + 5, none⟩ = some (.string (rdOf ByteArray.empty t110 5))) ∧ (Kd.R Kd.string 9 w' w.heap.size (fun _ => True) (.slice (some ad113) t110.length co16) t110) ∧ (w'.heap[gb109]? = some (.cells #[.string (⟨#[]⟩ : ByteArray), .slice none 0 0, .slice none 0 0, .slice none 0 0, .int .i64 0, .int .i64 0] 57 (0, 0))) ∧ (w'.heap[s_]? = some (.cells #[.string (⟨#[]⟩ : ByteArray), .slice none 0 0, .slice none 0 0, .slice none 0 0, .int .i64 0, .int .i64 0] 57 (0, 0))) ∧ (w.heap.size ≤ s_) ∧ (w.heap.size ≤ s_) ∧ (gb109 ≠ s_) ∧ (s_ ≠ gb109) ∧ (Below w.heap.size w w')) ?_ ?_
                 rotate_left
                 ·
                  intro hJ7_18
                  refine join_ (σ := Unit) 6 #[true, true, true, true, true, true, true, true, false, true, true, true, false, true, true, true, false, false, false, false] (fun s_ => [(19, .agg #[.string t115, .string t116])]) (fun s_ w' => (w'.cell? ad113 = some (.string (rdOf ByteArray.empty t110 0)) ∧ w'.cell? ⟨ad113.block, ad113.off + 3, none⟩ = some (.string (rdOf ByteArray.empty t110 3)) ∧ w'.cell? ⟨ad113.block, ad113.off + 4, none⟩ = some (.string (rdOf ByteArray.empty t110 4)) ∧ w'.cell? ⟨ad113.block, ad113.off + 5, none⟩ = some (.string (rdOf ByteArray.empty t110 5))) ∧ (Kd.R Kd.string 9 w' w.heap.size (fun _ => True) (.slice (some ad113) t110.length co16) t110) ∧ (w'.heap[gb109]? = some (.cells #[.string (⟨#[]⟩ : ByteArray), .slice none 0 0, .slice none 0 0, .slice none 0 0, .int .i64 0, .int .i64 0] 57 (0, 0))) ∧ (Below w.heap.size w w')) ?_ ?_
                  rotate_left
                  ·
                   intro hJ7
                   refine join_ (σ := Nat) 6 #[true, true, true, true, true, true, true, false, false, true, true, true, false, true, true, true, false, false, true, false] (fun s_ => [(4, .pointer (some ⟨s_, 0, none⟩))]) (fun s_ w' => (w'.cell? ad113 = some (.string (rdOf ByteArray.empty t110 0)) ∧ w'.cell? ⟨ad113.block, ad113.off + 3, none⟩ = some (.string (rdOf ByteArray.empty t110 3)) ∧ w'.cell? ⟨ad113.block, ad113.off + 4, none⟩ = some (.string (rdOf ByteArray.empty t110 4)) ∧ w'.cell? ⟨ad113.block, ad113.off + 5, none⟩ = some (.string (rdOf ByteArray.empty t110 5))) ∧ (Kd.R Kd.string 9 w' w.heap.size (fun _ => True) (.slice (some ad113) t110.length co16) t110) ∧ (w'.heap[gb109]? = some (.cells #[.string (⟨#[]⟩ : ByteArray), .slice none 0 0, .slice none 0 0, .slice none 0 0, .int .i64 0, .int .i64 0] 57 (0, 0))) ∧ (w'.heap[s_]? = some (.cells #[.string (⟨#[]⟩ : ByteArray), .slice none 0 0, .slice none 0 0, .slice none 0 0, .int .i64 0, .int .i64 0] 57 (0, 0))) ∧ (w.heap.size ≤ s_) ∧ (w.heap.size ≤ s_) ∧ (gb109 ≠ s_) ∧ (s_ ≠ gb109) ∧ (Below w.heap.size w w')) ?_ ?_
                   rotate_left
                   ·
                    intro hJ18
                    refine two_ (i := 7) (j := 18) (Ni := some 19) (Nj := some 4) #[true, true, true, true, true, true, true, true, false, true, true, true, false, true, true, true, false, false, false, false] #[true, true, true, true, true, true, true, false, false, true, true, true, false, true, true, true, false, false, true, false] rfl rfl rfl rfl (two_of HT_.out (by kernel_rfl)) (by decide) (by decide) (fun K hK => ?_) (fun K hK => ?_)
                    ·
                     skip
                     refine goes_ Tryd.func42 (by kernel_rfl) rfl #[.string ((⟨#[111, 117, 116, 58]⟩ : ByteArray) ++ (rdOf ByteArray.empty t110 3))] (by rfl) rfl rfl aeq ?_
                     with_reducible refine (block_port.calls ((⟨#[111, 117, 116, 58]⟩ : ByteArray) ++ (rdOf ByteArray.empty t110 3)) t115 t116 _ ?side1 A6.out).mono ?_
                     (case side1 => exact GW.below HG.out (by repeat (first | (with_reducible first | exact HB.out | apply below_alloc | apply pw_below_drewN | apply below_drew1 | refine below_set ?_ GE109.out) | exact HB.out)))
                     rintro e w17 ⟨rfl, hb⟩
                     have HS0_ := (hb.cell (World.block_lt_of_cell? _ _ (hHeld.1))).trans (hHeld.1)
                     have HS1_ := (hb.cell (World.block_lt_of_cell? _ _ (hHeld.2.1))).trans (hHeld.2.1)
                     have HS2_ := (hb.cell (World.block_lt_of_cell? _ _ (hHeld.2.2.1))).trans (hHeld.2.2.1)
                     have HS3_ := (hb.cell (World.block_lt_of_cell? _ _ (hHeld.2.2.2))).trans (hHeld.2.2.2)
                     refine ⟨_, rfl, ?_⟩
                     have n0_ := Aside0.mk (Kd.R_below (by (with_reducible repeat (first | apply Kd.R_alloc | apply Kd.R_drewN | apply Kd.R_drew)); exact HO112.out) hb)
                     have n1_ := Aside0.mk (blk_below (g := gb109) (o := .cells #[.string (⟨#[]⟩ : ByteArray), .slice none 0 0, .slice none 0 0, .slice none 0 0, .int .i64 0, .int .i64 0] 57 (0, 0)) (by (with_reducible repeat (first | refine blk_drewN ?_ _ | refine blk_drew ?_ | refine blk_alloc ?_ _)); exact BK109.out) hb)
                     have n2_ := Aside0.mk (below_step (by repeat (first | (with_reducible first | exact HB.out | apply below_alloc | apply pw_below_drewN | apply below_drew1 | refine below_set ?_ GE109.out) | exact HB.out)) hb)
                     clear HO112
                     clear BK109
                     clear HB
                     have HO112 := n0_
                     have BK109 := n1_
                     have HB := n2_
                     clear n0_ n1_ n2_
                     (try clear hb)
                     (try clear hb2)
                     (try clear hk)
                     (try clear hi)
                     refine hK.out _ _ ⟨HS0_, HS1_, HS2_, HS3_⟩ (fun hHeld => ?_)
                     clear hK K
                     refine norm_ (a' := ?_) ?_ ?_
                     rotate_left
                     ·
                      show Act.put _ (some 19) _ = _
                      simp only [Act.put, List.setIfInBounds_toArray, List.set_cons_zero, List.set_cons_succ, i64_w, i32_w]
                      rfl
                     exact norm_ (by first | (simp only [putAll, Act.put, List.setIfInBounds_toArray, List.set_cons_zero, List.set_cons_succ]; done) | (simp only [putAll, Act.put, List.setIfInBounds_toArray, List.set_cons_zero, List.set_cons_succ]; rfl)) (hJ7 () _ ⟨hHeld, (by (with_reducible repeat (first | apply Kd.R_alloc | apply Kd.R_drewN | apply Kd.R_drew)); exact HO112.out), (by (with_reducible repeat (first | refine blk_drewN ?_ _ | refine blk_drew ?_ | refine blk_alloc ?_ _)); exact BK109.out), (by repeat (first | (with_reducible first | exact HB.out | apply below_alloc | apply pw_below_drewN | apply below_drew1 | refine below_set ?_ GE109.out) | exact HB.out))⟩)
                    ·
                     skip
                     refine box_step ?hg (N := 4) ?hd (cs := #[.string (⟨#[]⟩ : ByteArray), .slice none 0 0, .slice none 0 0, .slice none 0 0, .int .i64 0, .int .i64 0]) (t := 57) ?hr ?_; (case hd => rfl); (case hg => rfl); (case hr => first | (go_simp; done) | (go_simp; rfl))
                     intro gb124 hg w17 hbox hb
                     have HS0_ := (hb.cell (World.block_lt_of_cell? _ _ (hHeld.1))).trans (hHeld.1)
                     have HS1_ := (hb.cell (World.block_lt_of_cell? _ _ (hHeld.2.1))).trans (hHeld.2.1)
                     have HS2_ := (hb.cell (World.block_lt_of_cell? _ _ (hHeld.2.2.1))).trans (hHeld.2.2.1)
                     have HS3_ := (hb.cell (World.block_lt_of_cell? _ _ (hHeld.2.2.2))).trans (hHeld.2.2.2)
                     have n0_ := Aside0.mk (Kd.R_below (by (with_reducible repeat (first | apply Kd.R_alloc | apply Kd.R_drewN | apply Kd.R_drew)); exact HO112.out) hb)
                     have n1_ := Aside0.mk (blk_below (g := gb109) (o := .cells #[.string (⟨#[]⟩ : ByteArray), .slice none 0 0, .slice none 0 0, .slice none 0 0, .int .i64 0, .int .i64 0] 57 (0, 0)) (by (with_reducible repeat (first | refine blk_drewN ?_ _ | refine blk_drew ?_ | refine blk_alloc ?_ _)); exact BK109.out) hb)
                     have n2_ := Aside0.mk (below_step (by repeat (first | (with_reducible first | exact HB.out | apply below_alloc | apply pw_below_drewN | apply below_drew1 | refine below_set ?_ GE109.out) | exact HB.out)) hb)
                     have n3_ := Aside0.mk (hbox)
                     have n4_ := Aside0.mk ((by rw [hg]; exact (below_size (by repeat (first | (with_reducible first | exact HB.out | apply below_alloc | apply pw_below_drewN | apply below_drew1 | refine below_set ?_ GE109.out) | exact HB.out))) : w.heap.size ≤ gb124))
                     have n5_ := Aside0.mk ((by rw [hg]; exact (below_size (by repeat (first | (with_reducible first | exact HB.out | apply below_alloc | apply pw_below_drewN | apply below_drew1 | refine below_set ?_ GE109.out) | exact HB.out))) : w.heap.size ≤ gb124))
                     have n6_ := Aside0.mk ((by rw [hg]; exact Nat.ne_of_lt (blk_lt (g := gb109) (o := .cells #[.string (⟨#[]⟩ : ByteArray), .slice none 0 0, .slice none 0 0, .slice none 0 0, .int .i64 0, .int .i64 0] 57 (0, 0)) (by (with_reducible repeat (first | refine blk_drewN ?_ _ | refine blk_drew ?_ | refine blk_alloc ?_ _)); exact BK109.out)) : gb109 ≠ gb124))
                     have n7_ := Aside0.mk ((by rw [hg]; exact Nat.ne_of_gt (blk_lt (g := gb109) (o := .cells #[.string (⟨#[]⟩ : ByteArray), .slice none 0 0, .slice none 0 0, .slice none 0 0, .int .i64 0, .int .i64 0] 57 (0, 0)) (by (with_reducible repeat (first | refine blk_drewN ?_ _ | refine blk_drew ?_ | refine blk_alloc ?_ _)); exact BK109.out)) : gb124 ≠ gb109))
                     clear HO112
                     clear BK109
                     clear HB
                     have HO112 := n0_
                     have BK109 := n1_
                     have HB := n2_
                     have BK124 := n3_
                     have GW124 := n4_
                     have GE124 := n5_
                     have NB109_124 := n6_
                     have NB124_109 := n7_
                     clear n0_ n1_ n2_ n3_ n4_ n5_ n6_ n7_
                     clear hb hbox hg
                     refine hK.out _ _ ⟨HS0_, HS1_, HS2_, HS3_⟩ (fun hHeld => ?_)
                     clear hK K
                     refine norm_ (a' := ?_) ?_ ?_
                     rotate_left
                     ·
                      show Act.put _ (some 4) _ = _
                      simp only [Act.put, List.setIfInBounds_toArray, List.set_cons_zero, List.set_cons_succ, i64_w, i32_w]
                      rfl
                     exact norm_ (by first | (simp only [putAll, Act.put, List.setIfInBounds_toArray, List.set_cons_zero, List.set_cons_succ]; done) | (simp only [putAll, Act.put, List.setIfInBounds_toArray, List.set_cons_zero, List.set_cons_succ]; rfl)) (hJ18 (gb124) _ ⟨hHeld, (by (with_reducible repeat (first | apply Kd.R_alloc | apply Kd.R_drewN | apply Kd.R_drew)); exact HO112.out), (by (with_reducible repeat (first | refine blk_drewN ?_ _ | refine blk_drew ?_ | refine blk_alloc ?_ _)); exact BK109.out), (by (with_reducible repeat (first | refine blk_drewN ?_ _ | refine blk_drew ?_ | refine blk_alloc ?_ _)); exact BK124.out), GW124.out, GE124.out, NB109_124.out, NB124_109.out, (by repeat (first | (with_reducible first | exact HB.out | apply below_alloc | apply pw_below_drewN | apply below_drew1 | refine below_set ?_ GE109.out | refine below_set ?_ GE124.out) | exact HB.out))⟩)
                   ·
                    skip
                    rintro gb124 w18 ⟨hS_, h0_, h1_, h2_, h3_, h4_, h5_, h6_, h7_⟩
                    have n0_ : Aside0 (Kd.R Kd.string 9 w18 w.heap.size (fun _ => True) (.slice (some ad113) t110.length co16) t110) := ⟨h0_⟩
                    have n1_ : Aside0 (w18.heap[gb109]? = some (.cells #[.string (⟨#[]⟩ : ByteArray), .slice none 0 0, .slice none 0 0, .slice none 0 0, .int .i64 0, .int .i64 0] 57 (0, 0))) := ⟨h1_⟩
                    have n2_ : Aside0 (w18.heap[gb124]? = some (.cells #[.string (⟨#[]⟩ : ByteArray), .slice none 0 0, .slice none 0 0, .slice none 0 0, .int .i64 0, .int .i64 0] 57 (0, 0))) := ⟨h2_⟩
                    have n3_ : Aside0 (w.heap.size ≤ gb124) := ⟨h3_⟩
                    have n4_ : Aside0 (w.heap.size ≤ gb124) := ⟨h4_⟩
                    have n5_ : Aside0 (gb109 ≠ gb124) := ⟨h5_⟩
                    have n6_ : Aside0 (gb124 ≠ gb109) := ⟨h6_⟩
                    have n7_ : Aside0 (Below w.heap.size w w18) := ⟨h7_⟩
                    clear HO112
                    clear BK109
                    clear HB
                    clear h0_ h1_ h2_ h3_ h4_ h5_ h6_ h7_
                    have HO112 := n0_
                    have BK109 := n1_
                    have BK124 := n2_
                    have GW124 := n3_
                    have GE124 := n4_
                    have NB109_124 := n5_
                    have NB124_109 := n6_
                    have HB := n7_
                    clear n0_ n1_ n2_ n3_ n4_ n5_ n6_ n7_
                    have hHeld : w18.cell? ad113 = some (.string (rdOf ByteArray.empty t110 0)) ∧ w18.cell? ⟨ad113.block, ad113.off + 3, none⟩ = some (.string (rdOf ByteArray.empty t110 3)) ∧ w18.cell? ⟨ad113.block, ad113.off + 4, none⟩ = some (.string (rdOf ByteArray.empty t110 4)) ∧ w18.cell? ⟨ad113.block, ad113.off + 5, none⟩ = some (.string (rdOf ByteArray.empty t110 5)) := hS_
                    refine norm_ (a' := ?_) ?_ ?_
                    rotate_left
                    ·
                     simp only [putAll, Act.put, List.setIfInBounds_toArray, List.set_cons_zero, List.set_cons_succ]
                     rfl
                    refine one_ (i := 7) (N := some 19) #[true, true, true, true, true, true, true, true, false, true, true, true, false, true, true, true, false, false, true, false] rfl rfl (one_of HT_.out (by kernel_rfl)) (by decide) (fun K hK => ?_)
                    refine goes_ Tryd.func42 (by kernel_rfl) rfl #[.string ((⟨#[111, 117, 116, 58]⟩ : ByteArray) ++ (rdOf ByteArray.empty t110 3))] (by rfl) rfl rfl aeq ?_
                    with_reducible refine (block_port.calls ((⟨#[111, 117, 116, 58]⟩ : ByteArray) ++ (rdOf ByteArray.empty t110 3)) t115 t116 _ ?side1 A6.out).mono ?_
                    (case side1 => exact GW.below HG.out (by repeat (first | (with_reducible first | exact HB.out | apply below_alloc | apply pw_below_drewN | apply below_drew1 | refine below_set ?_ GE109.out | refine below_set ?_ GE124.out) | exact HB.out)))
                    rintro e w19 ⟨rfl, hb⟩
                    have HS0_ := (hb.cell (World.block_lt_of_cell? _ _ (hHeld.1))).trans (hHeld.1)
                    have HS1_ := (hb.cell (World.block_lt_of_cell? _ _ (hHeld.2.1))).trans (hHeld.2.1)
                    have HS2_ := (hb.cell (World.block_lt_of_cell? _ _ (hHeld.2.2.1))).trans (hHeld.2.2.1)
                    have HS3_ := (hb.cell (World.block_lt_of_cell? _ _ (hHeld.2.2.2))).trans (hHeld.2.2.2)
                    refine ⟨_, rfl, ?_⟩
                    have n0_ := Aside0.mk (Kd.R_below (by (with_reducible repeat (first | apply Kd.R_alloc | apply Kd.R_drewN | apply Kd.R_drew)); exact HO112.out) hb)
                    have n1_ := Aside0.mk (blk_below (g := gb109) (o := .cells #[.string (⟨#[]⟩ : ByteArray), .slice none 0 0, .slice none 0 0, .slice none 0 0, .int .i64 0, .int .i64 0] 57 (0, 0)) (by (with_reducible repeat (first | refine blk_drewN ?_ _ | refine blk_drew ?_ | refine blk_alloc ?_ _)); exact BK109.out) hb)
                    have n2_ := Aside0.mk (blk_below (g := gb124) (o := .cells #[.string (⟨#[]⟩ : ByteArray), .slice none 0 0, .slice none 0 0, .slice none 0 0, .int .i64 0, .int .i64 0] 57 (0, 0)) (by (with_reducible repeat (first | refine blk_drewN ?_ _ | refine blk_drew ?_ | refine blk_alloc ?_ _)); exact BK124.out) hb)
                    have n3_ := Aside0.mk (below_step (by repeat (first | (with_reducible first | exact HB.out | apply below_alloc | apply pw_below_drewN | apply below_drew1 | refine below_set ?_ GE109.out | refine below_set ?_ GE124.out) | exact HB.out)) hb)
                    clear HO112
                    clear BK109
                    clear BK124
                    clear HB
                    have HO112 := n0_
                    have BK109 := n1_
                    have BK124 := n2_
                    have HB := n3_
                    clear n0_ n1_ n2_ n3_
                    (try clear hb)
                    (try clear hb2)
                    (try clear hk)
                    (try clear hi)
                    refine hK.out _ _ ⟨HS0_, HS1_, HS2_, HS3_⟩ (fun hHeld => ?_)
                    clear hK K
                    refine norm_ (a' := ?_) ?_ ?_
                    rotate_left
                    ·
                     show Act.put _ (some 19) _ = _
                     simp only [Act.put, List.setIfInBounds_toArray, List.set_cons_zero, List.set_cons_succ, i64_w, i32_w]
                     rfl
                    exact norm_ (by first | (simp only [putAll, Act.put, List.setIfInBounds_toArray, List.set_cons_zero, List.set_cons_succ]; done) | (simp only [putAll, Act.put, List.setIfInBounds_toArray, List.set_cons_zero, List.set_cons_succ]; rfl)) (hJ7_18 (gb124) _ ⟨hHeld, (by (with_reducible repeat (first | apply Kd.R_alloc | apply Kd.R_drewN | apply Kd.R_drew)); exact HO112.out), (by (with_reducible repeat (first | refine blk_drewN ?_ _ | refine blk_drew ?_ | refine blk_alloc ?_ _)); exact BK109.out), (by (with_reducible repeat (first | refine blk_drewN ?_ _ | refine blk_drew ?_ | refine blk_alloc ?_ _)); exact BK124.out), GW124.out, GE124.out, NB109_124.out, NB124_109.out, (by repeat (first | (with_reducible first | exact HB.out | apply below_alloc | apply pw_below_drewN | apply below_drew1 | refine below_set ?_ GE109.out | refine below_set ?_ GE124.out) | exact HB.out))⟩)
                  ·
                   skip
                   rintro _ w18 ⟨hS_, h0_, h1_, h2_⟩
                   have n0_ : Aside0 (Kd.R Kd.string 9 w18 w.heap.size (fun _ => True) (.slice (some ad113) t110.length co16) t110) := ⟨h0_⟩
                   have n1_ : Aside0 (w18.heap[gb109]? = some (.cells #[.string (⟨#[]⟩ : ByteArray), .slice none 0 0, .slice none 0 0, .slice none 0 0, .int .i64 0, .int .i64 0] 57 (0, 0))) := ⟨h1_⟩
                   have n2_ : Aside0 (Below w.heap.size w w18) := ⟨h2_⟩
                   clear HO112
                   clear BK109
                   clear HB
                   clear h0_ h1_ h2_
                   have HO112 := n0_
                   have BK109 := n1_
                   have HB := n2_
                   clear n0_ n1_ n2_
                   have hHeld : w18.cell? ad113 = some (.string (rdOf ByteArray.empty t110 0)) ∧ w18.cell? ⟨ad113.block, ad113.off + 3, none⟩ = some (.string (rdOf ByteArray.empty t110 3)) ∧ w18.cell? ⟨ad113.block, ad113.off + 4, none⟩ = some (.string (rdOf ByteArray.empty t110 4)) ∧ w18.cell? ⟨ad113.block, ad113.off + 5, none⟩ = some (.string (rdOf ByteArray.empty t110 5)) := hS_
                   refine norm_ (a' := ?_) ?_ ?_
                   rotate_left
                   ·
                    simp only [putAll, Act.put, List.setIfInBounds_toArray, List.set_cons_zero, List.set_cons_succ]
                    rfl
                   refine three_ (i := 8) (j := 12) (k := 18) (Ni := some 20) (Nj := some 24) (Nk := some 4) #[true, true, true, true, true, true, true, true, true, true, true, true, false, true, true, true, false, false, false, false] #[true, true, true, true, true, true, true, true, false, true, true, true, true, true, true, true, false, false, false, false] #[true, true, true, true, true, true, true, true, false, true, true, true, false, true, true, true, false, false, true, false] rfl rfl rfl rfl rfl rfl (three_of HT_.out (by kernel_rfl)) (by decide) (by decide) (by decide) (fun K hK => ?_) (fun K hK => ?_) (fun K hK => ?_)
                   ·
                    skip
                    refine Kd.R_lit_step k73 _ 73 ?hg (N := 20) ?hd (xs := ([(⟨t115, t116⟩ : S73)] : List (S73))) (inner := [.string t115, .string t116]) (ok := fun _ => True) (okp := fun _ => True) ?hr ?hp (fun _ hk => hk) trivial (Below.refl _ _) (Nat.le_refl _) (by simp) ?_; (case hd => rfl); (case hg => rfl); (case hr => first | (go_simp; done) | (go_simp; rfl)); (case hp => exact (Reps.c2 (show Kd.M k73 _ _ _ (⟨t115, t116⟩ : S73) [.string t115, .string t116] from (k73_mkM _ _ _ (⟨t115, t116⟩ : S73) )) (Reps.none _ _)))
                    intro v118 w19 ho20 hb hg_ hnew_
                    have HS0_ := (hb.cell (World.block_lt_of_cell? _ _ (hHeld.1))).trans (hHeld.1)
                    have HS1_ := (hb.cell (World.block_lt_of_cell? _ _ (hHeld.2.1))).trans (hHeld.2.1)
                    have HS2_ := (hb.cell (World.block_lt_of_cell? _ _ (hHeld.2.2.1))).trans (hHeld.2.2.1)
                    have HS3_ := (hb.cell (World.block_lt_of_cell? _ _ (hHeld.2.2.2))).trans (hHeld.2.2.2)
                    clear hg_ hnew_
                    (first | rw [← Ny117.out] at ho20 | (simp only [Int.reduceToNat] at ho20; rw [← Ny117.out] at ho20))
                    have n0_ := Aside0.mk (Kd.R_below (by (with_reducible repeat (first | apply Kd.R_alloc | apply Kd.R_drewN | apply Kd.R_drew)); exact HO112.out) hb)
                    have n1_ := Aside0.mk (Kd.R_lower ho20 (below_size (by repeat (first | (with_reducible first | exact HB.out | apply below_alloc | apply pw_below_drewN | apply below_drew1 | refine below_set ?_ GE109.out) | exact HB.out))))
                    have n2_ := Aside0.mk (blk_below (g := gb109) (o := .cells #[.string (⟨#[]⟩ : ByteArray), .slice none 0 0, .slice none 0 0, .slice none 0 0, .int .i64 0, .int .i64 0] 57 (0, 0)) (by (with_reducible repeat (first | refine blk_drewN ?_ _ | refine blk_drew ?_ | refine blk_alloc ?_ _)); exact BK109.out) hb)
                    have n3_ := Aside0.mk (below_step (by repeat (first | (with_reducible first | exact HB.out | apply below_alloc | apply pw_below_drewN | apply below_drew1 | refine below_set ?_ GE109.out) | exact HB.out)) hb)
                    clear HO112
                    clear BK109
                    clear HB
                    have HO112 := n0_
                    have HO119 := n1_
                    have BK109 := n2_
                    have HB := n3_
                    clear n0_ n1_ n2_ n3_
                    clear hb ho20
                    refine hK.out _ _ ⟨HS0_, HS1_, HS2_, HS3_⟩ (fun hHeld => ?_)
                    clear hK K
                    refine norm_ (a' := ?_) ?_ ?_
                    rotate_left
                    ·
                     show Act.put _ (some 20) _ = _
                     simp only [Act.put, List.setIfInBounds_toArray, List.set_cons_zero, List.set_cons_succ, i64_w, i32_w]
                     rfl
                    exact norm_ (by first | (simp only [putAll, Act.put, List.setIfInBounds_toArray, List.set_cons_zero, List.set_cons_succ]; done) | (simp only [putAll, Act.put, List.setIfInBounds_toArray, List.set_cons_zero, List.set_cons_succ]; rfl)) (hJ7_8 (v118) _ ⟨hHeld, (by (with_reducible repeat (first | apply Kd.R_alloc | apply Kd.R_drewN | apply Kd.R_drew)); exact HO112.out), (by (with_reducible repeat (first | apply Kd.R_alloc | apply Kd.R_drewN | apply Kd.R_drew)); exact HO119.out), (by (with_reducible repeat (first | refine blk_drewN ?_ _ | refine blk_drew ?_ | refine blk_alloc ?_ _)); exact BK109.out), (by repeat (first | (with_reducible first | exact HB.out | apply below_alloc | apply pw_below_drewN | apply below_drew1 | refine below_set ?_ GE109.out) | exact HB.out))⟩)
                   ·
                    skip
                    refine goes_ Tryd.func43 (by kernel_rfl) rfl #[.string (rdOf ByteArray.empty t110 4)] (by rfl) rfl rfl aeq ?_
                    with_reducible refine (block_number.calls (rdOf ByteArray.empty t110 4) t121 _ A8.out).mono ?_
                    rintro e w19 ⟨rfl, hb⟩
                    have HS0_ := (hb.cell (World.block_lt_of_cell? _ _ (hHeld.1))).trans (hHeld.1)
                    have HS1_ := (hb.cell (World.block_lt_of_cell? _ _ (hHeld.2.1))).trans (hHeld.2.1)
                    have HS2_ := (hb.cell (World.block_lt_of_cell? _ _ (hHeld.2.2.1))).trans (hHeld.2.2.1)
                    have HS3_ := (hb.cell (World.block_lt_of_cell? _ _ (hHeld.2.2.2))).trans (hHeld.2.2.2)
                    refine ⟨_, rfl, ?_⟩
                    have n0_ := Aside0.mk (Kd.R_below (by (with_reducible repeat (first | apply Kd.R_alloc | apply Kd.R_drewN | apply Kd.R_drew)); exact HO112.out) hb)
                    have n1_ := Aside0.mk (blk_below (g := gb109) (o := .cells #[.string (⟨#[]⟩ : ByteArray), .slice none 0 0, .slice none 0 0, .slice none 0 0, .int .i64 0, .int .i64 0] 57 (0, 0)) (by (with_reducible repeat (first | refine blk_drewN ?_ _ | refine blk_drew ?_ | refine blk_alloc ?_ _)); exact BK109.out) hb)
                    have n2_ := Aside0.mk (below_step (by repeat (first | (with_reducible first | exact HB.out | apply below_alloc | apply pw_below_drewN | apply below_drew1 | refine below_set ?_ GE109.out) | exact HB.out)) hb)
                    clear HO112
                    clear BK109
                    clear HB
                    have HO112 := n0_
                    have BK109 := n1_
                    have HB := n2_
                    clear n0_ n1_ n2_
                    (try clear hb)
                    (try clear hb2)
                    (try clear hk)
                    (try clear hi)
                    refine hK.out _ _ ⟨HS0_, HS1_, HS2_, HS3_⟩ (fun hHeld => ?_)
                    clear hK K
                    refine norm_ (a' := ?_) ?_ ?_
                    rotate_left
                    ·
                     show Act.put _ (some 24) _ = _
                     simp only [Act.put, List.setIfInBounds_toArray, List.set_cons_zero, List.set_cons_succ, i64_w, i32_w]
                     rfl
                    exact norm_ (by first | (simp only [putAll, Act.put, List.setIfInBounds_toArray, List.set_cons_zero, List.set_cons_succ]; done) | (simp only [putAll, Act.put, List.setIfInBounds_toArray, List.set_cons_zero, List.set_cons_succ]; rfl)) (hJ7_12 () _ ⟨hHeld, (by (with_reducible repeat (first | apply Kd.R_alloc | apply Kd.R_drewN | apply Kd.R_drew)); exact HO112.out), (by (with_reducible repeat (first | refine blk_drewN ?_ _ | refine blk_drew ?_ | refine blk_alloc ?_ _)); exact BK109.out), (by repeat (first | (with_reducible first | exact HB.out | apply below_alloc | apply pw_below_drewN | apply below_drew1 | refine below_set ?_ GE109.out) | exact HB.out))⟩)
                   ·
                    skip
                    refine box_step ?hg (N := 4) ?hd (cs := #[.string (⟨#[]⟩ : ByteArray), .slice none 0 0, .slice none 0 0, .slice none 0 0, .int .i64 0, .int .i64 0]) (t := 57) ?hr ?_; (case hd => rfl); (case hg => rfl); (case hr => first | (go_simp; done) | (go_simp; rfl))
                    intro gb124 hg w19 hbox hb
                    have HS0_ := (hb.cell (World.block_lt_of_cell? _ _ (hHeld.1))).trans (hHeld.1)
                    have HS1_ := (hb.cell (World.block_lt_of_cell? _ _ (hHeld.2.1))).trans (hHeld.2.1)
                    have HS2_ := (hb.cell (World.block_lt_of_cell? _ _ (hHeld.2.2.1))).trans (hHeld.2.2.1)
                    have HS3_ := (hb.cell (World.block_lt_of_cell? _ _ (hHeld.2.2.2))).trans (hHeld.2.2.2)
                    have n0_ := Aside0.mk (Kd.R_below (by (with_reducible repeat (first | apply Kd.R_alloc | apply Kd.R_drewN | apply Kd.R_drew)); exact HO112.out) hb)
                    have n1_ := Aside0.mk (blk_below (g := gb109) (o := .cells #[.string (⟨#[]⟩ : ByteArray), .slice none 0 0, .slice none 0 0, .slice none 0 0, .int .i64 0, .int .i64 0] 57 (0, 0)) (by (with_reducible repeat (first | refine blk_drewN ?_ _ | refine blk_drew ?_ | refine blk_alloc ?_ _)); exact BK109.out) hb)
                    have n2_ := Aside0.mk (below_step (by repeat (first | (with_reducible first | exact HB.out | apply below_alloc | apply pw_below_drewN | apply below_drew1 | refine below_set ?_ GE109.out) | exact HB.out)) hb)
                    have n3_ := Aside0.mk (hbox)
                    have n4_ := Aside0.mk ((by rw [hg]; exact (below_size (by repeat (first | (with_reducible first | exact HB.out | apply below_alloc | apply pw_below_drewN | apply below_drew1 | refine below_set ?_ GE109.out) | exact HB.out))) : w.heap.size ≤ gb124))
                    have n5_ := Aside0.mk ((by rw [hg]; exact (below_size (by repeat (first | (with_reducible first | exact HB.out | apply below_alloc | apply pw_below_drewN | apply below_drew1 | refine below_set ?_ GE109.out) | exact HB.out))) : w.heap.size ≤ gb124))
                    have n6_ := Aside0.mk ((by rw [hg]; exact Nat.ne_of_lt (blk_lt (g := gb109) (o := .cells #[.string (⟨#[]⟩ : ByteArray), .slice none 0 0, .slice none 0 0, .slice none 0 0, .int .i64 0, .int .i64 0] 57 (0, 0)) (by (with_reducible repeat (first | refine blk_drewN ?_ _ | refine blk_drew ?_ | refine blk_alloc ?_ _)); exact BK109.out)) : gb109 ≠ gb124))
                    have n7_ := Aside0.mk ((by rw [hg]; exact Nat.ne_of_gt (blk_lt (g := gb109) (o := .cells #[.string (⟨#[]⟩ : ByteArray), .slice none 0 0, .slice none 0 0, .slice none 0 0, .int .i64 0, .int .i64 0] 57 (0, 0)) (by (with_reducible repeat (first | refine blk_drewN ?_ _ | refine blk_drew ?_ | refine blk_alloc ?_ _)); exact BK109.out)) : gb124 ≠ gb109))
                    clear HO112
                    clear BK109
                    clear HB
                    have HO112 := n0_
                    have BK109 := n1_
                    have HB := n2_
                    have BK124 := n3_
                    have GW124 := n4_
                    have GE124 := n5_
                    have NB109_124 := n6_
                    have NB124_109 := n7_
                    clear n0_ n1_ n2_ n3_ n4_ n5_ n6_ n7_
                    clear hb hbox hg
                    refine hK.out _ _ ⟨HS0_, HS1_, HS2_, HS3_⟩ (fun hHeld => ?_)
                    clear hK K
                    refine norm_ (a' := ?_) ?_ ?_
                    rotate_left
                    ·
                     show Act.put _ (some 4) _ = _
                     simp only [Act.put, List.setIfInBounds_toArray, List.set_cons_zero, List.set_cons_succ, i64_w, i32_w]
                     rfl
                    exact norm_ (by first | (simp only [putAll, Act.put, List.setIfInBounds_toArray, List.set_cons_zero, List.set_cons_succ]; done) | (simp only [putAll, Act.put, List.setIfInBounds_toArray, List.set_cons_zero, List.set_cons_succ]; rfl)) (hJ7_18 (gb124) _ ⟨hHeld, (by (with_reducible repeat (first | apply Kd.R_alloc | apply Kd.R_drewN | apply Kd.R_drew)); exact HO112.out), (by (with_reducible repeat (first | refine blk_drewN ?_ _ | refine blk_drew ?_ | refine blk_alloc ?_ _)); exact BK109.out), (by (with_reducible repeat (first | refine blk_drewN ?_ _ | refine blk_drew ?_ | refine blk_alloc ?_ _)); exact BK124.out), GW124.out, GE124.out, NB109_124.out, NB124_109.out, (by repeat (first | (with_reducible first | exact HB.out | apply below_alloc | apply pw_below_drewN | apply below_drew1 | refine below_set ?_ GE109.out | refine below_set ?_ GE124.out) | exact HB.out))⟩)
                 ·
                  skip
                  rintro gb124 w19 ⟨hS_, h0_, h1_, h2_, h3_, h4_, h5_, h6_, h7_⟩
                  have n0_ : Aside0 (Kd.R Kd.string 9 w19 w.heap.size (fun _ => True) (.slice (some ad113) t110.length co16) t110) := ⟨h0_⟩
                  have n1_ : Aside0 (w19.heap[gb109]? = some (.cells #[.string (⟨#[]⟩ : ByteArray), .slice none 0 0, .slice none 0 0, .slice none 0 0, .int .i64 0, .int .i64 0] 57 (0, 0))) := ⟨h1_⟩
                  have n2_ : Aside0 (w19.heap[gb124]? = some (.cells #[.string (⟨#[]⟩ : ByteArray), .slice none 0 0, .slice none 0 0, .slice none 0 0, .int .i64 0, .int .i64 0] 57 (0, 0))) := ⟨h2_⟩
                  have n3_ : Aside0 (w.heap.size ≤ gb124) := ⟨h3_⟩
                  have n4_ : Aside0 (w.heap.size ≤ gb124) := ⟨h4_⟩
                  have n5_ : Aside0 (gb109 ≠ gb124) := ⟨h5_⟩
                  have n6_ : Aside0 (gb124 ≠ gb109) := ⟨h6_⟩
                  have n7_ : Aside0 (Below w.heap.size w w19) := ⟨h7_⟩
                  clear HO112
                  clear BK109
                  clear HB
                  clear h0_ h1_ h2_ h3_ h4_ h5_ h6_ h7_
                  have HO112 := n0_
                  have BK109 := n1_
                  have BK124 := n2_
                  have GW124 := n3_
                  have GE124 := n4_
                  have NB109_124 := n5_
                  have NB124_109 := n6_
                  have HB := n7_
                  clear n0_ n1_ n2_ n3_ n4_ n5_ n6_ n7_
                  have hHeld : w19.cell? ad113 = some (.string (rdOf ByteArray.empty t110 0)) ∧ w19.cell? ⟨ad113.block, ad113.off + 3, none⟩ = some (.string (rdOf ByteArray.empty t110 3)) ∧ w19.cell? ⟨ad113.block, ad113.off + 4, none⟩ = some (.string (rdOf ByteArray.empty t110 4)) ∧ w19.cell? ⟨ad113.block, ad113.off + 5, none⟩ = some (.string (rdOf ByteArray.empty t110 5)) := hS_
                  refine norm_ (a' := ?_) ?_ ?_
                  rotate_left
                  ·
                   simp only [putAll, Act.put, List.setIfInBounds_toArray, List.set_cons_zero, List.set_cons_succ]
                   rfl
                  refine two_ (i := 8) (j := 12) (Ni := some 20) (Nj := some 24) #[true, true, true, true, true, true, true, true, true, true, true, true, false, true, true, true, false, false, true, false] #[true, true, true, true, true, true, true, true, false, true, true, true, true, true, true, true, false, false, true, false] rfl rfl rfl rfl (two_of HT_.out (by kernel_rfl)) (by decide) (by decide) (fun K hK => ?_) (fun K hK => ?_)
                  ·
                   skip
                   refine Kd.R_lit_step k73 _ 73 ?hg (N := 20) ?hd (xs := ([(⟨t115, t116⟩ : S73)] : List (S73))) (inner := [.string t115, .string t116]) (ok := fun _ => True) (okp := fun _ => True) ?hr ?hp (fun _ hk => hk) trivial (Below.refl _ _) (Nat.le_refl _) (by simp) ?_; (case hd => rfl); (case hg => rfl); (case hr => first | (go_simp; done) | (go_simp; rfl)); (case hp => exact (Reps.c2 (show Kd.M k73 _ _ _ (⟨t115, t116⟩ : S73) [.string t115, .string t116] from (k73_mkM _ _ _ (⟨t115, t116⟩ : S73) )) (Reps.none _ _)))
                   intro v118 w20 ho21 hb hg_ hnew_
                   have HS0_ := (hb.cell (World.block_lt_of_cell? _ _ (hHeld.1))).trans (hHeld.1)
                   have HS1_ := (hb.cell (World.block_lt_of_cell? _ _ (hHeld.2.1))).trans (hHeld.2.1)
                   have HS2_ := (hb.cell (World.block_lt_of_cell? _ _ (hHeld.2.2.1))).trans (hHeld.2.2.1)
                   have HS3_ := (hb.cell (World.block_lt_of_cell? _ _ (hHeld.2.2.2))).trans (hHeld.2.2.2)
                   clear hg_ hnew_
                   (first | rw [← Ny117.out] at ho21 | (simp only [Int.reduceToNat] at ho21; rw [← Ny117.out] at ho21))
                   have n0_ := Aside0.mk (Kd.R_below (by (with_reducible repeat (first | apply Kd.R_alloc | apply Kd.R_drewN | apply Kd.R_drew)); exact HO112.out) hb)
                   have n1_ := Aside0.mk (Kd.R_lower ho21 (below_size (by repeat (first | (with_reducible first | exact HB.out | apply below_alloc | apply pw_below_drewN | apply below_drew1 | refine below_set ?_ GE109.out | refine below_set ?_ GE124.out) | exact HB.out))))
                   have n2_ := Aside0.mk (blk_below (g := gb109) (o := .cells #[.string (⟨#[]⟩ : ByteArray), .slice none 0 0, .slice none 0 0, .slice none 0 0, .int .i64 0, .int .i64 0] 57 (0, 0)) (by (with_reducible repeat (first | refine blk_drewN ?_ _ | refine blk_drew ?_ | refine blk_alloc ?_ _)); exact BK109.out) hb)
                   have n3_ := Aside0.mk (blk_below (g := gb124) (o := .cells #[.string (⟨#[]⟩ : ByteArray), .slice none 0 0, .slice none 0 0, .slice none 0 0, .int .i64 0, .int .i64 0] 57 (0, 0)) (by (with_reducible repeat (first | refine blk_drewN ?_ _ | refine blk_drew ?_ | refine blk_alloc ?_ _)); exact BK124.out) hb)
                   have n4_ := Aside0.mk (below_step (by repeat (first | (with_reducible first | exact HB.out | apply below_alloc | apply pw_below_drewN | apply below_drew1 | refine below_set ?_ GE109.out | refine below_set ?_ GE124.out) | exact HB.out)) hb)
                   clear HO112
                   clear BK109
                   clear BK124
                   clear HB
                   have HO112 := n0_
                   have HO119 := n1_
                   have BK109 := n2_
                   have BK124 := n3_
                   have HB := n4_
                   clear n0_ n1_ n2_ n3_ n4_
                   clear hb ho21
                   refine hK.out _ _ ⟨HS0_, HS1_, HS2_, HS3_⟩ (fun hHeld => ?_)
                   clear hK K
                   refine norm_ (a' := ?_) ?_ ?_
                   rotate_left
                   ·
                    show Act.put _ (some 20) _ = _
                    simp only [Act.put, List.setIfInBounds_toArray, List.set_cons_zero, List.set_cons_succ, i64_w, i32_w]
                    rfl
                   exact norm_ (by first | (simp only [putAll, Act.put, List.setIfInBounds_toArray, List.set_cons_zero, List.set_cons_succ]; done) | (simp only [putAll, Act.put, List.setIfInBounds_toArray, List.set_cons_zero, List.set_cons_succ]; rfl)) (hJ7_8_18 (v118, gb124) _ ⟨hHeld, (by (with_reducible repeat (first | apply Kd.R_alloc | apply Kd.R_drewN | apply Kd.R_drew)); exact HO112.out), (by (with_reducible repeat (first | apply Kd.R_alloc | apply Kd.R_drewN | apply Kd.R_drew)); exact HO119.out), (by (with_reducible repeat (first | refine blk_drewN ?_ _ | refine blk_drew ?_ | refine blk_alloc ?_ _)); exact BK109.out), (by (with_reducible repeat (first | refine blk_drewN ?_ _ | refine blk_drew ?_ | refine blk_alloc ?_ _)); exact BK124.out), GW124.out, GE124.out, NB109_124.out, NB124_109.out, (by repeat (first | (with_reducible first | exact HB.out | apply below_alloc | apply pw_below_drewN | apply below_drew1 | refine below_set ?_ GE109.out | refine below_set ?_ GE124.out) | exact HB.out))⟩)
                  ·
                   skip
                   refine goes_ Tryd.func43 (by kernel_rfl) rfl #[.string (rdOf ByteArray.empty t110 4)] (by rfl) rfl rfl aeq ?_
                   with_reducible refine (block_number.calls (rdOf ByteArray.empty t110 4) t121 _ A8.out).mono ?_
                   rintro e w20 ⟨rfl, hb⟩
                   have HS0_ := (hb.cell (World.block_lt_of_cell? _ _ (hHeld.1))).trans (hHeld.1)
                   have HS1_ := (hb.cell (World.block_lt_of_cell? _ _ (hHeld.2.1))).trans (hHeld.2.1)
                   have HS2_ := (hb.cell (World.block_lt_of_cell? _ _ (hHeld.2.2.1))).trans (hHeld.2.2.1)
                   have HS3_ := (hb.cell (World.block_lt_of_cell? _ _ (hHeld.2.2.2))).trans (hHeld.2.2.2)
                   refine ⟨_, rfl, ?_⟩
                   have n0_ := Aside0.mk (Kd.R_below (by (with_reducible repeat (first | apply Kd.R_alloc | apply Kd.R_drewN | apply Kd.R_drew)); exact HO112.out) hb)
                   have n1_ := Aside0.mk (blk_below (g := gb109) (o := .cells #[.string (⟨#[]⟩ : ByteArray), .slice none 0 0, .slice none 0 0, .slice none 0 0, .int .i64 0, .int .i64 0] 57 (0, 0)) (by (with_reducible repeat (first | refine blk_drewN ?_ _ | refine blk_drew ?_ | refine blk_alloc ?_ _)); exact BK109.out) hb)
                   have n2_ := Aside0.mk (blk_below (g := gb124) (o := .cells #[.string (⟨#[]⟩ : ByteArray), .slice none 0 0, .slice none 0 0, .slice none 0 0, .int .i64 0, .int .i64 0] 57 (0, 0)) (by (with_reducible repeat (first | refine blk_drewN ?_ _ | refine blk_drew ?_ | refine blk_alloc ?_ _)); exact BK124.out) hb)
                   have n3_ := Aside0.mk (below_step (by repeat (first | (with_reducible first | exact HB.out | apply below_alloc | apply pw_below_drewN | apply below_drew1 | refine below_set ?_ GE109.out | refine below_set ?_ GE124.out) | exact HB.out)) hb)
                   clear HO112
                   clear BK109
                   clear BK124
                   clear HB
                   have HO112 := n0_
                   have BK109 := n1_
                   have BK124 := n2_
                   have HB := n3_
                   clear n0_ n1_ n2_ n3_
                   (try clear hb)
                   (try clear hb2)
                   (try clear hk)
                   (try clear hi)
                   refine hK.out _ _ ⟨HS0_, HS1_, HS2_, HS3_⟩ (fun hHeld => ?_)
                   clear hK K
                   refine norm_ (a' := ?_) ?_ ?_
                   rotate_left
                   ·
                    show Act.put _ (some 24) _ = _
                    simp only [Act.put, List.setIfInBounds_toArray, List.set_cons_zero, List.set_cons_succ, i64_w, i32_w]
                    rfl
                   exact norm_ (by first | (simp only [putAll, Act.put, List.setIfInBounds_toArray, List.set_cons_zero, List.set_cons_succ]; done) | (simp only [putAll, Act.put, List.setIfInBounds_toArray, List.set_cons_zero, List.set_cons_succ]; rfl)) (hJ7_12_18 (gb124) _ ⟨hHeld, (by (with_reducible repeat (first | apply Kd.R_alloc | apply Kd.R_drewN | apply Kd.R_drew)); exact HO112.out), (by (with_reducible repeat (first | refine blk_drewN ?_ _ | refine blk_drew ?_ | refine blk_alloc ?_ _)); exact BK109.out), (by (with_reducible repeat (first | refine blk_drewN ?_ _ | refine blk_drew ?_ | refine blk_alloc ?_ _)); exact BK124.out), GW124.out, GE124.out, NB109_124.out, NB124_109.out, (by repeat (first | (with_reducible first | exact HB.out | apply below_alloc | apply pw_below_drewN | apply below_drew1 | refine below_set ?_ GE109.out | refine below_set ?_ GE124.out) | exact HB.out))⟩)
                ·
                 skip
                 rintro _ w19 ⟨hS_, h0_, h1_, h2_⟩
                 have n0_ : Aside0 (Kd.R Kd.string 9 w19 w.heap.size (fun _ => True) (.slice (some ad113) t110.length co16) t110) := ⟨h0_⟩
                 have n1_ : Aside0 (w19.heap[gb109]? = some (.cells #[.string (⟨#[]⟩ : ByteArray), .slice none 0 0, .slice none 0 0, .slice none 0 0, .int .i64 0, .int .i64 0] 57 (0, 0))) := ⟨h1_⟩
                 have n2_ : Aside0 (Below w.heap.size w w19) := ⟨h2_⟩
                 clear HO112
                 clear BK109
                 clear HB
                 clear h0_ h1_ h2_
                 have HO112 := n0_
                 have BK109 := n1_
                 have HB := n2_
                 clear n0_ n1_ n2_
                 have hHeld : w19.cell? ad113 = some (.string (rdOf ByteArray.empty t110 0)) ∧ w19.cell? ⟨ad113.block, ad113.off + 3, none⟩ = some (.string (rdOf ByteArray.empty t110 3)) ∧ w19.cell? ⟨ad113.block, ad113.off + 4, none⟩ = some (.string (rdOf ByteArray.empty t110 4)) ∧ w19.cell? ⟨ad113.block, ad113.off + 5, none⟩ = some (.string (rdOf ByteArray.empty t110 5)) := hS_
                 refine norm_ (a' := ?_) ?_ ?_
                 rotate_left
                 ·
                  simp only [putAll, Act.put, List.setIfInBounds_toArray, List.set_cons_zero, List.set_cons_succ]
                  rfl
                 refine three_ (i := 8) (j := 16) (k := 18) (Ni := some 20) (Nj := some 28) (Nk := some 4) #[true, true, true, true, true, true, true, true, true, true, true, true, true, true, true, true, false, false, false, false] #[true, true, true, true, true, true, true, true, false, true, true, true, true, true, true, true, true, false, false, false] #[true, true, true, true, true, true, true, true, false, true, true, true, true, true, true, true, false, false, true, false] rfl rfl rfl rfl rfl rfl (three_of HT_.out (by kernel_rfl)) (by decide) (by decide) (by decide) (fun K hK => ?_) (fun K hK => ?_) (fun K hK => ?_)
                 ·
                  skip
                  refine Kd.R_lit_step k73 _ 73 ?hg (N := 20) ?hd (xs := ([(⟨t115, t116⟩ : S73)] : List (S73))) (inner := [.string t115, .string t116]) (ok := fun _ => True) (okp := fun _ => True) ?hr ?hp (fun _ hk => hk) trivial (Below.refl _ _) (Nat.le_refl _) (by simp) ?_; (case hd => rfl); (case hg => rfl); (case hr => first | (go_simp; done) | (go_simp; rfl)); (case hp => exact (Reps.c2 (show Kd.M k73 _ _ _ (⟨t115, t116⟩ : S73) [.string t115, .string t116] from (k73_mkM _ _ _ (⟨t115, t116⟩ : S73) )) (Reps.none _ _)))
                  intro v118 w20 ho21 hb hg_ hnew_
                  have HS0_ := (hb.cell (World.block_lt_of_cell? _ _ (hHeld.1))).trans (hHeld.1)
                  have HS1_ := (hb.cell (World.block_lt_of_cell? _ _ (hHeld.2.1))).trans (hHeld.2.1)
                  have HS2_ := (hb.cell (World.block_lt_of_cell? _ _ (hHeld.2.2.1))).trans (hHeld.2.2.1)
                  have HS3_ := (hb.cell (World.block_lt_of_cell? _ _ (hHeld.2.2.2))).trans (hHeld.2.2.2)
                  clear hg_ hnew_
                  (first | rw [← Ny117.out] at ho21 | (simp only [Int.reduceToNat] at ho21; rw [← Ny117.out] at ho21))
                  have n0_ := Aside0.mk (Kd.R_below (by (with_reducible repeat (first | apply Kd.R_alloc | apply Kd.R_drewN | apply Kd.R_drew)); exact HO112.out) hb)
                  have n1_ := Aside0.mk (Kd.R_lower ho21 (below_size (by repeat (first | (with_reducible first | exact HB.out | apply below_alloc | apply pw_below_drewN | apply below_drew1 | refine below_set ?_ GE109.out) | exact HB.out))))
                  have n2_ := Aside0.mk (blk_below (g := gb109) (o := .cells #[.string (⟨#[]⟩ : ByteArray), .slice none 0 0, .slice none 0 0, .slice none 0 0, .int .i64 0, .int .i64 0] 57 (0, 0)) (by (with_reducible repeat (first | refine blk_drewN ?_ _ | refine blk_drew ?_ | refine blk_alloc ?_ _)); exact BK109.out) hb)
                  have n3_ := Aside0.mk (below_step (by repeat (first | (with_reducible first | exact HB.out | apply below_alloc | apply pw_below_drewN | apply below_drew1 | refine below_set ?_ GE109.out) | exact HB.out)) hb)
                  clear HO112
                  clear BK109
                  clear HB
                  have HO112 := n0_
                  have HO119 := n1_
                  have BK109 := n2_
                  have HB := n3_
                  clear n0_ n1_ n2_ n3_
                  clear hb ho21
                  refine hK.out _ _ ⟨HS0_, HS1_, HS2_, HS3_⟩ (fun hHeld => ?_)
                  clear hK K
                  refine norm_ (a' := ?_) ?_ ?_
                  rotate_left
                  ·
                   show Act.put _ (some 20) _ = _
                   simp only [Act.put, List.setIfInBounds_toArray, List.set_cons_zero, List.set_cons_succ, i64_w, i32_w]
                   rfl
                  exact norm_ (by first | (simp only [putAll, Act.put, List.setIfInBounds_toArray, List.set_cons_zero, List.set_cons_succ]; done) | (simp only [putAll, Act.put, List.setIfInBounds_toArray, List.set_cons_zero, List.set_cons_succ]; rfl)) (hJ7_8_12 (v118) _ ⟨hHeld, (by (with_reducible repeat (first | apply Kd.R_alloc | apply Kd.R_drewN | apply Kd.R_drew)); exact HO112.out), (by (with_reducible repeat (first | apply Kd.R_alloc | apply Kd.R_drewN | apply Kd.R_drew)); exact HO119.out), (by (with_reducible repeat (first | refine blk_drewN ?_ _ | refine blk_drew ?_ | refine blk_alloc ?_ _)); exact BK109.out), (by repeat (first | (with_reducible first | exact HB.out | apply below_alloc | apply pw_below_drewN | apply below_drew1 | refine below_set ?_ GE109.out) | exact HB.out))⟩)
                 ·
                  skip
                  refine goes_ Tryd.func43 (by kernel_rfl) rfl #[.string (rdOf ByteArray.empty t110 5)] (by rfl) rfl rfl aeq ?_
                  with_reducible refine (block_number.calls (rdOf ByteArray.empty t110 5) t123 _ A10.out).mono ?_
                  rintro e w20 ⟨rfl, hb⟩
                  have HS0_ := (hb.cell (World.block_lt_of_cell? _ _ (hHeld.1))).trans (hHeld.1)
                  have HS1_ := (hb.cell (World.block_lt_of_cell? _ _ (hHeld.2.1))).trans (hHeld.2.1)
                  have HS2_ := (hb.cell (World.block_lt_of_cell? _ _ (hHeld.2.2.1))).trans (hHeld.2.2.1)
                  have HS3_ := (hb.cell (World.block_lt_of_cell? _ _ (hHeld.2.2.2))).trans (hHeld.2.2.2)
                  refine ⟨_, rfl, ?_⟩
                  have n0_ := Aside0.mk (Kd.R_below (by (with_reducible repeat (first | apply Kd.R_alloc | apply Kd.R_drewN | apply Kd.R_drew)); exact HO112.out) hb)
                  have n1_ := Aside0.mk (blk_below (g := gb109) (o := .cells #[.string (⟨#[]⟩ : ByteArray), .slice none 0 0, .slice none 0 0, .slice none 0 0, .int .i64 0, .int .i64 0] 57 (0, 0)) (by (with_reducible repeat (first | refine blk_drewN ?_ _ | refine blk_drew ?_ | refine blk_alloc ?_ _)); exact BK109.out) hb)
                  have n2_ := Aside0.mk (below_step (by repeat (first | (with_reducible first | exact HB.out | apply below_alloc | apply pw_below_drewN | apply below_drew1 | refine below_set ?_ GE109.out) | exact HB.out)) hb)
                  clear HO112
                  clear BK109
                  clear HB
                  have HO112 := n0_
                  have BK109 := n1_
                  have HB := n2_
                  clear n0_ n1_ n2_
                  (try clear hb)
                  (try clear hb2)
                  (try clear hk)
                  (try clear hi)
                  refine hK.out _ _ ⟨HS0_, HS1_, HS2_, HS3_⟩ (fun hHeld => ?_)
                  clear hK K
                  refine norm_ (a' := ?_) ?_ ?_
                  rotate_left
                  ·
                   show Act.put _ (some 28) _ = _
                   simp only [Act.put, List.setIfInBounds_toArray, List.set_cons_zero, List.set_cons_succ, i64_w, i32_w]
                   rfl
                  exact norm_ (by first | (simp only [putAll, Act.put, List.setIfInBounds_toArray, List.set_cons_zero, List.set_cons_succ]; done) | (simp only [putAll, Act.put, List.setIfInBounds_toArray, List.set_cons_zero, List.set_cons_succ]; rfl)) (hJ7_12_16 () _ ⟨hHeld, (by (with_reducible repeat (first | apply Kd.R_alloc | apply Kd.R_drewN | apply Kd.R_drew)); exact HO112.out), (by (with_reducible repeat (first | refine blk_drewN ?_ _ | refine blk_drew ?_ | refine blk_alloc ?_ _)); exact BK109.out), (by repeat (first | (with_reducible first | exact HB.out | apply below_alloc | apply pw_below_drewN | apply below_drew1 | refine below_set ?_ GE109.out) | exact HB.out))⟩)
                 ·
                  skip
                  refine box_step ?hg (N := 4) ?hd (cs := #[.string (⟨#[]⟩ : ByteArray), .slice none 0 0, .slice none 0 0, .slice none 0 0, .int .i64 0, .int .i64 0]) (t := 57) ?hr ?_; (case hd => rfl); (case hg => rfl); (case hr => first | (go_simp; done) | (go_simp; rfl))
                  intro gb124 hg w20 hbox hb
                  have HS0_ := (hb.cell (World.block_lt_of_cell? _ _ (hHeld.1))).trans (hHeld.1)
                  have HS1_ := (hb.cell (World.block_lt_of_cell? _ _ (hHeld.2.1))).trans (hHeld.2.1)
                  have HS2_ := (hb.cell (World.block_lt_of_cell? _ _ (hHeld.2.2.1))).trans (hHeld.2.2.1)
                  have HS3_ := (hb.cell (World.block_lt_of_cell? _ _ (hHeld.2.2.2))).trans (hHeld.2.2.2)
                  have n0_ := Aside0.mk (Kd.R_below (by (with_reducible repeat (first | apply Kd.R_alloc | apply Kd.R_drewN | apply Kd.R_drew)); exact HO112.out) hb)
                  have n1_ := Aside0.mk (blk_below (g := gb109) (o := .cells #[.string (⟨#[]⟩ : ByteArray), .slice none 0 0, .slice none 0 0, .slice none 0 0, .int .i64 0, .int .i64 0] 57 (0, 0)) (by (with_reducible repeat (first | refine blk_drewN ?_ _ | refine blk_drew ?_ | refine blk_alloc ?_ _)); exact BK109.out) hb)
                  have n2_ := Aside0.mk (below_step (by repeat (first | (with_reducible first | exact HB.out | apply below_alloc | apply pw_below_drewN | apply below_drew1 | refine below_set ?_ GE109.out) | exact HB.out)) hb)
                  have n3_ := Aside0.mk (hbox)
                  have n4_ := Aside0.mk ((by rw [hg]; exact (below_size (by repeat (first | (with_reducible first | exact HB.out | apply below_alloc | apply pw_below_drewN | apply below_drew1 | refine below_set ?_ GE109.out) | exact HB.out))) : w.heap.size ≤ gb124))
                  have n5_ := Aside0.mk ((by rw [hg]; exact (below_size (by repeat (first | (with_reducible first | exact HB.out | apply below_alloc | apply pw_below_drewN | apply below_drew1 | refine below_set ?_ GE109.out) | exact HB.out))) : w.heap.size ≤ gb124))
                  have n6_ := Aside0.mk ((by rw [hg]; exact Nat.ne_of_lt (blk_lt (g := gb109) (o := .cells #[.string (⟨#[]⟩ : ByteArray), .slice none 0 0, .slice none 0 0, .slice none 0 0, .int .i64 0, .int .i64 0] 57 (0, 0)) (by (with_reducible repeat (first | refine blk_drewN ?_ _ | refine blk_drew ?_ | refine blk_alloc ?_ _)); exact BK109.out)) : gb109 ≠ gb124))
                  have n7_ := Aside0.mk ((by rw [hg]; exact Nat.ne_of_gt (blk_lt (g := gb109) (o := .cells #[.string (⟨#[]⟩ : ByteArray), .slice none 0 0, .slice none 0 0, .slice none 0 0, .int .i64 0, .int .i64 0] 57 (0, 0)) (by (with_reducible repeat (first | refine blk_drewN ?_ _ | refine blk_drew ?_ | refine blk_alloc ?_ _)); exact BK109.out)) : gb124 ≠ gb109))
                  clear HO112
                  clear BK109
                  clear HB
                  have HO112 := n0_
                  have BK109 := n1_
                  have HB := n2_
                  have BK124 := n3_
                  have GW124 := n4_
                  have GE124 := n5_
                  have NB109_124 := n6_
                  have NB124_109 := n7_
                  clear n0_ n1_ n2_ n3_ n4_ n5_ n6_ n7_
                  clear hb hbox hg
                  refine hK.out _ _ ⟨HS0_, HS1_, HS2_, HS3_⟩ (fun hHeld => ?_)
                  clear hK K
                  refine norm_ (a' := ?_) ?_ ?_
                  rotate_left
                  ·
                   show Act.put _ (some 4) _ = _
                   simp only [Act.put, List.setIfInBounds_toArray, List.set_cons_zero, List.set_cons_succ, i64_w, i32_w]
                   rfl
                  exact norm_ (by first | (simp only [putAll, Act.put, List.setIfInBounds_toArray, List.set_cons_zero, List.set_cons_succ]; done) | (simp only [putAll, Act.put, List.setIfInBounds_toArray, List.set_cons_zero, List.set_cons_succ]; rfl)) (hJ7_12_18 (gb124) _ ⟨hHeld, (by (with_reducible repeat (first | apply Kd.R_alloc | apply Kd.R_drewN | apply Kd.R_drew)); exact HO112.out), (by (with_reducible repeat (first | refine blk_drewN ?_ _ | refine blk_drew ?_ | refine blk_alloc ?_ _)); exact BK109.out), (by (with_reducible repeat (first | refine blk_drewN ?_ _ | refine blk_drew ?_ | refine blk_alloc ?_ _)); exact BK124.out), GW124.out, GE124.out, NB109_124.out, NB124_109.out, (by repeat (first | (with_reducible first | exact HB.out | apply below_alloc | apply pw_below_drewN | apply below_drew1 | refine below_set ?_ GE109.out | refine below_set ?_ GE124.out) | exact HB.out))⟩)
               ·
                skip
                rintro v118 w20 ⟨hS_, h0_, h1_, h2_, h3_⟩
                have n0_ : Aside0 (Kd.R Kd.string 9 w20 w.heap.size (fun _ => True) (.slice (some ad113) t110.length co16) t110) := ⟨h0_⟩
                have n1_ : Aside0 (Kd.R k73 73 w20 w.heap.size (fun _ => True) v118 y117) := ⟨h1_⟩
                have n2_ : Aside0 (w20.heap[gb109]? = some (.cells #[.string (⟨#[]⟩ : ByteArray), .slice none 0 0, .slice none 0 0, .slice none 0 0, .int .i64 0, .int .i64 0] 57 (0, 0))) := ⟨h2_⟩
                have n3_ : Aside0 (Below w.heap.size w w20) := ⟨h3_⟩
                clear HO112
                clear BK109
                clear HB
                clear h0_ h1_ h2_ h3_
                have HO112 := n0_
                have HO119 := n1_
                have BK109 := n2_
                have HB := n3_
                clear n0_ n1_ n2_ n3_
                have hHeld : w20.cell? ad113 = some (.string (rdOf ByteArray.empty t110 0)) ∧ w20.cell? ⟨ad113.block, ad113.off + 3, none⟩ = some (.string (rdOf ByteArray.empty t110 3)) ∧ w20.cell? ⟨ad113.block, ad113.off + 4, none⟩ = some (.string (rdOf ByteArray.empty t110 4)) ∧ w20.cell? ⟨ad113.block, ad113.off + 5, none⟩ = some (.string (rdOf ByteArray.empty t110 5)) := hS_
                refine norm_ (a' := ?_) ?_ ?_
                rotate_left
                ·
                 simp only [putAll, Act.put, List.setIfInBounds_toArray, List.set_cons_zero, List.set_cons_succ]
                 rfl
                refine two_ (i := 12) (j := 18) (Ni := some 24) (Nj := some 4) #[true, true, true, true, true, true, true, true, true, true, true, true, true, true, true, true, false, false, false, false] #[true, true, true, true, true, true, true, true, true, true, true, true, false, true, true, true, false, false, true, false] rfl rfl rfl rfl (two_of HT_.out (by kernel_rfl)) (by decide) (by decide) (fun K hK => ?_) (fun K hK => ?_)
                ·
                 skip
                 refine goes_ Tryd.func43 (by kernel_rfl) rfl #[.string (rdOf ByteArray.empty t110 4)] (by rfl) rfl rfl aeq ?_
                 with_reducible refine (block_number.calls (rdOf ByteArray.empty t110 4) t121 _ A8.out).mono ?_
                 rintro e w21 ⟨rfl, hb⟩
                 have HS0_ := (hb.cell (World.block_lt_of_cell? _ _ (hHeld.1))).trans (hHeld.1)
                 have HS1_ := (hb.cell (World.block_lt_of_cell? _ _ (hHeld.2.1))).trans (hHeld.2.1)
                 have HS2_ := (hb.cell (World.block_lt_of_cell? _ _ (hHeld.2.2.1))).trans (hHeld.2.2.1)
                 have HS3_ := (hb.cell (World.block_lt_of_cell? _ _ (hHeld.2.2.2))).trans (hHeld.2.2.2)
                 refine ⟨_, rfl, ?_⟩
                 have n0_ := Aside0.mk (Kd.R_below (by (with_reducible repeat (first | apply Kd.R_alloc | apply Kd.R_drewN | apply Kd.R_drew)); exact HO112.out) hb)
                 have n1_ := Aside0.mk (Kd.R_below (by (with_reducible repeat (first | apply Kd.R_alloc | apply Kd.R_drewN | apply Kd.R_drew)); exact HO119.out) hb)
                 have n2_ := Aside0.mk (blk_below (g := gb109) (o := .cells #[.string (⟨#[]⟩ : ByteArray), .slice none 0 0, .slice none 0 0, .slice none 0 0, .int .i64 0, .int .i64 0] 57 (0, 0)) (by (with_reducible repeat (first | refine blk_drewN ?_ _ | refine blk_drew ?_ | refine blk_alloc ?_ _)); exact BK109.out) hb)
                 have n3_ := Aside0.mk (below_step (by repeat (first | (with_reducible first | exact HB.out | apply below_alloc | apply pw_below_drewN | apply below_drew1 | refine below_set ?_ GE109.out) | exact HB.out)) hb)
                 clear HO112
                 clear HO119
                 clear BK109
                 clear HB
                 have HO112 := n0_
                 have HO119 := n1_
                 have BK109 := n2_
                 have HB := n3_
                 clear n0_ n1_ n2_ n3_
                 (try clear hb)
                 (try clear hb2)
                 (try clear hk)
                 (try clear hi)
                 refine hK.out _ _ ⟨HS0_, HS1_, HS2_, HS3_⟩ (fun hHeld => ?_)
                 clear hK K
                 refine norm_ (a' := ?_) ?_ ?_
                 rotate_left
                 ·
                  show Act.put _ (some 24) _ = _
                  simp only [Act.put, List.setIfInBounds_toArray, List.set_cons_zero, List.set_cons_succ, i64_w, i32_w]
                  rfl
                 exact norm_ (by first | (simp only [putAll, Act.put, List.setIfInBounds_toArray, List.set_cons_zero, List.set_cons_succ]; done) | (simp only [putAll, Act.put, List.setIfInBounds_toArray, List.set_cons_zero, List.set_cons_succ]; rfl)) (hJ7_8_12 (v118) _ ⟨hHeld, (by (with_reducible repeat (first | apply Kd.R_alloc | apply Kd.R_drewN | apply Kd.R_drew)); exact HO112.out), (by (with_reducible repeat (first | apply Kd.R_alloc | apply Kd.R_drewN | apply Kd.R_drew)); exact HO119.out), (by (with_reducible repeat (first | refine blk_drewN ?_ _ | refine blk_drew ?_ | refine blk_alloc ?_ _)); exact BK109.out), (by repeat (first | (with_reducible first | exact HB.out | apply below_alloc | apply pw_below_drewN | apply below_drew1 | refine below_set ?_ GE109.out) | exact HB.out))⟩)
                ·
                 skip
                 refine box_step ?hg (N := 4) ?hd (cs := #[.string (⟨#[]⟩ : ByteArray), .slice none 0 0, .slice none 0 0, .slice none 0 0, .int .i64 0, .int .i64 0]) (t := 57) ?hr ?_; (case hd => rfl); (case hg => rfl); (case hr => first | (go_simp; done) | (go_simp; rfl))
                 intro gb124 hg w21 hbox hb
                 have HS0_ := (hb.cell (World.block_lt_of_cell? _ _ (hHeld.1))).trans (hHeld.1)
                 have HS1_ := (hb.cell (World.block_lt_of_cell? _ _ (hHeld.2.1))).trans (hHeld.2.1)
                 have HS2_ := (hb.cell (World.block_lt_of_cell? _ _ (hHeld.2.2.1))).trans (hHeld.2.2.1)
                 have HS3_ := (hb.cell (World.block_lt_of_cell? _ _ (hHeld.2.2.2))).trans (hHeld.2.2.2)
                 have n0_ := Aside0.mk (Kd.R_below (by (with_reducible repeat (first | apply Kd.R_alloc | apply Kd.R_drewN | apply Kd.R_drew)); exact HO112.out) hb)
                 have n1_ := Aside0.mk (Kd.R_below (by (with_reducible repeat (first | apply Kd.R_alloc | apply Kd.R_drewN | apply Kd.R_drew)); exact HO119.out) hb)
                 have n2_ := Aside0.mk (blk_below (g := gb109) (o := .cells #[.string (⟨#[]⟩ : ByteArray), .slice none 0 0, .slice none 0 0, .slice none 0 0, .int .i64 0, .int .i64 0] 57 (0, 0)) (by (with_reducible repeat (first | refine blk_drewN ?_ _ | refine blk_drew ?_ | refine blk_alloc ?_ _)); exact BK109.out) hb)
                 have n3_ := Aside0.mk (below_step (by repeat (first | (with_reducible first | exact HB.out | apply below_alloc | apply pw_below_drewN | apply below_drew1 | refine below_set ?_ GE109.out) | exact HB.out)) hb)
                 have n4_ := Aside0.mk (hbox)
                 have n5_ := Aside0.mk ((by rw [hg]; exact (below_size (by repeat (first | (with_reducible first | exact HB.out | apply below_alloc | apply pw_below_drewN | apply below_drew1 | refine below_set ?_ GE109.out) | exact HB.out))) : w.heap.size ≤ gb124))
                 have n6_ := Aside0.mk ((by rw [hg]; exact (below_size (by repeat (first | (with_reducible first | exact HB.out | apply below_alloc | apply pw_below_drewN | apply below_drew1 | refine below_set ?_ GE109.out) | exact HB.out))) : w.heap.size ≤ gb124))
                 have n7_ := Aside0.mk ((by rw [hg]; exact Nat.ne_of_lt (blk_lt (g := gb109) (o := .cells #[.string (⟨#[]⟩ : ByteArray), .slice none 0 0, .slice none 0 0, .slice none 0 0, .int .i64 0, .int .i64 0] 57 (0, 0)) (by (with_reducible repeat (first | refine blk_drewN ?_ _ | refine blk_drew ?_ | refine blk_alloc ?_ _)); exact BK109.out)) : gb109 ≠ gb124))
                 have n8_ := Aside0.mk ((by rw [hg]; exact Nat.ne_of_gt (blk_lt (g := gb109) (o := .cells #[.string (⟨#[]⟩ : ByteArray), .slice none 0 0, .slice none 0 0, .slice none 0 0, .int .i64 0, .int .i64 0] 57 (0, 0)) (by (with_reducible repeat (first | refine blk_drewN ?_ _ | refine blk_drew ?_ | refine blk_alloc ?_ _)); exact BK109.out)) : gb124 ≠ gb109))
                 clear HO112
                 clear HO119
                 clear BK109
                 clear HB
                 have HO112 := n0_
                 have HO119 := n1_
                 have BK109 := n2_
                 have HB := n3_
                 have BK124 := n4_
                 have GW124 := n5_
                 have GE124 := n6_
                 have NB109_124 := n7_
                 have NB124_109 := n8_
                 clear n0_ n1_ n2_ n3_ n4_ n5_ n6_ n7_ n8_
                 clear hb hbox hg
                 refine hK.out _ _ ⟨HS0_, HS1_, HS2_, HS3_⟩ (fun hHeld => ?_)
                 clear hK K
                 refine norm_ (a' := ?_) ?_ ?_
                 rotate_left
                 ·
                  show Act.put _ (some 4) _ = _
                  simp only [Act.put, List.setIfInBounds_toArray, List.set_cons_zero, List.set_cons_succ, i64_w, i32_w]
                  rfl
                 exact norm_ (by first | (simp only [putAll, Act.put, List.setIfInBounds_toArray, List.set_cons_zero, List.set_cons_succ]; done) | (simp only [putAll, Act.put, List.setIfInBounds_toArray, List.set_cons_zero, List.set_cons_succ]; rfl)) (hJ7_8_18 (v118, gb124) _ ⟨hHeld, (by (with_reducible repeat (first | apply Kd.R_alloc | apply Kd.R_drewN | apply Kd.R_drew)); exact HO112.out), (by (with_reducible repeat (first | apply Kd.R_alloc | apply Kd.R_drewN | apply Kd.R_drew)); exact HO119.out), (by (with_reducible repeat (first | refine blk_drewN ?_ _ | refine blk_drew ?_ | refine blk_alloc ?_ _)); exact BK109.out), (by (with_reducible repeat (first | refine blk_drewN ?_ _ | refine blk_drew ?_ | refine blk_alloc ?_ _)); exact BK124.out), GW124.out, GE124.out, NB109_124.out, NB124_109.out, (by repeat (first | (with_reducible first | exact HB.out | apply below_alloc | apply pw_below_drewN | apply below_drew1 | refine below_set ?_ GE109.out | refine below_set ?_ GE124.out) | exact HB.out))⟩)
              ·
               skip
               rintro gb124 w20 ⟨hS_, h0_, h1_, h2_, h3_, h4_, h5_, h6_, h7_⟩
               have n0_ : Aside0 (Kd.R Kd.string 9 w20 w.heap.size (fun _ => True) (.slice (some ad113) t110.length co16) t110) := ⟨h0_⟩
               have n1_ : Aside0 (w20.heap[gb109]? = some (.cells #[.string (⟨#[]⟩ : ByteArray), .slice none 0 0, .slice none 0 0, .slice none 0 0, .int .i64 0, .int .i64 0] 57 (0, 0))) := ⟨h1_⟩
               have n2_ : Aside0 (w20.heap[gb124]? = some (.cells #[.string (⟨#[]⟩ : ByteArray), .slice none 0 0, .slice none 0 0, .slice none 0 0, .int .i64 0, .int .i64 0] 57 (0, 0))) := ⟨h2_⟩
               have n3_ : Aside0 (w.heap.size ≤ gb124) := ⟨h3_⟩
               have n4_ : Aside0 (w.heap.size ≤ gb124) := ⟨h4_⟩
               have n5_ : Aside0 (gb109 ≠ gb124) := ⟨h5_⟩
               have n6_ : Aside0 (gb124 ≠ gb109) := ⟨h6_⟩
               have n7_ : Aside0 (Below w.heap.size w w20) := ⟨h7_⟩
               clear HO112
               clear BK109
               clear HB
               clear h0_ h1_ h2_ h3_ h4_ h5_ h6_ h7_
               have HO112 := n0_
               have BK109 := n1_
               have BK124 := n2_
               have GW124 := n3_
               have GE124 := n4_
               have NB109_124 := n5_
               have NB124_109 := n6_
               have HB := n7_
               clear n0_ n1_ n2_ n3_ n4_ n5_ n6_ n7_
               have hHeld : w20.cell? ad113 = some (.string (rdOf ByteArray.empty t110 0)) ∧ w20.cell? ⟨ad113.block, ad113.off + 3, none⟩ = some (.string (rdOf ByteArray.empty t110 3)) ∧ w20.cell? ⟨ad113.block, ad113.off + 4, none⟩ = some (.string (rdOf ByteArray.empty t110 4)) ∧ w20.cell? ⟨ad113.block, ad113.off + 5, none⟩ = some (.string (rdOf ByteArray.empty t110 5)) := hS_
               refine norm_ (a' := ?_) ?_ ?_
               rotate_left
               ·
                simp only [putAll, Act.put, List.setIfInBounds_toArray, List.set_cons_zero, List.set_cons_succ]
                rfl
               refine two_ (i := 8) (j := 16) (Ni := some 20) (Nj := some 28) #[true, true, true, true, true, true, true, true, true, true, true, true, true, true, true, true, false, false, true, false] #[true, true, true, true, true, true, true, true, false, true, true, true, true, true, true, true, true, false, true, false] rfl rfl rfl rfl (two_of HT_.out (by kernel_rfl)) (by decide) (by decide) (fun K hK => ?_) (fun K hK => ?_)
               ·
                skip
                refine Kd.R_lit_step k73 _ 73 ?hg (N := 20) ?hd (xs := ([(⟨t115, t116⟩ : S73)] : List (S73))) (inner := [.string t115, .string t116]) (ok := fun _ => True) (okp := fun _ => True) ?hr ?hp (fun _ hk => hk) trivial (Below.refl _ _) (Nat.le_refl _) (by simp) ?_; (case hd => rfl); (case hg => rfl); (case hr => first | (go_simp; done) | (go_simp; rfl)); (case hp => exact (Reps.c2 (show Kd.M k73 _ _ _ (⟨t115, t116⟩ : S73) [.string t115, .string t116] from (k73_mkM _ _ _ (⟨t115, t116⟩ : S73) )) (Reps.none _ _)))
                intro v118 w21 ho22 hb hg_ hnew_
                have HS0_ := (hb.cell (World.block_lt_of_cell? _ _ (hHeld.1))).trans (hHeld.1)
                have HS1_ := (hb.cell (World.block_lt_of_cell? _ _ (hHeld.2.1))).trans (hHeld.2.1)
                have HS2_ := (hb.cell (World.block_lt_of_cell? _ _ (hHeld.2.2.1))).trans (hHeld.2.2.1)
                have HS3_ := (hb.cell (World.block_lt_of_cell? _ _ (hHeld.2.2.2))).trans (hHeld.2.2.2)
                clear hg_ hnew_
                (first | rw [← Ny117.out] at ho22 | (simp only [Int.reduceToNat] at ho22; rw [← Ny117.out] at ho22))
                have n0_ := Aside0.mk (Kd.R_below (by (with_reducible repeat (first | apply Kd.R_alloc | apply Kd.R_drewN | apply Kd.R_drew)); exact HO112.out) hb)
                have n1_ := Aside0.mk (Kd.R_lower ho22 (below_size (by repeat (first | (with_reducible first | exact HB.out | apply below_alloc | apply pw_below_drewN | apply below_drew1 | refine below_set ?_ GE109.out | refine below_set ?_ GE124.out) | exact HB.out))))
                have n2_ := Aside0.mk (blk_below (g := gb109) (o := .cells #[.string (⟨#[]⟩ : ByteArray), .slice none 0 0, .slice none 0 0, .slice none 0 0, .int .i64 0, .int .i64 0] 57 (0, 0)) (by (with_reducible repeat (first | refine blk_drewN ?_ _ | refine blk_drew ?_ | refine blk_alloc ?_ _)); exact BK109.out) hb)
                have n3_ := Aside0.mk (blk_below (g := gb124) (o := .cells #[.string (⟨#[]⟩ : ByteArray), .slice none 0 0, .slice none 0 0, .slice none 0 0, .int .i64 0, .int .i64 0] 57 (0, 0)) (by (with_reducible repeat (first | refine blk_drewN ?_ _ | refine blk_drew ?_ | refine blk_alloc ?_ _)); exact BK124.out) hb)
                have n4_ := Aside0.mk (below_step (by repeat (first | (with_reducible first | exact HB.out | apply below_alloc | apply pw_below_drewN | apply below_drew1 | refine below_set ?_ GE109.out | refine below_set ?_ GE124.out) | exact HB.out)) hb)
                clear HO112
                clear BK109
                clear BK124
                clear HB
                have HO112 := n0_
                have HO119 := n1_
                have BK109 := n2_
                have BK124 := n3_
                have HB := n4_
                clear n0_ n1_ n2_ n3_ n4_
                clear hb ho22
                refine hK.out _ _ ⟨HS0_, HS1_, HS2_, HS3_⟩ (fun hHeld => ?_)
                clear hK K
                refine norm_ (a' := ?_) ?_ ?_
                rotate_left
                ·
                 show Act.put _ (some 20) _ = _
                 simp only [Act.put, List.setIfInBounds_toArray, List.set_cons_zero, List.set_cons_succ, i64_w, i32_w]
                 rfl
                exact norm_ (by first | (simp only [putAll, Act.put, List.setIfInBounds_toArray, List.set_cons_zero, List.set_cons_succ]; done) | (simp only [putAll, Act.put, List.setIfInBounds_toArray, List.set_cons_zero, List.set_cons_succ]; rfl)) (hJ7_8_12_18 (v118, gb124) _ ⟨hHeld, (by (with_reducible repeat (first | apply Kd.R_alloc | apply Kd.R_drewN | apply Kd.R_drew)); exact HO112.out), (by (with_reducible repeat (first | apply Kd.R_alloc | apply Kd.R_drewN | apply Kd.R_drew)); exact HO119.out), (by (with_reducible repeat (first | refine blk_drewN ?_ _ | refine blk_drew ?_ | refine blk_alloc ?_ _)); exact BK109.out), (by (with_reducible repeat (first | refine blk_drewN ?_ _ | refine blk_drew ?_ | refine blk_alloc ?_ _)); exact BK124.out), GW124.out, GE124.out, NB109_124.out, NB124_109.out, (by repeat (first | (with_reducible first | exact HB.out | apply below_alloc | apply pw_below_drewN | apply below_drew1 | refine below_set ?_ GE109.out | refine below_set ?_ GE124.out) | exact HB.out))⟩)
               ·
                skip
                refine goes_ Tryd.func43 (by kernel_rfl) rfl #[.string (rdOf ByteArray.empty t110 5)] (by rfl) rfl rfl aeq ?_
                with_reducible refine (block_number.calls (rdOf ByteArray.empty t110 5) t123 _ A10.out).mono ?_
                rintro e w21 ⟨rfl, hb⟩
                have HS0_ := (hb.cell (World.block_lt_of_cell? _ _ (hHeld.1))).trans (hHeld.1)
                have HS1_ := (hb.cell (World.block_lt_of_cell? _ _ (hHeld.2.1))).trans (hHeld.2.1)
                have HS2_ := (hb.cell (World.block_lt_of_cell? _ _ (hHeld.2.2.1))).trans (hHeld.2.2.1)
                have HS3_ := (hb.cell (World.block_lt_of_cell? _ _ (hHeld.2.2.2))).trans (hHeld.2.2.2)
                refine ⟨_, rfl, ?_⟩
                have n0_ := Aside0.mk (Kd.R_below (by (with_reducible repeat (first | apply Kd.R_alloc | apply Kd.R_drewN | apply Kd.R_drew)); exact HO112.out) hb)
                have n1_ := Aside0.mk (blk_below (g := gb109) (o := .cells #[.string (⟨#[]⟩ : ByteArray), .slice none 0 0, .slice none 0 0, .slice none 0 0, .int .i64 0, .int .i64 0] 57 (0, 0)) (by (with_reducible repeat (first | refine blk_drewN ?_ _ | refine blk_drew ?_ | refine blk_alloc ?_ _)); exact BK109.out) hb)
                have n2_ := Aside0.mk (blk_below (g := gb124) (o := .cells #[.string (⟨#[]⟩ : ByteArray), .slice none 0 0, .slice none 0 0, .slice none 0 0, .int .i64 0, .int .i64 0] 57 (0, 0)) (by (with_reducible repeat (first | refine blk_drewN ?_ _ | refine blk_drew ?_ | refine blk_alloc ?_ _)); exact BK124.out) hb)
                have n3_ := Aside0.mk (below_step (by repeat (first | (with_reducible first | exact HB.out | apply below_alloc | apply pw_below_drewN | apply below_drew1 | refine below_set ?_ GE109.out | refine below_set ?_ GE124.out) | exact HB.out)) hb)
                clear HO112
                clear BK109
                clear BK124
                clear HB
                have HO112 := n0_
                have BK109 := n1_
                have BK124 := n2_
                have HB := n3_
                clear n0_ n1_ n2_ n3_
                (try clear hb)
                (try clear hb2)
                (try clear hk)
                (try clear hi)
                refine hK.out _ _ ⟨HS0_, HS1_, HS2_, HS3_⟩ (fun hHeld => ?_)
                clear hK K
                refine norm_ (a' := ?_) ?_ ?_
                rotate_left
                ·
                 show Act.put _ (some 28) _ = _
                 simp only [Act.put, List.setIfInBounds_toArray, List.set_cons_zero, List.set_cons_succ, i64_w, i32_w]
                 rfl
                exact norm_ (by first | (simp only [putAll, Act.put, List.setIfInBounds_toArray, List.set_cons_zero, List.set_cons_succ]; done) | (simp only [putAll, Act.put, List.setIfInBounds_toArray, List.set_cons_zero, List.set_cons_succ]; rfl)) (hJ7_12_16_18 (gb124) _ ⟨hHeld, (by (with_reducible repeat (first | apply Kd.R_alloc | apply Kd.R_drewN | apply Kd.R_drew)); exact HO112.out), (by (with_reducible repeat (first | refine blk_drewN ?_ _ | refine blk_drew ?_ | refine blk_alloc ?_ _)); exact BK109.out), (by (with_reducible repeat (first | refine blk_drewN ?_ _ | refine blk_drew ?_ | refine blk_alloc ?_ _)); exact BK124.out), GW124.out, GE124.out, NB109_124.out, NB124_109.out, (by repeat (first | (with_reducible first | exact HB.out | apply below_alloc | apply pw_below_drewN | apply below_drew1 | refine below_set ?_ GE109.out | refine below_set ?_ GE124.out) | exact HB.out))⟩)
             ·
              skip
              rintro _ w20 ⟨hS_, h0_, h1_, h2_⟩
              have n0_ : Aside0 (Kd.R Kd.string 9 w20 w.heap.size (fun _ => True) (.slice (some ad113) t110.length co16) t110) := ⟨h0_⟩
              have n1_ : Aside0 (w20.heap[gb109]? = some (.cells #[.string (⟨#[]⟩ : ByteArray), .slice none 0 0, .slice none 0 0, .slice none 0 0, .int .i64 0, .int .i64 0] 57 (0, 0))) := ⟨h1_⟩
              have n2_ : Aside0 (Below w.heap.size w w20) := ⟨h2_⟩
              clear HO112
              clear BK109
              clear HB
              clear h0_ h1_ h2_
              have HO112 := n0_
              have BK109 := n1_
              have HB := n2_
              clear n0_ n1_ n2_
              have hHeld : w20.cell? ad113 = some (.string (rdOf ByteArray.empty t110 0)) ∧ w20.cell? ⟨ad113.block, ad113.off + 3, none⟩ = some (.string (rdOf ByteArray.empty t110 3)) ∧ w20.cell? ⟨ad113.block, ad113.off + 4, none⟩ = some (.string (rdOf ByteArray.empty t110 4)) ∧ w20.cell? ⟨ad113.block, ad113.off + 5, none⟩ = some (.string (rdOf ByteArray.empty t110 5)) := hS_
              refine norm_ (a' := ?_) ?_ ?_
              rotate_left
              ·
               simp only [putAll, Act.put, List.setIfInBounds_toArray, List.set_cons_zero, List.set_cons_succ]
               rfl
              refine two_ (i := 8) (j := 18) (Ni := some 20) (Nj := some 4) #[true, true, true, true, true, true, true, true, true, true, true, true, true, true, true, true, true, false, false, false] #[true, true, true, true, true, true, true, true, false, true, true, true, true, true, true, true, true, false, true, false] rfl rfl rfl rfl (two_of HT_.out (by kernel_rfl)) (by decide) (by decide) (fun K hK => ?_) (fun K hK => ?_)
              ·
               skip
               refine Kd.R_lit_step k73 _ 73 ?hg (N := 20) ?hd (xs := ([(⟨t115, t116⟩ : S73)] : List (S73))) (inner := [.string t115, .string t116]) (ok := fun _ => True) (okp := fun _ => True) ?hr ?hp (fun _ hk => hk) trivial (Below.refl _ _) (Nat.le_refl _) (by simp) ?_; (case hd => rfl); (case hg => rfl); (case hr => first | (go_simp; done) | (go_simp; rfl)); (case hp => exact (Reps.c2 (show Kd.M k73 _ _ _ (⟨t115, t116⟩ : S73) [.string t115, .string t116] from (k73_mkM _ _ _ (⟨t115, t116⟩ : S73) )) (Reps.none _ _)))
               intro v118 w21 ho22 hb hg_ hnew_
               have HS0_ := (hb.cell (World.block_lt_of_cell? _ _ (hHeld.1))).trans (hHeld.1)
               have HS1_ := (hb.cell (World.block_lt_of_cell? _ _ (hHeld.2.1))).trans (hHeld.2.1)
               have HS2_ := (hb.cell (World.block_lt_of_cell? _ _ (hHeld.2.2.1))).trans (hHeld.2.2.1)
               have HS3_ := (hb.cell (World.block_lt_of_cell? _ _ (hHeld.2.2.2))).trans (hHeld.2.2.2)
               clear hg_ hnew_
               (first | rw [← Ny117.out] at ho22 | (simp only [Int.reduceToNat] at ho22; rw [← Ny117.out] at ho22))
               have n0_ := Aside0.mk (Kd.R_below (by (with_reducible repeat (first | apply Kd.R_alloc | apply Kd.R_drewN | apply Kd.R_drew)); exact HO112.out) hb)
               have n1_ := Aside0.mk (Kd.R_lower ho22 (below_size (by repeat (first | (with_reducible first | exact HB.out | apply below_alloc | apply pw_below_drewN | apply below_drew1 | refine below_set ?_ GE109.out) | exact HB.out))))
               have n2_ := Aside0.mk (blk_below (g := gb109) (o := .cells #[.string (⟨#[]⟩ : ByteArray), .slice none 0 0, .slice none 0 0, .slice none 0 0, .int .i64 0, .int .i64 0] 57 (0, 0)) (by (with_reducible repeat (first | refine blk_drewN ?_ _ | refine blk_drew ?_ | refine blk_alloc ?_ _)); exact BK109.out) hb)
               have n3_ := Aside0.mk (below_step (by repeat (first | (with_reducible first | exact HB.out | apply below_alloc | apply pw_below_drewN | apply below_drew1 | refine below_set ?_ GE109.out) | exact HB.out)) hb)
               clear HO112
               clear BK109
               clear HB
               have HO112 := n0_
               have HO119 := n1_
               have BK109 := n2_
               have HB := n3_
               clear n0_ n1_ n2_ n3_
               clear hb ho22
               obtain ⟨Ao23, co23, eo23⟩ := Kd.R_slice HO119.out
               (first | subst eo23 | (injection eo23 with f1_ f2_ f3_; have f4_ := f1_.symm; have f5_ := f3_.symm; clear f1_ f2_ f3_; subst f4_; subst f5_))
               refine hK.out _ _ ⟨HS0_, HS1_, HS2_, HS3_⟩ (fun hHeld => ?_)
               clear hK K
               refine norm_ (a' := ?_) ?_ ?_
               rotate_left
               ·
                show Act.put _ (some 20) _ = _
                simp only [Act.put, List.setIfInBounds_toArray, List.set_cons_zero, List.set_cons_succ, i64_w, i32_w]
                rfl
               refine pure_ (i := 17) (N := some 29) (v := ?_) (a' := ?_) #[true, true, true, true, true, true, true, true, true, true, true, true, true, true, true, true, true, true, false, false] rfl rfl (any_of HT_.out (by kernel_rfl)) (fun _ _ _ h => h) (Or.inl ⟨by rfl, ?_⟩) ?_ ?_
               rotate_left
               ·
                intro w'
                go_simp
                with_reducible rfl
               rotate_left
               ·
                simp only [Act.put, List.setIfInBounds_toArray, List.set_cons_zero, List.set_cons_succ, i64_w, i32_w]
                rfl
               exact norm_ (by first | (simp only [putAll, Act.put, List.setIfInBounds_toArray, List.set_cons_zero, List.set_cons_succ]; done) | (simp only [putAll, Act.put, List.setIfInBounds_toArray, List.set_cons_zero, List.set_cons_succ]; rfl)) (hJ7_8_12_16 (.slice Ao23 y117.length co23) _ ⟨hHeld, (by (with_reducible repeat (first | apply Kd.R_alloc | apply Kd.R_drewN | apply Kd.R_drew)); exact HO112.out), (by (with_reducible repeat (first | apply Kd.R_alloc | apply Kd.R_drewN | apply Kd.R_drew)); exact HO119.out), (by (with_reducible repeat (first | refine blk_drewN ?_ _ | refine blk_drew ?_ | refine blk_alloc ?_ _)); exact BK109.out), (by repeat (first | (with_reducible first | exact HB.out | apply below_alloc | apply pw_below_drewN | apply below_drew1 | refine below_set ?_ GE109.out) | exact HB.out))⟩)
              ·
               skip
               refine box_step ?hg (N := 4) ?hd (cs := #[.string (⟨#[]⟩ : ByteArray), .slice none 0 0, .slice none 0 0, .slice none 0 0, .int .i64 0, .int .i64 0]) (t := 57) ?hr ?_; (case hd => rfl); (case hg => rfl); (case hr => first | (go_simp; done) | (go_simp; rfl))
               intro gb124 hg w21 hbox hb
               have HS0_ := (hb.cell (World.block_lt_of_cell? _ _ (hHeld.1))).trans (hHeld.1)
               have HS1_ := (hb.cell (World.block_lt_of_cell? _ _ (hHeld.2.1))).trans (hHeld.2.1)
               have HS2_ := (hb.cell (World.block_lt_of_cell? _ _ (hHeld.2.2.1))).trans (hHeld.2.2.1)
               have HS3_ := (hb.cell (World.block_lt_of_cell? _ _ (hHeld.2.2.2))).trans (hHeld.2.2.2)
               have n0_ := Aside0.mk (Kd.R_below (by (with_reducible repeat (first | apply Kd.R_alloc | apply Kd.R_drewN | apply Kd.R_drew)); exact HO112.out) hb)
               have n1_ := Aside0.mk (blk_below (g := gb109) (o := .cells #[.string (⟨#[]⟩ : ByteArray), .slice none 0 0, .slice none 0 0, .slice none 0 0, .int .i64 0, .int .i64 0] 57 (0, 0)) (by (with_reducible repeat (first | refine blk_drewN ?_ _ | refine blk_drew ?_ | refine blk_alloc ?_ _)); exact BK109.out) hb)
               have n2_ := Aside0.mk (below_step (by repeat (first | (with_reducible first | exact HB.out | apply below_alloc | apply pw_below_drewN | apply below_drew1 | refine below_set ?_ GE109.out) | exact HB.out)) hb)
               have n3_ := Aside0.mk (hbox)
               have n4_ := Aside0.mk ((by rw [hg]; exact (below_size (by repeat (first | (with_reducible first | exact HB.out | apply below_alloc | apply pw_below_drewN | apply below_drew1 | refine below_set ?_ GE109.out) | exact HB.out))) : w.heap.size ≤ gb124))
               have n5_ := Aside0.mk ((by rw [hg]; exact (below_size (by repeat (first | (with_reducible first | exact HB.out | apply below_alloc | apply pw_below_drewN | apply below_drew1 | refine below_set ?_ GE109.out) | exact HB.out))) : w.heap.size ≤ gb124))
               have n6_ := Aside0.mk ((by rw [hg]; exact Nat.ne_of_lt (blk_lt (g := gb109) (o := .cells #[.string (⟨#[]⟩ : ByteArray), .slice none 0 0, .slice none 0 0, .slice none 0 0, .int .i64 0, .int .i64 0] 57 (0, 0)) (by (with_reducible repeat (first | refine blk_drewN ?_ _ | refine blk_drew ?_ | refine blk_alloc ?_ _)); exact BK109.out)) : gb109 ≠ gb124))
               have n7_ := Aside0.mk ((by rw [hg]; exact Nat.ne_of_gt (blk_lt (g := gb109) (o := .cells #[.string (⟨#[]⟩ : ByteArray), .slice none 0 0, .slice none 0 0, .slice none 0 0, .int .i64 0, .int .i64 0] 57 (0, 0)) (by (with_reducible repeat (first | refine blk_drewN ?_ _ | refine blk_drew ?_ | refine blk_alloc ?_ _)); exact BK109.out)) : gb124 ≠ gb109))
               clear HO112
               clear BK109
               clear HB
               have HO112 := n0_
               have BK109 := n1_
               have HB := n2_
               have BK124 := n3_
               have GW124 := n4_
               have GE124 := n5_
               have NB109_124 := n6_
               have NB124_109 := n7_
               clear n0_ n1_ n2_ n3_ n4_ n5_ n6_ n7_
               clear hb hbox hg
               refine hK.out _ _ ⟨HS0_, HS1_, HS2_, HS3_⟩ (fun hHeld => ?_)
               clear hK K
               refine norm_ (a' := ?_) ?_ ?_
               rotate_left
               ·
                show Act.put _ (some 4) _ = _
                simp only [Act.put, List.setIfInBounds_toArray, List.set_cons_zero, List.set_cons_succ, i64_w, i32_w]
                rfl
               exact norm_ (by first | (simp only [putAll, Act.put, List.setIfInBounds_toArray, List.set_cons_zero, List.set_cons_succ]; done) | (simp only [putAll, Act.put, List.setIfInBounds_toArray, List.set_cons_zero, List.set_cons_succ]; rfl)) (hJ7_12_16_18 (gb124) _ ⟨hHeld, (by (with_reducible repeat (first | apply Kd.R_alloc | apply Kd.R_drewN | apply Kd.R_drew)); exact HO112.out), (by (with_reducible repeat (first | refine blk_drewN ?_ _ | refine blk_drew ?_ | refine blk_alloc ?_ _)); exact BK109.out), (by (with_reducible repeat (first | refine blk_drewN ?_ _ | refine blk_drew ?_ | refine blk_alloc ?_ _)); exact BK124.out), GW124.out, GE124.out, NB109_124.out, NB124_109.out, (by repeat (first | (with_reducible first | exact HB.out | apply below_alloc | apply pw_below_drewN | apply below_drew1 | refine below_set ?_ GE109.out | refine below_set ?_ GE124.out) | exact HB.out))⟩)
            ·
             skip
             rintro ⟨v118, gb124⟩ w21 ⟨hS_, h0_, h1_, h2_, h3_, h4_, h5_, h6_, h7_, h8_⟩
             have n0_ : Aside0 (Kd.R Kd.string 9 w21 w.heap.size (fun _ => True) (.slice (some ad113) t110.length co16) t110) := ⟨h0_⟩
             have n1_ : Aside0 (Kd.R k73 73 w21 w.heap.size (fun _ => True) v118 y117) := ⟨h1_⟩
             have n2_ : Aside0 (w21.heap[gb109]? = some (.cells #[.string (⟨#[]⟩ : ByteArray), .slice none 0 0, .slice none 0 0, .slice none 0 0, .int .i64 0, .int .i64 0] 57 (0, 0))) := ⟨h2_⟩
             have n3_ : Aside0 (w21.heap[gb124]? = some (.cells #[.string (⟨#[]⟩ : ByteArray), .slice none 0 0, .slice none 0 0, .slice none 0 0, .int .i64 0, .int .i64 0] 57 (0, 0))) := ⟨h3_⟩
             have n4_ : Aside0 (w.heap.size ≤ gb124) := ⟨h4_⟩
             have n5_ : Aside0 (w.heap.size ≤ gb124) := ⟨h5_⟩
             have n6_ : Aside0 (gb109 ≠ gb124) := ⟨h6_⟩
             have n7_ : Aside0 (gb124 ≠ gb109) := ⟨h7_⟩
             have n8_ : Aside0 (Below w.heap.size w w21) := ⟨h8_⟩
             clear HO112
             clear BK109
             clear HB
             clear h0_ h1_ h2_ h3_ h4_ h5_ h6_ h7_ h8_
             have HO112 := n0_
             have HO119 := n1_
             have BK109 := n2_
             have BK124 := n3_
             have GW124 := n4_
             have GE124 := n5_
             have NB109_124 := n6_
             have NB124_109 := n7_
             have HB := n8_
             clear n0_ n1_ n2_ n3_ n4_ n5_ n6_ n7_ n8_
             have hHeld : w21.cell? ad113 = some (.string (rdOf ByteArray.empty t110 0)) ∧ w21.cell? ⟨ad113.block, ad113.off + 3, none⟩ = some (.string (rdOf ByteArray.empty t110 3)) ∧ w21.cell? ⟨ad113.block, ad113.off + 4, none⟩ = some (.string (rdOf ByteArray.empty t110 4)) ∧ w21.cell? ⟨ad113.block, ad113.off + 5, none⟩ = some (.string (rdOf ByteArray.empty t110 5)) := hS_
             refine norm_ (a' := ?_) ?_ ?_
             rotate_left
             ·
              simp only [putAll, Act.put, List.setIfInBounds_toArray, List.set_cons_zero, List.set_cons_succ]
              rfl
             refine one_ (i := 12) (N := some 24) #[true, true, true, true, true, true, true, true, true, true, true, true, true, true, true, true, false, false, true, false] rfl rfl (one_of HT_.out (by kernel_rfl)) (by decide) (fun K hK => ?_)
             refine goes_ Tryd.func43 (by kernel_rfl) rfl #[.string (rdOf ByteArray.empty t110 4)] (by rfl) rfl rfl aeq ?_
             with_reducible refine (block_number.calls (rdOf ByteArray.empty t110 4) t121 _ A8.out).mono ?_
             rintro e w22 ⟨rfl, hb⟩
             have HS0_ := (hb.cell (World.block_lt_of_cell? _ _ (hHeld.1))).trans (hHeld.1)
             have HS1_ := (hb.cell (World.block_lt_of_cell? _ _ (hHeld.2.1))).trans (hHeld.2.1)
             have HS2_ := (hb.cell (World.block_lt_of_cell? _ _ (hHeld.2.2.1))).trans (hHeld.2.2.1)
             have HS3_ := (hb.cell (World.block_lt_of_cell? _ _ (hHeld.2.2.2))).trans (hHeld.2.2.2)
             refine ⟨_, rfl, ?_⟩
             have n0_ := Aside0.mk (Kd.R_below (by (with_reducible repeat (first | apply Kd.R_alloc | apply Kd.R_drewN | apply Kd.R_drew)); exact HO112.out) hb)
             have n1_ := Aside0.mk (Kd.R_below (by (with_reducible repeat (first | apply Kd.R_alloc | apply Kd.R_drewN | apply Kd.R_drew)); exact HO119.out) hb)
             have n2_ := Aside0.mk (blk_below (g := gb109) (o := .cells #[.string (⟨#[]⟩ : ByteArray), .slice none 0 0, .slice none 0 0, .slice none 0 0, .int .i64 0, .int .i64 0] 57 (0, 0)) (by (with_reducible repeat (first | refine blk_drewN ?_ _ | refine blk_drew ?_ | refine blk_alloc ?_ _)); exact BK109.out) hb)
             have n3_ := Aside0.mk (blk_below (g := gb124) (o := .cells #[.string (⟨#[]⟩ : ByteArray), .slice none 0 0, .slice none 0 0, .slice none 0 0, .int .i64 0, .int .i64 0] 57 (0, 0)) (by (with_reducible repeat (first | refine blk_drewN ?_ _ | refine blk_drew ?_ | refine blk_alloc ?_ _)); exact BK124.out) hb)
             have n4_ := Aside0.mk (below_step (by repeat (first | (with_reducible first | exact HB.out | apply below_alloc | apply pw_below_drewN | apply below_drew1 | refine below_set ?_ GE109.out | refine below_set ?_ GE124.out) | exact HB.out)) hb)
             clear HO112
             clear HO119
             clear BK109
             clear BK124
             clear HB
             have HO112 := n0_
             have HO119 := n1_
             have BK109 := n2_
             have BK124 := n3_
             have HB := n4_
             clear n0_ n1_ n2_ n3_ n4_
             (try clear hb)
             (try clear hb2)
             (try clear hk)
             (try clear hi)
             refine hK.out _ _ ⟨HS0_, HS1_, HS2_, HS3_⟩ (fun hHeld => ?_)
             clear hK K
             refine norm_ (a' := ?_) ?_ ?_
             rotate_left
             ·
              show Act.put _ (some 24) _ = _
              simp only [Act.put, List.setIfInBounds_toArray, List.set_cons_zero, List.set_cons_succ, i64_w, i32_w]
              rfl
             exact norm_ (by first | (simp only [putAll, Act.put, List.setIfInBounds_toArray, List.set_cons_zero, List.set_cons_succ]; done) | (simp only [putAll, Act.put, List.setIfInBounds_toArray, List.set_cons_zero, List.set_cons_succ]; rfl)) (hJ7_8_12_18 (v118, gb124) _ ⟨hHeld, (by (with_reducible repeat (first | apply Kd.R_alloc | apply Kd.R_drewN | apply Kd.R_drew)); exact HO112.out), (by (with_reducible repeat (first | apply Kd.R_alloc | apply Kd.R_drewN | apply Kd.R_drew)); exact HO119.out), (by (with_reducible repeat (first | refine blk_drewN ?_ _ | refine blk_drew ?_ | refine blk_alloc ?_ _)); exact BK109.out), (by (with_reducible repeat (first | refine blk_drewN ?_ _ | refine blk_drew ?_ | refine blk_alloc ?_ _)); exact BK124.out), GW124.out, GE124.out, NB109_124.out, NB124_109.out, (by repeat (first | (with_reducible first | exact HB.out | apply below_alloc | apply pw_below_drewN | apply below_drew1 | refine below_set ?_ GE109.out | refine below_set ?_ GE124.out) | exact HB.out))⟩)
           ·
            skip
            rintro v118 w21 ⟨hS_, h0_, h1_, h2_, h3_⟩
            have n0_ : Aside0 (Kd.R Kd.string 9 w21 w.heap.size (fun _ => True) (.slice (some ad113) t110.length co16) t110) := ⟨h0_⟩
            have n1_ : Aside0 (Kd.R k73 73 w21 w.heap.size (fun _ => True) v118 y117) := ⟨h1_⟩
            have n2_ : Aside0 (w21.heap[gb109]? = some (.cells #[.string (⟨#[]⟩ : ByteArray), .slice none 0 0, .slice none 0 0, .slice none 0 0, .int .i64 0, .int .i64 0] 57 (0, 0))) := ⟨h2_⟩
            have n3_ : Aside0 (Below w.heap.size w w21) := ⟨h3_⟩
            clear HO112
            clear BK109
            clear HB
            clear h0_ h1_ h2_ h3_
            have HO112 := n0_
            have HO119 := n1_
            have BK109 := n2_
            have HB := n3_
            clear n0_ n1_ n2_ n3_
            have hHeld : w21.cell? ad113 = some (.string (rdOf ByteArray.empty t110 0)) ∧ w21.cell? ⟨ad113.block, ad113.off + 3, none⟩ = some (.string (rdOf ByteArray.empty t110 3)) ∧ w21.cell? ⟨ad113.block, ad113.off + 4, none⟩ = some (.string (rdOf ByteArray.empty t110 4)) ∧ w21.cell? ⟨ad113.block, ad113.off + 5, none⟩ = some (.string (rdOf ByteArray.empty t110 5)) := hS_
            refine norm_ (a' := ?_) ?_ ?_
            rotate_left
            ·
             simp only [putAll, Act.put, List.setIfInBounds_toArray, List.set_cons_zero, List.set_cons_succ]
             rfl
            refine two_ (i := 16) (j := 18) (Ni := some 28) (Nj := some 4) #[true, true, true, true, true, true, true, true, true, true, true, true, true, true, true, true, true, false, false, false] #[true, true, true, true, true, true, true, true, true, true, true, true, true, true, true, true, false, false, true, false] rfl rfl rfl rfl (two_of HT_.out (by kernel_rfl)) (by decide) (by decide) (fun K hK => ?_) (fun K hK => ?_)
            ·
             skip
             refine goes_ Tryd.func43 (by kernel_rfl) rfl #[.string (rdOf ByteArray.empty t110 5)] (by rfl) rfl rfl aeq ?_
             with_reducible refine (block_number.calls (rdOf ByteArray.empty t110 5) t123 _ A10.out).mono ?_
             rintro e w22 ⟨rfl, hb⟩
             have HS0_ := (hb.cell (World.block_lt_of_cell? _ _ (hHeld.1))).trans (hHeld.1)
             have HS1_ := (hb.cell (World.block_lt_of_cell? _ _ (hHeld.2.1))).trans (hHeld.2.1)
             have HS2_ := (hb.cell (World.block_lt_of_cell? _ _ (hHeld.2.2.1))).trans (hHeld.2.2.1)
             have HS3_ := (hb.cell (World.block_lt_of_cell? _ _ (hHeld.2.2.2))).trans (hHeld.2.2.2)
             refine ⟨_, rfl, ?_⟩
             have n0_ := Aside0.mk (Kd.R_below (by (with_reducible repeat (first | apply Kd.R_alloc | apply Kd.R_drewN | apply Kd.R_drew)); exact HO112.out) hb)
             have n1_ := Aside0.mk (Kd.R_below (by (with_reducible repeat (first | apply Kd.R_alloc | apply Kd.R_drewN | apply Kd.R_drew)); exact HO119.out) hb)
             have n2_ := Aside0.mk (blk_below (g := gb109) (o := .cells #[.string (⟨#[]⟩ : ByteArray), .slice none 0 0, .slice none 0 0, .slice none 0 0, .int .i64 0, .int .i64 0] 57 (0, 0)) (by (with_reducible repeat (first | refine blk_drewN ?_ _ | refine blk_drew ?_ | refine blk_alloc ?_ _)); exact BK109.out) hb)
             have n3_ := Aside0.mk (below_step (by repeat (first | (with_reducible first | exact HB.out | apply below_alloc | apply pw_below_drewN | apply below_drew1 | refine below_set ?_ GE109.out) | exact HB.out)) hb)
             clear HO112
             clear HO119
             clear BK109
             clear HB
             have HO112 := n0_
             have HO119 := n1_
             have BK109 := n2_
             have HB := n3_
             clear n0_ n1_ n2_ n3_
             (try clear hb)
             (try clear hb2)
             (try clear hk)
             (try clear hi)
             obtain ⟨Ao23, co23, eo23⟩ := Kd.R_slice HO119.out
             (first | subst eo23 | (injection eo23 with f1_ f2_ f3_; have f4_ := f1_.symm; have f5_ := f3_.symm; clear f1_ f2_ f3_; subst f4_; subst f5_))
             refine hK.out _ _ ⟨HS0_, HS1_, HS2_, HS3_⟩ (fun hHeld => ?_)
             clear hK K
             refine norm_ (a' := ?_) ?_ ?_
             rotate_left
             ·
              show Act.put _ (some 28) _ = _
              simp only [Act.put, List.setIfInBounds_toArray, List.set_cons_zero, List.set_cons_succ, i64_w, i32_w]
              rfl
             refine pure_ (i := 17) (N := some 29) (v := ?_) (a' := ?_) #[true, true, true, true, true, true, true, true, true, true, true, true, true, true, true, true, true, true, false, false] rfl rfl (any_of HT_.out (by kernel_rfl)) (fun _ _ _ h => h) (Or.inl ⟨by rfl, ?_⟩) ?_ ?_
             rotate_left
             ·
              intro w'
              go_simp
              with_reducible rfl
             rotate_left
             ·
              simp only [Act.put, List.setIfInBounds_toArray, List.set_cons_zero, List.set_cons_succ, i64_w, i32_w]
              rfl
             exact norm_ (by first | (simp only [putAll, Act.put, List.setIfInBounds_toArray, List.set_cons_zero, List.set_cons_succ]; done) | (simp only [putAll, Act.put, List.setIfInBounds_toArray, List.set_cons_zero, List.set_cons_succ]; rfl)) (hJ7_8_12_16 (.slice Ao23 y117.length co23) _ ⟨hHeld, (by (with_reducible repeat (first | apply Kd.R_alloc | apply Kd.R_drewN | apply Kd.R_drew)); exact HO112.out), (by (with_reducible repeat (first | apply Kd.R_alloc | apply Kd.R_drewN | apply Kd.R_drew)); exact HO119.out), (by (with_reducible repeat (first | refine blk_drewN ?_ _ | refine blk_drew ?_ | refine blk_alloc ?_ _)); exact BK109.out), (by repeat (first | (with_reducible first | exact HB.out | apply below_alloc | apply pw_below_drewN | apply below_drew1 | refine below_set ?_ GE109.out) | exact HB.out))⟩)
            ·
             skip
             refine box_step ?hg (N := 4) ?hd (cs := #[.string (⟨#[]⟩ : ByteArray), .slice none 0 0, .slice none 0 0, .slice none 0 0, .int .i64 0, .int .i64 0]) (t := 57) ?hr ?_; (case hd => rfl); (case hg => rfl); (case hr => first | (go_simp; done) | (go_simp; rfl))
             intro gb124 hg w22 hbox hb
             have HS0_ := (hb.cell (World.block_lt_of_cell? _ _ (hHeld.1))).trans (hHeld.1)
             have HS1_ := (hb.cell (World.block_lt_of_cell? _ _ (hHeld.2.1))).trans (hHeld.2.1)
             have HS2_ := (hb.cell (World.block_lt_of_cell? _ _ (hHeld.2.2.1))).trans (hHeld.2.2.1)
             have HS3_ := (hb.cell (World.block_lt_of_cell? _ _ (hHeld.2.2.2))).trans (hHeld.2.2.2)
             have n0_ := Aside0.mk (Kd.R_below (by (with_reducible repeat (first | apply Kd.R_alloc | apply Kd.R_drewN | apply Kd.R_drew)); exact HO112.out) hb)
             have n1_ := Aside0.mk (Kd.R_below (by (with_reducible repeat (first | apply Kd.R_alloc | apply Kd.R_drewN | apply Kd.R_drew)); exact HO119.out) hb)
             have n2_ := Aside0.mk (blk_below (g := gb109) (o := .cells #[.string (⟨#[]⟩ : ByteArray), .slice none 0 0, .slice none 0 0, .slice none 0 0, .int .i64 0, .int .i64 0] 57 (0, 0)) (by (with_reducible repeat (first | refine blk_drewN ?_ _ | refine blk_drew ?_ | refine blk_alloc ?_ _)); exact BK109.out) hb)
             have n3_ := Aside0.mk (below_step (by repeat (first | (with_reducible first | exact HB.out | apply below_alloc | apply pw_below_drewN | apply below_drew1 | refine below_set ?_ GE109.out) | exact HB.out)) hb)
             have n4_ := Aside0.mk (hbox)
             have n5_ := Aside0.mk ((by rw [hg]; exact (below_size (by repeat (first | (with_reducible first | exact HB.out | apply below_alloc | apply pw_below_drewN | apply below_drew1 | refine below_set ?_ GE109.out) | exact HB.out))) : w.heap.size ≤ gb124))
             have n6_ := Aside0.mk ((by rw [hg]; exact (below_size (by repeat (first | (with_reducible first | exact HB.out | apply below_alloc | apply pw_below_drewN | apply below_drew1 | refine below_set ?_ GE109.out) | exact HB.out))) : w.heap.size ≤ gb124))
             have n7_ := Aside0.mk ((by rw [hg]; exact Nat.ne_of_lt (blk_lt (g := gb109) (o := .cells #[.string (⟨#[]⟩ : ByteArray), .slice none 0 0, .slice none 0 0, .slice none 0 0, .int .i64 0, .int .i64 0] 57 (0, 0)) (by (with_reducible repeat (first | refine blk_drewN ?_ _ | refine blk_drew ?_ | refine blk_alloc ?_ _)); exact BK109.out)) : gb109 ≠ gb124))
             have n8_ := Aside0.mk ((by rw [hg]; exact Nat.ne_of_gt (blk_lt (g := gb109) (o := .cells #[.string (⟨#[]⟩ : ByteArray), .slice none 0 0, .slice none 0 0, .slice none 0 0, .int .i64 0, .int .i64 0] 57 (0, 0)) (by (with_reducible repeat (first | refine blk_drewN ?_ _ | refine blk_drew ?_ | refine blk_alloc ?_ _)); exact BK109.out)) : gb124 ≠ gb109))
             clear HO112
             clear HO119
             clear BK109
             clear HB
             have HO112 := n0_
             have HO119 := n1_
             have BK109 := n2_
             have HB := n3_
             have BK124 := n4_
             have GW124 := n5_
             have GE124 := n6_
             have NB109_124 := n7_
             have NB124_109 := n8_
             clear n0_ n1_ n2_ n3_ n4_ n5_ n6_ n7_ n8_
             clear hb hbox hg
             refine hK.out _ _ ⟨HS0_, HS1_, HS2_, HS3_⟩ (fun hHeld => ?_)
             clear hK K
             refine norm_ (a' := ?_) ?_ ?_
             rotate_left
             ·
              show Act.put _ (some 4) _ = _
              simp only [Act.put, List.setIfInBounds_toArray, List.set_cons_zero, List.set_cons_succ, i64_w, i32_w]
              rfl
             exact norm_ (by first | (simp only [putAll, Act.put, List.setIfInBounds_toArray, List.set_cons_zero, List.set_cons_succ]; done) | (simp only [putAll, Act.put, List.setIfInBounds_toArray, List.set_cons_zero, List.set_cons_succ]; rfl)) (hJ7_8_12_18 (v118, gb124) _ ⟨hHeld, (by (with_reducible repeat (first | apply Kd.R_alloc | apply Kd.R_drewN | apply Kd.R_drew)); exact HO112.out), (by (with_reducible repeat (first | apply Kd.R_alloc | apply Kd.R_drewN | apply Kd.R_drew)); exact HO119.out), (by (with_reducible repeat (first | refine blk_drewN ?_ _ | refine blk_drew ?_ | refine blk_alloc ?_ _)); exact BK109.out), (by (with_reducible repeat (first | refine blk_drewN ?_ _ | refine blk_drew ?_ | refine blk_alloc ?_ _)); exact BK124.out), GW124.out, GE124.out, NB109_124.out, NB124_109.out, (by repeat (first | (with_reducible first | exact HB.out | apply below_alloc | apply pw_below_drewN | apply below_drew1 | refine below_set ?_ GE109.out | refine below_set ?_ GE124.out) | exact HB.out))⟩)
          ·
           skip
           rintro gb124 w21 ⟨hS_, h0_, h1_, h2_, h3_, h4_, h5_, h6_, h7_⟩
           have n0_ : Aside0 (Kd.R Kd.string 9 w21 w.heap.size (fun _ => True) (.slice (some ad113) t110.length co16) t110) := ⟨h0_⟩
           have n1_ : Aside0 (w21.heap[gb109]? = some (.cells #[.string (⟨#[]⟩ : ByteArray), .slice none 0 0, .slice none 0 0, .slice none 0 0, .int .i64 0, .int .i64 0] 57 (0, 0))) := ⟨h1_⟩
           have n2_ : Aside0 (w21.heap[gb124]? = some (.cells #[.string (⟨#[]⟩ : ByteArray), .slice none 0 0, .slice none 0 0, .slice none 0 0, .int .i64 0, .int .i64 0] 57 (0, 0))) := ⟨h2_⟩
           have n3_ : Aside0 (w.heap.size ≤ gb124) := ⟨h3_⟩
           have n4_ : Aside0 (w.heap.size ≤ gb124) := ⟨h4_⟩
           have n5_ : Aside0 (gb109 ≠ gb124) := ⟨h5_⟩
           have n6_ : Aside0 (gb124 ≠ gb109) := ⟨h6_⟩
           have n7_ : Aside0 (Below w.heap.size w w21) := ⟨h7_⟩
           clear HO112
           clear BK109
           clear HB
           clear h0_ h1_ h2_ h3_ h4_ h5_ h6_ h7_
           have HO112 := n0_
           have BK109 := n1_
           have BK124 := n2_
           have GW124 := n3_
           have GE124 := n4_
           have NB109_124 := n5_
           have NB124_109 := n6_
           have HB := n7_
           clear n0_ n1_ n2_ n3_ n4_ n5_ n6_ n7_
           have hHeld : w21.cell? ad113 = some (.string (rdOf ByteArray.empty t110 0)) ∧ w21.cell? ⟨ad113.block, ad113.off + 3, none⟩ = some (.string (rdOf ByteArray.empty t110 3)) ∧ w21.cell? ⟨ad113.block, ad113.off + 4, none⟩ = some (.string (rdOf ByteArray.empty t110 4)) ∧ w21.cell? ⟨ad113.block, ad113.off + 5, none⟩ = some (.string (rdOf ByteArray.empty t110 5)) := hS_
           refine norm_ (a' := ?_) ?_ ?_
           rotate_left
           ·
            simp only [putAll, Act.put, List.setIfInBounds_toArray, List.set_cons_zero, List.set_cons_succ]
            rfl
           refine one_ (i := 8) (N := some 20) #[true, true, true, true, true, true, true, true, true, true, true, true, true, true, true, true, true, false, true, false] rfl rfl (one_of HT_.out (by kernel_rfl)) (by decide) (fun K hK => ?_)
           refine Kd.R_lit_step k73 _ 73 ?hg (N := 20) ?hd (xs := ([(⟨t115, t116⟩ : S73)] : List (S73))) (inner := [.string t115, .string t116]) (ok := fun _ => True) (okp := fun _ => True) ?hr ?hp (fun _ hk => hk) trivial (Below.refl _ _) (Nat.le_refl _) (by simp) ?_; (case hd => rfl); (case hg => rfl); (case hr => first | (go_simp; done) | (go_simp; rfl)); (case hp => exact (Reps.c2 (show Kd.M k73 _ _ _ (⟨t115, t116⟩ : S73) [.string t115, .string t116] from (k73_mkM _ _ _ (⟨t115, t116⟩ : S73) )) (Reps.none _ _)))
           intro v118 w22 ho23 hb hg_ hnew_
           have HS0_ := (hb.cell (World.block_lt_of_cell? _ _ (hHeld.1))).trans (hHeld.1)
           have HS1_ := (hb.cell (World.block_lt_of_cell? _ _ (hHeld.2.1))).trans (hHeld.2.1)
           have HS2_ := (hb.cell (World.block_lt_of_cell? _ _ (hHeld.2.2.1))).trans (hHeld.2.2.1)
           have HS3_ := (hb.cell (World.block_lt_of_cell? _ _ (hHeld.2.2.2))).trans (hHeld.2.2.2)
           clear hg_ hnew_
           (first | rw [← Ny117.out] at ho23 | (simp only [Int.reduceToNat] at ho23; rw [← Ny117.out] at ho23))
           have n0_ := Aside0.mk (Kd.R_below (by (with_reducible repeat (first | apply Kd.R_alloc | apply Kd.R_drewN | apply Kd.R_drew)); exact HO112.out) hb)
           have n1_ := Aside0.mk (Kd.R_lower ho23 (below_size (by repeat (first | (with_reducible first | exact HB.out | apply below_alloc | apply pw_below_drewN | apply below_drew1 | refine below_set ?_ GE109.out | refine below_set ?_ GE124.out) | exact HB.out))))
           have n2_ := Aside0.mk (blk_below (g := gb109) (o := .cells #[.string (⟨#[]⟩ : ByteArray), .slice none 0 0, .slice none 0 0, .slice none 0 0, .int .i64 0, .int .i64 0] 57 (0, 0)) (by (with_reducible repeat (first | refine blk_drewN ?_ _ | refine blk_drew ?_ | refine blk_alloc ?_ _)); exact BK109.out) hb)
           have n3_ := Aside0.mk (blk_below (g := gb124) (o := .cells #[.string (⟨#[]⟩ : ByteArray), .slice none 0 0, .slice none 0 0, .slice none 0 0, .int .i64 0, .int .i64 0] 57 (0, 0)) (by (with_reducible repeat (first | refine blk_drewN ?_ _ | refine blk_drew ?_ | refine blk_alloc ?_ _)); exact BK124.out) hb)
           have n4_ := Aside0.mk (below_step (by repeat (first | (with_reducible first | exact HB.out | apply below_alloc | apply pw_below_drewN | apply below_drew1 | refine below_set ?_ GE109.out | refine below_set ?_ GE124.out) | exact HB.out)) hb)
           clear HO112
           clear BK109
           clear BK124
           clear HB
           have HO112 := n0_
           have HO119 := n1_
           have BK109 := n2_
           have BK124 := n3_
           have HB := n4_
           clear n0_ n1_ n2_ n3_ n4_
           clear hb ho23
           obtain ⟨Ao24, co24, eo24⟩ := Kd.R_slice HO119.out
           (first | subst eo24 | (injection eo24 with f1_ f2_ f3_; have f4_ := f1_.symm; have f5_ := f3_.symm; clear f1_ f2_ f3_; subst f4_; subst f5_))
           refine hK.out _ _ ⟨HS0_, HS1_, HS2_, HS3_⟩ (fun hHeld => ?_)
           clear hK K
           refine norm_ (a' := ?_) ?_ ?_
           rotate_left
           ·
            show Act.put _ (some 20) _ = _
            simp only [Act.put, List.setIfInBounds_toArray, List.set_cons_zero, List.set_cons_succ, i64_w, i32_w]
            rfl
           refine pure_ (i := 17) (N := some 29) (v := ?_) (a' := ?_) #[true, true, true, true, true, true, true, true, true, true, true, true, true, true, true, true, true, true, true, false] rfl rfl (any_of HT_.out (by kernel_rfl)) (fun _ _ _ h => h) (Or.inl ⟨by rfl, ?_⟩) ?_ ?_
           rotate_left
           ·
            intro w'
            go_simp
            with_reducible rfl
           rotate_left
           ·
            simp only [Act.put, List.setIfInBounds_toArray, List.set_cons_zero, List.set_cons_succ, i64_w, i32_w]
            rfl
           exact norm_ (by first | (simp only [putAll, Act.put, List.setIfInBounds_toArray, List.set_cons_zero, List.set_cons_succ]; done) | (simp only [putAll, Act.put, List.setIfInBounds_toArray, List.set_cons_zero, List.set_cons_succ]; rfl)) (hJ7_8_12_16_18 (.slice Ao24 y117.length co24, gb124) _ ⟨hHeld, (by (with_reducible repeat (first | apply Kd.R_alloc | apply Kd.R_drewN | apply Kd.R_drew)); exact HO112.out), (by (with_reducible repeat (first | apply Kd.R_alloc | apply Kd.R_drewN | apply Kd.R_drew)); exact HO119.out), (by (with_reducible repeat (first | refine blk_drewN ?_ _ | refine blk_drew ?_ | refine blk_alloc ?_ _)); exact BK109.out), (by (with_reducible repeat (first | refine blk_drewN ?_ _ | refine blk_drew ?_ | refine blk_alloc ?_ _)); exact BK124.out), GW124.out, GE124.out, NB109_124.out, NB124_109.out, (by repeat (first | (with_reducible first | exact HB.out | apply below_alloc | apply pw_below_drewN | apply below_drew1 | refine below_set ?_ GE109.out | refine below_set ?_ GE124.out) | exact HB.out))⟩)
         ·
          skip
          rintro ⟨v118, gb124⟩ w22 ⟨hS_, h0_, h1_, h2_, h3_, h4_, h5_, h6_, h7_, h8_⟩
          have n0_ : Aside0 (Kd.R Kd.string 9 w22 w.heap.size (fun _ => True) (.slice (some ad113) t110.length co16) t110) := ⟨h0_⟩
          have n1_ : Aside0 (Kd.R k73 73 w22 w.heap.size (fun _ => True) v118 y117) := ⟨h1_⟩
          have n2_ : Aside0 (w22.heap[gb109]? = some (.cells #[.string (⟨#[]⟩ : ByteArray), .slice none 0 0, .slice none 0 0, .slice none 0 0, .int .i64 0, .int .i64 0] 57 (0, 0))) := ⟨h2_⟩
          have n3_ : Aside0 (w22.heap[gb124]? = some (.cells #[.string (⟨#[]⟩ : ByteArray), .slice none 0 0, .slice none 0 0, .slice none 0 0, .int .i64 0, .int .i64 0] 57 (0, 0))) := ⟨h3_⟩
          have n4_ : Aside0 (w.heap.size ≤ gb124) := ⟨h4_⟩
          have n5_ : Aside0 (w.heap.size ≤ gb124) := ⟨h5_⟩
          have n6_ : Aside0 (gb109 ≠ gb124) := ⟨h6_⟩
          have n7_ : Aside0 (gb124 ≠ gb109) := ⟨h7_⟩
          have n8_ : Aside0 (Below w.heap.size w w22) := ⟨h8_⟩
          clear HO112
          clear BK109
          clear HB
          clear h0_ h1_ h2_ h3_ h4_ h5_ h6_ h7_ h8_
          have HO112 := n0_
          have HO119 := n1_
          have BK109 := n2_
          have BK124 := n3_
          have GW124 := n4_
          have GE124 := n5_
          have NB109_124 := n6_
          have NB124_109 := n7_
          have HB := n8_
          clear n0_ n1_ n2_ n3_ n4_ n5_ n6_ n7_ n8_
          have hHeld : w22.cell? ad113 = some (.string (rdOf ByteArray.empty t110 0)) ∧ w22.cell? ⟨ad113.block, ad113.off + 3, none⟩ = some (.string (rdOf ByteArray.empty t110 3)) ∧ w22.cell? ⟨ad113.block, ad113.off + 4, none⟩ = some (.string (rdOf ByteArray.empty t110 4)) ∧ w22.cell? ⟨ad113.block, ad113.off + 5, none⟩ = some (.string (rdOf ByteArray.empty t110 5)) := hS_
          refine norm_ (a' := ?_) ?_ ?_
          rotate_left
          ·
           simp only [putAll, Act.put, List.setIfInBounds_toArray, List.set_cons_zero, List.set_cons_succ]
           rfl
          refine one_ (i := 16) (N := some 28) #[true, true, true, true, true, true, true, true, true, true, true, true, true, true, true, true, true, false, true, false] rfl rfl (one_of HT_.out (by kernel_rfl)) (by decide) (fun K hK => ?_)
          refine goes_ Tryd.func43 (by kernel_rfl) rfl #[.string (rdOf ByteArray.empty t110 5)] (by rfl) rfl rfl aeq ?_
          with_reducible refine (block_number.calls (rdOf ByteArray.empty t110 5) t123 _ A10.out).mono ?_
          rintro e w23 ⟨rfl, hb⟩
          have HS0_ := (hb.cell (World.block_lt_of_cell? _ _ (hHeld.1))).trans (hHeld.1)
          have HS1_ := (hb.cell (World.block_lt_of_cell? _ _ (hHeld.2.1))).trans (hHeld.2.1)
          have HS2_ := (hb.cell (World.block_lt_of_cell? _ _ (hHeld.2.2.1))).trans (hHeld.2.2.1)
          have HS3_ := (hb.cell (World.block_lt_of_cell? _ _ (hHeld.2.2.2))).trans (hHeld.2.2.2)
          refine ⟨_, rfl, ?_⟩
          have n0_ := Aside0.mk (Kd.R_below (by (with_reducible repeat (first | apply Kd.R_alloc | apply Kd.R_drewN | apply Kd.R_drew)); exact HO112.out) hb)
          have n1_ := Aside0.mk (Kd.R_below (by (with_reducible repeat (first | apply Kd.R_alloc | apply Kd.R_drewN | apply Kd.R_drew)); exact HO119.out) hb)
          have n2_ := Aside0.mk (blk_below (g := gb109) (o := .cells #[.string (⟨#[]⟩ : ByteArray), .slice none 0 0, .slice none 0 0, .slice none 0 0, .int .i64 0, .int .i64 0] 57 (0, 0)) (by (with_reducible repeat (first | refine blk_drewN ?_ _ | refine blk_drew ?_ | refine blk_alloc ?_ _)); exact BK109.out) hb)
          have n3_ := Aside0.mk (blk_below (g := gb124) (o := .cells #[.string (⟨#[]⟩ : ByteArray), .slice none 0 0, .slice none 0 0, .slice none 0 0, .int .i64 0, .int .i64 0] 57 (0, 0)) (by (with_reducible repeat (first | refine blk_drewN ?_ _ | refine blk_drew ?_ | refine blk_alloc ?_ _)); exact BK124.out) hb)
          have n4_ := Aside0.mk (below_step (by repeat (first | (with_reducible first | exact HB.out | apply below_alloc | apply pw_below_drewN | apply below_drew1 | refine below_set ?_ GE109.out | refine below_set ?_ GE124.out) | exact HB.out)) hb)
          clear HO112
          clear HO119
          clear BK109
          clear BK124
          clear HB
          have HO112 := n0_
          have HO119 := n1_
          have BK109 := n2_
          have BK124 := n3_
          have HB := n4_
          clear n0_ n1_ n2_ n3_ n4_
          (try clear hb)
          (try clear hb2)
          (try clear hk)
          (try clear hi)
          obtain ⟨Ao24, co24, eo24⟩ := Kd.R_slice HO119.out
          (first | subst eo24 | (injection eo24 with f1_ f2_ f3_; have f4_ := f1_.symm; have f5_ := f3_.symm; clear f1_ f2_ f3_; subst f4_; subst f5_))
          refine hK.out _ _ ⟨HS0_, HS1_, HS2_, HS3_⟩ (fun hHeld => ?_)
          clear hK K
          refine norm_ (a' := ?_) ?_ ?_
          rotate_left
          ·
           show Act.put _ (some 28) _ = _
           simp only [Act.put, List.setIfInBounds_toArray, List.set_cons_zero, List.set_cons_succ, i64_w, i32_w]
           rfl
          refine pure_ (i := 17) (N := some 29) (v := ?_) (a' := ?_) #[true, true, true, true, true, true, true, true, true, true, true, true, true, true, true, true, true, true, true, false] rfl rfl (any_of HT_.out (by kernel_rfl)) (fun _ _ _ h => h) (Or.inl ⟨by rfl, ?_⟩) ?_ ?_
          rotate_left
          ·
           intro w'
           go_simp
           with_reducible rfl
          rotate_left
          ·
           simp only [Act.put, List.setIfInBounds_toArray, List.set_cons_zero, List.set_cons_succ, i64_w, i32_w]
           rfl
          exact norm_ (by first | (simp only [putAll, Act.put, List.setIfInBounds_toArray, List.set_cons_zero, List.set_cons_succ]; done) | (simp only [putAll, Act.put, List.setIfInBounds_toArray, List.set_cons_zero, List.set_cons_succ]; rfl)) (hJ7_8_12_16_18 (.slice Ao24 y117.length co24, gb124) _ ⟨hHeld, (by (with_reducible repeat (first | apply Kd.R_alloc | apply Kd.R_drewN | apply Kd.R_drew)); exact HO112.out), (by (with_reducible repeat (first | apply Kd.R_alloc | apply Kd.R_drewN | apply Kd.R_drew)); exact HO119.out), (by (with_reducible repeat (first | refine blk_drewN ?_ _ | refine blk_drew ?_ | refine blk_alloc ?_ _)); exact BK109.out), (by (with_reducible repeat (first | refine blk_drewN ?_ _ | refine blk_drew ?_ | refine blk_alloc ?_ _)); exact BK124.out), GW124.out, GE124.out, NB109_124.out, NB124_109.out, (by repeat (first | (with_reducible first | exact HB.out | apply below_alloc | apply pw_below_drewN | apply below_drew1 | refine below_set ?_ GE109.out | refine below_set ?_ GE124.out) | exact HB.out))⟩)
        ·
         skip
         rintro v118 w23 ⟨hS_, h0_, h1_, h2_, h3_⟩
         have n0_ : Aside0 (Kd.R Kd.string 9 w23 w.heap.size (fun _ => True) (.slice (some ad113) t110.length co16) t110) := ⟨h0_⟩
         have n1_ : Aside0 (Kd.R k73 73 w23 w.heap.size (fun _ => True) v118 y117) := ⟨h1_⟩
         have n2_ : Aside0 (w23.heap[gb109]? = some (.cells #[.string (⟨#[]⟩ : ByteArray), .slice none 0 0, .slice none 0 0, .slice none 0 0, .int .i64 0, .int .i64 0] 57 (0, 0))) := ⟨h2_⟩
         have n3_ : Aside0 (Below w.heap.size w w23) := ⟨h3_⟩
         clear HO112
         clear BK109
         clear HB
         clear h0_ h1_ h2_ h3_
         have HO112 := n0_
         have HO119 := n1_
         have BK109 := n2_
         have HB := n3_
         clear n0_ n1_ n2_ n3_
         have hHeld : w23.cell? ad113 = some (.string (rdOf ByteArray.empty t110 0)) ∧ w23.cell? ⟨ad113.block, ad113.off + 3, none⟩ = some (.string (rdOf ByteArray.empty t110 3)) ∧ w23.cell? ⟨ad113.block, ad113.off + 4, none⟩ = some (.string (rdOf ByteArray.empty t110 4)) ∧ w23.cell? ⟨ad113.block, ad113.off + 5, none⟩ = some (.string (rdOf ByteArray.empty t110 5)) := hS_
         obtain ⟨Ao24, co24, eo24⟩ := Kd.R_slice HO119.out
         (first | subst eo24 | (injection eo24 with f1_ f2_ f3_; have f4_ := f1_.symm; have f5_ := f3_.symm; clear f1_ f2_ f3_; subst f4_; subst f5_))
         refine norm_ (a' := ?_) ?_ ?_
         rotate_left
         ·
          simp only [putAll, Act.put, List.setIfInBounds_toArray, List.set_cons_zero, List.set_cons_succ]
          rfl
         refine one_ (i := 18) (N := some 4) #[true, true, true, true, true, true, true, true, true, true, true, true, true, true, true, true, true, true, true, false] rfl rfl (one_of HT_.out (by kernel_rfl)) (by decide) (fun K hK => ?_)
         refine box_step ?hg (N := 4) ?hd (cs := #[.string (⟨#[]⟩ : ByteArray), .slice none 0 0, .slice none 0 0, .slice none 0 0, .int .i64 0, .int .i64 0]) (t := 57) ?hr ?_; (case hd => rfl); (case hg => rfl); (case hr => first | (go_simp; done) | (go_simp; rfl))
         intro gb124 hg w25 hbox hb
         have HS0_ := (hb.cell (World.block_lt_of_cell? _ _ (hHeld.1))).trans (hHeld.1)
         have HS1_ := (hb.cell (World.block_lt_of_cell? _ _ (hHeld.2.1))).trans (hHeld.2.1)
         have HS2_ := (hb.cell (World.block_lt_of_cell? _ _ (hHeld.2.2.1))).trans (hHeld.2.2.1)
         have HS3_ := (hb.cell (World.block_lt_of_cell? _ _ (hHeld.2.2.2))).trans (hHeld.2.2.2)
         have n0_ := Aside0.mk (Kd.R_below (by (with_reducible repeat (first | apply Kd.R_alloc | apply Kd.R_drewN | apply Kd.R_drew)); exact HO112.out) hb)
         have n1_ := Aside0.mk (Kd.R_below (by (with_reducible repeat (first | apply Kd.R_alloc | apply Kd.R_drewN | apply Kd.R_drew)); exact HO119.out) hb)
         have n2_ := Aside0.mk (blk_below (g := gb109) (o := .cells #[.string (⟨#[]⟩ : ByteArray), .slice none 0 0, .slice none 0 0, .slice none 0 0, .int .i64 0, .int .i64 0] 57 (0, 0)) (by (with_reducible repeat (first | refine blk_drewN ?_ _ | refine blk_drew ?_ | refine blk_alloc ?_ _)); exact BK109.out) hb)
         have n3_ := Aside0.mk (below_step (by repeat (first | (with_reducible first | exact HB.out | apply below_alloc | apply pw_below_drewN | apply below_drew1 | refine below_set ?_ GE109.out) | exact HB.out)) hb)
         have n4_ := Aside0.mk (hbox)
         have n5_ := Aside0.mk ((by rw [hg]; exact (below_size (by repeat (first | (with_reducible first | exact HB.out | apply below_alloc | apply pw_below_drewN | apply below_drew1 | refine below_set ?_ GE109.out) | exact HB.out))) : w.heap.size ≤ gb124))
         have n6_ := Aside0.mk ((by rw [hg]; exact (below_size (by repeat (first | (with_reducible first | exact HB.out | apply below_alloc | apply pw_below_drewN | apply below_drew1 | refine below_set ?_ GE109.out) | exact HB.out))) : w.heap.size ≤ gb124))
         have n7_ := Aside0.mk ((by rw [hg]; exact Nat.ne_of_lt (blk_lt (g := gb109) (o := .cells #[.string (⟨#[]⟩ : ByteArray), .slice none 0 0, .slice none 0 0, .slice none 0 0, .int .i64 0, .int .i64 0] 57 (0, 0)) (by (with_reducible repeat (first | refine blk_drewN ?_ _ | refine blk_drew ?_ | refine blk_alloc ?_ _)); exact BK109.out)) : gb109 ≠ gb124))
         have n8_ := Aside0.mk ((by rw [hg]; exact Nat.ne_of_gt (blk_lt (g := gb109) (o := .cells #[.string (⟨#[]⟩ : ByteArray), .slice none 0 0, .slice none 0 0, .slice none 0 0, .int .i64 0, .int .i64 0] 57 (0, 0)) (by (with_reducible repeat (first | refine blk_drewN ?_ _ | refine blk_drew ?_ | refine blk_alloc ?_ _)); exact BK109.out)) : gb124 ≠ gb109))
         clear HO112
         clear HO119
         clear BK109
         clear HB
         have HO112 := n0_
         have HO119 := n1_
         have BK109 := n2_
         have HB := n3_
         have BK124 := n4_
         have GW124 := n5_
         have GE124 := n6_
         have NB109_124 := n7_
         have NB124_109 := n8_
         clear n0_ n1_ n2_ n3_ n4_ n5_ n6_ n7_ n8_
         clear hb hbox hg
         refine hK.out _ _ ⟨HS0_, HS1_, HS2_, HS3_⟩ (fun hHeld => ?_)
         clear hK K
         refine norm_ (a' := ?_) ?_ ?_
         rotate_left
         ·
          show Act.put _ (some 4) _ = _
          simp only [Act.put, List.setIfInBounds_toArray, List.set_cons_zero, List.set_cons_succ, i64_w, i32_w]
          rfl
         exact norm_ (by first | (simp only [putAll, Act.put, List.setIfInBounds_toArray, List.set_cons_zero, List.set_cons_succ]; done) | (simp only [putAll, Act.put, List.setIfInBounds_toArray, List.set_cons_zero, List.set_cons_succ]; rfl)) (hJ7_8_12_16_18 (.slice Ao24 y117.length co24, gb124) _ ⟨hHeld, (by (with_reducible repeat (first | apply Kd.R_alloc | apply Kd.R_drewN | apply Kd.R_drew)); exact HO112.out), (by (with_reducible repeat (first | apply Kd.R_alloc | apply Kd.R_drewN | apply Kd.R_drew)); exact HO119.out), (by (with_reducible repeat (first | refine blk_drewN ?_ _ | refine blk_drew ?_ | refine blk_alloc ?_ _)); exact BK109.out), (by (with_reducible repeat (first | refine blk_drewN ?_ _ | refine blk_drew ?_ | refine blk_alloc ?_ _)); exact BK124.out), GW124.out, GE124.out, NB109_124.out, NB124_109.out, (by repeat (first | (with_reducible first | exact HB.out | apply below_alloc | apply pw_below_drewN | apply below_drew1 | refine below_set ?_ GE109.out | refine below_set ?_ GE124.out) | exact HB.out))⟩)
       rintro ⟨v118, gb124⟩ w24 ⟨hS_, h0_, h1_, h2_, h3_, h4_, h5_, h6_, h7_, h8_⟩
       have n0_ : Aside0 (Kd.R Kd.string 9 w24 w.heap.size (fun _ => True) (.slice (some ad113) t110.length co16) t110) := ⟨h0_⟩
       have n1_ : Aside0 (Kd.R k73 73 w24 w.heap.size (fun _ => True) v118 y117) := ⟨h1_⟩
       have n2_ : Aside0 (w24.heap[gb109]? = some (.cells #[.string (⟨#[]⟩ : ByteArray), .slice none 0 0, .slice none 0 0, .slice none 0 0, .int .i64 0, .int .i64 0] 57 (0, 0))) := ⟨h2_⟩
       have n3_ : Aside0 (w24.heap[gb124]? = some (.cells #[.string (⟨#[]⟩ : ByteArray), .slice none 0 0, .slice none 0 0, .slice none 0 0, .int .i64 0, .int .i64 0] 57 (0, 0))) := ⟨h3_⟩
       have n4_ : Aside0 (w.heap.size ≤ gb124) := ⟨h4_⟩
       have n5_ : Aside0 (w.heap.size ≤ gb124) := ⟨h5_⟩
       have n6_ : Aside0 (gb109 ≠ gb124) := ⟨h6_⟩
       have n7_ : Aside0 (gb124 ≠ gb109) := ⟨h7_⟩
       have n8_ : Aside0 (Below w.heap.size w w24) := ⟨h8_⟩
       clear HO112
       clear BK109
       clear HB
       clear h0_ h1_ h2_ h3_ h4_ h5_ h6_ h7_ h8_
       have HO112 := n0_
       have HO119 := n1_
       have BK109 := n2_
       have BK124 := n3_
       have GW124 := n4_
       have GE124 := n5_
       have NB109_124 := n6_
       have NB124_109 := n7_
       have HB := n8_
       clear n0_ n1_ n2_ n3_ n4_ n5_ n6_ n7_ n8_
       have hHeld : w24.cell? ad113 = some (.string (rdOf ByteArray.empty t110 0)) ∧ w24.cell? ⟨ad113.block, ad113.off + 3, none⟩ = some (.string (rdOf ByteArray.empty t110 3)) ∧ w24.cell? ⟨ad113.block, ad113.off + 4, none⟩ = some (.string (rdOf ByteArray.empty t110 4)) ∧ w24.cell? ⟨ad113.block, ad113.off + 5, none⟩ = some (.string (rdOf ByteArray.empty t110 5)) := hS_
       obtain ⟨Ao25, co25, eo25⟩ := Kd.R_slice HO119.out
       (first | subst eo25 | (injection eo25 with f1_ f2_ f3_; have f4_ := f1_.symm; have f5_ := f3_.symm; clear f1_ f2_ f3_; subst f4_; subst f5_))
       refine norm_ (a' := ?_) ?_ ?_
       rotate_left
       ·
        simp only [putAll, Act.put, List.setIfInBounds_toArray, List.set_cons_zero, List.set_cons_succ]
        rfl
       refine one_ (i := 19) (N := none) #[true, true, true, true, true, true, true, true, true, true, true, true, true, true, true, true, true, true, true, true] rfl rfl (one_of HT_.out (by kernel_rfl)) (by decide) (fun K hK => ?_)
       have hs26 : w24.cell? ⟨gb124, 0, none⟩ = some (.string (⟨#[]⟩ : ByteArray)) := (blk_cell BK124.out 0).trans rfl
       have hfs26 := blk_frozen BK124.out 0
       have hns26_0 := NB109_124.out
       have hms26_0 := NB124_109.out
       have hs27 : w24.cell? ⟨gb124, 1, none⟩ = some (.slice none 0 0) := (blk_cell BK124.out 1).trans rfl
       have hfs27 := blk_frozen BK124.out 1
       have hns27_0 := NB109_124.out
       have hms27_0 := NB124_109.out
       have hs28 : w24.cell? ⟨gb124, 2, none⟩ = some (.slice none 0 0) := (blk_cell BK124.out 2).trans rfl
       have hfs28 := blk_frozen BK124.out 2
       have hns28_0 := NB109_124.out
       have hms28_0 := NB124_109.out
       have hs29 : w24.cell? ⟨gb124, 3, none⟩ = some (.slice none 0 0) := (blk_cell BK124.out 3).trans rfl
       have hfs29 := blk_frozen BK124.out 3
       have hns29_0 := NB109_124.out
       have hms29_0 := NB124_109.out
       have hs30 : w24.cell? ⟨gb124, 4, none⟩ = some (.int .i64 0) := (blk_cell BK124.out 4).trans rfl
       have hfs30 := blk_frozen BK124.out 4
       have hns30_0 := NB109_124.out
       have hms30_0 := NB124_109.out
       have hs31 : w24.cell? ⟨gb124, 5, none⟩ = some (.int .i64 0) := (blk_cell BK124.out 5).trans rfl
       have hfs31 := blk_frozen BK124.out 5
       have hns31_0 := NB109_124.out
       have hms31_0 := NB124_109.out
       refine skip_ (w1 := ?_) (by rfl) rfl ?_ ?_
       rotate_left
       ·
        go_simp
        rfl
       refine hK.out _ _ ⟨((cell_far (p := ⟨gb124, _, none⟩) (by first | exact Kd.own_blk (Kd.R_ne HO112.out BK124.out (by decide)) | (rw [add_block]; exact Kd.own_blk (Kd.R_ne HO112.out BK124.out (by decide))) | (show (Addr.add _ _).block ≠ _; rw [add_block]; exact Kd.own_blk (Kd.R_ne HO112.out BK124.out (by decide))) | (dsimp only; exact Kd.own_blk (Kd.R_ne HO112.out BK124.out (by decide)))) _).trans (((cell_far (p := ⟨gb124, _, none⟩) (by first | exact Kd.own_blk (Kd.R_ne HO112.out BK124.out (by decide)) | (rw [add_block]; exact Kd.own_blk (Kd.R_ne HO112.out BK124.out (by decide))) | (show (Addr.add _ _).block ≠ _; rw [add_block]; exact Kd.own_blk (Kd.R_ne HO112.out BK124.out (by decide))) | (dsimp only; exact Kd.own_blk (Kd.R_ne HO112.out BK124.out (by decide)))) _).trans (((cell_far (p := ⟨gb124, _, none⟩) (by first | exact Kd.own_blk (Kd.R_ne HO112.out BK124.out (by decide)) | (rw [add_block]; exact Kd.own_blk (Kd.R_ne HO112.out BK124.out (by decide))) | (show (Addr.add _ _).block ≠ _; rw [add_block]; exact Kd.own_blk (Kd.R_ne HO112.out BK124.out (by decide))) | (dsimp only; exact Kd.own_blk (Kd.R_ne HO112.out BK124.out (by decide)))) _).trans (((cell_far (p := ⟨gb124, _, none⟩) (by first | exact Kd.own_blk (Kd.R_ne HO112.out BK124.out (by decide)) | (rw [add_block]; exact Kd.own_blk (Kd.R_ne HO112.out BK124.out (by decide))) | (show (Addr.add _ _).block ≠ _; rw [add_block]; exact Kd.own_blk (Kd.R_ne HO112.out BK124.out (by decide))) | (dsimp only; exact Kd.own_blk (Kd.R_ne HO112.out BK124.out (by decide)))) _).trans (((cell_far (p := ⟨gb124, _, none⟩) (by first | exact Kd.own_blk (Kd.R_ne HO112.out BK124.out (by decide)) | (rw [add_block]; exact Kd.own_blk (Kd.R_ne HO112.out BK124.out (by decide))) | (show (Addr.add _ _).block ≠ _; rw [add_block]; exact Kd.own_blk (Kd.R_ne HO112.out BK124.out (by decide))) | (dsimp only; exact Kd.own_blk (Kd.R_ne HO112.out BK124.out (by decide)))) _).trans (((cell_far (p := ⟨gb124, _, none⟩) (by first | exact Kd.own_blk (Kd.R_ne HO112.out BK124.out (by decide)) | (rw [add_block]; exact Kd.own_blk (Kd.R_ne HO112.out BK124.out (by decide))) | (show (Addr.add _ _).block ≠ _; rw [add_block]; exact Kd.own_blk (Kd.R_ne HO112.out BK124.out (by decide))) | (dsimp only; exact Kd.own_blk (Kd.R_ne HO112.out BK124.out (by decide)))) _).trans (hHeld.1)))))))))))), ((cell_far (p := ⟨gb124, _, none⟩) (by first | exact Kd.own_blk (Kd.R_ne HO112.out BK124.out (by decide)) | (rw [add_block]; exact Kd.own_blk (Kd.R_ne HO112.out BK124.out (by decide))) | (show (Addr.add _ _).block ≠ _; rw [add_block]; exact Kd.own_blk (Kd.R_ne HO112.out BK124.out (by decide))) | (dsimp only; exact Kd.own_blk (Kd.R_ne HO112.out BK124.out (by decide)))) _).trans (((cell_far (p := ⟨gb124, _, none⟩) (by first | exact Kd.own_blk (Kd.R_ne HO112.out BK124.out (by decide)) | (rw [add_block]; exact Kd.own_blk (Kd.R_ne HO112.out BK124.out (by decide))) | (show (Addr.add _ _).block ≠ _; rw [add_block]; exact Kd.own_blk (Kd.R_ne HO112.out BK124.out (by decide))) | (dsimp only; exact Kd.own_blk (Kd.R_ne HO112.out BK124.out (by decide)))) _).trans (((cell_far (p := ⟨gb124, _, none⟩) (by first | exact Kd.own_blk (Kd.R_ne HO112.out BK124.out (by decide)) | (rw [add_block]; exact Kd.own_blk (Kd.R_ne HO112.out BK124.out (by decide))) | (show (Addr.add _ _).block ≠ _; rw [add_block]; exact Kd.own_blk (Kd.R_ne HO112.out BK124.out (by decide))) | (dsimp only; exact Kd.own_blk (Kd.R_ne HO112.out BK124.out (by decide)))) _).trans (((cell_far (p := ⟨gb124, _, none⟩) (by first | exact Kd.own_blk (Kd.R_ne HO112.out BK124.out (by decide)) | (rw [add_block]; exact Kd.own_blk (Kd.R_ne HO112.out BK124.out (by decide))) | (show (Addr.add _ _).block ≠ _; rw [add_block]; exact Kd.own_blk (Kd.R_ne HO112.out BK124.out (by decide))) | (dsimp only; exact Kd.own_blk (Kd.R_ne HO112.out BK124.out (by decide)))) _).trans (((cell_far (p := ⟨gb124, _, none⟩) (by first | exact Kd.own_blk (Kd.R_ne HO112.out BK124.out (by decide)) | (rw [add_block]; exact Kd.own_blk (Kd.R_ne HO112.out BK124.out (by decide))) | (show (Addr.add _ _).block ≠ _; rw [add_block]; exact Kd.own_blk (Kd.R_ne HO112.out BK124.out (by decide))) | (dsimp only; exact Kd.own_blk (Kd.R_ne HO112.out BK124.out (by decide)))) _).trans (((cell_far (p := ⟨gb124, _, none⟩) (by first | exact Kd.own_blk (Kd.R_ne HO112.out BK124.out (by decide)) | (rw [add_block]; exact Kd.own_blk (Kd.R_ne HO112.out BK124.out (by decide))) | (show (Addr.add _ _).block ≠ _; rw [add_block]; exact Kd.own_blk (Kd.R_ne HO112.out BK124.out (by decide))) | (dsimp only; exact Kd.own_blk (Kd.R_ne HO112.out BK124.out (by decide)))) _).trans (hHeld.2.1)))))))))))), ((cell_far (p := ⟨gb124, _, none⟩) (by first | exact Kd.own_blk (Kd.R_ne HO112.out BK124.out (by decide)) | (rw [add_block]; exact Kd.own_blk (Kd.R_ne HO112.out BK124.out (by decide))) | (show (Addr.add _ _).block ≠ _; rw [add_block]; exact Kd.own_blk (Kd.R_ne HO112.out BK124.out (by decide))) | (dsimp only; exact Kd.own_blk (Kd.R_ne HO112.out BK124.out (by decide)))) _).trans (((cell_far (p := ⟨gb124, _, none⟩) (by first | exact Kd.own_blk (Kd.R_ne HO112.out BK124.out (by decide)) | (rw [add_block]; exact Kd.own_blk (Kd.R_ne HO112.out BK124.out (by decide))) | (show (Addr.add _ _).block ≠ _; rw [add_block]; exact Kd.own_blk (Kd.R_ne HO112.out BK124.out (by decide))) | (dsimp only; exact Kd.own_blk (Kd.R_ne HO112.out BK124.out (by decide)))) _).trans (((cell_far (p := ⟨gb124, _, none⟩) (by first | exact Kd.own_blk (Kd.R_ne HO112.out BK124.out (by decide)) | (rw [add_block]; exact Kd.own_blk (Kd.R_ne HO112.out BK124.out (by decide))) | (show (Addr.add _ _).block ≠ _; rw [add_block]; exact Kd.own_blk (Kd.R_ne HO112.out BK124.out (by decide))) | (dsimp only; exact Kd.own_blk (Kd.R_ne HO112.out BK124.out (by decide)))) _).trans (((cell_far (p := ⟨gb124, _, none⟩) (by first | exact Kd.own_blk (Kd.R_ne HO112.out BK124.out (by decide)) | (rw [add_block]; exact Kd.own_blk (Kd.R_ne HO112.out BK124.out (by decide))) | (show (Addr.add _ _).block ≠ _; rw [add_block]; exact Kd.own_blk (Kd.R_ne HO112.out BK124.out (by decide))) | (dsimp only; exact Kd.own_blk (Kd.R_ne HO112.out BK124.out (by decide)))) _).trans (((cell_far (p := ⟨gb124, _, none⟩) (by first | exact Kd.own_blk (Kd.R_ne HO112.out BK124.out (by decide)) | (rw [add_block]; exact Kd.own_blk (Kd.R_ne HO112.out BK124.out (by decide))) | (show (Addr.add _ _).block ≠ _; rw [add_block]; exact Kd.own_blk (Kd.R_ne HO112.out BK124.out (by decide))) | (dsimp only; exact Kd.own_blk (Kd.R_ne HO112.out BK124.out (by decide)))) _).trans (((cell_far (p := ⟨gb124, _, none⟩) (by first | exact Kd.own_blk (Kd.R_ne HO112.out BK124.out (by decide)) | (rw [add_block]; exact Kd.own_blk (Kd.R_ne HO112.out BK124.out (by decide))) | (show (Addr.add _ _).block ≠ _; rw [add_block]; exact Kd.own_blk (Kd.R_ne HO112.out BK124.out (by decide))) | (dsimp only; exact Kd.own_blk (Kd.R_ne HO112.out BK124.out (by decide)))) _).trans (hHeld.2.2.1)))))))))))), ((cell_far (p := ⟨gb124, _, none⟩) (by first | exact Kd.own_blk (Kd.R_ne HO112.out BK124.out (by decide)) | (rw [add_block]; exact Kd.own_blk (Kd.R_ne HO112.out BK124.out (by decide))) | (show (Addr.add _ _).block ≠ _; rw [add_block]; exact Kd.own_blk (Kd.R_ne HO112.out BK124.out (by decide))) | (dsimp only; exact Kd.own_blk (Kd.R_ne HO112.out BK124.out (by decide)))) _).trans (((cell_far (p := ⟨gb124, _, none⟩) (by first | exact Kd.own_blk (Kd.R_ne HO112.out BK124.out (by decide)) | (rw [add_block]; exact Kd.own_blk (Kd.R_ne HO112.out BK124.out (by decide))) | (show (Addr.add _ _).block ≠ _; rw [add_block]; exact Kd.own_blk (Kd.R_ne HO112.out BK124.out (by decide))) | (dsimp only; exact Kd.own_blk (Kd.R_ne HO112.out BK124.out (by decide)))) _).trans (((cell_far (p := ⟨gb124, _, none⟩) (by first | exact Kd.own_blk (Kd.R_ne HO112.out BK124.out (by decide)) | (rw [add_block]; exact Kd.own_blk (Kd.R_ne HO112.out BK124.out (by decide))) | (show (Addr.add _ _).block ≠ _; rw [add_block]; exact Kd.own_blk (Kd.R_ne HO112.out BK124.out (by decide))) | (dsimp only; exact Kd.own_blk (Kd.R_ne HO112.out BK124.out (by decide)))) _).trans (((cell_far (p := ⟨gb124, _, none⟩) (by first | exact Kd.own_blk (Kd.R_ne HO112.out BK124.out (by decide)) | (rw [add_block]; exact Kd.own_blk (Kd.R_ne HO112.out BK124.out (by decide))) | (show (Addr.add _ _).block ≠ _; rw [add_block]; exact Kd.own_blk (Kd.R_ne HO112.out BK124.out (by decide))) | (dsimp only; exact Kd.own_blk (Kd.R_ne HO112.out BK124.out (by decide)))) _).trans (((cell_far (p := ⟨gb124, _, none⟩) (by first | exact Kd.own_blk (Kd.R_ne HO112.out BK124.out (by decide)) | (rw [add_block]; exact Kd.own_blk (Kd.R_ne HO112.out BK124.out (by decide))) | (show (Addr.add _ _).block ≠ _; rw [add_block]; exact Kd.own_blk (Kd.R_ne HO112.out BK124.out (by decide))) | (dsimp only; exact Kd.own_blk (Kd.R_ne HO112.out BK124.out (by decide)))) _).trans (((cell_far (p := ⟨gb124, _, none⟩) (by first | exact Kd.own_blk (Kd.R_ne HO112.out BK124.out (by decide)) | (rw [add_block]; exact Kd.own_blk (Kd.R_ne HO112.out BK124.out (by decide))) | (show (Addr.add _ _).block ≠ _; rw [add_block]; exact Kd.own_blk (Kd.R_ne HO112.out BK124.out (by decide))) | (dsimp only; exact Kd.own_blk (Kd.R_ne HO112.out BK124.out (by decide)))) _).trans (hHeld.2.2.2))))))))))))⟩ (fun hHeld => ?_)
       clear hK K
       refine done_ (done_of HT_.out (by kernel_rfl)) ?_
       have p125 : 0 ≤ (1 : Int) := (by omega)
       have q125 : 1 < (t110.length : Int) := ode
       obtain ⟨ad125, e125, hx125_0⟩ := Kd.at_string (Kd.R_reads' HO112.out).2.2 1 p125 q125
       obtain rfl : ad113 = ad125 := (by injection e125)
       (try simp only [show (1 : Int).toNat = 1 from rfl, Nat.reduceMul, Nat.reduceEqDiff, Go.Addr.add, ↓reduceIte] at hx125_0)
       have qi125 : (1 < t110.length) = True := eq_true (by omega)
       (try rw [show ((1 : Int)).toNat = 1 from rfl] at hx125_0)
       have hn125_0 : ad113.block ≠ gb124 := Kd.own_blk (Kd.R_ne HO112.out BK124.out (by decide))
       have hn125_1 : ad113.block ≠ gb124 := Kd.own_blk (Kd.R_ne HO112.out BK124.out (by decide))
       have hn125_2 : ad113.block ≠ gb124 := Kd.own_blk (Kd.R_ne HO112.out BK124.out (by decide))
       have hn125_3 : ad113.block ≠ gb124 := Kd.own_blk (Kd.R_ne HO112.out BK124.out (by decide))
       have hn125_4 : ad113.block ≠ gb124 := Kd.own_blk (Kd.R_ne HO112.out BK124.out (by decide))
       have hn125_5 : ad113.block ≠ gb124 := Kd.own_blk (Kd.R_ne HO112.out BK124.out (by decide))
       replace hx125_0 := (cell_far (p := ⟨gb124, 0, none⟩) (by first | (rw [add_block]; exact hn125_0) | (show (Addr.add _ _).block ≠ _; rw [add_block]; exact hn125_0) | exact hn125_0) (.string (rdOf ByteArray.empty t110 0))).trans hx125_0
       replace hx125_0 := (cell_far (p := ⟨gb124, 1, none⟩) (by first | (rw [add_block]; exact hn125_1) | (show (Addr.add _ _).block ≠ _; rw [add_block]; exact hn125_1) | exact hn125_1) (.slice none 0 0)).trans hx125_0
       replace hx125_0 := (cell_far (p := ⟨gb124, 2, none⟩) (by first | (rw [add_block]; exact hn125_2) | (show (Addr.add _ _).block ≠ _; rw [add_block]; exact hn125_2) | exact hn125_2) (.slice none 0 0)).trans hx125_0
       replace hx125_0 := (cell_far (p := ⟨gb124, 3, none⟩) (by first | (rw [add_block]; exact hn125_3) | (show (Addr.add _ _).block ≠ _; rw [add_block]; exact hn125_3) | exact hn125_3) (.slice Ao25 y117.length co25)).trans hx125_0
       replace hx125_0 := (cell_far (p := ⟨gb124, 4, none⟩) (by first | (rw [add_block]; exact hn125_4) | (show (Addr.add _ _).block ≠ _; rw [add_block]; exact hn125_4) | exact hn125_4) (.int .i64 t121)).trans hx125_0
       replace hx125_0 := (cell_far (p := ⟨gb124, 5, none⟩) (by first | (rw [add_block]; exact hn125_5) | (show (Addr.add _ _).block ≠ _; rw [add_block]; exact hn125_5) | exact hn125_5) (.int .i64 t123)).trans hx125_0
       clear hn125_0
       clear hn125_1
       clear hn125_2
       clear hn125_3
       clear hn125_4
       clear hn125_5
       replace p125 := eq_true p125
       replace q125 := eq_true q125
       try go_wp2_with (first | ((with_reducible refine gate_callee (f := 44) rfl ?_); refine goesL_ (some 33) rfl rfl Tryd.func44 (by kernel_rfl) rfl #[.string (rdOf ByteArray.empty t110 1)] rfl aeq ?_; (with_reducible refine (strings_Fields.calls (rdOf ByteArray.empty t110 1) t126 _ ?side1 A12.out).mono ?_); (case side1 => exact GW.below HG.out (by repeat (first | (with_reducible first | exact HB.out | apply below_alloc | apply pw_below_drewN | apply below_drew1 | refine below_set ?_ GE109.out | refine below_set ?_ GE124.out) | exact HB.out))); rintro e w32 ⟨v127, rfl, ho0, hb⟩; refine ⟨_, rfl, ?_⟩; have n0_ := Aside0.mk (Kd.R_elder' (by (with_reducible repeat (first | apply Kd.R_alloc | apply Kd.R_drewN | apply Kd.R_drew)); exact (Kd.R_mono (Kd.R_far (p := ⟨gb124, 5, none⟩) (Kd.R_far (p := ⟨gb124, 4, none⟩) (Kd.R_far (p := ⟨gb124, 3, none⟩) (Kd.R_far (p := ⟨gb124, 2, none⟩) (Kd.R_far (p := ⟨gb124, 1, none⟩) (Kd.R_far (p := ⟨gb124, 0, none⟩) (Kd.R_types HO112.out BK124.out (by decide)) (fun _ hk => hk.2) (.string (rdOf ByteArray.empty t110 0))) (fun _ hk => hk.2) (.slice none 0 0)) (fun _ hk => hk.2) (.slice none 0 0)) (fun _ hk => hk.2) (.slice Ao25 y117.length co25)) (fun _ hk => hk.2) (.int .i64 t121)) (fun _ hk => hk.2) (.int .i64 t123)) (fun _ h_ => h_.1))) (Kd.R_base ho0) hb); have n1_ := Aside0.mk (Kd.R_below (by (with_reducible repeat (first | apply Kd.R_alloc | apply Kd.R_drewN | apply Kd.R_drew)); exact (Kd.R_mono (Kd.R_far (p := ⟨gb124, 5, none⟩) (Kd.R_far (p := ⟨gb124, 4, none⟩) (Kd.R_far (p := ⟨gb124, 3, none⟩) (Kd.R_far (p := ⟨gb124, 2, none⟩) (Kd.R_far (p := ⟨gb124, 1, none⟩) (Kd.R_far (p := ⟨gb124, 0, none⟩) (Kd.R_types HO119.out BK124.out (by decide)) (fun _ hk => hk.2) (.string (rdOf ByteArray.empty t110 0))) (fun _ hk => hk.2) (.slice none 0 0)) (fun _ hk => hk.2) (.slice none 0 0)) (fun _ hk => hk.2) (.slice Ao25 y117.length co25)) (fun _ hk => hk.2) (.int .i64 t121)) (fun _ hk => hk.2) (.int .i64 t123)) (fun _ h_ => h_.1))) hb); have n2_ := Aside0.mk (Kd.R_lower (Kd.R_new' ho0 (Kd.R_lt (by (with_reducible repeat (first | apply Kd.R_alloc | apply Kd.R_drewN | apply Kd.R_drew)); exact (Kd.R_mono (Kd.R_far (p := ⟨gb124, 5, none⟩) (Kd.R_far (p := ⟨gb124, 4, none⟩) (Kd.R_far (p := ⟨gb124, 3, none⟩) (Kd.R_far (p := ⟨gb124, 2, none⟩) (Kd.R_far (p := ⟨gb124, 1, none⟩) (Kd.R_far (p := ⟨gb124, 0, none⟩) (Kd.R_types HO112.out BK124.out (by decide)) (fun _ hk => hk.2) (.string (rdOf ByteArray.empty t110 0))) (fun _ hk => hk.2) (.slice none 0 0)) (fun _ hk => hk.2) (.slice none 0 0)) (fun _ hk => hk.2) (.slice Ao25 y117.length co25)) (fun _ hk => hk.2) (.int .i64 t121)) (fun _ hk => hk.2) (.int .i64 t123)) (fun _ h_ => h_.1))))) (below_size (by repeat (first | (with_reducible first | exact HB.out | apply below_alloc | apply pw_below_drewN | apply below_drew1 | refine below_set ?_ GE109.out | refine below_set ?_ GE124.out) | exact HB.out)))); have n3_ := Aside0.mk (blk_below (g := gb109) (o := .cells #[.string (⟨#[]⟩ : ByteArray), .slice none 0 0, .slice none 0 0, .slice none 0 0, .int .i64 0, .int .i64 0] 57 (0, 0)) (by (with_reducible repeat (first | refine blk_drewN ?_ _ | refine blk_drew ?_ | refine blk_alloc ?_ _)); refine blk_far ?_ NB109_124.out _; (with_reducible repeat (first | refine blk_drewN ?_ _ | refine blk_drew ?_ | refine blk_alloc ?_ _)); refine blk_far ?_ NB109_124.out _; (with_reducible repeat (first | refine blk_drewN ?_ _ | refine blk_drew ?_ | refine blk_alloc ?_ _)); refine blk_far ?_ NB109_124.out _; (with_reducible repeat (first | refine blk_drewN ?_ _ | refine blk_drew ?_ | refine blk_alloc ?_ _)); refine blk_far ?_ NB109_124.out _; (with_reducible repeat (first | refine blk_drewN ?_ _ | refine blk_drew ?_ | refine blk_alloc ?_ _)); refine blk_far ?_ NB109_124.out _; (with_reducible repeat (first | refine blk_drewN ?_ _ | refine blk_drew ?_ | refine blk_alloc ?_ _)); refine blk_far ?_ NB109_124.out _; (with_reducible repeat (first | refine blk_drewN ?_ _ | refine blk_drew ?_ | refine blk_alloc ?_ _)); exact BK109.out) hb); have n4_ := Aside0.mk (blk_below (g := gb124) (o := .cells #[.string (rdOf ByteArray.empty t110 0), .slice none 0 0, .slice none 0 0, .slice Ao25 y117.length co25, .int .i64 t121, .int .i64 t123] 57 (0, 0)) (by (with_reducible repeat (first | refine blk_drewN ?_ _ | refine blk_drew ?_ | refine blk_alloc ?_ _)); refine blk_put (cs := #[.string (rdOf ByteArray.empty t110 0), .slice none 0 0, .slice none 0 0, .slice Ao25 y117.length co25, .int .i64 t121, .int .i64 0]) ?_ 5 _ rfl; (with_reducible repeat (first | refine blk_drewN ?_ _ | refine blk_drew ?_ | refine blk_alloc ?_ _)); refine blk_put (cs := #[.string (rdOf ByteArray.empty t110 0), .slice none 0 0, .slice none 0 0, .slice Ao25 y117.length co25, .int .i64 0, .int .i64 0]) ?_ 4 _ rfl; (with_reducible repeat (first | refine blk_drewN ?_ _ | refine blk_drew ?_ | refine blk_alloc ?_ _)); refine blk_put (cs := #[.string (rdOf ByteArray.empty t110 0), .slice none 0 0, .slice none 0 0, .slice none 0 0, .int .i64 0, .int .i64 0]) ?_ 3 _ rfl; (with_reducible repeat (first | refine blk_drewN ?_ _ | refine blk_drew ?_ | refine blk_alloc ?_ _)); refine blk_put (cs := #[.string (rdOf ByteArray.empty t110 0), .slice none 0 0, .slice none 0 0, .slice none 0 0, .int .i64 0, .int .i64 0]) ?_ 2 _ rfl; (with_reducible repeat (first | refine blk_drewN ?_ _ | refine blk_drew ?_ | refine blk_alloc ?_ _)); refine blk_put (cs := #[.string (rdOf ByteArray.empty t110 0), .slice none 0 0, .slice none 0 0, .slice none 0 0, .int .i64 0, .int .i64 0]) ?_ 1 _ rfl; (with_reducible repeat (first | refine blk_drewN ?_ _ | refine blk_drew ?_ | refine blk_alloc ?_ _)); refine blk_put (cs := #[.string (⟨#[]⟩ : ByteArray), .slice none 0 0, .slice none 0 0, .slice none 0 0, .int .i64 0, .int .i64 0]) ?_ 0 _ rfl; (with_reducible repeat (first | refine blk_drewN ?_ _ | refine blk_drew ?_ | refine blk_alloc ?_ _)); exact BK124.out) hb); have n5_ := Aside0.mk (below_step (by repeat (first | (with_reducible first | exact HB.out | apply below_alloc | apply pw_below_drewN | apply below_drew1 | refine below_set ?_ GE109.out | refine below_set ?_ GE124.out) | exact HB.out)) hb); clear HO112; clear HO119; clear BK109; clear BK124; clear HB; have HO112 := n0_; have HO119 := n1_; have HO128 := n2_; have BK109 := n3_; have BK124 := n4_; have HB := n5_; clear n0_ n1_ n2_ n3_ n4_ n5_; (try clear hb); (try clear hb2); (try clear hk); (try clear hi); (try clear ho0); obtain ⟨Ao33, co33, eo33⟩ := Kd.R_slice HO128.out; subst eo33))
       go_loopg [35] k (fun kq v35 w' => ∃ (x35_1 : Int) (x125002_1 : List (S73)) (u125002 : Value), v35 = .int .i64 x35_1 ∧ Aside0 (block_descriptor.l0 kq t110 t126 (t126.length : Int) x35_1 (rdOf ByteArray.empty t110 0) x125002_1 y117 t121 t123 = some (r1, r2, r3, r4, r5, r6)) ∧ Aside0 (kq ≤ k) ∧ Aside0 (Kd.R Kd.string 9 w' w.heap.size (fun k_ => some k_ ≠ ((.slice Ao33 t126.length co33) : Value).ownBlock) (.slice (some ad113) t110.length co16) t110) ∧ Aside0 (Kd.R Kd.string 9 w' w.heap.size (fun k_ => some k_ ≠ ((.slice (some ad113) t110.length co16) : Value).ownBlock) (.slice Ao33 t126.length co33) t126) ∧ Aside0 (Kd.R k73 73 w' w.heap.size (fun k_ => some k_ ≠ ((.slice Ao25 y117.length co25) : Value).ownBlock) u125002 x125002_1) ∧ Aside0 (Kd.R k73 73 w' w.heap.size (fun k_ => some k_ ≠ (u125002 : Value).ownBlock) (.slice Ao25 y117.length co25) y117) ∧ Aside0 (w'.heap[gb109]? = some (.cells #[.string (⟨#[]⟩ : ByteArray), (.slice none 0 0), (.slice none 0 0), (.slice none 0 0), .int .i64 0, .int .i64 0] 57 (0, 0))) ∧ Aside0 (w'.heap[gb124]? = some (.cells #[.string (rdOf ByteArray.empty t110 0), (.slice none 0 0), u125002, (.slice Ao25 y117.length co25), .int .i64 t121, .int .i64 t123] 57 (0, 0))) ∧ Aside0 (Below w.heap.size w w'))
       case atStart => exact ⟨(0), (([] : List (S73))), (.slice none 0 0), (by first | rfl | (simp; done) | (simp [*]; done)), H', ⟨Nat.le_refl _⟩, ⟨by (with_reducible repeat (first | apply Kd.R_alloc | apply Kd.R_drewN | apply Kd.R_drew)); exact Kd.R_mono HO112.out (fun _ hk => hk.2)⟩, ⟨by (with_reducible repeat (first | apply Kd.R_alloc | apply Kd.R_drewN | apply Kd.R_drew)); exact Kd.R_mono HO128.out (fun _ hk => hk.2)⟩, ⟨by first | exact Kd.R_nil _ _ _ _ _ | exact Kd.N_nil _ _ _ _ _ | exact Kd.V_nil _ _ _ _ _ | exact Kd.Q_nil _ _ _ _ _ | exact Kd.S_nil _ _ _ _ _⟩, ⟨by (with_reducible repeat (first | apply Kd.R_alloc | apply Kd.R_drewN | apply Kd.R_drew)); exact Kd.R_mono HO119.out (fun _ hk => (by simp [Value.ownBlock]))⟩, ⟨by (with_reducible repeat (first | refine blk_drewN ?_ _ | refine blk_drew ?_ | refine blk_alloc ?_ _)); exact BK109.out⟩, ⟨by (with_reducible repeat (first | refine blk_drewN ?_ _ | refine blk_drew ?_ | refine blk_alloc ?_ _)); exact BK124.out⟩, ⟨by repeat (first | (with_reducible first | exact HB.out | apply below_alloc | apply pw_below_drewN | apply below_drew1 | refine below_set ?_ GE109.out | refine below_set ?_ GE124.out) | exact HB.out)⟩⟩
       case round =>
        clear H'
        try clear p1
        try clear q1
        try clear hx1
        try clear qi1
        try clear c2
        try clear p2
        try clear c4
        try clear p12
        try clear q12
        try clear hx12
        try clear qi12
        try clear hx125_0
        try clear p125
        try clear q125
        obtain ⟨x35_1, x125002_1, u125002, rfl, HA, HK1, HO_3, HO_33, HO_125002, HO_125003, BK109, BK124, HB⟩ := hrel
        cases gk with
        | zero => exact absurd HA.out (by simp [block_descriptor.l0])
        | succ k1 =>
         have H := HA.out
         clear HA
         simp only [block_descriptor.l0] at H
         by_cases c34 : x35_1 < (t126.length : Int)
         ·
          rw [if_pos c34] at H
          have c34b0 : decide (x35_1 < (t126.length : Int)) = true := decide_eq_true c34
          clear c34
          by_cases c35 : 0 ≤ x35_1
          ·
           rw [if_pos c35] at H
           have c35b0 : decide (0 ≤ x35_1) = true := decide_eq_true c35
           clear c35
           by_cases c36 : x35_1 < (t126.length : Int)
           ·
            rw [if_pos c36] at H
            have c36b0 : decide (x35_1 < (t126.length : Int)) = true := decide_eq_true c36
            clear c36
            replace H := Option.bind_eq_some_iff.mp H
            obtain ⟨⟨t130, t131⟩, A370, H⟩ := H
            replace H : (if x125002_1.length < 4398046511104 then (block_descriptor.l0 k1 t110 t126 (t126.length : Int) (wrap64 (x35_1 + 1)) (rdOf ByteArray.empty t110 0) (x125002_1 ++ [(⟨t130, t131⟩ : S73)]) y117 t121 t123) else (none)) = some (r1, r2, r3, r4, r5, r6) := H
            have A37 := Aside0.mk A370
            clear A370
            by_cases c38 : x125002_1.length < 4398046511104
            ·
             rw [if_pos c38] at H
             have LMc38 := Aside0.mk c38
             clear c38
             obtain ⟨y132, hy132⟩ : ∃ y_ : List (S73), y_ = (x125002_1 ++ [(⟨t130, t131⟩ : S73)]) := ⟨_, rfl⟩
             replace H : (block_descriptor.l0 k1 t110 t126 (t126.length : Int) (wrap64 (x35_1 + 1)) (rdOf ByteArray.empty t110 0) y132 y117 t121 t123) = some (r1, r2, r3, r4, r5, r6) := by first | (rw [hy132]; with_reducible exact H) | (have H2_ := (Option.bind_some _ _).symm.trans H; rw [hy132]; with_reducible exact H2_) | (have H2_ := (Option.bind_some _ _).symm.trans H; with_reducible exact H2_) | with_reducible exact H | (rw [hy132]; exact H) | exact H
             have Ny132 := Aside0.mk hy132
             clear hy132
             have H' := Aside0.mk H
             clear H
             have p129 : 0 ≤ (x35_1 : Int) := ode
             have q129 : x35_1 < (t126.length : Int) := ode
             obtain ⟨ad129, e129, hx129_0⟩ := Kd.at_string (Kd.R_reads' HO_33.out).2.2 x35_1 p129 q129
             cases e129
             replace p129 := eq_true p129
             replace q129 := eq_true q129
             try go_wp2
             have n0_ := Aside0.mk (Kd.R_drew HO_3.out)
             have n1_ := Aside0.mk (Kd.R_drew HO_33.out)
             have n2_ := Aside0.mk (Kd.R_drew HO_125002.out)
             have n3_ := Aside0.mk (Kd.R_drew HO_125003.out)
             have n4_ := Aside0.mk (blk_drew BK109.out)
             have n5_ := Aside0.mk (blk_drew BK124.out)
             have n6_ := Aside0.mk (below_drew1 HB.out)
             clear HO_3
             clear HO_33
             clear HO_125002
             clear HO_125003
             clear BK109
             clear BK124
             clear HB
             have HO_3 := n0_
             have HO_33 := n1_
             have HO_125002 := n2_
             have HO_125003 := n3_
             have BK109 := n4_
             have BK124 := n5_
             have HB := n6_
             clear n0_ n1_ n2_ n3_ n4_ n5_ n6_
             refine start_ (n := 8) (S := fun w' => w'.cell? ⟨gb124, 0, none⟩ = some (.string (rdOf ByteArray.empty t110 0)) ∧ w'.cell? ⟨gb124, 1, none⟩ = some (.slice none 0 0) ∧ w'.cell? ⟨gb124, 2, none⟩ = some (u125002) ∧ w'.cell? ⟨gb124, 3, none⟩ = some (.slice Ao25 y117.length co25) ∧ w'.cell? ⟨gb124, 4, none⟩ = some (.int .i64 t121) ∧ w'.cell? ⟨gb124, 5, none⟩ = some (.int .i64 t123)) (ds := [7]) #[false, false, false, false, false, false, false, false] (by kernel_rfl) rfl rfl ⟨(blk_cell BK124.out 0).trans rfl, (blk_cell BK124.out 1).trans rfl, (blk_cell BK124.out 2).trans rfl, (blk_cell BK124.out 3).trans rfl, (blk_cell BK124.out 4).trans rfl, (blk_cell BK124.out 5).trans rfl⟩ (fun hHeld => ?_); refine with_tabW block_descriptor.tab6 block_descriptor.bits6 (fun HT_ HW_ => ?_)
             generalize wr.drew = w39 at HO_3 HO_33 HO_125002 HO_125003 BK109 BK124 HB hHeld ⊢
             refine pure_ (i := 0) (N := some 39) (v := ?_) (a' := ?_) #[true, false, false, false, false, false, false, false] rfl rfl (any_of HT_.out (by kernel_rfl)) (fun _ _ _ h => h) (Or.inl ⟨by rfl, ?_⟩) ?_ ?_
             rotate_left
             ·
              intro w'
              go_simp
              with_reducible rfl
             rotate_left
             ·
              simp only [Act.put, List.setIfInBounds_toArray, List.set_cons_zero, List.set_cons_succ, i64_w, i32_w]
              rfl
             refine pure_ (i := 2) (N := some 41) (v := ?_) (a' := ?_) #[true, false, true, false, false, false, false, false] rfl rfl (any_of HT_.out (by kernel_rfl)) (fun _ _ _ h => h) (Or.inl ⟨by rfl, ?_⟩) ?_ ?_
             rotate_left
             ·
              intro w'
              go_simp
              with_reducible rfl
             rotate_left
             ·
              simp only [Act.put, List.setIfInBounds_toArray, List.set_cons_zero, List.set_cons_succ, i64_w, i32_w]
              rfl
             refine take_ (i := 1) (N := some 40) (v := ?_) (a' := ?_) #[true, true, true, false, false, false, false, false] rfl rfl (take_ofW HT_.out HW_.out (by kernel_rfl)) (fun _ _ _ h => h) (Or.inl ⟨by rfl, ?_⟩) hHeld ?_ ?_
             rotate_left
             ·
              rintro w' ⟨s0, s1, s2, s3, s4, s5⟩
              go_simp
              with_reducible rfl
             rotate_left
             ·
              simp only [Act.put, List.setIfInBounds_toArray, List.set_cons_zero, List.set_cons_succ, i64_w, i32_w]
              rfl
             refine one_ (i := 3) (N := some 42) #[true, true, true, true, false, false, false, false] rfl rfl (one_of HT_.out (by kernel_rfl)) (by decide) (fun K hK => ?_)
             refine goes_ Tryd.func42 (by kernel_rfl) rfl #[.string (rdOf ByteArray.empty t126 x35_1)] (by rfl) rfl rfl aeq ?_
             with_reducible refine (block_port.calls (rdOf ByteArray.empty t126 x35_1) t130 t131 _ ?side1 A37.out).mono ?_
             (case side1 => exact GW.below HG.out (by repeat (first | (with_reducible first | exact HB.out | apply below_alloc | apply pw_below_drewN | apply below_drew1 | refine below_set ?_ GE109.out | refine below_set ?_ GE124.out) | exact HB.out)))
             rintro e w40 ⟨rfl, hb⟩
             refine ⟨_, rfl, ?_⟩
             have n0_ := Aside0.mk (Kd.R_below (by (with_reducible repeat (first | apply Kd.R_alloc | apply Kd.R_drewN | apply Kd.R_drew)); exact HO_3.out) hb)
             have n1_ := Aside0.mk (Kd.R_below (by (with_reducible repeat (first | apply Kd.R_alloc | apply Kd.R_drewN | apply Kd.R_drew)); exact HO_33.out) hb)
             have n2_ := Aside0.mk (Kd.R_below (by (with_reducible repeat (first | apply Kd.R_alloc | apply Kd.R_drewN | apply Kd.R_drew)); exact HO_125002.out) hb)
             have n3_ := Aside0.mk (Kd.R_below (by (with_reducible repeat (first | apply Kd.R_alloc | apply Kd.R_drewN | apply Kd.R_drew)); exact HO_125003.out) hb)
             have n4_ := Aside0.mk (blk_below (g := gb109) (o := .cells #[.string (⟨#[]⟩ : ByteArray), .slice none 0 0, .slice none 0 0, .slice none 0 0, .int .i64 0, .int .i64 0] 57 (0, 0)) (by (with_reducible repeat (first | refine blk_drewN ?_ _ | refine blk_drew ?_ | refine blk_alloc ?_ _)); exact BK109.out) hb)
             have n5_ := Aside0.mk (blk_below (g := gb124) (o := .cells #[.string (rdOf ByteArray.empty t110 0), .slice none 0 0, u125002, .slice Ao25 y117.length co25, .int .i64 t121, .int .i64 t123] 57 (0, 0)) (by (with_reducible repeat (first | refine blk_drewN ?_ _ | refine blk_drew ?_ | refine blk_alloc ?_ _)); exact BK124.out) hb)
             have n6_ := Aside0.mk (below_step (by repeat (first | (with_reducible first | exact HB.out | apply below_alloc | apply pw_below_drewN | apply below_drew1 | refine below_set ?_ GE109.out | refine below_set ?_ GE124.out) | exact HB.out)) hb)
             clear HO_3
             clear HO_33
             clear HO_125002
             clear HO_125003
             clear BK109
             clear BK124
             clear HB
             have HO_3 := n0_
             have HO_33 := n1_
             have HO_125002 := n2_
             have HO_125003 := n3_
             have BK109 := n4_
             have BK124 := n5_
             have HB := n6_
             clear n0_ n1_ n2_ n3_ n4_ n5_ n6_
             (try clear hb)
             (try clear hb2)
             (try clear hk)
             (try clear hi)
             refine hK.out _ _ ⟨(blk_cell BK124.out 0).trans rfl, (blk_cell BK124.out 1).trans rfl, (blk_cell BK124.out 2).trans rfl, (blk_cell BK124.out 3).trans rfl, (blk_cell BK124.out 4).trans rfl, (blk_cell BK124.out 5).trans rfl⟩ (fun hHeld => ?_)
             clear hK K
             refine norm_ (a' := ?_) ?_ ?_
             rotate_left
             ·
              show Act.put _ (some 42) _ = _
              simp only [Act.put, List.setIfInBounds_toArray, List.set_cons_zero, List.set_cons_succ, i64_w, i32_w]
              rfl
             refine one_ (i := 4) (N := some 43) #[true, true, true, true, true, false, false, false] rfl rfl (one_of HT_.out (by kernel_rfl)) (by decide) (fun K hK => ?_)
             refine value_ (w1 := ?_) (v := ?_) (by rfl) rfl ?_ ?_
             rotate_left 2
             ·
              go_simp
              constructor
              ·
               rfl
              ·
               rfl
             refine hK.out _ _ ⟨(blk_cell (blk_alloc BK124.out _) 0).trans rfl, (blk_cell (blk_alloc BK124.out _) 1).trans rfl, (blk_cell (blk_alloc BK124.out _) 2).trans rfl, (blk_cell (blk_alloc BK124.out _) 3).trans rfl, (blk_cell (blk_alloc BK124.out _) 4).trans rfl, (blk_cell (blk_alloc BK124.out _) 5).trans rfl⟩ (fun hHeld => ?_)
             clear hK K
             refine norm_ (a' := ?_) ?_ ?_
             rotate_left
             ·
              show Act.put _ (some 43) _ = _
              simp only [Act.put, List.setIfInBounds_toArray, List.set_cons_zero, List.set_cons_succ, i64_w, i32_w]
              rfl
             refine one_ (i := 5) (N := some 44) #[true, true, true, true, true, true, false, false] rfl rfl (one_of HT_.out (by kernel_rfl)) (by decide) (fun K hK => ?_)
             refine Kd.R_append_step k73 (w0 := w) w.heap.size (by rfl) (.tmp 40) (.tmp 43) 55 73 (.agg #[(.string ⟨#[]⟩), (.string ⟨#[]⟩)]) 32 rfl Tryd.underlying55 info73 rfl (by decide) (by omega) u125002 x125002_1 (⟨t130, t131⟩ : S73) [.string t130, .string t131] (fun k_ => some k_ ≠ (.slice Ao25 y117.length co25 : Value).ownBlock) (fun _ => False) rfl rfl ?aP (fun _ hk => hk.elim) ?aF ?aO ?aB ?aS ?aL ?_
             (case aP => exact k73_mkM _ _ _ (⟨t130, t131⟩ : S73))
             (case aB => exact (by repeat (first | (with_reducible first | exact HB.out | apply below_alloc | apply pw_below_drewN | apply below_drew1 | refine below_set ?_ GE109.out | refine below_set ?_ GE124.out) | exact HB.out)))
             (case aF => exact (fun k_ hk => Kd.fresh' (Kd.R_lt (by (with_reducible repeat (first | apply Kd.R_alloc | apply Kd.R_drewN | apply Kd.R_drew)); exact HO_125003.out)) k_ hk))
             (case aO => exact (by (with_reducible repeat (first | apply Kd.R_alloc | apply Kd.R_drewN | apply Kd.R_drew)); exact HO_125002.out))
             (case aS => exact (below_size (by repeat (first | (with_reducible first | exact HB.out | apply below_alloc | apply pw_below_drewN | apply below_drew1 | refine below_set ?_ GE109.out | refine below_set ?_ GE124.out) | exact HB.out))))
             (case aL => have := LMc38.out; omega)
             intro v133 w41 ho hb hg hat
             rw [← Ny132.out] at ho
             have n0_ := Aside0.mk (Kd.R_over' (by (with_reducible repeat (first | apply Kd.R_alloc | apply Kd.R_drewN | apply Kd.R_drew)); exact HO_3.out) (Kd.R_typed (by (with_reducible repeat (first | apply Kd.R_alloc | apply Kd.R_drewN | apply Kd.R_drew)); exact HO_125002.out)) (by decide) hg)
             have n1_ := Aside0.mk (Kd.R_over' (by (with_reducible repeat (first | apply Kd.R_alloc | apply Kd.R_drewN | apply Kd.R_drew)); exact HO_33.out) (Kd.R_typed (by (with_reducible repeat (first | apply Kd.R_alloc | apply Kd.R_drewN | apply Kd.R_drew)); exact HO_125002.out)) (by decide) hg)
             have n2_ := Aside0.mk (Kd.R_after (ok := (fun _ => True)) (by (with_reducible repeat (first | apply Kd.R_alloc | apply Kd.R_drewN | apply Kd.R_drew)); exact Kd.R_mono HO_125003.out (fun _ hk => ⟨trivial, hk⟩)) hg hat)
             have n3_ := Aside0.mk (blk_grown (g := gb109) (o := .cells #[.string (⟨#[]⟩ : ByteArray), .slice none 0 0, .slice none 0 0, .slice none 0 0, .int .i64 0, .int .i64 0] 57 (0, 0)) (by (with_reducible repeat (first | refine blk_drewN ?_ _ | refine blk_drew ?_ | refine blk_alloc ?_ _)); exact BK109.out) hg (Kd.R_ne HO_125002.out BK109.out (by decide)))
             have n4_ := Aside0.mk (blk_grown (g := gb124) (o := .cells #[.string (rdOf ByteArray.empty t110 0), .slice none 0 0, u125002, .slice Ao25 y117.length co25, .int .i64 t121, .int .i64 t123] 57 (0, 0)) (by (with_reducible repeat (first | refine blk_drewN ?_ _ | refine blk_drew ?_ | refine blk_alloc ?_ _)); exact BK124.out) hg (Kd.R_ne HO_125002.out BK124.out (by decide)))
             have n5_ := Aside0.mk (hb)
             have n6_ := Aside0.mk (ho)
             clear HO_3
             clear HO_33
             clear HO_125003
             clear BK109
             clear BK124
             clear HB
             clear HO_125002
             have HO_3 := n0_
             have HO_33 := n1_
             have HO_125003 := n2_
             have BK109 := n3_
             have BK124 := n4_
             have HB := n5_
             have HO134 := n6_
             clear n0_ n1_ n2_ n3_ n4_ n5_ n6_
             clear ho hb hg hat
             obtain ⟨Ao42, co42, eo42⟩ := Kd.R_slice HO134.out
             (first | subst eo42 | (injection eo42 with f1_ f2_ f3_; have f4_ := f1_.symm; have f5_ := f3_.symm; clear f1_ f2_ f3_; subst f4_; subst f5_))
             refine hK.out _ _ ⟨(blk_cell BK124.out 0).trans rfl, (blk_cell BK124.out 1).trans rfl, (blk_cell BK124.out 2).trans rfl, (blk_cell BK124.out 3).trans rfl, (blk_cell BK124.out 4).trans rfl, (blk_cell BK124.out 5).trans rfl⟩ (fun hHeld => ?_)
             clear hK K
             refine norm_ (a' := ?_) ?_ ?_
             rotate_left
             ·
              show Act.put _ (some 44) _ = _
              simp only [Act.put, List.setIfInBounds_toArray, List.set_cons_zero, List.set_cons_succ, i64_w, i32_w]
              rfl
             refine pure_ (i := 6) (N := some 45) (v := ?_) (a' := ?_) #[true, true, true, true, true, true, true, false] rfl rfl (any_of HT_.out (by kernel_rfl)) (fun _ _ _ h => h) (Or.inl ⟨by rfl, ?_⟩) ?_ ?_
             rotate_left
             ·
              intro w'
              go_simp
              with_reducible rfl
             rotate_left
             ·
              simp only [Act.put, List.setIfInBounds_toArray, List.set_cons_zero, List.set_cons_succ, i64_w, i32_w]
              rfl
             refine last_ (i := 7) (N := none) #[true, true, true, true, true, true, true, true] rfl rfl (one_of HT_.out (by kernel_rfl)) (by decide) (fun K hK => ?_)
             have hs43 : w41.cell? ⟨gb124, 2, none⟩ = some (u125002) := (blk_cell BK124.out 2).trans rfl
             have hfs43 := blk_frozen BK124.out 2
             have hns43_0 := NB109_124.out
             have hms43_0 := NB124_109.out
             refine skip_ (w1 := ?_) (by rfl) rfl ?_ ?_
             rotate_left
             ·
              go_simp
              rfl
             refine hK.out _ _ ?_
             clear hK K
             refine done_ (done_of HT_.out (by kernel_rfl)) ?_
             try go_wp2
             go_roundg k1
             case measure => have := HK1.out; omega
             case rel => exact ⟨(wrap64 (x35_1 + 1)), (y132), (.slice Ao42 y132.length co42), (by first | rfl | (simp; done) | (simp [*]; done)), H', ⟨by have := HK1.out; omega⟩, ⟨by (with_reducible repeat (first | apply Kd.R_alloc | apply Kd.R_drewN | apply Kd.R_drew)); exact Kd.R_mono (Kd.R_far (p := ⟨gb124, 2, none⟩) (Kd.R_types HO_3.out BK124.out (by decide)) (fun _ hk => hk.2) (.slice Ao42 y132.length co42)) (fun _ hk => hk.1)⟩, ⟨by (with_reducible repeat (first | apply Kd.R_alloc | apply Kd.R_drewN | apply Kd.R_drew)); exact Kd.R_mono (Kd.R_far (p := ⟨gb124, 2, none⟩) (Kd.R_types HO_33.out BK124.out (by decide)) (fun _ hk => hk.2) (.slice Ao42 y132.length co42)) (fun _ hk => hk.1)⟩, ⟨by (with_reducible repeat (first | apply Kd.R_alloc | apply Kd.R_drewN | apply Kd.R_drew)); exact Kd.R_mono (Kd.R_far (p := ⟨gb124, 2, none⟩) (Kd.R_types HO134.out BK124.out (by decide)) (fun _ hk => hk.2) (.slice Ao42 y132.length co42)) (fun _ hk => hk.1)⟩, ⟨by (with_reducible repeat (first | apply Kd.R_alloc | apply Kd.R_drewN | apply Kd.R_drew)); exact Kd.R_mono (Kd.R_far (p := ⟨gb124, 2, none⟩) (Kd.R_types HO_125003.out BK124.out (by decide)) (fun _ hk => hk.2) (.slice Ao42 y132.length co42)) (fun _ hk => hk.1.2)⟩, ⟨by (with_reducible repeat (first | refine blk_drewN ?_ _ | refine blk_drew ?_ | refine blk_alloc ?_ _)); refine blk_far ?_ NB109_124.out _; (with_reducible repeat (first | refine blk_drewN ?_ _ | refine blk_drew ?_ | refine blk_alloc ?_ _)); exact BK109.out⟩, ⟨by (with_reducible repeat (first | refine blk_drewN ?_ _ | refine blk_drew ?_ | refine blk_alloc ?_ _)); refine blk_put (cs := #[.string (rdOf ByteArray.empty t110 0), .slice none 0 0, u125002, .slice Ao25 y117.length co25, .int .i64 t121, .int .i64 t123]) ?_ 2 _ rfl; (with_reducible repeat (first | refine blk_drewN ?_ _ | refine blk_drew ?_ | refine blk_alloc ?_ _)); exact BK124.out⟩, ⟨by repeat (first | (with_reducible first | exact HB.out | apply below_alloc | apply pw_below_drewN | apply below_drew1 | refine below_set ?_ GE109.out | refine below_set ?_ GE124.out) | exact HB.out)⟩⟩
            ·
             rw [if_neg c38] at H
             exact absurd H (by simp)
           ·
            rw [if_neg c36] at H
            exact absurd H (by simp)
          ·
           rw [if_neg c35] at H
           exact absurd H (by simp)
         ·
          rw [if_neg c34] at H
          have c34b0 : decide (x35_1 < (t126.length : Int)) = false := decide_eq_false c34
          clear c34
          by_cases c44 : 2 < (t110.length : Int)
          ·
           rw [if_pos c44] at H
           have c44b0 : decide (2 < (t110.length : Int)) = true := decide_eq_true c44
           have c44b1 : decide (2 < t110.length) = true := decide_eq_true (by omega)
           clear c44
           replace H := Option.bind_eq_some_iff.mp H
           obtain ⟨t136, A450, H⟩ := H
           replace H : (block_descriptor.l1 k1 t136 (t136.length : Int) 0 (rdOf ByteArray.empty t110 0) ([] : List (S61)) x125002_1 y117 t121 t123) = some (r1, r2, r3, r4, r5, r6) := H
           have A45 := Aside0.mk A450
           clear A450
           have H' := Aside0.mk H
           clear H
           have p135 : 0 ≤ (2 : Int) := (by omega)
           have q135 : 2 < (t110.length : Int) := ode
           obtain ⟨ad135, e135, hx135_0⟩ := Kd.at_string (Kd.R_reads' HO_3.out).2.2 2 p135 q135
           obtain rfl : ad113 = ad135 := (by injection e135)
           (try simp only [show (2 : Int).toNat = 2 from rfl, Nat.reduceMul, Nat.reduceEqDiff, Go.Addr.add, ↓reduceIte] at hx135_0)
           have qi135 : (2 < t110.length) = True := eq_true (by omega)
           (try rw [show ((2 : Int)).toNat = 2 from rfl] at hx135_0)
           replace p135 := eq_true p135
           replace q135 := eq_true q135
           go_wp2_with (first | ((with_reducible refine gate_callee (f := 44) rfl ?_); refine goesL_ (some 50) rfl rfl Tryd.func44 (by kernel_rfl) rfl #[.string (rdOf ByteArray.empty t110 2)] rfl aeq ?_; (with_reducible refine (strings_Fields.calls (rdOf ByteArray.empty t110 2) t136 _ ?side1 A45.out).mono ?_); (case side1 => exact GW.below HG.out (by repeat (first | (with_reducible first | exact HB.out | apply below_alloc | apply pw_below_drewN | apply below_drew1 | refine below_set ?_ GE109.out | refine below_set ?_ GE124.out) | exact HB.out))); rintro e w46 ⟨v137, rfl, ho0, hb⟩; refine ⟨_, rfl, ?_⟩; have n0_ := Aside0.mk (Kd.R_elder' (by (with_reducible repeat (first | apply Kd.R_alloc | apply Kd.R_drewN | apply Kd.R_drew)); exact HO_3.out) (Kd.R_base ho0) hb); have n1_ := Aside0.mk (Kd.R_elder' (by (with_reducible repeat (first | apply Kd.R_alloc | apply Kd.R_drewN | apply Kd.R_drew)); exact HO_33.out) (Kd.R_base ho0) hb); have n2_ := Aside0.mk (Kd.R_below (by (with_reducible repeat (first | apply Kd.R_alloc | apply Kd.R_drewN | apply Kd.R_drew)); exact HO_125002.out) hb); have n3_ := Aside0.mk (Kd.R_below (by (with_reducible repeat (first | apply Kd.R_alloc | apply Kd.R_drewN | apply Kd.R_drew)); exact HO_125003.out) hb); have n4_ := Aside0.mk (Kd.R_lower (Kd.R_new' (Kd.R_new' ho0 (Kd.R_lt (by (with_reducible repeat (first | apply Kd.R_alloc | apply Kd.R_drewN | apply Kd.R_drew)); exact HO_3.out))) (Kd.R_lt (by (with_reducible repeat (first | apply Kd.R_alloc | apply Kd.R_drewN | apply Kd.R_drew)); exact HO_33.out))) (below_size (by repeat (first | (with_reducible first | exact HB.out | apply below_alloc | apply pw_below_drewN | apply below_drew1 | refine below_set ?_ GE109.out | refine below_set ?_ GE124.out) | exact HB.out)))); have n5_ := Aside0.mk (blk_below (g := gb109) (o := .cells #[.string (⟨#[]⟩ : ByteArray), .slice none 0 0, .slice none 0 0, .slice none 0 0, .int .i64 0, .int .i64 0] 57 (0, 0)) (by (with_reducible repeat (first | refine blk_drewN ?_ _ | refine blk_drew ?_ | refine blk_alloc ?_ _)); exact BK109.out) hb); have n6_ := Aside0.mk (blk_below (g := gb124) (o := .cells #[.string (rdOf ByteArray.empty t110 0), .slice none 0 0, u125002, .slice Ao25 y117.length co25, .int .i64 t121, .int .i64 t123] 57 (0, 0)) (by (with_reducible repeat (first | refine blk_drewN ?_ _ | refine blk_drew ?_ | refine blk_alloc ?_ _)); exact BK124.out) hb); have n7_ := Aside0.mk (below_step (by repeat (first | (with_reducible first | exact HB.out | apply below_alloc | apply pw_below_drewN | apply below_drew1 | refine below_set ?_ GE109.out | refine below_set ?_ GE124.out) | exact HB.out)) hb); clear HO_3; clear HO_33; clear HO_125002; clear HO_125003; clear BK109; clear BK124; clear HB; have HO_3 := n0_; have HO_33 := n1_; have HO_125002 := n2_; have HO_125003 := n3_; have HO138 := n4_; have BK109 := n5_; have BK124 := n6_; have HB := n7_; clear n0_ n1_ n2_ n3_ n4_ n5_ n6_ n7_; (try clear hb); (try clear hb2); (try clear hk); (try clear hi); (try clear ho0); obtain ⟨Ao47, co47, eo47⟩ := Kd.R_slice HO138.out; subst eo47))
           go_loopg [52] k1 (fun kq v52 w' => ∃ (x52_2 : Int) (x125001_2 : List (S61)) (u125001 : Value), v52 = .int .i64 x52_2 ∧ Aside0 (block_descriptor.l1 kq t136 (t136.length : Int) x52_2 (rdOf ByteArray.empty t110 0) x125001_2 x125002_1 y117 t121 t123 = some (r1, r2, r3, r4, r5, r6)) ∧ Aside0 (kq ≤ k1) ∧ Aside0 (Kd.R Kd.string 9 w' w.heap.size (fun _ => True) (.slice Ao47 t136.length co47) t136) ∧ Aside0 (Kd.R k61 61 w' w.heap.size (fun _ => True) u125001 x125001_2) ∧ Aside0 (Kd.R k73 73 w' w.heap.size (fun k_ => some k_ ≠ ((.slice Ao25 y117.length co25) : Value).ownBlock) u125002 x125002_1) ∧ Aside0 (Kd.R k73 73 w' w.heap.size (fun k_ => some k_ ≠ (u125002 : Value).ownBlock) (.slice Ao25 y117.length co25) y117) ∧ Aside0 (w'.heap[gb109]? = some (.cells #[.string (⟨#[]⟩ : ByteArray), (.slice none 0 0), (.slice none 0 0), (.slice none 0 0), .int .i64 0, .int .i64 0] 57 (0, 0))) ∧ Aside0 (w'.heap[gb124]? = some (.cells #[.string (rdOf ByteArray.empty t110 0), u125001, u125002, (.slice Ao25 y117.length co25), .int .i64 t121, .int .i64 t123] 57 (0, 0))) ∧ Aside0 (Below w.heap.size w w'))
           case atStart => exact ⟨(0), (([] : List (S61))), (.slice none 0 0), (by first | rfl | (simp; done) | (simp [*]; done)), H', ⟨Nat.le_refl _⟩, ⟨by (with_reducible repeat (first | apply Kd.R_alloc | apply Kd.R_drewN | apply Kd.R_drew)); exact Kd.R_mono HO138.out (fun _ hk => trivial)⟩, ⟨by first | exact Kd.R_nil _ _ _ _ _ | exact Kd.N_nil _ _ _ _ _ | exact Kd.V_nil _ _ _ _ _ | exact Kd.Q_nil _ _ _ _ _ | exact Kd.S_nil _ _ _ _ _⟩, ⟨by (with_reducible repeat (first | apply Kd.R_alloc | apply Kd.R_drewN | apply Kd.R_drew)); exact HO_125002.out⟩, ⟨by (with_reducible repeat (first | apply Kd.R_alloc | apply Kd.R_drewN | apply Kd.R_drew)); exact HO_125003.out⟩, ⟨by (with_reducible repeat (first | refine blk_drewN ?_ _ | refine blk_drew ?_ | refine blk_alloc ?_ _)); exact BK109.out⟩, ⟨by (with_reducible repeat (first | refine blk_drewN ?_ _ | refine blk_drew ?_ | refine blk_alloc ?_ _)); exact BK124.out⟩, ⟨by repeat (first | (with_reducible first | exact HB.out | apply below_alloc | apply pw_below_drewN | apply below_drew1 | refine below_set ?_ GE109.out | refine below_set ?_ GE124.out) | exact HB.out)⟩⟩
           case round =>
            clear H'
            try clear p1
            try clear q1
            try clear hx1
            try clear qi1
            try clear c2
            try clear p2
            try clear c3
            try clear c4
            try clear p6
            try clear p12
            try clear q12
            try clear hx12
            try clear qi12
            try clear p13
            try clear q13
            try clear hx13
            try clear qi13
            try clear c34
            try clear c34b0
            try clear c35
            try clear c35b0
            try clear c36
            try clear c36b0
            try clear c38
            try clear c42
            try clear c43
            try clear c44
            try clear c44b0
            try clear c44b1
            try clear hx125_0
            try clear hx129_0
            try clear hx135_0
            try clear p1
            try clear p12
            try clear p125
            try clear p129
            try clear p135
            try clear p2
            try clear q1
            try clear q12
            try clear q125
            try clear q129
            try clear q135
            obtain ⟨x52_2, x125001_2, u125001, rfl, HA, HK2, HO_50, HO_125001, HO_125002, HO_125003, BK109, BK124, HB⟩ := hrel
            cases gk with
            | zero => exact absurd HA.out (by simp [block_descriptor.l1])
            | succ k2 =>
             have H := HA.out
             clear HA
             simp only [block_descriptor.l1] at H
             by_cases c48 : x52_2 < (t136.length : Int)
             ·
              rw [if_pos c48] at H
              have c48b0 : decide (x52_2 < (t136.length : Int)) = true := decide_eq_true c48
              clear c48
              by_cases c49 : 0 ≤ x52_2
              ·
               rw [if_pos c49] at H
               have c49b0 : decide (0 ≤ x52_2) = true := decide_eq_true c49
               clear c49
               by_cases c50 : x52_2 < (t136.length : Int)
               ·
                rw [if_pos c50] at H
                have c50b0 : decide (x52_2 < (t136.length : Int)) = true := decide_eq_true c50
                clear c50
                replace H := Option.bind_eq_some_iff.mp H
                obtain ⟨t140, A510, H⟩ := H
                replace H : (if 0 < (t140.length : Int) then (if 1 < (t140.length : Int) then ((block_number.f (rdOf ByteArray.empty t140 1)).bind fun t145 => (if 2 < (t140.length : Int) then ((block_number.f (rdOf ByteArray.empty t140 2)).bind fun t147 => (if 3 < (t140.length : Int) then ((block_number.f (rdOf ByteArray.empty t140 3)).bind fun t149 => (if x125001_2.length < 3518437208883 then (block_descriptor.l1 k2 t136 (t136.length : Int) (wrap64 (x52_2 + 1)) (rdOf ByteArray.empty t110 0) (x125001_2 ++ [(⟨rdOf ByteArray.empty t140 0, t145, t147, t149⟩ : S61)]) x125002_1 y117 t121 t123) else (none))) else (none))) else (none))) else (none)) else (none)) = some (r1, r2, r3, r4, r5, r6) := H
                have A51 := Aside0.mk A510
                clear A510
                by_cases c52 : 0 < (t140.length : Int)
                ·
                 rw [if_pos c52] at H
                 have c52b0 : decide (0 < (t140.length : Int)) = true := decide_eq_true c52
                 have c52b1 : decide (0 < t140.length) = true := decide_eq_true (by omega)
                 clear c52
                 by_cases c53 : 1 < (t140.length : Int)
                 ·
                  rw [if_pos c53] at H
                  have c53b0 : decide (1 < (t140.length : Int)) = true := decide_eq_true c53
                  have c53b1 : decide (1 < t140.length) = true := decide_eq_true (by omega)
                  clear c53
                  replace H := Option.bind_eq_some_iff.mp H
                  obtain ⟨t145, A540, H⟩ := H
                  replace H : (if 2 < (t140.length : Int) then ((block_number.f (rdOf ByteArray.empty t140 2)).bind fun t147 => (if 3 < (t140.length : Int) then ((block_number.f (rdOf ByteArray.empty t140 3)).bind fun t149 => (if x125001_2.length < 3518437208883 then (block_descriptor.l1 k2 t136 (t136.length : Int) (wrap64 (x52_2 + 1)) (rdOf ByteArray.empty t110 0) (x125001_2 ++ [(⟨rdOf ByteArray.empty t140 0, t145, t147, t149⟩ : S61)]) x125002_1 y117 t121 t123) else (none))) else (none))) else (none)) = some (r1, r2, r3, r4, r5, r6) := H
                  have A54 := Aside0.mk A540
                  clear A540
                  by_cases c55 : 2 < (t140.length : Int)
                  ·
                   rw [if_pos c55] at H
                   have c55b0 : decide (2 < (t140.length : Int)) = true := decide_eq_true c55
                   have c55b1 : decide (2 < t140.length) = true := decide_eq_true (by omega)
                   clear c55
                   replace H := Option.bind_eq_some_iff.mp H
                   obtain ⟨t147, A560, H⟩ := H
                   replace H : (if 3 < (t140.length : Int) then ((block_number.f (rdOf ByteArray.empty t140 3)).bind fun t149 => (if x125001_2.length < 3518437208883 then (block_descriptor.l1 k2 t136 (t136.length : Int) (wrap64 (x52_2 + 1)) (rdOf ByteArray.empty t110 0) (x125001_2 ++ [(⟨rdOf ByteArray.empty t140 0, t145, t147, t149⟩ : S61)]) x125002_1 y117 t121 t123) else (none))) else (none)) = some (r1, r2, r3, r4, r5, r6) := H
                   have A56 := Aside0.mk A560
                   clear A560
                   by_cases c57 : 3 < (t140.length : Int)
                   ·
                    rw [if_pos c57] at H
                    have c57b0 : decide (3 < (t140.length : Int)) = true := decide_eq_true c57
                    have c57b1 : decide (3 < t140.length) = true := decide_eq_true (by omega)
                    clear c57
                    replace H := Option.bind_eq_some_iff.mp H
                    obtain ⟨t149, A580, H⟩ := H
                    replace H : (if x125001_2.length < 3518437208883 then (block_descriptor.l1 k2 t136 (t136.length : Int) (wrap64 (x52_2 + 1)) (rdOf ByteArray.empty t110 0) (x125001_2 ++ [(⟨rdOf ByteArray.empty t140 0, t145, t147, t149⟩ : S61)]) x125002_1 y117 t121 t123) else (none)) = some (r1, r2, r3, r4, r5, r6) := H
                    have A58 := Aside0.mk A580
                    clear A580
                    by_cases c59 : x125001_2.length < 3518437208883
                    ·
                     rw [if_pos c59] at H
                     have LMc59 := Aside0.mk c59
                     clear c59
                     obtain ⟨y150, hy150⟩ : ∃ y_ : List (S61), y_ = (x125001_2 ++ [(⟨rdOf ByteArray.empty t140 0, t145, t147, t149⟩ : S61)]) := ⟨_, rfl⟩
                     replace H : (block_descriptor.l1 k2 t136 (t136.length : Int) (wrap64 (x52_2 + 1)) (rdOf ByteArray.empty t110 0) y150 x125002_1 y117 t121 t123) = some (r1, r2, r3, r4, r5, r6) := by first | (rw [hy150]; with_reducible exact H) | (have H2_ := (Option.bind_some _ _).symm.trans H; rw [hy150]; with_reducible exact H2_) | (have H2_ := (Option.bind_some _ _).symm.trans H; with_reducible exact H2_) | with_reducible exact H | (rw [hy150]; exact H) | exact H
                     have Ny150 := Aside0.mk hy150
                     clear hy150
                     have H' := Aside0.mk H
                     clear H
                     have p139 : 0 ≤ (x52_2 : Int) := ode
                     have q139 : x52_2 < (t136.length : Int) := ode
                     obtain ⟨ad139, e139, hx139_0⟩ := Kd.at_string (Kd.R_reads' HO_50.out).2.2 x52_2 p139 q139
                     cases e139
                     replace p139 := eq_true p139
                     replace q139 := eq_true q139
                     try go_wp2_with (first | ((with_reducible refine gate_callee (f := 34) rfl ?_); refine goesL_ (some 57) rfl rfl Tryd.func34 (by kernel_rfl) rfl #[.string (rdOf ByteArray.empty t136 x52_2), .string (⟨#[58]⟩ : ByteArray)] rfl aeq ?_; (with_reducible refine (strings_Split.calls (rdOf ByteArray.empty t136 x52_2) (⟨#[58]⟩ : ByteArray) t140 _ ?side1 A51.out).mono ?_); (case side1 => exact GW.below HG.out (by repeat (first | (with_reducible first | exact HB.out | apply below_alloc | apply pw_below_drewN | apply below_drew1 | refine below_set ?_ GE109.out | refine below_set ?_ GE124.out) | exact HB.out))); rintro e w60 ⟨v141, rfl, ho0, hb⟩; refine ⟨_, rfl, ?_⟩; have n0_ := Aside0.mk (Kd.R_elder' (by (with_reducible repeat (first | apply Kd.R_alloc | apply Kd.R_drewN | apply Kd.R_drew)); exact HO_50.out) (Kd.R_base ho0) hb); have n1_ := Aside0.mk (Kd.R_below (by (with_reducible repeat (first | apply Kd.R_alloc | apply Kd.R_drewN | apply Kd.R_drew)); exact HO_125001.out) hb); have n2_ := Aside0.mk (Kd.R_below (by (with_reducible repeat (first | apply Kd.R_alloc | apply Kd.R_drewN | apply Kd.R_drew)); exact HO_125002.out) hb); have n3_ := Aside0.mk (Kd.R_below (by (with_reducible repeat (first | apply Kd.R_alloc | apply Kd.R_drewN | apply Kd.R_drew)); exact HO_125003.out) hb); have n4_ := Aside0.mk (Kd.R_lower (Kd.R_new' ho0 (Kd.R_lt (by (with_reducible repeat (first | apply Kd.R_alloc | apply Kd.R_drewN | apply Kd.R_drew)); exact HO_50.out))) (below_size (by repeat (first | (with_reducible first | exact HB.out | apply below_alloc | apply pw_below_drewN | apply below_drew1 | refine below_set ?_ GE109.out | refine below_set ?_ GE124.out) | exact HB.out)))); have n5_ := Aside0.mk (blk_below (g := gb109) (o := .cells #[.string (⟨#[]⟩ : ByteArray), .slice none 0 0, .slice none 0 0, .slice none 0 0, .int .i64 0, .int .i64 0] 57 (0, 0)) (by (with_reducible repeat (first | refine blk_drewN ?_ _ | refine blk_drew ?_ | refine blk_alloc ?_ _)); exact BK109.out) hb); have n6_ := Aside0.mk (blk_below (g := gb124) (o := .cells #[.string (rdOf ByteArray.empty t110 0), u125001, u125002, .slice Ao25 y117.length co25, .int .i64 t121, .int .i64 t123] 57 (0, 0)) (by (with_reducible repeat (first | refine blk_drewN ?_ _ | refine blk_drew ?_ | refine blk_alloc ?_ _)); exact BK124.out) hb); have n7_ := Aside0.mk (below_step (by repeat (first | (with_reducible first | exact HB.out | apply below_alloc | apply pw_below_drewN | apply below_drew1 | refine below_set ?_ GE109.out | refine below_set ?_ GE124.out) | exact HB.out)) hb); clear HO_50; clear HO_125001; clear HO_125002; clear HO_125003; clear BK109; clear BK124; clear HB; have HO_50 := n0_; have HO_125001 := n1_; have HO_125002 := n2_; have HO_125003 := n3_; have HO142 := n4_; have BK109 := n5_; have BK124 := n6_; have HB := n7_; clear n0_ n1_ n2_ n3_ n4_ n5_ n6_ n7_; (try clear hb); (try clear hb2); (try clear hk); (try clear hi); (try clear ho0)))
                     have n0_ := Aside0.mk (Kd.R_drew HO_50.out)
                     have n1_ := Aside0.mk (Kd.R_drew HO_125001.out)
                     have n2_ := Aside0.mk (Kd.R_drew HO_125002.out)
                     have n3_ := Aside0.mk (Kd.R_drew HO_125003.out)
                     have n4_ := Aside0.mk (Kd.R_drew HO142.out)
                     have n5_ := Aside0.mk (blk_drew BK109.out)
                     have n6_ := Aside0.mk (blk_drew BK124.out)
                     have n7_ := Aside0.mk (below_drew1 HB.out)
                     clear HO_50
                     clear HO_125001
                     clear HO_125002
                     clear HO_125003
                     clear HO142
                     clear BK109
                     clear BK124
                     clear HB
                     have HO_50 := n0_
                     have HO_125001 := n1_
                     have HO_125002 := n2_
                     have HO_125003 := n3_
                     have HO142 := n4_
                     have BK109 := n5_
                     have BK124 := n6_
                     have HB := n7_
                     clear n0_ n1_ n2_ n3_ n4_ n5_ n6_ n7_
                     obtain ⟨Ao62, co62, eo62⟩ := Kd.R_slice HO142.out
                     (first | subst eo62 | (injection eo62 with f1_ f2_ f3_; have f4_ := f1_.symm; have f5_ := f3_.symm; clear f1_ f2_ f3_; subst f4_; subst f5_))
                     have p143 : 0 ≤ (0 : Int) := (by omega)
                     have q143 : 0 < (t140.length : Int) := ode
                     obtain ⟨ad143, e143, hx143_0⟩ := Kd.at_string (Kd.R_reads' HO142.out).2.2 0 p143 q143
                     cases e143
                     have qi143 : (0 < t140.length) = True := eq_true (by omega)
                     (try rw [show ((0 : Int)).toNat = 0 from rfl] at hx143_0)
                     (try rw [Addr.add_zero'] at hx143_0)
                     replace p143 := eq_true p143
                     replace q143 := eq_true q143
                     have p144 : 0 ≤ (1 : Int) := (by omega)
                     have q144 : 1 < (t140.length : Int) := ode
                     obtain ⟨ad144, e144, hx144_0⟩ := Kd.at_string (Kd.R_reads' HO142.out).2.2 1 p144 q144
                     obtain rfl : ad143 = ad144 := (by injection e144)
                     (try simp only [show (1 : Int).toNat = 1 from rfl, Nat.reduceMul, Nat.reduceEqDiff, Go.Addr.add, ↓reduceIte] at hx144_0)
                     have qi144 : (1 < t140.length) = True := eq_true (by omega)
                     (try rw [show ((1 : Int)).toNat = 1 from rfl] at hx144_0)
                     replace p144 := eq_true p144
                     replace q144 := eq_true q144
                     have p146 : 0 ≤ (2 : Int) := (by omega)
                     have q146 : 2 < (t140.length : Int) := ode
                     obtain ⟨ad146, e146, hx146_0⟩ := Kd.at_string (Kd.R_reads' HO142.out).2.2 2 p146 q146
                     obtain rfl : ad143 = ad146 := (by injection e146)
                     (try simp only [show (2 : Int).toNat = 2 from rfl, Nat.reduceMul, Nat.reduceEqDiff, Go.Addr.add, ↓reduceIte] at hx146_0)
                     have qi146 : (2 < t140.length) = True := eq_true (by omega)
                     (try rw [show ((2 : Int)).toNat = 2 from rfl] at hx146_0)
                     replace p146 := eq_true p146
                     replace q146 := eq_true q146
                     have p148 : 0 ≤ (3 : Int) := (by omega)
                     have q148 : 3 < (t140.length : Int) := ode
                     obtain ⟨ad148, e148, hx148_0⟩ := Kd.at_string (Kd.R_reads' HO142.out).2.2 3 p148 q148
                     obtain rfl : ad143 = ad148 := (by injection e148)
                     (try simp only [show (3 : Int).toNat = 3 from rfl, Nat.reduceMul, Nat.reduceEqDiff, Go.Addr.add, ↓reduceIte] at hx148_0)
                     have qi148 : (3 < t140.length) = True := eq_true (by omega)
                     (try rw [show ((3 : Int)).toNat = 3 from rfl] at hx148_0)
                     replace p148 := eq_true p148
                     replace q148 := eq_true q148
                     refine start_ (n := 22) (S := fun w' => w'.cell? ⟨gb124, 0, none⟩ = some (.string (rdOf ByteArray.empty t110 0)) ∧ w'.cell? ⟨gb124, 1, none⟩ = some (u125001) ∧ w'.cell? ⟨gb124, 2, none⟩ = some (u125002) ∧ w'.cell? ⟨gb124, 3, none⟩ = some (.slice Ao25 y117.length co25) ∧ w'.cell? ⟨gb124, 4, none⟩ = some (.int .i64 t121) ∧ w'.cell? ⟨gb124, 5, none⟩ = some (.int .i64 t123) ∧ w'.cell? ad143 = some (.string (rdOf ByteArray.empty t140 0)) ∧ w'.cell? ⟨ad143.block, ad143.off + 1, none⟩ = some (.string (rdOf ByteArray.empty t140 1)) ∧ w'.cell? ⟨ad143.block, ad143.off + 2, none⟩ = some (.string (rdOf ByteArray.empty t140 2)) ∧ w'.cell? ⟨ad143.block, ad143.off + 3, none⟩ = some (.string (rdOf ByteArray.empty t140 3))) (ds := [19, 21]) #[false, false, false, false, false, false, false, false, false, false, false, false, false, false, false, false, false, false, false, false, false, false] (by kernel_rfl) rfl rfl ⟨(blk_cell BK124.out 0).trans rfl, (blk_cell BK124.out 1).trans rfl, (blk_cell BK124.out 2).trans rfl, (blk_cell BK124.out 3).trans rfl, (blk_cell BK124.out 4).trans rfl, (blk_cell BK124.out 5).trans rfl, hx143_0, hx144_0, hx146_0, hx148_0⟩ (fun hHeld => ?_); refine with_tabW block_descriptor.tab12 block_descriptor.bits12 (fun HT_ HW_ => ?_)
                     generalize w60.drew = w61 at HO_50 HO_125001 HO_125002 HO_125003 HO142 BK109 BK124 HB hx143_0 hx144_0 hx146_0 hx148_0 hHeld ⊢
                     refine pure_ (i := 0) (N := some 58) (v := ?_) (a' := ?_) #[true, false, false, false, false, false, false, false, false, false, false, false, false, false, false, false, false, false, false, false, false, false] rfl rfl (any_of HT_.out (by kernel_rfl)) (fun _ _ _ h => h) (Or.inl ⟨by rfl, ?_⟩) ?_ ?_
                     rotate_left
                     ·
                      intro w'
                      go_simp
                      with_reducible rfl
                     rotate_left
                     ·
                      simp only [Act.put, List.setIfInBounds_toArray, List.set_cons_zero, List.set_cons_succ, i64_w, i32_w]
                      rfl
                     refine pure_ (i := 2) (N := some 60) (v := ?_) (a' := ?_) #[true, false, true, false, false, false, false, false, false, false, false, false, false, false, false, false, false, false, false, false, false, false] rfl rfl (any_of HT_.out (by kernel_rfl)) (fun _ _ _ h => h) (Or.inl ⟨by rfl, ?_⟩) ?_ ?_
                     rotate_left
                     ·
                      intro w'
                      go_simp
                      with_reducible rfl
                     rotate_left
                     ·
                      simp only [Act.put, List.setIfInBounds_toArray, List.set_cons_zero, List.set_cons_succ, i64_w, i32_w]
                      rfl
                     refine pure_ (i := 3) (N := some 61) (v := ?_) (a' := ?_) #[true, false, true, true, false, false, false, false, false, false, false, false, false, false, false, false, false, false, false, false, false, false] rfl rfl (any_of HT_.out (by kernel_rfl)) (fun _ _ _ h => h) (Or.inl ⟨by rfl, ?_⟩) ?_ ?_
                     rotate_left
                     ·
                      intro w'
                      go_simp
                      with_reducible rfl
                     rotate_left
                     ·
                      simp only [Act.put, List.setIfInBounds_toArray, List.set_cons_zero, List.set_cons_succ, i64_w, i32_w]
                      rfl
                     refine pure_ (i := 5) (N := some 63) (v := ?_) (a' := ?_) #[true, false, true, true, false, true, false, false, false, false, false, false, false, false, false, false, false, false, false, false, false, false] rfl rfl (any_of HT_.out (by kernel_rfl)) (fun _ _ _ h => h) (Or.inl ⟨by rfl, ?_⟩) ?_ ?_
                     rotate_left
                     ·
                      intro w'
                      go_simp
                      with_reducible rfl
                     rotate_left
                     ·
                      simp only [Act.put, List.setIfInBounds_toArray, List.set_cons_zero, List.set_cons_succ, i64_w, i32_w]
                      rfl
                     refine pure_ (i := 6) (N := some 64) (v := ?_) (a' := ?_) #[true, false, true, true, false, true, true, false, false, false, false, false, false, false, false, false, false, false, false, false, false, false] rfl rfl (any_of HT_.out (by kernel_rfl)) (fun _ _ _ h => h) (Or.inl ⟨by rfl, ?_⟩) ?_ ?_
                     rotate_left
                     ·
                      intro w'
                      go_simp
                      with_reducible rfl
                     rotate_left
                     ·
                      simp only [Act.put, List.setIfInBounds_toArray, List.set_cons_zero, List.set_cons_succ, i64_w, i32_w]
                      rfl
                     refine pure_ (i := 9) (N := some 67) (v := ?_) (a' := ?_) #[true, false, true, true, false, true, true, false, false, true, false, false, false, false, false, false, false, false, false, false, false, false] rfl rfl (any_of HT_.out (by kernel_rfl)) (fun _ _ _ h => h) (Or.inl ⟨by rfl, ?_⟩) ?_ ?_
                     rotate_left
                     ·
                      intro w'
                      go_simp
                      with_reducible rfl
                     rotate_left
                     ·
                      simp only [Act.put, List.setIfInBounds_toArray, List.set_cons_zero, List.set_cons_succ, i64_w, i32_w]
                      rfl
                     refine pure_ (i := 10) (N := some 68) (v := ?_) (a' := ?_) #[true, false, true, true, false, true, true, false, false, true, true, false, false, false, false, false, false, false, false, false, false, false] rfl rfl (any_of HT_.out (by kernel_rfl)) (fun _ _ _ h => h) (Or.inl ⟨by rfl, ?_⟩) ?_ ?_
                     rotate_left
                     ·
                      intro w'
                      go_simp
                      with_reducible rfl
                     rotate_left
                     ·
                      simp only [Act.put, List.setIfInBounds_toArray, List.set_cons_zero, List.set_cons_succ, i64_w, i32_w]
                      rfl
                     refine pure_ (i := 13) (N := some 71) (v := ?_) (a' := ?_) #[true, false, true, true, false, true, true, false, false, true, true, false, false, true, false, false, false, false, false, false, false, false] rfl rfl (any_of HT_.out (by kernel_rfl)) (fun _ _ _ h => h) (Or.inl ⟨by rfl, ?_⟩) ?_ ?_
                     rotate_left
                     ·
                      intro w'
                      go_simp
                      with_reducible rfl
                     rotate_left
                     ·
                      simp only [Act.put, List.setIfInBounds_toArray, List.set_cons_zero, List.set_cons_succ, i64_w, i32_w]
                      rfl
                     refine pure_ (i := 14) (N := some 72) (v := ?_) (a' := ?_) #[true, false, true, true, false, true, true, false, false, true, true, false, false, true, true, false, false, false, false, false, false, false] rfl rfl (any_of HT_.out (by kernel_rfl)) (fun _ _ _ h => h) (Or.inl ⟨by rfl, ?_⟩) ?_ ?_
                     rotate_left
                     ·
                      intro w'
                      go_simp
                      with_reducible rfl
                     rotate_left
                     ·
                      simp only [Act.put, List.setIfInBounds_toArray, List.set_cons_zero, List.set_cons_succ, i64_w, i32_w]
                      rfl
                     refine take_ (i := 1) (N := some 59) (v := ?_) (a' := ?_) #[true, true, true, true, false, true, true, false, false, true, true, false, false, true, true, false, false, false, false, false, false, false] rfl rfl (take_ofW HT_.out HW_.out (by kernel_rfl)) (fun _ _ _ h => h) (Or.inl ⟨by rfl, ?_⟩) hHeld ?_ ?_
                     rotate_left
                     ·
                      rintro w' ⟨s0, s1, s2, s3, s4, s5, s6, s7, s8, s9⟩
                      go_simp
                      with_reducible rfl
                     rotate_left
                     ·
                      simp only [Act.put, List.setIfInBounds_toArray, List.set_cons_zero, List.set_cons_succ, i64_w, i32_w]
                      rfl
                     refine take_ (i := 4) (N := some 62) (v := ?_) (a' := ?_) #[true, true, true, true, true, true, true, false, false, true, true, false, false, true, true, false, false, false, false, false, false, false] rfl rfl (take_ofW HT_.out HW_.out (by kernel_rfl)) (fun _ _ _ h => h) (Or.inl ⟨by rfl, ?_⟩) hHeld ?_ ?_
                     rotate_left
                     ·
                      rintro w' ⟨s0, s1, s2, s3, s4, s5, s6, s7, s8, s9⟩
                      go_simp
                      with_reducible rfl
                     rotate_left
                     ·
                      simp only [Act.put, List.setIfInBounds_toArray, List.set_cons_zero, List.set_cons_succ, i64_w, i32_w]
                      rfl
                     refine take_ (i := 7) (N := some 65) (v := ?_) (a' := ?_) #[true, true, true, true, true, true, true, true, false, true, true, false, false, true, true, false, false, false, false, false, false, false] rfl rfl (take_ofW HT_.out HW_.out (by kernel_rfl)) (fun _ _ _ h => h) (Or.inl ⟨by rfl, ?_⟩) hHeld ?_ ?_
                     rotate_left
                     ·
                      rintro w' ⟨s0, s1, s2, s3, s4, s5, s6, s7, s8, s9⟩
                      go_simp
                      with_reducible rfl
                     rotate_left
                     ·
                      simp only [Act.put, List.setIfInBounds_toArray, List.set_cons_zero, List.set_cons_succ, i64_w, i32_w]
                      rfl
                     refine take_ (i := 11) (N := some 69) (v := ?_) (a' := ?_) #[true, true, true, true, true, true, true, true, false, true, true, true, false, true, true, false, false, false, false, false, false, false] rfl rfl (take_ofW HT_.out HW_.out (by kernel_rfl)) (fun _ _ _ h => h) (Or.inl ⟨by rfl, ?_⟩) hHeld ?_ ?_
                     rotate_left
                     ·
                      rintro w' ⟨s0, s1, s2, s3, s4, s5, s6, s7, s8, s9⟩
                      go_simp
                      with_reducible rfl
                     rotate_left
                     ·
                      simp only [Act.put, List.setIfInBounds_toArray, List.set_cons_zero, List.set_cons_succ, i64_w, i32_w]
                      rfl
                     refine take_ (i := 15) (N := some 73) (v := ?_) (a' := ?_) #[true, true, true, true, true, true, true, true, false, true, true, true, false, true, true, true, false, false, false, false, false, false] rfl rfl (take_ofW HT_.out HW_.out (by kernel_rfl)) (fun _ _ _ h => h) (Or.inl ⟨by rfl, ?_⟩) hHeld ?_ ?_
                     rotate_left
                     ·
                      rintro w' ⟨s0, s1, s2, s3, s4, s5, s6, s7, s8, s9⟩
                      go_simp
                      with_reducible rfl
                     rotate_left
                     ·
                      simp only [Act.put, List.setIfInBounds_toArray, List.set_cons_zero, List.set_cons_succ, i64_w, i32_w]
                      rfl
                     refine one_ (i := 8) (N := some 66) #[true, true, true, true, true, true, true, true, true, true, true, true, false, true, true, true, false, false, false, false, false, false] rfl rfl (one_of HT_.out (by kernel_rfl)) (by decide) (fun K hK => ?_)
                     refine goes_ Tryd.func43 (by kernel_rfl) rfl #[.string (rdOf ByteArray.empty t140 1)] (by rfl) rfl rfl aeq ?_
                     with_reducible refine (block_number.calls (rdOf ByteArray.empty t140 1) t145 _ A54.out).mono ?_
                     rintro e w63 ⟨rfl, hb⟩
                     have HS6_ := (hb.cell (World.block_lt_of_cell? _ _ (hHeld.2.2.2.2.2.2.1))).trans (hHeld.2.2.2.2.2.2.1)
                     have HS7_ := (hb.cell (World.block_lt_of_cell? _ _ (hHeld.2.2.2.2.2.2.2.1))).trans (hHeld.2.2.2.2.2.2.2.1)
                     have HS8_ := (hb.cell (World.block_lt_of_cell? _ _ (hHeld.2.2.2.2.2.2.2.2.1))).trans (hHeld.2.2.2.2.2.2.2.2.1)
                     have HS9_ := (hb.cell (World.block_lt_of_cell? _ _ (hHeld.2.2.2.2.2.2.2.2.2))).trans (hHeld.2.2.2.2.2.2.2.2.2)
                     refine ⟨_, rfl, ?_⟩
                     have n0_ := Aside0.mk (Kd.R_below (by (with_reducible repeat (first | apply Kd.R_alloc | apply Kd.R_drewN | apply Kd.R_drew)); exact HO_50.out) hb)
                     have n1_ := Aside0.mk (Kd.R_below (by (with_reducible repeat (first | apply Kd.R_alloc | apply Kd.R_drewN | apply Kd.R_drew)); exact HO_125001.out) hb)
                     have n2_ := Aside0.mk (Kd.R_below (by (with_reducible repeat (first | apply Kd.R_alloc | apply Kd.R_drewN | apply Kd.R_drew)); exact HO_125002.out) hb)
                     have n3_ := Aside0.mk (Kd.R_below (by (with_reducible repeat (first | apply Kd.R_alloc | apply Kd.R_drewN | apply Kd.R_drew)); exact HO_125003.out) hb)
                     have n4_ := Aside0.mk (Kd.R_below (by (with_reducible repeat (first | apply Kd.R_alloc | apply Kd.R_drewN | apply Kd.R_drew)); exact HO142.out) hb)
                     have n5_ := Aside0.mk (blk_below (g := gb109) (o := .cells #[.string (⟨#[]⟩ : ByteArray), .slice none 0 0, .slice none 0 0, .slice none 0 0, .int .i64 0, .int .i64 0] 57 (0, 0)) (by (with_reducible repeat (first | refine blk_drewN ?_ _ | refine blk_drew ?_ | refine blk_alloc ?_ _)); exact BK109.out) hb)
                     have n6_ := Aside0.mk (blk_below (g := gb124) (o := .cells #[.string (rdOf ByteArray.empty t110 0), u125001, u125002, .slice Ao25 y117.length co25, .int .i64 t121, .int .i64 t123] 57 (0, 0)) (by (with_reducible repeat (first | refine blk_drewN ?_ _ | refine blk_drew ?_ | refine blk_alloc ?_ _)); exact BK124.out) hb)
                     have n7_ := Aside0.mk (below_step (by repeat (first | (with_reducible first | exact HB.out | apply below_alloc | apply pw_below_drewN | apply below_drew1 | refine below_set ?_ GE109.out | refine below_set ?_ GE124.out) | exact HB.out)) hb)
                     clear HO_50
                     clear HO_125001
                     clear HO_125002
                     clear HO_125003
                     clear HO142
                     clear BK109
                     clear BK124
                     clear HB
                     have HO_50 := n0_
                     have HO_125001 := n1_
                     have HO_125002 := n2_
                     have HO_125003 := n3_
                     have HO142 := n4_
                     have BK109 := n5_
                     have BK124 := n6_
                     have HB := n7_
                     clear n0_ n1_ n2_ n3_ n4_ n5_ n6_ n7_
                     (try clear hb)
                     (try clear hb2)
                     (try clear hk)
                     (try clear hi)
                     refine hK.out _ _ ⟨(blk_cell BK124.out 0).trans rfl, (blk_cell BK124.out 1).trans rfl, (blk_cell BK124.out 2).trans rfl, (blk_cell BK124.out 3).trans rfl, (blk_cell BK124.out 4).trans rfl, (blk_cell BK124.out 5).trans rfl, HS6_, HS7_, HS8_, HS9_⟩ (fun hHeld => ?_)
                     clear hK K
                     refine norm_ (a' := ?_) ?_ ?_
                     rotate_left
                     ·
                      show Act.put _ (some 66) _ = _
                      simp only [Act.put, List.setIfInBounds_toArray, List.set_cons_zero, List.set_cons_succ, i64_w, i32_w]
                      rfl
                     refine one_ (i := 12) (N := some 70) #[true, true, true, true, true, true, true, true, true, true, true, true, true, true, true, true, false, false, false, false, false, false] rfl rfl (one_of HT_.out (by kernel_rfl)) (by decide) (fun K hK => ?_)
                     refine goes_ Tryd.func43 (by kernel_rfl) rfl #[.string (rdOf ByteArray.empty t140 2)] (by rfl) rfl rfl aeq ?_
                     with_reducible refine (block_number.calls (rdOf ByteArray.empty t140 2) t147 _ A56.out).mono ?_
                     rintro e w64 ⟨rfl, hb⟩
                     have HS6_ := (hb.cell (World.block_lt_of_cell? _ _ (hHeld.2.2.2.2.2.2.1))).trans (hHeld.2.2.2.2.2.2.1)
                     have HS7_ := (hb.cell (World.block_lt_of_cell? _ _ (hHeld.2.2.2.2.2.2.2.1))).trans (hHeld.2.2.2.2.2.2.2.1)
                     have HS8_ := (hb.cell (World.block_lt_of_cell? _ _ (hHeld.2.2.2.2.2.2.2.2.1))).trans (hHeld.2.2.2.2.2.2.2.2.1)
                     have HS9_ := (hb.cell (World.block_lt_of_cell? _ _ (hHeld.2.2.2.2.2.2.2.2.2))).trans (hHeld.2.2.2.2.2.2.2.2.2)
                     refine ⟨_, rfl, ?_⟩
                     have n0_ := Aside0.mk (Kd.R_below (by (with_reducible repeat (first | apply Kd.R_alloc | apply Kd.R_drewN | apply Kd.R_drew)); exact HO_50.out) hb)
                     have n1_ := Aside0.mk (Kd.R_below (by (with_reducible repeat (first | apply Kd.R_alloc | apply Kd.R_drewN | apply Kd.R_drew)); exact HO_125001.out) hb)
                     have n2_ := Aside0.mk (Kd.R_below (by (with_reducible repeat (first | apply Kd.R_alloc | apply Kd.R_drewN | apply Kd.R_drew)); exact HO_125002.out) hb)
                     have n3_ := Aside0.mk (Kd.R_below (by (with_reducible repeat (first | apply Kd.R_alloc | apply Kd.R_drewN | apply Kd.R_drew)); exact HO_125003.out) hb)
                     have n4_ := Aside0.mk (Kd.R_below (by (with_reducible repeat (first | apply Kd.R_alloc | apply Kd.R_drewN | apply Kd.R_drew)); exact HO142.out) hb)
                     have n5_ := Aside0.mk (blk_below (g := gb109) (o := .cells #[.string (⟨#[]⟩ : ByteArray), .slice none 0 0, .slice none 0 0, .slice none 0 0, .int .i64 0, .int .i64 0] 57 (0, 0)) (by (with_reducible repeat (first | refine blk_drewN ?_ _ | refine blk_drew ?_ | refine blk_alloc ?_ _)); exact BK109.out) hb)
                     have n6_ := Aside0.mk (blk_below (g := gb124) (o := .cells #[.string (rdOf ByteArray.empty t110 0), u125001, u125002, .slice Ao25 y117.length co25, .int .i64 t121, .int .i64 t123] 57 (0, 0)) (by (with_reducible repeat (first | refine blk_drewN ?_ _ | refine blk_drew ?_ | refine blk_alloc ?_ _)); exact BK124.out) hb)
                     have n7_ := Aside0.mk (below_step (by repeat (first | (with_reducible first | exact HB.out | apply below_alloc | apply pw_below_drewN | apply below_drew1 | refine below_set ?_ GE109.out | refine below_set ?_ GE124.out) | exact HB.out)) hb)
                     clear HO_50
                     clear HO_125001
                     clear HO_125002
                     clear HO_125003
                     clear HO142
                     clear BK109
                     clear BK124
                     clear HB
                     have HO_50 := n0_
                     have HO_125001 := n1_
                     have HO_125002 := n2_
                     have HO_125003 := n3_
                     have HO142 := n4_
                     have BK109 := n5_
                     have BK124 := n6_
                     have HB := n7_
                     clear n0_ n1_ n2_ n3_ n4_ n5_ n6_ n7_
                     (try clear hb)
                     (try clear hb2)
                     (try clear hk)
                     (try clear hi)
                     refine hK.out _ _ ⟨(blk_cell BK124.out 0).trans rfl, (blk_cell BK124.out 1).trans rfl, (blk_cell BK124.out 2).trans rfl, (blk_cell BK124.out 3).trans rfl, (blk_cell BK124.out 4).trans rfl, (blk_cell BK124.out 5).trans rfl, HS6_, HS7_, HS8_, HS9_⟩ (fun hHeld => ?_)
                     clear hK K
                     refine norm_ (a' := ?_) ?_ ?_
                     rotate_left
                     ·
                      show Act.put _ (some 70) _ = _
                      simp only [Act.put, List.setIfInBounds_toArray, List.set_cons_zero, List.set_cons_succ, i64_w, i32_w]
                      rfl
                     refine one_ (i := 16) (N := some 74) #[true, true, true, true, true, true, true, true, true, true, true, true, true, true, true, true, true, false, false, false, false, false] rfl rfl (one_of HT_.out (by kernel_rfl)) (by decide) (fun K hK => ?_)
                     refine goes_ Tryd.func43 (by kernel_rfl) rfl #[.string (rdOf ByteArray.empty t140 3)] (by rfl) rfl rfl aeq ?_
                     with_reducible refine (block_number.calls (rdOf ByteArray.empty t140 3) t149 _ A58.out).mono ?_
                     rintro e w65 ⟨rfl, hb⟩
                     have HS6_ := (hb.cell (World.block_lt_of_cell? _ _ (hHeld.2.2.2.2.2.2.1))).trans (hHeld.2.2.2.2.2.2.1)
                     have HS7_ := (hb.cell (World.block_lt_of_cell? _ _ (hHeld.2.2.2.2.2.2.2.1))).trans (hHeld.2.2.2.2.2.2.2.1)
                     have HS8_ := (hb.cell (World.block_lt_of_cell? _ _ (hHeld.2.2.2.2.2.2.2.2.1))).trans (hHeld.2.2.2.2.2.2.2.2.1)
                     have HS9_ := (hb.cell (World.block_lt_of_cell? _ _ (hHeld.2.2.2.2.2.2.2.2.2))).trans (hHeld.2.2.2.2.2.2.2.2.2)
                     refine ⟨_, rfl, ?_⟩
                     have n0_ := Aside0.mk (Kd.R_below (by (with_reducible repeat (first | apply Kd.R_alloc | apply Kd.R_drewN | apply Kd.R_drew)); exact HO_50.out) hb)
                     have n1_ := Aside0.mk (Kd.R_below (by (with_reducible repeat (first | apply Kd.R_alloc | apply Kd.R_drewN | apply Kd.R_drew)); exact HO_125001.out) hb)
                     have n2_ := Aside0.mk (Kd.R_below (by (with_reducible repeat (first | apply Kd.R_alloc | apply Kd.R_drewN | apply Kd.R_drew)); exact HO_125002.out) hb)
                     have n3_ := Aside0.mk (Kd.R_below (by (with_reducible repeat (first | apply Kd.R_alloc | apply Kd.R_drewN | apply Kd.R_drew)); exact HO_125003.out) hb)
                     have n4_ := Aside0.mk (Kd.R_below (by (with_reducible repeat (first | apply Kd.R_alloc | apply Kd.R_drewN | apply Kd.R_drew)); exact HO142.out) hb)
                     have n5_ := Aside0.mk (blk_below (g := gb109) (o := .cells #[.string (⟨#[]⟩ : ByteArray), .slice none 0 0, .slice none 0 0, .slice none 0 0, .int .i64 0, .int .i64 0] 57 (0, 0)) (by (with_reducible repeat (first | refine blk_drewN ?_ _ | refine blk_drew ?_ | refine blk_alloc ?_ _)); exact BK109.out) hb)
                     have n6_ := Aside0.mk (blk_below (g := gb124) (o := .cells #[.string (rdOf ByteArray.empty t110 0), u125001, u125002, .slice Ao25 y117.length co25, .int .i64 t121, .int .i64 t123] 57 (0, 0)) (by (with_reducible repeat (first | refine blk_drewN ?_ _ | refine blk_drew ?_ | refine blk_alloc ?_ _)); exact BK124.out) hb)
                     have n7_ := Aside0.mk (below_step (by repeat (first | (with_reducible first | exact HB.out | apply below_alloc | apply pw_below_drewN | apply below_drew1 | refine below_set ?_ GE109.out | refine below_set ?_ GE124.out) | exact HB.out)) hb)
                     clear HO_50
                     clear HO_125001
                     clear HO_125002
                     clear HO_125003
                     clear HO142
                     clear BK109
                     clear BK124
                     clear HB
                     have HO_50 := n0_
                     have HO_125001 := n1_
                     have HO_125002 := n2_
                     have HO_125003 := n3_
                     have HO142 := n4_
                     have BK109 := n5_
                     have BK124 := n6_
                     have HB := n7_
                     clear n0_ n1_ n2_ n3_ n4_ n5_ n6_ n7_
                     (try clear hb)
                     (try clear hb2)
                     (try clear hk)
                     (try clear hi)
                     refine hK.out _ _ ⟨(blk_cell BK124.out 0).trans rfl, (blk_cell BK124.out 1).trans rfl, (blk_cell BK124.out 2).trans rfl, (blk_cell BK124.out 3).trans rfl, (blk_cell BK124.out 4).trans rfl, (blk_cell BK124.out 5).trans rfl, HS6_, HS7_, HS8_, HS9_⟩ (fun hHeld => ?_)
                     clear hK K
                     refine norm_ (a' := ?_) ?_ ?_
                     rotate_left
                     ·
                      show Act.put _ (some 74) _ = _
                      simp only [Act.put, List.setIfInBounds_toArray, List.set_cons_zero, List.set_cons_succ, i64_w, i32_w]
                      rfl
                     refine pure_ (i := 17) (N := some 75) (v := ?_) (a' := ?_) #[true, true, true, true, true, true, true, true, true, true, true, true, true, true, true, true, true, true, false, false, false, false] rfl rfl (any_of HT_.out (by kernel_rfl)) (fun _ _ _ h => h) (Or.inl ⟨by rfl, ?_⟩) ?_ ?_
                     rotate_left
                     ·
                      intro w'
                      go_simp
                      with_reducible rfl
                     rotate_left
                     ·
                      simp only [Act.put, List.setIfInBounds_toArray, List.set_cons_zero, List.set_cons_succ, i64_w, i32_w]
                      rfl
                     refine one_ (i := 18) (N := some 76) #[true, true, true, true, true, true, true, true, true, true, true, true, true, true, true, true, true, true, true, false, false, false] rfl rfl (one_of HT_.out (by kernel_rfl)) (by decide) (fun K hK => ?_)
                     refine value_ (w1 := ?_) (v := ?_) (by rfl) rfl ?_ ?_
                     rotate_left 2
                     ·
                      go_simp
                      constructor
                      ·
                       rfl
                      ·
                       rfl
                     refine hK.out _ _ ⟨(blk_cell (blk_alloc BK124.out _) 0).trans rfl, (blk_cell (blk_alloc BK124.out _) 1).trans rfl, (blk_cell (blk_alloc BK124.out _) 2).trans rfl, (blk_cell (blk_alloc BK124.out _) 3).trans rfl, (blk_cell (blk_alloc BK124.out _) 4).trans rfl, (blk_cell (blk_alloc BK124.out _) 5).trans rfl, (World.cell?_alloc_lt _ _ _ (World.block_lt_of_cell? _ _ (hHeld.2.2.2.2.2.2.1))).trans (hHeld.2.2.2.2.2.2.1), (World.cell?_alloc_lt _ _ _ (World.block_lt_of_cell? _ _ (hHeld.2.2.2.2.2.2.2.1))).trans (hHeld.2.2.2.2.2.2.2.1), (World.cell?_alloc_lt _ _ _ (World.block_lt_of_cell? _ _ (hHeld.2.2.2.2.2.2.2.2.1))).trans (hHeld.2.2.2.2.2.2.2.2.1), (World.cell?_alloc_lt _ _ _ (World.block_lt_of_cell? _ _ (hHeld.2.2.2.2.2.2.2.2.2))).trans (hHeld.2.2.2.2.2.2.2.2.2)⟩ (fun hHeld => ?_)
                     clear hK K
                     refine norm_ (a' := ?_) ?_ ?_
                     rotate_left
                     ·
                      show Act.put _ (some 76) _ = _
                      simp only [Act.put, List.setIfInBounds_toArray, List.set_cons_zero, List.set_cons_succ, i64_w, i32_w]
                      rfl
                     refine last_ (i := 19) (N := some 77) #[true, true, true, true, true, true, true, true, true, true, true, true, true, true, true, true, true, true, true, true, false, false] rfl rfl (one_of HT_.out (by kernel_rfl)) (by decide) (fun K hK => ?_)
                     refine Kd.R_append_step k61 (w0 := w) w.heap.size (by rfl) (.tmp 59) (.tmp 76) 54 61 (.agg #[(.string ⟨#[]⟩), (.int .i64 0), (.int .i64 0), (.int .i64 0)]) 40 rfl Tryd.underlying54 info61 rfl (by decide) (by omega) u125001 x125001_2 (⟨rdOf ByteArray.empty t140 0, t145, t147, t149⟩ : S61) [.string (rdOf ByteArray.empty t140 0), .int .i64 t145, .int .i64 t147, .int .i64 t149] (fun _ => True) (fun _ => False) rfl rfl ?aP (fun _ hk => hk.elim) ?aF ?aO ?aB ?aS ?aL ?_
                     (case aP => exact k61_mkM _ _ _ (⟨rdOf ByteArray.empty t140 0, t145, t147, t149⟩ : S61))
                     (case aB => exact (by repeat (first | (with_reducible first | exact HB.out | apply below_alloc | apply pw_below_drewN | apply below_drew1 | refine below_set ?_ GE109.out | refine below_set ?_ GE124.out) | exact HB.out)))
                     (case aF => exact (fun _ _ => trivial))
                     (case aO => exact (by (with_reducible repeat (first | apply Kd.R_alloc | apply Kd.R_drewN | apply Kd.R_drew)); exact HO_125001.out))
                     (case aS => exact (below_size (by repeat (first | (with_reducible first | exact HB.out | apply below_alloc | apply pw_below_drewN | apply below_drew1 | refine below_set ?_ GE109.out | refine below_set ?_ GE124.out) | exact HB.out))))
                     (case aL => have := LMc59.out; omega)
                     intro v151 w66 ho hb hg hat
                     rw [← Ny150.out] at ho
                     have n0_ := Aside0.mk (Kd.R_over' (by (with_reducible repeat (first | apply Kd.R_alloc | apply Kd.R_drewN | apply Kd.R_drew)); exact HO_50.out) (Kd.R_typed (by (with_reducible repeat (first | apply Kd.R_alloc | apply Kd.R_drewN | apply Kd.R_drew)); exact HO_125001.out)) (by decide) hg)
                     have n1_ := Aside0.mk (Kd.R_over' (by (with_reducible repeat (first | apply Kd.R_alloc | apply Kd.R_drewN | apply Kd.R_drew)); exact HO_125002.out) (Kd.R_typed (by (with_reducible repeat (first | apply Kd.R_alloc | apply Kd.R_drewN | apply Kd.R_drew)); exact HO_125001.out)) (by decide) hg)
                     have n2_ := Aside0.mk (Kd.R_over' (by (with_reducible repeat (first | apply Kd.R_alloc | apply Kd.R_drewN | apply Kd.R_drew)); exact HO_125003.out) (Kd.R_typed (by (with_reducible repeat (first | apply Kd.R_alloc | apply Kd.R_drewN | apply Kd.R_drew)); exact HO_125001.out)) (by decide) hg)
                     have n3_ := Aside0.mk (blk_grown (g := gb109) (o := .cells #[.string (⟨#[]⟩ : ByteArray), .slice none 0 0, .slice none 0 0, .slice none 0 0, .int .i64 0, .int .i64 0] 57 (0, 0)) (by (with_reducible repeat (first | refine blk_drewN ?_ _ | refine blk_drew ?_ | refine blk_alloc ?_ _)); exact BK109.out) hg (Kd.R_ne HO_125001.out BK109.out (by decide)))
                     have n4_ := Aside0.mk (blk_grown (g := gb124) (o := .cells #[.string (rdOf ByteArray.empty t110 0), u125001, u125002, .slice Ao25 y117.length co25, .int .i64 t121, .int .i64 t123] 57 (0, 0)) (by (with_reducible repeat (first | refine blk_drewN ?_ _ | refine blk_drew ?_ | refine blk_alloc ?_ _)); exact BK124.out) hg (Kd.R_ne HO_125001.out BK124.out (by decide)))
                     have n5_ := Aside0.mk (Kd.R_over' (by (with_reducible repeat (first | apply Kd.R_alloc | apply Kd.R_drewN | apply Kd.R_drew)); exact HO142.out) (Kd.R_typed (by (with_reducible repeat (first | apply Kd.R_alloc | apply Kd.R_drewN | apply Kd.R_drew)); exact HO_125001.out)) (by decide) hg)
                     have n6_ := Aside0.mk (hb)
                     have n7_ := Aside0.mk (ho)
                     clear HO_50
                     clear HO_125002
                     clear HO_125003
                     clear BK109
                     clear BK124
                     clear HO142
                     clear HB
                     clear HO_125001
                     have HO_50 := n0_
                     have HO_125002 := n1_
                     have HO_125003 := n2_
                     have BK109 := n3_
                     have BK124 := n4_
                     have HO142 := n5_
                     have HB := n6_
                     have HO152 := n7_
                     clear n0_ n1_ n2_ n3_ n4_ n5_ n6_ n7_
                     clear ho hb hg hat
                     obtain ⟨Ao67, co67, eo67⟩ := Kd.R_slice HO152.out
                     (first | subst eo67 | (injection eo67 with f1_ f2_ f3_; have f4_ := f1_.symm; have f5_ := f3_.symm; clear f1_ f2_ f3_; subst f4_; subst f5_))
                     refine hK.out _ _ ?_
                     clear hK K
                     refine norm_ (a' := ?_) ?_ ?_
                     rotate_left
                     ·
                      show Act.put _ (some 77) _ = _
                      simp only [Act.put, List.setIfInBounds_toArray, List.set_cons_zero, List.set_cons_succ, i64_w, i32_w]
                      rfl
                     refine pure_ (i := 20) (N := some 78) (v := ?_) (a' := ?_) #[true, true, true, true, true, true, true, true, true, true, true, true, true, true, true, true, true, true, true, true, true, false] rfl rfl (any_of HT_.out (by kernel_rfl)) (fun _ _ _ h => h) (Or.inl ⟨by rfl, ?_⟩) ?_ ?_
                     rotate_left
                     ·
                      intro w'
                      go_simp
                      with_reducible rfl
                     rotate_left
                     ·
                      simp only [Act.put, List.setIfInBounds_toArray, List.set_cons_zero, List.set_cons_succ, i64_w, i32_w]
                      rfl
                     refine last_ (i := 21) (N := none) #[true, true, true, true, true, true, true, true, true, true, true, true, true, true, true, true, true, true, true, true, true, true] rfl rfl (one_of HT_.out (by kernel_rfl)) (by decide) (fun K hK => ?_)
                     have hs68 : w66.cell? ⟨gb124, 1, none⟩ = some (u125001) := (blk_cell BK124.out 1).trans rfl
                     have hfs68 := blk_frozen BK124.out 1
                     have hns68_0 := NB109_124.out
                     have hms68_0 := NB124_109.out
                     refine skip_ (w1 := ?_) (by rfl) rfl ?_ ?_
                     rotate_left
                     ·
                      go_simp
                      rfl
                     refine hK.out _ _ ?_
                     clear hK K
                     refine done_ (done_of HT_.out (by kernel_rfl)) ?_
                     try go_wp2
                     go_roundg k2
                     case measure => have := HK1.out; have := HK2.out; omega
                     case rel => exact ⟨(wrap64 (x52_2 + 1)), (y150), (.slice Ao67 y150.length co67), (by first | rfl | (simp; done) | (simp [*]; done)), H', ⟨by have := HK1.out; have := HK2.out; omega⟩, ⟨by (with_reducible repeat (first | apply Kd.R_alloc | apply Kd.R_drewN | apply Kd.R_drew)); exact Kd.R_mono (Kd.R_far (p := ⟨gb124, 1, none⟩) (Kd.R_types HO_50.out BK124.out (by decide)) (fun _ hk => hk.2) (.slice Ao67 y150.length co67)) (fun _ hk => trivial)⟩, ⟨by (with_reducible repeat (first | apply Kd.R_alloc | apply Kd.R_drewN | apply Kd.R_drew)); exact Kd.R_mono (Kd.R_far (p := ⟨gb124, 1, none⟩) (Kd.R_types HO152.out BK124.out (by decide)) (fun _ hk => hk.2) (.slice Ao67 y150.length co67)) (fun _ hk => trivial)⟩, ⟨by (with_reducible repeat (first | apply Kd.R_alloc | apply Kd.R_drewN | apply Kd.R_drew)); exact Kd.R_mono (Kd.R_far (p := ⟨gb124, 1, none⟩) (Kd.R_types HO_125002.out BK124.out (by decide)) (fun _ hk => hk.2) (.slice Ao67 y150.length co67)) (fun _ hk => hk.1)⟩, ⟨by (with_reducible repeat (first | apply Kd.R_alloc | apply Kd.R_drewN | apply Kd.R_drew)); exact Kd.R_mono (Kd.R_far (p := ⟨gb124, 1, none⟩) (Kd.R_types HO_125003.out BK124.out (by decide)) (fun _ hk => hk.2) (.slice Ao67 y150.length co67)) (fun _ hk => hk.1)⟩, ⟨by (with_reducible repeat (first | refine blk_drewN ?_ _ | refine blk_drew ?_ | refine blk_alloc ?_ _)); refine blk_far ?_ NB109_124.out _; (with_reducible repeat (first | refine blk_drewN ?_ _ | refine blk_drew ?_ | refine blk_alloc ?_ _)); exact BK109.out⟩, ⟨by (with_reducible repeat (first | refine blk_drewN ?_ _ | refine blk_drew ?_ | refine blk_alloc ?_ _)); refine blk_put (cs := #[.string (rdOf ByteArray.empty t110 0), u125001, u125002, .slice Ao25 y117.length co25, .int .i64 t121, .int .i64 t123]) ?_ 1 _ rfl; (with_reducible repeat (first | refine blk_drewN ?_ _ | refine blk_drew ?_ | refine blk_alloc ?_ _)); exact BK124.out⟩, ⟨by repeat (first | (with_reducible first | exact HB.out | apply below_alloc | apply pw_below_drewN | apply below_drew1 | refine below_set ?_ GE109.out | refine below_set ?_ GE124.out) | exact HB.out)⟩⟩
                    ·
                     rw [if_neg c59] at H
                     exact absurd H (by simp)
                   ·
                    rw [if_neg c57] at H
                    exact absurd H (by simp)
                  ·
                   rw [if_neg c55] at H
                   exact absurd H (by simp)
                 ·
                  rw [if_neg c53] at H
                  exact absurd H (by simp)
                ·
                 rw [if_neg c52] at H
                 exact absurd H (by simp)
               ·
                rw [if_neg c50] at H
                exact absurd H (by simp)
              ·
               rw [if_neg c49] at H
               exact absurd H (by simp)
             ·
              rw [if_neg c48] at H
              have c48b0 : decide (x52_2 < (t136.length : Int)) = false := decide_eq_false c48
              clear c48
              simp only [Option.some.injEq, Prod.mk.injEq] at H
              obtain ⟨rfl, rfl, rfl, rfl, rfl, rfl⟩ := H
              have hnb69 := NB124_109.out
              have hnc69 := NB109_124.out
              have hcz70_0 : wr.cell? ⟨gb124, 0, none⟩ = some (.string (rdOf ByteArray.empty t110 0)) := (blk_cell BK124.out 0).trans rfl
              have hcz70_1 : wr.cell? ⟨gb124, 1, none⟩ = some (u125001) := (blk_cell BK124.out 1).trans rfl
              have hcz70_2 : wr.cell? ⟨gb124, 2, none⟩ = some (u125002) := (blk_cell BK124.out 2).trans rfl
              have hcz70_3 : wr.cell? ⟨gb124, 3, none⟩ = some (.slice Ao25 y117.length co25) := (blk_cell BK124.out 3).trans rfl
              have hcz70_4 : wr.cell? ⟨gb124, 4, none⟩ = some (.int .i64 t121) := (blk_cell BK124.out 4).trans rfl
              have hcz70_5 : wr.cell? ⟨gb124, 5, none⟩ = some (.int .i64 t123) := (blk_cell BK124.out 5).trans rfl
              have hfz70_0 := blk_frozen BK124.out 0
              have hfz70_1 := blk_frozen BK124.out 1
              have hfz70_2 := blk_frozen BK124.out 2
              have hfz70_3 := blk_frozen BK124.out 3
              have hfz70_4 := blk_frozen BK124.out 4
              have hfz70_5 := blk_frozen BK124.out 5
              have hcz71_0 : wr.cell? ⟨gb109, 0, none⟩ = some (.string (⟨#[]⟩ : ByteArray)) := (blk_cell BK109.out 0).trans rfl
              have hcz71_1 : wr.cell? ⟨gb109, 1, none⟩ = some (.slice none 0 0) := (blk_cell BK109.out 1).trans rfl
              have hcz71_2 : wr.cell? ⟨gb109, 2, none⟩ = some (.slice none 0 0) := (blk_cell BK109.out 2).trans rfl
              have hcz71_3 : wr.cell? ⟨gb109, 3, none⟩ = some (.slice none 0 0) := (blk_cell BK109.out 3).trans rfl
              have hcz71_4 : wr.cell? ⟨gb109, 4, none⟩ = some (.int .i64 0) := (blk_cell BK109.out 4).trans rfl
              have hcz71_5 : wr.cell? ⟨gb109, 5, none⟩ = some (.int .i64 0) := (blk_cell BK109.out 5).trans rfl
              have hfz71_0 := blk_frozen BK109.out 0
              have hfz71_1 := blk_frozen BK109.out 1
              have hfz71_2 := blk_frozen BK109.out 2
              have hfz71_3 := blk_frozen BK109.out 3
              have hfz71_4 := blk_frozen BK109.out 4
              have hfz71_5 := blk_frozen BK109.out 5
              obtain ⟨Ao72, co72, eo72⟩ := Kd.R_slice HO_125001.out
              subst eo72
              obtain ⟨Ao73, co73, eo73⟩ := Kd.R_slice HO_125002.out
              subst eo73
              go_wp2
              refine bodyPost_ret (results_cell_row rfl _ _ gb109 57 #[.string (rdOf ByteArray.empty t110 0), .slice Ao72 x125001_2.length co72, .slice Ao73 x125002_1.length co73, .slice Ao25 y117.length co25, .int .i64 t121, .int .i64 t123] (0, 0) _ rfl (by (with_reducible repeat (first | refine blk_drewN ?_ _ | refine blk_drew ?_ | refine blk_alloc ?_ _)); refine blk_put (cs := #[.string (rdOf ByteArray.empty t110 0), .slice Ao72 x125001_2.length co72, .slice Ao73 x125002_1.length co73, .slice Ao25 y117.length co25, .int .i64 t121, .int .i64 0]) ?_ 5 _ rfl; (with_reducible repeat (first | refine blk_drewN ?_ _ | refine blk_drew ?_ | refine blk_alloc ?_ _)); refine blk_put (cs := #[.string (rdOf ByteArray.empty t110 0), .slice Ao72 x125001_2.length co72, .slice Ao73 x125002_1.length co73, .slice Ao25 y117.length co25, .int .i64 0, .int .i64 0]) ?_ 4 _ rfl; (with_reducible repeat (first | refine blk_drewN ?_ _ | refine blk_drew ?_ | refine blk_alloc ?_ _)); refine blk_put (cs := #[.string (rdOf ByteArray.empty t110 0), .slice Ao72 x125001_2.length co72, .slice Ao73 x125002_1.length co73, .slice none 0 0, .int .i64 0, .int .i64 0]) ?_ 3 _ rfl; (with_reducible repeat (first | refine blk_drewN ?_ _ | refine blk_drew ?_ | refine blk_alloc ?_ _)); refine blk_put (cs := #[.string (rdOf ByteArray.empty t110 0), .slice Ao72 x125001_2.length co72, .slice none 0 0, .slice none 0 0, .int .i64 0, .int .i64 0]) ?_ 2 _ rfl; (with_reducible repeat (first | refine blk_drewN ?_ _ | refine blk_drew ?_ | refine blk_alloc ?_ _)); refine blk_put (cs := #[.string (rdOf ByteArray.empty t110 0), .slice none 0 0, .slice none 0 0, .slice none 0 0, .int .i64 0, .int .i64 0]) ?_ 1 _ rfl; (with_reducible repeat (first | refine blk_drewN ?_ _ | refine blk_drew ?_ | refine blk_alloc ?_ _)); refine blk_put (cs := #[.string (⟨#[]⟩ : ByteArray), .slice none 0 0, .slice none 0 0, .slice none 0 0, .int .i64 0, .int .i64 0]) ?_ 0 _ rfl; (with_reducible repeat (first | refine blk_drewN ?_ _ | refine blk_drew ?_ | refine blk_alloc ?_ _)); exact BK109.out) Tryd.underlying57 rfl (by kernel_rfl)) rfl ?_
              exact ⟨_, _, _, by first | rfl | (simp [errW_none, errW_some] <;> rfl) | (simp [*, errW_none, errW_some] <;> rfl), by (with_reducible repeat (first | apply Kd.R_alloc | apply Kd.R_drewN | apply Kd.R_drew)); exact Kd.R_mono (Kd.R_far (p := ⟨gb109, 5, none⟩) (Kd.R_far (p := ⟨gb109, 4, none⟩) (Kd.R_far (p := ⟨gb109, 3, none⟩) (Kd.R_far (p := ⟨gb109, 2, none⟩) (Kd.R_far (p := ⟨gb109, 1, none⟩) (Kd.R_far (p := ⟨gb109, 0, none⟩) (Kd.R_types HO_125001.out BK109.out (by decide)) (fun _ hk => hk.2) (.string (rdOf ByteArray.empty t110 0))) (fun _ hk => hk.2) (.slice Ao72 x125001_2.length co72)) (fun _ hk => hk.2) (.slice Ao73 x125002_1.length co73)) (fun _ hk => hk.2) (.slice Ao25 y117.length co25)) (fun _ hk => hk.2) (.int .i64 t121)) (fun _ hk => hk.2) (.int .i64 t123)) (fun _ hk => trivial), by (with_reducible repeat (first | apply Kd.R_alloc | apply Kd.R_drewN | apply Kd.R_drew)); exact Kd.R_mono (Kd.R_far (p := ⟨gb109, 5, none⟩) (Kd.R_far (p := ⟨gb109, 4, none⟩) (Kd.R_far (p := ⟨gb109, 3, none⟩) (Kd.R_far (p := ⟨gb109, 2, none⟩) (Kd.R_far (p := ⟨gb109, 1, none⟩) (Kd.R_far (p := ⟨gb109, 0, none⟩) (Kd.R_types HO_125002.out BK109.out (by decide)) (fun _ hk => hk.2) (.string (rdOf ByteArray.empty t110 0))) (fun _ hk => hk.2) (.slice Ao72 x125001_2.length co72)) (fun _ hk => hk.2) (.slice Ao73 x125002_1.length co73)) (fun _ hk => hk.2) (.slice Ao25 y117.length co25)) (fun _ hk => hk.2) (.int .i64 t121)) (fun _ hk => hk.2) (.int .i64 t123)) (fun _ hk => hk.1), by (with_reducible repeat (first | apply Kd.R_alloc | apply Kd.R_drewN | apply Kd.R_drew)); exact Kd.R_mono (Kd.R_far (p := ⟨gb109, 5, none⟩) (Kd.R_far (p := ⟨gb109, 4, none⟩) (Kd.R_far (p := ⟨gb109, 3, none⟩) (Kd.R_far (p := ⟨gb109, 2, none⟩) (Kd.R_far (p := ⟨gb109, 1, none⟩) (Kd.R_far (p := ⟨gb109, 0, none⟩) (Kd.R_types HO_125003.out BK109.out (by decide)) (fun _ hk => hk.2) (.string (rdOf ByteArray.empty t110 0))) (fun _ hk => hk.2) (.slice Ao72 x125001_2.length co72)) (fun _ hk => hk.2) (.slice Ao73 x125002_1.length co73)) (fun _ hk => hk.2) (.slice Ao25 y117.length co25)) (fun _ hk => hk.2) (.int .i64 t121)) (fun _ hk => hk.2) (.int .i64 t123)) (fun _ hk => hk.1), by repeat (first | (with_reducible first | exact HB.out | apply below_alloc | apply pw_below_drewN | apply below_drew1 | refine below_set ?_ GE109.out | refine below_set ?_ GE124.out) | exact HB.out)⟩
          ·
           rw [if_neg c44] at H
           exact absurd H (by simp)
      ·
       rw [if_neg c11] at H
       exact absurd H (by simp)
     ·
      rw [if_neg c9] at H
      exact absurd H (by simp)
    ·
     rw [if_neg c7] at H
     exact absurd H (by simp)
   ·
    rw [if_neg c5] at H
    exact absurd H (by simp)
  ·
   rw [if_neg c4] at H
   exact absurd H (by simp)
 ·
  rw [if_neg c3] at H
  exact absurd H (by simp)

end Go.Proofs.YtcpncmjjbfbdhaaDoor.R
