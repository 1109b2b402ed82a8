-- Written by this claim's own program out of the translation; not trusted: Lean checks it.
import Derived.Test.YtcpncmjjbfbdhaaDoorRx0
import Derived.Test.YtcpncmjjbfbdhaaDoorRx4
namespace Go.Proofs.YtcpncmjjbfbdhaaDoor.R
open Go.RowKit Go.Proofs.YtcpncmjjbfbdhaaDoorW.PrintWords Go.Proofs.YtcpncmjjbfbdhaaDoorW.PrintLast Go.Proofs.YtcpncmjjbfbdhaaDoorW.PrintMore
attribute [local go_sem] max2_int min2_int max_two min_two max_three min_three max_four min_four   -- for this text's walks alone
set_option linter.unusedVariables false
set_option linter.unusedSimpArgs false

/-! ### sequencer_Check: function 14 -/
mutual
def sequencer_Check.j0 : Nat → ByteArray → List Int → Bool → Option (Int)
 | 0, _, _, _ => none
 | k + 1, x0, x1, x14 => if x14 = true then (some 3) else ((block_Find.f k x0).bind fun bt172 => (if bt172.2.2.2.2.2.2 = 0 then (if (x1.length : Int) = (bt172.2.1.length : Int) then (sequencer_Check.l0 k x1 bt172.2.1 (bt172.2.1.length : Int) 0) else (some 1)) else (some bt172.2.2.2.2.2.2)))
def sequencer_Check.l0 : Nat → List Int → List (S61) → Int → Int → Option (Int)
 | 0, _, _, _, _ => none
 | k + 1, x1, x30, x31, x32 => if x32 < x31 then (if 0 ≤ x32 then (if x32 < (x30.length : Int) then (if x32 < (x1.length : Int) then (if (rd x1 x32) < ((rd_T61 x30 x32).f1) then (some 6) else (if (rd x1 x32) > ((rd_T61 x30 x32).f2) then (some 6) else (sequencer_Check.l0 k x1 x30 x31 (wrap64 (x32 + 1))))) else (none)) else (none)) else (none)) else (some 0)
end
def sequencer_Check.f (k : Nat) (a0 : ByteArray) (l1 : List Int) : Option (Int) := if a0.toList = ([115, 116, 97, 103, 101] : List UInt8) then (sequencer_Check.j0 k a0 l1 false) else (sequencer_Check.j0 k a0 l1 (a0.toList != ([115, 116, 101, 112, 115] : List UInt8)))
theorem sequencer_Check.mono_l : ∀ k, (∀ y0 y1 y2, LeO (sequencer_Check.j0 k y0 y1 y2) (sequencer_Check.j0 (k + 1) y0 y1 y2)) ∧ (∀ y0 y1 y2 y3, LeO (sequencer_Check.l0 k y0 y1 y2 y3) (sequencer_Check.l0 (k + 1) y0 y1 y2 y3))
 | 0 => ⟨fun _ _ _ r h => by simp [sequencer_Check.j0] at h, fun _ _ _ _ r h => by simp [sequencer_Check.l0] at h⟩
 | k + 1 => by
  obtain ⟨ih0, ih1⟩ := sequencer_Check.mono_l k
  refine ⟨?_, ?_⟩
  ·
   intro y0 y1 y2
   unfold sequencer_Check.j0
   repeat' first
   | (with_reducible exact ih0 _ _ _)
   | (with_reducible exact ih1 _ _ _ _)
   | (with_reducible exact block_Find.mono _ _)
   | (with_reducible exact LeO.refl _)
   | (with_reducible exact LeO.none _)
   | (with_reducible refine LeO.ite ?_ ?_)
   | (with_reducible refine LeO.bind ?_ (fun _ => ?_))
   | exact ih0 _ _ _
   | exact ih1 _ _ _ _
   | exact block_Find.mono _ _
   | exact LeO.none _
   | refine LeO.ite ?_ ?_
   | refine LeO.bind ?_ (fun _ => ?_)
  ·
   intro y0 y1 y2 y3
   unfold sequencer_Check.l0
   repeat' first
   | (with_reducible exact ih0 _ _ _)
   | (with_reducible exact ih1 _ _ _ _)
   | (with_reducible exact block_Find.mono _ _)
   | (with_reducible exact LeO.refl _)
   | (with_reducible exact LeO.none _)
   | (with_reducible refine LeO.ite ?_ ?_)
   | (with_reducible refine LeO.bind ?_ (fun _ => ?_))
   | exact ih0 _ _ _
   | exact ih1 _ _ _ _
   | exact block_Find.mono _ _
   | exact LeO.none _
   | refine LeO.ite ?_ ?_
   | refine LeO.bind ?_ (fun _ => ?_)
theorem sequencer_Check.mono : ∀ a0 a1 k, LeO (sequencer_Check.f k a0 a1) (sequencer_Check.f (k + 1) a0 a1) := by
 intro a0 a1 k
 obtain ⟨ih0, ih1⟩ := sequencer_Check.mono_l k
 unfold sequencer_Check.f
 repeat' first
   | (with_reducible exact ih0 _ _ _)
   | (with_reducible exact ih1 _ _ _ _)
   | (with_reducible exact block_Find.mono _ _)
   | (with_reducible exact LeO.refl _)
   | (with_reducible exact LeO.none _)
   | (with_reducible refine LeO.ite ?_ ?_)
   | (with_reducible refine LeO.bind ?_ (fun _ => ?_))
   | exact ih0 _ _ _
   | exact ih1 _ _ _ _
   | exact block_Find.mono _ _
   | exact LeO.none _
   | refine LeO.ite ?_ ?_
   | refine LeO.bind ?_ (fun _ => ?_)
set_option maxHeartbeats 8000000 in
set_option maxRecDepth 100000 in
theorem sequencer_Check.calls (k : Nat) (a0 : ByteArray) (A1 : Option Addr) (c1 : Nat) (l1 : List Int) (r : Int) (w : World) (hr1 : Kd.C (Kd.int .i64) w A1 l1.length l1) (hc1 : l1.length ≤ c1) (hG : GW w) (h : sequencer_Check.f k a0 l1 = some r) :
  Calls Tryd.prog 14 #[.string a0, .slice A1 l1.length c1] w fun e w' => e = .returned (.int .i64 r) ∧ Below w.heap.size w w' := by
 have hu57 := Tryd.underlying57
 have hu61 := Tryd.underlying61
 have HG := Aside0.mk hG
 clear hG
 have HR1 := Aside0.mk hr1
 have HC1 := Aside0.mk hc1
 clear hr1 hc1
 have HB := Aside0.mk (Below.refl w.heap.size w)
 have H : (if a0.toList = ([115, 116, 97, 103, 101] : List UInt8) then (sequencer_Check.j0 k a0 l1 false) else (sequencer_Check.j0 k a0 l1 (a0.toList != ([115, 116, 101, 112, 115] : List UInt8)))) = some r := h
 clear h
 have HC3 := Aside0.mk H
 clear H
 go_enter Tryd.func14, Tryd.ntmps14
 go_upto_region 1 with (fail)
 repeat (go_quiet (fail); go_upto_region 1 with (fail))
 go_cut [14] (fun v14 wc => ∃ (kq : Nat) (x14_2 : Bool), v14 = .bool x14_2 ∧ Aside0 (sequencer_Check.j0 kq a0 l1 x14_2 = some r) ∧ Aside0 (kq ≤ k) ∧ Aside0 (Below w.heap.size w wc))
 case first =>
  have H := HC3.out
  clear HC3
  by_cases c4 : a0.toList = ([115, 116, 97, 103, 101] : List UInt8)
  ·
   rw [if_pos c4] at H
   have c4b0 : (a0.toList == ([115, 116, 97, 103, 101] : List UInt8)) = true := beq_iff_eq.mpr c4
   have c4b1 : (a0.toList != ([115, 116, 97, 103, 101] : List UInt8)) = false := bne_eq_false_iff_eq.mpr c4
   clear c4
   (first | rw [c4b0] | (simp only [i64_w, i32_w]; rw [c4b0]) | skip)
   have H' := Aside0.mk H
   clear H
   go_wp2
   repeat (go_quiet (fail); try go_wp2)
   go_meet
   case rel => exact ⟨_, (false), (by first | rfl | (simp; done) | (simp [*]; done)), H', ⟨by first | omega | exact Nat.le_refl _⟩, ⟨bl⟩⟩
  ·
   rw [if_neg c4] at H
   have c4b0 : (a0.toList == ([115, 116, 97, 103, 101] : List UInt8)) = false := beq_eq_false_iff_ne.mpr c4
   have c4b1 : (a0.toList != ([115, 116, 97, 103, 101] : List UInt8)) = true := bne_iff_ne.mpr c4
   (first | rw [c4b0] | (simp only [i64_w, i32_w]; rw [c4b0]) | skip)
   have H' := Aside0.mk H
   clear H
   go_wp2
   repeat (go_quiet (fail); try go_wp2)
   go_meet
   case rel => exact ⟨_, ((a0.toList != ([115, 116, 101, 112, 115] : List UInt8))), (by first | rfl | (simp; done) | (simp [*]; done)), H', ⟨by first | omega | exact Nat.le_refl _⟩, ⟨bl⟩⟩
 case rest =>
  clear HC3
  try clear c1
  try clear p2
  try clear c4
  try clear c4b0
  try clear c4b1
  obtain ⟨kq, x14_2, rfl, HA, HJ2, HB⟩ := hcut
  cases kq with
  | zero => exact absurd HA.out (by simp [sequencer_Check.j0])
  | succ kj2 =>
   have H := HA.out
   clear HA
   simp only [sequencer_Check.j0] at H
   by_cases c5 : x14_2 = true
   ·
    subst c5
    rw [if_pos rfl] at H
    obtain rfl := Option.some.inj H
    go_wp2
    repeat (go_quiet (fail); try go_wp2)
    go_ret
    exact ⟨by first | rfl | (simp [errW_none, errW_some] <;> rfl) | (simp [*, errW_none, errW_some] <;> rfl), bl⟩
   ·
    replace c5 := Bool.eq_false_iff.mpr c5
    subst c5
    rw [if_neg (show ¬ (false = true) by decide)] at H
    replace H := Option.bind_eq_some_iff.mp H
    obtain ⟨⟨t172, t173, t176, t179, t182, t183, t184⟩, A60, H⟩ := H
    replace H : (if t184 = 0 then (if (l1.length : Int) = (t173.length : Int) then (sequencer_Check.l0 kj2 l1 t173 (t173.length : Int) 0) else (some 1)) else (some t184)) = some r := H
    have A6 := Aside0.mk A60
    clear A60
    by_cases c7 : t184 = 0
    ·
     rw [if_pos c7] at H
     have c7b0 : (t184 == 0) = true := beq_iff_eq.mpr c7
     have c7b1 : (t184 != 0) = false := bne_eq_false_iff_eq.mpr c7
     clear c7
     by_cases c8 : (l1.length : Int) = (t173.length : Int)
     ·
      rw [if_pos c8] at H
      have c8b0 : ((l1.length : Int) == (t173.length : Int)) = true := beq_iff_eq.mpr c8
      have c8b1 : ((l1.length : Int) != (t173.length : Int)) = false := bne_eq_false_iff_eq.mpr c8
      have c8b2 : (l1.length == t173.length) = true := by first | simpa using c8 | (simp at c8 ⊢; omega)
      clear c8
      have H' := Aside0.mk H
      clear H
      go_wp2_with (first | (go_at_call 32; (with_reducible refine (block_Find.calls kj2 a0 t172 t173 t176 t179 t182 t183 t184 _ ?side1 A6.out).mono ?_); (case side1 => exact GW.below HG.out bl); rintro e w9 ⟨v174, v177, v180, rfl, ho0, ho1, ho2, hb⟩; have n0_ := Aside0.mk (Kd.R_lower ho0 (below_size bl)); have n1_ := Aside0.mk (Kd.R_lower ho1 (below_size bl)); have n2_ := Aside0.mk (Kd.R_lower ho2 (below_size bl)); have n3_ := Aside0.mk (below_step bl hb); clear HB; have HO175 := n0_; have HO178 := n1_; have HO181 := n2_; have HB := n3_; clear n0_ n1_ n2_ n3_; (try clear hb); (try clear hb2); (try clear hk); (try clear hi); (try clear ho0); (try clear ho1); (try clear ho2)) | ((with_reducible refine gate_dst (N := 5) rfl ?_); refine box_event ?hg (N := 5) ?hd (cs := #[.string (⟨#[]⟩ : ByteArray), .slice none 0 0, .slice none 0 0, .slice none 0 0, .int .i64 0, .int .i64 0]) (t := 57) ?hr ?_; (case hd => rfl); (case hg => rfl); (case hr => first | (go_simp; done) | (go_simp; rfl)); intro gb185 hg w10 hbox hb; have n0_ := Aside0.mk (Kd.R_below (by (with_reducible repeat (first | apply Kd.R_alloc | apply Kd.R_drewN | apply Kd.R_drew)); exact HO175.out) hb); have n1_ := Aside0.mk (Kd.R_below (by (with_reducible repeat (first | apply Kd.R_alloc | apply Kd.R_drewN | apply Kd.R_drew)); exact HO178.out) hb); have n2_ := Aside0.mk (Kd.R_below (by (with_reducible repeat (first | apply Kd.R_alloc | apply Kd.R_drewN | apply Kd.R_drew)); exact HO181.out) hb); have n3_ := Aside0.mk (below_step bl hb); have n4_ := Aside0.mk (hbox); have n5_ := Aside0.mk ((by rw [hg]; exact (below_size bl) : w.heap.size ≤ gb185)); have n6_ := Aside0.mk ((by rw [hg]; exact (below_size bl) : w.heap.size ≤ gb185)); clear HO175; clear HO178; clear HO181; clear HB; have HO175 := n0_; have HO178 := n1_; have HO181 := n2_; have HB := n3_; have BK185 := n4_; have GW185 := n5_; have GE185 := n6_; clear n0_ n1_ n2_ n3_ n4_ n5_ n6_; clear hb hbox hg; have hcz11_0 : w10.cell? ⟨gb185, 0, none⟩ = some (.string (⟨#[]⟩ : ByteArray)) := (blk_cell BK185.out 0).trans rfl; have hcz11_1 : w10.cell? ⟨gb185, 1, none⟩ = some (.slice none 0 0) := (blk_cell BK185.out 1).trans rfl; have hcz11_2 : w10.cell? ⟨gb185, 2, none⟩ = some (.slice none 0 0) := (blk_cell BK185.out 2).trans rfl; have hcz11_3 : w10.cell? ⟨gb185, 3, none⟩ = some (.slice none 0 0) := (blk_cell BK185.out 3).trans rfl; have hcz11_4 : w10.cell? ⟨gb185, 4, none⟩ = some (.int .i64 0) := (blk_cell BK185.out 4).trans rfl; have hcz11_5 : w10.cell? ⟨gb185, 5, none⟩ = some (.int .i64 0) := (blk_cell BK185.out 5).trans rfl; have hfz11_0 := blk_frozen BK185.out 0; have hfz11_1 := blk_frozen BK185.out 1; have hfz11_2 := blk_frozen BK185.out 2; have hfz11_3 := blk_frozen BK185.out 3; have hfz11_4 := blk_frozen BK185.out 4; have hfz11_5 := blk_frozen BK185.out 5; obtain ⟨Ao12, co12, eo12⟩ := Kd.R_slice HO175.out; subst eo12; obtain ⟨Ao13, co13, eo13⟩ := Kd.R_slice HO178.out; subst eo13; obtain ⟨Ao14, co14, eo14⟩ := Kd.R_slice HO181.out; subst eo14))
      repeat (go_quiet (first | (go_at_call 32; (with_reducible refine (block_Find.calls kj2 a0 t172 t173 t176 t179 t182 t183 t184 _ ?side1 A6.out).mono ?_); (case side1 => exact GW.below HG.out bl); rintro e w9 ⟨v174, v177, v180, rfl, ho0, ho1, ho2, hb⟩; have n0_ := Aside0.mk (Kd.R_lower ho0 (below_size bl)); have n1_ := Aside0.mk (Kd.R_lower ho1 (below_size bl)); have n2_ := Aside0.mk (Kd.R_lower ho2 (below_size bl)); have n3_ := Aside0.mk (below_step bl hb); clear HB; have HO175 := n0_; have HO178 := n1_; have HO181 := n2_; have HB := n3_; clear n0_ n1_ n2_ n3_; (try clear hb); (try clear hb2); (try clear hk); (try clear hi); (try clear ho0); (try clear ho1); (try clear ho2)) | ((with_reducible refine gate_dst (N := 5) rfl ?_); refine box_event ?hg (N := 5) ?hd (cs := #[.string (⟨#[]⟩ : ByteArray), .slice none 0 0, .slice none 0 0, .slice none 0 0, .int .i64 0, .int .i64 0]) (t := 57) ?hr ?_; (case hd => rfl); (case hg => rfl); (case hr => first | (go_simp; done) | (go_simp; rfl)); intro gb185 hg w10 hbox hb; have n0_ := Aside0.mk (Kd.R_below (by (with_reducible repeat (first | apply Kd.R_alloc | apply Kd.R_drewN | apply Kd.R_drew)); exact HO175.out) hb); have n1_ := Aside0.mk (Kd.R_below (by (with_reducible repeat (first | apply Kd.R_alloc | apply Kd.R_drewN | apply Kd.R_drew)); exact HO178.out) hb); have n2_ := Aside0.mk (Kd.R_below (by (with_reducible repeat (first | apply Kd.R_alloc | apply Kd.R_drewN | apply Kd.R_drew)); exact HO181.out) hb); have n3_ := Aside0.mk (below_step bl hb); have n4_ := Aside0.mk (hbox); have n5_ := Aside0.mk ((by rw [hg]; exact (below_size bl) : w.heap.size ≤ gb185)); have n6_ := Aside0.mk ((by rw [hg]; exact (below_size bl) : w.heap.size ≤ gb185)); clear HO175; clear HO178; clear HO181; clear HB; have HO175 := n0_; have HO178 := n1_; have HO181 := n2_; have HB := n3_; have BK185 := n4_; have GW185 := n5_; have GE185 := n6_; clear n0_ n1_ n2_ n3_ n4_ n5_ n6_; clear hb hbox hg; have hcz11_0 : w10.cell? ⟨gb185, 0, none⟩ = some (.string (⟨#[]⟩ : ByteArray)) := (blk_cell BK185.out 0).trans rfl; have hcz11_1 : w10.cell? ⟨gb185, 1, none⟩ = some (.slice none 0 0) := (blk_cell BK185.out 1).trans rfl; have hcz11_2 : w10.cell? ⟨gb185, 2, none⟩ = some (.slice none 0 0) := (blk_cell BK185.out 2).trans rfl; have hcz11_3 : w10.cell? ⟨gb185, 3, none⟩ = some (.slice none 0 0) := (blk_cell BK185.out 3).trans rfl; have hcz11_4 : w10.cell? ⟨gb185, 4, none⟩ = some (.int .i64 0) := (blk_cell BK185.out 4).trans rfl; have hcz11_5 : w10.cell? ⟨gb185, 5, none⟩ = some (.int .i64 0) := (blk_cell BK185.out 5).trans rfl; have hfz11_0 := blk_frozen BK185.out 0; have hfz11_1 := blk_frozen BK185.out 1; have hfz11_2 := blk_frozen BK185.out 2; have hfz11_3 := blk_frozen BK185.out 3; have hfz11_4 := blk_frozen BK185.out 4; have hfz11_5 := blk_frozen BK185.out 5; obtain ⟨Ao12, co12, eo12⟩ := Kd.R_slice HO175.out; subst eo12; obtain ⟨Ao13, co13, eo13⟩ := Kd.R_slice HO178.out; subst eo13; obtain ⟨Ao14, co14, eo14⟩ := Kd.R_slice HO181.out; subst eo14)); try go_wp2_with (first | (go_at_call 32; (with_reducible refine (block_Find.calls kj2 a0 t172 t173 t176 t179 t182 t183 t184 _ ?side1 A6.out).mono ?_); (case side1 => exact GW.below HG.out bl); rintro e w9 ⟨v174, v177, v180, rfl, ho0, ho1, ho2, hb⟩; have n0_ := Aside0.mk (Kd.R_lower ho0 (below_size bl)); have n1_ := Aside0.mk (Kd.R_lower ho1 (below_size bl)); have n2_ := Aside0.mk (Kd.R_lower ho2 (below_size bl)); have n3_ := Aside0.mk (below_step bl hb); clear HB; have HO175 := n0_; have HO178 := n1_; have HO181 := n2_; have HB := n3_; clear n0_ n1_ n2_ n3_; (try clear hb); (try clear hb2); (try clear hk); (try clear hi); (try clear ho0); (try clear ho1); (try clear ho2)) | ((with_reducible refine gate_dst (N := 5) rfl ?_); refine box_event ?hg (N := 5) ?hd (cs := #[.string (⟨#[]⟩ : ByteArray), .slice none 0 0, .slice none 0 0, .slice none 0 0, .int .i64 0, .int .i64 0]) (t := 57) ?hr ?_; (case hd => rfl); (case hg => rfl); (case hr => first | (go_simp; done) | (go_simp; rfl)); intro gb185 hg w10 hbox hb; have n0_ := Aside0.mk (Kd.R_below (by (with_reducible repeat (first | apply Kd.R_alloc | apply Kd.R_drewN | apply Kd.R_drew)); exact HO175.out) hb); have n1_ := Aside0.mk (Kd.R_below (by (with_reducible repeat (first | apply Kd.R_alloc | apply Kd.R_drewN | apply Kd.R_drew)); exact HO178.out) hb); have n2_ := Aside0.mk (Kd.R_below (by (with_reducible repeat (first | apply Kd.R_alloc | apply Kd.R_drewN | apply Kd.R_drew)); exact HO181.out) hb); have n3_ := Aside0.mk (below_step bl hb); have n4_ := Aside0.mk (hbox); have n5_ := Aside0.mk ((by rw [hg]; exact (below_size bl) : w.heap.size ≤ gb185)); have n6_ := Aside0.mk ((by rw [hg]; exact (below_size bl) : w.heap.size ≤ gb185)); clear HO175; clear HO178; clear HO181; clear HB; have HO175 := n0_; have HO178 := n1_; have HO181 := n2_; have HB := n3_; have BK185 := n4_; have GW185 := n5_; have GE185 := n6_; clear n0_ n1_ n2_ n3_ n4_ n5_ n6_; clear hb hbox hg; have hcz11_0 : w10.cell? ⟨gb185, 0, none⟩ = some (.string (⟨#[]⟩ : ByteArray)) := (blk_cell BK185.out 0).trans rfl; have hcz11_1 : w10.cell? ⟨gb185, 1, none⟩ = some (.slice none 0 0) := (blk_cell BK185.out 1).trans rfl; have hcz11_2 : w10.cell? ⟨gb185, 2, none⟩ = some (.slice none 0 0) := (blk_cell BK185.out 2).trans rfl; have hcz11_3 : w10.cell? ⟨gb185, 3, none⟩ = some (.slice none 0 0) := (blk_cell BK185.out 3).trans rfl; have hcz11_4 : w10.cell? ⟨gb185, 4, none⟩ = some (.int .i64 0) := (blk_cell BK185.out 4).trans rfl; have hcz11_5 : w10.cell? ⟨gb185, 5, none⟩ = some (.int .i64 0) := (blk_cell BK185.out 5).trans rfl; have hfz11_0 := blk_frozen BK185.out 0; have hfz11_1 := blk_frozen BK185.out 1; have hfz11_2 := blk_frozen BK185.out 2; have hfz11_3 := blk_frozen BK185.out 3; have hfz11_4 := blk_frozen BK185.out 4; have hfz11_5 := blk_frozen BK185.out 5; obtain ⟨Ao12, co12, eo12⟩ := Kd.R_slice HO175.out; subst eo12; obtain ⟨Ao13, co13, eo13⟩ := Kd.R_slice HO178.out; subst eo13; obtain ⟨Ao14, co14, eo14⟩ := Kd.R_slice HO181.out; subst eo14)))
      go_loopg [32] kj2 (fun kq v32 w' => ∃ (x32_2 : Int), v32 = .int .i64 x32_2 ∧ Aside0 (sequencer_Check.l0 kq l1 t173 (t173.length : Int) x32_2 = some r) ∧ Aside0 (kq ≤ kj2) ∧ Aside0 (Kd.R k61 61 w' w.heap.size (fun _ => True) (.slice Ao12 t173.length co12) t173) ∧ Aside0 (Kd.R k61 61 w' w.heap.size (fun _ => True) (.slice Ao12 t173.length co12) t173) ∧ Aside0 (Kd.R k73 73 w' w.heap.size (fun k_ => some k_ ≠ ((.slice Ao14 t179.length co14) : Value).ownBlock) (.slice Ao13 t176.length co13) t176) ∧ Aside0 (Kd.R k73 73 w' w.heap.size (fun k_ => some k_ ≠ ((.slice Ao13 t176.length co13) : Value).ownBlock) (.slice Ao14 t179.length co14) t179) ∧ Aside0 (w'.heap[gb185]? = some (.cells #[.string t172, (.slice Ao12 t173.length co12), (.slice Ao13 t176.length co13), (.slice Ao14 t179.length co14), .int .i64 t182, .int .i64 t183] 57 (0, 0))) ∧ Aside0 (Below w.heap.size w w'))
      case atStart => exact ⟨(0), (by first | rfl | (simp; done) | (simp [*]; done)), H', ⟨Nat.le_refl _⟩, ⟨by (with_reducible repeat (first | apply Kd.R_alloc | apply Kd.R_drewN | apply Kd.R_drew)); exact Kd.R_mono (Kd.R_far (p := ⟨gb185, 5, none⟩) (Kd.R_far (p := ⟨gb185, 4, none⟩) (Kd.R_far (p := ⟨gb185, 3, none⟩) (Kd.R_far (p := ⟨gb185, 2, none⟩) (Kd.R_far (p := ⟨gb185, 1, none⟩) (Kd.R_far (p := ⟨gb185, 0, none⟩) (Kd.R_types HO175.out BK185.out (by decide)) (fun _ hk => hk.2) (.string t172)) (fun _ hk => hk.2) (.slice Ao12 t173.length co12)) (fun _ hk => hk.2) (.slice Ao13 t176.length co13)) (fun _ hk => hk.2) (.slice Ao14 t179.length co14)) (fun _ hk => hk.2) (.int .i64 t182)) (fun _ hk => hk.2) (.int .i64 t183)) (fun _ hk => trivial)⟩, ⟨by (with_reducible repeat (first | apply Kd.R_alloc | apply Kd.R_drewN | apply Kd.R_drew)); exact Kd.R_mono (Kd.R_far (p := ⟨gb185, 5, none⟩) (Kd.R_far (p := ⟨gb185, 4, none⟩) (Kd.R_far (p := ⟨gb185, 3, none⟩) (Kd.R_far (p := ⟨gb185, 2, none⟩) (Kd.R_far (p := ⟨gb185, 1, none⟩) (Kd.R_far (p := ⟨gb185, 0, none⟩) (Kd.R_types HO175.out BK185.out (by decide)) (fun _ hk => hk.2) (.string t172)) (fun _ hk => hk.2) (.slice Ao12 t173.length co12)) (fun _ hk => hk.2) (.slice Ao13 t176.length co13)) (fun _ hk => hk.2) (.slice Ao14 t179.length co14)) (fun _ hk => hk.2) (.int .i64 t182)) (fun _ hk => hk.2) (.int .i64 t183)) (fun _ hk => trivial)⟩, ⟨by (with_reducible repeat (first | apply Kd.R_alloc | apply Kd.R_drewN | apply Kd.R_drew)); exact Kd.R_mono (Kd.R_far (p := ⟨gb185, 5, none⟩) (Kd.R_far (p := ⟨gb185, 4, none⟩) (Kd.R_far (p := ⟨gb185, 3, none⟩) (Kd.R_far (p := ⟨gb185, 2, none⟩) (Kd.R_far (p := ⟨gb185, 1, none⟩) (Kd.R_far (p := ⟨gb185, 0, none⟩) (Kd.R_types HO178.out BK185.out (by decide)) (fun _ hk => hk.2) (.string t172)) (fun _ hk => hk.2) (.slice Ao12 t173.length co12)) (fun _ hk => hk.2) (.slice Ao13 t176.length co13)) (fun _ hk => hk.2) (.slice Ao14 t179.length co14)) (fun _ hk => hk.2) (.int .i64 t182)) (fun _ hk => hk.2) (.int .i64 t183)) (fun _ hk => hk.1)⟩, ⟨by (with_reducible repeat (first | apply Kd.R_alloc | apply Kd.R_drewN | apply Kd.R_drew)); exact Kd.R_mono (Kd.R_far (p := ⟨gb185, 5, none⟩) (Kd.R_far (p := ⟨gb185, 4, none⟩) (Kd.R_far (p := ⟨gb185, 3, none⟩) (Kd.R_far (p := ⟨gb185, 2, none⟩) (Kd.R_far (p := ⟨gb185, 1, none⟩) (Kd.R_far (p := ⟨gb185, 0, none⟩) (Kd.R_types HO181.out BK185.out (by decide)) (fun _ hk => hk.2) (.string t172)) (fun _ hk => hk.2) (.slice Ao12 t173.length co12)) (fun _ hk => hk.2) (.slice Ao13 t176.length co13)) (fun _ hk => hk.2) (.slice Ao14 t179.length co14)) (fun _ hk => hk.2) (.int .i64 t182)) (fun _ hk => hk.2) (.int .i64 t183)) (fun _ hk => hk.1)⟩, ⟨by (with_reducible repeat (first | refine blk_drewN ?_ _ | refine blk_drew ?_ | refine blk_alloc ?_ _)); refine blk_put (cs := #[.string t172, .slice Ao12 t173.length co12, .slice Ao13 t176.length co13, .slice Ao14 t179.length co14, .int .i64 t182, .int .i64 0]) ?_ 5 _ rfl; (with_reducible repeat (first | refine blk_drewN ?_ _ | refine blk_drew ?_ | refine blk_alloc ?_ _)); refine blk_put (cs := #[.string t172, .slice Ao12 t173.length co12, .slice Ao13 t176.length co13, .slice Ao14 t179.length co14, .int .i64 0, .int .i64 0]) ?_ 4 _ rfl; (with_reducible repeat (first | refine blk_drewN ?_ _ | refine blk_drew ?_ | refine blk_alloc ?_ _)); refine blk_put (cs := #[.string t172, .slice Ao12 t173.length co12, .slice Ao13 t176.length co13, .slice none 0 0, .int .i64 0, .int .i64 0]) ?_ 3 _ rfl; (with_reducible repeat (first | refine blk_drewN ?_ _ | refine blk_drew ?_ | refine blk_alloc ?_ _)); refine blk_put (cs := #[.string t172, .slice Ao12 t173.length co12, .slice none 0 0, .slice none 0 0, .int .i64 0, .int .i64 0]) ?_ 2 _ rfl; (with_reducible repeat (first | refine blk_drewN ?_ _ | refine blk_drew ?_ | refine blk_alloc ?_ _)); refine blk_put (cs := #[.string t172, .slice none 0 0, .slice none 0 0, .slice none 0 0, .int .i64 0, .int .i64 0]) ?_ 1 _ rfl; (with_reducible repeat (first | refine blk_drewN ?_ _ | refine blk_drew ?_ | refine blk_alloc ?_ _)); refine blk_put (cs := #[.string (⟨#[]⟩ : ByteArray), .slice none 0 0, .slice none 0 0, .slice none 0 0, .int .i64 0, .int .i64 0]) ?_ 0 _ rfl; (with_reducible repeat (first | refine blk_drewN ?_ _ | refine blk_drew ?_ | refine blk_alloc ?_ _)); exact BK185.out⟩, ⟨by repeat (first | (with_reducible first | exact HB.out | apply below_alloc | apply pw_below_drewN | apply below_drew1 | refine below_set ?_ GE185.out) | exact HB.out)⟩⟩
      case round =>
       clear H'
       try clear c1
       try clear p2
       try clear c4
       try clear c4b0
       try clear c4b1
       try clear c5
       try clear c7
       try clear c7b0
       try clear c7b1
       try clear c8
       try clear c8b0
       try clear c8b1
       try clear c8b2
       try clear c14
       try clear hcz11_0
       try clear hcz11_1
       try clear hcz11_2
       try clear hcz11_3
       try clear hcz11_4
       try clear hcz11_5
       try clear hfz11_0
       try clear hfz11_1
       try clear hfz11_2
       try clear hfz11_3
       try clear hfz11_4
       try clear hfz11_5
       try clear p2
       obtain ⟨x32_2, rfl, HA, HK2, HO_30, HO_186001, HO_186002, HO_186003, BK185, HB⟩ := hrel
       cases gk with
       | zero => exact absurd HA.out (by simp [sequencer_Check.l0])
       | succ k2 =>
        have H := HA.out
        clear HA
        simp only [sequencer_Check.l0] at H
        by_cases c15 : x32_2 < (t173.length : Int)
        ·
         rw [if_pos c15] at H
         have c15b0 : decide (x32_2 < (t173.length : Int)) = true := decide_eq_true c15
         clear c15
         by_cases c16 : 0 ≤ x32_2
         ·
          rw [if_pos c16] at H
          have c16b0 : decide (0 ≤ x32_2) = true := decide_eq_true c16
          clear c16
          by_cases c17 : x32_2 < (t173.length : Int)
          ·
           rw [if_pos c17] at H
           have c17b0 : decide (x32_2 < (t173.length : Int)) = true := decide_eq_true c17
           clear c17
           by_cases c18 : x32_2 < (l1.length : Int)
           ·
            rw [if_pos c18] at H
            have c18b0 : decide (x32_2 < (l1.length : Int)) = true := decide_eq_true c18
            clear c18
            by_cases c19 : (rd l1 x32_2) < ((rd_T61 t173 x32_2).f1)
            ·
             rw [if_pos c19] at H
             have c19b0 : decide ((rd l1 x32_2) < ((rd_T61 t173 x32_2).f1)) = true := decide_eq_true c19
             clear c19
             obtain rfl := Option.some.inj H
             have p186 : 0 ≤ (x32_2 : Int) := ode
             have q186 : x32_2 < (t173.length : Int) := ode
             obtain ⟨ad186, e186, hx186_0, hx186_1, hx186_2, hx186_3⟩ := at_T61 (Kd.R_reads' HO_30.out).2.2 x32_2 p186 q186
             cases e186
             replace p186 := eq_true p186
             replace q186 := eq_true q186
             go_wp2_with (first | ((with_reducible refine gate_dst (N := 8) rfl ?_); refine box_event ?hg (N := 8) ?hd (cs := #[.string (⟨#[]⟩ : ByteArray), .int .i64 0, .int .i64 0, .int .i64 0]) (t := 61) ?hr ?_; (case hd => rfl); (case hg => rfl); (case hr => first | (go_simp; done) | (go_simp; rfl)); intro gb187 hg w20 hbox hb; have n0_ := Aside0.mk (Kd.R_below (Kd.R_elderB (by (with_reducible repeat (first | apply Kd.R_alloc | apply Kd.R_drewN | apply Kd.R_drew)); exact HO_30.out) gb187 (Nat.le_of_eq hg.symm)) hb); have n1_ := Aside0.mk (Kd.R_below (Kd.R_elderB (by (with_reducible repeat (first | apply Kd.R_alloc | apply Kd.R_drewN | apply Kd.R_drew)); exact HO_186001.out) gb187 (Nat.le_of_eq hg.symm)) hb); have n2_ := Aside0.mk (Kd.R_below (by (with_reducible repeat (first | apply Kd.R_alloc | apply Kd.R_drewN | apply Kd.R_drew)); exact HO_186002.out) hb); have n3_ := Aside0.mk (Kd.R_below (by (with_reducible repeat (first | apply Kd.R_alloc | apply Kd.R_drewN | apply Kd.R_drew)); exact HO_186003.out) hb); have n4_ := Aside0.mk (blk_below (g := gb185) (o := .cells #[.string t172, .slice (some ad186) t173.length co12, .slice Ao13 t176.length co13, .slice Ao14 t179.length co14, .int .i64 t182, .int .i64 t183] 57 (0, 0)) (by (with_reducible repeat (first | refine blk_drewN ?_ _ | refine blk_drew ?_ | refine blk_alloc ?_ _)); exact BK185.out) hb); have n5_ := Aside0.mk (below_step (by repeat (first | (with_reducible first | exact HB.out | apply below_alloc | apply pw_below_drewN | apply below_drew1 | refine below_set ?_ GE185.out) | exact HB.out)) hb); have n6_ := Aside0.mk (hbox); have n7_ := Aside0.mk ((by rw [hg]; exact (below_size (by repeat (first | (with_reducible first | exact HB.out | apply below_alloc | apply pw_below_drewN | apply below_drew1 | refine below_set ?_ GE185.out) | exact HB.out))) : w.heap.size ≤ gb187)); have n8_ := Aside0.mk ((by rw [hg]; exact (below_size (by repeat (first | (with_reducible first | exact HB.out | apply below_alloc | apply pw_below_drewN | apply below_drew1 | refine below_set ?_ GE185.out) | exact HB.out))) : w.heap.size ≤ gb187)); have n9_ := Aside0.mk ((by rw [hg]; exact Nat.ne_of_lt (blk_lt (g := gb185) (o := .cells #[.string t172, .slice (some ad186) t173.length co12, .slice Ao13 t176.length co13, .slice Ao14 t179.length co14, .int .i64 t182, .int .i64 t183] 57 (0, 0)) (by (with_reducible repeat (first | refine blk_drewN ?_ _ | refine blk_drew ?_ | refine blk_alloc ?_ _)); exact BK185.out)) : gb185 ≠ gb187)); have n10_ := Aside0.mk ((by rw [hg]; exact Nat.ne_of_gt (blk_lt (g := gb185) (o := .cells #[.string t172, .slice (some ad186) t173.length co12, .slice Ao13 t176.length co13, .slice Ao14 t179.length co14, .int .i64 t182, .int .i64 t183] 57 (0, 0)) (by (with_reducible repeat (first | refine blk_drewN ?_ _ | refine blk_drew ?_ | refine blk_alloc ?_ _)); exact BK185.out)) : gb187 ≠ gb185)); clear HO_30; clear HO_186001; clear HO_186002; clear HO_186003; clear BK185; clear HB; have HO_30 := n0_; have HO_186001 := n1_; have HO_186002 := n2_; have HO_186003 := n3_; have BK185 := n4_; have HB := n5_; have BK187 := n6_; have GW187 := n7_; have GE187 := n8_; have NB185_187 := n9_; have NB187_185 := n10_; clear n0_ n1_ n2_ n3_ n4_ n5_ n6_ n7_ n8_ n9_ n10_; clear hb hbox hg; have hnb21 := NB187_185.out; have hnc21 := NB185_187.out; have hcz22_0 : w20.cell? ⟨gb187, 0, none⟩ = some (.string (⟨#[]⟩ : ByteArray)) := (blk_cell BK187.out 0).trans rfl; have hcz22_1 : w20.cell? ⟨gb187, 1, none⟩ = some (.int .i64 0) := (blk_cell BK187.out 1).trans rfl; have hcz22_2 : w20.cell? ⟨gb187, 2, none⟩ = some (.int .i64 0) := (blk_cell BK187.out 2).trans rfl; have hcz22_3 : w20.cell? ⟨gb187, 3, none⟩ = some (.int .i64 0) := (blk_cell BK187.out 3).trans rfl; have hfz22_0 := blk_frozen BK187.out 0; have hfz22_1 := blk_frozen BK187.out 1; have hfz22_2 := blk_frozen BK187.out 2; have hfz22_3 := blk_frozen BK187.out 3; have p188 : 0 ≤ (x32_2 : Int) := ode; have q188 : x32_2 < (l1.length : Int) := ode; obtain ⟨ad188, e188, hx188_0⟩ := Kd.at_int HR1.out x32_2 p188 q188; cases e188; have hn188_0 : ad188.block ≠ gb187 := Nat.ne_of_lt (Nat.lt_of_lt_of_le (by have := World.block_lt_of_cell? _ _ hx188_0; first | rwa [add_block] at this | exact this) GW187.out); have hn188_1 : ad188.block ≠ gb187 := Nat.ne_of_lt (Nat.lt_of_lt_of_le (by have := World.block_lt_of_cell? _ _ hx188_0; first | rwa [add_block] at this | exact this) GW187.out); have hn188_2 : ad188.block ≠ gb187 := Nat.ne_of_lt (Nat.lt_of_lt_of_le (by have := World.block_lt_of_cell? _ _ hx188_0; first | rwa [add_block] at this | exact this) GW187.out); have hn188_3 : ad188.block ≠ gb187 := Nat.ne_of_lt (Nat.lt_of_lt_of_le (by have := World.block_lt_of_cell? _ _ hx188_0; first | rwa [add_block] at this | exact this) GW187.out); replace hx188_0 := (HB.out.cell (World.block_lt_of_cell? w _ hx188_0)).trans hx188_0; replace hx188_0 := (cell_far (p := ⟨gb187, 0, none⟩) (by first | (rw [add_block]; exact hn188_0) | (show (Addr.add _ _).block ≠ _; rw [add_block]; exact hn188_0) | exact hn188_0) (.string ((rd_T61 t173 x32_2).f0))).trans hx188_0; replace hx188_0 := (cell_far (p := ⟨gb187, 1, none⟩) (by first | (rw [add_block]; exact hn188_1) | (show (Addr.add _ _).block ≠ _; rw [add_block]; exact hn188_1) | exact hn188_1) (.int .i64 ((rd_T61 t173 x32_2).f1))).trans hx188_0; replace hx188_0 := (cell_far (p := ⟨gb187, 2, none⟩) (by first | (rw [add_block]; exact hn188_2) | (show (Addr.add _ _).block ≠ _; rw [add_block]; exact hn188_2) | exact hn188_2) (.int .i64 ((rd_T61 t173 x32_2).f2))).trans hx188_0; replace hx188_0 := (cell_far (p := ⟨gb187, 3, none⟩) (by first | (rw [add_block]; exact hn188_3) | (show (Addr.add _ _).block ≠ _; rw [add_block]; exact hn188_3) | exact hn188_3) (.int .i64 ((rd_T61 t173 x32_2).f3))).trans hx188_0; (try have hy188_0 := fun (n_ : Nat) => (show ((((((w20.drewN n_).setCell ⟨gb187, 0, none⟩ (.string ((rd_T61 t173 x32_2).f0))).setCell ⟨gb187, 1, none⟩ (.int .i64 ((rd_T61 t173 x32_2).f1))).setCell ⟨gb187, 2, none⟩ (.int .i64 ((rd_T61 t173 x32_2).f2))).setCell ⟨gb187, 3, none⟩ (.int .i64 ((rd_T61 t173 x32_2).f3)))).cell? _ = some _ from hx188_0)); clear hn188_0; clear hn188_1; clear hn188_2; clear hn188_3; replace p188 := eq_true p188; replace q188 := eq_true q188))
             repeat (go_quiet (first | ((with_reducible refine gate_dst (N := 8) rfl ?_); refine box_event ?hg (N := 8) ?hd (cs := #[.string (⟨#[]⟩ : ByteArray), .int .i64 0, .int .i64 0, .int .i64 0]) (t := 61) ?hr ?_; (case hd => rfl); (case hg => rfl); (case hr => first | (go_simp; done) | (go_simp; rfl)); intro gb187 hg w20 hbox hb; have n0_ := Aside0.mk (Kd.R_below (Kd.R_elderB (by (with_reducible repeat (first | apply Kd.R_alloc | apply Kd.R_drewN | apply Kd.R_drew)); exact HO_30.out) gb187 (Nat.le_of_eq hg.symm)) hb); have n1_ := Aside0.mk (Kd.R_below (Kd.R_elderB (by (with_reducible repeat (first | apply Kd.R_alloc | apply Kd.R_drewN | apply Kd.R_drew)); exact HO_186001.out) gb187 (Nat.le_of_eq hg.symm)) hb); have n2_ := Aside0.mk (Kd.R_below (by (with_reducible repeat (first | apply Kd.R_alloc | apply Kd.R_drewN | apply Kd.R_drew)); exact HO_186002.out) hb); have n3_ := Aside0.mk (Kd.R_below (by (with_reducible repeat (first | apply Kd.R_alloc | apply Kd.R_drewN | apply Kd.R_drew)); exact HO_186003.out) hb); have n4_ := Aside0.mk (blk_below (g := gb185) (o := .cells #[.string t172, .slice (some ad186) t173.length co12, .slice Ao13 t176.length co13, .slice Ao14 t179.length co14, .int .i64 t182, .int .i64 t183] 57 (0, 0)) (by (with_reducible repeat (first | refine blk_drewN ?_ _ | refine blk_drew ?_ | refine blk_alloc ?_ _)); exact BK185.out) hb); have n5_ := Aside0.mk (below_step (by repeat (first | (with_reducible first | exact HB.out | apply below_alloc | apply pw_below_drewN | apply below_drew1 | refine below_set ?_ GE185.out) | exact HB.out)) hb); have n6_ := Aside0.mk (hbox); have n7_ := Aside0.mk ((by rw [hg]; exact (below_size (by repeat (first | (with_reducible first | exact HB.out | apply below_alloc | apply pw_below_drewN | apply below_drew1 | refine below_set ?_ GE185.out) | exact HB.out))) : w.heap.size ≤ gb187)); have n8_ := Aside0.mk ((by rw [hg]; exact (below_size (by repeat (first | (with_reducible first | exact HB.out | apply below_alloc | apply pw_below_drewN | apply below_drew1 | refine below_set ?_ GE185.out) | exact HB.out))) : w.heap.size ≤ gb187)); have n9_ := Aside0.mk ((by rw [hg]; exact Nat.ne_of_lt (blk_lt (g := gb185) (o := .cells #[.string t172, .slice (some ad186) t173.length co12, .slice Ao13 t176.length co13, .slice Ao14 t179.length co14, .int .i64 t182, .int .i64 t183] 57 (0, 0)) (by (with_reducible repeat (first | refine blk_drewN ?_ _ | refine blk_drew ?_ | refine blk_alloc ?_ _)); exact BK185.out)) : gb185 ≠ gb187)); have n10_ := Aside0.mk ((by rw [hg]; exact Nat.ne_of_gt (blk_lt (g := gb185) (o := .cells #[.string t172, .slice (some ad186) t173.length co12, .slice Ao13 t176.length co13, .slice Ao14 t179.length co14, .int .i64 t182, .int .i64 t183] 57 (0, 0)) (by (with_reducible repeat (first | refine blk_drewN ?_ _ | refine blk_drew ?_ | refine blk_alloc ?_ _)); exact BK185.out)) : gb187 ≠ gb185)); clear HO_30; clear HO_186001; clear HO_186002; clear HO_186003; clear BK185; clear HB; have HO_30 := n0_; have HO_186001 := n1_; have HO_186002 := n2_; have HO_186003 := n3_; have BK185 := n4_; have HB := n5_; have BK187 := n6_; have GW187 := n7_; have GE187 := n8_; have NB185_187 := n9_; have NB187_185 := n10_; clear n0_ n1_ n2_ n3_ n4_ n5_ n6_ n7_ n8_ n9_ n10_; clear hb hbox hg; have hnb21 := NB187_185.out; have hnc21 := NB185_187.out; have hcz22_0 : w20.cell? ⟨gb187, 0, none⟩ = some (.string (⟨#[]⟩ : ByteArray)) := (blk_cell BK187.out 0).trans rfl; have hcz22_1 : w20.cell? ⟨gb187, 1, none⟩ = some (.int .i64 0) := (blk_cell BK187.out 1).trans rfl; have hcz22_2 : w20.cell? ⟨gb187, 2, none⟩ = some (.int .i64 0) := (blk_cell BK187.out 2).trans rfl; have hcz22_3 : w20.cell? ⟨gb187, 3, none⟩ = some (.int .i64 0) := (blk_cell BK187.out 3).trans rfl; have hfz22_0 := blk_frozen BK187.out 0; have hfz22_1 := blk_frozen BK187.out 1; have hfz22_2 := blk_frozen BK187.out 2; have hfz22_3 := blk_frozen BK187.out 3; have p188 : 0 ≤ (x32_2 : Int) := ode; have q188 : x32_2 < (l1.length : Int) := ode; obtain ⟨ad188, e188, hx188_0⟩ := Kd.at_int HR1.out x32_2 p188 q188; cases e188; have hn188_0 : ad188.block ≠ gb187 := Nat.ne_of_lt (Nat.lt_of_lt_of_le (by have := World.block_lt_of_cell? _ _ hx188_0; first | rwa [add_block] at this | exact this) GW187.out); have hn188_1 : ad188.block ≠ gb187 := Nat.ne_of_lt (Nat.lt_of_lt_of_le (by have := World.block_lt_of_cell? _ _ hx188_0; first | rwa [add_block] at this | exact this) GW187.out); have hn188_2 : ad188.block ≠ gb187 := Nat.ne_of_lt (Nat.lt_of_lt_of_le (by have := World.block_lt_of_cell? _ _ hx188_0; first | rwa [add_block] at this | exact this) GW187.out); have hn188_3 : ad188.block ≠ gb187 := Nat.ne_of_lt (Nat.lt_of_lt_of_le (by have := World.block_lt_of_cell? _ _ hx188_0; first | rwa [add_block] at this | exact this) GW187.out); replace hx188_0 := (HB.out.cell (World.block_lt_of_cell? w _ hx188_0)).trans hx188_0; replace hx188_0 := (cell_far (p := ⟨gb187, 0, none⟩) (by first | (rw [add_block]; exact hn188_0) | (show (Addr.add _ _).block ≠ _; rw [add_block]; exact hn188_0) | exact hn188_0) (.string ((rd_T61 t173 x32_2).f0))).trans hx188_0; replace hx188_0 := (cell_far (p := ⟨gb187, 1, none⟩) (by first | (rw [add_block]; exact hn188_1) | (show (Addr.add _ _).block ≠ _; rw [add_block]; exact hn188_1) | exact hn188_1) (.int .i64 ((rd_T61 t173 x32_2).f1))).trans hx188_0; replace hx188_0 := (cell_far (p := ⟨gb187, 2, none⟩) (by first | (rw [add_block]; exact hn188_2) | (show (Addr.add _ _).block ≠ _; rw [add_block]; exact hn188_2) | exact hn188_2) (.int .i64 ((rd_T61 t173 x32_2).f2))).trans hx188_0; replace hx188_0 := (cell_far (p := ⟨gb187, 3, none⟩) (by first | (rw [add_block]; exact hn188_3) | (show (Addr.add _ _).block ≠ _; rw [add_block]; exact hn188_3) | exact hn188_3) (.int .i64 ((rd_T61 t173 x32_2).f3))).trans hx188_0; (try have hy188_0 := fun (n_ : Nat) => (show ((((((w20.drewN n_).setCell ⟨gb187, 0, none⟩ (.string ((rd_T61 t173 x32_2).f0))).setCell ⟨gb187, 1, none⟩ (.int .i64 ((rd_T61 t173 x32_2).f1))).setCell ⟨gb187, 2, none⟩ (.int .i64 ((rd_T61 t173 x32_2).f2))).setCell ⟨gb187, 3, none⟩ (.int .i64 ((rd_T61 t173 x32_2).f3)))).cell? _ = some _ from hx188_0)); clear hn188_0; clear hn188_1; clear hn188_2; clear hn188_3; replace p188 := eq_true p188; replace q188 := eq_true q188)); try go_wp2_with (first | ((with_reducible refine gate_dst (N := 8) rfl ?_); refine box_event ?hg (N := 8) ?hd (cs := #[.string (⟨#[]⟩ : ByteArray), .int .i64 0, .int .i64 0, .int .i64 0]) (t := 61) ?hr ?_; (case hd => rfl); (case hg => rfl); (case hr => first | (go_simp; done) | (go_simp; rfl)); intro gb187 hg w20 hbox hb; have n0_ := Aside0.mk (Kd.R_below (Kd.R_elderB (by (with_reducible repeat (first | apply Kd.R_alloc | apply Kd.R_drewN | apply Kd.R_drew)); exact HO_30.out) gb187 (Nat.le_of_eq hg.symm)) hb); have n1_ := Aside0.mk (Kd.R_below (Kd.R_elderB (by (with_reducible repeat (first | apply Kd.R_alloc | apply Kd.R_drewN | apply Kd.R_drew)); exact HO_186001.out) gb187 (Nat.le_of_eq hg.symm)) hb); have n2_ := Aside0.mk (Kd.R_below (by (with_reducible repeat (first | apply Kd.R_alloc | apply Kd.R_drewN | apply Kd.R_drew)); exact HO_186002.out) hb); have n3_ := Aside0.mk (Kd.R_below (by (with_reducible repeat (first | apply Kd.R_alloc | apply Kd.R_drewN | apply Kd.R_drew)); exact HO_186003.out) hb); have n4_ := Aside0.mk (blk_below (g := gb185) (o := .cells #[.string t172, .slice (some ad186) t173.length co12, .slice Ao13 t176.length co13, .slice Ao14 t179.length co14, .int .i64 t182, .int .i64 t183] 57 (0, 0)) (by (with_reducible repeat (first | refine blk_drewN ?_ _ | refine blk_drew ?_ | refine blk_alloc ?_ _)); exact BK185.out) hb); have n5_ := Aside0.mk (below_step (by repeat (first | (with_reducible first | exact HB.out | apply below_alloc | apply pw_below_drewN | apply below_drew1 | refine below_set ?_ GE185.out) | exact HB.out)) hb); have n6_ := Aside0.mk (hbox); have n7_ := Aside0.mk ((by rw [hg]; exact (below_size (by repeat (first | (with_reducible first | exact HB.out | apply below_alloc | apply pw_below_drewN | apply below_drew1 | refine below_set ?_ GE185.out) | exact HB.out))) : w.heap.size ≤ gb187)); have n8_ := Aside0.mk ((by rw [hg]; exact (below_size (by repeat (first | (with_reducible first | exact HB.out | apply below_alloc | apply pw_below_drewN | apply below_drew1 | refine below_set ?_ GE185.out) | exact HB.out))) : w.heap.size ≤ gb187)); have n9_ := Aside0.mk ((by rw [hg]; exact Nat.ne_of_lt (blk_lt (g := gb185) (o := .cells #[.string t172, .slice (some ad186) t173.length co12, .slice Ao13 t176.length co13, .slice Ao14 t179.length co14, .int .i64 t182, .int .i64 t183] 57 (0, 0)) (by (with_reducible repeat (first | refine blk_drewN ?_ _ | refine blk_drew ?_ | refine blk_alloc ?_ _)); exact BK185.out)) : gb185 ≠ gb187)); have n10_ := Aside0.mk ((by rw [hg]; exact Nat.ne_of_gt (blk_lt (g := gb185) (o := .cells #[.string t172, .slice (some ad186) t173.length co12, .slice Ao13 t176.length co13, .slice Ao14 t179.length co14, .int .i64 t182, .int .i64 t183] 57 (0, 0)) (by (with_reducible repeat (first | refine blk_drewN ?_ _ | refine blk_drew ?_ | refine blk_alloc ?_ _)); exact BK185.out)) : gb187 ≠ gb185)); clear HO_30; clear HO_186001; clear HO_186002; clear HO_186003; clear BK185; clear HB; have HO_30 := n0_; have HO_186001 := n1_; have HO_186002 := n2_; have HO_186003 := n3_; have BK185 := n4_; have HB := n5_; have BK187 := n6_; have GW187 := n7_; have GE187 := n8_; have NB185_187 := n9_; have NB187_185 := n10_; clear n0_ n1_ n2_ n3_ n4_ n5_ n6_ n7_ n8_ n9_ n10_; clear hb hbox hg; have hnb21 := NB187_185.out; have hnc21 := NB185_187.out; have hcz22_0 : w20.cell? ⟨gb187, 0, none⟩ = some (.string (⟨#[]⟩ : ByteArray)) := (blk_cell BK187.out 0).trans rfl; have hcz22_1 : w20.cell? ⟨gb187, 1, none⟩ = some (.int .i64 0) := (blk_cell BK187.out 1).trans rfl; have hcz22_2 : w20.cell? ⟨gb187, 2, none⟩ = some (.int .i64 0) := (blk_cell BK187.out 2).trans rfl; have hcz22_3 : w20.cell? ⟨gb187, 3, none⟩ = some (.int .i64 0) := (blk_cell BK187.out 3).trans rfl; have hfz22_0 := blk_frozen BK187.out 0; have hfz22_1 := blk_frozen BK187.out 1; have hfz22_2 := blk_frozen BK187.out 2; have hfz22_3 := blk_frozen BK187.out 3; have p188 : 0 ≤ (x32_2 : Int) := ode; have q188 : x32_2 < (l1.length : Int) := ode; obtain ⟨ad188, e188, hx188_0⟩ := Kd.at_int HR1.out x32_2 p188 q188; cases e188; have hn188_0 : ad188.block ≠ gb187 := Nat.ne_of_lt (Nat.lt_of_lt_of_le (by have := World.block_lt_of_cell? _ _ hx188_0; first | rwa [add_block] at this | exact this) GW187.out); have hn188_1 : ad188.block ≠ gb187 := Nat.ne_of_lt (Nat.lt_of_lt_of_le (by have := World.block_lt_of_cell? _ _ hx188_0; first | rwa [add_block] at this | exact this) GW187.out); have hn188_2 : ad188.block ≠ gb187 := Nat.ne_of_lt (Nat.lt_of_lt_of_le (by have := World.block_lt_of_cell? _ _ hx188_0; first | rwa [add_block] at this | exact this) GW187.out); have hn188_3 : ad188.block ≠ gb187 := Nat.ne_of_lt (Nat.lt_of_lt_of_le (by have := World.block_lt_of_cell? _ _ hx188_0; first | rwa [add_block] at this | exact this) GW187.out); replace hx188_0 := (HB.out.cell (World.block_lt_of_cell? w _ hx188_0)).trans hx188_0; replace hx188_0 := (cell_far (p := ⟨gb187, 0, none⟩) (by first | (rw [add_block]; exact hn188_0) | (show (Addr.add _ _).block ≠ _; rw [add_block]; exact hn188_0) | exact hn188_0) (.string ((rd_T61 t173 x32_2).f0))).trans hx188_0; replace hx188_0 := (cell_far (p := ⟨gb187, 1, none⟩) (by first | (rw [add_block]; exact hn188_1) | (show (Addr.add _ _).block ≠ _; rw [add_block]; exact hn188_1) | exact hn188_1) (.int .i64 ((rd_T61 t173 x32_2).f1))).trans hx188_0; replace hx188_0 := (cell_far (p := ⟨gb187, 2, none⟩) (by first | (rw [add_block]; exact hn188_2) | (show (Addr.add _ _).block ≠ _; rw [add_block]; exact hn188_2) | exact hn188_2) (.int .i64 ((rd_T61 t173 x32_2).f2))).trans hx188_0; replace hx188_0 := (cell_far (p := ⟨gb187, 3, none⟩) (by first | (rw [add_block]; exact hn188_3) | (show (Addr.add _ _).block ≠ _; rw [add_block]; exact hn188_3) | exact hn188_3) (.int .i64 ((rd_T61 t173 x32_2).f3))).trans hx188_0; (try have hy188_0 := fun (n_ : Nat) => (show ((((((w20.drewN n_).setCell ⟨gb187, 0, none⟩ (.string ((rd_T61 t173 x32_2).f0))).setCell ⟨gb187, 1, none⟩ (.int .i64 ((rd_T61 t173 x32_2).f1))).setCell ⟨gb187, 2, none⟩ (.int .i64 ((rd_T61 t173 x32_2).f2))).setCell ⟨gb187, 3, none⟩ (.int .i64 ((rd_T61 t173 x32_2).f3)))).cell? _ = some _ from hx188_0)); clear hn188_0; clear hn188_1; clear hn188_2; clear hn188_3; replace p188 := eq_true p188; replace q188 := eq_true q188)))
             go_ret
             exact ⟨by first | rfl | (simp [errW_none, errW_some] <;> rfl) | (simp [*, errW_none, errW_some] <;> rfl), by repeat (first | (with_reducible first | exact HB.out | apply below_alloc | apply pw_below_drewN | apply below_drew1 | refine below_set ?_ GE185.out | refine below_set ?_ GE187.out) | exact HB.out)⟩
            ·
             rw [if_neg c19] at H
             have c19b0 : decide ((rd l1 x32_2) < ((rd_T61 t173 x32_2).f1)) = false := decide_eq_false c19
             clear c19
             by_cases c23 : (rd l1 x32_2) > ((rd_T61 t173 x32_2).f2)
             ·
              rw [if_pos c23] at H
              have c23b0 : decide (((rd_T61 t173 x32_2).f2) < (rd l1 x32_2)) = true := decide_eq_true c23
              clear c23
              obtain rfl := Option.some.inj H
              have p186 : 0 ≤ (x32_2 : Int) := ode
              have q186 : x32_2 < (t173.length : Int) := ode
              obtain ⟨ad186, e186, hx186_0, hx186_1, hx186_2, hx186_3⟩ := at_T61 (Kd.R_reads' HO_30.out).2.2 x32_2 p186 q186
              cases e186
              replace p186 := eq_true p186
              replace q186 := eq_true q186
              go_wp2_with (first | ((with_reducible refine gate_dst (N := 8) rfl ?_); refine box_event ?hg (N := 8) ?hd (cs := #[.string (⟨#[]⟩ : ByteArray), .int .i64 0, .int .i64 0, .int .i64 0]) (t := 61) ?hr ?_; (case hd => rfl); (case hg => rfl); (case hr => first | (go_simp; done) | (go_simp; rfl)); intro gb187 hg w24 hbox hb; have n0_ := Aside0.mk (Kd.R_below (Kd.R_elderB (by (with_reducible repeat (first | apply Kd.R_alloc | apply Kd.R_drewN | apply Kd.R_drew)); exact HO_30.out) gb187 (Nat.le_of_eq hg.symm)) hb); have n1_ := Aside0.mk (Kd.R_below (Kd.R_elderB (by (with_reducible repeat (first | apply Kd.R_alloc | apply Kd.R_drewN | apply Kd.R_drew)); exact HO_186001.out) gb187 (Nat.le_of_eq hg.symm)) hb); have n2_ := Aside0.mk (Kd.R_below (by (with_reducible repeat (first | apply Kd.R_alloc | apply Kd.R_drewN | apply Kd.R_drew)); exact HO_186002.out) hb); have n3_ := Aside0.mk (Kd.R_below (by (with_reducible repeat (first | apply Kd.R_alloc | apply Kd.R_drewN | apply Kd.R_drew)); exact HO_186003.out) hb); have n4_ := Aside0.mk (blk_below (g := gb185) (o := .cells #[.string t172, .slice (some ad186) t173.length co12, .slice Ao13 t176.length co13, .slice Ao14 t179.length co14, .int .i64 t182, .int .i64 t183] 57 (0, 0)) (by (with_reducible repeat (first | refine blk_drewN ?_ _ | refine blk_drew ?_ | refine blk_alloc ?_ _)); exact BK185.out) hb); have n5_ := Aside0.mk (below_step (by repeat (first | (with_reducible first | exact HB.out | apply below_alloc | apply pw_below_drewN | apply below_drew1 | refine below_set ?_ GE185.out) | exact HB.out)) hb); have n6_ := Aside0.mk (hbox); have n7_ := Aside0.mk ((by rw [hg]; exact (below_size (by repeat (first | (with_reducible first | exact HB.out | apply below_alloc | apply pw_below_drewN | apply below_drew1 | refine below_set ?_ GE185.out) | exact HB.out))) : w.heap.size ≤ gb187)); have n8_ := Aside0.mk ((by rw [hg]; exact (below_size (by repeat (first | (with_reducible first | exact HB.out | apply below_alloc | apply pw_below_drewN | apply below_drew1 | refine below_set ?_ GE185.out) | exact HB.out))) : w.heap.size ≤ gb187)); have n9_ := Aside0.mk ((by rw [hg]; exact Nat.ne_of_lt (blk_lt (g := gb185) (o := .cells #[.string t172, .slice (some ad186) t173.length co12, .slice Ao13 t176.length co13, .slice Ao14 t179.length co14, .int .i64 t182, .int .i64 t183] 57 (0, 0)) (by (with_reducible repeat (first | refine blk_drewN ?_ _ | refine blk_drew ?_ | refine blk_alloc ?_ _)); exact BK185.out)) : gb185 ≠ gb187)); have n10_ := Aside0.mk ((by rw [hg]; exact Nat.ne_of_gt (blk_lt (g := gb185) (o := .cells #[.string t172, .slice (some ad186) t173.length co12, .slice Ao13 t176.length co13, .slice Ao14 t179.length co14, .int .i64 t182, .int .i64 t183] 57 (0, 0)) (by (with_reducible repeat (first | refine blk_drewN ?_ _ | refine blk_drew ?_ | refine blk_alloc ?_ _)); exact BK185.out)) : gb187 ≠ gb185)); clear HO_30; clear HO_186001; clear HO_186002; clear HO_186003; clear BK185; clear HB; have HO_30 := n0_; have HO_186001 := n1_; have HO_186002 := n2_; have HO_186003 := n3_; have BK185 := n4_; have HB := n5_; have BK187 := n6_; have GW187 := n7_; have GE187 := n8_; have NB185_187 := n9_; have NB187_185 := n10_; clear n0_ n1_ n2_ n3_ n4_ n5_ n6_ n7_ n8_ n9_ n10_; clear hb hbox hg; have hnb25 := NB187_185.out; have hnc25 := NB185_187.out; have hcz26_0 : w24.cell? ⟨gb187, 0, none⟩ = some (.string (⟨#[]⟩ : ByteArray)) := (blk_cell BK187.out 0).trans rfl; have hcz26_1 : w24.cell? ⟨gb187, 1, none⟩ = some (.int .i64 0) := (blk_cell BK187.out 1).trans rfl; have hcz26_2 : w24.cell? ⟨gb187, 2, none⟩ = some (.int .i64 0) := (blk_cell BK187.out 2).trans rfl; have hcz26_3 : w24.cell? ⟨gb187, 3, none⟩ = some (.int .i64 0) := (blk_cell BK187.out 3).trans rfl; have hfz26_0 := blk_frozen BK187.out 0; have hfz26_1 := blk_frozen BK187.out 1; have hfz26_2 := blk_frozen BK187.out 2; have hfz26_3 := blk_frozen BK187.out 3; have p188 : 0 ≤ (x32_2 : Int) := ode; have q188 : x32_2 < (l1.length : Int) := ode; obtain ⟨ad188, e188, hx188_0⟩ := Kd.at_int HR1.out x32_2 p188 q188; cases e188; have hn188_0 : ad188.block ≠ gb187 := Nat.ne_of_lt (Nat.lt_of_lt_of_le (by have := World.block_lt_of_cell? _ _ hx188_0; first | rwa [add_block] at this | exact this) GW187.out); have hn188_1 : ad188.block ≠ gb187 := Nat.ne_of_lt (Nat.lt_of_lt_of_le (by have := World.block_lt_of_cell? _ _ hx188_0; first | rwa [add_block] at this | exact this) GW187.out); have hn188_2 : ad188.block ≠ gb187 := Nat.ne_of_lt (Nat.lt_of_lt_of_le (by have := World.block_lt_of_cell? _ _ hx188_0; first | rwa [add_block] at this | exact this) GW187.out); have hn188_3 : ad188.block ≠ gb187 := Nat.ne_of_lt (Nat.lt_of_lt_of_le (by have := World.block_lt_of_cell? _ _ hx188_0; first | rwa [add_block] at this | exact this) GW187.out); replace hx188_0 := (HB.out.cell (World.block_lt_of_cell? w _ hx188_0)).trans hx188_0; replace hx188_0 := (cell_far (p := ⟨gb187, 0, none⟩) (by first | (rw [add_block]; exact hn188_0) | (show (Addr.add _ _).block ≠ _; rw [add_block]; exact hn188_0) | exact hn188_0) (.string ((rd_T61 t173 x32_2).f0))).trans hx188_0; replace hx188_0 := (cell_far (p := ⟨gb187, 1, none⟩) (by first | (rw [add_block]; exact hn188_1) | (show (Addr.add _ _).block ≠ _; rw [add_block]; exact hn188_1) | exact hn188_1) (.int .i64 ((rd_T61 t173 x32_2).f1))).trans hx188_0; replace hx188_0 := (cell_far (p := ⟨gb187, 2, none⟩) (by first | (rw [add_block]; exact hn188_2) | (show (Addr.add _ _).block ≠ _; rw [add_block]; exact hn188_2) | exact hn188_2) (.int .i64 ((rd_T61 t173 x32_2).f2))).trans hx188_0; replace hx188_0 := (cell_far (p := ⟨gb187, 3, none⟩) (by first | (rw [add_block]; exact hn188_3) | (show (Addr.add _ _).block ≠ _; rw [add_block]; exact hn188_3) | exact hn188_3) (.int .i64 ((rd_T61 t173 x32_2).f3))).trans hx188_0; (try have hy188_0 := fun (n_ : Nat) => (show ((((((w24.drewN n_).setCell ⟨gb187, 0, none⟩ (.string ((rd_T61 t173 x32_2).f0))).setCell ⟨gb187, 1, none⟩ (.int .i64 ((rd_T61 t173 x32_2).f1))).setCell ⟨gb187, 2, none⟩ (.int .i64 ((rd_T61 t173 x32_2).f2))).setCell ⟨gb187, 3, none⟩ (.int .i64 ((rd_T61 t173 x32_2).f3)))).cell? _ = some _ from hx188_0)); clear hn188_0; clear hn188_1; clear hn188_2; clear hn188_3; replace p188 := eq_true p188; replace q188 := eq_true q188; have p189 : 0 ≤ (x32_2 : Int) := ode; have q189 : x32_2 < (l1.length : Int) := ode; obtain ⟨ad189, e189, hx189_0⟩ := Kd.at_int HR1.out x32_2 p189 q189; obtain rfl : ad188 = ad189 := (by injection e189); have hn189_0 : ad188.block ≠ gb187 := Nat.ne_of_lt (Nat.lt_of_lt_of_le (by have := World.block_lt_of_cell? _ _ hx189_0; first | rwa [add_block] at this | exact this) GW187.out); have hn189_1 : ad188.block ≠ gb187 := Nat.ne_of_lt (Nat.lt_of_lt_of_le (by have := World.block_lt_of_cell? _ _ hx189_0; first | rwa [add_block] at this | exact this) GW187.out); have hn189_2 : ad188.block ≠ gb187 := Nat.ne_of_lt (Nat.lt_of_lt_of_le (by have := World.block_lt_of_cell? _ _ hx189_0; first | rwa [add_block] at this | exact this) GW187.out); have hn189_3 : ad188.block ≠ gb187 := Nat.ne_of_lt (Nat.lt_of_lt_of_le (by have := World.block_lt_of_cell? _ _ hx189_0; first | rwa [add_block] at this | exact this) GW187.out); replace hx189_0 := (HB.out.cell (World.block_lt_of_cell? w _ hx189_0)).trans hx189_0; replace hx189_0 := (cell_far (p := ⟨gb187, 0, none⟩) (by first | (rw [add_block]; exact hn189_0) | (show (Addr.add _ _).block ≠ _; rw [add_block]; exact hn189_0) | exact hn189_0) (.string ((rd_T61 t173 x32_2).f0))).trans hx189_0; replace hx189_0 := (cell_far (p := ⟨gb187, 1, none⟩) (by first | (rw [add_block]; exact hn189_1) | (show (Addr.add _ _).block ≠ _; rw [add_block]; exact hn189_1) | exact hn189_1) (.int .i64 ((rd_T61 t173 x32_2).f1))).trans hx189_0; replace hx189_0 := (cell_far (p := ⟨gb187, 2, none⟩) (by first | (rw [add_block]; exact hn189_2) | (show (Addr.add _ _).block ≠ _; rw [add_block]; exact hn189_2) | exact hn189_2) (.int .i64 ((rd_T61 t173 x32_2).f2))).trans hx189_0; replace hx189_0 := (cell_far (p := ⟨gb187, 3, none⟩) (by first | (rw [add_block]; exact hn189_3) | (show (Addr.add _ _).block ≠ _; rw [add_block]; exact hn189_3) | exact hn189_3) (.int .i64 ((rd_T61 t173 x32_2).f3))).trans hx189_0; (try have hy189_0 := fun (n_ : Nat) => (show ((((((w24.drewN n_).setCell ⟨gb187, 0, none⟩ (.string ((rd_T61 t173 x32_2).f0))).setCell ⟨gb187, 1, none⟩ (.int .i64 ((rd_T61 t173 x32_2).f1))).setCell ⟨gb187, 2, none⟩ (.int .i64 ((rd_T61 t173 x32_2).f2))).setCell ⟨gb187, 3, none⟩ (.int .i64 ((rd_T61 t173 x32_2).f3)))).cell? _ = some _ from hx189_0)); clear hn189_0; clear hn189_1; clear hn189_2; clear hn189_3; replace p189 := eq_true p189; replace q189 := eq_true q189))
              repeat (go_quiet (first | ((with_reducible refine gate_dst (N := 8) rfl ?_); refine box_event ?hg (N := 8) ?hd (cs := #[.string (⟨#[]⟩ : ByteArray), .int .i64 0, .int .i64 0, .int .i64 0]) (t := 61) ?hr ?_; (case hd => rfl); (case hg => rfl); (case hr => first | (go_simp; done) | (go_simp; rfl)); intro gb187 hg w24 hbox hb; have n0_ := Aside0.mk (Kd.R_below (Kd.R_elderB (by (with_reducible repeat (first | apply Kd.R_alloc | apply Kd.R_drewN | apply Kd.R_drew)); exact HO_30.out) gb187 (Nat.le_of_eq hg.symm)) hb); have n1_ := Aside0.mk (Kd.R_below (Kd.R_elderB (by (with_reducible repeat (first | apply Kd.R_alloc | apply Kd.R_drewN | apply Kd.R_drew)); exact HO_186001.out) gb187 (Nat.le_of_eq hg.symm)) hb); have n2_ := Aside0.mk (Kd.R_below (by (with_reducible repeat (first | apply Kd.R_alloc | apply Kd.R_drewN | apply Kd.R_drew)); exact HO_186002.out) hb); have n3_ := Aside0.mk (Kd.R_below (by (with_reducible repeat (first | apply Kd.R_alloc | apply Kd.R_drewN | apply Kd.R_drew)); exact HO_186003.out) hb); have n4_ := Aside0.mk (blk_below (g := gb185) (o := .cells #[.string t172, .slice (some ad186) t173.length co12, .slice Ao13 t176.length co13, .slice Ao14 t179.length co14, .int .i64 t182, .int .i64 t183] 57 (0, 0)) (by (with_reducible repeat (first | refine blk_drewN ?_ _ | refine blk_drew ?_ | refine blk_alloc ?_ _)); exact BK185.out) hb); have n5_ := Aside0.mk (below_step (by repeat (first | (with_reducible first | exact HB.out | apply below_alloc | apply pw_below_drewN | apply below_drew1 | refine below_set ?_ GE185.out) | exact HB.out)) hb); have n6_ := Aside0.mk (hbox); have n7_ := Aside0.mk ((by rw [hg]; exact (below_size (by repeat (first | (with_reducible first | exact HB.out | apply below_alloc | apply pw_below_drewN | apply below_drew1 | refine below_set ?_ GE185.out) | exact HB.out))) : w.heap.size ≤ gb187)); have n8_ := Aside0.mk ((by rw [hg]; exact (below_size (by repeat (first | (with_reducible first | exact HB.out | apply below_alloc | apply pw_below_drewN | apply below_drew1 | refine below_set ?_ GE185.out) | exact HB.out))) : w.heap.size ≤ gb187)); have n9_ := Aside0.mk ((by rw [hg]; exact Nat.ne_of_lt (blk_lt (g := gb185) (o := .cells #[.string t172, .slice (some ad186) t173.length co12, .slice Ao13 t176.length co13, .slice Ao14 t179.length co14, .int .i64 t182, .int .i64 t183] 57 (0, 0)) (by (with_reducible repeat (first | refine blk_drewN ?_ _ | refine blk_drew ?_ | refine blk_alloc ?_ _)); exact BK185.out)) : gb185 ≠ gb187)); have n10_ := Aside0.mk ((by rw [hg]; exact Nat.ne_of_gt (blk_lt (g := gb185) (o := .cells #[.string t172, .slice (some ad186) t173.length co12, .slice Ao13 t176.length co13, .slice Ao14 t179.length co14, .int .i64 t182, .int .i64 t183] 57 (0, 0)) (by (with_reducible repeat (first | refine blk_drewN ?_ _ | refine blk_drew ?_ | refine blk_alloc ?_ _)); exact BK185.out)) : gb187 ≠ gb185)); clear HO_30; clear HO_186001; clear HO_186002; clear HO_186003; clear BK185; clear HB; have HO_30 := n0_; have HO_186001 := n1_; have HO_186002 := n2_; have HO_186003 := n3_; have BK185 := n4_; have HB := n5_; have BK187 := n6_; have GW187 := n7_; have GE187 := n8_; have NB185_187 := n9_; have NB187_185 := n10_; clear n0_ n1_ n2_ n3_ n4_ n5_ n6_ n7_ n8_ n9_ n10_; clear hb hbox hg; have hnb25 := NB187_185.out; have hnc25 := NB185_187.out; have hcz26_0 : w24.cell? ⟨gb187, 0, none⟩ = some (.string (⟨#[]⟩ : ByteArray)) := (blk_cell BK187.out 0).trans rfl; have hcz26_1 : w24.cell? ⟨gb187, 1, none⟩ = some (.int .i64 0) := (blk_cell BK187.out 1).trans rfl; have hcz26_2 : w24.cell? ⟨gb187, 2, none⟩ = some (.int .i64 0) := (blk_cell BK187.out 2).trans rfl; have hcz26_3 : w24.cell? ⟨gb187, 3, none⟩ = some (.int .i64 0) := (blk_cell BK187.out 3).trans rfl; have hfz26_0 := blk_frozen BK187.out 0; have hfz26_1 := blk_frozen BK187.out 1; have hfz26_2 := blk_frozen BK187.out 2; have hfz26_3 := blk_frozen BK187.out 3; have p188 : 0 ≤ (x32_2 : Int) := ode; have q188 : x32_2 < (l1.length : Int) := ode; obtain ⟨ad188, e188, hx188_0⟩ := Kd.at_int HR1.out x32_2 p188 q188; cases e188; have hn188_0 : ad188.block ≠ gb187 := Nat.ne_of_lt (Nat.lt_of_lt_of_le (by have := World.block_lt_of_cell? _ _ hx188_0; first | rwa [add_block] at this | exact this) GW187.out); have hn188_1 : ad188.block ≠ gb187 := Nat.ne_of_lt (Nat.lt_of_lt_of_le (by have := World.block_lt_of_cell? _ _ hx188_0; first | rwa [add_block] at this | exact this) GW187.out); have hn188_2 : ad188.block ≠ gb187 := Nat.ne_of_lt (Nat.lt_of_lt_of_le (by have := World.block_lt_of_cell? _ _ hx188_0; first | rwa [add_block] at this | exact this) GW187.out); have hn188_3 : ad188.block ≠ gb187 := Nat.ne_of_lt (Nat.lt_of_lt_of_le (by have := World.block_lt_of_cell? _ _ hx188_0; first | rwa [add_block] at this | exact this) GW187.out); replace hx188_0 := (HB.out.cell (World.block_lt_of_cell? w _ hx188_0)).trans hx188_0; replace hx188_0 := (cell_far (p := ⟨gb187, 0, none⟩) (by first | (rw [add_block]; exact hn188_0) | (show (Addr.add _ _).block ≠ _; rw [add_block]; exact hn188_0) | exact hn188_0) (.string ((rd_T61 t173 x32_2).f0))).trans hx188_0; replace hx188_0 := (cell_far (p := ⟨gb187, 1, none⟩) (by first | (rw [add_block]; exact hn188_1) | (show (Addr.add _ _).block ≠ _; rw [add_block]; exact hn188_1) | exact hn188_1) (.int .i64 ((rd_T61 t173 x32_2).f1))).trans hx188_0; replace hx188_0 := (cell_far (p := ⟨gb187, 2, none⟩) (by first | (rw [add_block]; exact hn188_2) | (show (Addr.add _ _).block ≠ _; rw [add_block]; exact hn188_2) | exact hn188_2) (.int .i64 ((rd_T61 t173 x32_2).f2))).trans hx188_0; replace hx188_0 := (cell_far (p := ⟨gb187, 3, none⟩) (by first | (rw [add_block]; exact hn188_3) | (show (Addr.add _ _).block ≠ _; rw [add_block]; exact hn188_3) | exact hn188_3) (.int .i64 ((rd_T61 t173 x32_2).f3))).trans hx188_0; (try have hy188_0 := fun (n_ : Nat) => (show ((((((w24.drewN n_).setCell ⟨gb187, 0, none⟩ (.string ((rd_T61 t173 x32_2).f0))).setCell ⟨gb187, 1, none⟩ (.int .i64 ((rd_T61 t173 x32_2).f1))).setCell ⟨gb187, 2, none⟩ (.int .i64 ((rd_T61 t173 x32_2).f2))).setCell ⟨gb187, 3, none⟩ (.int .i64 ((rd_T61 t173 x32_2).f3)))).cell? _ = some _ from hx188_0)); clear hn188_0; clear hn188_1; clear hn188_2; clear hn188_3; replace p188 := eq_true p188; replace q188 := eq_true q188; have p189 : 0 ≤ (x32_2 : Int) := ode; have q189 : x32_2 < (l1.length : Int) := ode; obtain ⟨ad189, e189, hx189_0⟩ := Kd.at_int HR1.out x32_2 p189 q189; obtain rfl : ad188 = ad189 := (by injection e189); have hn189_0 : ad188.block ≠ gb187 := Nat.ne_of_lt (Nat.lt_of_lt_of_le (by have := World.block_lt_of_cell? _ _ hx189_0; first | rwa [add_block] at this | exact this) GW187.out); have hn189_1 : ad188.block ≠ gb187 := Nat.ne_of_lt (Nat.lt_of_lt_of_le (by have := World.block_lt_of_cell? _ _ hx189_0; first | rwa [add_block] at this | exact this) GW187.out); have hn189_2 : ad188.block ≠ gb187 := Nat.ne_of_lt (Nat.lt_of_lt_of_le (by have := World.block_lt_of_cell? _ _ hx189_0; first | rwa [add_block] at this | exact this) GW187.out); have hn189_3 : ad188.block ≠ gb187 := Nat.ne_of_lt (Nat.lt_of_lt_of_le (by have := World.block_lt_of_cell? _ _ hx189_0; first | rwa [add_block] at this | exact this) GW187.out); replace hx189_0 := (HB.out.cell (World.block_lt_of_cell? w _ hx189_0)).trans hx189_0; replace hx189_0 := (cell_far (p := ⟨gb187, 0, none⟩) (by first | (rw [add_block]; exact hn189_0) | (show (Addr.add _ _).block ≠ _; rw [add_block]; exact hn189_0) | exact hn189_0) (.string ((rd_T61 t173 x32_2).f0))).trans hx189_0; replace hx189_0 := (cell_far (p := ⟨gb187, 1, none⟩) (by first | (rw [add_block]; exact hn189_1) | (show (Addr.add _ _).block ≠ _; rw [add_block]; exact hn189_1) | exact hn189_1) (.int .i64 ((rd_T61 t173 x32_2).f1))).trans hx189_0; replace hx189_0 := (cell_far (p := ⟨gb187, 2, none⟩) (by first | (rw [add_block]; exact hn189_2) | (show (Addr.add _ _).block ≠ _; rw [add_block]; exact hn189_2) | exact hn189_2) (.int .i64 ((rd_T61 t173 x32_2).f2))).trans hx189_0; replace hx189_0 := (cell_far (p := ⟨gb187, 3, none⟩) (by first | (rw [add_block]; exact hn189_3) | (show (Addr.add _ _).block ≠ _; rw [add_block]; exact hn189_3) | exact hn189_3) (.int .i64 ((rd_T61 t173 x32_2).f3))).trans hx189_0; (try have hy189_0 := fun (n_ : Nat) => (show ((((((w24.drewN n_).setCell ⟨gb187, 0, none⟩ (.string ((rd_T61 t173 x32_2).f0))).setCell ⟨gb187, 1, none⟩ (.int .i64 ((rd_T61 t173 x32_2).f1))).setCell ⟨gb187, 2, none⟩ (.int .i64 ((rd_T61 t173 x32_2).f2))).setCell ⟨gb187, 3, none⟩ (.int .i64 ((rd_T61 t173 x32_2).f3)))).cell? _ = some _ from hx189_0)); clear hn189_0; clear hn189_1; clear hn189_2; clear hn189_3; replace p189 := eq_true p189; replace q189 := eq_true q189)); try go_wp2_with (first | ((with_reducible refine gate_dst (N := 8) rfl ?_); refine box_event ?hg (N := 8) ?hd (cs := #[.string (⟨#[]⟩ : ByteArray), .int .i64 0, .int .i64 0, .int .i64 0]) (t := 61) ?hr ?_; (case hd => rfl); (case hg => rfl); (case hr => first | (go_simp; done) | (go_simp; rfl)); intro gb187 hg w24 hbox hb; have n0_ := Aside0.mk (Kd.R_below (Kd.R_elderB (by (with_reducible repeat (first | apply Kd.R_alloc | apply Kd.R_drewN | apply Kd.R_drew)); exact HO_30.out) gb187 (Nat.le_of_eq hg.symm)) hb); have n1_ := Aside0.mk (Kd.R_below (Kd.R_elderB (by (with_reducible repeat (first | apply Kd.R_alloc | apply Kd.R_drewN | apply Kd.R_drew)); exact HO_186001.out) gb187 (Nat.le_of_eq hg.symm)) hb); have n2_ := Aside0.mk (Kd.R_below (by (with_reducible repeat (first | apply Kd.R_alloc | apply Kd.R_drewN | apply Kd.R_drew)); exact HO_186002.out) hb); have n3_ := Aside0.mk (Kd.R_below (by (with_reducible repeat (first | apply Kd.R_alloc | apply Kd.R_drewN | apply Kd.R_drew)); exact HO_186003.out) hb); have n4_ := Aside0.mk (blk_below (g := gb185) (o := .cells #[.string t172, .slice (some ad186) t173.length co12, .slice Ao13 t176.length co13, .slice Ao14 t179.length co14, .int .i64 t182, .int .i64 t183] 57 (0, 0)) (by (with_reducible repeat (first | refine blk_drewN ?_ _ | refine blk_drew ?_ | refine blk_alloc ?_ _)); exact BK185.out) hb); have n5_ := Aside0.mk (below_step (by repeat (first | (with_reducible first | exact HB.out | apply below_alloc | apply pw_below_drewN | apply below_drew1 | refine below_set ?_ GE185.out) | exact HB.out)) hb); have n6_ := Aside0.mk (hbox); have n7_ := Aside0.mk ((by rw [hg]; exact (below_size (by repeat (first | (with_reducible first | exact HB.out | apply below_alloc | apply pw_below_drewN | apply below_drew1 | refine below_set ?_ GE185.out) | exact HB.out))) : w.heap.size ≤ gb187)); have n8_ := Aside0.mk ((by rw [hg]; exact (below_size (by repeat (first | (with_reducible first | exact HB.out | apply below_alloc | apply pw_below_drewN | apply below_drew1 | refine below_set ?_ GE185.out) | exact HB.out))) : w.heap.size ≤ gb187)); have n9_ := Aside0.mk ((by rw [hg]; exact Nat.ne_of_lt (blk_lt (g := gb185) (o := .cells #[.string t172, .slice (some ad186) t173.length co12, .slice Ao13 t176.length co13, .slice Ao14 t179.length co14, .int .i64 t182, .int .i64 t183] 57 (0, 0)) (by (with_reducible repeat (first | refine blk_drewN ?_ _ | refine blk_drew ?_ | refine blk_alloc ?_ _)); exact BK185.out)) : gb185 ≠ gb187)); have n10_ := Aside0.mk ((by rw [hg]; exact Nat.ne_of_gt (blk_lt (g := gb185) (o := .cells #[.string t172, .slice (some ad186) t173.length co12, .slice Ao13 t176.length co13, .slice Ao14 t179.length co14, .int .i64 t182, .int .i64 t183] 57 (0, 0)) (by (with_reducible repeat (first | refine blk_drewN ?_ _ | refine blk_drew ?_ | refine blk_alloc ?_ _)); exact BK185.out)) : gb187 ≠ gb185)); clear HO_30; clear HO_186001; clear HO_186002; clear HO_186003; clear BK185; clear HB; have HO_30 := n0_; have HO_186001 := n1_; have HO_186002 := n2_; have HO_186003 := n3_; have BK185 := n4_; have HB := n5_; have BK187 := n6_; have GW187 := n7_; have GE187 := n8_; have NB185_187 := n9_; have NB187_185 := n10_; clear n0_ n1_ n2_ n3_ n4_ n5_ n6_ n7_ n8_ n9_ n10_; clear hb hbox hg; have hnb25 := NB187_185.out; have hnc25 := NB185_187.out; have hcz26_0 : w24.cell? ⟨gb187, 0, none⟩ = some (.string (⟨#[]⟩ : ByteArray)) := (blk_cell BK187.out 0).trans rfl; have hcz26_1 : w24.cell? ⟨gb187, 1, none⟩ = some (.int .i64 0) := (blk_cell BK187.out 1).trans rfl; have hcz26_2 : w24.cell? ⟨gb187, 2, none⟩ = some (.int .i64 0) := (blk_cell BK187.out 2).trans rfl; have hcz26_3 : w24.cell? ⟨gb187, 3, none⟩ = some (.int .i64 0) := (blk_cell BK187.out 3).trans rfl; have hfz26_0 := blk_frozen BK187.out 0; have hfz26_1 := blk_frozen BK187.out 1; have hfz26_2 := blk_frozen BK187.out 2; have hfz26_3 := blk_frozen BK187.out 3; have p188 : 0 ≤ (x32_2 : Int) := ode; have q188 : x32_2 < (l1.length : Int) := ode; obtain ⟨ad188, e188, hx188_0⟩ := Kd.at_int HR1.out x32_2 p188 q188; cases e188; have hn188_0 : ad188.block ≠ gb187 := Nat.ne_of_lt (Nat.lt_of_lt_of_le (by have := World.block_lt_of_cell? _ _ hx188_0; first | rwa [add_block] at this | exact this) GW187.out); have hn188_1 : ad188.block ≠ gb187 := Nat.ne_of_lt (Nat.lt_of_lt_of_le (by have := World.block_lt_of_cell? _ _ hx188_0; first | rwa [add_block] at this | exact this) GW187.out); have hn188_2 : ad188.block ≠ gb187 := Nat.ne_of_lt (Nat.lt_of_lt_of_le (by have := World.block_lt_of_cell? _ _ hx188_0; first | rwa [add_block] at this | exact this) GW187.out); have hn188_3 : ad188.block ≠ gb187 := Nat.ne_of_lt (Nat.lt_of_lt_of_le (by have := World.block_lt_of_cell? _ _ hx188_0; first | rwa [add_block] at this | exact this) GW187.out); replace hx188_0 := (HB.out.cell (World.block_lt_of_cell? w _ hx188_0)).trans hx188_0; replace hx188_0 := (cell_far (p := ⟨gb187, 0, none⟩) (by first | (rw [add_block]; exact hn188_0) | (show (Addr.add _ _).block ≠ _; rw [add_block]; exact hn188_0) | exact hn188_0) (.string ((rd_T61 t173 x32_2).f0))).trans hx188_0; replace hx188_0 := (cell_far (p := ⟨gb187, 1, none⟩) (by first | (rw [add_block]; exact hn188_1) | (show (Addr.add _ _).block ≠ _; rw [add_block]; exact hn188_1) | exact hn188_1) (.int .i64 ((rd_T61 t173 x32_2).f1))).trans hx188_0; replace hx188_0 := (cell_far (p := ⟨gb187, 2, none⟩) (by first | (rw [add_block]; exact hn188_2) | (show (Addr.add _ _).block ≠ _; rw [add_block]; exact hn188_2) | exact hn188_2) (.int .i64 ((rd_T61 t173 x32_2).f2))).trans hx188_0; replace hx188_0 := (cell_far (p := ⟨gb187, 3, none⟩) (by first | (rw [add_block]; exact hn188_3) | (show (Addr.add _ _).block ≠ _; rw [add_block]; exact hn188_3) | exact hn188_3) (.int .i64 ((rd_T61 t173 x32_2).f3))).trans hx188_0; (try have hy188_0 := fun (n_ : Nat) => (show ((((((w24.drewN n_).setCell ⟨gb187, 0, none⟩ (.string ((rd_T61 t173 x32_2).f0))).setCell ⟨gb187, 1, none⟩ (.int .i64 ((rd_T61 t173 x32_2).f1))).setCell ⟨gb187, 2, none⟩ (.int .i64 ((rd_T61 t173 x32_2).f2))).setCell ⟨gb187, 3, none⟩ (.int .i64 ((rd_T61 t173 x32_2).f3)))).cell? _ = some _ from hx188_0)); clear hn188_0; clear hn188_1; clear hn188_2; clear hn188_3; replace p188 := eq_true p188; replace q188 := eq_true q188; have p189 : 0 ≤ (x32_2 : Int) := ode; have q189 : x32_2 < (l1.length : Int) := ode; obtain ⟨ad189, e189, hx189_0⟩ := Kd.at_int HR1.out x32_2 p189 q189; obtain rfl : ad188 = ad189 := (by injection e189); have hn189_0 : ad188.block ≠ gb187 := Nat.ne_of_lt (Nat.lt_of_lt_of_le (by have := World.block_lt_of_cell? _ _ hx189_0; first | rwa [add_block] at this | exact this) GW187.out); have hn189_1 : ad188.block ≠ gb187 := Nat.ne_of_lt (Nat.lt_of_lt_of_le (by have := World.block_lt_of_cell? _ _ hx189_0; first | rwa [add_block] at this | exact this) GW187.out); have hn189_2 : ad188.block ≠ gb187 := Nat.ne_of_lt (Nat.lt_of_lt_of_le (by have := World.block_lt_of_cell? _ _ hx189_0; first | rwa [add_block] at this | exact this) GW187.out); have hn189_3 : ad188.block ≠ gb187 := Nat.ne_of_lt (Nat.lt_of_lt_of_le (by have := World.block_lt_of_cell? _ _ hx189_0; first | rwa [add_block] at this | exact this) GW187.out); replace hx189_0 := (HB.out.cell (World.block_lt_of_cell? w _ hx189_0)).trans hx189_0; replace hx189_0 := (cell_far (p := ⟨gb187, 0, none⟩) (by first | (rw [add_block]; exact hn189_0) | (show (Addr.add _ _).block ≠ _; rw [add_block]; exact hn189_0) | exact hn189_0) (.string ((rd_T61 t173 x32_2).f0))).trans hx189_0; replace hx189_0 := (cell_far (p := ⟨gb187, 1, none⟩) (by first | (rw [add_block]; exact hn189_1) | (show (Addr.add _ _).block ≠ _; rw [add_block]; exact hn189_1) | exact hn189_1) (.int .i64 ((rd_T61 t173 x32_2).f1))).trans hx189_0; replace hx189_0 := (cell_far (p := ⟨gb187, 2, none⟩) (by first | (rw [add_block]; exact hn189_2) | (show (Addr.add _ _).block ≠ _; rw [add_block]; exact hn189_2) | exact hn189_2) (.int .i64 ((rd_T61 t173 x32_2).f2))).trans hx189_0; replace hx189_0 := (cell_far (p := ⟨gb187, 3, none⟩) (by first | (rw [add_block]; exact hn189_3) | (show (Addr.add _ _).block ≠ _; rw [add_block]; exact hn189_3) | exact hn189_3) (.int .i64 ((rd_T61 t173 x32_2).f3))).trans hx189_0; (try have hy189_0 := fun (n_ : Nat) => (show ((((((w24.drewN n_).setCell ⟨gb187, 0, none⟩ (.string ((rd_T61 t173 x32_2).f0))).setCell ⟨gb187, 1, none⟩ (.int .i64 ((rd_T61 t173 x32_2).f1))).setCell ⟨gb187, 2, none⟩ (.int .i64 ((rd_T61 t173 x32_2).f2))).setCell ⟨gb187, 3, none⟩ (.int .i64 ((rd_T61 t173 x32_2).f3)))).cell? _ = some _ from hx189_0)); clear hn189_0; clear hn189_1; clear hn189_2; clear hn189_3; replace p189 := eq_true p189; replace q189 := eq_true q189)))
              go_ret
              exact ⟨by first | rfl | (simp [errW_none, errW_some] <;> rfl) | (simp [*, errW_none, errW_some] <;> rfl), by repeat (first | (with_reducible first | exact HB.out | apply below_alloc | apply pw_below_drewN | apply below_drew1 | refine below_set ?_ GE185.out | refine below_set ?_ GE187.out) | exact HB.out)⟩
             ·
              rw [if_neg c23] at H
              have c23b0 : decide (((rd_T61 t173 x32_2).f2) < (rd l1 x32_2)) = false := decide_eq_false c23
              clear c23
              have H' := Aside0.mk H
              clear H
              have p186 : 0 ≤ (x32_2 : Int) := ode
              have q186 : x32_2 < (t173.length : Int) := ode
              obtain ⟨ad186, e186, hx186_0, hx186_1, hx186_2, hx186_3⟩ := at_T61 (Kd.R_reads' HO_30.out).2.2 x32_2 p186 q186
              cases e186
              replace p186 := eq_true p186
              replace q186 := eq_true q186
              go_wp2_with (first | ((with_reducible refine gate_dst (N := 8) rfl ?_); refine box_event ?hg (N := 8) ?hd (cs := #[.string (⟨#[]⟩ : ByteArray), .int .i64 0, .int .i64 0, .int .i64 0]) (t := 61) ?hr ?_; (case hd => rfl); (case hg => rfl); (case hr => first | (go_simp; done) | (go_simp; rfl)); intro gb187 hg w27 hbox hb; have n0_ := Aside0.mk (Kd.R_below (Kd.R_elderB (by (with_reducible repeat (first | apply Kd.R_alloc | apply Kd.R_drewN | apply Kd.R_drew)); exact HO_30.out) gb187 (Nat.le_of_eq hg.symm)) hb); have n1_ := Aside0.mk (Kd.R_below (Kd.R_elderB (by (with_reducible repeat (first | apply Kd.R_alloc | apply Kd.R_drewN | apply Kd.R_drew)); exact HO_186001.out) gb187 (Nat.le_of_eq hg.symm)) hb); have n2_ := Aside0.mk (Kd.R_below (by (with_reducible repeat (first | apply Kd.R_alloc | apply Kd.R_drewN | apply Kd.R_drew)); exact HO_186002.out) hb); have n3_ := Aside0.mk (Kd.R_below (by (with_reducible repeat (first | apply Kd.R_alloc | apply Kd.R_drewN | apply Kd.R_drew)); exact HO_186003.out) hb); have n4_ := Aside0.mk (blk_below (g := gb185) (o := .cells #[.string t172, .slice (some ad186) t173.length co12, .slice Ao13 t176.length co13, .slice Ao14 t179.length co14, .int .i64 t182, .int .i64 t183] 57 (0, 0)) (by (with_reducible repeat (first | refine blk_drewN ?_ _ | refine blk_drew ?_ | refine blk_alloc ?_ _)); exact BK185.out) hb); have n5_ := Aside0.mk (below_step (by repeat (first | (with_reducible first | exact HB.out | apply below_alloc | apply pw_below_drewN | apply below_drew1 | refine below_set ?_ GE185.out) | exact HB.out)) hb); have n6_ := Aside0.mk (hbox); have n7_ := Aside0.mk ((by rw [hg]; exact (below_size (by repeat (first | (with_reducible first | exact HB.out | apply below_alloc | apply pw_below_drewN | apply below_drew1 | refine below_set ?_ GE185.out) | exact HB.out))) : w.heap.size ≤ gb187)); have n8_ := Aside0.mk ((by rw [hg]; exact (below_size (by repeat (first | (with_reducible first | exact HB.out | apply below_alloc | apply pw_below_drewN | apply below_drew1 | refine below_set ?_ GE185.out) | exact HB.out))) : w.heap.size ≤ gb187)); have n9_ := Aside0.mk ((by rw [hg]; exact Nat.ne_of_lt (blk_lt (g := gb185) (o := .cells #[.string t172, .slice (some ad186) t173.length co12, .slice Ao13 t176.length co13, .slice Ao14 t179.length co14, .int .i64 t182, .int .i64 t183] 57 (0, 0)) (by (with_reducible repeat (first | refine blk_drewN ?_ _ | refine blk_drew ?_ | refine blk_alloc ?_ _)); exact BK185.out)) : gb185 ≠ gb187)); have n10_ := Aside0.mk ((by rw [hg]; exact Nat.ne_of_gt (blk_lt (g := gb185) (o := .cells #[.string t172, .slice (some ad186) t173.length co12, .slice Ao13 t176.length co13, .slice Ao14 t179.length co14, .int .i64 t182, .int .i64 t183] 57 (0, 0)) (by (with_reducible repeat (first | refine blk_drewN ?_ _ | refine blk_drew ?_ | refine blk_alloc ?_ _)); exact BK185.out)) : gb187 ≠ gb185)); clear HO_30; clear HO_186001; clear HO_186002; clear HO_186003; clear BK185; clear HB; have HO_30 := n0_; have HO_186001 := n1_; have HO_186002 := n2_; have HO_186003 := n3_; have BK185 := n4_; have HB := n5_; have BK187 := n6_; have GW187 := n7_; have GE187 := n8_; have NB185_187 := n9_; have NB187_185 := n10_; clear n0_ n1_ n2_ n3_ n4_ n5_ n6_ n7_ n8_ n9_ n10_; clear hb hbox hg; have hnb28 := NB187_185.out; have hnc28 := NB185_187.out; have hcz29_0 : w27.cell? ⟨gb187, 0, none⟩ = some (.string (⟨#[]⟩ : ByteArray)) := (blk_cell BK187.out 0).trans rfl; have hcz29_1 : w27.cell? ⟨gb187, 1, none⟩ = some (.int .i64 0) := (blk_cell BK187.out 1).trans rfl; have hcz29_2 : w27.cell? ⟨gb187, 2, none⟩ = some (.int .i64 0) := (blk_cell BK187.out 2).trans rfl; have hcz29_3 : w27.cell? ⟨gb187, 3, none⟩ = some (.int .i64 0) := (blk_cell BK187.out 3).trans rfl; have hfz29_0 := blk_frozen BK187.out 0; have hfz29_1 := blk_frozen BK187.out 1; have hfz29_2 := blk_frozen BK187.out 2; have hfz29_3 := blk_frozen BK187.out 3; have p188 : 0 ≤ (x32_2 : Int) := ode; have q188 : x32_2 < (l1.length : Int) := ode; obtain ⟨ad188, e188, hx188_0⟩ := Kd.at_int HR1.out x32_2 p188 q188; cases e188; have hn188_0 : ad188.block ≠ gb187 := Nat.ne_of_lt (Nat.lt_of_lt_of_le (by have := World.block_lt_of_cell? _ _ hx188_0; first | rwa [add_block] at this | exact this) GW187.out); have hn188_1 : ad188.block ≠ gb187 := Nat.ne_of_lt (Nat.lt_of_lt_of_le (by have := World.block_lt_of_cell? _ _ hx188_0; first | rwa [add_block] at this | exact this) GW187.out); have hn188_2 : ad188.block ≠ gb187 := Nat.ne_of_lt (Nat.lt_of_lt_of_le (by have := World.block_lt_of_cell? _ _ hx188_0; first | rwa [add_block] at this | exact this) GW187.out); have hn188_3 : ad188.block ≠ gb187 := Nat.ne_of_lt (Nat.lt_of_lt_of_le (by have := World.block_lt_of_cell? _ _ hx188_0; first | rwa [add_block] at this | exact this) GW187.out); replace hx188_0 := (HB.out.cell (World.block_lt_of_cell? w _ hx188_0)).trans hx188_0; replace hx188_0 := (cell_far (p := ⟨gb187, 0, none⟩) (by first | (rw [add_block]; exact hn188_0) | (show (Addr.add _ _).block ≠ _; rw [add_block]; exact hn188_0) | exact hn188_0) (.string ((rd_T61 t173 x32_2).f0))).trans hx188_0; replace hx188_0 := (cell_far (p := ⟨gb187, 1, none⟩) (by first | (rw [add_block]; exact hn188_1) | (show (Addr.add _ _).block ≠ _; rw [add_block]; exact hn188_1) | exact hn188_1) (.int .i64 ((rd_T61 t173 x32_2).f1))).trans hx188_0; replace hx188_0 := (cell_far (p := ⟨gb187, 2, none⟩) (by first | (rw [add_block]; exact hn188_2) | (show (Addr.add _ _).block ≠ _; rw [add_block]; exact hn188_2) | exact hn188_2) (.int .i64 ((rd_T61 t173 x32_2).f2))).trans hx188_0; replace hx188_0 := (cell_far (p := ⟨gb187, 3, none⟩) (by first | (rw [add_block]; exact hn188_3) | (show (Addr.add _ _).block ≠ _; rw [add_block]; exact hn188_3) | exact hn188_3) (.int .i64 ((rd_T61 t173 x32_2).f3))).trans hx188_0; (try have hy188_0 := fun (n_ : Nat) => (show ((((((w27.drewN n_).setCell ⟨gb187, 0, none⟩ (.string ((rd_T61 t173 x32_2).f0))).setCell ⟨gb187, 1, none⟩ (.int .i64 ((rd_T61 t173 x32_2).f1))).setCell ⟨gb187, 2, none⟩ (.int .i64 ((rd_T61 t173 x32_2).f2))).setCell ⟨gb187, 3, none⟩ (.int .i64 ((rd_T61 t173 x32_2).f3)))).cell? _ = some _ from hx188_0)); clear hn188_0; clear hn188_1; clear hn188_2; clear hn188_3; replace p188 := eq_true p188; replace q188 := eq_true q188; have p189 : 0 ≤ (x32_2 : Int) := ode; have q189 : x32_2 < (l1.length : Int) := ode; obtain ⟨ad189, e189, hx189_0⟩ := Kd.at_int HR1.out x32_2 p189 q189; obtain rfl : ad188 = ad189 := (by injection e189); have hn189_0 : ad188.block ≠ gb187 := Nat.ne_of_lt (Nat.lt_of_lt_of_le (by have := World.block_lt_of_cell? _ _ hx189_0; first | rwa [add_block] at this | exact this) GW187.out); have hn189_1 : ad188.block ≠ gb187 := Nat.ne_of_lt (Nat.lt_of_lt_of_le (by have := World.block_lt_of_cell? _ _ hx189_0; first | rwa [add_block] at this | exact this) GW187.out); have hn189_2 : ad188.block ≠ gb187 := Nat.ne_of_lt (Nat.lt_of_lt_of_le (by have := World.block_lt_of_cell? _ _ hx189_0; first | rwa [add_block] at this | exact this) GW187.out); have hn189_3 : ad188.block ≠ gb187 := Nat.ne_of_lt (Nat.lt_of_lt_of_le (by have := World.block_lt_of_cell? _ _ hx189_0; first | rwa [add_block] at this | exact this) GW187.out); replace hx189_0 := (HB.out.cell (World.block_lt_of_cell? w _ hx189_0)).trans hx189_0; replace hx189_0 := (cell_far (p := ⟨gb187, 0, none⟩) (by first | (rw [add_block]; exact hn189_0) | (show (Addr.add _ _).block ≠ _; rw [add_block]; exact hn189_0) | exact hn189_0) (.string ((rd_T61 t173 x32_2).f0))).trans hx189_0; replace hx189_0 := (cell_far (p := ⟨gb187, 1, none⟩) (by first | (rw [add_block]; exact hn189_1) | (show (Addr.add _ _).block ≠ _; rw [add_block]; exact hn189_1) | exact hn189_1) (.int .i64 ((rd_T61 t173 x32_2).f1))).trans hx189_0; replace hx189_0 := (cell_far (p := ⟨gb187, 2, none⟩) (by first | (rw [add_block]; exact hn189_2) | (show (Addr.add _ _).block ≠ _; rw [add_block]; exact hn189_2) | exact hn189_2) (.int .i64 ((rd_T61 t173 x32_2).f2))).trans hx189_0; replace hx189_0 := (cell_far (p := ⟨gb187, 3, none⟩) (by first | (rw [add_block]; exact hn189_3) | (show (Addr.add _ _).block ≠ _; rw [add_block]; exact hn189_3) | exact hn189_3) (.int .i64 ((rd_T61 t173 x32_2).f3))).trans hx189_0; (try have hy189_0 := fun (n_ : Nat) => (show ((((((w27.drewN n_).setCell ⟨gb187, 0, none⟩ (.string ((rd_T61 t173 x32_2).f0))).setCell ⟨gb187, 1, none⟩ (.int .i64 ((rd_T61 t173 x32_2).f1))).setCell ⟨gb187, 2, none⟩ (.int .i64 ((rd_T61 t173 x32_2).f2))).setCell ⟨gb187, 3, none⟩ (.int .i64 ((rd_T61 t173 x32_2).f3)))).cell? _ = some _ from hx189_0)); clear hn189_0; clear hn189_1; clear hn189_2; clear hn189_3; replace p189 := eq_true p189; replace q189 := eq_true q189))
              repeat (go_quiet (first | ((with_reducible refine gate_dst (N := 8) rfl ?_); refine box_event ?hg (N := 8) ?hd (cs := #[.string (⟨#[]⟩ : ByteArray), .int .i64 0, .int .i64 0, .int .i64 0]) (t := 61) ?hr ?_; (case hd => rfl); (case hg => rfl); (case hr => first | (go_simp; done) | (go_simp; rfl)); intro gb187 hg w27 hbox hb; have n0_ := Aside0.mk (Kd.R_below (Kd.R_elderB (by (with_reducible repeat (first | apply Kd.R_alloc | apply Kd.R_drewN | apply Kd.R_drew)); exact HO_30.out) gb187 (Nat.le_of_eq hg.symm)) hb); have n1_ := Aside0.mk (Kd.R_below (Kd.R_elderB (by (with_reducible repeat (first | apply Kd.R_alloc | apply Kd.R_drewN | apply Kd.R_drew)); exact HO_186001.out) gb187 (Nat.le_of_eq hg.symm)) hb); have n2_ := Aside0.mk (Kd.R_below (by (with_reducible repeat (first | apply Kd.R_alloc | apply Kd.R_drewN | apply Kd.R_drew)); exact HO_186002.out) hb); have n3_ := Aside0.mk (Kd.R_below (by (with_reducible repeat (first | apply Kd.R_alloc | apply Kd.R_drewN | apply Kd.R_drew)); exact HO_186003.out) hb); have n4_ := Aside0.mk (blk_below (g := gb185) (o := .cells #[.string t172, .slice (some ad186) t173.length co12, .slice Ao13 t176.length co13, .slice Ao14 t179.length co14, .int .i64 t182, .int .i64 t183] 57 (0, 0)) (by (with_reducible repeat (first | refine blk_drewN ?_ _ | refine blk_drew ?_ | refine blk_alloc ?_ _)); exact BK185.out) hb); have n5_ := Aside0.mk (below_step (by repeat (first | (with_reducible first | exact HB.out | apply below_alloc | apply pw_below_drewN | apply below_drew1 | refine below_set ?_ GE185.out) | exact HB.out)) hb); have n6_ := Aside0.mk (hbox); have n7_ := Aside0.mk ((by rw [hg]; exact (below_size (by repeat (first | (with_reducible first | exact HB.out | apply below_alloc | apply pw_below_drewN | apply below_drew1 | refine below_set ?_ GE185.out) | exact HB.out))) : w.heap.size ≤ gb187)); have n8_ := Aside0.mk ((by rw [hg]; exact (below_size (by repeat (first | (with_reducible first | exact HB.out | apply below_alloc | apply pw_below_drewN | apply below_drew1 | refine below_set ?_ GE185.out) | exact HB.out))) : w.heap.size ≤ gb187)); have n9_ := Aside0.mk ((by rw [hg]; exact Nat.ne_of_lt (blk_lt (g := gb185) (o := .cells #[.string t172, .slice (some ad186) t173.length co12, .slice Ao13 t176.length co13, .slice Ao14 t179.length co14, .int .i64 t182, .int .i64 t183] 57 (0, 0)) (by (with_reducible repeat (first | refine blk_drewN ?_ _ | refine blk_drew ?_ | refine blk_alloc ?_ _)); exact BK185.out)) : gb185 ≠ gb187)); have n10_ := Aside0.mk ((by rw [hg]; exact Nat.ne_of_gt (blk_lt (g := gb185) (o := .cells #[.string t172, .slice (some ad186) t173.length co12, .slice Ao13 t176.length co13, .slice Ao14 t179.length co14, .int .i64 t182, .int .i64 t183] 57 (0, 0)) (by (with_reducible repeat (first | refine blk_drewN ?_ _ | refine blk_drew ?_ | refine blk_alloc ?_ _)); exact BK185.out)) : gb187 ≠ gb185)); clear HO_30; clear HO_186001; clear HO_186002; clear HO_186003; clear BK185; clear HB; have HO_30 := n0_; have HO_186001 := n1_; have HO_186002 := n2_; have HO_186003 := n3_; have BK185 := n4_; have HB := n5_; have BK187 := n6_; have GW187 := n7_; have GE187 := n8_; have NB185_187 := n9_; have NB187_185 := n10_; clear n0_ n1_ n2_ n3_ n4_ n5_ n6_ n7_ n8_ n9_ n10_; clear hb hbox hg; have hnb28 := NB187_185.out; have hnc28 := NB185_187.out; have hcz29_0 : w27.cell? ⟨gb187, 0, none⟩ = some (.string (⟨#[]⟩ : ByteArray)) := (blk_cell BK187.out 0).trans rfl; have hcz29_1 : w27.cell? ⟨gb187, 1, none⟩ = some (.int .i64 0) := (blk_cell BK187.out 1).trans rfl; have hcz29_2 : w27.cell? ⟨gb187, 2, none⟩ = some (.int .i64 0) := (blk_cell BK187.out 2).trans rfl; have hcz29_3 : w27.cell? ⟨gb187, 3, none⟩ = some (.int .i64 0) := (blk_cell BK187.out 3).trans rfl; have hfz29_0 := blk_frozen BK187.out 0; have hfz29_1 := blk_frozen BK187.out 1; have hfz29_2 := blk_frozen BK187.out 2; have hfz29_3 := blk_frozen BK187.out 3; have p188 : 0 ≤ (x32_2 : Int) := ode; have q188 : x32_2 < (l1.length : Int) := ode; obtain ⟨ad188, e188, hx188_0⟩ := Kd.at_int HR1.out x32_2 p188 q188; cases e188; have hn188_0 : ad188.block ≠ gb187 := Nat.ne_of_lt (Nat.lt_of_lt_of_le (by have := World.block_lt_of_cell? _ _ hx188_0; first | rwa [add_block] at this | exact this) GW187.out); have hn188_1 : ad188.block ≠ gb187 := Nat.ne_of_lt (Nat.lt_of_lt_of_le (by have := World.block_lt_of_cell? _ _ hx188_0; first | rwa [add_block] at this | exact this) GW187.out); have hn188_2 : ad188.block ≠ gb187 := Nat.ne_of_lt (Nat.lt_of_lt_of_le (by have := World.block_lt_of_cell? _ _ hx188_0; first | rwa [add_block] at this | exact this) GW187.out); have hn188_3 : ad188.block ≠ gb187 := Nat.ne_of_lt (Nat.lt_of_lt_of_le (by have := World.block_lt_of_cell? _ _ hx188_0; first | rwa [add_block] at this | exact this) GW187.out); replace hx188_0 := (HB.out.cell (World.block_lt_of_cell? w _ hx188_0)).trans hx188_0; replace hx188_0 := (cell_far (p := ⟨gb187, 0, none⟩) (by first | (rw [add_block]; exact hn188_0) | (show (Addr.add _ _).block ≠ _; rw [add_block]; exact hn188_0) | exact hn188_0) (.string ((rd_T61 t173 x32_2).f0))).trans hx188_0; replace hx188_0 := (cell_far (p := ⟨gb187, 1, none⟩) (by first | (rw [add_block]; exact hn188_1) | (show (Addr.add _ _).block ≠ _; rw [add_block]; exact hn188_1) | exact hn188_1) (.int .i64 ((rd_T61 t173 x32_2).f1))).trans hx188_0; replace hx188_0 := (cell_far (p := ⟨gb187, 2, none⟩) (by first | (rw [add_block]; exact hn188_2) | (show (Addr.add _ _).block ≠ _; rw [add_block]; exact hn188_2) | exact hn188_2) (.int .i64 ((rd_T61 t173 x32_2).f2))).trans hx188_0; replace hx188_0 := (cell_far (p := ⟨gb187, 3, none⟩) (by first | (rw [add_block]; exact hn188_3) | (show (Addr.add _ _).block ≠ _; rw [add_block]; exact hn188_3) | exact hn188_3) (.int .i64 ((rd_T61 t173 x32_2).f3))).trans hx188_0; (try have hy188_0 := fun (n_ : Nat) => (show ((((((w27.drewN n_).setCell ⟨gb187, 0, none⟩ (.string ((rd_T61 t173 x32_2).f0))).setCell ⟨gb187, 1, none⟩ (.int .i64 ((rd_T61 t173 x32_2).f1))).setCell ⟨gb187, 2, none⟩ (.int .i64 ((rd_T61 t173 x32_2).f2))).setCell ⟨gb187, 3, none⟩ (.int .i64 ((rd_T61 t173 x32_2).f3)))).cell? _ = some _ from hx188_0)); clear hn188_0; clear hn188_1; clear hn188_2; clear hn188_3; replace p188 := eq_true p188; replace q188 := eq_true q188; have p189 : 0 ≤ (x32_2 : Int) := ode; have q189 : x32_2 < (l1.length : Int) := ode; obtain ⟨ad189, e189, hx189_0⟩ := Kd.at_int HR1.out x32_2 p189 q189; obtain rfl : ad188 = ad189 := (by injection e189); have hn189_0 : ad188.block ≠ gb187 := Nat.ne_of_lt (Nat.lt_of_lt_of_le (by have := World.block_lt_of_cell? _ _ hx189_0; first | rwa [add_block] at this | exact this) GW187.out); have hn189_1 : ad188.block ≠ gb187 := Nat.ne_of_lt (Nat.lt_of_lt_of_le (by have := World.block_lt_of_cell? _ _ hx189_0; first | rwa [add_block] at this | exact this) GW187.out); have hn189_2 : ad188.block ≠ gb187 := Nat.ne_of_lt (Nat.lt_of_lt_of_le (by have := World.block_lt_of_cell? _ _ hx189_0; first | rwa [add_block] at this | exact this) GW187.out); have hn189_3 : ad188.block ≠ gb187 := Nat.ne_of_lt (Nat.lt_of_lt_of_le (by have := World.block_lt_of_cell? _ _ hx189_0; first | rwa [add_block] at this | exact this) GW187.out); replace hx189_0 := (HB.out.cell (World.block_lt_of_cell? w _ hx189_0)).trans hx189_0; replace hx189_0 := (cell_far (p := ⟨gb187, 0, none⟩) (by first | (rw [add_block]; exact hn189_0) | (show (Addr.add _ _).block ≠ _; rw [add_block]; exact hn189_0) | exact hn189_0) (.string ((rd_T61 t173 x32_2).f0))).trans hx189_0; replace hx189_0 := (cell_far (p := ⟨gb187, 1, none⟩) (by first | (rw [add_block]; exact hn189_1) | (show (Addr.add _ _).block ≠ _; rw [add_block]; exact hn189_1) | exact hn189_1) (.int .i64 ((rd_T61 t173 x32_2).f1))).trans hx189_0; replace hx189_0 := (cell_far (p := ⟨gb187, 2, none⟩) (by first | (rw [add_block]; exact hn189_2) | (show (Addr.add _ _).block ≠ _; rw [add_block]; exact hn189_2) | exact hn189_2) (.int .i64 ((rd_T61 t173 x32_2).f2))).trans hx189_0; replace hx189_0 := (cell_far (p := ⟨gb187, 3, none⟩) (by first | (rw [add_block]; exact hn189_3) | (show (Addr.add _ _).block ≠ _; rw [add_block]; exact hn189_3) | exact hn189_3) (.int .i64 ((rd_T61 t173 x32_2).f3))).trans hx189_0; (try have hy189_0 := fun (n_ : Nat) => (show ((((((w27.drewN n_).setCell ⟨gb187, 0, none⟩ (.string ((rd_T61 t173 x32_2).f0))).setCell ⟨gb187, 1, none⟩ (.int .i64 ((rd_T61 t173 x32_2).f1))).setCell ⟨gb187, 2, none⟩ (.int .i64 ((rd_T61 t173 x32_2).f2))).setCell ⟨gb187, 3, none⟩ (.int .i64 ((rd_T61 t173 x32_2).f3)))).cell? _ = some _ from hx189_0)); clear hn189_0; clear hn189_1; clear hn189_2; clear hn189_3; replace p189 := eq_true p189; replace q189 := eq_true q189)); try go_wp2_with (first | ((with_reducible refine gate_dst (N := 8) rfl ?_); refine box_event ?hg (N := 8) ?hd (cs := #[.string (⟨#[]⟩ : ByteArray), .int .i64 0, .int .i64 0, .int .i64 0]) (t := 61) ?hr ?_; (case hd => rfl); (case hg => rfl); (case hr => first | (go_simp; done) | (go_simp; rfl)); intro gb187 hg w27 hbox hb; have n0_ := Aside0.mk (Kd.R_below (Kd.R_elderB (by (with_reducible repeat (first | apply Kd.R_alloc | apply Kd.R_drewN | apply Kd.R_drew)); exact HO_30.out) gb187 (Nat.le_of_eq hg.symm)) hb); have n1_ := Aside0.mk (Kd.R_below (Kd.R_elderB (by (with_reducible repeat (first | apply Kd.R_alloc | apply Kd.R_drewN | apply Kd.R_drew)); exact HO_186001.out) gb187 (Nat.le_of_eq hg.symm)) hb); have n2_ := Aside0.mk (Kd.R_below (by (with_reducible repeat (first | apply Kd.R_alloc | apply Kd.R_drewN | apply Kd.R_drew)); exact HO_186002.out) hb); have n3_ := Aside0.mk (Kd.R_below (by (with_reducible repeat (first | apply Kd.R_alloc | apply Kd.R_drewN | apply Kd.R_drew)); exact HO_186003.out) hb); have n4_ := Aside0.mk (blk_below (g := gb185) (o := .cells #[.string t172, .slice (some ad186) t173.length co12, .slice Ao13 t176.length co13, .slice Ao14 t179.length co14, .int .i64 t182, .int .i64 t183] 57 (0, 0)) (by (with_reducible repeat (first | refine blk_drewN ?_ _ | refine blk_drew ?_ | refine blk_alloc ?_ _)); exact BK185.out) hb); have n5_ := Aside0.mk (below_step (by repeat (first | (with_reducible first | exact HB.out | apply below_alloc | apply pw_below_drewN | apply below_drew1 | refine below_set ?_ GE185.out) | exact HB.out)) hb); have n6_ := Aside0.mk (hbox); have n7_ := Aside0.mk ((by rw [hg]; exact (below_size (by repeat (first | (with_reducible first | exact HB.out | apply below_alloc | apply pw_below_drewN | apply below_drew1 | refine below_set ?_ GE185.out) | exact HB.out))) : w.heap.size ≤ gb187)); have n8_ := Aside0.mk ((by rw [hg]; exact (below_size (by repeat (first | (with_reducible first | exact HB.out | apply below_alloc | apply pw_below_drewN | apply below_drew1 | refine below_set ?_ GE185.out) | exact HB.out))) : w.heap.size ≤ gb187)); have n9_ := Aside0.mk ((by rw [hg]; exact Nat.ne_of_lt (blk_lt (g := gb185) (o := .cells #[.string t172, .slice (some ad186) t173.length co12, .slice Ao13 t176.length co13, .slice Ao14 t179.length co14, .int .i64 t182, .int .i64 t183] 57 (0, 0)) (by (with_reducible repeat (first | refine blk_drewN ?_ _ | refine blk_drew ?_ | refine blk_alloc ?_ _)); exact BK185.out)) : gb185 ≠ gb187)); have n10_ := Aside0.mk ((by rw [hg]; exact Nat.ne_of_gt (blk_lt (g := gb185) (o := .cells #[.string t172, .slice (some ad186) t173.length co12, .slice Ao13 t176.length co13, .slice Ao14 t179.length co14, .int .i64 t182, .int .i64 t183] 57 (0, 0)) (by (with_reducible repeat (first | refine blk_drewN ?_ _ | refine blk_drew ?_ | refine blk_alloc ?_ _)); exact BK185.out)) : gb187 ≠ gb185)); clear HO_30; clear HO_186001; clear HO_186002; clear HO_186003; clear BK185; clear HB; have HO_30 := n0_; have HO_186001 := n1_; have HO_186002 := n2_; have HO_186003 := n3_; have BK185 := n4_; have HB := n5_; have BK187 := n6_; have GW187 := n7_; have GE187 := n8_; have NB185_187 := n9_; have NB187_185 := n10_; clear n0_ n1_ n2_ n3_ n4_ n5_ n6_ n7_ n8_ n9_ n10_; clear hb hbox hg; have hnb28 := NB187_185.out; have hnc28 := NB185_187.out; have hcz29_0 : w27.cell? ⟨gb187, 0, none⟩ = some (.string (⟨#[]⟩ : ByteArray)) := (blk_cell BK187.out 0).trans rfl; have hcz29_1 : w27.cell? ⟨gb187, 1, none⟩ = some (.int .i64 0) := (blk_cell BK187.out 1).trans rfl; have hcz29_2 : w27.cell? ⟨gb187, 2, none⟩ = some (.int .i64 0) := (blk_cell BK187.out 2).trans rfl; have hcz29_3 : w27.cell? ⟨gb187, 3, none⟩ = some (.int .i64 0) := (blk_cell BK187.out 3).trans rfl; have hfz29_0 := blk_frozen BK187.out 0; have hfz29_1 := blk_frozen BK187.out 1; have hfz29_2 := blk_frozen BK187.out 2; have hfz29_3 := blk_frozen BK187.out 3; have p188 : 0 ≤ (x32_2 : Int) := ode; have q188 : x32_2 < (l1.length : Int) := ode; obtain ⟨ad188, e188, hx188_0⟩ := Kd.at_int HR1.out x32_2 p188 q188; cases e188; have hn188_0 : ad188.block ≠ gb187 := Nat.ne_of_lt (Nat.lt_of_lt_of_le (by have := World.block_lt_of_cell? _ _ hx188_0; first | rwa [add_block] at this | exact this) GW187.out); have hn188_1 : ad188.block ≠ gb187 := Nat.ne_of_lt (Nat.lt_of_lt_of_le (by have := World.block_lt_of_cell? _ _ hx188_0; first | rwa [add_block] at this | exact this) GW187.out); have hn188_2 : ad188.block ≠ gb187 := Nat.ne_of_lt (Nat.lt_of_lt_of_le (by have := World.block_lt_of_cell? _ _ hx188_0; first | rwa [add_block] at this | exact this) GW187.out); have hn188_3 : ad188.block ≠ gb187 := Nat.ne_of_lt (Nat.lt_of_lt_of_le (by have := World.block_lt_of_cell? _ _ hx188_0; first | rwa [add_block] at this | exact this) GW187.out); replace hx188_0 := (HB.out.cell (World.block_lt_of_cell? w _ hx188_0)).trans hx188_0; replace hx188_0 := (cell_far (p := ⟨gb187, 0, none⟩) (by first | (rw [add_block]; exact hn188_0) | (show (Addr.add _ _).block ≠ _; rw [add_block]; exact hn188_0) | exact hn188_0) (.string ((rd_T61 t173 x32_2).f0))).trans hx188_0; replace hx188_0 := (cell_far (p := ⟨gb187, 1, none⟩) (by first | (rw [add_block]; exact hn188_1) | (show (Addr.add _ _).block ≠ _; rw [add_block]; exact hn188_1) | exact hn188_1) (.int .i64 ((rd_T61 t173 x32_2).f1))).trans hx188_0; replace hx188_0 := (cell_far (p := ⟨gb187, 2, none⟩) (by first | (rw [add_block]; exact hn188_2) | (show (Addr.add _ _).block ≠ _; rw [add_block]; exact hn188_2) | exact hn188_2) (.int .i64 ((rd_T61 t173 x32_2).f2))).trans hx188_0; replace hx188_0 := (cell_far (p := ⟨gb187, 3, none⟩) (by first | (rw [add_block]; exact hn188_3) | (show (Addr.add _ _).block ≠ _; rw [add_block]; exact hn188_3) | exact hn188_3) (.int .i64 ((rd_T61 t173 x32_2).f3))).trans hx188_0; (try have hy188_0 := fun (n_ : Nat) => (show ((((((w27.drewN n_).setCell ⟨gb187, 0, none⟩ (.string ((rd_T61 t173 x32_2).f0))).setCell ⟨gb187, 1, none⟩ (.int .i64 ((rd_T61 t173 x32_2).f1))).setCell ⟨gb187, 2, none⟩ (.int .i64 ((rd_T61 t173 x32_2).f2))).setCell ⟨gb187, 3, none⟩ (.int .i64 ((rd_T61 t173 x32_2).f3)))).cell? _ = some _ from hx188_0)); clear hn188_0; clear hn188_1; clear hn188_2; clear hn188_3; replace p188 := eq_true p188; replace q188 := eq_true q188; have p189 : 0 ≤ (x32_2 : Int) := ode; have q189 : x32_2 < (l1.length : Int) := ode; obtain ⟨ad189, e189, hx189_0⟩ := Kd.at_int HR1.out x32_2 p189 q189; obtain rfl : ad188 = ad189 := (by injection e189); have hn189_0 : ad188.block ≠ gb187 := Nat.ne_of_lt (Nat.lt_of_lt_of_le (by have := World.block_lt_of_cell? _ _ hx189_0; first | rwa [add_block] at this | exact this) GW187.out); have hn189_1 : ad188.block ≠ gb187 := Nat.ne_of_lt (Nat.lt_of_lt_of_le (by have := World.block_lt_of_cell? _ _ hx189_0; first | rwa [add_block] at this | exact this) GW187.out); have hn189_2 : ad188.block ≠ gb187 := Nat.ne_of_lt (Nat.lt_of_lt_of_le (by have := World.block_lt_of_cell? _ _ hx189_0; first | rwa [add_block] at this | exact this) GW187.out); have hn189_3 : ad188.block ≠ gb187 := Nat.ne_of_lt (Nat.lt_of_lt_of_le (by have := World.block_lt_of_cell? _ _ hx189_0; first | rwa [add_block] at this | exact this) GW187.out); replace hx189_0 := (HB.out.cell (World.block_lt_of_cell? w _ hx189_0)).trans hx189_0; replace hx189_0 := (cell_far (p := ⟨gb187, 0, none⟩) (by first | (rw [add_block]; exact hn189_0) | (show (Addr.add _ _).block ≠ _; rw [add_block]; exact hn189_0) | exact hn189_0) (.string ((rd_T61 t173 x32_2).f0))).trans hx189_0; replace hx189_0 := (cell_far (p := ⟨gb187, 1, none⟩) (by first | (rw [add_block]; exact hn189_1) | (show (Addr.add _ _).block ≠ _; rw [add_block]; exact hn189_1) | exact hn189_1) (.int .i64 ((rd_T61 t173 x32_2).f1))).trans hx189_0; replace hx189_0 := (cell_far (p := ⟨gb187, 2, none⟩) (by first | (rw [add_block]; exact hn189_2) | (show (Addr.add _ _).block ≠ _; rw [add_block]; exact hn189_2) | exact hn189_2) (.int .i64 ((rd_T61 t173 x32_2).f2))).trans hx189_0; replace hx189_0 := (cell_far (p := ⟨gb187, 3, none⟩) (by first | (rw [add_block]; exact hn189_3) | (show (Addr.add _ _).block ≠ _; rw [add_block]; exact hn189_3) | exact hn189_3) (.int .i64 ((rd_T61 t173 x32_2).f3))).trans hx189_0; (try have hy189_0 := fun (n_ : Nat) => (show ((((((w27.drewN n_).setCell ⟨gb187, 0, none⟩ (.string ((rd_T61 t173 x32_2).f0))).setCell ⟨gb187, 1, none⟩ (.int .i64 ((rd_T61 t173 x32_2).f1))).setCell ⟨gb187, 2, none⟩ (.int .i64 ((rd_T61 t173 x32_2).f2))).setCell ⟨gb187, 3, none⟩ (.int .i64 ((rd_T61 t173 x32_2).f3)))).cell? _ = some _ from hx189_0)); clear hn189_0; clear hn189_1; clear hn189_2; clear hn189_3; replace p189 := eq_true p189; replace q189 := eq_true q189)))
              go_roundg k2
              case measure => have := HJ2.out; have := HK2.out; omega
              case rel => exact ⟨(wrap64 (x32_2 + 1)), (by first | rfl | (simp; done) | (simp [*]; done)), H', ⟨by have := HJ2.out; have := HK2.out; omega⟩, ⟨by (with_reducible repeat (first | apply Kd.R_alloc | apply Kd.R_drewN | apply Kd.R_drew)); exact Kd.R_mono (Kd.R_far (p := ⟨gb187, 3, none⟩) (Kd.R_far (p := ⟨gb187, 2, none⟩) (Kd.R_far (p := ⟨gb187, 1, none⟩) (Kd.R_far (p := ⟨gb187, 0, none⟩) (Kd.R_mono HO_30.out (fun k_ hk => (⟨hk, hk.2⟩ : _ ∧ k_ ≠ gb187))) (fun _ hk => hk.2) (.string ((rd_T61 t173 x32_2).f0))) (fun _ hk => hk.2) (.int .i64 ((rd_T61 t173 x32_2).f1))) (fun _ hk => hk.2) (.int .i64 ((rd_T61 t173 x32_2).f2))) (fun _ hk => hk.2) (.int .i64 ((rd_T61 t173 x32_2).f3))) (fun _ hk => trivial)⟩, ⟨by (with_reducible repeat (first | apply Kd.R_alloc | apply Kd.R_drewN | apply Kd.R_drew)); exact Kd.R_mono (Kd.R_far (p := ⟨gb187, 3, none⟩) (Kd.R_far (p := ⟨gb187, 2, none⟩) (Kd.R_far (p := ⟨gb187, 1, none⟩) (Kd.R_far (p := ⟨gb187, 0, none⟩) (Kd.R_mono HO_186001.out (fun k_ hk => (⟨hk, hk.2⟩ : _ ∧ k_ ≠ gb187))) (fun _ hk => hk.2) (.string ((rd_T61 t173 x32_2).f0))) (fun _ hk => hk.2) (.int .i64 ((rd_T61 t173 x32_2).f1))) (fun _ hk => hk.2) (.int .i64 ((rd_T61 t173 x32_2).f2))) (fun _ hk => hk.2) (.int .i64 ((rd_T61 t173 x32_2).f3))) (fun _ hk => trivial)⟩, ⟨by (with_reducible repeat (first | apply Kd.R_alloc | apply Kd.R_drewN | apply Kd.R_drew)); exact Kd.R_mono (Kd.R_far (p := ⟨gb187, 3, none⟩) (Kd.R_far (p := ⟨gb187, 2, none⟩) (Kd.R_far (p := ⟨gb187, 1, none⟩) (Kd.R_far (p := ⟨gb187, 0, none⟩) (Kd.R_types HO_186002.out BK187.out (by decide)) (fun _ hk => hk.2) (.string ((rd_T61 t173 x32_2).f0))) (fun _ hk => hk.2) (.int .i64 ((rd_T61 t173 x32_2).f1))) (fun _ hk => hk.2) (.int .i64 ((rd_T61 t173 x32_2).f2))) (fun _ hk => hk.2) (.int .i64 ((rd_T61 t173 x32_2).f3))) (fun _ hk => hk.1)⟩, ⟨by (with_reducible repeat (first | apply Kd.R_alloc | apply Kd.R_drewN | apply Kd.R_drew)); exact Kd.R_mono (Kd.R_far (p := ⟨gb187, 3, none⟩) (Kd.R_far (p := ⟨gb187, 2, none⟩) (Kd.R_far (p := ⟨gb187, 1, none⟩) (Kd.R_far (p := ⟨gb187, 0, none⟩) (Kd.R_types HO_186003.out BK187.out (by decide)) (fun _ hk => hk.2) (.string ((rd_T61 t173 x32_2).f0))) (fun _ hk => hk.2) (.int .i64 ((rd_T61 t173 x32_2).f1))) (fun _ hk => hk.2) (.int .i64 ((rd_T61 t173 x32_2).f2))) (fun _ hk => hk.2) (.int .i64 ((rd_T61 t173 x32_2).f3))) (fun _ hk => hk.1)⟩, ⟨by (with_reducible repeat (first | refine blk_drewN ?_ _ | refine blk_drew ?_ | refine blk_alloc ?_ _)); refine blk_far ?_ NB185_187.out _; (with_reducible repeat (first | refine blk_drewN ?_ _ | refine blk_drew ?_ | refine blk_alloc ?_ _)); refine blk_far ?_ NB185_187.out _; (with_reducible repeat (first | refine blk_drewN ?_ _ | refine blk_drew ?_ | refine blk_alloc ?_ _)); refine blk_far ?_ NB185_187.out _; (with_reducible repeat (first | refine blk_drewN ?_ _ | refine blk_drew ?_ | refine blk_alloc ?_ _)); refine blk_far ?_ NB185_187.out _; (with_reducible repeat (first | refine blk_drewN ?_ _ | refine blk_drew ?_ | refine blk_alloc ?_ _)); exact BK185.out⟩, ⟨by repeat (first | (with_reducible first | exact HB.out | apply below_alloc | apply pw_below_drewN | apply below_drew1 | refine below_set ?_ GE185.out | refine below_set ?_ GE187.out) | exact HB.out)⟩⟩
           ·
            rw [if_neg c18] at H
            exact absurd H (by simp)
          ·
           rw [if_neg c17] at H
           exact absurd H (by simp)
         ·
          rw [if_neg c16] at H
          exact absurd H (by simp)
        ·
         rw [if_neg c15] at H
         have c15b0 : decide (x32_2 < (t173.length : Int)) = false := decide_eq_false c15
         clear c15
         obtain rfl := Option.some.inj H
         go_wp2
         repeat (go_quiet (fail); try go_wp2)
         go_ret
         exact ⟨by first | rfl | (simp [errW_none, errW_some] <;> rfl) | (simp [*, errW_none, errW_some] <;> rfl), by repeat (first | (with_reducible first | exact HB.out | apply below_alloc | apply pw_below_drewN | apply below_drew1 | refine below_set ?_ GE185.out) | exact HB.out)⟩
     ·
      rw [if_neg c8] at H
      have c8b0 : ((l1.length : Int) == (t173.length : Int)) = false := beq_eq_false_iff_ne.mpr c8
      have c8b1 : ((l1.length : Int) != (t173.length : Int)) = true := bne_iff_ne.mpr c8
      have c8b2 : (l1.length == t173.length) = false := by first | simpa using c8 | (simp at c8 ⊢; omega)
      obtain rfl := Option.some.inj H
      go_wp2_with (first | (go_at_call 32; (with_reducible refine (block_Find.calls kj2 a0 t172 t173 t176 t179 t182 t183 t184 _ ?side1 A6.out).mono ?_); (case side1 => exact GW.below HG.out bl); rintro e w30 ⟨v174, v177, v180, rfl, ho0, ho1, ho2, hb⟩; have n0_ := Aside0.mk (Kd.R_lower ho0 (below_size bl)); have n1_ := Aside0.mk (Kd.R_lower ho1 (below_size bl)); have n2_ := Aside0.mk (Kd.R_lower ho2 (below_size bl)); have n3_ := Aside0.mk (below_step bl hb); clear HB; have HO175 := n0_; have HO178 := n1_; have HO181 := n2_; have HB := n3_; clear n0_ n1_ n2_ n3_; (try clear hb); (try clear hb2); (try clear hk); (try clear hi); (try clear ho0); (try clear ho1); (try clear ho2)) | ((with_reducible refine gate_dst (N := 5) rfl ?_); refine box_event ?hg (N := 5) ?hd (cs := #[.string (⟨#[]⟩ : ByteArray), .slice none 0 0, .slice none 0 0, .slice none 0 0, .int .i64 0, .int .i64 0]) (t := 57) ?hr ?_; (case hd => rfl); (case hg => rfl); (case hr => first | (go_simp; done) | (go_simp; rfl)); intro gb185 hg w31 hbox hb; have n0_ := Aside0.mk (Kd.R_below (by (with_reducible repeat (first | apply Kd.R_alloc | apply Kd.R_drewN | apply Kd.R_drew)); exact HO175.out) hb); have n1_ := Aside0.mk (Kd.R_below (by (with_reducible repeat (first | apply Kd.R_alloc | apply Kd.R_drewN | apply Kd.R_drew)); exact HO178.out) hb); have n2_ := Aside0.mk (Kd.R_below (by (with_reducible repeat (first | apply Kd.R_alloc | apply Kd.R_drewN | apply Kd.R_drew)); exact HO181.out) hb); have n3_ := Aside0.mk (below_step bl hb); have n4_ := Aside0.mk (hbox); have n5_ := Aside0.mk ((by rw [hg]; exact (below_size bl) : w.heap.size ≤ gb185)); have n6_ := Aside0.mk ((by rw [hg]; exact (below_size bl) : w.heap.size ≤ gb185)); clear HO175; clear HO178; clear HO181; clear HB; have HO175 := n0_; have HO178 := n1_; have HO181 := n2_; have HB := n3_; have BK185 := n4_; have GW185 := n5_; have GE185 := n6_; clear n0_ n1_ n2_ n3_ n4_ n5_ n6_; clear hb hbox hg; have hcz32_0 : w31.cell? ⟨gb185, 0, none⟩ = some (.string (⟨#[]⟩ : ByteArray)) := (blk_cell BK185.out 0).trans rfl; have hcz32_1 : w31.cell? ⟨gb185, 1, none⟩ = some (.slice none 0 0) := (blk_cell BK185.out 1).trans rfl; have hcz32_2 : w31.cell? ⟨gb185, 2, none⟩ = some (.slice none 0 0) := (blk_cell BK185.out 2).trans rfl; have hcz32_3 : w31.cell? ⟨gb185, 3, none⟩ = some (.slice none 0 0) := (blk_cell BK185.out 3).trans rfl; have hcz32_4 : w31.cell? ⟨gb185, 4, none⟩ = some (.int .i64 0) := (blk_cell BK185.out 4).trans rfl; have hcz32_5 : w31.cell? ⟨gb185, 5, none⟩ = some (.int .i64 0) := (blk_cell BK185.out 5).trans rfl; have hfz32_0 := blk_frozen BK185.out 0; have hfz32_1 := blk_frozen BK185.out 1; have hfz32_2 := blk_frozen BK185.out 2; have hfz32_3 := blk_frozen BK185.out 3; have hfz32_4 := blk_frozen BK185.out 4; have hfz32_5 := blk_frozen BK185.out 5; obtain ⟨Ao33, co33, eo33⟩ := Kd.R_slice HO175.out; subst eo33; obtain ⟨Ao34, co34, eo34⟩ := Kd.R_slice HO178.out; subst eo34; obtain ⟨Ao35, co35, eo35⟩ := Kd.R_slice HO181.out; subst eo35))
      repeat (go_quiet (first | (go_at_call 32; (with_reducible refine (block_Find.calls kj2 a0 t172 t173 t176 t179 t182 t183 t184 _ ?side1 A6.out).mono ?_); (case side1 => exact GW.below HG.out bl); rintro e w30 ⟨v174, v177, v180, rfl, ho0, ho1, ho2, hb⟩; have n0_ := Aside0.mk (Kd.R_lower ho0 (below_size bl)); have n1_ := Aside0.mk (Kd.R_lower ho1 (below_size bl)); have n2_ := Aside0.mk (Kd.R_lower ho2 (below_size bl)); have n3_ := Aside0.mk (below_step bl hb); clear HB; have HO175 := n0_; have HO178 := n1_; have HO181 := n2_; have HB := n3_; clear n0_ n1_ n2_ n3_; (try clear hb); (try clear hb2); (try clear hk); (try clear hi); (try clear ho0); (try clear ho1); (try clear ho2)) | ((with_reducible refine gate_dst (N := 5) rfl ?_); refine box_event ?hg (N := 5) ?hd (cs := #[.string (⟨#[]⟩ : ByteArray), .slice none 0 0, .slice none 0 0, .slice none 0 0, .int .i64 0, .int .i64 0]) (t := 57) ?hr ?_; (case hd => rfl); (case hg => rfl); (case hr => first | (go_simp; done) | (go_simp; rfl)); intro gb185 hg w31 hbox hb; have n0_ := Aside0.mk (Kd.R_below (by (with_reducible repeat (first | apply Kd.R_alloc | apply Kd.R_drewN | apply Kd.R_drew)); exact HO175.out) hb); have n1_ := Aside0.mk (Kd.R_below (by (with_reducible repeat (first | apply Kd.R_alloc | apply Kd.R_drewN | apply Kd.R_drew)); exact HO178.out) hb); have n2_ := Aside0.mk (Kd.R_below (by (with_reducible repeat (first | apply Kd.R_alloc | apply Kd.R_drewN | apply Kd.R_drew)); exact HO181.out) hb); have n3_ := Aside0.mk (below_step bl hb); have n4_ := Aside0.mk (hbox); have n5_ := Aside0.mk ((by rw [hg]; exact (below_size bl) : w.heap.size ≤ gb185)); have n6_ := Aside0.mk ((by rw [hg]; exact (below_size bl) : w.heap.size ≤ gb185)); clear HO175; clear HO178; clear HO181; clear HB; have HO175 := n0_; have HO178 := n1_; have HO181 := n2_; have HB := n3_; have BK185 := n4_; have GW185 := n5_; have GE185 := n6_; clear n0_ n1_ n2_ n3_ n4_ n5_ n6_; clear hb hbox hg; have hcz32_0 : w31.cell? ⟨gb185, 0, none⟩ = some (.string (⟨#[]⟩ : ByteArray)) := (blk_cell BK185.out 0).trans rfl; have hcz32_1 : w31.cell? ⟨gb185, 1, none⟩ = some (.slice none 0 0) := (blk_cell BK185.out 1).trans rfl; have hcz32_2 : w31.cell? ⟨gb185, 2, none⟩ = some (.slice none 0 0) := (blk_cell BK185.out 2).trans rfl; have hcz32_3 : w31.cell? ⟨gb185, 3, none⟩ = some (.slice none 0 0) := (blk_cell BK185.out 3).trans rfl; have hcz32_4 : w31.cell? ⟨gb185, 4, none⟩ = some (.int .i64 0) := (blk_cell BK185.out 4).trans rfl; have hcz32_5 : w31.cell? ⟨gb185, 5, none⟩ = some (.int .i64 0) := (blk_cell BK185.out 5).trans rfl; have hfz32_0 := blk_frozen BK185.out 0; have hfz32_1 := blk_frozen BK185.out 1; have hfz32_2 := blk_frozen BK185.out 2; have hfz32_3 := blk_frozen BK185.out 3; have hfz32_4 := blk_frozen BK185.out 4; have hfz32_5 := blk_frozen BK185.out 5; obtain ⟨Ao33, co33, eo33⟩ := Kd.R_slice HO175.out; subst eo33; obtain ⟨Ao34, co34, eo34⟩ := Kd.R_slice HO178.out; subst eo34; obtain ⟨Ao35, co35, eo35⟩ := Kd.R_slice HO181.out; subst eo35)); try go_wp2_with (first | (go_at_call 32; (with_reducible refine (block_Find.calls kj2 a0 t172 t173 t176 t179 t182 t183 t184 _ ?side1 A6.out).mono ?_); (case side1 => exact GW.below HG.out bl); rintro e w30 ⟨v174, v177, v180, rfl, ho0, ho1, ho2, hb⟩; have n0_ := Aside0.mk (Kd.R_lower ho0 (below_size bl)); have n1_ := Aside0.mk (Kd.R_lower ho1 (below_size bl)); have n2_ := Aside0.mk (Kd.R_lower ho2 (below_size bl)); have n3_ := Aside0.mk (below_step bl hb); clear HB; have HO175 := n0_; have HO178 := n1_; have HO181 := n2_; have HB := n3_; clear n0_ n1_ n2_ n3_; (try clear hb); (try clear hb2); (try clear hk); (try clear hi); (try clear ho0); (try clear ho1); (try clear ho2)) | ((with_reducible refine gate_dst (N := 5) rfl ?_); refine box_event ?hg (N := 5) ?hd (cs := #[.string (⟨#[]⟩ : ByteArray), .slice none 0 0, .slice none 0 0, .slice none 0 0, .int .i64 0, .int .i64 0]) (t := 57) ?hr ?_; (case hd => rfl); (case hg => rfl); (case hr => first | (go_simp; done) | (go_simp; rfl)); intro gb185 hg w31 hbox hb; have n0_ := Aside0.mk (Kd.R_below (by (with_reducible repeat (first | apply Kd.R_alloc | apply Kd.R_drewN | apply Kd.R_drew)); exact HO175.out) hb); have n1_ := Aside0.mk (Kd.R_below (by (with_reducible repeat (first | apply Kd.R_alloc | apply Kd.R_drewN | apply Kd.R_drew)); exact HO178.out) hb); have n2_ := Aside0.mk (Kd.R_below (by (with_reducible repeat (first | apply Kd.R_alloc | apply Kd.R_drewN | apply Kd.R_drew)); exact HO181.out) hb); have n3_ := Aside0.mk (below_step bl hb); have n4_ := Aside0.mk (hbox); have n5_ := Aside0.mk ((by rw [hg]; exact (below_size bl) : w.heap.size ≤ gb185)); have n6_ := Aside0.mk ((by rw [hg]; exact (below_size bl) : w.heap.size ≤ gb185)); clear HO175; clear HO178; clear HO181; clear HB; have HO175 := n0_; have HO178 := n1_; have HO181 := n2_; have HB := n3_; have BK185 := n4_; have GW185 := n5_; have GE185 := n6_; clear n0_ n1_ n2_ n3_ n4_ n5_ n6_; clear hb hbox hg; have hcz32_0 : w31.cell? ⟨gb185, 0, none⟩ = some (.string (⟨#[]⟩ : ByteArray)) := (blk_cell BK185.out 0).trans rfl; have hcz32_1 : w31.cell? ⟨gb185, 1, none⟩ = some (.slice none 0 0) := (blk_cell BK185.out 1).trans rfl; have hcz32_2 : w31.cell? ⟨gb185, 2, none⟩ = some (.slice none 0 0) := (blk_cell BK185.out 2).trans rfl; have hcz32_3 : w31.cell? ⟨gb185, 3, none⟩ = some (.slice none 0 0) := (blk_cell BK185.out 3).trans rfl; have hcz32_4 : w31.cell? ⟨gb185, 4, none⟩ = some (.int .i64 0) := (blk_cell BK185.out 4).trans rfl; have hcz32_5 : w31.cell? ⟨gb185, 5, none⟩ = some (.int .i64 0) := (blk_cell BK185.out 5).trans rfl; have hfz32_0 := blk_frozen BK185.out 0; have hfz32_1 := blk_frozen BK185.out 1; have hfz32_2 := blk_frozen BK185.out 2; have hfz32_3 := blk_frozen BK185.out 3; have hfz32_4 := blk_frozen BK185.out 4; have hfz32_5 := blk_frozen BK185.out 5; obtain ⟨Ao33, co33, eo33⟩ := Kd.R_slice HO175.out; subst eo33; obtain ⟨Ao34, co34, eo34⟩ := Kd.R_slice HO178.out; subst eo34; obtain ⟨Ao35, co35, eo35⟩ := Kd.R_slice HO181.out; subst eo35)))
      go_ret
      exact ⟨by first | rfl | (simp [errW_none, errW_some] <;> rfl) | (simp [*, errW_none, errW_some] <;> rfl), by repeat (first | (with_reducible first | exact HB.out | apply below_alloc | apply pw_below_drewN | apply below_drew1 | refine below_set ?_ GE185.out) | exact HB.out)⟩
    ·
     rw [if_neg c7] at H
     have c7b0 : (t184 == 0) = false := beq_eq_false_iff_ne.mpr c7
     have c7b1 : (t184 != 0) = true := bne_iff_ne.mpr c7
     obtain rfl := Option.some.inj H
     go_wp2_with (first | (go_at_call 32; (with_reducible refine (block_Find.calls kj2 a0 t172 t173 t176 t179 t182 t183 t184 _ ?side1 A6.out).mono ?_); (case side1 => exact GW.below HG.out bl); rintro e w36 ⟨v174, v177, v180, rfl, ho0, ho1, ho2, hb⟩; have n0_ := Aside0.mk (Kd.R_lower ho0 (below_size bl)); have n1_ := Aside0.mk (Kd.R_lower ho1 (below_size bl)); have n2_ := Aside0.mk (Kd.R_lower ho2 (below_size bl)); have n3_ := Aside0.mk (below_step bl hb); clear HB; have HO175 := n0_; have HO178 := n1_; have HO181 := n2_; have HB := n3_; clear n0_ n1_ n2_ n3_; (try clear hb); (try clear hb2); (try clear hk); (try clear hi); (try clear ho0); (try clear ho1); (try clear ho2)) | ((with_reducible refine gate_dst (N := 5) rfl ?_); refine box_event ?hg (N := 5) ?hd (cs := #[.string (⟨#[]⟩ : ByteArray), .slice none 0 0, .slice none 0 0, .slice none 0 0, .int .i64 0, .int .i64 0]) (t := 57) ?hr ?_; (case hd => rfl); (case hg => rfl); (case hr => first | (go_simp; done) | (go_simp; rfl)); intro gb185 hg w37 hbox hb; have n0_ := Aside0.mk (Kd.R_below (by (with_reducible repeat (first | apply Kd.R_alloc | apply Kd.R_drewN | apply Kd.R_drew)); exact HO175.out) hb); have n1_ := Aside0.mk (Kd.R_below (by (with_reducible repeat (first | apply Kd.R_alloc | apply Kd.R_drewN | apply Kd.R_drew)); exact HO178.out) hb); have n2_ := Aside0.mk (Kd.R_below (by (with_reducible repeat (first | apply Kd.R_alloc | apply Kd.R_drewN | apply Kd.R_drew)); exact HO181.out) hb); have n3_ := Aside0.mk (below_step bl hb); have n4_ := Aside0.mk (hbox); have n5_ := Aside0.mk ((by rw [hg]; exact (below_size bl) : w.heap.size ≤ gb185)); have n6_ := Aside0.mk ((by rw [hg]; exact (below_size bl) : w.heap.size ≤ gb185)); clear HO175; clear HO178; clear HO181; clear HB; have HO175 := n0_; have HO178 := n1_; have HO181 := n2_; have HB := n3_; have BK185 := n4_; have GW185 := n5_; have GE185 := n6_; clear n0_ n1_ n2_ n3_ n4_ n5_ n6_; clear hb hbox hg; have hcz38_0 : w37.cell? ⟨gb185, 0, none⟩ = some (.string (⟨#[]⟩ : ByteArray)) := (blk_cell BK185.out 0).trans rfl; have hcz38_1 : w37.cell? ⟨gb185, 1, none⟩ = some (.slice none 0 0) := (blk_cell BK185.out 1).trans rfl; have hcz38_2 : w37.cell? ⟨gb185, 2, none⟩ = some (.slice none 0 0) := (blk_cell BK185.out 2).trans rfl; have hcz38_3 : w37.cell? ⟨gb185, 3, none⟩ = some (.slice none 0 0) := (blk_cell BK185.out 3).trans rfl; have hcz38_4 : w37.cell? ⟨gb185, 4, none⟩ = some (.int .i64 0) := (blk_cell BK185.out 4).trans rfl; have hcz38_5 : w37.cell? ⟨gb185, 5, none⟩ = some (.int .i64 0) := (blk_cell BK185.out 5).trans rfl; have hfz38_0 := blk_frozen BK185.out 0; have hfz38_1 := blk_frozen BK185.out 1; have hfz38_2 := blk_frozen BK185.out 2; have hfz38_3 := blk_frozen BK185.out 3; have hfz38_4 := blk_frozen BK185.out 4; have hfz38_5 := blk_frozen BK185.out 5; obtain ⟨Ao39, co39, eo39⟩ := Kd.R_slice HO175.out; subst eo39; obtain ⟨Ao40, co40, eo40⟩ := Kd.R_slice HO178.out; subst eo40; obtain ⟨Ao41, co41, eo41⟩ := Kd.R_slice HO181.out; subst eo41))
     repeat (go_quiet (first | (go_at_call 32; (with_reducible refine (block_Find.calls kj2 a0 t172 t173 t176 t179 t182 t183 t184 _ ?side1 A6.out).mono ?_); (case side1 => exact GW.below HG.out bl); rintro e w36 ⟨v174, v177, v180, rfl, ho0, ho1, ho2, hb⟩; have n0_ := Aside0.mk (Kd.R_lower ho0 (below_size bl)); have n1_ := Aside0.mk (Kd.R_lower ho1 (below_size bl)); have n2_ := Aside0.mk (Kd.R_lower ho2 (below_size bl)); have n3_ := Aside0.mk (below_step bl hb); clear HB; have HO175 := n0_; have HO178 := n1_; have HO181 := n2_; have HB := n3_; clear n0_ n1_ n2_ n3_; (try clear hb); (try clear hb2); (try clear hk); (try clear hi); (try clear ho0); (try clear ho1); (try clear ho2)) | ((with_reducible refine gate_dst (N := 5) rfl ?_); refine box_event ?hg (N := 5) ?hd (cs := #[.string (⟨#[]⟩ : ByteArray), .slice none 0 0, .slice none 0 0, .slice none 0 0, .int .i64 0, .int .i64 0]) (t := 57) ?hr ?_; (case hd => rfl); (case hg => rfl); (case hr => first | (go_simp; done) | (go_simp; rfl)); intro gb185 hg w37 hbox hb; have n0_ := Aside0.mk (Kd.R_below (by (with_reducible repeat (first | apply Kd.R_alloc | apply Kd.R_drewN | apply Kd.R_drew)); exact HO175.out) hb); have n1_ := Aside0.mk (Kd.R_below (by (with_reducible repeat (first | apply Kd.R_alloc | apply Kd.R_drewN | apply Kd.R_drew)); exact HO178.out) hb); have n2_ := Aside0.mk (Kd.R_below (by (with_reducible repeat (first | apply Kd.R_alloc | apply Kd.R_drewN | apply Kd.R_drew)); exact HO181.out) hb); have n3_ := Aside0.mk (below_step bl hb); have n4_ := Aside0.mk (hbox); have n5_ := Aside0.mk ((by rw [hg]; exact (below_size bl) : w.heap.size ≤ gb185)); have n6_ := Aside0.mk ((by rw [hg]; exact (below_size bl) : w.heap.size ≤ gb185)); clear HO175; clear HO178; clear HO181; clear HB; have HO175 := n0_; have HO178 := n1_; have HO181 := n2_; have HB := n3_; have BK185 := n4_; have GW185 := n5_; have GE185 := n6_; clear n0_ n1_ n2_ n3_ n4_ n5_ n6_; clear hb hbox hg; have hcz38_0 : w37.cell? ⟨gb185, 0, none⟩ = some (.string (⟨#[]⟩ : ByteArray)) := (blk_cell BK185.out 0).trans rfl; have hcz38_1 : w37.cell? ⟨gb185, 1, none⟩ = some (.slice none 0 0) := (blk_cell BK185.out 1).trans rfl; have hcz38_2 : w37.cell? ⟨gb185, 2, none⟩ = some (.slice none 0 0) := (blk_cell BK185.out 2).trans rfl; have hcz38_3 : w37.cell? ⟨gb185, 3, none⟩ = some (.slice none 0 0) := (blk_cell BK185.out 3).trans rfl; have hcz38_4 : w37.cell? ⟨gb185, 4, none⟩ = some (.int .i64 0) := (blk_cell BK185.out 4).trans rfl; have hcz38_5 : w37.cell? ⟨gb185, 5, none⟩ = some (.int .i64 0) := (blk_cell BK185.out 5).trans rfl; have hfz38_0 := blk_frozen BK185.out 0; have hfz38_1 := blk_frozen BK185.out 1; have hfz38_2 := blk_frozen BK185.out 2; have hfz38_3 := blk_frozen BK185.out 3; have hfz38_4 := blk_frozen BK185.out 4; have hfz38_5 := blk_frozen BK185.out 5; obtain ⟨Ao39, co39, eo39⟩ := Kd.R_slice HO175.out; subst eo39; obtain ⟨Ao40, co40, eo40⟩ := Kd.R_slice HO178.out; subst eo40; obtain ⟨Ao41, co41, eo41⟩ := Kd.R_slice HO181.out; subst eo41)); try go_wp2_with (first | (go_at_call 32; (with_reducible refine (block_Find.calls kj2 a0 t172 t173 t176 t179 t182 t183 t184 _ ?side1 A6.out).mono ?_); (case side1 => exact GW.below HG.out bl); rintro e w36 ⟨v174, v177, v180, rfl, ho0, ho1, ho2, hb⟩; have n0_ := Aside0.mk (Kd.R_lower ho0 (below_size bl)); have n1_ := Aside0.mk (Kd.R_lower ho1 (below_size bl)); have n2_ := Aside0.mk (Kd.R_lower ho2 (below_size bl)); have n3_ := Aside0.mk (below_step bl hb); clear HB; have HO175 := n0_; have HO178 := n1_; have HO181 := n2_; have HB := n3_; clear n0_ n1_ n2_ n3_; (try clear hb); (try clear hb2); (try clear hk); (try clear hi); (try clear ho0); (try clear ho1); (try clear ho2)) | ((with_reducible refine gate_dst (N := 5) rfl ?_); refine box_event ?hg (N := 5) ?hd (cs := #[.string (⟨#[]⟩ : ByteArray), .slice none 0 0, .slice none 0 0, .slice none 0 0, .int .i64 0, .int .i64 0]) (t := 57) ?hr ?_; (case hd => rfl); (case hg => rfl); (case hr => first | (go_simp; done) | (go_simp; rfl)); intro gb185 hg w37 hbox hb; have n0_ := Aside0.mk (Kd.R_below (by (with_reducible repeat (first | apply Kd.R_alloc | apply Kd.R_drewN | apply Kd.R_drew)); exact HO175.out) hb); have n1_ := Aside0.mk (Kd.R_below (by (with_reducible repeat (first | apply Kd.R_alloc | apply Kd.R_drewN | apply Kd.R_drew)); exact HO178.out) hb); have n2_ := Aside0.mk (Kd.R_below (by (with_reducible repeat (first | apply Kd.R_alloc | apply Kd.R_drewN | apply Kd.R_drew)); exact HO181.out) hb); have n3_ := Aside0.mk (below_step bl hb); have n4_ := Aside0.mk (hbox); have n5_ := Aside0.mk ((by rw [hg]; exact (below_size bl) : w.heap.size ≤ gb185)); have n6_ := Aside0.mk ((by rw [hg]; exact (below_size bl) : w.heap.size ≤ gb185)); clear HO175; clear HO178; clear HO181; clear HB; have HO175 := n0_; have HO178 := n1_; have HO181 := n2_; have HB := n3_; have BK185 := n4_; have GW185 := n5_; have GE185 := n6_; clear n0_ n1_ n2_ n3_ n4_ n5_ n6_; clear hb hbox hg; have hcz38_0 : w37.cell? ⟨gb185, 0, none⟩ = some (.string (⟨#[]⟩ : ByteArray)) := (blk_cell BK185.out 0).trans rfl; have hcz38_1 : w37.cell? ⟨gb185, 1, none⟩ = some (.slice none 0 0) := (blk_cell BK185.out 1).trans rfl; have hcz38_2 : w37.cell? ⟨gb185, 2, none⟩ = some (.slice none 0 0) := (blk_cell BK185.out 2).trans rfl; have hcz38_3 : w37.cell? ⟨gb185, 3, none⟩ = some (.slice none 0 0) := (blk_cell BK185.out 3).trans rfl; have hcz38_4 : w37.cell? ⟨gb185, 4, none⟩ = some (.int .i64 0) := (blk_cell BK185.out 4).trans rfl; have hcz38_5 : w37.cell? ⟨gb185, 5, none⟩ = some (.int .i64 0) := (blk_cell BK185.out 5).trans rfl; have hfz38_0 := blk_frozen BK185.out 0; have hfz38_1 := blk_frozen BK185.out 1; have hfz38_2 := blk_frozen BK185.out 2; have hfz38_3 := blk_frozen BK185.out 3; have hfz38_4 := blk_frozen BK185.out 4; have hfz38_5 := blk_frozen BK185.out 5; obtain ⟨Ao39, co39, eo39⟩ := Kd.R_slice HO175.out; subst eo39; obtain ⟨Ao40, co40, eo40⟩ := Kd.R_slice HO178.out; subst eo40; obtain ⟨Ao41, co41, eo41⟩ := Kd.R_slice HO181.out; subst eo41)))
     go_ret
     exact ⟨by first | rfl | (simp [errW_none, errW_some] <;> rfl) | (simp [*, errW_none, errW_some] <;> rfl), by repeat (first | (with_reducible first | exact HB.out | apply below_alloc | apply pw_below_drewN | apply below_drew1 | refine below_set ?_ GE185.out) | exact HB.out)⟩

/-! ### sequencer_seconds: function 23 -/
def sequencer_seconds.f (a0 : Int) : Option (Bool) := if a0 ≥ 1 then (some (decide (a0 ≤ 86400))) else (some false)
set_option maxHeartbeats 8000000 in
set_option maxRecDepth 100000 in
theorem sequencer_seconds.calls (a0 : Int) (r : Bool) (w : World) (h : sequencer_seconds.f a0 = some r) :
  Calls Tryd.prog 23 #[.int .i64 a0] w fun e w' => e = .returned (.bool r) ∧ Drawn0 w w' := by
 have H : (if a0 ≥ 1 then (some (decide (a0 ≤ 86400))) else (some false)) = some r := h
 clear h
 by_cases c2 : a0 ≥ 1
 ·
  rw [if_pos c2] at H
  have c2b0 : decide (1 ≤ a0) = true := decide_eq_true c2
  clear c2
  obtain rfl := Option.some.inj H
  go_enter Tryd.func23, Tryd.ntmps23
  go_wp2
  go_ret
  exact ⟨by first | rfl | (simp; done) | (simp [*]; done), by repeat (first | exact Drawn0.refl _ | apply Drawn0.step)⟩
 ·
  rw [if_neg c2] at H
  have c2b0 : decide (1 ≤ a0) = false := decide_eq_false c2
  clear c2
  obtain rfl := Option.some.inj H
  go_enter Tryd.func23, Tryd.ntmps23
  go_wp2
  go_ret
  exact ⟨by first | rfl | (simp; done) | (simp [*]; done), by repeat (first | exact Drawn0.refl _ | apply Drawn0.step)⟩

/-! ### sequencer_fits: function 24 -/
def sequencer_fits.f (a0_0 : Int) (a0_1 : Int) (a1 : Int) : Option (Bool) := if a0_0 = a1 then (if a1 = 1 then (if a0_1 ≥ (-1000000000000) then (some (decide (a0_1 ≤ 1000000000000))) else (some false)) else (if a0_1 = 0 then (some true) else (some (a0_1 == 1)))) else (some false)
set_option maxHeartbeats 8000000 in
set_option maxRecDepth 100000 in
theorem sequencer_fits.calls (a0_0 : Int) (a0_1 : Int) (a1 : Int) (r : Bool) (w : World) (h : sequencer_fits.f a0_0 a0_1 a1 = some r) :
  Calls Tryd.prog 24 #[.agg #[.int .i64 a0_0, .int .i64 a0_1], .int .i64 a1] w fun e w' => e = .returned (.bool r) ∧ Below w.heap.size w w' := by
 have hu27 := Tryd.underlying27
 have HB := Aside0.mk (Below.refl w.heap.size w)
 have H : (if a0_0 = a1 then (if a1 = 1 then (if a0_1 ≥ (-1000000000000) then (some (decide (a0_1 ≤ 1000000000000))) else (some false)) else (if a0_1 = 0 then (some true) else (some (a0_1 == 1)))) else (some false)) = some r := h
 clear h
 by_cases c3 : a0_0 = a1
 ·
  rw [if_pos c3] at H
  have c3b0 : (a0_0 == a1) = true := beq_iff_eq.mpr c3
  have c3b1 : (a0_0 != a1) = false := bne_eq_false_iff_eq.mpr c3
  clear c3
  by_cases c4 : a1 = 1
  ·
   rw [if_pos c4] at H
   have c4b0 : (a1 == 1) = true := beq_iff_eq.mpr c4
   have c4b1 : (a1 != 1) = false := bne_eq_false_iff_eq.mpr c4
   clear c4
   by_cases c5 : a0_1 ≥ (-1000000000000)
   ·
    rw [if_pos c5] at H
    have c5b0 : decide ((-1000000000000) ≤ a0_1) = true := decide_eq_true c5
    clear c5
    obtain rfl := Option.some.inj H
    go_enter Tryd.func24, Tryd.ntmps24
    go_wp2_with (first | ((with_reducible refine gate_dst (N := 2) rfl ?_); refine box_event ?hg (N := 2) ?hd (cs := #[.int .i64 a0_0, .int .i64 a0_1]) (t := 27) ?hr ?_; (case hd => rfl); (case hg => rfl); (case hr => first | (go_simp; done) | (go_simp; rfl)); intro gb190 hg w6 hbox hb; have n0_ := Aside0.mk (below_step bl hb); have n1_ := Aside0.mk (hbox); have n2_ := Aside0.mk ((by rw [hg]; exact (below_size bl) : w.heap.size ≤ gb190)); have n3_ := Aside0.mk ((by rw [hg]; exact (below_size bl) : w.heap.size ≤ gb190)); clear HB; have HB := n0_; have BK190 := n1_; have GW190 := n2_; have GE190 := n3_; clear n0_ n1_ n2_ n3_; clear hb hbox hg; have hcz7_0 : w6.cell? ⟨gb190, 0, none⟩ = some (.int .i64 a0_0) := (blk_cell BK190.out 0).trans rfl; have hcz7_1 : w6.cell? ⟨gb190, 1, none⟩ = some (.int .i64 a0_1) := (blk_cell BK190.out 1).trans rfl; have hfz7_0 := blk_frozen BK190.out 0; have hfz7_1 := blk_frozen BK190.out 1))
    go_ret
    exact ⟨by first | rfl | (simp [errW_none, errW_some] <;> rfl) | (simp [*, errW_none, errW_some] <;> rfl), by repeat (first | (with_reducible first | exact HB.out | apply below_alloc | apply pw_below_drewN | apply below_drew1 | refine below_set ?_ GE190.out) | exact HB.out)⟩
   ·
    rw [if_neg c5] at H
    have c5b0 : decide ((-1000000000000) ≤ a0_1) = false := decide_eq_false c5
    clear c5
    obtain rfl := Option.some.inj H
    go_enter Tryd.func24, Tryd.ntmps24
    go_wp2_with (first | ((with_reducible refine gate_dst (N := 2) rfl ?_); refine box_event ?hg (N := 2) ?hd (cs := #[.int .i64 a0_0, .int .i64 a0_1]) (t := 27) ?hr ?_; (case hd => rfl); (case hg => rfl); (case hr => first | (go_simp; done) | (go_simp; rfl)); intro gb190 hg w8 hbox hb; have n0_ := Aside0.mk (below_step bl hb); have n1_ := Aside0.mk (hbox); have n2_ := Aside0.mk ((by rw [hg]; exact (below_size bl) : w.heap.size ≤ gb190)); have n3_ := Aside0.mk ((by rw [hg]; exact (below_size bl) : w.heap.size ≤ gb190)); clear HB; have HB := n0_; have BK190 := n1_; have GW190 := n2_; have GE190 := n3_; clear n0_ n1_ n2_ n3_; clear hb hbox hg; have hcz9_0 : w8.cell? ⟨gb190, 0, none⟩ = some (.int .i64 a0_0) := (blk_cell BK190.out 0).trans rfl; have hcz9_1 : w8.cell? ⟨gb190, 1, none⟩ = some (.int .i64 a0_1) := (blk_cell BK190.out 1).trans rfl; have hfz9_0 := blk_frozen BK190.out 0; have hfz9_1 := blk_frozen BK190.out 1))
    go_ret
    exact ⟨by first | rfl | (simp [errW_none, errW_some] <;> rfl) | (simp [*, errW_none, errW_some] <;> rfl), by repeat (first | (with_reducible first | exact HB.out | apply below_alloc | apply pw_below_drewN | apply below_drew1 | refine below_set ?_ GE190.out) | exact HB.out)⟩
  ·
   rw [if_neg c4] at H
   have c4b0 : (a1 == 1) = false := beq_eq_false_iff_ne.mpr c4
   have c4b1 : (a1 != 1) = true := bne_iff_ne.mpr c4
   by_cases c10 : a0_1 = 0
   ·
    rw [if_pos c10] at H
    have c10b0 : (a0_1 == 0) = true := beq_iff_eq.mpr c10
    have c10b1 : (a0_1 != 0) = false := bne_eq_false_iff_eq.mpr c10
    clear c10
    obtain rfl := Option.some.inj H
    go_enter Tryd.func24, Tryd.ntmps24
    go_wp2_with (first | ((with_reducible refine gate_dst (N := 2) rfl ?_); refine box_event ?hg (N := 2) ?hd (cs := #[.int .i64 a0_0, .int .i64 a0_1]) (t := 27) ?hr ?_; (case hd => rfl); (case hg => rfl); (case hr => first | (go_simp; done) | (go_simp; rfl)); intro gb190 hg w11 hbox hb; have n0_ := Aside0.mk (below_step bl hb); have n1_ := Aside0.mk (hbox); have n2_ := Aside0.mk ((by rw [hg]; exact (below_size bl) : w.heap.size ≤ gb190)); have n3_ := Aside0.mk ((by rw [hg]; exact (below_size bl) : w.heap.size ≤ gb190)); clear HB; have HB := n0_; have BK190 := n1_; have GW190 := n2_; have GE190 := n3_; clear n0_ n1_ n2_ n3_; clear hb hbox hg; have hcz12_0 : w11.cell? ⟨gb190, 0, none⟩ = some (.int .i64 a0_0) := (blk_cell BK190.out 0).trans rfl; have hcz12_1 : w11.cell? ⟨gb190, 1, none⟩ = some (.int .i64 a0_1) := (blk_cell BK190.out 1).trans rfl; have hfz12_0 := blk_frozen BK190.out 0; have hfz12_1 := blk_frozen BK190.out 1))
    go_ret
    exact ⟨by first | rfl | (simp [errW_none, errW_some] <;> rfl) | (simp [*, errW_none, errW_some] <;> rfl), by repeat (first | (with_reducible first | exact HB.out | apply below_alloc | apply pw_below_drewN | apply below_drew1 | refine below_set ?_ GE190.out) | exact HB.out)⟩
   ·
    rw [if_neg c10] at H
    have c10b0 : (a0_1 == 0) = false := beq_eq_false_iff_ne.mpr c10
    have c10b1 : (a0_1 != 0) = true := bne_iff_ne.mpr c10
    obtain rfl := Option.some.inj H
    go_enter Tryd.func24, Tryd.ntmps24
    go_wp2_with (first | ((with_reducible refine gate_dst (N := 2) rfl ?_); refine box_event ?hg (N := 2) ?hd (cs := #[.int .i64 a0_0, .int .i64 a0_1]) (t := 27) ?hr ?_; (case hd => rfl); (case hg => rfl); (case hr => first | (go_simp; done) | (go_simp; rfl)); intro gb190 hg w13 hbox hb; have n0_ := Aside0.mk (below_step bl hb); have n1_ := Aside0.mk (hbox); have n2_ := Aside0.mk ((by rw [hg]; exact (below_size bl) : w.heap.size ≤ gb190)); have n3_ := Aside0.mk ((by rw [hg]; exact (below_size bl) : w.heap.size ≤ gb190)); clear HB; have HB := n0_; have BK190 := n1_; have GW190 := n2_; have GE190 := n3_; clear n0_ n1_ n2_ n3_; clear hb hbox hg; have hcz14_0 : w13.cell? ⟨gb190, 0, none⟩ = some (.int .i64 a0_0) := (blk_cell BK190.out 0).trans rfl; have hcz14_1 : w13.cell? ⟨gb190, 1, none⟩ = some (.int .i64 a0_1) := (blk_cell BK190.out 1).trans rfl; have hfz14_0 := blk_frozen BK190.out 0; have hfz14_1 := blk_frozen BK190.out 1))
    go_ret
    exact ⟨by first | rfl | (simp [errW_none, errW_some] <;> rfl) | (simp [*, errW_none, errW_some] <;> rfl), by repeat (first | (with_reducible first | exact HB.out | apply below_alloc | apply pw_below_drewN | apply below_drew1 | refine below_set ?_ GE190.out) | exact HB.out)⟩
 ·
  rw [if_neg c3] at H
  have c3b0 : (a0_0 == a1) = false := beq_eq_false_iff_ne.mpr c3
  have c3b1 : (a0_0 != a1) = true := bne_iff_ne.mpr c3
  obtain rfl := Option.some.inj H
  go_enter Tryd.func24, Tryd.ntmps24
  go_wp2_with (first | ((with_reducible refine gate_dst (N := 2) rfl ?_); refine box_event ?hg (N := 2) ?hd (cs := #[.int .i64 a0_0, .int .i64 a0_1]) (t := 27) ?hr ?_; (case hd => rfl); (case hg => rfl); (case hr => first | (go_simp; done) | (go_simp; rfl)); intro gb190 hg w15 hbox hb; have n0_ := Aside0.mk (below_step bl hb); have n1_ := Aside0.mk (hbox); have n2_ := Aside0.mk ((by rw [hg]; exact (below_size bl) : w.heap.size ≤ gb190)); have n3_ := Aside0.mk ((by rw [hg]; exact (below_size bl) : w.heap.size ≤ gb190)); clear HB; have HB := n0_; have BK190 := n1_; have GW190 := n2_; have GE190 := n3_; clear n0_ n1_ n2_ n3_; clear hb hbox hg; have hcz16_0 : w15.cell? ⟨gb190, 0, none⟩ = some (.int .i64 a0_0) := (blk_cell BK190.out 0).trans rfl; have hcz16_1 : w15.cell? ⟨gb190, 1, none⟩ = some (.int .i64 a0_1) := (blk_cell BK190.out 1).trans rfl; have hfz16_0 := blk_frozen BK190.out 0; have hfz16_1 := blk_frozen BK190.out 1))
  go_ret
  exact ⟨by first | rfl | (simp [errW_none, errW_some] <;> rfl) | (simp [*, errW_none, errW_some] <;> rfl), by repeat (first | (with_reducible first | exact HB.out | apply below_alloc | apply pw_below_drewN | apply below_drew1 | refine below_set ?_ GE190.out) | exact HB.out)⟩

/-! ### sequencer_possible: function 25 -/
def sequencer_possible.j0 : Nat → ByteArray → List Int → Bool → Option (Bool)
 | 0, _, _, _ => none
 | k + 1, x0, x2, x30 => if x30 = true then (some false) else (if x0.toList = ([115, 116, 101, 112, 115] : List UInt8) then (if 1 < (x2.length : Int) then (some (decide ((rd x2 1) ≥ 0))) else (none)) else (if 1 < (x2.length : Int) then (some (decide ((rd x2 1) ≥ (-6311433599)))) else (none)))
def sequencer_possible.f (k : Nat) (a0 : ByteArray) (l1 : List Int) (l2 : List Int) : Option (Bool) := if (l2.length : Int) = 2 then (if 0 < (l2.length : Int) then (if (rd l2 0) < 0 then (sequencer_possible.j0 k a0 l2 true) else (if 0 < (l1.length : Int) then (if (rd l2 0) > (rd l1 0) then (sequencer_possible.j0 k a0 l2 true) else (if 1 < (l2.length : Int) then (sequencer_possible.j0 k a0 l2 (decide ((rd l2 1) > 6311433599))) else (none))) else (none))) else (none)) else (sequencer_possible.j0 k a0 l2 true)
theorem sequencer_possible.mono_l : ∀ k, (∀ y0 y1 y2, LeO (sequencer_possible.j0 k y0 y1 y2) (sequencer_possible.j0 (k + 1) y0 y1 y2))
 | 0 => fun _ _ _ r h => by simp [sequencer_possible.j0] at h
 | k + 1 => by
  have ih0 := sequencer_possible.mono_l k
  ·
   intro y0 y1 y2
   unfold sequencer_possible.j0
   repeat' first
   | (with_reducible exact ih0 _ _ _)
   | (with_reducible exact LeO.refl _)
   | (with_reducible exact LeO.none _)
   | (with_reducible refine LeO.ite ?_ ?_)
   | (with_reducible refine LeO.bind ?_ (fun _ => ?_))
   | exact ih0 _ _ _
   | exact LeO.none _
   | refine LeO.ite ?_ ?_
   | refine LeO.bind ?_ (fun _ => ?_)
theorem sequencer_possible.mono : ∀ a0 a1 a2 k, LeO (sequencer_possible.f k a0 a1 a2) (sequencer_possible.f (k + 1) a0 a1 a2) := by
 intro a0 a1 a2 k
 have ih0 := sequencer_possible.mono_l k
 unfold sequencer_possible.f
 repeat' first
   | (with_reducible exact ih0 _ _ _)
   | (with_reducible exact LeO.refl _)
   | (with_reducible exact LeO.none _)
   | (with_reducible refine LeO.ite ?_ ?_)
   | (with_reducible refine LeO.bind ?_ (fun _ => ?_))
   | exact ih0 _ _ _
   | exact LeO.none _
   | refine LeO.ite ?_ ?_
   | refine LeO.bind ?_ (fun _ => ?_)
set_option maxHeartbeats 8000000 in
set_option maxRecDepth 100000 in
theorem sequencer_possible.calls (k : Nat) (a0 : ByteArray) (A1 : Option Addr) (c1 : Nat) (l1 : List Int) (A2 : Option Addr) (c2 : Nat) (l2 : List Int) (r : Bool) (w : World) (hr1 : Kd.C (Kd.int .i64) w A1 l1.length l1) (hc1 : l1.length ≤ c1) (hr2 : Kd.C (Kd.int .i64) w A2 l2.length l2) (hc2 : l2.length ≤ c2) (h : sequencer_possible.f k a0 l1 l2 = some r) :
  Calls Tryd.prog 25 #[.string a0, .slice A1 l1.length c1, .slice A2 l2.length c2] w fun e w' => e = .returned (.bool r) ∧ Drawn0 w w' := by
 have HR1 := Aside0.mk hr1
 have HC1 := Aside0.mk hc1
 clear hr1 hc1
 have HR2 := Aside0.mk hr2
 have HC2 := Aside0.mk hc2
 clear hr2 hc2
 have H : (if (l2.length : Int) = 2 then (if 0 < (l2.length : Int) then (if (rd l2 0) < 0 then (sequencer_possible.j0 k a0 l2 true) else (if 0 < (l1.length : Int) then (if (rd l2 0) > (rd l1 0) then (sequencer_possible.j0 k a0 l2 true) else (if 1 < (l2.length : Int) then (sequencer_possible.j0 k a0 l2 (decide ((rd l2 1) > 6311433599))) else (none))) else (none))) else (none)) else (sequencer_possible.j0 k a0 l2 true)) = some r := h
 clear h
 have HC4 := Aside0.mk H
 clear H
 go_enter Tryd.func25, Tryd.ntmps25
 go_upto_region 1 with (fail)
 repeat (go_quiet (fail); go_upto_region 1 with (fail))
 go_cut [30] (fun v30 wc => ∃ (kq : Nat) (x30_3 : Bool), v30 = .bool x30_3 ∧ Aside0 (sequencer_possible.j0 kq a0 l2 x30_3 = some r) ∧ Aside0 (kq ≤ k) ∧ Drawn0 w wc)
 case first =>
  have H := HC4.out
  clear HC4
  by_cases c5 : (l2.length : Int) = 2
  ·
   rw [if_pos c5] at H
   have c5b0 : ((l2.length : Int) == 2) = true := beq_iff_eq.mpr c5
   have c5b1 : ((l2.length : Int) != 2) = false := bne_eq_false_iff_eq.mpr c5
   clear c5
   (first | rw [c5b0] | (simp only [i64_w, i32_w]; rw [c5b0]) | skip)
   by_cases c6 : 0 < (l2.length : Int)
   ·
    rw [if_pos c6] at H
    have c6b0 : decide (0 < (l2.length : Int)) = true := decide_eq_true c6
    have c6b1 : decide (0 < l2.length) = true := decide_eq_true (by omega)
    clear c6
    by_cases c7 : (rd l2 0) < 0
    ·
     rw [if_pos c7] at H
     have c7b0 : decide ((rd l2 0) < 0) = true := decide_eq_true c7
     clear c7
     have H' := Aside0.mk H
     clear H
     have p191 : 0 ≤ (0 : Int) := (by omega)
     have q191 : 0 < (l2.length : Int) := ode
     obtain ⟨ad191, e191, hx191_0⟩ := Kd.at_int HR2.out 0 p191 q191
     cases e191
     have qi191 : (0 < l2.length) = True := eq_true (by omega)
     (try rw [show ((0 : Int)).toNat = 0 from rfl] at hx191_0)
     (try rw [Addr.add_zero'] at hx191_0)
     replace p191 := eq_true p191
     replace q191 := eq_true q191
     go_wp2
     repeat (go_quiet (fail); try go_wp2)
     go_meet
     case rel => exact ⟨_, (true), (by first | rfl | (simp; done) | (simp [*]; done)), H', ⟨by first | omega | exact Nat.le_refl _⟩, by repeat (first | exact Drawn0.refl _ | apply Drawn0.step)⟩
    ·
     rw [if_neg c7] at H
     have c7b0 : decide ((rd l2 0) < 0) = false := decide_eq_false c7
     clear c7
     by_cases c8 : 0 < (l1.length : Int)
     ·
      rw [if_pos c8] at H
      have c8b0 : decide (0 < (l1.length : Int)) = true := decide_eq_true c8
      have c8b1 : decide (0 < l1.length) = true := decide_eq_true (by omega)
      clear c8
      by_cases c9 : (rd l2 0) > (rd l1 0)
      ·
       rw [if_pos c9] at H
       have c9b0 : decide ((rd l1 0) < (rd l2 0)) = true := decide_eq_true c9
       clear c9
       have H' := Aside0.mk H
       clear H
       have p191 : 0 ≤ (0 : Int) := (by omega)
       have q191 : 0 < (l2.length : Int) := ode
       obtain ⟨ad191, e191, hx191_0⟩ := Kd.at_int HR2.out 0 p191 q191
       cases e191
       have qi191 : (0 < l2.length) = True := eq_true (by omega)
       (try rw [show ((0 : Int)).toNat = 0 from rfl] at hx191_0)
       (try rw [Addr.add_zero'] at hx191_0)
       replace p191 := eq_true p191
       replace q191 := eq_true q191
       have p192 : 0 ≤ (0 : Int) := (by omega)
       have q192 : 0 < (l2.length : Int) := ode
       obtain ⟨ad192, e192, hx192_0⟩ := Kd.at_int HR2.out 0 p192 q192
       obtain rfl : ad191 = ad192 := (by injection e192)
       have qi192 : (0 < l2.length) = True := eq_true (by omega)
       (try rw [show ((0 : Int)).toNat = 0 from rfl] at hx192_0)
       (try rw [Addr.add_zero'] at hx192_0)
       replace p192 := eq_true p192
       replace q192 := eq_true q192
       have p193 : 0 ≤ (0 : Int) := (by omega)
       have q193 : 0 < (l1.length : Int) := ode
       obtain ⟨ad193, e193, hx193_0⟩ := Kd.at_int HR1.out 0 p193 q193
       cases e193
       have qi193 : (0 < l1.length) = True := eq_true (by omega)
       (try rw [show ((0 : Int)).toNat = 0 from rfl] at hx193_0)
       (try rw [Addr.add_zero'] at hx193_0)
       replace p193 := eq_true p193
       replace q193 := eq_true q193
       go_wp2
       repeat (go_quiet (fail); try go_wp2)
       go_meet
       case rel => exact ⟨_, (true), (by first | rfl | (simp; done) | (simp [*]; done)), H', ⟨by first | omega | exact Nat.le_refl _⟩, by repeat (first | exact Drawn0.refl _ | apply Drawn0.step)⟩
      ·
       rw [if_neg c9] at H
       have c9b0 : decide ((rd l1 0) < (rd l2 0)) = false := decide_eq_false c9
       clear c9
       by_cases c10 : 1 < (l2.length : Int)
       ·
        rw [if_pos c10] at H
        have c10b0 : decide (1 < (l2.length : Int)) = true := decide_eq_true c10
        have c10b1 : decide (1 < l2.length) = true := decide_eq_true (by omega)
        clear c10
        have H' := Aside0.mk H
        clear H
        have p191 : 0 ≤ (0 : Int) := (by omega)
        have q191 : 0 < (l2.length : Int) := ode
        obtain ⟨ad191, e191, hx191_0⟩ := Kd.at_int HR2.out 0 p191 q191
        cases e191
        have qi191 : (0 < l2.length) = True := eq_true (by omega)
        (try rw [show ((0 : Int)).toNat = 0 from rfl] at hx191_0)
        (try rw [Addr.add_zero'] at hx191_0)
        replace p191 := eq_true p191
        replace q191 := eq_true q191
        have p192 : 0 ≤ (0 : Int) := (by omega)
        have q192 : 0 < (l2.length : Int) := ode
        obtain ⟨ad192, e192, hx192_0⟩ := Kd.at_int HR2.out 0 p192 q192
        obtain rfl : ad191 = ad192 := (by injection e192)
        have qi192 : (0 < l2.length) = True := eq_true (by omega)
        (try rw [show ((0 : Int)).toNat = 0 from rfl] at hx192_0)
        (try rw [Addr.add_zero'] at hx192_0)
        replace p192 := eq_true p192
        replace q192 := eq_true q192
        have p193 : 0 ≤ (0 : Int) := (by omega)
        have q193 : 0 < (l1.length : Int) := ode
        obtain ⟨ad193, e193, hx193_0⟩ := Kd.at_int HR1.out 0 p193 q193
        cases e193
        have qi193 : (0 < l1.length) = True := eq_true (by omega)
        (try rw [show ((0 : Int)).toNat = 0 from rfl] at hx193_0)
        (try rw [Addr.add_zero'] at hx193_0)
        replace p193 := eq_true p193
        replace q193 := eq_true q193
        have p194 : 0 ≤ (1 : Int) := (by omega)
        have q194 : 1 < (l2.length : Int) := ode
        obtain ⟨ad194, e194, hx194_0⟩ := Kd.at_int HR2.out 1 p194 q194
        obtain rfl : ad191 = ad194 := (by injection e194)
        (try simp only [show (1 : Int).toNat = 1 from rfl, Nat.reduceMul, Nat.reduceEqDiff, Go.Addr.add, ↓reduceIte] at hx194_0)
        have qi194 : (1 < l2.length) = True := eq_true (by omega)
        (try rw [show ((1 : Int)).toNat = 1 from rfl] at hx194_0)
        replace p194 := eq_true p194
        replace q194 := eq_true q194
        go_wp2
        repeat (go_quiet (fail); try go_wp2)
        go_meet
        case rel => exact ⟨_, (decide ((rd l2 1) > 6311433599)), (by first | rfl | (simp; done) | (simp [*]; done)), H', ⟨by first | omega | exact Nat.le_refl _⟩, by repeat (first | exact Drawn0.refl _ | apply Drawn0.step)⟩
       ·
        rw [if_neg c10] at H
        exact absurd H (by simp)
     ·
      rw [if_neg c8] at H
      exact absurd H (by simp)
   ·
    rw [if_neg c6] at H
    exact absurd H (by simp)
  ·
   rw [if_neg c5] at H
   have c5b0 : ((l2.length : Int) == 2) = false := beq_eq_false_iff_ne.mpr c5
   have c5b1 : ((l2.length : Int) != 2) = true := bne_iff_ne.mpr c5
   (first | rw [c5b0] | (simp only [i64_w, i32_w]; rw [c5b0]) | skip)
   have H' := Aside0.mk H
   clear H
   go_wp2
   repeat (go_quiet (fail); try go_wp2)
   go_meet
   case rel => exact ⟨_, (true), (by first | rfl | (simp; done) | (simp [*]; done)), H', ⟨by first | omega | exact Nat.le_refl _⟩, by repeat (first | exact Drawn0.refl _ | apply Drawn0.step)⟩
 case rest =>
  clear HC4
  try clear c1
  try clear p1
  try clear q1
  try clear hx1
  try clear qi1
  try clear c2
  try clear p2
  try clear c5
  try clear c5b0
  try clear c5b1
  try clear c6
  try clear c6b0
  try clear c6b1
  try clear c7
  try clear c7b0
  try clear c8
  try clear c8b0
  try clear c8b1
  try clear c9
  try clear c9b0
  try clear c10
  try clear c10b0
  try clear c10b1
  try clear hx191_0
  try clear hx192_0
  try clear hx193_0
  try clear hx194_0
  try clear p191
  try clear p192
  try clear p193
  try clear p194
  try clear q191
  try clear q192
  try clear q193
  try clear q194
  obtain ⟨kq, x30_3, rfl, HA, HJ3, ⟨mc3, rfl⟩⟩ := hcut
  cases kq with
  | zero => exact absurd HA.out (by simp [sequencer_possible.j0])
  | succ kj3 =>
   have H := HA.out
   clear HA
   simp only [sequencer_possible.j0] at H
   by_cases c11 : x30_3 = true
   ·
    subst c11
    rw [if_pos rfl] at H
    obtain rfl := Option.some.inj H
    go_wp2
    repeat (go_quiet (fail); try go_wp2)
    go_ret
    exact ⟨by first | rfl | (simp; done) | (simp [*]; done), by repeat (first | exact Drawn0.refl _ | apply Drawn0.step)⟩
   ·
    replace c11 := Bool.eq_false_iff.mpr c11
    subst c11
    rw [if_neg (show ¬ (false = true) by decide)] at H
    by_cases c12 : a0.toList = ([115, 116, 101, 112, 115] : List UInt8)
    ·
     rw [if_pos c12] at H
     have c12b0 : (a0.toList == ([115, 116, 101, 112, 115] : List UInt8)) = true := beq_iff_eq.mpr c12
     have c12b1 : (a0.toList != ([115, 116, 101, 112, 115] : List UInt8)) = false := bne_eq_false_iff_eq.mpr c12
     clear c12
     by_cases c13 : 1 < (l2.length : Int)
     ·
      rw [if_pos c13] at H
      have c13b0 : decide (1 < (l2.length : Int)) = true := decide_eq_true c13
      have c13b1 : decide (1 < l2.length) = true := decide_eq_true (by omega)
      clear c13
      obtain rfl := Option.some.inj H
      have p195 : 0 ≤ (1 : Int) := (by omega)
      have q195 : 1 < (l2.length : Int) := ode
      obtain ⟨ad195, e195, hx195_0⟩ := Kd.at_int HR2.out 1 p195 q195
      cases e195
      (try simp only [show (1 : Int).toNat = 1 from rfl, Nat.reduceMul, Nat.reduceEqDiff, Go.Addr.add, ↓reduceIte] at hx195_0)
      have qi195 : (1 < l2.length) = True := eq_true (by omega)
      (try rw [show ((1 : Int)).toNat = 1 from rfl] at hx195_0)
      replace p195 := eq_true p195
      replace q195 := eq_true q195
      go_wp2
      repeat (go_quiet (fail); try go_wp2)
      go_ret
      exact ⟨by first | rfl | (simp; done) | (simp [*]; done), by repeat (first | exact Drawn0.refl _ | apply Drawn0.step)⟩
     ·
      rw [if_neg c13] at H
      exact absurd H (by simp)
    ·
     rw [if_neg c12] at H
     have c12b0 : (a0.toList == ([115, 116, 101, 112, 115] : List UInt8)) = false := beq_eq_false_iff_ne.mpr c12
     have c12b1 : (a0.toList != ([115, 116, 101, 112, 115] : List UInt8)) = true := bne_iff_ne.mpr c12
     by_cases c14 : 1 < (l2.length : Int)
     ·
      rw [if_pos c14] at H
      have c14b0 : decide (1 < (l2.length : Int)) = true := decide_eq_true c14
      have c14b1 : decide (1 < l2.length) = true := decide_eq_true (by omega)
      clear c14
      obtain rfl := Option.some.inj H
      have p196 : 0 ≤ (1 : Int) := (by omega)
      have q196 : 1 < (l2.length : Int) := ode
      obtain ⟨ad196, e196, hx196_0⟩ := Kd.at_int HR2.out 1 p196 q196
      cases e196
      (try simp only [show (1 : Int).toNat = 1 from rfl, Nat.reduceMul, Nat.reduceEqDiff, Go.Addr.add, ↓reduceIte] at hx196_0)
      have qi196 : (1 < l2.length) = True := eq_true (by omega)
      (try rw [show ((1 : Int)).toNat = 1 from rfl] at hx196_0)
      replace p196 := eq_true p196
      replace q196 := eq_true q196
      go_wp2
      repeat (go_quiet (fail); try go_wp2)
      go_ret
      exact ⟨by first | rfl | (simp; done) | (simp [*]; done), by repeat (first | exact Drawn0.refl _ | apply Drawn0.step)⟩
     ·
      rw [if_neg c14] at H
      exact absurd H (by simp)

end Go.Proofs.YtcpncmjjbfbdhaaDoor.R
