import Derived.Test.YtjjbdgngncgikaaGreatDoorRx0
import Derived.Test.YtjjbdgngncgikaaGreatDoorRx3
import Derived.Test.YtjjbdgngncgikaaGreatDoorRx4
namespace Go.Proofs.YtjjbdgngncgikaaGreatDoor.R
open Go.RowKit Go.Proofs.YtjjbdgngncgikaaGreatDoorW.PrintWords Go.Proofs.YtjjbdgngncgikaaGreatDoorW.PrintLast Go.Proofs.YtjjbdgngncgikaaGreatDoorW.PrintMore
attribute [local go_sem] max2_int min2_int max_two min_two max_three min_three max_four min_four
set_option linter.unusedVariables false
set_option linter.unusedSimpArgs false

abbrev lit7243 : ByteArray := (⟨#[97, 98, 111, 118, 101, 124, 97, 58, 85, 32, 98, 58, 85, 124, 124, 98, 105, 110, 97, 114, 121, 124, 48, 124, 49, 10, 97, 98, 115, 124, 97, 58, 85, 124, 124, 85, 124, 48, 124, 49, 10, 97, 100, 100, 124, 97, 58, 85, 32, 98, 58, 85, 124, 124, 85, 124, 48, 124, 49, 10, 97, 110, 100, 124, 97, 58, 98, 105, 110, 97, 114, 121, 32, 98, 58, 98, 105, 110, 97, 114, 121, 124, 124, 98, 105, 110, 97, 114, 121, 124, 48, 124, 55, 10, 98, 101, 108, 111, 119, 124, 97, 58, 85, 32, 98, 58, 85, 124, 124, 98, 105, 110, 97, 114, 121, 124, 48, 124, 49, 10, 99, 104, 111, 111, 115, 101, 124, 109, 58, 109, 117, 108, 116, 105, 32, 97, 58, 84, 124, 124, 84, 124, 48, 124, 55, 10, 99, 111, 117, 110, 116, 124, 97, 58, 98, 105, 110, 97, 114, 121, 32, 114, 101, 115, 101, 116, 58, 98, 105, 110, 97, 114, 121, 124, 124, 97, 110, 97, 108, 111, 103, 124, 50, 124, 49, 10, 100, 101, 119, 112, 111, 105, 110, 116, 124, 116, 58, 97, 110, 97, 108, 111, 103, 95, 100, 101, 103, 67, 32, 114, 104, 58, 97, 110, 97, 108, 111, 103, 95, 112, 99, 116, 124, 124, 97, 110, 97, 108, 111, 103, 95, 100, 101, 103, 67, 124, 48, 124, 49, 10, 100, 105, 118, 124, 97, 58, 85, 32, 98, 58, 86, 124, 124, 85, 47, 86, 124, 48, 124, 49, 10, 101, 100, 103, 101, 124, 97, 58, 98, 105, 110, 97, 114, 121, 124, 124, 98, 105, 110, 97, 114, 121, 124, 49, 124, 49, 10, 101, 110, 116, 104, 97, 108, 112, 121, 124, 116, 58, 97, 110, 97, 108, 111, 103, 95, 100, 101, 103, 67, 32, 114, 104, 58, 97, 110, 97, 108, 111, 103, 95, 112, 99, 116, 124, 124, 97, 110, 97, 108, 111, 103, 95, 107, 74, 47, 107, 103, 124, 48, 124, 49, 10, 104, 121, 115, 116, 124, 97, 58, 85, 124, 111, 110, 58, 45, 77, 58, 77, 58, 49, 48, 48, 48, 32, 111, 102, 102, 58, 45, 77, 58, 77, 58, 48, 124, 98, 105, 110, 97, 114, 121, 124, 49, 124, 49, 10, 108, 97, 116, 99, 104, 124, 115, 101, 116, 58, 98, 105, 110, 97, 114, 121, 32, 114, 101, 115, 101, 116, 58, 98, 105, 110, 97, 114, 121, 124, 124, 98, 105, 110, 97, 114, 121, 124, 49, 124, 49, 10, 108, 105, 109, 105, 116, 124, 97, 58, 85, 124, 108, 111, 119, 58, 45, 77, 58, 77, 58, 45, 77, 32, 104, 105, 103, 104, 58, 45, 77, 58, 77, 58, 77, 124, 85, 124, 48, 124, 49, 10, 108, 105, 110, 101, 124, 97, 58, 85, 124, 120, 49, 58, 45, 77, 58, 77, 58, 48, 32, 121, 49, 58, 45, 77, 58, 77, 58, 48, 32, 120, 50, 58, 45, 77, 58, 77, 58, 49, 48, 48, 48, 48, 48, 32, 121, 50, 58, 45, 77, 58, 77, 58, 49, 48, 48, 48, 48, 48, 124, 97, 110, 97, 108, 111, 103, 124, 48, 124, 49, 10, 109, 97, 120, 124, 97, 58, 85, 32, 98, 58, 85, 124, 124, 85, 124, 48, 124, 49, 10, 109, 101, 97, 110, 124, 97, 58, 85, 32, 98, 58, 85, 124, 124, 85, 124, 48, 124, 55, 10, 109, 105, 110, 124, 97, 58, 85, 32, 98, 58, 85, 124, 124, 85, 124, 48, 124, 49, 10, 109, 105, 110, 114, 117, 110, 124, 97, 58, 98, 105, 110, 97, 114, 121, 124, 111, 110, 58, 48, 58, 68, 58, 48, 32, 111, 102, 102, 58, 48, 58, 68, 58, 48, 124, 98, 105, 110, 97, 114, 121, 124, 50, 124, 49, 10, 109, 117, 108, 124, 97, 58, 85, 32, 98, 58, 86, 124, 124, 85, 42, 86, 124, 48, 124, 49, 10, 110, 101, 103, 124, 97, 58, 85, 124, 124, 85, 124, 48, 124, 49, 10, 110, 111, 116, 124, 97, 58, 98, 105, 110, 97, 114, 121, 124, 124, 98, 105, 110, 97, 114, 121, 124, 48, 124, 49, 10, 111, 102, 102, 100, 101, 108, 97, 121, 124, 97, 58, 98, 105, 110, 97, 114, 121, 124, 116, 105, 109, 101, 58, 48, 58, 68, 58, 48, 124, 98, 105, 110, 97, 114, 121, 124, 49, 124, 49, 10, 111, 110, 100, 101, 108, 97, 121, 124, 97, 58, 98, 105, 110, 97, 114, 121, 124, 116, 105, 109, 101, 58, 48, 58, 68, 58, 48, 124, 98, 105, 110, 97, 114, 121, 124, 49, 124, 49, 10, 111, 114, 124, 97, 58, 98, 105, 110, 97, 114, 121, 32, 98, 58, 98, 105, 110, 97, 114, 121, 124, 124, 98, 105, 110, 97, 114, 121, 124, 48, 124, 55, 10, 112, 105, 99, 107, 124, 115, 58, 98, 105, 110, 97, 114, 121, 32, 97, 58, 84, 32, 98, 58, 84, 124, 124, 84, 124, 48, 124, 49, 10, 112, 105, 100, 124, 115, 101, 116, 58, 85, 32, 110, 111, 119, 58, 85, 32, 101, 110, 97, 98, 108, 101, 58, 98, 105, 110, 97, 114, 121, 124, 107, 112, 58, 48, 58, 49, 48, 48, 48, 48, 48, 48, 48, 48, 48, 58, 49, 48, 48, 48, 32, 116, 105, 58, 48, 58, 68, 58, 48, 32, 108, 111, 119, 58, 45, 77, 58, 77, 58, 48, 32, 104, 105, 103, 104, 58, 45, 77, 58, 77, 58, 49, 48, 48, 48, 48, 48, 32, 114, 101, 118, 101, 114, 115, 101, 58, 48, 58, 49, 58, 48, 124, 97, 110, 97, 108, 111, 103, 95, 112, 99, 116, 124, 51, 124, 49, 10, 112, 117, 108, 115, 101, 124, 97, 58, 98, 105, 110, 97, 114, 121, 124, 116, 105, 109, 101, 58, 48, 58, 68, 58, 48, 124, 98, 105, 110, 97, 114, 121, 124, 50, 124, 49, 10, 114, 97, 116, 101, 124, 97, 58, 85, 124, 117, 112, 58, 48, 58, 77, 58, 49, 48, 48, 48, 32, 100, 111, 119, 110, 58, 48, 58, 77, 58, 49, 48, 48, 48, 124, 85, 124, 50, 124, 49, 10, 115, 116, 97, 103, 101, 124, 97, 58, 85, 124, 115, 116, 97, 103, 101, 115, 58, 49, 58, 49, 53, 58, 49, 32, 117, 112, 58, 45, 77, 58, 77, 58, 48, 32, 100, 111, 119, 110, 58, 45, 77, 58, 77, 58, 48, 32, 117, 112, 100, 101, 108, 97, 121, 58, 48, 58, 68, 58, 48, 32, 100, 111, 119, 110, 100, 101, 108, 97, 121, 58, 48, 58, 68, 58, 48, 124, 109, 117, 108, 116, 105, 124, 50, 124, 49, 10, 115, 116, 101, 112, 115, 124, 103, 111, 58, 98, 105, 110, 97, 114, 121, 32, 110, 101, 120, 116, 58, 98, 105, 110, 97, 114, 121, 124, 99, 111, 117, 110, 116, 58, 49, 58, 49, 53, 58, 49, 32, 108, 101, 97, 115, 116, 58, 48, 58, 68, 58, 48, 124, 109, 117, 108, 116, 105, 124, 50, 124, 49, 10, 115, 117, 98, 124, 97, 58, 85, 32, 98, 58, 85, 124, 124, 85, 124, 48, 124, 49, 10, 120, 111, 114, 124, 97, 58, 98, 105, 110, 97, 114, 121, 32, 98, 58, 98, 105, 110, 97, 114, 121, 124, 124, 98, 105, 110, 97, 114, 121, 124, 48, 124, 49]⟩ : ByteArray)
def block_Find.l0 : Nat → ByteArray → List ByteArray → Int → Int → Option (ByteArray × (List (S61)) × (List (S64)) × (List (S64)) × Int × Int × Int)
 | 0, _, _, _, _ => none
 | k + 1, x0, x6, x7, x8 => if x8 < x7 then (if 0 ≤ x8 then (if x8 < (x6.length : Int) then (if x0.size + 1 ≤ 9223372036854775807 then ((strings_HasPrefix.f (rdOf ByteArray.empty x6 x8) (x0 ++ (⟨#[124]⟩ : ByteArray))).bind fun t163 => (if t163 = true then ((strings_Contains.f x0 (⟨#[124]⟩ : ByteArray)).bind fun t164 => (if t164 = true then (block_Find.l0 k x0 x6 x7 (wrap64 (x8 + 1))) else ((block_descriptor.f k (rdOf ByteArray.empty x6 x8)).bind fun bt165 => (some (bt165.1, bt165.2.1, bt165.2.2.1, bt165.2.2.2.1, bt165.2.2.2.2.1, bt165.2.2.2.2.2, 0))))) else (block_Find.l0 k x0 x6 x7 (wrap64 (x8 + 1))))) else (none)) else (none)) else (none)) else (some ((⟨#[]⟩ : ByteArray), ([] : List (S61)), ([] : List (S64)), ([] : List (S64)), 0, 0, 3))
def block_Find.f (k : Nat) (a0 : ByteArray) : Option (ByteArray × (List (S61)) × (List (S64)) × (List (S64)) × Int × Int × Int) := (strings_Split.f lit7243 (⟨#[10]⟩ : ByteArray)).bind fun t159 => (block_Find.l0 k a0 t159 (t159.length : Int) 0)
theorem block_Find.mono_l : ∀ k, (∀ y0 y1 y2 y3, LeO (block_Find.l0 k y0 y1 y2 y3) (block_Find.l0 (k + 1) y0 y1 y2 y3))
 | 0 => fun _ _ _ _ r h => by simp [block_Find.l0] at h
 | k + 1 => by
  have ih0 := block_Find.mono_l k
  ·
   intro y0 y1 y2 y3
   unfold block_Find.l0
   repeat' first
   | (with_reducible exact ih0 _ _ _ _)
   | (with_reducible exact block_descriptor.mono _ _)
   | (with_reducible exact LeO.refl _)
   | (with_reducible exact LeO.none _)
   | (with_reducible refine LeO.ite ?_ ?_)
   | (with_reducible refine LeO.bind ?_ (fun _ => ?_))
   | exact LeO.none _
   | refine LeO.ite ?_ ?_
   | refine LeO.bind ?_ (fun _ => ?_)
theorem block_Find.mono : ∀ a0 k, LeO (block_Find.f k a0) (block_Find.f (k + 1) a0) := by
 intro a0 k
 have ih0 := block_Find.mono_l k
 unfold block_Find.f
 repeat' first
   | (with_reducible exact ih0 _ _ _ _)
   | (with_reducible exact block_descriptor.mono _ _)
   | (with_reducible exact LeO.refl _)
   | (with_reducible exact LeO.none _)
   | (with_reducible refine LeO.ite ?_ ?_)
   | (with_reducible refine LeO.bind ?_ (fun _ => ?_))
   | exact LeO.none _
   | refine LeO.ite ?_ ?_
   | refine LeO.bind ?_ (fun _ => ?_)
set_option maxHeartbeats 8000000 in
set_option maxRecDepth 100000 in
theorem block_Find.calls (k : Nat) (a0 : ByteArray) (r1 : ByteArray) (r2 : List (S61)) (r3 : List (S64)) (r4 : List (S64)) (r5 : Int) (r6 : Int) (r7 : Int) (w : World) (hG : GW w) (h : block_Find.f k a0 = some (r1, r2, r3, r4, r5, r6, r7)) :
  Calls Tryz.prog 27 #[.string a0] w fun e w' => ∃ v1_ v2_ v3_ : Value, e = .returned (.tuple #[.agg #[.string r1, v1_, v2_, v3_, .int .i64 r5, .int .i64 r6], .int .i64 r7]) ∧ Kd.R k61 61 w' w.heap.size (fun _ => True) v1_ r2 ∧ Kd.R k64 64 w' w.heap.size (fun k_ => some k_ ≠ (v3_ : Value).ownBlock) v2_ r3 ∧ Kd.R k64 64 w' w.heap.size (fun k_ => some k_ ≠ (v2_ : Value).ownBlock) v3_ r4 ∧ Below w.heap.size w w' := by
 have hu47 := Tryz.underlying47
 have HG := am hG
 clear hG
 have HB := am (Below.refl w.heap.size w)
 have H : ((strings_Split.f lit7243 (⟨#[10]⟩ : ByteArray)).bind fun t159 => (block_Find.l0 k a0 t159 (t159.length : Int) 0)) = some (r1, r2, r3, r4, r5, r6, r7) := h
 clear h
 obtain ⟨t159, A2, H⟩ := Option.bind_eq_some_iff.mp H
 (try dsimp only at H)
 replace A2 := am A2
 have H' := am H
 clear H
 go_enter Tryz.func27, Tryz.ntmps27
 go_wp2_with (first | ((refine gate_dst (N := 2) rfl ?_); refine bx (N := 2) (cs := #[.string (⟨#[]⟩ : ByteArray), .slice none 0 0, .slice none 0 0, .slice none 0 0, .int .i64 0, .int .i64 0]) (t := 47) ?_; intro gb158 hg w3 hbox hb; have BK158 := am (hbox); have GW158 := am (gw hg (below_size bl)); have GE158 := am (gw hg (below_size bl)); replace HB := am (below_step bl hb); clear hb hbox hg) | ((refine gate_callee (f := 41) rfl ?_); refine gl (some 6) Tryz.func41 #[.string lit7243, .string (⟨#[10]⟩ : ByteArray)] ?_; (with_reducible refine (strings_Split.calls lit7243 (⟨#[10]⟩ : ByteArray) t159 _ ?side1 A2.out).mono ?_); (case side1 => exact GW.below HG.out (bs1 GE158.out)); rintro e w4 ⟨v160, rfl, ho0, hb⟩; refine ⟨_, rfl, ?_⟩; have HO161 := am (Kd.R_lower ho0 (below_size (bs1 GE158.out))); replace BK158 := am (blk_below (rb BK158.out) hb); replace HB := am (below_step (bs1 GE158.out) hb); (try clear hb); (try clear hb2); (try clear hk); (try clear hi); (try clear ho0); obtain ⟨Ao5, co5, eo5⟩ := Kd.R_slice HO161.out; subst eo5))
 go_loopg [8] k (fun kq v8 w' => ∃ (x8_1 : Int) (x159000_1 : ByteArray) (x159004_1 : Int) (x159005_1 : Int), v8 = .int .i64 x8_1 ∧ Aside0 (block_Find.l0 kq a0 t159 (t159.length : Int) x8_1 = some (r1, r2, r3, r4, r5, r6, r7)) ∧ Aside0 (kq ≤ k) ∧ Aside0 (Kd.R Kd.string 9 w' w.heap.size (fun _ => True) (.slice Ao5 t159.length co5) t159) ∧ Aside0 (w'.heap[gb158]? = some (.cells #[.string x159000_1, (.slice none 0 0), (.slice none 0 0), (.slice none 0 0), .int .i64 x159004_1, .int .i64 x159005_1] 47 (0, 0))) ∧ Aside0 (Below w.heap.size w w'))
 case atStart => exact ⟨(0), ((⟨#[]⟩ : ByteArray)), (0), (0), (by first | rfl | (simp; done) | (simp [*]; done)), H', ⟨Nat.le_refl _⟩, ⟨rr HO161.out⟩, ⟨rb BK158.out⟩, ⟨bs1 GE158.out⟩⟩
 case round =>
  clear H'
  obtain ⟨x8_1, x159000_1, x159004_1, x159005_1, rfl, HA, HK1, HO_6, BK158, HB⟩ := hrel
  cases gk with
  | zero => exact absurd HA.out (by simp [block_Find.l0])
  | succ k1 =>
   have H := HA.out
   clear HA
   simp only [block_Find.l0] at H
   by_cases c6 : x8_1 < (t159.length : Int)
   rotate_left
   ·
    rw [if_neg c6] at H
    have c6b0 := decide_eq_false c6
    clear c6
    simp only [Option.some.injEq, Prod.mk.injEq] at H
    obtain ⟨rfl, rfl, rfl, rfl, rfl, rfl, rfl⟩ := H
    obtain ⟨hcz20_0, hcz20_1, hcz20_2, hcz20_3, hcz20_4, hcz20_5, hfz20_0, hfz20_1, hfz20_2, hfz20_3, hfz20_4, hfz20_5⟩ := bz6 BK158.out
    go_wp2
    refine bodyPost_ret (results_ct rfl _ _ gb158 47 #[.string (⟨#[]⟩ : ByteArray), .slice none 0 0, .slice none 0 0, .slice none 0 0, .int .i64 0, .int .i64 0] (0, 0) _ rfl (by refine rb ?_; refine blk_put (cs := #[.string (⟨#[]⟩ : ByteArray), .slice none 0 0, .slice none 0 0, .slice none 0 0, .int .i64 0, .int .i64 x159005_1]) ?_ 5 _ rfl; refine rb ?_; refine blk_put (cs := #[.string (⟨#[]⟩ : ByteArray), .slice none 0 0, .slice none 0 0, .slice none 0 0, .int .i64 x159004_1, .int .i64 x159005_1]) ?_ 4 _ rfl; refine rb ?_; refine blk_put (cs := #[.string (⟨#[]⟩ : ByteArray), .slice none 0 0, .slice none 0 0, .slice none 0 0, .int .i64 x159004_1, .int .i64 x159005_1]) ?_ 3 _ rfl; refine rb ?_; refine blk_put (cs := #[.string (⟨#[]⟩ : ByteArray), .slice none 0 0, .slice none 0 0, .slice none 0 0, .int .i64 x159004_1, .int .i64 x159005_1]) ?_ 2 _ rfl; refine rb ?_; refine blk_put (cs := #[.string (⟨#[]⟩ : ByteArray), .slice none 0 0, .slice none 0 0, .slice none 0 0, .int .i64 x159004_1, .int .i64 x159005_1]) ?_ 1 _ rfl; refine rb ?_; refine blk_put (cs := #[.string x159000_1, .slice none 0 0, .slice none 0 0, .slice none 0 0, .int .i64 x159004_1, .int .i64 x159005_1]) ?_ 0 _ rfl; exact rb BK158.out) Tryz.underlying47 rfl (by kernel_rfl)) rfl ?_
    exact ⟨_, _, _, ew, by first | exact Kd.R_nil _ _ _ _ _ | exact Kd.N_nil _ _ _ _ _ | exact Kd.V_nil _ _ _ _ _ | exact Kd.Q_nil _ _ _ _ _ | exact Kd.S_nil _ _ _ _ _, by first | exact Kd.R_nil _ _ _ _ _ | exact Kd.N_nil _ _ _ _ _ | exact Kd.V_nil _ _ _ _ _ | exact Kd.Q_nil _ _ _ _ _ | exact Kd.S_nil _ _ _ _ _, by first | exact Kd.R_nil _ _ _ _ _ | exact Kd.N_nil _ _ _ _ _ | exact Kd.V_nil _ _ _ _ _ | exact Kd.Q_nil _ _ _ _ _ | exact Kd.S_nil _ _ _ _ _, bs1 GE158.out⟩
   rw [if_pos c6] at H
   have c6b0 := decide_eq_true c6
   clear c6
   have c7 := oi H; rw [if_pos c7] at H
   have c7b0 := decide_eq_true c7
   clear c7
   have c8 := oi H; rw [if_pos c8] at H
   have c8b0 := decide_eq_true c8
   clear c8
   have c9 := oi H; rw [if_pos c9] at H
   have c9b0 := eq_true c9
   have c9b1 := decide_eq_true c9
   try have c9b2 : (9223372036854775807 < a0.size + 1) = False := eq_false (Nat.not_lt.2 c9)
   obtain ⟨t163, A10, H⟩ := Option.bind_eq_some_iff.mp H
   (try dsimp only at H)
   replace A10 := am A10
   by_cases c11 : t163 = true
   rotate_left
   ·
    replace c11 := Bool.eq_false_iff.mpr c11
    subst c11
    rw [if_neg (show ¬ (false = true) by decide)] at H
    have H' := am H
    clear H
    have q162 := ixv (i := x8_1) (n := t159.length) ode ode; obtain ⟨ad162, e162, hx162_0⟩ := Kd.at_string (Kd.R_reads' HO_6.out).2.2 x8_1 (of_eq_true q162.1) (of_eq_true q162.2); cases e162; obtain ⟨p162, q162⟩ := q162
    go_wp2_with (first | ((refine gate_callee (f := 42) rfl ?_); refine gl (some 15) Tryz.func42 #[.string (rdOf ByteArray.empty t159 x8_1), .string (a0 ++ (⟨#[124]⟩ : ByteArray))] ?_; (with_reducible refine (strings_HasPrefix.calls (rdOf ByteArray.empty t159 x8_1) (a0 ++ (⟨#[124]⟩ : ByteArray)) false _ A10.out).mono ?_); rintro e w' ⟨rfl, ⟨nd, rfl⟩⟩; refine ⟨_, rfl, ?_⟩))
    go_roundg k1
    case measure => have := HK1.out; omega
    case rel => exact ⟨(wrap64 (x8_1 + 1)), (x159000_1), (x159004_1), (x159005_1), (by first | rfl | (simp; done) | (simp [*]; done)), H', ⟨by have := HK1.out; omega⟩, ⟨rr HO_6.out⟩, ⟨rb BK158.out⟩, ⟨bs1 GE158.out⟩⟩
   subst c11
   rw [if_pos rfl] at H
   obtain ⟨t164, A12, H⟩ := Option.bind_eq_some_iff.mp H
   (try dsimp only at H)
   replace A12 := am A12
   by_cases c13 : t164 = true
   ·
    subst c13
    rw [if_pos rfl] at H
    have H' := am H
    clear H
    have q162 := ixv (i := x8_1) (n := t159.length) ode ode; obtain ⟨ad162, e162, hx162_0⟩ := Kd.at_string (Kd.R_reads' HO_6.out).2.2 x8_1 (of_eq_true q162.1) (of_eq_true q162.2); cases e162; obtain ⟨p162, q162⟩ := q162
    go_wp2_with (first | ((refine gate_callee (f := 42) rfl ?_); refine gl (some 15) Tryz.func42 #[.string (rdOf ByteArray.empty t159 x8_1), .string (a0 ++ (⟨#[124]⟩ : ByteArray))] ?_; (with_reducible refine (strings_HasPrefix.calls (rdOf ByteArray.empty t159 x8_1) (a0 ++ (⟨#[124]⟩ : ByteArray)) true _ A10.out).mono ?_); rintro e w' ⟨rfl, ⟨nd, rfl⟩⟩; refine ⟨_, rfl, ?_⟩) | (go_at_call 43; (with_reducible refine (strings_Contains.calls a0 (⟨#[124]⟩ : ByteArray) true _ A12.out).mono ?_); rintro e w' ⟨rfl, ⟨nd, rfl⟩⟩))
    go_roundg k1
    case measure => have := HK1.out; omega
    case rel => exact ⟨(wrap64 (x8_1 + 1)), (x159000_1), (x159004_1), (x159005_1), (by first | rfl | (simp; done) | (simp [*]; done)), H', ⟨by have := HK1.out; omega⟩, ⟨rr HO_6.out⟩, ⟨rb BK158.out⟩, ⟨bs1 GE158.out⟩⟩
   replace c13 := Bool.eq_false_iff.mpr c13
   subst c13
   rw [if_neg (show ¬ (false = true) by decide)] at H
   obtain ⟨⟨t165, t166, t169, t172, t175, t176⟩, A14, H⟩ := Option.bind_eq_some_iff.mp H
   (try dsimp only at H)
   replace A14 := am A14
   simp only [Option.some.injEq, Prod.mk.injEq] at H
   obtain ⟨rfl, rfl, rfl, rfl, rfl, rfl, rfl⟩ := H
   have q162 := ixv (i := x8_1) (n := t159.length) ode ode; obtain ⟨ad162, e162, hx162_0⟩ := Kd.at_string (Kd.R_reads' HO_6.out).2.2 x8_1 (of_eq_true q162.1) (of_eq_true q162.2); cases e162; obtain ⟨p162, q162⟩ := q162
   go_wp2_with (first | ((refine gate_callee (f := 42) rfl ?_); refine gl (some 15) Tryz.func42 #[.string (rdOf ByteArray.empty t159 x8_1), .string (a0 ++ (⟨#[124]⟩ : ByteArray))] ?_; (with_reducible refine (strings_HasPrefix.calls (rdOf ByteArray.empty t159 x8_1) (a0 ++ (⟨#[124]⟩ : ByteArray)) true _ A10.out).mono ?_); rintro e w' ⟨rfl, ⟨nd, rfl⟩⟩; refine ⟨_, rfl, ?_⟩; (try (rw [drewN_self wr]; generalize hq_ : World.drewN wr _ = wr; have n0_ : Aside0 (Kd.R Kd.string 9 wr w.heap.size (fun _ => True) (.slice (some ad162) t159.length co5) t159) := ⟨by rw [← hq_]; exact (rr HO_6.out)⟩; have n1_ : Aside0 (wr.heap[gb158]? = some (.cells #[.string x159000_1, .slice none 0 0, .slice none 0 0, .slice none 0 0, .int .i64 x159004_1, .int .i64 x159005_1] 47 (0, 0))) := ⟨by rw [← hq_]; exact (rb BK158.out)⟩; have n2_ : Aside0 (Below w.heap.size w wr) := ⟨by rw [← hq_]; exact (bs1 GE158.out)⟩; clear HO_6 BK158 HB hq_; have HO_6 := n0_; have BK158 := n1_; have HB := n2_; clear n0_ n1_ n2_))) | (go_at_call 43; (with_reducible refine (strings_Contains.calls a0 (⟨#[124]⟩ : ByteArray) false _ A12.out).mono ?_); rintro e w' ⟨rfl, ⟨nd, rfl⟩⟩; (try (rw [drewN_self wr]; generalize hq_ : World.drewN wr _ = wr; have n0_ : Aside0 (Kd.R Kd.string 9 wr w.heap.size (fun _ => True) (.slice (some ad162) t159.length co5) t159) := ⟨by rw [← hq_]; exact (rr HO_6.out)⟩; have n1_ : Aside0 (wr.heap[gb158]? = some (.cells #[.string x159000_1, .slice none 0 0, .slice none 0 0, .slice none 0 0, .int .i64 x159004_1, .int .i64 x159005_1] 47 (0, 0))) := ⟨by rw [← hq_]; exact (rb BK158.out)⟩; have n2_ : Aside0 (Below w.heap.size w wr) := ⟨by rw [← hq_]; exact (bs1 GE158.out)⟩; clear HO_6 BK158 HB hq_; have HO_6 := n0_; have BK158 := n1_; have HB := n2_; clear n0_ n1_ n2_))) | ((refine gate_callee (f := 44) rfl ?_); refine gl (some 22) Tryz.func44 #[.string (rdOf ByteArray.empty t159 x8_1)] ?_; (with_reducible refine (block_descriptor.calls k1 (rdOf ByteArray.empty t159 x8_1) t165 t166 t169 t172 t175 t176 _ ?side1 A14.out).mono ?_); (case side1 => exact GW.below HG.out (bs1 GE158.out)); rintro e w15 ⟨v167, v170, v173, rfl, ho0, ho1, ho2, hb⟩; refine ⟨_, rfl, ?_⟩; replace HO_6 := am (Kd.R_below (rr HO_6.out) hb); have HO168 := am (Kd.R_lower ho0 (below_size (bs1 GE158.out))); have HO171 := am (Kd.R_lower ho1 (below_size (bs1 GE158.out))); have HO174 := am (Kd.R_lower ho2 (below_size (bs1 GE158.out))); replace BK158 := am (blk_below (rb BK158.out) hb); replace HB := am (below_step (bs1 GE158.out) hb); (try clear hb); (try clear hb2); (try clear hk); (try clear hi); (try clear ho0); (try clear ho1); (try clear ho2); obtain ⟨hcz16_0, hcz16_1, hcz16_2, hcz16_3, hcz16_4, hcz16_5, hfz16_0, hfz16_1, hfz16_2, hfz16_3, hfz16_4, hfz16_5⟩ := bz6 BK158.out; obtain ⟨Ao17, co17, eo17⟩ := Kd.R_slice HO168.out; subst eo17; obtain ⟨Ao18, co18, eo18⟩ := Kd.R_slice HO171.out; subst eo18; obtain ⟨Ao19, co19, eo19⟩ := Kd.R_slice HO174.out; subst eo19))
   refine bodyPost_ret (results_ct rfl _ _ gb158 47 #[.string t165, .slice Ao17 t166.length co17, .slice Ao18 t169.length co18, .slice Ao19 t172.length co19, .int .i64 t175, .int .i64 t176] (0, 0) _ rfl (by refine rb ?_; refine blk_put (cs := #[.string t165, .slice Ao17 t166.length co17, .slice Ao18 t169.length co18, .slice Ao19 t172.length co19, .int .i64 t175, .int .i64 x159005_1]) ?_ 5 _ rfl; refine rb ?_; refine blk_put (cs := #[.string t165, .slice Ao17 t166.length co17, .slice Ao18 t169.length co18, .slice Ao19 t172.length co19, .int .i64 x159004_1, .int .i64 x159005_1]) ?_ 4 _ rfl; refine rb ?_; refine blk_put (cs := #[.string t165, .slice Ao17 t166.length co17, .slice Ao18 t169.length co18, .slice none 0 0, .int .i64 x159004_1, .int .i64 x159005_1]) ?_ 3 _ rfl; refine rb ?_; refine blk_put (cs := #[.string t165, .slice Ao17 t166.length co17, .slice none 0 0, .slice none 0 0, .int .i64 x159004_1, .int .i64 x159005_1]) ?_ 2 _ rfl; refine rb ?_; refine blk_put (cs := #[.string t165, .slice none 0 0, .slice none 0 0, .slice none 0 0, .int .i64 x159004_1, .int .i64 x159005_1]) ?_ 1 _ rfl; refine rb ?_; refine blk_put (cs := #[.string x159000_1, .slice none 0 0, .slice none 0 0, .slice none 0 0, .int .i64 x159004_1, .int .i64 x159005_1]) ?_ 0 _ rfl; exact rb BK158.out) Tryz.underlying47 rfl (by kernel_rfl)) rfl ?_
   exact ⟨_, _, _, ew, rr (Kd.R_mono (Kd.R_far (p := ⟨gb158, 5, none⟩) (Kd.R_far (p := ⟨gb158, 4, none⟩) (Kd.R_far (p := ⟨gb158, 3, none⟩) (Kd.R_far (p := ⟨gb158, 2, none⟩) (Kd.R_far (p := ⟨gb158, 1, none⟩) (Kd.R_far (p := ⟨gb158, 0, none⟩) (Kd.R_types HO168.out BK158.out (by decide)) (fun _ hk => hk.2) (.string t165)) (fun _ hk => hk.2) (.slice Ao17 t166.length co17)) (fun _ hk => hk.2) (.slice Ao18 t169.length co18)) (fun _ hk => hk.2) (.slice Ao19 t172.length co19)) (fun _ hk => hk.2) (.int .i64 t175)) (fun _ hk => hk.2) (.int .i64 t176)) (fun _ hk => trivial)), rr (Kd.R_mono (Kd.R_far (p := ⟨gb158, 5, none⟩) (Kd.R_far (p := ⟨gb158, 4, none⟩) (Kd.R_far (p := ⟨gb158, 3, none⟩) (Kd.R_far (p := ⟨gb158, 2, none⟩) (Kd.R_far (p := ⟨gb158, 1, none⟩) (Kd.R_far (p := ⟨gb158, 0, none⟩) (Kd.R_types HO171.out BK158.out (by decide)) (fun _ hk => hk.2) (.string t165)) (fun _ hk => hk.2) (.slice Ao17 t166.length co17)) (fun _ hk => hk.2) (.slice Ao18 t169.length co18)) (fun _ hk => hk.2) (.slice Ao19 t172.length co19)) (fun _ hk => hk.2) (.int .i64 t175)) (fun _ hk => hk.2) (.int .i64 t176)) (fun _ hk => hk.1)), rr (Kd.R_mono (Kd.R_far (p := ⟨gb158, 5, none⟩) (Kd.R_far (p := ⟨gb158, 4, none⟩) (Kd.R_far (p := ⟨gb158, 3, none⟩) (Kd.R_far (p := ⟨gb158, 2, none⟩) (Kd.R_far (p := ⟨gb158, 1, none⟩) (Kd.R_far (p := ⟨gb158, 0, none⟩) (Kd.R_types HO174.out BK158.out (by decide)) (fun _ hk => hk.2) (.string t165)) (fun _ hk => hk.2) (.slice Ao17 t166.length co17)) (fun _ hk => hk.2) (.slice Ao18 t169.length co18)) (fun _ hk => hk.2) (.slice Ao19 t172.length co19)) (fun _ hk => hk.2) (.int .i64 t175)) (fun _ hk => hk.2) (.int .i64 t176)) (fun _ hk => hk.1)), bs1 GE158.out⟩
end Go.Proofs.YtjjbdgngncgikaaGreatDoor.R
