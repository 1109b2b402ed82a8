import Derived.Test.YtjjbdgngncgikaaGreatDoorRx0
import Derived.Test.YtjjbdgngncgikaaGreatDoorRx3
namespace Go.Proofs.YtjjbdgngncgikaaGreatDoor.R
open Go.RowKit Go.Proofs.YtjjbdgngncgikaaGreatDoorW.PrintWords Go.Proofs.YtjjbdgngncgikaaGreatDoorW.PrintLast Go.Proofs.YtjjbdgngncgikaaGreatDoorW.PrintMore
attribute [local go_sem] max2_int min2_int max_two min_two max_three min_three max_four min_four
set_option linter.unusedVariables false
set_option linter.unusedSimpArgs false

mutual
def block_descriptor.l0 : Nat → List ByteArray → List ByteArray → Int → Int → ByteArray → List (S64) → List (S64) → Int → Int → Option (ByteArray × (List (S61)) × (List (S64)) × (List (S64)) × Int × Int)
 | 0, _, _, _, _, _, _, _, _, _ => none
 | k + 1, x3, x33, x34, x35, x130000, x130002, x130003, x130004, x130005 => if x35 < x34 then (if 0 ≤ x35 then (if x35 < (x33.length : Int) then ((block_port.f (rdOf ByteArray.empty x33 x35)).bind fun bt135 => (if x130002.length < 4398046511104 then (block_descriptor.l0 k x3 x33 x34 (wrap64 (x35 + 1)) x130000 (x130002 ++ [(⟨bt135.1, bt135.2⟩ : S64)]) x130003 x130004 x130005) else (none))) else (none)) else (none)) else (if 2 < (x3.length : Int) then ((strings_Fields.f (rdOf ByteArray.empty x3 2)).bind fun t141 => (block_descriptor.l1 k t141 (t141.length : Int) 0 x130000 ([] : List (S61)) x130002 x130003 x130004 x130005)) else (none))
def block_descriptor.l1 : Nat → List ByteArray → Int → Int → ByteArray → List (S61) → List (S64) → List (S64) → Int → Int → Option (ByteArray × (List (S61)) × (List (S64)) × (List (S64)) × Int × Int)
 | 0, _, _, _, _, _, _, _, _, _ => none
 | k + 1, x50, x51, x52, x130000, x130001, x130002, x130003, x130004, x130005 => if x52 < x51 then (if 0 ≤ x52 then (if x52 < (x50.length : Int) then ((strings_Split.f (rdOf ByteArray.empty x50 x52) (⟨#[58]⟩ : ByteArray)).bind fun t145 => (if 0 < (t145.length : Int) then (if 1 < (t145.length : Int) then ((block_number.f (rdOf ByteArray.empty t145 1)).bind fun t150 => (if 2 < (t145.length : Int) then ((block_number.f (rdOf ByteArray.empty t145 2)).bind fun t152 => (if 3 < (t145.length : Int) then ((block_number.f (rdOf ByteArray.empty t145 3)).bind fun t154 => (if x130001.length < 3518437208883 then (block_descriptor.l1 k x50 x51 (wrap64 (x52 + 1)) x130000 (x130001 ++ [(⟨rdOf ByteArray.empty t145 0, t150, t152, t154⟩ : S61)]) x130002 x130003 x130004 x130005) else (none))) else (none))) else (none))) else (none)) else (none))) else (none)) else (none)) else (some (x130000, x130001, x130002, x130003, x130004, x130005))
end
def block_descriptor.f (k : Nat) (a0 : ByteArray) : Option (ByteArray × (List (S61)) × (List (S64)) × (List (S64)) × Int × Int) := (strings_Split.f a0 (⟨#[124]⟩ : ByteArray)).bind fun t115 => (if 0 < (t115.length : Int) then (if 3 < (t115.length : Int) then (if 4 + (rdOf ByteArray.empty t115 3).size ≤ 9223372036854775807 then ((block_port.f ((⟨#[111, 117, 116, 58]⟩ : ByteArray) ++ (rdOf ByteArray.empty t115 3))).bind fun bt120 => (if 4 < (t115.length : Int) then ((block_number.f (rdOf ByteArray.empty t115 4)).bind fun t126 => (if 5 < (t115.length : Int) then ((block_number.f (rdOf ByteArray.empty t115 5)).bind fun t128 => (if 1 < (t115.length : Int) then ((strings_Fields.f (rdOf ByteArray.empty t115 1)).bind fun t131 => (block_descriptor.l0 k t115 t131 (t131.length : Int) 0 (rdOf ByteArray.empty t115 0) ([] : List (S64)) (([(⟨bt120.1, bt120.2⟩ : S64)] : List (S64))) t126 t128)) else (none))) else (none))) else (none))) else (none)) else (none)) else (none))
theorem block_descriptor.mono_l : ∀ k, (∀ y0 y1 y2 y3 y4 y5 y6 y7 y8, LeO (block_descriptor.l0 k y0 y1 y2 y3 y4 y5 y6 y7 y8) (block_descriptor.l0 (k + 1) y0 y1 y2 y3 y4 y5 y6 y7 y8)) ∧ (∀ y0 y1 y2 y3 y4 y5 y6 y7 y8, LeO (block_descriptor.l1 k y0 y1 y2 y3 y4 y5 y6 y7 y8) (block_descriptor.l1 (k + 1) y0 y1 y2 y3 y4 y5 y6 y7 y8))
 | 0 => ⟨fun _ _ _ _ _ _ _ _ _ r h => by simp [block_descriptor.l0] at h, fun _ _ _ _ _ _ _ _ _ r h => by simp [block_descriptor.l1] at h⟩
 | k + 1 => by
  obtain ⟨ih0, ih1⟩ := block_descriptor.mono_l k
  refine ⟨?_, ?_⟩
  ·
   intro y0 y1 y2 y3 y4 y5 y6 y7 y8
   unfold block_descriptor.l0
   repeat' first
   | (with_reducible exact ih0 _ _ _ _ _ _ _ _ _)
   | (with_reducible exact ih1 _ _ _ _ _ _ _ _ _)
   | (with_reducible exact LeO.refl _)
   | (with_reducible exact LeO.none _)
   | (with_reducible refine LeO.ite ?_ ?_)
   | (with_reducible refine LeO.bind ?_ (fun _ => ?_))
   | exact LeO.none _
   | refine LeO.ite ?_ ?_
   | refine LeO.bind ?_ (fun _ => ?_)
  ·
   intro y0 y1 y2 y3 y4 y5 y6 y7 y8
   unfold block_descriptor.l1
   repeat' first
   | (with_reducible exact ih0 _ _ _ _ _ _ _ _ _)
   | (with_reducible exact ih1 _ _ _ _ _ _ _ _ _)
   | (with_reducible exact LeO.refl _)
   | (with_reducible exact LeO.none _)
   | (with_reducible refine LeO.ite ?_ ?_)
   | (with_reducible refine LeO.bind ?_ (fun _ => ?_))
   | exact LeO.none _
   | refine LeO.ite ?_ ?_
   | refine LeO.bind ?_ (fun _ => ?_)
theorem block_descriptor.mono : ∀ a0 k, LeO (block_descriptor.f k a0) (block_descriptor.f (k + 1) a0) := by
 intro a0 k
 obtain ⟨ih0, ih1⟩ := block_descriptor.mono_l k
 unfold block_descriptor.f
 repeat' first
   | (with_reducible exact ih0 _ _ _ _ _ _ _ _ _)
   | (with_reducible exact ih1 _ _ _ _ _ _ _ _ _)
   | (with_reducible exact LeO.refl _)
   | (with_reducible exact LeO.none _)
   | (with_reducible refine LeO.ite ?_ ?_)
   | (with_reducible refine LeO.bind ?_ (fun _ => ?_))
   | exact LeO.none _
   | refine LeO.ite ?_ ?_
   | refine LeO.bind ?_ (fun _ => ?_)
def block_descriptor.T2 : Bool × List (List Nat × List Nat) := (true, [([], []), ([0], [0]), ([1], [1]), ([], []), ([3], [3]), ([4], [4]), ([5], [5]), ([6], [6]), ([7], [7]), ([], []), ([9], [9]), ([10], [10]), ([11, 7], [11]), ([], []), ([13], [13]), ([14], [14]), ([15, 12], [15]), ([2, 8, 12, 16], [2, 8, 12, 16]), ([], []), ([18, 17, 16, 0, 1, 2, 3, 4, 5, 6, 7, 8, 9, 10, 11, 12, 13, 14, 15, 16, 17, 18], [17, 18])])
def block_descriptor.B2 : List Nat := [0, 1, 3, 0, 8, 24, 56, 120, 248, 0, 512, 1536, 3832, 0, 8192, 24576, 65272, 131071, 0, 524287]
theorem block_descriptor.tab2 : rtab .any (opsOf Tryz.f44 2) = block_descriptor.T2 := by kernel_rfl
theorem block_descriptor.bits2 : waitsOk block_descriptor.T2.2 block_descriptor.B2 = true := by kernel_rfl
def block_descriptor.T6 : Bool × List (List Nat × List Nat) := (true, [([], []), ([0], [0]), ([], []), ([2], [2]), ([3], [3]), ([1, 4, 3], [1, 4]), ([0, 1, 2, 3, 4, 5], []), ([6, 5, 5, 0, 1, 2, 3, 4, 5], [5, 6])])
def block_descriptor.B6 : List Nat := [0, 1, 0, 4, 12, 31, 63, 127]
theorem block_descriptor.tab6 : rtab .any (opsOf Tryz.f44 6) = block_descriptor.T6 := by kernel_rfl
theorem block_descriptor.bits6 : waitsOk block_descriptor.T6.2 block_descriptor.B6 = true := by kernel_rfl
def block_descriptor.T12 : Bool × List (List Nat × List Nat) := (true, [([], []), ([0], [0]), ([], []), ([2], [2]), ([3], [3]), ([], []), ([5], [5]), ([6], [6]), ([7], [7]), ([], []), ([9], [9]), ([10], [10]), ([11, 8], [11]), ([], []), ([13], [13]), ([14], [14]), ([15, 12], [15]), ([4, 8, 12, 16], [4, 8, 12, 16]), ([17], [17]), ([1, 18, 16], [1, 18]), ([0, 1, 2, 3, 4, 5, 6, 7, 8, 9, 10, 11, 12, 13, 14, 15, 16, 17, 18, 19], []), ([20, 19, 19, 0, 1, 2, 3, 4, 5, 6, 7, 8, 9, 10, 11, 12, 13, 14, 15, 16, 17, 18, 19], [19, 20])])
def block_descriptor.B12 : List Nat := [0, 1, 0, 4, 12, 0, 32, 96, 224, 0, 512, 1536, 4064, 0, 8192, 24576, 65504, 131068, 262140, 524287, 1048575, 2097151]
theorem block_descriptor.tab12 : rtab .any (opsOf Tryz.f44 12) = block_descriptor.T12 := by kernel_rfl
theorem block_descriptor.bits12 : waitsOk block_descriptor.T12.2 block_descriptor.B12 = true := by kernel_rfl
set_option maxHeartbeats 8000000 in
set_option maxRecDepth 100000 in
theorem block_descriptor.calls (k : Nat) (a0 : ByteArray) (r1 : ByteArray) (r2 : List (S61)) (r3 : List (S64)) (r4 : List (S64)) (r5 : Int) (r6 : Int) (w : World) (hG : GW w) (h : block_descriptor.f k a0 = some (r1, r2, r3, r4, r5, r6)) :
  Calls Tryz.prog 44 #[.string a0] w fun e w' => ∃ v1_ v2_ v3_ : Value, e = .returned (.agg #[.string r1, v1_, v2_, v3_, .int .i64 r5, .int .i64 r6]) ∧ Kd.R k61 61 w' w.heap.size (fun _ => True) v1_ r2 ∧ Kd.R k64 64 w' w.heap.size (fun k_ => some k_ ≠ (v3_ : Value).ownBlock) v2_ r3 ∧ Kd.R k64 64 w' w.heap.size (fun k_ => some k_ ≠ (v2_ : Value).ownBlock) v3_ r4 ∧ Below w.heap.size w w' := by
 have hu47 := Tryz.underlying47
 have hu61 := Tryz.underlying61
 have HG := am hG
 clear hG
 have HB := am (Below.refl w.heap.size w)
 have H : ((strings_Split.f a0 (⟨#[124]⟩ : ByteArray)).bind fun t115 => (if 0 < (t115.length : Int) then (if 3 < (t115.length : Int) then (if 4 + (rdOf ByteArray.empty t115 3).size ≤ 9223372036854775807 then ((block_port.f ((⟨#[111, 117, 116, 58]⟩ : ByteArray) ++ (rdOf ByteArray.empty t115 3))).bind fun bt120 => (if 4 < (t115.length : Int) then ((block_number.f (rdOf ByteArray.empty t115 4)).bind fun t126 => (if 5 < (t115.length : Int) then ((block_number.f (rdOf ByteArray.empty t115 5)).bind fun t128 => (if 1 < (t115.length : Int) then ((strings_Fields.f (rdOf ByteArray.empty t115 1)).bind fun t131 => (block_descriptor.l0 k t115 t131 (t131.length : Int) 0 (rdOf ByteArray.empty t115 0) ([] : List (S64)) (([(⟨bt120.1, bt120.2⟩ : S64)] : List (S64))) t126 t128)) else (none))) else (none))) else (none))) else (none)) else (none)) else (none))) = some (r1, r2, r3, r4, r5, r6) := h
 clear h
 obtain ⟨t115, A2, H⟩ := Option.bind_eq_some_iff.mp H
 (try dsimp only at H)
 replace A2 := am A2
 have c3 := oi H; rw [if_pos c3] at H
 have c3b0 := decide_eq_true c3
 have c3b1 : decide (0 < t115.length) = true := decide_eq_true (by omega)
 clear c3
 have c4 := oi H; rw [if_pos c4] at H
 have c4b0 := decide_eq_true c4
 have c4b1 : decide (3 < t115.length) = true := decide_eq_true (by omega)
 clear c4
 have c5 := oi H; rw [if_pos c5] at H
 have c5b0 := eq_true c5
 have c5b1 := decide_eq_true c5
 try have c5b2 : (9223372036854775807 < 4 + (rdOf ByteArray.empty t115 3).size) = False := eq_false (Nat.not_lt.2 c5)
 obtain ⟨⟨t120, t121⟩, A6, H⟩ := Option.bind_eq_some_iff.mp H
 (try dsimp only at H)
 replace A6 := am A6
 obtain ⟨y122, hy122⟩ : ∃ y_ : List (S64), y_ = (([(⟨t120, t121⟩ : S64)] : List (S64))) := ⟨_, rfl⟩
 (try rw [← hy122] at H); (try rw [Option.bind_some] at H); (try dsimp only at H)
 have Ny122 := am hy122
 clear hy122
 have c7 := oi H; rw [if_pos c7] at H
 have c7b0 := decide_eq_true c7
 have c7b1 : decide (4 < t115.length) = true := decide_eq_true (by omega)
 clear c7
 obtain ⟨t126, A8, H⟩ := Option.bind_eq_some_iff.mp H
 (try dsimp only at H)
 replace A8 := am A8
 have c9 := oi H; rw [if_pos c9] at H
 have c9b0 := decide_eq_true c9
 have c9b1 : decide (5 < t115.length) = true := decide_eq_true (by omega)
 clear c9
 obtain ⟨t128, A10, H⟩ := Option.bind_eq_some_iff.mp H
 (try dsimp only at H)
 replace A10 := am A10
 have c11 := oi H; rw [if_pos c11] at H
 have c11b0 := decide_eq_true c11
 have c11b1 : decide (1 < t115.length) = true := decide_eq_true (by omega)
 clear c11
 obtain ⟨t131, A12, H⟩ := Option.bind_eq_some_iff.mp H
 (try dsimp only at H)
 replace A12 := am A12
 have H' := am H
 clear H
 go_enter Tryz.func44, Tryz.ntmps44
 try go_wp2_with (first | ((refine gate_dst (N := 2) rfl ?_); refine bx (N := 2) (cs := #[.string (⟨#[]⟩ : ByteArray), .slice none 0 0, .slice none 0 0, .slice none 0 0, .int .i64 0, .int .i64 0]) (t := 47) ?_; intro gb114 hg w13 hbox hb; have BK114 := am (hbox); have GW114 := am (gw hg (below_size bl)); have GE114 := am (gw hg (below_size bl)); replace HB := am (below_step bl hb); clear hb hbox hg) | ((refine gate_callee (f := 41) rfl ?_); refine goesL_ (some 11) rfl rfl Tryz.func41 (by kernel_rfl) rfl #[.string a0, .string (⟨#[124]⟩ : ByteArray)] rfl aeq ?_; (with_reducible refine (strings_Split.calls a0 (⟨#[124]⟩ : ByteArray) t115 _ ?side1 A2.out).mono ?_); (case side1 => exact GW.below HG.out (bs1 GE114.out)); rintro e w14 ⟨v116, rfl, ho0, hb⟩; refine ⟨_, rfl, ?_⟩; have HO117 := am (Kd.R_lower ho0 (below_size (bs1 GE114.out))); replace BK114 := am (blk_below (rb BK114.out) hb); replace HB := am (below_step (bs1 GE114.out) hb); (try clear hb); (try clear hb2); (try clear hk); (try clear hi); (try clear ho0)))
 have n0_ := am (Kd.R_drew HO117.out)
 have n1_ := am (blk_drew BK114.out)
 have n2_ := am (below_drew1 HB.out)
 revert n0_ n1_ n2_; clear HO117 BK114 HB; intro HO117 BK114 HB
 obtain ⟨Ao16, co16, eo16⟩ := Kd.R_slice HO117.out
 (first | subst eo16 | (injection eo16 with f1_ f2_ f3_; have f4_ := f1_.symm; have f5_ := f3_.symm; clear f1_ f2_ f3_; subst f4_; subst f5_))
 have q118 := ix0 (n := t115.length) ode; obtain ⟨ad118, e118, hx118_0⟩ := Kd.at_string (Kd.R_reads' HO117.out).2.2 0 (by omega) (of_eq_true q118.2.2); cases e118; (try rw [t0] at hx118_0); (try rw [Addr.add_zero'] at hx118_0); obtain ⟨qi118, p118, q118⟩ := q118; have p119 : 0 ≤ (3 : Int) := (by omega); have q119 : 3 < (t115.length : Int) := ode; obtain ⟨ad119, e119, hx119_0⟩ := Kd.at_string (Kd.R_reads' HO117.out).2.2 3 p119 q119
 obtain rfl : ad118 = ad119 := (by injection e119)
 (try simp only [t3, Nat.reduceMul, Nat.reduceEqDiff, Go.Addr.add, ↓reduceIte] at hx119_0)
 have qi119 : (3 < t115.length) = True := eq_true (by omega); (try rw [t3] at hx119_0); replace p119 := eq_true p119; replace q119 := eq_true q119; have p125 : 0 ≤ (4 : Int) := (by omega); have q125 : 4 < (t115.length : Int) := ode; obtain ⟨ad125, e125, hx125_0⟩ := Kd.at_string (Kd.R_reads' HO117.out).2.2 4 p125 q125
 obtain rfl : ad118 = ad125 := (by injection e125)
 (try simp only [t4, Nat.reduceMul, Nat.reduceEqDiff, Go.Addr.add, ↓reduceIte] at hx125_0)
 have qi125 : (4 < t115.length) = True := eq_true (by omega); (try rw [t4] at hx125_0); replace p125 := eq_true p125; replace q125 := eq_true q125; have p127 : 0 ≤ (5 : Int) := (by omega); have q127 : 5 < (t115.length : Int) := ode; obtain ⟨ad127, e127, hx127_0⟩ := Kd.at_string (Kd.R_reads' HO117.out).2.2 5 p127 q127
 obtain rfl : ad118 = ad127 := (by injection e127)
 (try simp only [t5, Nat.reduceMul, Nat.reduceEqDiff, Go.Addr.add, ↓reduceIte] at hx127_0)
 have qi127 : (5 < t115.length) = True := eq_true (by omega); (try rw [t5] at hx127_0); replace p127 := eq_true p127; replace q127 := eq_true q127
 refine start_ (n := 20) (S := fun w' => w'.cell? ad118 = some (.string (rdOf ByteArray.empty t115 0)) ∧ w'.cell? ⟨ad118.block, ad118.off + 3, none⟩ = some (.string (rdOf ByteArray.empty t115 3)) ∧ w'.cell? ⟨ad118.block, ad118.off + 4, none⟩ = some (.string (rdOf ByteArray.empty t115 4)) ∧ w'.cell? ⟨ad118.block, ad118.off + 5, none⟩ = some (.string (rdOf ByteArray.empty t115 5))) (ds := []) #[F, F, F, F, F, F, F, F, F, F, F, F, F, F, F, F, F, F, F, F] (by kernel_rfl) rfl rfl ⟨hx118_0, hx119_0, hx125_0, hx127_0⟩ (fun hHeld => ?_); refine with_tabW block_descriptor.tab2 block_descriptor.bits2 (fun HT_ HW_ => ?_)
 generalize w14.drew = w15 at HO117 BK114 HB hx118_0 hx119_0 hx125_0 hx127_0 hHeld ⊢
 refine pure_ (i := 0) (N := some 12) (v := ?_) (a' := ?_) #[T, F, F, F, F, F, F, F, F, F, F, F, F, F, F, F, F, F, F, F] rfl rfl (any_of HT_.out (by kernel_rfl)) (fun _ _ _ h => h) (Or.inl ⟨by rfl, ?_⟩) ?_ ?_
 rotate_left
 ·
  intro w'
  go_simp
  with_reducible rfl
 rotate_left
 ·
  simp only [ap, sa, sb, sc, i64_w, i32_w]
  rfl
 refine pure_ (i := 1) (N := some 13) (v := ?_) (a' := ?_) #[T, T, F, F, F, F, F, F, F, F, F, F, F, F, F, F, F, F, F, F] rfl rfl (any_of HT_.out (by kernel_rfl)) (fun _ _ _ h => h) (Or.inl ⟨by rfl, ?_⟩) ?_ ?_
 rotate_left
 ·
  intro w'
  go_simp
  with_reducible rfl
 rotate_left
 ·
  simp only [ap, sa, sb, sc, i64_w, i32_w]
  rfl
 refine pure_ (i := 3) (N := some 15) (v := ?_) (a' := ?_) #[T, T, F, T, F, F, F, F, F, F, F, F, F, F, F, F, F, F, F, F] rfl rfl (any_of HT_.out (by kernel_rfl)) (fun _ _ _ h => h) (Or.inl ⟨by rfl, ?_⟩) ?_ ?_
 rotate_left
 ·
  intro w'
  go_simp
  with_reducible rfl
 rotate_left
 ·
  simp only [ap, sa, sb, sc, i64_w, i32_w]
  rfl
 refine pure_ (i := 4) (N := some 16) (v := ?_) (a' := ?_) #[T, T, F, T, T, F, F, F, F, F, F, F, F, F, F, F, F, F, F, F] rfl rfl (any_of HT_.out (by kernel_rfl)) (fun _ _ _ h => h) (Or.inl ⟨by rfl, ?_⟩) ?_ ?_
 rotate_left
 ·
  intro w'
  go_simp
  with_reducible rfl
 rotate_left
 ·
  simp only [ap, sa, sb, sc, i64_w, i32_w]
  rfl
 refine pure_ (i := 9) (N := some 21) (v := ?_) (a' := ?_) #[T, T, F, T, T, F, F, F, F, T, F, F, F, F, F, F, F, F, F, F] rfl rfl (any_of HT_.out (by kernel_rfl)) (fun _ _ _ h => h) (Or.inl ⟨by rfl, ?_⟩) ?_ ?_
 rotate_left
 ·
  intro w'
  go_simp
  with_reducible rfl
 rotate_left
 ·
  simp only [ap, sa, sb, sc, i64_w, i32_w]
  rfl
 refine pure_ (i := 10) (N := some 22) (v := ?_) (a' := ?_) #[T, T, F, T, T, F, F, F, F, T, T, F, F, F, F, F, F, F, F, F] rfl rfl (any_of HT_.out (by kernel_rfl)) (fun _ _ _ h => h) (Or.inl ⟨by rfl, ?_⟩) ?_ ?_
 rotate_left
 ·
  intro w'
  go_simp
  with_reducible rfl
 rotate_left
 ·
  simp only [ap, sa, sb, sc, i64_w, i32_w]
  rfl
 refine pure_ (i := 13) (N := some 25) (v := ?_) (a' := ?_) #[T, T, F, T, T, F, F, F, F, T, T, F, F, T, F, F, F, F, F, F] rfl rfl (any_of HT_.out (by kernel_rfl)) (fun _ _ _ h => h) (Or.inl ⟨by rfl, ?_⟩) ?_ ?_
 rotate_left
 ·
  intro w'
  go_simp
  with_reducible rfl
 rotate_left
 ·
  simp only [ap, sa, sb, sc, i64_w, i32_w]
  rfl
 refine pure_ (i := 14) (N := some 26) (v := ?_) (a' := ?_) #[T, T, F, T, T, F, F, F, F, T, T, F, F, T, T, F, F, F, F, F] rfl rfl (any_of HT_.out (by kernel_rfl)) (fun _ _ _ h => h) (Or.inl ⟨by rfl, ?_⟩) ?_ ?_
 rotate_left
 ·
  intro w'
  go_simp
  with_reducible rfl
 rotate_left
 ·
  simp only [ap, sa, sb, sc, i64_w, i32_w]
  rfl
 refine take_ (i := 2) (N := some 14) (v := ?_) (a' := ?_) #[T, T, T, T, T, F, F, F, F, T, T, F, F, T, T, F, F, F, F, F] rfl rfl (take_ofW HT_.out HW_.out (by kernel_rfl)) (fun _ _ _ h => h) (Or.inl ⟨by rfl, ?_⟩) hHeld ?_ ?_
 rotate_left
 ·
  rintro w' ⟨s0, s1, s2, s3⟩
  go_simp
  with_reducible rfl
 rotate_left
 ·
  simp only [ap, sa, sb, sc, i64_w, i32_w]
  rfl
 refine take_ (i := 5) (N := some 17) (v := ?_) (a' := ?_) #[T, T, T, T, T, T, F, F, F, T, T, F, F, T, T, F, F, F, F, F] rfl rfl (take_ofW HT_.out HW_.out (by kernel_rfl)) (fun _ _ _ h => h) (Or.inl ⟨by rfl, ?_⟩) hHeld ?_ ?_
 rotate_left
 ·
  rintro w' ⟨s0, s1, s2, s3⟩
  go_simp
  with_reducible rfl
 rotate_left
 ·
  simp only [ap, sa, sb, sc, i64_w, i32_w]
  rfl
 refine pure_ (i := 6) (N := some 18) (v := ?_) (a' := ?_) #[T, T, T, T, T, T, T, F, F, T, T, F, F, T, T, F, F, F, F, F] rfl rfl (any_of HT_.out (by kernel_rfl)) (fun _ _ _ h => h) (Or.inl ⟨by rfl, ?_⟩) ?_ ?_
 rotate_left
 ·
  intro w'
  go_simp
  with_reducible rfl
 rotate_left
 ·
  simp only [ap, sa, sb, sc, i64_w, i32_w]
  rfl
 refine take_ (i := 11) (N := some 23) (v := ?_) (a' := ?_) #[T, T, T, T, T, T, T, F, F, T, T, T, F, T, T, F, F, F, F, F] rfl rfl (take_ofW HT_.out HW_.out (by kernel_rfl)) (fun _ _ _ h => h) (Or.inl ⟨by rfl, ?_⟩) hHeld ?_ ?_
 rotate_left
 ·
  rintro w' ⟨s0, s1, s2, s3⟩
  go_simp
  with_reducible rfl
 rotate_left
 ·
  simp only [ap, sa, sb, sc, i64_w, i32_w]
  rfl
 refine take_ (i := 15) (N := some 27) (v := ?_) (a' := ?_) #[T, T, T, T, T, T, T, F, F, T, T, T, F, T, T, T, F, F, F, F] rfl rfl (take_ofW HT_.out HW_.out (by kernel_rfl)) (fun _ _ _ h => h) (Or.inl ⟨by rfl, ?_⟩) hHeld ?_ ?_
 rotate_left
 ·
  rintro w' ⟨s0, s1, s2, s3⟩
  go_simp
  with_reducible rfl
 rotate_left
 ·
  simp only [ap, sa, sb, sc, i64_w, i32_w]
  rfl
 refine join_ (σ := Value × Nat) 1 #[T, T, T, T, T, T, T, T, T, T, T, T, T, T, T, T, T, T, T, F] (fun s_ => [(19, .agg #[.string t120, .string t121]), (20, s_.1), (24, .int .i64 t126), (28, .int .i64 t128), (4, .pointer (some ⟨s_.2, 0, none⟩)), (29, .agg #[.string (rdOf ByteArray.empty t115 0), .slice none 0 0, .slice none 0 0, s_.1, .int .i64 t126, .int .i64 t128])]) (fun s_ w' => (w'.cell? ad118 = some (.string (rdOf ByteArray.empty t115 0)) ∧ w'.cell? ⟨ad118.block, ad118.off + 3, none⟩ = some (.string (rdOf ByteArray.empty t115 3)) ∧ w'.cell? ⟨ad118.block, ad118.off + 4, none⟩ = some (.string (rdOf ByteArray.empty t115 4)) ∧ w'.cell? ⟨ad118.block, ad118.off + 5, none⟩ = some (.string (rdOf ByteArray.empty t115 5))) ∧ (Kd.R Kd.string 9 w' w.heap.size (fun _ => True) (.slice (some ad118) t115.length co16) t115) ∧ (Kd.R k64 64 w' w.heap.size (fun _ => True) s_.1 y122) ∧ (w'.heap[gb114]? = some (.cells #[.string (⟨#[]⟩ : ByteArray), .slice none 0 0, .slice none 0 0, .slice none 0 0, .int .i64 0, .int .i64 0] 47 (0, 0))) ∧ (w'.heap[s_.2]? = some (.cells #[.string (⟨#[]⟩ : ByteArray), .slice none 0 0, .slice none 0 0, .slice none 0 0, .int .i64 0, .int .i64 0] 47 (0, 0))) ∧ (w.heap.size ≤ s_.2) ∧ (w.heap.size ≤ s_.2) ∧ (gb114 ≠ s_.2) ∧ (s_.2 ≠ gb114) ∧ (Below w.heap.size w w')) ?_ ?_
 rotate_left
 ·
  intro hJ7_8_12_16_18
  refine join_ (σ := Value) 2 #[T, T, T, T, T, T, T, T, T, T, T, T, T, T, T, T, T, T, F, F] (fun s_ => [(19, .agg #[.string t120, .string t121]), (20, s_), (24, .int .i64 t126), (28, .int .i64 t128), (29, .agg #[.string (rdOf ByteArray.empty t115 0), .slice none 0 0, .slice none 0 0, s_, .int .i64 t126, .int .i64 t128])]) (fun s_ w' => (w'.cell? ad118 = some (.string (rdOf ByteArray.empty t115 0)) ∧ w'.cell? ⟨ad118.block, ad118.off + 3, none⟩ = some (.string (rdOf ByteArray.empty t115 3)) ∧ w'.cell? ⟨ad118.block, ad118.off + 4, none⟩ = some (.string (rdOf ByteArray.empty t115 4)) ∧ w'.cell? ⟨ad118.block, ad118.off + 5, none⟩ = some (.string (rdOf ByteArray.empty t115 5))) ∧ (Kd.R Kd.string 9 w' w.heap.size (fun _ => True) (.slice (some ad118) t115.length co16) t115) ∧ (Kd.R k64 64 w' w.heap.size (fun _ => True) s_ y122) ∧ (w'.heap[gb114]? = some (.cells #[.string (⟨#[]⟩ : ByteArray), .slice none 0 0, .slice none 0 0, .slice none 0 0, .int .i64 0, .int .i64 0] 47 (0, 0))) ∧ (Below w.heap.size w w')) ?_ ?_
  rotate_left
  ·
   intro hJ7_8_12_16
   refine join_ (σ := Value × Nat) 3 #[T, T, T, T, T, T, T, T, T, T, T, T, T, T, T, T, F, F, T, F] (fun s_ => [(19, .agg #[.string t120, .string t121]), (20, s_.1), (24, .int .i64 t126), (4, .pointer (some ⟨s_.2, 0, none⟩))]) (fun s_ w' => (w'.cell? ad118 = some (.string (rdOf ByteArray.empty t115 0)) ∧ w'.cell? ⟨ad118.block, ad118.off + 3, none⟩ = some (.string (rdOf ByteArray.empty t115 3)) ∧ w'.cell? ⟨ad118.block, ad118.off + 4, none⟩ = some (.string (rdOf ByteArray.empty t115 4)) ∧ w'.cell? ⟨ad118.block, ad118.off + 5, none⟩ = some (.string (rdOf ByteArray.empty t115 5))) ∧ (Kd.R Kd.string 9 w' w.heap.size (fun _ => True) (.slice (some ad118) t115.length co16) t115) ∧ (Kd.R k64 64 w' w.heap.size (fun _ => True) s_.1 y122) ∧ (w'.heap[gb114]? = some (.cells #[.string (⟨#[]⟩ : ByteArray), .slice none 0 0, .slice none 0 0, .slice none 0 0, .int .i64 0, .int .i64 0] 47 (0, 0))) ∧ (w'.heap[s_.2]? = some (.cells #[.string (⟨#[]⟩ : ByteArray), .slice none 0 0, .slice none 0 0, .slice none 0 0, .int .i64 0, .int .i64 0] 47 (0, 0))) ∧ (w.heap.size ≤ s_.2) ∧ (w.heap.size ≤ s_.2) ∧ (gb114 ≠ s_.2) ∧ (s_.2 ≠ gb114) ∧ (Below w.heap.size w w')) ?_ ?_
   rotate_left
   ·
    intro hJ7_8_12_18
    refine join_ (σ := Nat) 3 #[T, T, T, T, T, T, T, T, F, T, T, T, T, T, T, T, T, F, T, F] (fun s_ => [(19, .agg #[.string t120, .string t121]), (24, .int .i64 t126), (28, .int .i64 t128), (4, .pointer (some ⟨s_, 0, none⟩))]) (fun s_ w' => (w'.cell? ad118 = some (.string (rdOf ByteArray.empty t115 0)) ∧ w'.cell? ⟨ad118.block, ad118.off + 3, none⟩ = some (.string (rdOf ByteArray.empty t115 3)) ∧ w'.cell? ⟨ad118.block, ad118.off + 4, none⟩ = some (.string (rdOf ByteArray.empty t115 4)) ∧ w'.cell? ⟨ad118.block, ad118.off + 5, none⟩ = some (.string (rdOf ByteArray.empty t115 5))) ∧ (Kd.R Kd.string 9 w' w.heap.size (fun _ => True) (.slice (some ad118) t115.length co16) t115) ∧ (w'.heap[gb114]? = some (.cells #[.string (⟨#[]⟩ : ByteArray), .slice none 0 0, .slice none 0 0, .slice none 0 0, .int .i64 0, .int .i64 0] 47 (0, 0))) ∧ (w'.heap[s_]? = some (.cells #[.string (⟨#[]⟩ : ByteArray), .slice none 0 0, .slice none 0 0, .slice none 0 0, .int .i64 0, .int .i64 0] 47 (0, 0))) ∧ (w.heap.size ≤ s_) ∧ (w.heap.size ≤ s_) ∧ (gb114 ≠ s_) ∧ (s_ ≠ gb114) ∧ (Below w.heap.size w w')) ?_ ?_
    rotate_left
    ·
     intro hJ7_12_16_18
     refine join_ (σ := Value) 4 #[T, T, T, T, T, T, T, T, T, T, T, T, T, T, T, T, F, F, F, F] (fun s_ => [(19, .agg #[.string t120, .string t121]), (20, s_), (24, .int .i64 t126)]) (fun s_ w' => (w'.cell? ad118 = some (.string (rdOf ByteArray.empty t115 0)) ∧ w'.cell? ⟨ad118.block, ad118.off + 3, none⟩ = some (.string (rdOf ByteArray.empty t115 3)) ∧ w'.cell? ⟨ad118.block, ad118.off + 4, none⟩ = some (.string (rdOf ByteArray.empty t115 4)) ∧ w'.cell? ⟨ad118.block, ad118.off + 5, none⟩ = some (.string (rdOf ByteArray.empty t115 5))) ∧ (Kd.R Kd.string 9 w' w.heap.size (fun _ => True) (.slice (some ad118) t115.length co16) t115) ∧ (Kd.R k64 64 w' w.heap.size (fun _ => True) s_ y122) ∧ (w'.heap[gb114]? = some (.cells #[.string (⟨#[]⟩ : ByteArray), .slice none 0 0, .slice none 0 0, .slice none 0 0, .int .i64 0, .int .i64 0] 47 (0, 0))) ∧ (Below w.heap.size w w')) ?_ ?_
     rotate_left
     ·
      intro hJ7_8_12
      refine join_ (σ := Value × Nat) 4 #[T, T, T, T, T, T, T, T, T, T, T, T, F, T, T, T, F, F, T, F] (fun s_ => [(19, .agg #[.string t120, .string t121]), (20, s_.1), (4, .pointer (some ⟨s_.2, 0, none⟩))]) (fun s_ w' => (w'.cell? ad118 = some (.string (rdOf ByteArray.empty t115 0)) ∧ w'.cell? ⟨ad118.block, ad118.off + 3, none⟩ = some (.string (rdOf ByteArray.empty t115 3)) ∧ w'.cell? ⟨ad118.block, ad118.off + 4, none⟩ = some (.string (rdOf ByteArray.empty t115 4)) ∧ w'.cell? ⟨ad118.block, ad118.off + 5, none⟩ = some (.string (rdOf ByteArray.empty t115 5))) ∧ (Kd.R Kd.string 9 w' w.heap.size (fun _ => True) (.slice (some ad118) t115.length co16) t115) ∧ (Kd.R k64 64 w' w.heap.size (fun _ => True) s_.1 y122) ∧ (w'.heap[gb114]? = some (.cells #[.string (⟨#[]⟩ : ByteArray), .slice none 0 0, .slice none 0 0, .slice none 0 0, .int .i64 0, .int .i64 0] 47 (0, 0))) ∧ (w'.heap[s_.2]? = some (.cells #[.string (⟨#[]⟩ : ByteArray), .slice none 0 0, .slice none 0 0, .slice none 0 0, .int .i64 0, .int .i64 0] 47 (0, 0))) ∧ (w.heap.size ≤ s_.2) ∧ (w.heap.size ≤ s_.2) ∧ (gb114 ≠ s_.2) ∧ (s_.2 ≠ gb114) ∧ (Below w.heap.size w w')) ?_ ?_
      rotate_left
      ·
       intro hJ7_8_18
       refine join_ (σ := Unit) 4 #[T, T, T, T, T, T, T, T, F, T, T, T, T, T, T, T, T, F, F, F] (fun s_ => [(19, .agg #[.string t120, .string t121]), (24, .int .i64 t126), (28, .int .i64 t128)]) (fun s_ w' => (w'.cell? ad118 = some (.string (rdOf ByteArray.empty t115 0)) ∧ w'.cell? ⟨ad118.block, ad118.off + 3, none⟩ = some (.string (rdOf ByteArray.empty t115 3)) ∧ w'.cell? ⟨ad118.block, ad118.off + 4, none⟩ = some (.string (rdOf ByteArray.empty t115 4)) ∧ w'.cell? ⟨ad118.block, ad118.off + 5, none⟩ = some (.string (rdOf ByteArray.empty t115 5))) ∧ (Kd.R Kd.string 9 w' w.heap.size (fun _ => True) (.slice (some ad118) t115.length co16) t115) ∧ (w'.heap[gb114]? = some (.cells #[.string (⟨#[]⟩ : ByteArray), .slice none 0 0, .slice none 0 0, .slice none 0 0, .int .i64 0, .int .i64 0] 47 (0, 0))) ∧ (Below w.heap.size w w')) ?_ ?_
       rotate_left
       ·
        intro hJ7_12_16
        refine join_ (σ := Nat) 4 #[T, T, T, T, T, T, T, T, F, T, T, T, T, T, T, T, F, F, T, F] (fun s_ => [(19, .agg #[.string t120, .string t121]), (24, .int .i64 t126), (4, .pointer (some ⟨s_, 0, none⟩))]) (fun s_ w' => (w'.cell? ad118 = some (.string (rdOf ByteArray.empty t115 0)) ∧ w'.cell? ⟨ad118.block, ad118.off + 3, none⟩ = some (.string (rdOf ByteArray.empty t115 3)) ∧ w'.cell? ⟨ad118.block, ad118.off + 4, none⟩ = some (.string (rdOf ByteArray.empty t115 4)) ∧ w'.cell? ⟨ad118.block, ad118.off + 5, none⟩ = some (.string (rdOf ByteArray.empty t115 5))) ∧ (Kd.R Kd.string 9 w' w.heap.size (fun _ => True) (.slice (some ad118) t115.length co16) t115) ∧ (w'.heap[gb114]? = some (.cells #[.string (⟨#[]⟩ : ByteArray), .slice none 0 0, .slice none 0 0, .slice none 0 0, .int .i64 0, .int .i64 0] 47 (0, 0))) ∧ (w'.heap[s_]? = some (.cells #[.string (⟨#[]⟩ : ByteArray), .slice none 0 0, .slice none 0 0, .slice none 0 0, .int .i64 0, .int .i64 0] 47 (0, 0))) ∧ (w.heap.size ≤ s_) ∧ (w.heap.size ≤ s_) ∧ (gb114 ≠ s_) ∧ (s_ ≠ gb114) ∧ (Below w.heap.size w w')) ?_ ?_
        rotate_left
        ·
         intro hJ7_12_18
         refine join_ (σ := Value) 5 #[T, T, T, T, T, T, T, T, T, T, T, T, F, T, T, T, F, F, F, F] (fun s_ => [(19, .agg #[.string t120, .string t121]), (20, s_)]) (fun s_ w' => (w'.cell? ad118 = some (.string (rdOf ByteArray.empty t115 0)) ∧ w'.cell? ⟨ad118.block, ad118.off + 3, none⟩ = some (.string (rdOf ByteArray.empty t115 3)) ∧ w'.cell? ⟨ad118.block, ad118.off + 4, none⟩ = some (.string (rdOf ByteArray.empty t115 4)) ∧ w'.cell? ⟨ad118.block, ad118.off + 5, none⟩ = some (.string (rdOf ByteArray.empty t115 5))) ∧ (Kd.R Kd.string 9 w' w.heap.size (fun _ => True) (.slice (some ad118) t115.length co16) t115) ∧ (Kd.R k64 64 w' w.heap.size (fun _ => True) s_ y122) ∧ (w'.heap[gb114]? = some (.cells #[.string (⟨#[]⟩ : ByteArray), .slice none 0 0, .slice none 0 0, .slice none 0 0, .int .i64 0, .int .i64 0] 47 (0, 0))) ∧ (Below w.heap.size w w')) ?_ ?_
         rotate_left
         ·
          intro hJ7_8
          refine join_ (σ := Unit) 5 #[T, T, T, T, T, T, T, T, F, T, T, T, T, T, T, T, F, F, F, F] (fun s_ => [(19, .agg #[.string t120, .string t121]), (24, .int .i64 t126)]) (fun s_ w' => (w'.cell? ad118 = some (.string (rdOf ByteArray.empty t115 0)) ∧ w'.cell? ⟨ad118.block, ad118.off + 3, none⟩ = some (.string (rdOf ByteArray.empty t115 3)) ∧ w'.cell? ⟨ad118.block, ad118.off + 4, none⟩ = some (.string (rdOf ByteArray.empty t115 4)) ∧ w'.cell? ⟨ad118.block, ad118.off + 5, none⟩ = some (.string (rdOf ByteArray.empty t115 5))) ∧ (Kd.R Kd.string 9 w' w.heap.size (fun _ => True) (.slice (some ad118) t115.length co16) t115) ∧ (w'.heap[gb114]? = some (.cells #[.string (⟨#[]⟩ : ByteArray), .slice none 0 0, .slice none 0 0, .slice none 0 0, .int .i64 0, .int .i64 0] 47 (0, 0))) ∧ (Below w.heap.size w w')) ?_ ?_
          rotate_left
          ·
           intro hJ7_12
           refine join_ (σ := Nat) 5 #[T, T, T, T, T, T, T, T, F, T, T, T, F, T, T, T, F, F, T, F] (fun s_ => [(19, .agg #[.string t120, .string t121]), (4, .pointer (some ⟨s_, 0, none⟩))]) (fun s_ w' => (w'.cell? ad118 = some (.string (rdOf ByteArray.empty t115 0)) ∧ w'.cell? ⟨ad118.block, ad118.off + 3, none⟩ = some (.string (rdOf ByteArray.empty t115 3)) ∧ w'.cell? ⟨ad118.block, ad118.off + 4, none⟩ = some (.string (rdOf ByteArray.empty t115 4)) ∧ w'.cell? ⟨ad118.block, ad118.off + 5, none⟩ = some (.string (rdOf ByteArray.empty t115 5))) ∧ (Kd.R Kd.string 9 w' w.heap.size (fun _ => True) (.slice (some ad118) t115.length co16) t115) ∧ (w'.heap[gb114]? = some (.cells #[.string (⟨#[]⟩ : ByteArray), .slice none 0 0, .slice none 0 0, .slice none 0 0, .int .i64 0, .int .i64 0] 47 (0, 0))) ∧ (w'.heap[s_]? = some (.cells #[.string (⟨#[]⟩ : ByteArray), .slice none 0 0, .slice none 0 0, .slice none 0 0, .int .i64 0, .int .i64 0] 47 (0, 0))) ∧ (w.heap.size ≤ s_) ∧ (w.heap.size ≤ s_) ∧ (gb114 ≠ s_) ∧ (s_ ≠ gb114) ∧ (Below w.heap.size w w')) ?_ ?_
           rotate_left
           ·
            intro hJ7_18
            refine join_ (σ := Unit) 6 #[T, T, T, T, T, T, T, T, F, T, T, T, F, T, T, T, F, F, F, F] (fun s_ => [(19, .agg #[.string t120, .string t121])]) (fun s_ w' => (w'.cell? ad118 = some (.string (rdOf ByteArray.empty t115 0)) ∧ w'.cell? ⟨ad118.block, ad118.off + 3, none⟩ = some (.string (rdOf ByteArray.empty t115 3)) ∧ w'.cell? ⟨ad118.block, ad118.off + 4, none⟩ = some (.string (rdOf ByteArray.empty t115 4)) ∧ w'.cell? ⟨ad118.block, ad118.off + 5, none⟩ = some (.string (rdOf ByteArray.empty t115 5))) ∧ (Kd.R Kd.string 9 w' w.heap.size (fun _ => True) (.slice (some ad118) t115.length co16) t115) ∧ (w'.heap[gb114]? = some (.cells #[.string (⟨#[]⟩ : ByteArray), .slice none 0 0, .slice none 0 0, .slice none 0 0, .int .i64 0, .int .i64 0] 47 (0, 0))) ∧ (Below w.heap.size w w')) ?_ ?_
            rotate_left
            ·
             intro hJ7
             refine join_ (σ := Nat) 6 #[T, T, T, T, T, T, T, F, F, T, T, T, F, T, T, T, F, F, T, F] (fun s_ => [(4, .pointer (some ⟨s_, 0, none⟩))]) (fun s_ w' => (w'.cell? ad118 = some (.string (rdOf ByteArray.empty t115 0)) ∧ w'.cell? ⟨ad118.block, ad118.off + 3, none⟩ = some (.string (rdOf ByteArray.empty t115 3)) ∧ w'.cell? ⟨ad118.block, ad118.off + 4, none⟩ = some (.string (rdOf ByteArray.empty t115 4)) ∧ w'.cell? ⟨ad118.block, ad118.off + 5, none⟩ = some (.string (rdOf ByteArray.empty t115 5))) ∧ (Kd.R Kd.string 9 w' w.heap.size (fun _ => True) (.slice (some ad118) t115.length co16) t115) ∧ (w'.heap[gb114]? = some (.cells #[.string (⟨#[]⟩ : ByteArray), .slice none 0 0, .slice none 0 0, .slice none 0 0, .int .i64 0, .int .i64 0] 47 (0, 0))) ∧ (w'.heap[s_]? = some (.cells #[.string (⟨#[]⟩ : ByteArray), .slice none 0 0, .slice none 0 0, .slice none 0 0, .int .i64 0, .int .i64 0] 47 (0, 0))) ∧ (w.heap.size ≤ s_) ∧ (w.heap.size ≤ s_) ∧ (gb114 ≠ s_) ∧ (s_ ≠ gb114) ∧ (Below w.heap.size w w')) ?_ ?_
             rotate_left
             ·
              intro hJ18
              refine two_ (i := 7) (j := 18) (Ni := some 19) (Nj := some 4) #[T, T, T, T, T, T, T, T, F, T, T, T, F, T, T, T, F, F, F, F] #[T, T, T, T, T, T, T, F, F, T, T, T, F, T, T, T, F, F, T, F] rfl rfl rfl rfl (two_of HT_.out (by kernel_rfl)) (by decide) (by decide) (fun K hK => ?_) (fun K hK => ?_)
              ·
               skip
               refine goes_ Tryz.func51 (by kernel_rfl) rfl #[.string ((⟨#[111, 117, 116, 58]⟩ : ByteArray) ++ (rdOf ByteArray.empty t115 3))] (by rfl) rfl rfl aeq ?_
               with_reducible refine (block_port.calls ((⟨#[111, 117, 116, 58]⟩ : ByteArray) ++ (rdOf ByteArray.empty t115 3)) t120 t121 _ ?side1 A6.out).mono ?_
               (case side1 => exact GW.below HG.out (bs1 GE114.out))
               rintro e w17 ⟨rfl, hb⟩
               have HS0_ := hbl hb hHeld.1
               have HS1_ := hbl hb hHeld.2.1
               have HS2_ := hbl hb hHeld.2.2.1
               have HS3_ := hbl hb hHeld.2.2.2
               refine ⟨_, rfl, ?_⟩
               have n0_ := am (Kd.R_below (rr HO117.out) hb)
               have n1_ := am (blk_below (rb BK114.out) hb)
               have n2_ := am (below_step (bs1 GE114.out) hb)
               revert n0_ n1_ n2_; clear HO117 BK114 HB; intro HO117 BK114 HB
               (try clear hb)
               (try clear hb2)
               (try clear hk)
               (try clear hi)
               refine hK.out _ _ ⟨HS0_, HS1_, HS2_, HS3_⟩ (fun hHeld => ?_)
               clear hK K
               refine norm_ (a' := ?_) ?_ ?_
               rotate_left
               ·
                show Act.put _ (some 19) _ = _
                simp only [ap, sa, sb, sc, i64_w, i32_w]
                rfl
               exact norm_ (by first | (simp only [putAll, Act.put, List.setIfInBounds_toArray, List.set_cons_zero, List.set_cons_succ]; done) | (simp only [putAll, Act.put, List.setIfInBounds_toArray, List.set_cons_zero, List.set_cons_succ]; rfl)) (hJ7 () _ ⟨hHeld, (rr HO117.out), (rb BK114.out), (bs1 GE114.out)⟩)
              ·
               skip
               refine box_step ?hg (N := 4) ?hd (cs := #[.string (⟨#[]⟩ : ByteArray), .slice none 0 0, .slice none 0 0, .slice none 0 0, .int .i64 0, .int .i64 0]) (t := 47) ?hr ?_; (case hd => rfl); (case hg => rfl); (case hr => first | (go_simp; done) | (go_simp; rfl))
               intro gb129 hg w17 hbox hb
               have HS0_ := hbl hb hHeld.1
               have HS1_ := hbl hb hHeld.2.1
               have HS2_ := hbl hb hHeld.2.2.1
               have HS3_ := hbl hb hHeld.2.2.2
               have n0_ := am (Kd.R_below (rr HO117.out) hb)
               have n1_ := am (blk_below (rb BK114.out) hb)
               have n2_ := am (below_step (bs1 GE114.out) hb)
               have n3_ := am (hbox)
               have n4_ := am (gw hg (below_size (bs1 GE114.out)))
               have n5_ := am (gw hg (below_size (bs1 GE114.out)))
               have n6_ := am ((by rw [hg]; exact Nat.ne_of_lt (blk_lt (rb BK114.out)) : gb114 ≠ gb129))
               have n7_ := am ((by rw [hg]; exact Nat.ne_of_gt (blk_lt (rb BK114.out)) : gb129 ≠ gb114))
               revert n0_ n1_ n2_ n3_ n4_ n5_ n6_ n7_; clear HO117 BK114 HB; intro HO117 BK114 HB BK129 GW129 GE129 NB114_129 NB129_114
               clear hb hbox hg
               refine hK.out _ _ ⟨HS0_, HS1_, HS2_, HS3_⟩ (fun hHeld => ?_)
               clear hK K
               refine norm_ (a' := ?_) ?_ ?_
               rotate_left
               ·
                show Act.put _ (some 4) _ = _
                simp only [ap, sa, sb, sc, i64_w, i32_w]
                rfl
               exact norm_ (by first | (simp only [putAll, Act.put, List.setIfInBounds_toArray, List.set_cons_zero, List.set_cons_succ]; done) | (simp only [putAll, Act.put, List.setIfInBounds_toArray, List.set_cons_zero, List.set_cons_succ]; rfl)) (hJ18 (gb129) _ ⟨hHeld, (rr HO117.out), (rb BK114.out), (rb BK129.out), GW129.out, GE129.out, NB114_129.out, NB129_114.out, (bs2 GE114.out GE129.out)⟩)
             ·
              skip
              rintro gb129 w18 ⟨hS_, h0_, h1_, h2_, h3_, h4_, h5_, h6_, h7_⟩
              have n0_ : Aside0 (Kd.R Kd.string 9 w18 w.heap.size (fun _ => True) (.slice (some ad118) t115.length co16) t115) := ⟨h0_⟩
              have n1_ : Aside0 (w18.heap[gb114]? = some (.cells #[.string (⟨#[]⟩ : ByteArray), .slice none 0 0, .slice none 0 0, .slice none 0 0, .int .i64 0, .int .i64 0] 47 (0, 0))) := ⟨h1_⟩
              have n2_ : Aside0 (w18.heap[gb129]? = some (.cells #[.string (⟨#[]⟩ : ByteArray), .slice none 0 0, .slice none 0 0, .slice none 0 0, .int .i64 0, .int .i64 0] 47 (0, 0))) := ⟨h2_⟩
              have n3_ : Aside0 (w.heap.size ≤ gb129) := ⟨h3_⟩
              have n4_ : Aside0 (w.heap.size ≤ gb129) := ⟨h4_⟩
              have n5_ : Aside0 (gb114 ≠ gb129) := ⟨h5_⟩
              have n6_ : Aside0 (gb129 ≠ gb114) := ⟨h6_⟩
              have n7_ : Aside0 (Below w.heap.size w w18) := ⟨h7_⟩
              clear HO117
              clear BK114
              clear HB
              clear h0_ h1_ h2_ h3_ h4_ h5_ h6_ h7_
              have HO117 := n0_
              have BK114 := n1_
              have BK129 := n2_
              have GW129 := n3_
              have GE129 := n4_
              have NB114_129 := n5_
              have NB129_114 := n6_
              have HB := n7_
              clear n0_ n1_ n2_ n3_ n4_ n5_ n6_ n7_
              have hHeld : w18.cell? ad118 = some (.string (rdOf ByteArray.empty t115 0)) ∧ w18.cell? ⟨ad118.block, ad118.off + 3, none⟩ = some (.string (rdOf ByteArray.empty t115 3)) ∧ w18.cell? ⟨ad118.block, ad118.off + 4, none⟩ = some (.string (rdOf ByteArray.empty t115 4)) ∧ w18.cell? ⟨ad118.block, ad118.off + 5, none⟩ = some (.string (rdOf ByteArray.empty t115 5)) := hS_
              refine norm_ (a' := ?_) ?_ ?_
              rotate_left
              ·
               simp only [putAll, Act.put, List.setIfInBounds_toArray, List.set_cons_zero, List.set_cons_succ]
               rfl
              refine one_ (i := 7) (N := some 19) #[T, T, T, T, T, T, T, T, F, T, T, T, F, T, T, T, F, F, T, F] rfl rfl (one_of HT_.out (by kernel_rfl)) (by decide) (fun K hK => ?_)
              refine goes_ Tryz.func51 (by kernel_rfl) rfl #[.string ((⟨#[111, 117, 116, 58]⟩ : ByteArray) ++ (rdOf ByteArray.empty t115 3))] (by rfl) rfl rfl aeq ?_
              with_reducible refine (block_port.calls ((⟨#[111, 117, 116, 58]⟩ : ByteArray) ++ (rdOf ByteArray.empty t115 3)) t120 t121 _ ?side1 A6.out).mono ?_
              (case side1 => exact GW.below HG.out (bs2 GE114.out GE129.out))
              rintro e w19 ⟨rfl, hb⟩
              have HS0_ := hbl hb hHeld.1
              have HS1_ := hbl hb hHeld.2.1
              have HS2_ := hbl hb hHeld.2.2.1
              have HS3_ := hbl hb hHeld.2.2.2
              refine ⟨_, rfl, ?_⟩
              have n0_ := am (Kd.R_below (rr HO117.out) hb)
              have n1_ := am (blk_below (rb BK114.out) hb)
              have n2_ := am (blk_below (rb BK129.out) hb)
              have n3_ := am (below_step (bs2 GE114.out GE129.out) hb)
              revert n0_ n1_ n2_ n3_; clear HO117 BK114 BK129 HB; intro HO117 BK114 BK129 HB
              (try clear hb)
              (try clear hb2)
              (try clear hk)
              (try clear hi)
              refine hK.out _ _ ⟨HS0_, HS1_, HS2_, HS3_⟩ (fun hHeld => ?_)
              clear hK K
              refine norm_ (a' := ?_) ?_ ?_
              rotate_left
              ·
               show Act.put _ (some 19) _ = _
               simp only [ap, sa, sb, sc, i64_w, i32_w]
               rfl
              exact norm_ (by first | (simp only [putAll, Act.put, List.setIfInBounds_toArray, List.set_cons_zero, List.set_cons_succ]; done) | (simp only [putAll, Act.put, List.setIfInBounds_toArray, List.set_cons_zero, List.set_cons_succ]; rfl)) (hJ7_18 (gb129) _ ⟨hHeld, (rr HO117.out), (rb BK114.out), (rb BK129.out), GW129.out, GE129.out, NB114_129.out, NB129_114.out, (bs2 GE114.out GE129.out)⟩)
            ·
             skip
             rintro _ w18 ⟨hS_, h0_, h1_, h2_⟩
             have n0_ : Aside0 (Kd.R Kd.string 9 w18 w.heap.size (fun _ => True) (.slice (some ad118) t115.length co16) t115) := ⟨h0_⟩
             have n1_ : Aside0 (w18.heap[gb114]? = some (.cells #[.string (⟨#[]⟩ : ByteArray), .slice none 0 0, .slice none 0 0, .slice none 0 0, .int .i64 0, .int .i64 0] 47 (0, 0))) := ⟨h1_⟩
             have n2_ : Aside0 (Below w.heap.size w w18) := ⟨h2_⟩
             clear HO117
             clear BK114
             clear HB
             clear h0_ h1_ h2_
             have HO117 := n0_
             have BK114 := n1_
             have HB := n2_
             clear n0_ n1_ n2_
             have hHeld : w18.cell? ad118 = some (.string (rdOf ByteArray.empty t115 0)) ∧ w18.cell? ⟨ad118.block, ad118.off + 3, none⟩ = some (.string (rdOf ByteArray.empty t115 3)) ∧ w18.cell? ⟨ad118.block, ad118.off + 4, none⟩ = some (.string (rdOf ByteArray.empty t115 4)) ∧ w18.cell? ⟨ad118.block, ad118.off + 5, none⟩ = some (.string (rdOf ByteArray.empty t115 5)) := hS_
             refine norm_ (a' := ?_) ?_ ?_
             rotate_left
             ·
              simp only [putAll, Act.put, List.setIfInBounds_toArray, List.set_cons_zero, List.set_cons_succ]
              rfl
             refine three_ (i := 8) (j := 12) (k := 18) (Ni := some 20) (Nj := some 24) (Nk := some 4) #[T, T, T, T, T, T, T, T, T, T, T, T, F, T, T, T, F, F, F, F] #[T, T, T, T, T, T, T, T, F, T, T, T, T, T, T, T, F, F, F, F] #[T, T, T, T, T, T, T, T, F, T, T, T, F, T, T, T, F, F, T, F] rfl rfl rfl rfl rfl rfl (three_of HT_.out (by kernel_rfl)) (by decide) (by decide) (by decide) (fun K hK => ?_) (fun K hK => ?_) (fun K hK => ?_)
             ·
              skip
              refine Kd.R_lit_step k64 _ 64 ?hg (N := 20) ?hd (xs := ([(⟨t120, t121⟩ : S64)] : List (S64))) (inner := [.string t120, .string t121]) (ok := fun _ => True) (okp := fun _ => True) ?hr ?hp (fun _ hk => hk) trivial (Below.refl _ _) (Nat.le_refl _) (by simp) ?_; (case hd => rfl); (case hg => rfl); (case hr => first | (go_simp; done) | (go_simp; rfl)); (case hp => exact (Reps.c2 (show Kd.M k64 _ _ _ (⟨t120, t121⟩ : S64) [.string t120, .string t121] from (k64_mkM _ _ _ (⟨t120, t121⟩ : S64) )) (Reps.none _ _)))
              intro v123 w19 ho20 hb hg_ hnew_
              have HS0_ := hbl hb hHeld.1
              have HS1_ := hbl hb hHeld.2.1
              have HS2_ := hbl hb hHeld.2.2.1
              have HS3_ := hbl hb hHeld.2.2.2
              clear hg_ hnew_
              (first | rw [← Ny122.out] at ho20 | (simp only [Int.reduceToNat] at ho20; rw [← Ny122.out] at ho20))
              have n0_ := am (Kd.R_below (rr HO117.out) hb)
              have n1_ := am (Kd.R_lower ho20 (below_size (bs1 GE114.out)))
              have n2_ := am (blk_below (rb BK114.out) hb)
              have n3_ := am (below_step (bs1 GE114.out) hb)
              revert n0_ n1_ n2_ n3_; clear HO117 BK114 HB; intro HO117 HO124 BK114 HB
              clear hb ho20
              refine hK.out _ _ ⟨HS0_, HS1_, HS2_, HS3_⟩ (fun hHeld => ?_)
              clear hK K
              refine norm_ (a' := ?_) ?_ ?_
              rotate_left
              ·
               show Act.put _ (some 20) _ = _
               simp only [ap, sa, sb, sc, i64_w, i32_w]
               rfl
              exact norm_ (by first | (simp only [putAll, Act.put, List.setIfInBounds_toArray, List.set_cons_zero, List.set_cons_succ]; done) | (simp only [putAll, Act.put, List.setIfInBounds_toArray, List.set_cons_zero, List.set_cons_succ]; rfl)) (hJ7_8 (v123) _ ⟨hHeld, (rr HO117.out), (rr HO124.out), (rb BK114.out), (bs1 GE114.out)⟩)
             ·
              skip
              refine goes_ Tryz.func52 (by kernel_rfl) rfl #[.string (rdOf ByteArray.empty t115 4)] (by rfl) rfl rfl aeq ?_
              with_reducible refine (block_number.calls (rdOf ByteArray.empty t115 4) t126 _ A8.out).mono ?_
              rintro e w19 ⟨rfl, hb⟩
              have HS0_ := hbl hb hHeld.1
              have HS1_ := hbl hb hHeld.2.1
              have HS2_ := hbl hb hHeld.2.2.1
              have HS3_ := hbl hb hHeld.2.2.2
              refine ⟨_, rfl, ?_⟩
              have n0_ := am (Kd.R_below (rr HO117.out) hb)
              have n1_ := am (blk_below (rb BK114.out) hb)
              have n2_ := am (below_step (bs1 GE114.out) hb)
              revert n0_ n1_ n2_; clear HO117 BK114 HB; intro HO117 BK114 HB
              (try clear hb)
              (try clear hb2)
              (try clear hk)
              (try clear hi)
              refine hK.out _ _ ⟨HS0_, HS1_, HS2_, HS3_⟩ (fun hHeld => ?_)
              clear hK K
              refine norm_ (a' := ?_) ?_ ?_
              rotate_left
              ·
               show Act.put _ (some 24) _ = _
               simp only [ap, sa, sb, sc, i64_w, i32_w]
               rfl
              exact norm_ (by first | (simp only [putAll, Act.put, List.setIfInBounds_toArray, List.set_cons_zero, List.set_cons_succ]; done) | (simp only [putAll, Act.put, List.setIfInBounds_toArray, List.set_cons_zero, List.set_cons_succ]; rfl)) (hJ7_12 () _ ⟨hHeld, (rr HO117.out), (rb BK114.out), (bs1 GE114.out)⟩)
             ·
              skip
              refine box_step ?hg (N := 4) ?hd (cs := #[.string (⟨#[]⟩ : ByteArray), .slice none 0 0, .slice none 0 0, .slice none 0 0, .int .i64 0, .int .i64 0]) (t := 47) ?hr ?_; (case hd => rfl); (case hg => rfl); (case hr => first | (go_simp; done) | (go_simp; rfl))
              intro gb129 hg w19 hbox hb
              have HS0_ := hbl hb hHeld.1
              have HS1_ := hbl hb hHeld.2.1
              have HS2_ := hbl hb hHeld.2.2.1
              have HS3_ := hbl hb hHeld.2.2.2
              have n0_ := am (Kd.R_below (rr HO117.out) hb)
              have n1_ := am (blk_below (rb BK114.out) hb)
              have n2_ := am (below_step (bs1 GE114.out) hb)
              have n3_ := am (hbox)
              have n4_ := am (gw hg (below_size (bs1 GE114.out)))
              have n5_ := am (gw hg (below_size (bs1 GE114.out)))
              have n6_ := am ((by rw [hg]; exact Nat.ne_of_lt (blk_lt (rb BK114.out)) : gb114 ≠ gb129))
              have n7_ := am ((by rw [hg]; exact Nat.ne_of_gt (blk_lt (rb BK114.out)) : gb129 ≠ gb114))
              revert n0_ n1_ n2_ n3_ n4_ n5_ n6_ n7_; clear HO117 BK114 HB; intro HO117 BK114 HB BK129 GW129 GE129 NB114_129 NB129_114
              clear hb hbox hg
              refine hK.out _ _ ⟨HS0_, HS1_, HS2_, HS3_⟩ (fun hHeld => ?_)
              clear hK K
              refine norm_ (a' := ?_) ?_ ?_
              rotate_left
              ·
               show Act.put _ (some 4) _ = _
               simp only [ap, sa, sb, sc, i64_w, i32_w]
               rfl
              exact norm_ (by first | (simp only [putAll, Act.put, List.setIfInBounds_toArray, List.set_cons_zero, List.set_cons_succ]; done) | (simp only [putAll, Act.put, List.setIfInBounds_toArray, List.set_cons_zero, List.set_cons_succ]; rfl)) (hJ7_18 (gb129) _ ⟨hHeld, (rr HO117.out), (rb BK114.out), (rb BK129.out), GW129.out, GE129.out, NB114_129.out, NB129_114.out, (bs2 GE114.out GE129.out)⟩)
           ·
            skip
            rintro gb129 w19 ⟨hS_, h0_, h1_, h2_, h3_, h4_, h5_, h6_, h7_⟩
            have n0_ : Aside0 (Kd.R Kd.string 9 w19 w.heap.size (fun _ => True) (.slice (some ad118) t115.length co16) t115) := ⟨h0_⟩
            have n1_ : Aside0 (w19.heap[gb114]? = some (.cells #[.string (⟨#[]⟩ : ByteArray), .slice none 0 0, .slice none 0 0, .slice none 0 0, .int .i64 0, .int .i64 0] 47 (0, 0))) := ⟨h1_⟩
            have n2_ : Aside0 (w19.heap[gb129]? = some (.cells #[.string (⟨#[]⟩ : ByteArray), .slice none 0 0, .slice none 0 0, .slice none 0 0, .int .i64 0, .int .i64 0] 47 (0, 0))) := ⟨h2_⟩
            have n3_ : Aside0 (w.heap.size ≤ gb129) := ⟨h3_⟩
            have n4_ : Aside0 (w.heap.size ≤ gb129) := ⟨h4_⟩
            have n5_ : Aside0 (gb114 ≠ gb129) := ⟨h5_⟩
            have n6_ : Aside0 (gb129 ≠ gb114) := ⟨h6_⟩
            have n7_ : Aside0 (Below w.heap.size w w19) := ⟨h7_⟩
            clear HO117
            clear BK114
            clear HB
            clear h0_ h1_ h2_ h3_ h4_ h5_ h6_ h7_
            have HO117 := n0_
            have BK114 := n1_
            have BK129 := n2_
            have GW129 := n3_
            have GE129 := n4_
            have NB114_129 := n5_
            have NB129_114 := n6_
            have HB := n7_
            clear n0_ n1_ n2_ n3_ n4_ n5_ n6_ n7_
            have hHeld : w19.cell? ad118 = some (.string (rdOf ByteArray.empty t115 0)) ∧ w19.cell? ⟨ad118.block, ad118.off + 3, none⟩ = some (.string (rdOf ByteArray.empty t115 3)) ∧ w19.cell? ⟨ad118.block, ad118.off + 4, none⟩ = some (.string (rdOf ByteArray.empty t115 4)) ∧ w19.cell? ⟨ad118.block, ad118.off + 5, none⟩ = some (.string (rdOf ByteArray.empty t115 5)) := hS_
            refine norm_ (a' := ?_) ?_ ?_
            rotate_left
            ·
             simp only [putAll, Act.put, List.setIfInBounds_toArray, List.set_cons_zero, List.set_cons_succ]
             rfl
            refine two_ (i := 8) (j := 12) (Ni := some 20) (Nj := some 24) #[T, T, T, T, T, T, T, T, T, T, T, T, F, T, T, T, F, F, T, F] #[T, T, T, T, T, T, T, T, F, T, T, T, T, T, T, T, F, F, T, F] rfl rfl rfl rfl (two_of HT_.out (by kernel_rfl)) (by decide) (by decide) (fun K hK => ?_) (fun K hK => ?_)
            ·
             skip
             refine Kd.R_lit_step k64 _ 64 ?hg (N := 20) ?hd (xs := ([(⟨t120, t121⟩ : S64)] : List (S64))) (inner := [.string t120, .string t121]) (ok := fun _ => True) (okp := fun _ => True) ?hr ?hp (fun _ hk => hk) trivial (Below.refl _ _) (Nat.le_refl _) (by simp) ?_; (case hd => rfl); (case hg => rfl); (case hr => first | (go_simp; done) | (go_simp; rfl)); (case hp => exact (Reps.c2 (show Kd.M k64 _ _ _ (⟨t120, t121⟩ : S64) [.string t120, .string t121] from (k64_mkM _ _ _ (⟨t120, t121⟩ : S64) )) (Reps.none _ _)))
             intro v123 w20 ho21 hb hg_ hnew_
             have HS0_ := hbl hb hHeld.1
             have HS1_ := hbl hb hHeld.2.1
             have HS2_ := hbl hb hHeld.2.2.1
             have HS3_ := hbl hb hHeld.2.2.2
             clear hg_ hnew_
             (first | rw [← Ny122.out] at ho21 | (simp only [Int.reduceToNat] at ho21; rw [← Ny122.out] at ho21))
             have n0_ := am (Kd.R_below (rr HO117.out) hb)
             have n1_ := am (Kd.R_lower ho21 (below_size (bs2 GE114.out GE129.out)))
             have n2_ := am (blk_below (rb BK114.out) hb)
             have n3_ := am (blk_below (rb BK129.out) hb)
             have n4_ := am (below_step (bs2 GE114.out GE129.out) hb)
             revert n0_ n1_ n2_ n3_ n4_; clear HO117 BK114 BK129 HB; intro HO117 HO124 BK114 BK129 HB
             clear hb ho21
             refine hK.out _ _ ⟨HS0_, HS1_, HS2_, HS3_⟩ (fun hHeld => ?_)
             clear hK K
             refine norm_ (a' := ?_) ?_ ?_
             rotate_left
             ·
              show Act.put _ (some 20) _ = _
              simp only [ap, sa, sb, sc, i64_w, i32_w]
              rfl
             exact norm_ (by first | (simp only [putAll, Act.put, List.setIfInBounds_toArray, List.set_cons_zero, List.set_cons_succ]; done) | (simp only [putAll, Act.put, List.setIfInBounds_toArray, List.set_cons_zero, List.set_cons_succ]; rfl)) (hJ7_8_18 (v123, gb129) _ ⟨hHeld, (rr HO117.out), (rr HO124.out), (rb BK114.out), (rb BK129.out), GW129.out, GE129.out, NB114_129.out, NB129_114.out, (bs2 GE114.out GE129.out)⟩)
            ·
             skip
             refine goes_ Tryz.func52 (by kernel_rfl) rfl #[.string (rdOf ByteArray.empty t115 4)] (by rfl) rfl rfl aeq ?_
             with_reducible refine (block_number.calls (rdOf ByteArray.empty t115 4) t126 _ A8.out).mono ?_
             rintro e w20 ⟨rfl, hb⟩
             have HS0_ := hbl hb hHeld.1
             have HS1_ := hbl hb hHeld.2.1
             have HS2_ := hbl hb hHeld.2.2.1
             have HS3_ := hbl hb hHeld.2.2.2
             refine ⟨_, rfl, ?_⟩
             have n0_ := am (Kd.R_below (rr HO117.out) hb)
             have n1_ := am (blk_below (rb BK114.out) hb)
             have n2_ := am (blk_below (rb BK129.out) hb)
             have n3_ := am (below_step (bs2 GE114.out GE129.out) hb)
             revert n0_ n1_ n2_ n3_; clear HO117 BK114 BK129 HB; intro HO117 BK114 BK129 HB
             (try clear hb)
             (try clear hb2)
             (try clear hk)
             (try clear hi)
             refine hK.out _ _ ⟨HS0_, HS1_, HS2_, HS3_⟩ (fun hHeld => ?_)
             clear hK K
             refine norm_ (a' := ?_) ?_ ?_
             rotate_left
             ·
              show Act.put _ (some 24) _ = _
              simp only [ap, sa, sb, sc, i64_w, i32_w]
              rfl
             exact norm_ (by first | (simp only [putAll, Act.put, List.setIfInBounds_toArray, List.set_cons_zero, List.set_cons_succ]; done) | (simp only [putAll, Act.put, List.setIfInBounds_toArray, List.set_cons_zero, List.set_cons_succ]; rfl)) (hJ7_12_18 (gb129) _ ⟨hHeld, (rr HO117.out), (rb BK114.out), (rb BK129.out), GW129.out, GE129.out, NB114_129.out, NB129_114.out, (bs2 GE114.out GE129.out)⟩)
          ·
           skip
           rintro _ w19 ⟨hS_, h0_, h1_, h2_⟩
           have n0_ : Aside0 (Kd.R Kd.string 9 w19 w.heap.size (fun _ => True) (.slice (some ad118) t115.length co16) t115) := ⟨h0_⟩
           have n1_ : Aside0 (w19.heap[gb114]? = some (.cells #[.string (⟨#[]⟩ : ByteArray), .slice none 0 0, .slice none 0 0, .slice none 0 0, .int .i64 0, .int .i64 0] 47 (0, 0))) := ⟨h1_⟩
           have n2_ : Aside0 (Below w.heap.size w w19) := ⟨h2_⟩
           clear HO117
           clear BK114
           clear HB
           clear h0_ h1_ h2_
           have HO117 := n0_
           have BK114 := n1_
           have HB := n2_
           clear n0_ n1_ n2_
           have hHeld : w19.cell? ad118 = some (.string (rdOf ByteArray.empty t115 0)) ∧ w19.cell? ⟨ad118.block, ad118.off + 3, none⟩ = some (.string (rdOf ByteArray.empty t115 3)) ∧ w19.cell? ⟨ad118.block, ad118.off + 4, none⟩ = some (.string (rdOf ByteArray.empty t115 4)) ∧ w19.cell? ⟨ad118.block, ad118.off + 5, none⟩ = some (.string (rdOf ByteArray.empty t115 5)) := hS_
           refine norm_ (a' := ?_) ?_ ?_
           rotate_left
           ·
            simp only [putAll, Act.put, List.setIfInBounds_toArray, List.set_cons_zero, List.set_cons_succ]
            rfl
           refine three_ (i := 8) (j := 16) (k := 18) (Ni := some 20) (Nj := some 28) (Nk := some 4) #[T, T, T, T, T, T, T, T, T, T, T, T, T, T, T, T, F, F, F, F] #[T, T, T, T, T, T, T, T, F, T, T, T, T, T, T, T, T, F, F, F] #[T, T, T, T, T, T, T, T, F, T, T, T, T, T, T, T, F, F, T, F] rfl rfl rfl rfl rfl rfl (three_of HT_.out (by kernel_rfl)) (by decide) (by decide) (by decide) (fun K hK => ?_) (fun K hK => ?_) (fun K hK => ?_)
           ·
            skip
            refine Kd.R_lit_step k64 _ 64 ?hg (N := 20) ?hd (xs := ([(⟨t120, t121⟩ : S64)] : List (S64))) (inner := [.string t120, .string t121]) (ok := fun _ => True) (okp := fun _ => True) ?hr ?hp (fun _ hk => hk) trivial (Below.refl _ _) (Nat.le_refl _) (by simp) ?_; (case hd => rfl); (case hg => rfl); (case hr => first | (go_simp; done) | (go_simp; rfl)); (case hp => exact (Reps.c2 (show Kd.M k64 _ _ _ (⟨t120, t121⟩ : S64) [.string t120, .string t121] from (k64_mkM _ _ _ (⟨t120, t121⟩ : S64) )) (Reps.none _ _)))
            intro v123 w20 ho21 hb hg_ hnew_
            have HS0_ := hbl hb hHeld.1
            have HS1_ := hbl hb hHeld.2.1
            have HS2_ := hbl hb hHeld.2.2.1
            have HS3_ := hbl hb hHeld.2.2.2
            clear hg_ hnew_
            (first | rw [← Ny122.out] at ho21 | (simp only [Int.reduceToNat] at ho21; rw [← Ny122.out] at ho21))
            have n0_ := am (Kd.R_below (rr HO117.out) hb)
            have n1_ := am (Kd.R_lower ho21 (below_size (bs1 GE114.out)))
            have n2_ := am (blk_below (rb BK114.out) hb)
            have n3_ := am (below_step (bs1 GE114.out) hb)
            revert n0_ n1_ n2_ n3_; clear HO117 BK114 HB; intro HO117 HO124 BK114 HB
            clear hb ho21
            refine hK.out _ _ ⟨HS0_, HS1_, HS2_, HS3_⟩ (fun hHeld => ?_)
            clear hK K
            refine norm_ (a' := ?_) ?_ ?_
            rotate_left
            ·
             show Act.put _ (some 20) _ = _
             simp only [ap, sa, sb, sc, i64_w, i32_w]
             rfl
            exact norm_ (by first | (simp only [putAll, Act.put, List.setIfInBounds_toArray, List.set_cons_zero, List.set_cons_succ]; done) | (simp only [putAll, Act.put, List.setIfInBounds_toArray, List.set_cons_zero, List.set_cons_succ]; rfl)) (hJ7_8_12 (v123) _ ⟨hHeld, (rr HO117.out), (rr HO124.out), (rb BK114.out), (bs1 GE114.out)⟩)
           ·
            skip
            refine goes_ Tryz.func52 (by kernel_rfl) rfl #[.string (rdOf ByteArray.empty t115 5)] (by rfl) rfl rfl aeq ?_
            with_reducible refine (block_number.calls (rdOf ByteArray.empty t115 5) t128 _ A10.out).mono ?_
            rintro e w20 ⟨rfl, hb⟩
            have HS0_ := hbl hb hHeld.1
            have HS1_ := hbl hb hHeld.2.1
            have HS2_ := hbl hb hHeld.2.2.1
            have HS3_ := hbl hb hHeld.2.2.2
            refine ⟨_, rfl, ?_⟩
            have n0_ := am (Kd.R_below (rr HO117.out) hb)
            have n1_ := am (blk_below (rb BK114.out) hb)
            have n2_ := am (below_step (bs1 GE114.out) hb)
            revert n0_ n1_ n2_; clear HO117 BK114 HB; intro HO117 BK114 HB
            (try clear hb)
            (try clear hb2)
            (try clear hk)
            (try clear hi)
            refine hK.out _ _ ⟨HS0_, HS1_, HS2_, HS3_⟩ (fun hHeld => ?_)
            clear hK K
            refine norm_ (a' := ?_) ?_ ?_
            rotate_left
            ·
             show Act.put _ (some 28) _ = _
             simp only [ap, sa, sb, sc, i64_w, i32_w]
             rfl
            exact norm_ (by first | (simp only [putAll, Act.put, List.setIfInBounds_toArray, List.set_cons_zero, List.set_cons_succ]; done) | (simp only [putAll, Act.put, List.setIfInBounds_toArray, List.set_cons_zero, List.set_cons_succ]; rfl)) (hJ7_12_16 () _ ⟨hHeld, (rr HO117.out), (rb BK114.out), (bs1 GE114.out)⟩)
           ·
            skip
            refine box_step ?hg (N := 4) ?hd (cs := #[.string (⟨#[]⟩ : ByteArray), .slice none 0 0, .slice none 0 0, .slice none 0 0, .int .i64 0, .int .i64 0]) (t := 47) ?hr ?_; (case hd => rfl); (case hg => rfl); (case hr => first | (go_simp; done) | (go_simp; rfl))
            intro gb129 hg w20 hbox hb
            have HS0_ := hbl hb hHeld.1
            have HS1_ := hbl hb hHeld.2.1
            have HS2_ := hbl hb hHeld.2.2.1
            have HS3_ := hbl hb hHeld.2.2.2
            have n0_ := am (Kd.R_below (rr HO117.out) hb)
            have n1_ := am (blk_below (rb BK114.out) hb)
            have n2_ := am (below_step (bs1 GE114.out) hb)
            have n3_ := am (hbox)
            have n4_ := am (gw hg (below_size (bs1 GE114.out)))
            have n5_ := am (gw hg (below_size (bs1 GE114.out)))
            have n6_ := am ((by rw [hg]; exact Nat.ne_of_lt (blk_lt (rb BK114.out)) : gb114 ≠ gb129))
            have n7_ := am ((by rw [hg]; exact Nat.ne_of_gt (blk_lt (rb BK114.out)) : gb129 ≠ gb114))
            revert n0_ n1_ n2_ n3_ n4_ n5_ n6_ n7_; clear HO117 BK114 HB; intro HO117 BK114 HB BK129 GW129 GE129 NB114_129 NB129_114
            clear hb hbox hg
            refine hK.out _ _ ⟨HS0_, HS1_, HS2_, HS3_⟩ (fun hHeld => ?_)
            clear hK K
            refine norm_ (a' := ?_) ?_ ?_
            rotate_left
            ·
             show Act.put _ (some 4) _ = _
             simp only [ap, sa, sb, sc, i64_w, i32_w]
             rfl
            exact norm_ (by first | (simp only [putAll, Act.put, List.setIfInBounds_toArray, List.set_cons_zero, List.set_cons_succ]; done) | (simp only [putAll, Act.put, List.setIfInBounds_toArray, List.set_cons_zero, List.set_cons_succ]; rfl)) (hJ7_12_18 (gb129) _ ⟨hHeld, (rr HO117.out), (rb BK114.out), (rb BK129.out), GW129.out, GE129.out, NB114_129.out, NB129_114.out, (bs2 GE114.out GE129.out)⟩)
         ·
          skip
          rintro v123 w20 ⟨hS_, h0_, h1_, h2_, h3_⟩
          have n0_ : Aside0 (Kd.R Kd.string 9 w20 w.heap.size (fun _ => True) (.slice (some ad118) t115.length co16) t115) := ⟨h0_⟩
          have n1_ : Aside0 (Kd.R k64 64 w20 w.heap.size (fun _ => True) v123 y122) := ⟨h1_⟩
          have n2_ : Aside0 (w20.heap[gb114]? = some (.cells #[.string (⟨#[]⟩ : ByteArray), .slice none 0 0, .slice none 0 0, .slice none 0 0, .int .i64 0, .int .i64 0] 47 (0, 0))) := ⟨h2_⟩
          have n3_ : Aside0 (Below w.heap.size w w20) := ⟨h3_⟩
          clear HO117
          clear BK114
          clear HB
          clear h0_ h1_ h2_ h3_
          have HO117 := n0_
          have HO124 := n1_
          have BK114 := n2_
          have HB := n3_
          clear n0_ n1_ n2_ n3_
          have hHeld : w20.cell? ad118 = some (.string (rdOf ByteArray.empty t115 0)) ∧ w20.cell? ⟨ad118.block, ad118.off + 3, none⟩ = some (.string (rdOf ByteArray.empty t115 3)) ∧ w20.cell? ⟨ad118.block, ad118.off + 4, none⟩ = some (.string (rdOf ByteArray.empty t115 4)) ∧ w20.cell? ⟨ad118.block, ad118.off + 5, none⟩ = some (.string (rdOf ByteArray.empty t115 5)) := hS_
          refine norm_ (a' := ?_) ?_ ?_
          rotate_left
          ·
           simp only [putAll, Act.put, List.setIfInBounds_toArray, List.set_cons_zero, List.set_cons_succ]
           rfl
          refine two_ (i := 12) (j := 18) (Ni := some 24) (Nj := some 4) #[T, T, T, T, T, T, T, T, T, T, T, T, T, T, T, T, F, F, F, F] #[T, T, T, T, T, T, T, T, T, T, T, T, F, T, T, T, F, F, T, F] rfl rfl rfl rfl (two_of HT_.out (by kernel_rfl)) (by decide) (by decide) (fun K hK => ?_) (fun K hK => ?_)
          ·
           skip
           refine goes_ Tryz.func52 (by kernel_rfl) rfl #[.string (rdOf ByteArray.empty t115 4)] (by rfl) rfl rfl aeq ?_
           with_reducible refine (block_number.calls (rdOf ByteArray.empty t115 4) t126 _ A8.out).mono ?_
           rintro e w21 ⟨rfl, hb⟩
           have HS0_ := hbl hb hHeld.1
           have HS1_ := hbl hb hHeld.2.1
           have HS2_ := hbl hb hHeld.2.2.1
           have HS3_ := hbl hb hHeld.2.2.2
           refine ⟨_, rfl, ?_⟩
           have n0_ := am (Kd.R_below (rr HO117.out) hb)
           have n1_ := am (Kd.R_below (rr HO124.out) hb)
           have n2_ := am (blk_below (rb BK114.out) hb)
           have n3_ := am (below_step (bs1 GE114.out) hb)
           revert n0_ n1_ n2_ n3_; clear HO117 HO124 BK114 HB; intro HO117 HO124 BK114 HB
           (try clear hb)
           (try clear hb2)
           (try clear hk)
           (try clear hi)
           refine hK.out _ _ ⟨HS0_, HS1_, HS2_, HS3_⟩ (fun hHeld => ?_)
           clear hK K
           refine norm_ (a' := ?_) ?_ ?_
           rotate_left
           ·
            show Act.put _ (some 24) _ = _
            simp only [ap, sa, sb, sc, i64_w, i32_w]
            rfl
           exact norm_ (by first | (simp only [putAll, Act.put, List.setIfInBounds_toArray, List.set_cons_zero, List.set_cons_succ]; done) | (simp only [putAll, Act.put, List.setIfInBounds_toArray, List.set_cons_zero, List.set_cons_succ]; rfl)) (hJ7_8_12 (v123) _ ⟨hHeld, (rr HO117.out), (rr HO124.out), (rb BK114.out), (bs1 GE114.out)⟩)
          ·
           skip
           refine box_step ?hg (N := 4) ?hd (cs := #[.string (⟨#[]⟩ : ByteArray), .slice none 0 0, .slice none 0 0, .slice none 0 0, .int .i64 0, .int .i64 0]) (t := 47) ?hr ?_; (case hd => rfl); (case hg => rfl); (case hr => first | (go_simp; done) | (go_simp; rfl))
           intro gb129 hg w21 hbox hb
           have HS0_ := hbl hb hHeld.1
           have HS1_ := hbl hb hHeld.2.1
           have HS2_ := hbl hb hHeld.2.2.1
           have HS3_ := hbl hb hHeld.2.2.2
           have n0_ := am (Kd.R_below (rr HO117.out) hb)
           have n1_ := am (Kd.R_below (rr HO124.out) hb)
           have n2_ := am (blk_below (rb BK114.out) hb)
           have n3_ := am (below_step (bs1 GE114.out) hb)
           have n4_ := am (hbox)
           have n5_ := am (gw hg (below_size (bs1 GE114.out)))
           have n6_ := am (gw hg (below_size (bs1 GE114.out)))
           have n7_ := am ((by rw [hg]; exact Nat.ne_of_lt (blk_lt (rb BK114.out)) : gb114 ≠ gb129))
           have n8_ := am ((by rw [hg]; exact Nat.ne_of_gt (blk_lt (rb BK114.out)) : gb129 ≠ gb114))
           revert n0_ n1_ n2_ n3_ n4_ n5_ n6_ n7_ n8_; clear HO117 HO124 BK114 HB; intro HO117 HO124 BK114 HB BK129 GW129 GE129 NB114_129 NB129_114
           clear hb hbox hg
           refine hK.out _ _ ⟨HS0_, HS1_, HS2_, HS3_⟩ (fun hHeld => ?_)
           clear hK K
           refine norm_ (a' := ?_) ?_ ?_
           rotate_left
           ·
            show Act.put _ (some 4) _ = _
            simp only [ap, sa, sb, sc, i64_w, i32_w]
            rfl
           exact norm_ (by first | (simp only [putAll, Act.put, List.setIfInBounds_toArray, List.set_cons_zero, List.set_cons_succ]; done) | (simp only [putAll, Act.put, List.setIfInBounds_toArray, List.set_cons_zero, List.set_cons_succ]; rfl)) (hJ7_8_18 (v123, gb129) _ ⟨hHeld, (rr HO117.out), (rr HO124.out), (rb BK114.out), (rb BK129.out), GW129.out, GE129.out, NB114_129.out, NB129_114.out, (bs2 GE114.out GE129.out)⟩)
        ·
         skip
         rintro gb129 w20 ⟨hS_, h0_, h1_, h2_, h3_, h4_, h5_, h6_, h7_⟩
         have n0_ : Aside0 (Kd.R Kd.string 9 w20 w.heap.size (fun _ => True) (.slice (some ad118) t115.length co16) t115) := ⟨h0_⟩
         have n1_ : Aside0 (w20.heap[gb114]? = some (.cells #[.string (⟨#[]⟩ : ByteArray), .slice none 0 0, .slice none 0 0, .slice none 0 0, .int .i64 0, .int .i64 0] 47 (0, 0))) := ⟨h1_⟩
         have n2_ : Aside0 (w20.heap[gb129]? = some (.cells #[.string (⟨#[]⟩ : ByteArray), .slice none 0 0, .slice none 0 0, .slice none 0 0, .int .i64 0, .int .i64 0] 47 (0, 0))) := ⟨h2_⟩
         have n3_ : Aside0 (w.heap.size ≤ gb129) := ⟨h3_⟩
         have n4_ : Aside0 (w.heap.size ≤ gb129) := ⟨h4_⟩
         have n5_ : Aside0 (gb114 ≠ gb129) := ⟨h5_⟩
         have n6_ : Aside0 (gb129 ≠ gb114) := ⟨h6_⟩
         have n7_ : Aside0 (Below w.heap.size w w20) := ⟨h7_⟩
         clear HO117
         clear BK114
         clear HB
         clear h0_ h1_ h2_ h3_ h4_ h5_ h6_ h7_
         have HO117 := n0_
         have BK114 := n1_
         have BK129 := n2_
         have GW129 := n3_
         have GE129 := n4_
         have NB114_129 := n5_
         have NB129_114 := n6_
         have HB := n7_
         clear n0_ n1_ n2_ n3_ n4_ n5_ n6_ n7_
         have hHeld : w20.cell? ad118 = some (.string (rdOf ByteArray.empty t115 0)) ∧ w20.cell? ⟨ad118.block, ad118.off + 3, none⟩ = some (.string (rdOf ByteArray.empty t115 3)) ∧ w20.cell? ⟨ad118.block, ad118.off + 4, none⟩ = some (.string (rdOf ByteArray.empty t115 4)) ∧ w20.cell? ⟨ad118.block, ad118.off + 5, none⟩ = some (.string (rdOf ByteArray.empty t115 5)) := hS_
         refine norm_ (a' := ?_) ?_ ?_
         rotate_left
         ·
          simp only [putAll, Act.put, List.setIfInBounds_toArray, List.set_cons_zero, List.set_cons_succ]
          rfl
         refine two_ (i := 8) (j := 16) (Ni := some 20) (Nj := some 28) #[T, T, T, T, T, T, T, T, T, T, T, T, T, T, T, T, F, F, T, F] #[T, T, T, T, T, T, T, T, F, T, T, T, T, T, T, T, T, F, T, F] rfl rfl rfl rfl (two_of HT_.out (by kernel_rfl)) (by decide) (by decide) (fun K hK => ?_) (fun K hK => ?_)
         ·
          skip
          refine Kd.R_lit_step k64 _ 64 ?hg (N := 20) ?hd (xs := ([(⟨t120, t121⟩ : S64)] : List (S64))) (inner := [.string t120, .string t121]) (ok := fun _ => True) (okp := fun _ => True) ?hr ?hp (fun _ hk => hk) trivial (Below.refl _ _) (Nat.le_refl _) (by simp) ?_; (case hd => rfl); (case hg => rfl); (case hr => first | (go_simp; done) | (go_simp; rfl)); (case hp => exact (Reps.c2 (show Kd.M k64 _ _ _ (⟨t120, t121⟩ : S64) [.string t120, .string t121] from (k64_mkM _ _ _ (⟨t120, t121⟩ : S64) )) (Reps.none _ _)))
          intro v123 w21 ho22 hb hg_ hnew_
          have HS0_ := hbl hb hHeld.1
          have HS1_ := hbl hb hHeld.2.1
          have HS2_ := hbl hb hHeld.2.2.1
          have HS3_ := hbl hb hHeld.2.2.2
          clear hg_ hnew_
          (first | rw [← Ny122.out] at ho22 | (simp only [Int.reduceToNat] at ho22; rw [← Ny122.out] at ho22))
          have n0_ := am (Kd.R_below (rr HO117.out) hb)
          have n1_ := am (Kd.R_lower ho22 (below_size (bs2 GE114.out GE129.out)))
          have n2_ := am (blk_below (rb BK114.out) hb)
          have n3_ := am (blk_below (rb BK129.out) hb)
          have n4_ := am (below_step (bs2 GE114.out GE129.out) hb)
          revert n0_ n1_ n2_ n3_ n4_; clear HO117 BK114 BK129 HB; intro HO117 HO124 BK114 BK129 HB
          clear hb ho22
          refine hK.out _ _ ⟨HS0_, HS1_, HS2_, HS3_⟩ (fun hHeld => ?_)
          clear hK K
          refine norm_ (a' := ?_) ?_ ?_
          rotate_left
          ·
           show Act.put _ (some 20) _ = _
           simp only [ap, sa, sb, sc, i64_w, i32_w]
           rfl
          exact norm_ (by first | (simp only [putAll, Act.put, List.setIfInBounds_toArray, List.set_cons_zero, List.set_cons_succ]; done) | (simp only [putAll, Act.put, List.setIfInBounds_toArray, List.set_cons_zero, List.set_cons_succ]; rfl)) (hJ7_8_12_18 (v123, gb129) _ ⟨hHeld, (rr HO117.out), (rr HO124.out), (rb BK114.out), (rb BK129.out), GW129.out, GE129.out, NB114_129.out, NB129_114.out, (bs2 GE114.out GE129.out)⟩)
         ·
          skip
          refine goes_ Tryz.func52 (by kernel_rfl) rfl #[.string (rdOf ByteArray.empty t115 5)] (by rfl) rfl rfl aeq ?_
          with_reducible refine (block_number.calls (rdOf ByteArray.empty t115 5) t128 _ A10.out).mono ?_
          rintro e w21 ⟨rfl, hb⟩
          have HS0_ := hbl hb hHeld.1
          have HS1_ := hbl hb hHeld.2.1
          have HS2_ := hbl hb hHeld.2.2.1
          have HS3_ := hbl hb hHeld.2.2.2
          refine ⟨_, rfl, ?_⟩
          have n0_ := am (Kd.R_below (rr HO117.out) hb)
          have n1_ := am (blk_below (rb BK114.out) hb)
          have n2_ := am (blk_below (rb BK129.out) hb)
          have n3_ := am (below_step (bs2 GE114.out GE129.out) hb)
          revert n0_ n1_ n2_ n3_; clear HO117 BK114 BK129 HB; intro HO117 BK114 BK129 HB
          (try clear hb)
          (try clear hb2)
          (try clear hk)
          (try clear hi)
          refine hK.out _ _ ⟨HS0_, HS1_, HS2_, HS3_⟩ (fun hHeld => ?_)
          clear hK K
          refine norm_ (a' := ?_) ?_ ?_
          rotate_left
          ·
           show Act.put _ (some 28) _ = _
           simp only [ap, sa, sb, sc, i64_w, i32_w]
           rfl
          exact norm_ (by first | (simp only [putAll, Act.put, List.setIfInBounds_toArray, List.set_cons_zero, List.set_cons_succ]; done) | (simp only [putAll, Act.put, List.setIfInBounds_toArray, List.set_cons_zero, List.set_cons_succ]; rfl)) (hJ7_12_16_18 (gb129) _ ⟨hHeld, (rr HO117.out), (rb BK114.out), (rb BK129.out), GW129.out, GE129.out, NB114_129.out, NB129_114.out, (bs2 GE114.out GE129.out)⟩)
       ·
        skip
        rintro _ w20 ⟨hS_, h0_, h1_, h2_⟩
        have n0_ : Aside0 (Kd.R Kd.string 9 w20 w.heap.size (fun _ => True) (.slice (some ad118) t115.length co16) t115) := ⟨h0_⟩
        have n1_ : Aside0 (w20.heap[gb114]? = some (.cells #[.string (⟨#[]⟩ : ByteArray), .slice none 0 0, .slice none 0 0, .slice none 0 0, .int .i64 0, .int .i64 0] 47 (0, 0))) := ⟨h1_⟩
        have n2_ : Aside0 (Below w.heap.size w w20) := ⟨h2_⟩
        clear HO117
        clear BK114
        clear HB
        clear h0_ h1_ h2_
        have HO117 := n0_
        have BK114 := n1_
        have HB := n2_
        clear n0_ n1_ n2_
        have hHeld : w20.cell? ad118 = some (.string (rdOf ByteArray.empty t115 0)) ∧ w20.cell? ⟨ad118.block, ad118.off + 3, none⟩ = some (.string (rdOf ByteArray.empty t115 3)) ∧ w20.cell? ⟨ad118.block, ad118.off + 4, none⟩ = some (.string (rdOf ByteArray.empty t115 4)) ∧ w20.cell? ⟨ad118.block, ad118.off + 5, none⟩ = some (.string (rdOf ByteArray.empty t115 5)) := hS_
        refine norm_ (a' := ?_) ?_ ?_
        rotate_left
        ·
         simp only [putAll, Act.put, List.setIfInBounds_toArray, List.set_cons_zero, List.set_cons_succ]
         rfl
        refine two_ (i := 8) (j := 18) (Ni := some 20) (Nj := some 4) #[T, T, T, T, T, T, T, T, T, T, T, T, T, T, T, T, T, F, F, F] #[T, T, T, T, T, T, T, T, F, T, T, T, T, T, T, T, T, F, T, F] rfl rfl rfl rfl (two_of HT_.out (by kernel_rfl)) (by decide) (by decide) (fun K hK => ?_) (fun K hK => ?_)
        ·
         skip
         refine Kd.R_lit_step k64 _ 64 ?hg (N := 20) ?hd (xs := ([(⟨t120, t121⟩ : S64)] : List (S64))) (inner := [.string t120, .string t121]) (ok := fun _ => True) (okp := fun _ => True) ?hr ?hp (fun _ hk => hk) trivial (Below.refl _ _) (Nat.le_refl _) (by simp) ?_; (case hd => rfl); (case hg => rfl); (case hr => first | (go_simp; done) | (go_simp; rfl)); (case hp => exact (Reps.c2 (show Kd.M k64 _ _ _ (⟨t120, t121⟩ : S64) [.string t120, .string t121] from (k64_mkM _ _ _ (⟨t120, t121⟩ : S64) )) (Reps.none _ _)))
         intro v123 w21 ho22 hb hg_ hnew_
         have HS0_ := hbl hb hHeld.1
         have HS1_ := hbl hb hHeld.2.1
         have HS2_ := hbl hb hHeld.2.2.1
         have HS3_ := hbl hb hHeld.2.2.2
         clear hg_ hnew_
         (first | rw [← Ny122.out] at ho22 | (simp only [Int.reduceToNat] at ho22; rw [← Ny122.out] at ho22))
         have n0_ := am (Kd.R_below (rr HO117.out) hb)
         have n1_ := am (Kd.R_lower ho22 (below_size (bs1 GE114.out)))
         have n2_ := am (blk_below (rb BK114.out) hb)
         have n3_ := am (below_step (bs1 GE114.out) hb)
         revert n0_ n1_ n2_ n3_; clear HO117 BK114 HB; intro HO117 HO124 BK114 HB
         clear hb ho22
         obtain ⟨Ao23, co23, eo23⟩ := Kd.R_slice HO124.out
         (first | subst eo23 | (injection eo23 with f1_ f2_ f3_; have f4_ := f1_.symm; have f5_ := f3_.symm; clear f1_ f2_ f3_; subst f4_; subst f5_))
         refine hK.out _ _ ⟨HS0_, HS1_, HS2_, HS3_⟩ (fun hHeld => ?_)
         clear hK K
         refine norm_ (a' := ?_) ?_ ?_
         rotate_left
         ·
          show Act.put _ (some 20) _ = _
          simp only [ap, sa, sb, sc, i64_w, i32_w]
          rfl
         refine pure_ (i := 17) (N := some 29) (v := ?_) (a' := ?_) #[T, T, T, T, T, T, T, T, T, T, T, T, T, T, T, T, T, T, F, F] rfl rfl (any_of HT_.out (by kernel_rfl)) (fun _ _ _ h => h) (Or.inl ⟨by rfl, ?_⟩) ?_ ?_
         rotate_left
         ·
          intro w'
          go_simp
          with_reducible rfl
         rotate_left
         ·
          simp only [ap, sa, sb, sc, i64_w, i32_w]
          rfl
         exact norm_ (by first | (simp only [putAll, Act.put, List.setIfInBounds_toArray, List.set_cons_zero, List.set_cons_succ]; done) | (simp only [putAll, Act.put, List.setIfInBounds_toArray, List.set_cons_zero, List.set_cons_succ]; rfl)) (hJ7_8_12_16 (.slice Ao23 y122.length co23) _ ⟨hHeld, (rr HO117.out), (rr HO124.out), (rb BK114.out), (bs1 GE114.out)⟩)
        ·
         skip
         refine box_step ?hg (N := 4) ?hd (cs := #[.string (⟨#[]⟩ : ByteArray), .slice none 0 0, .slice none 0 0, .slice none 0 0, .int .i64 0, .int .i64 0]) (t := 47) ?hr ?_; (case hd => rfl); (case hg => rfl); (case hr => first | (go_simp; done) | (go_simp; rfl))
         intro gb129 hg w21 hbox hb
         have HS0_ := hbl hb hHeld.1
         have HS1_ := hbl hb hHeld.2.1
         have HS2_ := hbl hb hHeld.2.2.1
         have HS3_ := hbl hb hHeld.2.2.2
         have n0_ := am (Kd.R_below (rr HO117.out) hb)
         have n1_ := am (blk_below (rb BK114.out) hb)
         have n2_ := am (below_step (bs1 GE114.out) hb)
         have n3_ := am (hbox)
         have n4_ := am (gw hg (below_size (bs1 GE114.out)))
         have n5_ := am (gw hg (below_size (bs1 GE114.out)))
         have n6_ := am ((by rw [hg]; exact Nat.ne_of_lt (blk_lt (rb BK114.out)) : gb114 ≠ gb129))
         have n7_ := am ((by rw [hg]; exact Nat.ne_of_gt (blk_lt (rb BK114.out)) : gb129 ≠ gb114))
         revert n0_ n1_ n2_ n3_ n4_ n5_ n6_ n7_; clear HO117 BK114 HB; intro HO117 BK114 HB BK129 GW129 GE129 NB114_129 NB129_114
         clear hb hbox hg
         refine hK.out _ _ ⟨HS0_, HS1_, HS2_, HS3_⟩ (fun hHeld => ?_)
         clear hK K
         refine norm_ (a' := ?_) ?_ ?_
         rotate_left
         ·
          show Act.put _ (some 4) _ = _
          simp only [ap, sa, sb, sc, i64_w, i32_w]
          rfl
         exact norm_ (by first | (simp only [putAll, Act.put, List.setIfInBounds_toArray, List.set_cons_zero, List.set_cons_succ]; done) | (simp only [putAll, Act.put, List.setIfInBounds_toArray, List.set_cons_zero, List.set_cons_succ]; rfl)) (hJ7_12_16_18 (gb129) _ ⟨hHeld, (rr HO117.out), (rb BK114.out), (rb BK129.out), GW129.out, GE129.out, NB114_129.out, NB129_114.out, (bs2 GE114.out GE129.out)⟩)
      ·
       skip
       rintro ⟨v123, gb129⟩ w21 ⟨hS_, h0_, h1_, h2_, h3_, h4_, h5_, h6_, h7_, h8_⟩
       have n0_ : Aside0 (Kd.R Kd.string 9 w21 w.heap.size (fun _ => True) (.slice (some ad118) t115.length co16) t115) := ⟨h0_⟩
       have n1_ : Aside0 (Kd.R k64 64 w21 w.heap.size (fun _ => True) v123 y122) := ⟨h1_⟩
       have n2_ : Aside0 (w21.heap[gb114]? = some (.cells #[.string (⟨#[]⟩ : ByteArray), .slice none 0 0, .slice none 0 0, .slice none 0 0, .int .i64 0, .int .i64 0] 47 (0, 0))) := ⟨h2_⟩
       have n3_ : Aside0 (w21.heap[gb129]? = some (.cells #[.string (⟨#[]⟩ : ByteArray), .slice none 0 0, .slice none 0 0, .slice none 0 0, .int .i64 0, .int .i64 0] 47 (0, 0))) := ⟨h3_⟩
       have n4_ : Aside0 (w.heap.size ≤ gb129) := ⟨h4_⟩
       have n5_ : Aside0 (w.heap.size ≤ gb129) := ⟨h5_⟩
       have n6_ : Aside0 (gb114 ≠ gb129) := ⟨h6_⟩
       have n7_ : Aside0 (gb129 ≠ gb114) := ⟨h7_⟩
       have n8_ : Aside0 (Below w.heap.size w w21) := ⟨h8_⟩
       clear HO117
       clear BK114
       clear HB
       clear h0_ h1_ h2_ h3_ h4_ h5_ h6_ h7_ h8_
       have HO117 := n0_
       have HO124 := n1_
       have BK114 := n2_
       have BK129 := n3_
       have GW129 := n4_
       have GE129 := n5_
       have NB114_129 := n6_
       have NB129_114 := n7_
       have HB := n8_
       clear n0_ n1_ n2_ n3_ n4_ n5_ n6_ n7_ n8_
       have hHeld : w21.cell? ad118 = some (.string (rdOf ByteArray.empty t115 0)) ∧ w21.cell? ⟨ad118.block, ad118.off + 3, none⟩ = some (.string (rdOf ByteArray.empty t115 3)) ∧ w21.cell? ⟨ad118.block, ad118.off + 4, none⟩ = some (.string (rdOf ByteArray.empty t115 4)) ∧ w21.cell? ⟨ad118.block, ad118.off + 5, none⟩ = some (.string (rdOf ByteArray.empty t115 5)) := hS_
       refine norm_ (a' := ?_) ?_ ?_
       rotate_left
       ·
        simp only [putAll, Act.put, List.setIfInBounds_toArray, List.set_cons_zero, List.set_cons_succ]
        rfl
       refine one_ (i := 12) (N := some 24) #[T, T, T, T, T, T, T, T, T, T, T, T, T, T, T, T, F, F, T, F] rfl rfl (one_of HT_.out (by kernel_rfl)) (by decide) (fun K hK => ?_)
       refine goes_ Tryz.func52 (by kernel_rfl) rfl #[.string (rdOf ByteArray.empty t115 4)] (by rfl) rfl rfl aeq ?_
       with_reducible refine (block_number.calls (rdOf ByteArray.empty t115 4) t126 _ A8.out).mono ?_
       rintro e w22 ⟨rfl, hb⟩
       have HS0_ := hbl hb hHeld.1
       have HS1_ := hbl hb hHeld.2.1
       have HS2_ := hbl hb hHeld.2.2.1
       have HS3_ := hbl hb hHeld.2.2.2
       refine ⟨_, rfl, ?_⟩
       have n0_ := am (Kd.R_below (rr HO117.out) hb)
       have n1_ := am (Kd.R_below (rr HO124.out) hb)
       have n2_ := am (blk_below (rb BK114.out) hb)
       have n3_ := am (blk_below (rb BK129.out) hb)
       have n4_ := am (below_step (bs2 GE114.out GE129.out) hb)
       revert n0_ n1_ n2_ n3_ n4_; clear HO117 HO124 BK114 BK129 HB; intro HO117 HO124 BK114 BK129 HB
       (try clear hb)
       (try clear hb2)
       (try clear hk)
       (try clear hi)
       refine hK.out _ _ ⟨HS0_, HS1_, HS2_, HS3_⟩ (fun hHeld => ?_)
       clear hK K
       refine norm_ (a' := ?_) ?_ ?_
       rotate_left
       ·
        show Act.put _ (some 24) _ = _
        simp only [ap, sa, sb, sc, i64_w, i32_w]
        rfl
       exact norm_ (by first | (simp only [putAll, Act.put, List.setIfInBounds_toArray, List.set_cons_zero, List.set_cons_succ]; done) | (simp only [putAll, Act.put, List.setIfInBounds_toArray, List.set_cons_zero, List.set_cons_succ]; rfl)) (hJ7_8_12_18 (v123, gb129) _ ⟨hHeld, (rr HO117.out), (rr HO124.out), (rb BK114.out), (rb BK129.out), GW129.out, GE129.out, NB114_129.out, NB129_114.out, (bs2 GE114.out GE129.out)⟩)
     ·
      skip
      rintro v123 w21 ⟨hS_, h0_, h1_, h2_, h3_⟩
      have n0_ : Aside0 (Kd.R Kd.string 9 w21 w.heap.size (fun _ => True) (.slice (some ad118) t115.length co16) t115) := ⟨h0_⟩
      have n1_ : Aside0 (Kd.R k64 64 w21 w.heap.size (fun _ => True) v123 y122) := ⟨h1_⟩
      have n2_ : Aside0 (w21.heap[gb114]? = some (.cells #[.string (⟨#[]⟩ : ByteArray), .slice none 0 0, .slice none 0 0, .slice none 0 0, .int .i64 0, .int .i64 0] 47 (0, 0))) := ⟨h2_⟩
      have n3_ : Aside0 (Below w.heap.size w w21) := ⟨h3_⟩
      clear HO117
      clear BK114
      clear HB
      clear h0_ h1_ h2_ h3_
      have HO117 := n0_
      have HO124 := n1_
      have BK114 := n2_
      have HB := n3_
      clear n0_ n1_ n2_ n3_
      have hHeld : w21.cell? ad118 = some (.string (rdOf ByteArray.empty t115 0)) ∧ w21.cell? ⟨ad118.block, ad118.off + 3, none⟩ = some (.string (rdOf ByteArray.empty t115 3)) ∧ w21.cell? ⟨ad118.block, ad118.off + 4, none⟩ = some (.string (rdOf ByteArray.empty t115 4)) ∧ w21.cell? ⟨ad118.block, ad118.off + 5, none⟩ = some (.string (rdOf ByteArray.empty t115 5)) := hS_
      refine norm_ (a' := ?_) ?_ ?_
      rotate_left
      ·
       simp only [putAll, Act.put, List.setIfInBounds_toArray, List.set_cons_zero, List.set_cons_succ]
       rfl
      refine two_ (i := 16) (j := 18) (Ni := some 28) (Nj := some 4) #[T, T, T, T, T, T, T, T, T, T, T, T, T, T, T, T, T, F, F, F] #[T, T, T, T, T, T, T, T, T, T, T, T, T, T, T, T, F, F, T, F] rfl rfl rfl rfl (two_of HT_.out (by kernel_rfl)) (by decide) (by decide) (fun K hK => ?_) (fun K hK => ?_)
      ·
       skip
       refine goes_ Tryz.func52 (by kernel_rfl) rfl #[.string (rdOf ByteArray.empty t115 5)] (by rfl) rfl rfl aeq ?_
       with_reducible refine (block_number.calls (rdOf ByteArray.empty t115 5) t128 _ A10.out).mono ?_
       rintro e w22 ⟨rfl, hb⟩
       have HS0_ := hbl hb hHeld.1
       have HS1_ := hbl hb hHeld.2.1
       have HS2_ := hbl hb hHeld.2.2.1
       have HS3_ := hbl hb hHeld.2.2.2
       refine ⟨_, rfl, ?_⟩
       have n0_ := am (Kd.R_below (rr HO117.out) hb)
       have n1_ := am (Kd.R_below (rr HO124.out) hb)
       have n2_ := am (blk_below (rb BK114.out) hb)
       have n3_ := am (below_step (bs1 GE114.out) hb)
       revert n0_ n1_ n2_ n3_; clear HO117 HO124 BK114 HB; intro HO117 HO124 BK114 HB
       (try clear hb)
       (try clear hb2)
       (try clear hk)
       (try clear hi)
       obtain ⟨Ao23, co23, eo23⟩ := Kd.R_slice HO124.out
       (first | subst eo23 | (injection eo23 with f1_ f2_ f3_; have f4_ := f1_.symm; have f5_ := f3_.symm; clear f1_ f2_ f3_; subst f4_; subst f5_))
       refine hK.out _ _ ⟨HS0_, HS1_, HS2_, HS3_⟩ (fun hHeld => ?_)
       clear hK K
       refine norm_ (a' := ?_) ?_ ?_
       rotate_left
       ·
        show Act.put _ (some 28) _ = _
        simp only [ap, sa, sb, sc, i64_w, i32_w]
        rfl
       refine pure_ (i := 17) (N := some 29) (v := ?_) (a' := ?_) #[T, T, T, T, T, T, T, T, T, T, T, T, T, T, T, T, T, T, F, F] rfl rfl (any_of HT_.out (by kernel_rfl)) (fun _ _ _ h => h) (Or.inl ⟨by rfl, ?_⟩) ?_ ?_
       rotate_left
       ·
        intro w'
        go_simp
        with_reducible rfl
       rotate_left
       ·
        simp only [ap, sa, sb, sc, i64_w, i32_w]
        rfl
       exact norm_ (by first | (simp only [putAll, Act.put, List.setIfInBounds_toArray, List.set_cons_zero, List.set_cons_succ]; done) | (simp only [putAll, Act.put, List.setIfInBounds_toArray, List.set_cons_zero, List.set_cons_succ]; rfl)) (hJ7_8_12_16 (.slice Ao23 y122.length co23) _ ⟨hHeld, (rr HO117.out), (rr HO124.out), (rb BK114.out), (bs1 GE114.out)⟩)
      ·
       skip
       refine box_step ?hg (N := 4) ?hd (cs := #[.string (⟨#[]⟩ : ByteArray), .slice none 0 0, .slice none 0 0, .slice none 0 0, .int .i64 0, .int .i64 0]) (t := 47) ?hr ?_; (case hd => rfl); (case hg => rfl); (case hr => first | (go_simp; done) | (go_simp; rfl))
       intro gb129 hg w22 hbox hb
       have HS0_ := hbl hb hHeld.1
       have HS1_ := hbl hb hHeld.2.1
       have HS2_ := hbl hb hHeld.2.2.1
       have HS3_ := hbl hb hHeld.2.2.2
       have n0_ := am (Kd.R_below (rr HO117.out) hb)
       have n1_ := am (Kd.R_below (rr HO124.out) hb)
       have n2_ := am (blk_below (rb BK114.out) hb)
       have n3_ := am (below_step (bs1 GE114.out) hb)
       have n4_ := am (hbox)
       have n5_ := am (gw hg (below_size (bs1 GE114.out)))
       have n6_ := am (gw hg (below_size (bs1 GE114.out)))
       have n7_ := am ((by rw [hg]; exact Nat.ne_of_lt (blk_lt (rb BK114.out)) : gb114 ≠ gb129))
       have n8_ := am ((by rw [hg]; exact Nat.ne_of_gt (blk_lt (rb BK114.out)) : gb129 ≠ gb114))
       revert n0_ n1_ n2_ n3_ n4_ n5_ n6_ n7_ n8_; clear HO117 HO124 BK114 HB; intro HO117 HO124 BK114 HB BK129 GW129 GE129 NB114_129 NB129_114
       clear hb hbox hg
       refine hK.out _ _ ⟨HS0_, HS1_, HS2_, HS3_⟩ (fun hHeld => ?_)
       clear hK K
       refine norm_ (a' := ?_) ?_ ?_
       rotate_left
       ·
        show Act.put _ (some 4) _ = _
        simp only [ap, sa, sb, sc, i64_w, i32_w]
        rfl
       exact norm_ (by first | (simp only [putAll, Act.put, List.setIfInBounds_toArray, List.set_cons_zero, List.set_cons_succ]; done) | (simp only [putAll, Act.put, List.setIfInBounds_toArray, List.set_cons_zero, List.set_cons_succ]; rfl)) (hJ7_8_12_18 (v123, gb129) _ ⟨hHeld, (rr HO117.out), (rr HO124.out), (rb BK114.out), (rb BK129.out), GW129.out, GE129.out, NB114_129.out, NB129_114.out, (bs2 GE114.out GE129.out)⟩)
    ·
     skip
     rintro gb129 w21 ⟨hS_, h0_, h1_, h2_, h3_, h4_, h5_, h6_, h7_⟩
     have n0_ : Aside0 (Kd.R Kd.string 9 w21 w.heap.size (fun _ => True) (.slice (some ad118) t115.length co16) t115) := ⟨h0_⟩
     have n1_ : Aside0 (w21.heap[gb114]? = some (.cells #[.string (⟨#[]⟩ : ByteArray), .slice none 0 0, .slice none 0 0, .slice none 0 0, .int .i64 0, .int .i64 0] 47 (0, 0))) := ⟨h1_⟩
     have n2_ : Aside0 (w21.heap[gb129]? = some (.cells #[.string (⟨#[]⟩ : ByteArray), .slice none 0 0, .slice none 0 0, .slice none 0 0, .int .i64 0, .int .i64 0] 47 (0, 0))) := ⟨h2_⟩
     have n3_ : Aside0 (w.heap.size ≤ gb129) := ⟨h3_⟩
     have n4_ : Aside0 (w.heap.size ≤ gb129) := ⟨h4_⟩
     have n5_ : Aside0 (gb114 ≠ gb129) := ⟨h5_⟩
     have n6_ : Aside0 (gb129 ≠ gb114) := ⟨h6_⟩
     have n7_ : Aside0 (Below w.heap.size w w21) := ⟨h7_⟩
     clear HO117
     clear BK114
     clear HB
     clear h0_ h1_ h2_ h3_ h4_ h5_ h6_ h7_
     have HO117 := n0_
     have BK114 := n1_
     have BK129 := n2_
     have GW129 := n3_
     have GE129 := n4_
     have NB114_129 := n5_
     have NB129_114 := n6_
     have HB := n7_
     clear n0_ n1_ n2_ n3_ n4_ n5_ n6_ n7_
     have hHeld : w21.cell? ad118 = some (.string (rdOf ByteArray.empty t115 0)) ∧ w21.cell? ⟨ad118.block, ad118.off + 3, none⟩ = some (.string (rdOf ByteArray.empty t115 3)) ∧ w21.cell? ⟨ad118.block, ad118.off + 4, none⟩ = some (.string (rdOf ByteArray.empty t115 4)) ∧ w21.cell? ⟨ad118.block, ad118.off + 5, none⟩ = some (.string (rdOf ByteArray.empty t115 5)) := hS_
     refine norm_ (a' := ?_) ?_ ?_
     rotate_left
     ·
      simp only [putAll, Act.put, List.setIfInBounds_toArray, List.set_cons_zero, List.set_cons_succ]
      rfl
     refine one_ (i := 8) (N := some 20) #[T, T, T, T, T, T, T, T, T, T, T, T, T, T, T, T, T, F, T, F] rfl rfl (one_of HT_.out (by kernel_rfl)) (by decide) (fun K hK => ?_)
     refine Kd.R_lit_step k64 _ 64 ?hg (N := 20) ?hd (xs := ([(⟨t120, t121⟩ : S64)] : List (S64))) (inner := [.string t120, .string t121]) (ok := fun _ => True) (okp := fun _ => True) ?hr ?hp (fun _ hk => hk) trivial (Below.refl _ _) (Nat.le_refl _) (by simp) ?_; (case hd => rfl); (case hg => rfl); (case hr => first | (go_simp; done) | (go_simp; rfl)); (case hp => exact (Reps.c2 (show Kd.M k64 _ _ _ (⟨t120, t121⟩ : S64) [.string t120, .string t121] from (k64_mkM _ _ _ (⟨t120, t121⟩ : S64) )) (Reps.none _ _)))
     intro v123 w22 ho23 hb hg_ hnew_
     have HS0_ := hbl hb hHeld.1
     have HS1_ := hbl hb hHeld.2.1
     have HS2_ := hbl hb hHeld.2.2.1
     have HS3_ := hbl hb hHeld.2.2.2
     clear hg_ hnew_
     (first | rw [← Ny122.out] at ho23 | (simp only [Int.reduceToNat] at ho23; rw [← Ny122.out] at ho23))
     have n0_ := am (Kd.R_below (rr HO117.out) hb)
     have n1_ := am (Kd.R_lower ho23 (below_size (bs2 GE114.out GE129.out)))
     have n2_ := am (blk_below (rb BK114.out) hb)
     have n3_ := am (blk_below (rb BK129.out) hb)
     have n4_ := am (below_step (bs2 GE114.out GE129.out) hb)
     revert n0_ n1_ n2_ n3_ n4_; clear HO117 BK114 BK129 HB; intro HO117 HO124 BK114 BK129 HB
     clear hb ho23
     obtain ⟨Ao24, co24, eo24⟩ := Kd.R_slice HO124.out
     (first | subst eo24 | (injection eo24 with f1_ f2_ f3_; have f4_ := f1_.symm; have f5_ := f3_.symm; clear f1_ f2_ f3_; subst f4_; subst f5_))
     refine hK.out _ _ ⟨HS0_, HS1_, HS2_, HS3_⟩ (fun hHeld => ?_)
     clear hK K
     refine norm_ (a' := ?_) ?_ ?_
     rotate_left
     ·
      show Act.put _ (some 20) _ = _
      simp only [ap, sa, sb, sc, i64_w, i32_w]
      rfl
     refine pure_ (i := 17) (N := some 29) (v := ?_) (a' := ?_) #[T, T, T, T, T, T, T, T, T, T, T, T, T, T, T, T, T, T, T, F] rfl rfl (any_of HT_.out (by kernel_rfl)) (fun _ _ _ h => h) (Or.inl ⟨by rfl, ?_⟩) ?_ ?_
     rotate_left
     ·
      intro w'
      go_simp
      with_reducible rfl
     rotate_left
     ·
      simp only [ap, sa, sb, sc, i64_w, i32_w]
      rfl
     exact norm_ (by first | (simp only [putAll, Act.put, List.setIfInBounds_toArray, List.set_cons_zero, List.set_cons_succ]; done) | (simp only [putAll, Act.put, List.setIfInBounds_toArray, List.set_cons_zero, List.set_cons_succ]; rfl)) (hJ7_8_12_16_18 (.slice Ao24 y122.length co24, gb129) _ ⟨hHeld, (rr HO117.out), (rr HO124.out), (rb BK114.out), (rb BK129.out), GW129.out, GE129.out, NB114_129.out, NB129_114.out, (bs2 GE114.out GE129.out)⟩)
   ·
    skip
    rintro ⟨v123, gb129⟩ w22 ⟨hS_, h0_, h1_, h2_, h3_, h4_, h5_, h6_, h7_, h8_⟩
    have n0_ : Aside0 (Kd.R Kd.string 9 w22 w.heap.size (fun _ => True) (.slice (some ad118) t115.length co16) t115) := ⟨h0_⟩
    have n1_ : Aside0 (Kd.R k64 64 w22 w.heap.size (fun _ => True) v123 y122) := ⟨h1_⟩
    have n2_ : Aside0 (w22.heap[gb114]? = some (.cells #[.string (⟨#[]⟩ : ByteArray), .slice none 0 0, .slice none 0 0, .slice none 0 0, .int .i64 0, .int .i64 0] 47 (0, 0))) := ⟨h2_⟩
    have n3_ : Aside0 (w22.heap[gb129]? = some (.cells #[.string (⟨#[]⟩ : ByteArray), .slice none 0 0, .slice none 0 0, .slice none 0 0, .int .i64 0, .int .i64 0] 47 (0, 0))) := ⟨h3_⟩
    have n4_ : Aside0 (w.heap.size ≤ gb129) := ⟨h4_⟩
    have n5_ : Aside0 (w.heap.size ≤ gb129) := ⟨h5_⟩
    have n6_ : Aside0 (gb114 ≠ gb129) := ⟨h6_⟩
    have n7_ : Aside0 (gb129 ≠ gb114) := ⟨h7_⟩
    have n8_ : Aside0 (Below w.heap.size w w22) := ⟨h8_⟩
    clear HO117
    clear BK114
    clear HB
    clear h0_ h1_ h2_ h3_ h4_ h5_ h6_ h7_ h8_
    have HO117 := n0_
    have HO124 := n1_
    have BK114 := n2_
    have BK129 := n3_
    have GW129 := n4_
    have GE129 := n5_
    have NB114_129 := n6_
    have NB129_114 := n7_
    have HB := n8_
    clear n0_ n1_ n2_ n3_ n4_ n5_ n6_ n7_ n8_
    have hHeld : w22.cell? ad118 = some (.string (rdOf ByteArray.empty t115 0)) ∧ w22.cell? ⟨ad118.block, ad118.off + 3, none⟩ = some (.string (rdOf ByteArray.empty t115 3)) ∧ w22.cell? ⟨ad118.block, ad118.off + 4, none⟩ = some (.string (rdOf ByteArray.empty t115 4)) ∧ w22.cell? ⟨ad118.block, ad118.off + 5, none⟩ = some (.string (rdOf ByteArray.empty t115 5)) := hS_
    refine norm_ (a' := ?_) ?_ ?_
    rotate_left
    ·
     simp only [putAll, Act.put, List.setIfInBounds_toArray, List.set_cons_zero, List.set_cons_succ]
     rfl
    refine one_ (i := 16) (N := some 28) #[T, T, T, T, T, T, T, T, T, T, T, T, T, T, T, T, T, F, T, F] rfl rfl (one_of HT_.out (by kernel_rfl)) (by decide) (fun K hK => ?_)
    refine goes_ Tryz.func52 (by kernel_rfl) rfl #[.string (rdOf ByteArray.empty t115 5)] (by rfl) rfl rfl aeq ?_
    with_reducible refine (block_number.calls (rdOf ByteArray.empty t115 5) t128 _ A10.out).mono ?_
    rintro e w23 ⟨rfl, hb⟩
    have HS0_ := hbl hb hHeld.1
    have HS1_ := hbl hb hHeld.2.1
    have HS2_ := hbl hb hHeld.2.2.1
    have HS3_ := hbl hb hHeld.2.2.2
    refine ⟨_, rfl, ?_⟩
    have n0_ := am (Kd.R_below (rr HO117.out) hb)
    have n1_ := am (Kd.R_below (rr HO124.out) hb)
    have n2_ := am (blk_below (rb BK114.out) hb)
    have n3_ := am (blk_below (rb BK129.out) hb)
    have n4_ := am (below_step (bs2 GE114.out GE129.out) hb)
    revert n0_ n1_ n2_ n3_ n4_; clear HO117 HO124 BK114 BK129 HB; intro HO117 HO124 BK114 BK129 HB
    (try clear hb)
    (try clear hb2)
    (try clear hk)
    (try clear hi)
    obtain ⟨Ao24, co24, eo24⟩ := Kd.R_slice HO124.out
    (first | subst eo24 | (injection eo24 with f1_ f2_ f3_; have f4_ := f1_.symm; have f5_ := f3_.symm; clear f1_ f2_ f3_; subst f4_; subst f5_))
    refine hK.out _ _ ⟨HS0_, HS1_, HS2_, HS3_⟩ (fun hHeld => ?_)
    clear hK K
    refine norm_ (a' := ?_) ?_ ?_
    rotate_left
    ·
     show Act.put _ (some 28) _ = _
     simp only [ap, sa, sb, sc, i64_w, i32_w]
     rfl
    refine pure_ (i := 17) (N := some 29) (v := ?_) (a' := ?_) #[T, T, T, T, T, T, T, T, T, T, T, T, T, T, T, T, T, T, T, F] rfl rfl (any_of HT_.out (by kernel_rfl)) (fun _ _ _ h => h) (Or.inl ⟨by rfl, ?_⟩) ?_ ?_
    rotate_left
    ·
     intro w'
     go_simp
     with_reducible rfl
    rotate_left
    ·
     simp only [ap, sa, sb, sc, i64_w, i32_w]
     rfl
    exact norm_ (by first | (simp only [putAll, Act.put, List.setIfInBounds_toArray, List.set_cons_zero, List.set_cons_succ]; done) | (simp only [putAll, Act.put, List.setIfInBounds_toArray, List.set_cons_zero, List.set_cons_succ]; rfl)) (hJ7_8_12_16_18 (.slice Ao24 y122.length co24, gb129) _ ⟨hHeld, (rr HO117.out), (rr HO124.out), (rb BK114.out), (rb BK129.out), GW129.out, GE129.out, NB114_129.out, NB129_114.out, (bs2 GE114.out GE129.out)⟩)
  ·
   skip
   rintro v123 w23 ⟨hS_, h0_, h1_, h2_, h3_⟩
   have n0_ : Aside0 (Kd.R Kd.string 9 w23 w.heap.size (fun _ => True) (.slice (some ad118) t115.length co16) t115) := ⟨h0_⟩
   have n1_ : Aside0 (Kd.R k64 64 w23 w.heap.size (fun _ => True) v123 y122) := ⟨h1_⟩
   have n2_ : Aside0 (w23.heap[gb114]? = some (.cells #[.string (⟨#[]⟩ : ByteArray), .slice none 0 0, .slice none 0 0, .slice none 0 0, .int .i64 0, .int .i64 0] 47 (0, 0))) := ⟨h2_⟩
   have n3_ : Aside0 (Below w.heap.size w w23) := ⟨h3_⟩
   clear HO117
   clear BK114
   clear HB
   clear h0_ h1_ h2_ h3_
   have HO117 := n0_
   have HO124 := n1_
   have BK114 := n2_
   have HB := n3_
   clear n0_ n1_ n2_ n3_
   have hHeld : w23.cell? ad118 = some (.string (rdOf ByteArray.empty t115 0)) ∧ w23.cell? ⟨ad118.block, ad118.off + 3, none⟩ = some (.string (rdOf ByteArray.empty t115 3)) ∧ w23.cell? ⟨ad118.block, ad118.off + 4, none⟩ = some (.string (rdOf ByteArray.empty t115 4)) ∧ w23.cell? ⟨ad118.block, ad118.off + 5, none⟩ = some (.string (rdOf ByteArray.empty t115 5)) := hS_
   obtain ⟨Ao24, co24, eo24⟩ := Kd.R_slice HO124.out
   (first | subst eo24 | (injection eo24 with f1_ f2_ f3_; have f4_ := f1_.symm; have f5_ := f3_.symm; clear f1_ f2_ f3_; subst f4_; subst f5_))
   refine norm_ (a' := ?_) ?_ ?_
   rotate_left
   ·
    simp only [putAll, Act.put, List.setIfInBounds_toArray, List.set_cons_zero, List.set_cons_succ]
    rfl
   refine one_ (i := 18) (N := some 4) #[T, T, T, T, T, T, T, T, T, T, T, T, T, T, T, T, T, T, T, F] rfl rfl (one_of HT_.out (by kernel_rfl)) (by decide) (fun K hK => ?_)
   refine box_step ?hg (N := 4) ?hd (cs := #[.string (⟨#[]⟩ : ByteArray), .slice none 0 0, .slice none 0 0, .slice none 0 0, .int .i64 0, .int .i64 0]) (t := 47) ?hr ?_; (case hd => rfl); (case hg => rfl); (case hr => first | (go_simp; done) | (go_simp; rfl))
   intro gb129 hg w25 hbox hb
   have HS0_ := hbl hb hHeld.1
   have HS1_ := hbl hb hHeld.2.1
   have HS2_ := hbl hb hHeld.2.2.1
   have HS3_ := hbl hb hHeld.2.2.2
   have n0_ := am (Kd.R_below (rr HO117.out) hb)
   have n1_ := am (Kd.R_below (rr HO124.out) hb)
   have n2_ := am (blk_below (rb BK114.out) hb)
   have n3_ := am (below_step (bs1 GE114.out) hb)
   have n4_ := am (hbox)
   have n5_ := am (gw hg (below_size (bs1 GE114.out)))
   have n6_ := am (gw hg (below_size (bs1 GE114.out)))
   have n7_ := am ((by rw [hg]; exact Nat.ne_of_lt (blk_lt (rb BK114.out)) : gb114 ≠ gb129))
   have n8_ := am ((by rw [hg]; exact Nat.ne_of_gt (blk_lt (rb BK114.out)) : gb129 ≠ gb114))
   revert n0_ n1_ n2_ n3_ n4_ n5_ n6_ n7_ n8_; clear HO117 HO124 BK114 HB; intro HO117 HO124 BK114 HB BK129 GW129 GE129 NB114_129 NB129_114
   clear hb hbox hg
   refine hK.out _ _ ⟨HS0_, HS1_, HS2_, HS3_⟩ (fun hHeld => ?_)
   clear hK K
   refine norm_ (a' := ?_) ?_ ?_
   rotate_left
   ·
    show Act.put _ (some 4) _ = _
    simp only [ap, sa, sb, sc, i64_w, i32_w]
    rfl
   exact norm_ (by first | (simp only [putAll, Act.put, List.setIfInBounds_toArray, List.set_cons_zero, List.set_cons_succ]; done) | (simp only [putAll, Act.put, List.setIfInBounds_toArray, List.set_cons_zero, List.set_cons_succ]; rfl)) (hJ7_8_12_16_18 (.slice Ao24 y122.length co24, gb129) _ ⟨hHeld, (rr HO117.out), (rr HO124.out), (rb BK114.out), (rb BK129.out), GW129.out, GE129.out, NB114_129.out, NB129_114.out, (bs2 GE114.out GE129.out)⟩)
 rintro ⟨v123, gb129⟩ w24 ⟨hS_, h0_, h1_, h2_, h3_, h4_, h5_, h6_, h7_, h8_⟩
 have n0_ : Aside0 (Kd.R Kd.string 9 w24 w.heap.size (fun _ => True) (.slice (some ad118) t115.length co16) t115) := ⟨h0_⟩
 have n1_ : Aside0 (Kd.R k64 64 w24 w.heap.size (fun _ => True) v123 y122) := ⟨h1_⟩
 have n2_ : Aside0 (w24.heap[gb114]? = some (.cells #[.string (⟨#[]⟩ : ByteArray), .slice none 0 0, .slice none 0 0, .slice none 0 0, .int .i64 0, .int .i64 0] 47 (0, 0))) := ⟨h2_⟩
 have n3_ : Aside0 (w24.heap[gb129]? = some (.cells #[.string (⟨#[]⟩ : ByteArray), .slice none 0 0, .slice none 0 0, .slice none 0 0, .int .i64 0, .int .i64 0] 47 (0, 0))) := ⟨h3_⟩
 have n4_ : Aside0 (w.heap.size ≤ gb129) := ⟨h4_⟩
 have n5_ : Aside0 (w.heap.size ≤ gb129) := ⟨h5_⟩
 have n6_ : Aside0 (gb114 ≠ gb129) := ⟨h6_⟩
 have n7_ : Aside0 (gb129 ≠ gb114) := ⟨h7_⟩
 have n8_ : Aside0 (Below w.heap.size w w24) := ⟨h8_⟩
 clear HO117
 clear BK114
 clear HB
 clear h0_ h1_ h2_ h3_ h4_ h5_ h6_ h7_ h8_
 have HO117 := n0_
 have HO124 := n1_
 have BK114 := n2_
 have BK129 := n3_
 have GW129 := n4_
 have GE129 := n5_
 have NB114_129 := n6_
 have NB129_114 := n7_
 have HB := n8_
 clear n0_ n1_ n2_ n3_ n4_ n5_ n6_ n7_ n8_
 have hHeld : w24.cell? ad118 = some (.string (rdOf ByteArray.empty t115 0)) ∧ w24.cell? ⟨ad118.block, ad118.off + 3, none⟩ = some (.string (rdOf ByteArray.empty t115 3)) ∧ w24.cell? ⟨ad118.block, ad118.off + 4, none⟩ = some (.string (rdOf ByteArray.empty t115 4)) ∧ w24.cell? ⟨ad118.block, ad118.off + 5, none⟩ = some (.string (rdOf ByteArray.empty t115 5)) := hS_
 obtain ⟨Ao25, co25, eo25⟩ := Kd.R_slice HO124.out
 (first | subst eo25 | (injection eo25 with f1_ f2_ f3_; have f4_ := f1_.symm; have f5_ := f3_.symm; clear f1_ f2_ f3_; subst f4_; subst f5_))
 refine norm_ (a' := ?_) ?_ ?_
 rotate_left
 ·
  simp only [putAll, Act.put, List.setIfInBounds_toArray, List.set_cons_zero, List.set_cons_succ]
  rfl
 refine one_ (i := 19) (N := none) #[T, T, T, T, T, T, T, T, T, T, T, T, T, T, T, T, T, T, T, T] rfl rfl (one_of HT_.out (by kernel_rfl)) (by decide) (fun K hK => ?_)
 have hs26 : w24.cell? ⟨gb129, 0, none⟩ = some (.string (⟨#[]⟩ : ByteArray)) := (blk_cell BK129.out 0).trans rfl
 have hfs26 := blk_frozen BK129.out 0
 have hns26_0 := NB114_129.out
 have hms26_0 := NB129_114.out
 have hs27 : w24.cell? ⟨gb129, 1, none⟩ = some (.slice none 0 0) := (blk_cell BK129.out 1).trans rfl
 have hfs27 := blk_frozen BK129.out 1
 have hns27_0 := NB114_129.out
 have hms27_0 := NB129_114.out
 have hs28 : w24.cell? ⟨gb129, 2, none⟩ = some (.slice none 0 0) := (blk_cell BK129.out 2).trans rfl
 have hfs28 := blk_frozen BK129.out 2
 have hns28_0 := NB114_129.out
 have hms28_0 := NB129_114.out
 have hs29 : w24.cell? ⟨gb129, 3, none⟩ = some (.slice none 0 0) := (blk_cell BK129.out 3).trans rfl
 have hfs29 := blk_frozen BK129.out 3
 have hns29_0 := NB114_129.out
 have hms29_0 := NB129_114.out
 have hs30 : w24.cell? ⟨gb129, 4, none⟩ = some (.int .i64 0) := (blk_cell BK129.out 4).trans rfl
 have hfs30 := blk_frozen BK129.out 4
 have hns30_0 := NB114_129.out
 have hms30_0 := NB129_114.out
 have hs31 : w24.cell? ⟨gb129, 5, none⟩ = some (.int .i64 0) := (blk_cell BK129.out 5).trans rfl
 have hfs31 := blk_frozen BK129.out 5
 have hns31_0 := NB114_129.out
 have hms31_0 := NB129_114.out
 refine skip_ (w1 := ?_) (by rfl) rfl ?_ ?_
 rotate_left
 ·
  go_simp
  rfl
 refine hK.out _ _ ⟨((cell_far (p := ⟨gb129, _, none⟩) (by first | exact Kd.own_blk (Kd.R_ne HO117.out BK129.out (by decide)) | (rw [add_block]; exact Kd.own_blk (Kd.R_ne HO117.out BK129.out (by decide))) | (show (Addr.add _ _).block ≠ _; rw [add_block]; exact Kd.own_blk (Kd.R_ne HO117.out BK129.out (by decide))) | (dsimp only; exact Kd.own_blk (Kd.R_ne HO117.out BK129.out (by decide)))) _).trans (((cell_far (p := ⟨gb129, _, none⟩) (by first | exact Kd.own_blk (Kd.R_ne HO117.out BK129.out (by decide)) | (rw [add_block]; exact Kd.own_blk (Kd.R_ne HO117.out BK129.out (by decide))) | (show (Addr.add _ _).block ≠ _; rw [add_block]; exact Kd.own_blk (Kd.R_ne HO117.out BK129.out (by decide))) | (dsimp only; exact Kd.own_blk (Kd.R_ne HO117.out BK129.out (by decide)))) _).trans (((cell_far (p := ⟨gb129, _, none⟩) (by first | exact Kd.own_blk (Kd.R_ne HO117.out BK129.out (by decide)) | (rw [add_block]; exact Kd.own_blk (Kd.R_ne HO117.out BK129.out (by decide))) | (show (Addr.add _ _).block ≠ _; rw [add_block]; exact Kd.own_blk (Kd.R_ne HO117.out BK129.out (by decide))) | (dsimp only; exact Kd.own_blk (Kd.R_ne HO117.out BK129.out (by decide)))) _).trans (((cell_far (p := ⟨gb129, _, none⟩) (by first | exact Kd.own_blk (Kd.R_ne HO117.out BK129.out (by decide)) | (rw [add_block]; exact Kd.own_blk (Kd.R_ne HO117.out BK129.out (by decide))) | (show (Addr.add _ _).block ≠ _; rw [add_block]; exact Kd.own_blk (Kd.R_ne HO117.out BK129.out (by decide))) | (dsimp only; exact Kd.own_blk (Kd.R_ne HO117.out BK129.out (by decide)))) _).trans (((cell_far (p := ⟨gb129, _, none⟩) (by first | exact Kd.own_blk (Kd.R_ne HO117.out BK129.out (by decide)) | (rw [add_block]; exact Kd.own_blk (Kd.R_ne HO117.out BK129.out (by decide))) | (show (Addr.add _ _).block ≠ _; rw [add_block]; exact Kd.own_blk (Kd.R_ne HO117.out BK129.out (by decide))) | (dsimp only; exact Kd.own_blk (Kd.R_ne HO117.out BK129.out (by decide)))) _).trans (((cell_far (p := ⟨gb129, _, none⟩) (by first | exact Kd.own_blk (Kd.R_ne HO117.out BK129.out (by decide)) | (rw [add_block]; exact Kd.own_blk (Kd.R_ne HO117.out BK129.out (by decide))) | (show (Addr.add _ _).block ≠ _; rw [add_block]; exact Kd.own_blk (Kd.R_ne HO117.out BK129.out (by decide))) | (dsimp only; exact Kd.own_blk (Kd.R_ne HO117.out BK129.out (by decide)))) _).trans (hHeld.1)))))))))))), ((cell_far (p := ⟨gb129, _, none⟩) (by first | exact Kd.own_blk (Kd.R_ne HO117.out BK129.out (by decide)) | (rw [add_block]; exact Kd.own_blk (Kd.R_ne HO117.out BK129.out (by decide))) | (show (Addr.add _ _).block ≠ _; rw [add_block]; exact Kd.own_blk (Kd.R_ne HO117.out BK129.out (by decide))) | (dsimp only; exact Kd.own_blk (Kd.R_ne HO117.out BK129.out (by decide)))) _).trans (((cell_far (p := ⟨gb129, _, none⟩) (by first | exact Kd.own_blk (Kd.R_ne HO117.out BK129.out (by decide)) | (rw [add_block]; exact Kd.own_blk (Kd.R_ne HO117.out BK129.out (by decide))) | (show (Addr.add _ _).block ≠ _; rw [add_block]; exact Kd.own_blk (Kd.R_ne HO117.out BK129.out (by decide))) | (dsimp only; exact Kd.own_blk (Kd.R_ne HO117.out BK129.out (by decide)))) _).trans (((cell_far (p := ⟨gb129, _, none⟩) (by first | exact Kd.own_blk (Kd.R_ne HO117.out BK129.out (by decide)) | (rw [add_block]; exact Kd.own_blk (Kd.R_ne HO117.out BK129.out (by decide))) | (show (Addr.add _ _).block ≠ _; rw [add_block]; exact Kd.own_blk (Kd.R_ne HO117.out BK129.out (by decide))) | (dsimp only; exact Kd.own_blk (Kd.R_ne HO117.out BK129.out (by decide)))) _).trans (((cell_far (p := ⟨gb129, _, none⟩) (by first | exact Kd.own_blk (Kd.R_ne HO117.out BK129.out (by decide)) | (rw [add_block]; exact Kd.own_blk (Kd.R_ne HO117.out BK129.out (by decide))) | (show (Addr.add _ _).block ≠ _; rw [add_block]; exact Kd.own_blk (Kd.R_ne HO117.out BK129.out (by decide))) | (dsimp only; exact Kd.own_blk (Kd.R_ne HO117.out BK129.out (by decide)))) _).trans (((cell_far (p := ⟨gb129, _, none⟩) (by first | exact Kd.own_blk (Kd.R_ne HO117.out BK129.out (by decide)) | (rw [add_block]; exact Kd.own_blk (Kd.R_ne HO117.out BK129.out (by decide))) | (show (Addr.add _ _).block ≠ _; rw [add_block]; exact Kd.own_blk (Kd.R_ne HO117.out BK129.out (by decide))) | (dsimp only; exact Kd.own_blk (Kd.R_ne HO117.out BK129.out (by decide)))) _).trans (((cell_far (p := ⟨gb129, _, none⟩) (by first | exact Kd.own_blk (Kd.R_ne HO117.out BK129.out (by decide)) | (rw [add_block]; exact Kd.own_blk (Kd.R_ne HO117.out BK129.out (by decide))) | (show (Addr.add _ _).block ≠ _; rw [add_block]; exact Kd.own_blk (Kd.R_ne HO117.out BK129.out (by decide))) | (dsimp only; exact Kd.own_blk (Kd.R_ne HO117.out BK129.out (by decide)))) _).trans (hHeld.2.1)))))))))))), ((cell_far (p := ⟨gb129, _, none⟩) (by first | exact Kd.own_blk (Kd.R_ne HO117.out BK129.out (by decide)) | (rw [add_block]; exact Kd.own_blk (Kd.R_ne HO117.out BK129.out (by decide))) | (show (Addr.add _ _).block ≠ _; rw [add_block]; exact Kd.own_blk (Kd.R_ne HO117.out BK129.out (by decide))) | (dsimp only; exact Kd.own_blk (Kd.R_ne HO117.out BK129.out (by decide)))) _).trans (((cell_far (p := ⟨gb129, _, none⟩) (by first | exact Kd.own_blk (Kd.R_ne HO117.out BK129.out (by decide)) | (rw [add_block]; exact Kd.own_blk (Kd.R_ne HO117.out BK129.out (by decide))) | (show (Addr.add _ _).block ≠ _; rw [add_block]; exact Kd.own_blk (Kd.R_ne HO117.out BK129.out (by decide))) | (dsimp only; exact Kd.own_blk (Kd.R_ne HO117.out BK129.out (by decide)))) _).trans (((cell_far (p := ⟨gb129, _, none⟩) (by first | exact Kd.own_blk (Kd.R_ne HO117.out BK129.out (by decide)) | (rw [add_block]; exact Kd.own_blk (Kd.R_ne HO117.out BK129.out (by decide))) | (show (Addr.add _ _).block ≠ _; rw [add_block]; exact Kd.own_blk (Kd.R_ne HO117.out BK129.out (by decide))) | (dsimp only; exact Kd.own_blk (Kd.R_ne HO117.out BK129.out (by decide)))) _).trans (((cell_far (p := ⟨gb129, _, none⟩) (by first | exact Kd.own_blk (Kd.R_ne HO117.out BK129.out (by decide)) | (rw [add_block]; exact Kd.own_blk (Kd.R_ne HO117.out BK129.out (by decide))) | (show (Addr.add _ _).block ≠ _; rw [add_block]; exact Kd.own_blk (Kd.R_ne HO117.out BK129.out (by decide))) | (dsimp only; exact Kd.own_blk (Kd.R_ne HO117.out BK129.out (by decide)))) _).trans (((cell_far (p := ⟨gb129, _, none⟩) (by first | exact Kd.own_blk (Kd.R_ne HO117.out BK129.out (by decide)) | (rw [add_block]; exact Kd.own_blk (Kd.R_ne HO117.out BK129.out (by decide))) | (show (Addr.add _ _).block ≠ _; rw [add_block]; exact Kd.own_blk (Kd.R_ne HO117.out BK129.out (by decide))) | (dsimp only; exact Kd.own_blk (Kd.R_ne HO117.out BK129.out (by decide)))) _).trans (((cell_far (p := ⟨gb129, _, none⟩) (by first | exact Kd.own_blk (Kd.R_ne HO117.out BK129.out (by decide)) | (rw [add_block]; exact Kd.own_blk (Kd.R_ne HO117.out BK129.out (by decide))) | (show (Addr.add _ _).block ≠ _; rw [add_block]; exact Kd.own_blk (Kd.R_ne HO117.out BK129.out (by decide))) | (dsimp only; exact Kd.own_blk (Kd.R_ne HO117.out BK129.out (by decide)))) _).trans (hHeld.2.2.1)))))))))))), ((cell_far (p := ⟨gb129, _, none⟩) (by first | exact Kd.own_blk (Kd.R_ne HO117.out BK129.out (by decide)) | (rw [add_block]; exact Kd.own_blk (Kd.R_ne HO117.out BK129.out (by decide))) | (show (Addr.add _ _).block ≠ _; rw [add_block]; exact Kd.own_blk (Kd.R_ne HO117.out BK129.out (by decide))) | (dsimp only; exact Kd.own_blk (Kd.R_ne HO117.out BK129.out (by decide)))) _).trans (((cell_far (p := ⟨gb129, _, none⟩) (by first | exact Kd.own_blk (Kd.R_ne HO117.out BK129.out (by decide)) | (rw [add_block]; exact Kd.own_blk (Kd.R_ne HO117.out BK129.out (by decide))) | (show (Addr.add _ _).block ≠ _; rw [add_block]; exact Kd.own_blk (Kd.R_ne HO117.out BK129.out (by decide))) | (dsimp only; exact Kd.own_blk (Kd.R_ne HO117.out BK129.out (by decide)))) _).trans (((cell_far (p := ⟨gb129, _, none⟩) (by first | exact Kd.own_blk (Kd.R_ne HO117.out BK129.out (by decide)) | (rw [add_block]; exact Kd.own_blk (Kd.R_ne HO117.out BK129.out (by decide))) | (show (Addr.add _ _).block ≠ _; rw [add_block]; exact Kd.own_blk (Kd.R_ne HO117.out BK129.out (by decide))) | (dsimp only; exact Kd.own_blk (Kd.R_ne HO117.out BK129.out (by decide)))) _).trans (((cell_far (p := ⟨gb129, _, none⟩) (by first | exact Kd.own_blk (Kd.R_ne HO117.out BK129.out (by decide)) | (rw [add_block]; exact Kd.own_blk (Kd.R_ne HO117.out BK129.out (by decide))) | (show (Addr.add _ _).block ≠ _; rw [add_block]; exact Kd.own_blk (Kd.R_ne HO117.out BK129.out (by decide))) | (dsimp only; exact Kd.own_blk (Kd.R_ne HO117.out BK129.out (by decide)))) _).trans (((cell_far (p := ⟨gb129, _, none⟩) (by first | exact Kd.own_blk (Kd.R_ne HO117.out BK129.out (by decide)) | (rw [add_block]; exact Kd.own_blk (Kd.R_ne HO117.out BK129.out (by decide))) | (show (Addr.add _ _).block ≠ _; rw [add_block]; exact Kd.own_blk (Kd.R_ne HO117.out BK129.out (by decide))) | (dsimp only; exact Kd.own_blk (Kd.R_ne HO117.out BK129.out (by decide)))) _).trans (((cell_far (p := ⟨gb129, _, none⟩) (by first | exact Kd.own_blk (Kd.R_ne HO117.out BK129.out (by decide)) | (rw [add_block]; exact Kd.own_blk (Kd.R_ne HO117.out BK129.out (by decide))) | (show (Addr.add _ _).block ≠ _; rw [add_block]; exact Kd.own_blk (Kd.R_ne HO117.out BK129.out (by decide))) | (dsimp only; exact Kd.own_blk (Kd.R_ne HO117.out BK129.out (by decide)))) _).trans (hHeld.2.2.2))))))))))))⟩ (fun hHeld => ?_)
 clear hK K
 refine done_ (done_of HT_.out (by kernel_rfl)) ?_
 have p130 : 0 ≤ (1 : Int) := (by omega); have q130 : 1 < (t115.length : Int) := ode; obtain ⟨ad130, e130, hx130_0⟩ := Kd.at_string (Kd.R_reads' HO117.out).2.2 1 p130 q130
 obtain rfl : ad118 = ad130 := (by injection e130)
 (try simp only [t1, Nat.reduceMul, Nat.reduceEqDiff, Go.Addr.add, ↓reduceIte] at hx130_0)
 have qi130 : (1 < t115.length) = True := eq_true (by omega); (try rw [t1] at hx130_0)
 have hn130_0 : ad118.block ≠ gb129 := Kd.own_blk (Kd.R_ne HO117.out BK129.out (by decide))
 have hn130_1 : ad118.block ≠ gb129 := Kd.own_blk (Kd.R_ne HO117.out BK129.out (by decide))
 have hn130_2 : ad118.block ≠ gb129 := Kd.own_blk (Kd.R_ne HO117.out BK129.out (by decide))
 have hn130_3 : ad118.block ≠ gb129 := Kd.own_blk (Kd.R_ne HO117.out BK129.out (by decide))
 have hn130_4 : ad118.block ≠ gb129 := Kd.own_blk (Kd.R_ne HO117.out BK129.out (by decide))
 have hn130_5 : ad118.block ≠ gb129 := Kd.own_blk (Kd.R_ne HO117.out BK129.out (by decide))
 replace hx130_0 := (cell_far (p := ⟨gb129, 0, none⟩) (an hn130_0) (.string (rdOf ByteArray.empty t115 0))).trans hx130_0
 replace hx130_0 := (cell_far (p := ⟨gb129, 1, none⟩) (an hn130_1) (.slice none 0 0)).trans hx130_0
 replace hx130_0 := (cell_far (p := ⟨gb129, 2, none⟩) (an hn130_2) (.slice none 0 0)).trans hx130_0
 replace hx130_0 := (cell_far (p := ⟨gb129, 3, none⟩) (an hn130_3) (.slice Ao25 y122.length co25)).trans hx130_0
 replace hx130_0 := (cell_far (p := ⟨gb129, 4, none⟩) (an hn130_4) (.int .i64 t126)).trans hx130_0
 replace hx130_0 := (cell_far (p := ⟨gb129, 5, none⟩) (an hn130_5) (.int .i64 t128)).trans hx130_0
 clear hn130_0 hn130_1 hn130_2 hn130_3 hn130_4 hn130_5
 replace p130 := eq_true p130; replace q130 := eq_true q130
 try go_wp2_with (first | ((refine gate_callee (f := 53) rfl ?_); refine goesL_ (some 33) rfl rfl Tryz.func53 (by kernel_rfl) rfl #[.string (rdOf ByteArray.empty t115 1)] rfl aeq ?_; (with_reducible refine (strings_Fields.calls (rdOf ByteArray.empty t115 1) t131 _ ?side1 A12.out).mono ?_); (case side1 => exact GW.below HG.out (bs2 GE114.out GE129.out)); rintro e w32 ⟨v132, rfl, ho0, hb⟩; refine ⟨_, rfl, ?_⟩; replace HO124 := am (Kd.R_below (rr ((Kd.R_mono (Kd.R_far (p := ⟨gb129, 5, none⟩) (Kd.R_far (p := ⟨gb129, 4, none⟩) (Kd.R_far (p := ⟨gb129, 3, none⟩) (Kd.R_far (p := ⟨gb129, 2, none⟩) (Kd.R_far (p := ⟨gb129, 1, none⟩) (Kd.R_far (p := ⟨gb129, 0, none⟩) (Kd.R_types HO124.out BK129.out (by decide)) (fun _ hk => hk.2) (.string (rdOf ByteArray.empty t115 0))) (fun _ hk => hk.2) (.slice none 0 0)) (fun _ hk => hk.2) (.slice none 0 0)) (fun _ hk => hk.2) (.slice Ao25 y122.length co25)) (fun _ hk => hk.2) (.int .i64 t126)) (fun _ hk => hk.2) (.int .i64 t128)) (fun _ h_ => h_.1)))) hb); have HO133 := am (Kd.R_lower (Kd.R_new' ho0 (Kd.R_lt (rr ((Kd.R_mono (Kd.R_far (p := ⟨gb129, 5, none⟩) (Kd.R_far (p := ⟨gb129, 4, none⟩) (Kd.R_far (p := ⟨gb129, 3, none⟩) (Kd.R_far (p := ⟨gb129, 2, none⟩) (Kd.R_far (p := ⟨gb129, 1, none⟩) (Kd.R_far (p := ⟨gb129, 0, none⟩) (Kd.R_types HO117.out BK129.out (by decide)) (fun _ hk => hk.2) (.string (rdOf ByteArray.empty t115 0))) (fun _ hk => hk.2) (.slice none 0 0)) (fun _ hk => hk.2) (.slice none 0 0)) (fun _ hk => hk.2) (.slice Ao25 y122.length co25)) (fun _ hk => hk.2) (.int .i64 t126)) (fun _ hk => hk.2) (.int .i64 t128)) (fun _ h_ => h_.1)))))) (below_size (bs2 GE114.out GE129.out))); replace HO117 := am (Kd.R_elder' (rr ((Kd.R_mono (Kd.R_far (p := ⟨gb129, 5, none⟩) (Kd.R_far (p := ⟨gb129, 4, none⟩) (Kd.R_far (p := ⟨gb129, 3, none⟩) (Kd.R_far (p := ⟨gb129, 2, none⟩) (Kd.R_far (p := ⟨gb129, 1, none⟩) (Kd.R_far (p := ⟨gb129, 0, none⟩) (Kd.R_types HO117.out BK129.out (by decide)) (fun _ hk => hk.2) (.string (rdOf ByteArray.empty t115 0))) (fun _ hk => hk.2) (.slice none 0 0)) (fun _ hk => hk.2) (.slice none 0 0)) (fun _ hk => hk.2) (.slice Ao25 y122.length co25)) (fun _ hk => hk.2) (.int .i64 t126)) (fun _ hk => hk.2) (.int .i64 t128)) (fun _ h_ => h_.1)))) (Kd.R_base ho0) hb); replace BK114 := am (blk_below (g := gb114) (o := .cells #[.string (⟨#[]⟩ : ByteArray), .slice none 0 0, .slice none 0 0, .slice none 0 0, .int .i64 0, .int .i64 0] 47 (0, 0)) (by (with_reducible repeat (first | apply blk_drewN | apply blk_drew | apply blk_alloc)); refine blk_far ?_ NB114_129.out _; (with_reducible repeat (first | apply blk_drewN | apply blk_drew | apply blk_alloc)); refine blk_far ?_ NB114_129.out _; (with_reducible repeat (first | apply blk_drewN | apply blk_drew | apply blk_alloc)); refine blk_far ?_ NB114_129.out _; (with_reducible repeat (first | apply blk_drewN | apply blk_drew | apply blk_alloc)); refine blk_far ?_ NB114_129.out _; (with_reducible repeat (first | apply blk_drewN | apply blk_drew | apply blk_alloc)); refine blk_far ?_ NB114_129.out _; (with_reducible repeat (first | apply blk_drewN | apply blk_drew | apply blk_alloc)); refine blk_far ?_ NB114_129.out _; exact rb BK114.out) hb); replace BK129 := am (blk_below (g := gb129) (o := .cells #[.string (rdOf ByteArray.empty t115 0), .slice none 0 0, .slice none 0 0, .slice Ao25 y122.length co25, .int .i64 t126, .int .i64 t128] 47 (0, 0)) (by refine rb ?_; refine blk_put (cs := #[.string (rdOf ByteArray.empty t115 0), .slice none 0 0, .slice none 0 0, .slice Ao25 y122.length co25, .int .i64 t126, .int .i64 0]) ?_ 5 _ rfl; refine rb ?_; refine blk_put (cs := #[.string (rdOf ByteArray.empty t115 0), .slice none 0 0, .slice none 0 0, .slice Ao25 y122.length co25, .int .i64 0, .int .i64 0]) ?_ 4 _ rfl; refine rb ?_; refine blk_put (cs := #[.string (rdOf ByteArray.empty t115 0), .slice none 0 0, .slice none 0 0, .slice none 0 0, .int .i64 0, .int .i64 0]) ?_ 3 _ rfl; refine rb ?_; refine blk_put (cs := #[.string (rdOf ByteArray.empty t115 0), .slice none 0 0, .slice none 0 0, .slice none 0 0, .int .i64 0, .int .i64 0]) ?_ 2 _ rfl; refine rb ?_; refine blk_put (cs := #[.string (rdOf ByteArray.empty t115 0), .slice none 0 0, .slice none 0 0, .slice none 0 0, .int .i64 0, .int .i64 0]) ?_ 1 _ rfl; refine rb ?_; refine blk_put (cs := #[.string (⟨#[]⟩ : ByteArray), .slice none 0 0, .slice none 0 0, .slice none 0 0, .int .i64 0, .int .i64 0]) ?_ 0 _ rfl; exact rb BK129.out) hb); replace HB := am (below_step (bs2 GE114.out GE129.out) hb); (try clear hb); (try clear hb2); (try clear hk); (try clear hi); (try clear ho0); obtain ⟨Ao33, co33, eo33⟩ := Kd.R_slice HO133.out; subst eo33))
 go_loopg [35] k (fun kq v35 w' => ∃ (x35_1 : Int) (x130002_1 : List (S64)) (u130002 : Value), v35 = .int .i64 x35_1 ∧ Aside0 (block_descriptor.l0 kq t115 t131 (t131.length : Int) x35_1 (rdOf ByteArray.empty t115 0) x130002_1 y122 t126 t128 = some (r1, r2, r3, r4, r5, r6)) ∧ Aside0 (kq ≤ k) ∧ Aside0 (Kd.R Kd.string 9 w' w.heap.size (fun k_ => some k_ ≠ ((.slice Ao33 t131.length co33) : Value).ownBlock) (.slice (some ad118) t115.length co16) t115) ∧ Aside0 (Kd.R Kd.string 9 w' w.heap.size (fun k_ => some k_ ≠ ((.slice (some ad118) t115.length co16) : Value).ownBlock) (.slice Ao33 t131.length co33) t131) ∧ Aside0 (Kd.R k64 64 w' w.heap.size (fun k_ => some k_ ≠ ((.slice Ao25 y122.length co25) : Value).ownBlock) u130002 x130002_1) ∧ Aside0 (Kd.R k64 64 w' w.heap.size (fun k_ => some k_ ≠ (u130002 : Value).ownBlock) (.slice Ao25 y122.length co25) y122) ∧ Aside0 (w'.heap[gb114]? = some (.cells #[.string (⟨#[]⟩ : ByteArray), (.slice none 0 0), (.slice none 0 0), (.slice none 0 0), .int .i64 0, .int .i64 0] 47 (0, 0))) ∧ Aside0 (w'.heap[gb129]? = some (.cells #[.string (rdOf ByteArray.empty t115 0), (.slice none 0 0), u130002, (.slice Ao25 y122.length co25), .int .i64 t126, .int .i64 t128] 47 (0, 0))) ∧ Aside0 (Below w.heap.size w w'))
 case atStart => exact ⟨(0), (([] : List (S64))), (.slice none 0 0), (by first | rfl | (simp; done) | (simp [*]; done)), H', ⟨Nat.le_refl _⟩, ⟨rr (Kd.R_mono HO117.out (fun _ hk => hk.2))⟩, ⟨rr (Kd.R_mono HO133.out (fun _ hk => hk.2))⟩, ⟨by first | exact Kd.R_nil _ _ _ _ _ | exact Kd.N_nil _ _ _ _ _ | exact Kd.V_nil _ _ _ _ _ | exact Kd.Q_nil _ _ _ _ _ | exact Kd.S_nil _ _ _ _ _⟩, ⟨by (with_reducible repeat (first | apply Kd.R_alloc | apply Kd.R_drewN | apply Kd.R_drew)); exact Kd.R_mono HO124.out (fun _ hk => (by simp [Value.ownBlock]))⟩, ⟨rb BK114.out⟩, ⟨rb BK129.out⟩, ⟨bs2 GE114.out GE129.out⟩⟩
 case round =>
  clear H'
  obtain ⟨x35_1, x130002_1, u130002, rfl, HA, HK1, HO_3, HO_33, HO_130002, HO_130003, BK114, BK129, HB⟩ := hrel
  cases gk with
  | zero => exact absurd HA.out (by simp [block_descriptor.l0])
  | succ k1 =>
   have H := HA.out
   clear HA
   simp only [block_descriptor.l0] at H
   by_cases c34 : x35_1 < (t131.length : Int)
   ·
    rw [if_pos c34] at H
    have c34b0 := decide_eq_true c34
    clear c34
    have c35 := oi H; rw [if_pos c35] at H
    have c35b0 := decide_eq_true c35
    clear c35
    have c36 := oi H; rw [if_pos c36] at H
    have c36b0 := decide_eq_true c36
    clear c36
    obtain ⟨⟨t135, t136⟩, A37, H⟩ := Option.bind_eq_some_iff.mp H
    (try dsimp only at H)
    replace A37 := am A37
    have c38 := oi H; rw [if_pos c38] at H
    have LMc38 := am c38
    clear c38
    obtain ⟨y137, hy137⟩ : ∃ y_ : List (S64), y_ = (x130002_1 ++ [(⟨t135, t136⟩ : S64)]) := ⟨_, rfl⟩
    (try rw [← hy137] at H); (try rw [Option.bind_some] at H); (try dsimp only at H)
    have Ny137 := am hy137
    clear hy137
    have H' := am H
    clear H
    have q134 := ixv (i := x35_1) (n := t131.length) ode ode; obtain ⟨ad134, e134, hx134_0⟩ := Kd.at_string (Kd.R_reads' HO_33.out).2.2 x35_1 (of_eq_true q134.1) (of_eq_true q134.2); cases e134; obtain ⟨p134, q134⟩ := q134
    try go_wp2
    have n0_ := am (Kd.R_drew HO_3.out)
    have n1_ := am (Kd.R_drew HO_33.out)
    have n2_ := am (Kd.R_drew HO_130002.out)
    have n3_ := am (Kd.R_drew HO_130003.out)
    have n4_ := am (blk_drew BK114.out)
    have n5_ := am (blk_drew BK129.out)
    have n6_ := am (below_drew1 HB.out)
    revert n0_ n1_ n2_ n3_ n4_ n5_ n6_; clear HO_3 HO_33 HO_130002 HO_130003 BK114 BK129 HB; intro HO_3 HO_33 HO_130002 HO_130003 BK114 BK129 HB
    refine start_ (n := 8) (S := fun w' => w'.cell? ⟨gb129, 0, none⟩ = some (.string (rdOf ByteArray.empty t115 0)) ∧ w'.cell? ⟨gb129, 1, none⟩ = some (.slice none 0 0) ∧ w'.cell? ⟨gb129, 2, none⟩ = some (u130002) ∧ w'.cell? ⟨gb129, 3, none⟩ = some (.slice Ao25 y122.length co25) ∧ w'.cell? ⟨gb129, 4, none⟩ = some (.int .i64 t126) ∧ w'.cell? ⟨gb129, 5, none⟩ = some (.int .i64 t128)) (ds := [7]) #[F, F, F, F, F, F, F, F] (by kernel_rfl) rfl rfl ⟨(blk_cell BK129.out 0).trans rfl, (blk_cell BK129.out 1).trans rfl, (blk_cell BK129.out 2).trans rfl, (blk_cell BK129.out 3).trans rfl, (blk_cell BK129.out 4).trans rfl, (blk_cell BK129.out 5).trans rfl⟩ (fun hHeld => ?_); refine with_tabW block_descriptor.tab6 block_descriptor.bits6 (fun HT_ HW_ => ?_)
    generalize wr.drew = w39 at HO_3 HO_33 HO_130002 HO_130003 BK114 BK129 HB hHeld ⊢
    refine pure_ (i := 0) (N := some 39) (v := ?_) (a' := ?_) #[T, F, F, F, F, F, F, F] rfl rfl (any_of HT_.out (by kernel_rfl)) (fun _ _ _ h => h) (Or.inl ⟨by rfl, ?_⟩) ?_ ?_
    rotate_left
    ·
     intro w'
     go_simp
     with_reducible rfl
    rotate_left
    ·
     simp only [ap, sa, sb, sc, i64_w, i32_w]
     rfl
    refine pure_ (i := 2) (N := some 41) (v := ?_) (a' := ?_) #[T, F, T, F, F, F, F, F] rfl rfl (any_of HT_.out (by kernel_rfl)) (fun _ _ _ h => h) (Or.inl ⟨by rfl, ?_⟩) ?_ ?_
    rotate_left
    ·
     intro w'
     go_simp
     with_reducible rfl
    rotate_left
    ·
     simp only [ap, sa, sb, sc, i64_w, i32_w]
     rfl
    refine take_ (i := 1) (N := some 40) (v := ?_) (a' := ?_) #[T, T, T, F, F, F, F, F] rfl rfl (take_ofW HT_.out HW_.out (by kernel_rfl)) (fun _ _ _ h => h) (Or.inl ⟨by rfl, ?_⟩) hHeld ?_ ?_
    rotate_left
    ·
     rintro w' ⟨s0, s1, s2, s3, s4, s5⟩
     go_simp
     with_reducible rfl
    rotate_left
    ·
     simp only [ap, sa, sb, sc, i64_w, i32_w]
     rfl
    refine one_ (i := 3) (N := some 42) #[T, T, T, T, F, F, F, F] rfl rfl (one_of HT_.out (by kernel_rfl)) (by decide) (fun K hK => ?_)
    refine goes_ Tryz.func51 (by kernel_rfl) rfl #[.string (rdOf ByteArray.empty t131 x35_1)] (by rfl) rfl rfl aeq ?_
    with_reducible refine (block_port.calls (rdOf ByteArray.empty t131 x35_1) t135 t136 _ ?side1 A37.out).mono ?_
    (case side1 => exact GW.below HG.out (bs2 GE114.out GE129.out))
    rintro e w40 ⟨rfl, hb⟩
    refine ⟨_, rfl, ?_⟩
    have n0_ := am (Kd.R_below (rr HO_3.out) hb)
    have n1_ := am (Kd.R_below (rr HO_33.out) hb)
    have n2_ := am (Kd.R_below (rr HO_130002.out) hb)
    have n3_ := am (Kd.R_below (rr HO_130003.out) hb)
    have n4_ := am (blk_below (rb BK114.out) hb)
    have n5_ := am (blk_below (rb BK129.out) hb)
    have n6_ := am (below_step (bs2 GE114.out GE129.out) hb)
    revert n0_ n1_ n2_ n3_ n4_ n5_ n6_; clear HO_3 HO_33 HO_130002 HO_130003 BK114 BK129 HB; intro HO_3 HO_33 HO_130002 HO_130003 BK114 BK129 HB
    (try clear hb)
    (try clear hb2)
    (try clear hk)
    (try clear hi)
    refine hK.out _ _ ⟨(blk_cell BK129.out 0).trans rfl, (blk_cell BK129.out 1).trans rfl, (blk_cell BK129.out 2).trans rfl, (blk_cell BK129.out 3).trans rfl, (blk_cell BK129.out 4).trans rfl, (blk_cell BK129.out 5).trans rfl⟩ (fun hHeld => ?_)
    clear hK K
    refine norm_ (a' := ?_) ?_ ?_
    rotate_left
    ·
     show Act.put _ (some 42) _ = _
     simp only [ap, sa, sb, sc, i64_w, i32_w]
     rfl
    refine one_ (i := 4) (N := some 43) #[T, T, T, T, T, F, F, F] rfl rfl (one_of HT_.out (by kernel_rfl)) (by decide) (fun K hK => ?_)
    refine value_ (w1 := ?_) (v := ?_) (by rfl) rfl ?_ ?_
    rotate_left 2
    ·
     go_simp
     constructor
     ·
      rfl
     ·
      rfl
    refine hK.out _ _ ⟨(blk_cell (blk_alloc BK129.out _) 0).trans rfl, (blk_cell (blk_alloc BK129.out _) 1).trans rfl, (blk_cell (blk_alloc BK129.out _) 2).trans rfl, (blk_cell (blk_alloc BK129.out _) 3).trans rfl, (blk_cell (blk_alloc BK129.out _) 4).trans rfl, (blk_cell (blk_alloc BK129.out _) 5).trans rfl⟩ (fun hHeld => ?_)
    clear hK K
    refine norm_ (a' := ?_) ?_ ?_
    rotate_left
    ·
     show Act.put _ (some 43) _ = _
     simp only [ap, sa, sb, sc, i64_w, i32_w]
     rfl
    refine one_ (i := 5) (N := some 44) #[T, T, T, T, T, T, F, F] rfl rfl (one_of HT_.out (by kernel_rfl)) (by decide) (fun K hK => ?_)
    refine Kd.R_append_step k64 (w0 := w) w.heap.size (by rfl) (.tmp 40) (.tmp 43) 45 64 (.agg #[(.string ⟨#[]⟩), (.string ⟨#[]⟩)]) 32 rfl Tryz.underlying45 info64 rfl (by decide) (by omega) u130002 x130002_1 (⟨t135, t136⟩ : S64) [.string t135, .string t136] (fun k_ => some k_ ≠ (.slice Ao25 y122.length co25 : Value).ownBlock) (fun _ => False) rfl rfl ?aP (fun _ hk => hk.elim) ?aF ?aO ?aB ?aS ?aL ?_
    (case aP => exact k64_mkM _ _ _ (⟨t135, t136⟩ : S64))
    (case aB => exact (bs2 GE114.out GE129.out))
    (case aF => exact (fun k_ hk => Kd.fresh' (Kd.R_lt (rr HO_130003.out)) k_ hk))
    (case aO => exact (rr HO_130002.out))
    (case aS => exact (below_size (bs2 GE114.out GE129.out)))
    (case aL => have := LMc38.out; omega)
    intro v138 w41 ho hb hg hat
    rw [← Ny137.out] at ho
    have n0_ := am (Kd.R_over' (rr HO_3.out) (Kd.R_typed (rr HO_130002.out)) (by decide) hg)
    have n1_ := am (Kd.R_over' (rr HO_33.out) (Kd.R_typed (rr HO_130002.out)) (by decide) hg)
    have n2_ := am (Kd.R_after (ok := (fun _ => True)) (by (with_reducible repeat (first | apply Kd.R_alloc | apply Kd.R_drewN | apply Kd.R_drew)); exact Kd.R_mono HO_130003.out (fun _ hk => ⟨trivial, hk⟩)) hg hat)
    have n3_ := am (blk_grown (rb BK114.out) hg (Kd.R_ne HO_130002.out BK114.out (by decide)))
    have n4_ := am (blk_grown (rb BK129.out) hg (Kd.R_ne HO_130002.out BK129.out (by decide)))
    have n5_ := am (hb)
    have n6_ := am (ho)
    revert n0_ n1_ n2_ n3_ n4_ n5_ n6_; clear HO_3 HO_33 HO_130003 BK114 BK129 HB HO_130002; intro HO_3 HO_33 HO_130003 BK114 BK129 HB HO139
    clear ho hb hg hat
    obtain ⟨Ao42, co42, eo42⟩ := Kd.R_slice HO139.out
    (first | subst eo42 | (injection eo42 with f1_ f2_ f3_; have f4_ := f1_.symm; have f5_ := f3_.symm; clear f1_ f2_ f3_; subst f4_; subst f5_))
    refine hK.out _ _ ⟨(blk_cell BK129.out 0).trans rfl, (blk_cell BK129.out 1).trans rfl, (blk_cell BK129.out 2).trans rfl, (blk_cell BK129.out 3).trans rfl, (blk_cell BK129.out 4).trans rfl, (blk_cell BK129.out 5).trans rfl⟩ (fun hHeld => ?_)
    clear hK K
    refine norm_ (a' := ?_) ?_ ?_
    rotate_left
    ·
     show Act.put _ (some 44) _ = _
     simp only [ap, sa, sb, sc, i64_w, i32_w]
     rfl
    refine pure_ (i := 6) (N := some 45) (v := ?_) (a' := ?_) #[T, T, T, T, T, T, T, F] rfl rfl (any_of HT_.out (by kernel_rfl)) (fun _ _ _ h => h) (Or.inl ⟨by rfl, ?_⟩) ?_ ?_
    rotate_left
    ·
     intro w'
     go_simp
     with_reducible rfl
    rotate_left
    ·
     simp only [ap, sa, sb, sc, i64_w, i32_w]
     rfl
    refine last_ (i := 7) (N := none) #[T, T, T, T, T, T, T, T] rfl rfl (one_of HT_.out (by kernel_rfl)) (by decide) (fun K hK => ?_)
    have hs43 : w41.cell? ⟨gb129, 2, none⟩ = some (u130002) := (blk_cell BK129.out 2).trans rfl
    have hfs43 := blk_frozen BK129.out 2
    have hns43_0 := NB114_129.out
    have hms43_0 := NB129_114.out
    refine skip_ (w1 := ?_) (by rfl) rfl ?_ ?_
    rotate_left
    ·
     go_simp
     rfl
    refine hK.out _ _ ?_
    clear hK K
    refine done_ (done_of HT_.out (by kernel_rfl)) ?_
    try go_wp2
    go_roundg k1
    case measure => have := HK1.out; omega
    case rel => exact ⟨(wrap64 (x35_1 + 1)), (y137), (.slice Ao42 y137.length co42), (by first | rfl | (simp; done) | (simp [*]; done)), H', ⟨by have := HK1.out; omega⟩, ⟨rr (Kd.R_mono (Kd.R_far (p := ⟨gb129, 2, none⟩) (Kd.R_types HO_3.out BK129.out (by decide)) (fun _ hk => hk.2) (.slice Ao42 y137.length co42)) (fun _ hk => hk.1))⟩, ⟨rr (Kd.R_mono (Kd.R_far (p := ⟨gb129, 2, none⟩) (Kd.R_types HO_33.out BK129.out (by decide)) (fun _ hk => hk.2) (.slice Ao42 y137.length co42)) (fun _ hk => hk.1))⟩, ⟨rr (Kd.R_mono (Kd.R_far (p := ⟨gb129, 2, none⟩) (Kd.R_types HO139.out BK129.out (by decide)) (fun _ hk => hk.2) (.slice Ao42 y137.length co42)) (fun _ hk => hk.1))⟩, ⟨rr (Kd.R_mono (Kd.R_far (p := ⟨gb129, 2, none⟩) (Kd.R_types HO_130003.out BK129.out (by decide)) (fun _ hk => hk.2) (.slice Ao42 y137.length co42)) (fun _ hk => hk.1.2))⟩, ⟨by (with_reducible repeat (first | apply blk_drewN | apply blk_drew | apply blk_alloc)); refine blk_far ?_ NB114_129.out _; exact rb BK114.out⟩, ⟨by refine rb ?_; refine blk_put (cs := #[.string (rdOf ByteArray.empty t115 0), .slice none 0 0, u130002, .slice Ao25 y122.length co25, .int .i64 t126, .int .i64 t128]) ?_ 2 _ rfl; exact rb BK129.out⟩, ⟨bs2 GE114.out GE129.out⟩⟩
   rw [if_neg c34] at H
   have c34b0 := decide_eq_false c34
   clear c34
   have c44 := oi H; rw [if_pos c44] at H
   have c44b0 := decide_eq_true c44
   have c44b1 : decide (2 < t115.length) = true := decide_eq_true (by omega)
   clear c44
   obtain ⟨t141, A45, H⟩ := Option.bind_eq_some_iff.mp H
   (try dsimp only at H)
   replace A45 := am A45
   have H' := am H
   clear H
   have p140 : 0 ≤ (2 : Int) := (by omega); have q140 : 2 < (t115.length : Int) := ode; obtain ⟨ad140, e140, hx140_0⟩ := Kd.at_string (Kd.R_reads' HO_3.out).2.2 2 p140 q140
   obtain rfl : ad118 = ad140 := (by injection e140)
   (try simp only [t2, Nat.reduceMul, Nat.reduceEqDiff, Go.Addr.add, ↓reduceIte] at hx140_0)
   have qi140 : (2 < t115.length) = True := eq_true (by omega); (try rw [t2] at hx140_0); replace p140 := eq_true p140; replace q140 := eq_true q140
   go_wp2_with (first | ((refine gate_callee (f := 53) rfl ?_); refine goesL_ (some 50) rfl rfl Tryz.func53 (by kernel_rfl) rfl #[.string (rdOf ByteArray.empty t115 2)] rfl aeq ?_; (with_reducible refine (strings_Fields.calls (rdOf ByteArray.empty t115 2) t141 _ ?side1 A45.out).mono ?_); (case side1 => exact GW.below HG.out (bs2 GE114.out GE129.out)); rintro e w46 ⟨v142, rfl, ho0, hb⟩; refine ⟨_, rfl, ?_⟩; replace HO_130002 := am (Kd.R_below (rr HO_130002.out) hb); replace HO_130003 := am (Kd.R_below (rr HO_130003.out) hb); have HO143 := am (Kd.R_lower (Kd.R_new' (Kd.R_new' ho0 (Kd.R_lt (rr HO_3.out))) (Kd.R_lt (rr HO_33.out))) (below_size (bs2 GE114.out GE129.out))); replace HO_3 := am (Kd.R_elder' (rr HO_3.out) (Kd.R_base ho0) hb); replace HO_33 := am (Kd.R_elder' (rr HO_33.out) (Kd.R_base ho0) hb); replace BK114 := am (blk_below (rb BK114.out) hb); replace BK129 := am (blk_below (rb BK129.out) hb); replace HB := am (below_step (bs2 GE114.out GE129.out) hb); (try clear hb); (try clear hb2); (try clear hk); (try clear hi); (try clear ho0); obtain ⟨Ao47, co47, eo47⟩ := Kd.R_slice HO143.out; subst eo47))
   go_loopg [52] k1 (fun kq v52 w' => ∃ (x52_2 : Int) (x130001_2 : List (S61)) (u130001 : Value), v52 = .int .i64 x52_2 ∧ Aside0 (block_descriptor.l1 kq t141 (t141.length : Int) x52_2 (rdOf ByteArray.empty t115 0) x130001_2 x130002_1 y122 t126 t128 = some (r1, r2, r3, r4, r5, r6)) ∧ Aside0 (kq ≤ k1) ∧ Aside0 (Kd.R Kd.string 9 w' w.heap.size (fun _ => True) (.slice Ao47 t141.length co47) t141) ∧ Aside0 (Kd.R k61 61 w' w.heap.size (fun _ => True) u130001 x130001_2) ∧ Aside0 (Kd.R k64 64 w' w.heap.size (fun k_ => some k_ ≠ ((.slice Ao25 y122.length co25) : Value).ownBlock) u130002 x130002_1) ∧ Aside0 (Kd.R k64 64 w' w.heap.size (fun k_ => some k_ ≠ (u130002 : Value).ownBlock) (.slice Ao25 y122.length co25) y122) ∧ Aside0 (w'.heap[gb114]? = some (.cells #[.string (⟨#[]⟩ : ByteArray), (.slice none 0 0), (.slice none 0 0), (.slice none 0 0), .int .i64 0, .int .i64 0] 47 (0, 0))) ∧ Aside0 (w'.heap[gb129]? = some (.cells #[.string (rdOf ByteArray.empty t115 0), u130001, u130002, (.slice Ao25 y122.length co25), .int .i64 t126, .int .i64 t128] 47 (0, 0))) ∧ Aside0 (Below w.heap.size w w'))
   case atStart => exact ⟨(0), (([] : List (S61))), (.slice none 0 0), (by first | rfl | (simp; done) | (simp [*]; done)), H', ⟨Nat.le_refl _⟩, ⟨rr (Kd.R_mono HO143.out (fun _ hk => trivial))⟩, ⟨by first | exact Kd.R_nil _ _ _ _ _ | exact Kd.N_nil _ _ _ _ _ | exact Kd.V_nil _ _ _ _ _ | exact Kd.Q_nil _ _ _ _ _ | exact Kd.S_nil _ _ _ _ _⟩, ⟨rr HO_130002.out⟩, ⟨rr HO_130003.out⟩, ⟨rb BK114.out⟩, ⟨rb BK129.out⟩, ⟨bs2 GE114.out GE129.out⟩⟩
   case round =>
    clear H'
    obtain ⟨x52_2, x130001_2, u130001, rfl, HA, HK2, HO_50, HO_130001, HO_130002, HO_130003, BK114, BK129, HB⟩ := hrel
    cases gk with
    | zero => exact absurd HA.out (by simp [block_descriptor.l1])
    | succ k2 =>
     have H := HA.out
     clear HA
     simp only [block_descriptor.l1] at H
     by_cases c48 : x52_2 < (t141.length : Int)
     rotate_left
     ·
      rw [if_neg c48] at H
      have c48b0 := decide_eq_false c48
      clear c48
      simp only [Option.some.injEq, Prod.mk.injEq] at H
      obtain ⟨rfl, rfl, rfl, rfl, rfl, rfl⟩ := H
      have hnb69 := NB129_114.out
      have hnc69 := NB114_129.out
      obtain ⟨hcz70_0, hcz70_1, hcz70_2, hcz70_3, hcz70_4, hcz70_5, hfz70_0, hfz70_1, hfz70_2, hfz70_3, hfz70_4, hfz70_5⟩ := bz6 BK129.out; obtain ⟨hcz71_0, hcz71_1, hcz71_2, hcz71_3, hcz71_4, hcz71_5, hfz71_0, hfz71_1, hfz71_2, hfz71_3, hfz71_4, hfz71_5⟩ := bz6 BK114.out
      obtain ⟨Ao72, co72, eo72⟩ := Kd.R_slice HO_130001.out
      subst eo72
      obtain ⟨Ao73, co73, eo73⟩ := Kd.R_slice HO_130002.out
      subst eo73
      go_wp2
      refine bodyPost_ret (results_cell_row rfl _ _ gb114 47 #[.string (rdOf ByteArray.empty t115 0), .slice Ao72 x130001_2.length co72, .slice Ao73 x130002_1.length co73, .slice Ao25 y122.length co25, .int .i64 t126, .int .i64 t128] (0, 0) _ rfl (by refine rb ?_; refine blk_put (cs := #[.string (rdOf ByteArray.empty t115 0), .slice Ao72 x130001_2.length co72, .slice Ao73 x130002_1.length co73, .slice Ao25 y122.length co25, .int .i64 t126, .int .i64 0]) ?_ 5 _ rfl; refine rb ?_; refine blk_put (cs := #[.string (rdOf ByteArray.empty t115 0), .slice Ao72 x130001_2.length co72, .slice Ao73 x130002_1.length co73, .slice Ao25 y122.length co25, .int .i64 0, .int .i64 0]) ?_ 4 _ rfl; refine rb ?_; refine blk_put (cs := #[.string (rdOf ByteArray.empty t115 0), .slice Ao72 x130001_2.length co72, .slice Ao73 x130002_1.length co73, .slice none 0 0, .int .i64 0, .int .i64 0]) ?_ 3 _ rfl; refine rb ?_; refine blk_put (cs := #[.string (rdOf ByteArray.empty t115 0), .slice Ao72 x130001_2.length co72, .slice none 0 0, .slice none 0 0, .int .i64 0, .int .i64 0]) ?_ 2 _ rfl; refine rb ?_; refine blk_put (cs := #[.string (rdOf ByteArray.empty t115 0), .slice none 0 0, .slice none 0 0, .slice none 0 0, .int .i64 0, .int .i64 0]) ?_ 1 _ rfl; refine rb ?_; refine blk_put (cs := #[.string (⟨#[]⟩ : ByteArray), .slice none 0 0, .slice none 0 0, .slice none 0 0, .int .i64 0, .int .i64 0]) ?_ 0 _ rfl; exact rb BK114.out) Tryz.underlying47 rfl (by kernel_rfl)) rfl ?_
      exact ⟨_, _, _, ew, rr (Kd.R_mono (Kd.R_far (p := ⟨gb114, 5, none⟩) (Kd.R_far (p := ⟨gb114, 4, none⟩) (Kd.R_far (p := ⟨gb114, 3, none⟩) (Kd.R_far (p := ⟨gb114, 2, none⟩) (Kd.R_far (p := ⟨gb114, 1, none⟩) (Kd.R_far (p := ⟨gb114, 0, none⟩) (Kd.R_types HO_130001.out BK114.out (by decide)) (fun _ hk => hk.2) (.string (rdOf ByteArray.empty t115 0))) (fun _ hk => hk.2) (.slice Ao72 x130001_2.length co72)) (fun _ hk => hk.2) (.slice Ao73 x130002_1.length co73)) (fun _ hk => hk.2) (.slice Ao25 y122.length co25)) (fun _ hk => hk.2) (.int .i64 t126)) (fun _ hk => hk.2) (.int .i64 t128)) (fun _ hk => trivial)), rr (Kd.R_mono (Kd.R_far (p := ⟨gb114, 5, none⟩) (Kd.R_far (p := ⟨gb114, 4, none⟩) (Kd.R_far (p := ⟨gb114, 3, none⟩) (Kd.R_far (p := ⟨gb114, 2, none⟩) (Kd.R_far (p := ⟨gb114, 1, none⟩) (Kd.R_far (p := ⟨gb114, 0, none⟩) (Kd.R_types HO_130002.out BK114.out (by decide)) (fun _ hk => hk.2) (.string (rdOf ByteArray.empty t115 0))) (fun _ hk => hk.2) (.slice Ao72 x130001_2.length co72)) (fun _ hk => hk.2) (.slice Ao73 x130002_1.length co73)) (fun _ hk => hk.2) (.slice Ao25 y122.length co25)) (fun _ hk => hk.2) (.int .i64 t126)) (fun _ hk => hk.2) (.int .i64 t128)) (fun _ hk => hk.1)), rr (Kd.R_mono (Kd.R_far (p := ⟨gb114, 5, none⟩) (Kd.R_far (p := ⟨gb114, 4, none⟩) (Kd.R_far (p := ⟨gb114, 3, none⟩) (Kd.R_far (p := ⟨gb114, 2, none⟩) (Kd.R_far (p := ⟨gb114, 1, none⟩) (Kd.R_far (p := ⟨gb114, 0, none⟩) (Kd.R_types HO_130003.out BK114.out (by decide)) (fun _ hk => hk.2) (.string (rdOf ByteArray.empty t115 0))) (fun _ hk => hk.2) (.slice Ao72 x130001_2.length co72)) (fun _ hk => hk.2) (.slice Ao73 x130002_1.length co73)) (fun _ hk => hk.2) (.slice Ao25 y122.length co25)) (fun _ hk => hk.2) (.int .i64 t126)) (fun _ hk => hk.2) (.int .i64 t128)) (fun _ hk => hk.1)), bs2 GE114.out GE129.out⟩
     rw [if_pos c48] at H
     have c48b0 := decide_eq_true c48
     clear c48
     have c49 := oi H; rw [if_pos c49] at H
     have c49b0 := decide_eq_true c49
     clear c49
     have c50 := oi H; rw [if_pos c50] at H
     have c50b0 := decide_eq_true c50
     clear c50
     obtain ⟨t145, A51, H⟩ := Option.bind_eq_some_iff.mp H
     (try dsimp only at H)
     replace A51 := am A51
     have c52 := oi H; rw [if_pos c52] at H
     have c52b0 := decide_eq_true c52
     have c52b1 : decide (0 < t145.length) = true := decide_eq_true (by omega)
     clear c52
     have c53 := oi H; rw [if_pos c53] at H
     have c53b0 := decide_eq_true c53
     have c53b1 : decide (1 < t145.length) = true := decide_eq_true (by omega)
     clear c53
     obtain ⟨t150, A54, H⟩ := Option.bind_eq_some_iff.mp H
     (try dsimp only at H)
     replace A54 := am A54
     have c55 := oi H; rw [if_pos c55] at H
     have c55b0 := decide_eq_true c55
     have c55b1 : decide (2 < t145.length) = true := decide_eq_true (by omega)
     clear c55
     obtain ⟨t152, A56, H⟩ := Option.bind_eq_some_iff.mp H
     (try dsimp only at H)
     replace A56 := am A56
     have c57 := oi H; rw [if_pos c57] at H
     have c57b0 := decide_eq_true c57
     have c57b1 : decide (3 < t145.length) = true := decide_eq_true (by omega)
     clear c57
     obtain ⟨t154, A58, H⟩ := Option.bind_eq_some_iff.mp H
     (try dsimp only at H)
     replace A58 := am A58
     have c59 := oi H; rw [if_pos c59] at H
     have LMc59 := am c59
     clear c59
     obtain ⟨y155, hy155⟩ : ∃ y_ : List (S61), y_ = (x130001_2 ++ [(⟨rdOf ByteArray.empty t145 0, t150, t152, t154⟩ : S61)]) := ⟨_, rfl⟩
     (try rw [← hy155] at H); (try rw [Option.bind_some] at H); (try dsimp only at H)
     have Ny155 := am hy155
     clear hy155
     have H' := am H
     clear H
     have q144 := ixv (i := x52_2) (n := t141.length) ode ode; obtain ⟨ad144, e144, hx144_0⟩ := Kd.at_string (Kd.R_reads' HO_50.out).2.2 x52_2 (of_eq_true q144.1) (of_eq_true q144.2); cases e144; obtain ⟨p144, q144⟩ := q144
     try go_wp2_with (first | ((refine gate_callee (f := 41) rfl ?_); refine goesL_ (some 57) rfl rfl Tryz.func41 (by kernel_rfl) rfl #[.string (rdOf ByteArray.empty t141 x52_2), .string (⟨#[58]⟩ : ByteArray)] rfl aeq ?_; (with_reducible refine (strings_Split.calls (rdOf ByteArray.empty t141 x52_2) (⟨#[58]⟩ : ByteArray) t145 _ ?side1 A51.out).mono ?_); (case side1 => exact GW.below HG.out (bs2 GE114.out GE129.out)); rintro e w60 ⟨v146, rfl, ho0, hb⟩; refine ⟨_, rfl, ?_⟩; replace HO_130001 := am (Kd.R_below (rr HO_130001.out) hb); replace HO_130002 := am (Kd.R_below (rr HO_130002.out) hb); replace HO_130003 := am (Kd.R_below (rr HO_130003.out) hb); have HO147 := am (Kd.R_lower (Kd.R_new' ho0 (Kd.R_lt (rr HO_50.out))) (below_size (bs2 GE114.out GE129.out))); replace HO_50 := am (Kd.R_elder' (rr HO_50.out) (Kd.R_base ho0) hb); replace BK114 := am (blk_below (rb BK114.out) hb); replace BK129 := am (blk_below (rb BK129.out) hb); replace HB := am (below_step (bs2 GE114.out GE129.out) hb); (try clear hb); (try clear hb2); (try clear hk); (try clear hi); (try clear ho0)))
     have n0_ := am (Kd.R_drew HO_50.out)
     have n1_ := am (Kd.R_drew HO_130001.out)
     have n2_ := am (Kd.R_drew HO_130002.out)
     have n3_ := am (Kd.R_drew HO_130003.out)
     have n4_ := am (Kd.R_drew HO147.out)
     have n5_ := am (blk_drew BK114.out)
     have n6_ := am (blk_drew BK129.out)
     have n7_ := am (below_drew1 HB.out)
     revert n0_ n1_ n2_ n3_ n4_ n5_ n6_ n7_; clear HO_50 HO_130001 HO_130002 HO_130003 HO147 BK114 BK129 HB; intro HO_50 HO_130001 HO_130002 HO_130003 HO147 BK114 BK129 HB
     obtain ⟨Ao62, co62, eo62⟩ := Kd.R_slice HO147.out
     (first | subst eo62 | (injection eo62 with f1_ f2_ f3_; have f4_ := f1_.symm; have f5_ := f3_.symm; clear f1_ f2_ f3_; subst f4_; subst f5_))
     have q148 := ix0 (n := t145.length) ode; obtain ⟨ad148, e148, hx148_0⟩ := Kd.at_string (Kd.R_reads' HO147.out).2.2 0 (by omega) (of_eq_true q148.2.2); cases e148; (try rw [t0] at hx148_0); (try rw [Addr.add_zero'] at hx148_0); obtain ⟨qi148, p148, q148⟩ := q148; have p149 : 0 ≤ (1 : Int) := (by omega); have q149 : 1 < (t145.length : Int) := ode; obtain ⟨ad149, e149, hx149_0⟩ := Kd.at_string (Kd.R_reads' HO147.out).2.2 1 p149 q149
     obtain rfl : ad148 = ad149 := (by injection e149)
     (try simp only [t1, Nat.reduceMul, Nat.reduceEqDiff, Go.Addr.add, ↓reduceIte] at hx149_0)
     have qi149 : (1 < t145.length) = True := eq_true (by omega); (try rw [t1] at hx149_0); replace p149 := eq_true p149; replace q149 := eq_true q149; have p151 : 0 ≤ (2 : Int) := (by omega); have q151 : 2 < (t145.length : Int) := ode; obtain ⟨ad151, e151, hx151_0⟩ := Kd.at_string (Kd.R_reads' HO147.out).2.2 2 p151 q151
     obtain rfl : ad148 = ad151 := (by injection e151)
     (try simp only [t2, Nat.reduceMul, Nat.reduceEqDiff, Go.Addr.add, ↓reduceIte] at hx151_0)
     have qi151 : (2 < t145.length) = True := eq_true (by omega); (try rw [t2] at hx151_0); replace p151 := eq_true p151; replace q151 := eq_true q151; have p153 : 0 ≤ (3 : Int) := (by omega); have q153 : 3 < (t145.length : Int) := ode; obtain ⟨ad153, e153, hx153_0⟩ := Kd.at_string (Kd.R_reads' HO147.out).2.2 3 p153 q153
     obtain rfl : ad148 = ad153 := (by injection e153)
     (try simp only [t3, Nat.reduceMul, Nat.reduceEqDiff, Go.Addr.add, ↓reduceIte] at hx153_0)
     have qi153 : (3 < t145.length) = True := eq_true (by omega); (try rw [t3] at hx153_0); replace p153 := eq_true p153; replace q153 := eq_true q153
     refine start_ (n := 22) (S := fun w' => w'.cell? ⟨gb129, 0, none⟩ = some (.string (rdOf ByteArray.empty t115 0)) ∧ w'.cell? ⟨gb129, 1, none⟩ = some (u130001) ∧ w'.cell? ⟨gb129, 2, none⟩ = some (u130002) ∧ w'.cell? ⟨gb129, 3, none⟩ = some (.slice Ao25 y122.length co25) ∧ w'.cell? ⟨gb129, 4, none⟩ = some (.int .i64 t126) ∧ w'.cell? ⟨gb129, 5, none⟩ = some (.int .i64 t128) ∧ w'.cell? ad148 = some (.string (rdOf ByteArray.empty t145 0)) ∧ w'.cell? ⟨ad148.block, ad148.off + 1, none⟩ = some (.string (rdOf ByteArray.empty t145 1)) ∧ w'.cell? ⟨ad148.block, ad148.off + 2, none⟩ = some (.string (rdOf ByteArray.empty t145 2)) ∧ w'.cell? ⟨ad148.block, ad148.off + 3, none⟩ = some (.string (rdOf ByteArray.empty t145 3))) (ds := [19, 21]) #[F, F, F, F, F, F, F, F, F, F, F, F, F, F, F, F, F, F, F, F, F, F] (by kernel_rfl) rfl rfl ⟨(blk_cell BK129.out 0).trans rfl, (blk_cell BK129.out 1).trans rfl, (blk_cell BK129.out 2).trans rfl, (blk_cell BK129.out 3).trans rfl, (blk_cell BK129.out 4).trans rfl, (blk_cell BK129.out 5).trans rfl, hx148_0, hx149_0, hx151_0, hx153_0⟩ (fun hHeld => ?_); refine with_tabW block_descriptor.tab12 block_descriptor.bits12 (fun HT_ HW_ => ?_)
     generalize w60.drew = w61 at HO_50 HO_130001 HO_130002 HO_130003 HO147 BK114 BK129 HB hx148_0 hx149_0 hx151_0 hx153_0 hHeld ⊢
     refine pure_ (i := 0) (N := some 58) (v := ?_) (a' := ?_) #[T, F, F, F, F, F, F, F, F, F, F, F, F, F, F, F, F, F, F, F, F, F] rfl rfl (any_of HT_.out (by kernel_rfl)) (fun _ _ _ h => h) (Or.inl ⟨by rfl, ?_⟩) ?_ ?_
     rotate_left
     ·
      intro w'
      go_simp
      with_reducible rfl
     rotate_left
     ·
      simp only [ap, sa, sb, sc, i64_w, i32_w]
      rfl
     refine pure_ (i := 2) (N := some 60) (v := ?_) (a' := ?_) #[T, F, T, F, F, F, F, F, F, F, F, F, F, F, F, F, F, F, F, F, F, F] rfl rfl (any_of HT_.out (by kernel_rfl)) (fun _ _ _ h => h) (Or.inl ⟨by rfl, ?_⟩) ?_ ?_
     rotate_left
     ·
      intro w'
      go_simp
      with_reducible rfl
     rotate_left
     ·
      simp only [ap, sa, sb, sc, i64_w, i32_w]
      rfl
     refine pure_ (i := 3) (N := some 61) (v := ?_) (a' := ?_) #[T, F, T, T, F, F, F, F, F, F, F, F, F, F, F, F, F, F, F, F, F, F] rfl rfl (any_of HT_.out (by kernel_rfl)) (fun _ _ _ h => h) (Or.inl ⟨by rfl, ?_⟩) ?_ ?_
     rotate_left
     ·
      intro w'
      go_simp
      with_reducible rfl
     rotate_left
     ·
      simp only [ap, sa, sb, sc, i64_w, i32_w]
      rfl
     refine pure_ (i := 5) (N := some 63) (v := ?_) (a' := ?_) #[T, F, T, T, F, T, F, F, F, F, F, F, F, F, F, F, F, F, F, F, F, F] rfl rfl (any_of HT_.out (by kernel_rfl)) (fun _ _ _ h => h) (Or.inl ⟨by rfl, ?_⟩) ?_ ?_
     rotate_left
     ·
      intro w'
      go_simp
      with_reducible rfl
     rotate_left
     ·
      simp only [ap, sa, sb, sc, i64_w, i32_w]
      rfl
     refine pure_ (i := 6) (N := some 64) (v := ?_) (a' := ?_) #[T, F, T, T, F, T, T, F, F, F, F, F, F, F, F, F, F, F, F, F, F, F] rfl rfl (any_of HT_.out (by kernel_rfl)) (fun _ _ _ h => h) (Or.inl ⟨by rfl, ?_⟩) ?_ ?_
     rotate_left
     ·
      intro w'
      go_simp
      with_reducible rfl
     rotate_left
     ·
      simp only [ap, sa, sb, sc, i64_w, i32_w]
      rfl
     refine pure_ (i := 9) (N := some 67) (v := ?_) (a' := ?_) #[T, F, T, T, F, T, T, F, F, T, F, F, F, F, F, F, F, F, F, F, F, F] rfl rfl (any_of HT_.out (by kernel_rfl)) (fun _ _ _ h => h) (Or.inl ⟨by rfl, ?_⟩) ?_ ?_
     rotate_left
     ·
      intro w'
      go_simp
      with_reducible rfl
     rotate_left
     ·
      simp only [ap, sa, sb, sc, i64_w, i32_w]
      rfl
     refine pure_ (i := 10) (N := some 68) (v := ?_) (a' := ?_) #[T, F, T, T, F, T, T, F, F, T, T, F, F, F, F, F, F, F, F, F, F, F] rfl rfl (any_of HT_.out (by kernel_rfl)) (fun _ _ _ h => h) (Or.inl ⟨by rfl, ?_⟩) ?_ ?_
     rotate_left
     ·
      intro w'
      go_simp
      with_reducible rfl
     rotate_left
     ·
      simp only [ap, sa, sb, sc, i64_w, i32_w]
      rfl
     refine pure_ (i := 13) (N := some 71) (v := ?_) (a' := ?_) #[T, F, T, T, F, T, T, F, F, T, T, F, F, T, F, F, F, F, F, F, F, F] rfl rfl (any_of HT_.out (by kernel_rfl)) (fun _ _ _ h => h) (Or.inl ⟨by rfl, ?_⟩) ?_ ?_
     rotate_left
     ·
      intro w'
      go_simp
      with_reducible rfl
     rotate_left
     ·
      simp only [ap, sa, sb, sc, i64_w, i32_w]
      rfl
     refine pure_ (i := 14) (N := some 72) (v := ?_) (a' := ?_) #[T, F, T, T, F, T, T, F, F, T, T, F, F, T, T, F, F, F, F, F, F, F] rfl rfl (any_of HT_.out (by kernel_rfl)) (fun _ _ _ h => h) (Or.inl ⟨by rfl, ?_⟩) ?_ ?_
     rotate_left
     ·
      intro w'
      go_simp
      with_reducible rfl
     rotate_left
     ·
      simp only [ap, sa, sb, sc, i64_w, i32_w]
      rfl
     refine take_ (i := 1) (N := some 59) (v := ?_) (a' := ?_) #[T, T, T, T, F, T, T, F, F, T, T, F, F, T, T, F, F, F, F, F, F, F] rfl rfl (take_ofW HT_.out HW_.out (by kernel_rfl)) (fun _ _ _ h => h) (Or.inl ⟨by rfl, ?_⟩) hHeld ?_ ?_
     rotate_left
     ·
      rintro w' ⟨s0, s1, s2, s3, s4, s5, s6, s7, s8, s9⟩
      go_simp
      with_reducible rfl
     rotate_left
     ·
      simp only [ap, sa, sb, sc, i64_w, i32_w]
      rfl
     refine take_ (i := 4) (N := some 62) (v := ?_) (a' := ?_) #[T, T, T, T, T, T, T, F, F, T, T, F, F, T, T, F, F, F, F, F, F, F] rfl rfl (take_ofW HT_.out HW_.out (by kernel_rfl)) (fun _ _ _ h => h) (Or.inl ⟨by rfl, ?_⟩) hHeld ?_ ?_
     rotate_left
     ·
      rintro w' ⟨s0, s1, s2, s3, s4, s5, s6, s7, s8, s9⟩
      go_simp
      with_reducible rfl
     rotate_left
     ·
      simp only [ap, sa, sb, sc, i64_w, i32_w]
      rfl
     refine take_ (i := 7) (N := some 65) (v := ?_) (a' := ?_) #[T, T, T, T, T, T, T, T, F, T, T, F, F, T, T, F, F, F, F, F, F, F] rfl rfl (take_ofW HT_.out HW_.out (by kernel_rfl)) (fun _ _ _ h => h) (Or.inl ⟨by rfl, ?_⟩) hHeld ?_ ?_
     rotate_left
     ·
      rintro w' ⟨s0, s1, s2, s3, s4, s5, s6, s7, s8, s9⟩
      go_simp
      with_reducible rfl
     rotate_left
     ·
      simp only [ap, sa, sb, sc, i64_w, i32_w]
      rfl
     refine take_ (i := 11) (N := some 69) (v := ?_) (a' := ?_) #[T, T, T, T, T, T, T, T, F, T, T, T, F, T, T, F, F, F, F, F, F, F] rfl rfl (take_ofW HT_.out HW_.out (by kernel_rfl)) (fun _ _ _ h => h) (Or.inl ⟨by rfl, ?_⟩) hHeld ?_ ?_
     rotate_left
     ·
      rintro w' ⟨s0, s1, s2, s3, s4, s5, s6, s7, s8, s9⟩
      go_simp
      with_reducible rfl
     rotate_left
     ·
      simp only [ap, sa, sb, sc, i64_w, i32_w]
      rfl
     refine take_ (i := 15) (N := some 73) (v := ?_) (a' := ?_) #[T, T, T, T, T, T, T, T, F, T, T, T, F, T, T, T, F, F, F, F, F, F] rfl rfl (take_ofW HT_.out HW_.out (by kernel_rfl)) (fun _ _ _ h => h) (Or.inl ⟨by rfl, ?_⟩) hHeld ?_ ?_
     rotate_left
     ·
      rintro w' ⟨s0, s1, s2, s3, s4, s5, s6, s7, s8, s9⟩
      go_simp
      with_reducible rfl
     rotate_left
     ·
      simp only [ap, sa, sb, sc, i64_w, i32_w]
      rfl
     refine one_ (i := 8) (N := some 66) #[T, T, T, T, T, T, T, T, T, T, T, T, F, T, T, T, F, F, F, F, F, F] rfl rfl (one_of HT_.out (by kernel_rfl)) (by decide) (fun K hK => ?_)
     refine goes_ Tryz.func52 (by kernel_rfl) rfl #[.string (rdOf ByteArray.empty t145 1)] (by rfl) rfl rfl aeq ?_
     with_reducible refine (block_number.calls (rdOf ByteArray.empty t145 1) t150 _ A54.out).mono ?_
     rintro e w63 ⟨rfl, hb⟩
     have HS6_ := hbl hb hHeld.2.2.2.2.2.2.1
     have HS7_ := hbl hb hHeld.2.2.2.2.2.2.2.1
     have HS8_ := hbl hb hHeld.2.2.2.2.2.2.2.2.1
     have HS9_ := hbl hb hHeld.2.2.2.2.2.2.2.2.2
     refine ⟨_, rfl, ?_⟩
     have n0_ := am (Kd.R_below (rr HO_50.out) hb)
     have n1_ := am (Kd.R_below (rr HO_130001.out) hb)
     have n2_ := am (Kd.R_below (rr HO_130002.out) hb)
     have n3_ := am (Kd.R_below (rr HO_130003.out) hb)
     have n4_ := am (Kd.R_below (rr HO147.out) hb)
     have n5_ := am (blk_below (rb BK114.out) hb)
     have n6_ := am (blk_below (rb BK129.out) hb)
     have n7_ := am (below_step (bs2 GE114.out GE129.out) hb)
     revert n0_ n1_ n2_ n3_ n4_ n5_ n6_ n7_; clear HO_50 HO_130001 HO_130002 HO_130003 HO147 BK114 BK129 HB; intro HO_50 HO_130001 HO_130002 HO_130003 HO147 BK114 BK129 HB
     (try clear hb)
     (try clear hb2)
     (try clear hk)
     (try clear hi)
     refine hK.out _ _ ⟨(blk_cell BK129.out 0).trans rfl, (blk_cell BK129.out 1).trans rfl, (blk_cell BK129.out 2).trans rfl, (blk_cell BK129.out 3).trans rfl, (blk_cell BK129.out 4).trans rfl, (blk_cell BK129.out 5).trans rfl, HS6_, HS7_, HS8_, HS9_⟩ (fun hHeld => ?_)
     clear hK K
     refine norm_ (a' := ?_) ?_ ?_
     rotate_left
     ·
      show Act.put _ (some 66) _ = _
      simp only [ap, sa, sb, sc, i64_w, i32_w]
      rfl
     refine one_ (i := 12) (N := some 70) #[T, T, T, T, T, T, T, T, T, T, T, T, T, T, T, T, F, F, F, F, F, F] rfl rfl (one_of HT_.out (by kernel_rfl)) (by decide) (fun K hK => ?_)
     refine goes_ Tryz.func52 (by kernel_rfl) rfl #[.string (rdOf ByteArray.empty t145 2)] (by rfl) rfl rfl aeq ?_
     with_reducible refine (block_number.calls (rdOf ByteArray.empty t145 2) t152 _ A56.out).mono ?_
     rintro e w64 ⟨rfl, hb⟩
     have HS6_ := hbl hb hHeld.2.2.2.2.2.2.1
     have HS7_ := hbl hb hHeld.2.2.2.2.2.2.2.1
     have HS8_ := hbl hb hHeld.2.2.2.2.2.2.2.2.1
     have HS9_ := hbl hb hHeld.2.2.2.2.2.2.2.2.2
     refine ⟨_, rfl, ?_⟩
     have n0_ := am (Kd.R_below (rr HO_50.out) hb)
     have n1_ := am (Kd.R_below (rr HO_130001.out) hb)
     have n2_ := am (Kd.R_below (rr HO_130002.out) hb)
     have n3_ := am (Kd.R_below (rr HO_130003.out) hb)
     have n4_ := am (Kd.R_below (rr HO147.out) hb)
     have n5_ := am (blk_below (rb BK114.out) hb)
     have n6_ := am (blk_below (rb BK129.out) hb)
     have n7_ := am (below_step (bs2 GE114.out GE129.out) hb)
     revert n0_ n1_ n2_ n3_ n4_ n5_ n6_ n7_; clear HO_50 HO_130001 HO_130002 HO_130003 HO147 BK114 BK129 HB; intro HO_50 HO_130001 HO_130002 HO_130003 HO147 BK114 BK129 HB
     (try clear hb)
     (try clear hb2)
     (try clear hk)
     (try clear hi)
     refine hK.out _ _ ⟨(blk_cell BK129.out 0).trans rfl, (blk_cell BK129.out 1).trans rfl, (blk_cell BK129.out 2).trans rfl, (blk_cell BK129.out 3).trans rfl, (blk_cell BK129.out 4).trans rfl, (blk_cell BK129.out 5).trans rfl, HS6_, HS7_, HS8_, HS9_⟩ (fun hHeld => ?_)
     clear hK K
     refine norm_ (a' := ?_) ?_ ?_
     rotate_left
     ·
      show Act.put _ (some 70) _ = _
      simp only [ap, sa, sb, sc, i64_w, i32_w]
      rfl
     refine one_ (i := 16) (N := some 74) #[T, T, T, T, T, T, T, T, T, T, T, T, T, T, T, T, T, F, F, F, F, F] rfl rfl (one_of HT_.out (by kernel_rfl)) (by decide) (fun K hK => ?_)
     refine goes_ Tryz.func52 (by kernel_rfl) rfl #[.string (rdOf ByteArray.empty t145 3)] (by rfl) rfl rfl aeq ?_
     with_reducible refine (block_number.calls (rdOf ByteArray.empty t145 3) t154 _ A58.out).mono ?_
     rintro e w65 ⟨rfl, hb⟩
     have HS6_ := hbl hb hHeld.2.2.2.2.2.2.1
     have HS7_ := hbl hb hHeld.2.2.2.2.2.2.2.1
     have HS8_ := hbl hb hHeld.2.2.2.2.2.2.2.2.1
     have HS9_ := hbl hb hHeld.2.2.2.2.2.2.2.2.2
     refine ⟨_, rfl, ?_⟩
     have n0_ := am (Kd.R_below (rr HO_50.out) hb)
     have n1_ := am (Kd.R_below (rr HO_130001.out) hb)
     have n2_ := am (Kd.R_below (rr HO_130002.out) hb)
     have n3_ := am (Kd.R_below (rr HO_130003.out) hb)
     have n4_ := am (Kd.R_below (rr HO147.out) hb)
     have n5_ := am (blk_below (rb BK114.out) hb)
     have n6_ := am (blk_below (rb BK129.out) hb)
     have n7_ := am (below_step (bs2 GE114.out GE129.out) hb)
     revert n0_ n1_ n2_ n3_ n4_ n5_ n6_ n7_; clear HO_50 HO_130001 HO_130002 HO_130003 HO147 BK114 BK129 HB; intro HO_50 HO_130001 HO_130002 HO_130003 HO147 BK114 BK129 HB
     (try clear hb)
     (try clear hb2)
     (try clear hk)
     (try clear hi)
     refine hK.out _ _ ⟨(blk_cell BK129.out 0).trans rfl, (blk_cell BK129.out 1).trans rfl, (blk_cell BK129.out 2).trans rfl, (blk_cell BK129.out 3).trans rfl, (blk_cell BK129.out 4).trans rfl, (blk_cell BK129.out 5).trans rfl, HS6_, HS7_, HS8_, HS9_⟩ (fun hHeld => ?_)
     clear hK K
     refine norm_ (a' := ?_) ?_ ?_
     rotate_left
     ·
      show Act.put _ (some 74) _ = _
      simp only [ap, sa, sb, sc, i64_w, i32_w]
      rfl
     refine pure_ (i := 17) (N := some 75) (v := ?_) (a' := ?_) #[T, T, T, T, T, T, T, T, T, T, T, T, T, T, T, T, T, T, F, F, F, F] rfl rfl (any_of HT_.out (by kernel_rfl)) (fun _ _ _ h => h) (Or.inl ⟨by rfl, ?_⟩) ?_ ?_
     rotate_left
     ·
      intro w'
      go_simp
      with_reducible rfl
     rotate_left
     ·
      simp only [ap, sa, sb, sc, i64_w, i32_w]
      rfl
     refine one_ (i := 18) (N := some 76) #[T, T, T, T, T, T, T, T, T, T, T, T, T, T, T, T, T, T, T, F, F, F] rfl rfl (one_of HT_.out (by kernel_rfl)) (by decide) (fun K hK => ?_)
     refine value_ (w1 := ?_) (v := ?_) (by rfl) rfl ?_ ?_
     rotate_left 2
     ·
      go_simp
      constructor
      ·
       rfl
      ·
       rfl
     refine hK.out _ _ ⟨(blk_cell (blk_alloc BK129.out _) 0).trans rfl, (blk_cell (blk_alloc BK129.out _) 1).trans rfl, (blk_cell (blk_alloc BK129.out _) 2).trans rfl, (blk_cell (blk_alloc BK129.out _) 3).trans rfl, (blk_cell (blk_alloc BK129.out _) 4).trans rfl, (blk_cell (blk_alloc BK129.out _) 5).trans rfl, (World.cell?_alloc_lt _ _ _ (World.block_lt_of_cell? _ _ (hHeld.2.2.2.2.2.2.1))).trans (hHeld.2.2.2.2.2.2.1), (World.cell?_alloc_lt _ _ _ (World.block_lt_of_cell? _ _ (hHeld.2.2.2.2.2.2.2.1))).trans (hHeld.2.2.2.2.2.2.2.1), (World.cell?_alloc_lt _ _ _ (World.block_lt_of_cell? _ _ (hHeld.2.2.2.2.2.2.2.2.1))).trans (hHeld.2.2.2.2.2.2.2.2.1), (World.cell?_alloc_lt _ _ _ (World.block_lt_of_cell? _ _ (hHeld.2.2.2.2.2.2.2.2.2))).trans (hHeld.2.2.2.2.2.2.2.2.2)⟩ (fun hHeld => ?_)
     clear hK K
     refine norm_ (a' := ?_) ?_ ?_
     rotate_left
     ·
      show Act.put _ (some 76) _ = _
      simp only [ap, sa, sb, sc, i64_w, i32_w]
      rfl
     refine last_ (i := 19) (N := some 77) #[T, T, T, T, T, T, T, T, T, T, T, T, T, T, T, T, T, T, T, T, F, F] rfl rfl (one_of HT_.out (by kernel_rfl)) (by decide) (fun K hK => ?_)
     refine Kd.R_append_step k61 (w0 := w) w.heap.size (by rfl) (.tmp 59) (.tmp 76) 44 61 (.agg #[(.string ⟨#[]⟩), (.int .i64 0), (.int .i64 0), (.int .i64 0)]) 40 rfl Tryz.underlying44 info61 rfl (by decide) (by omega) u130001 x130001_2 (⟨rdOf ByteArray.empty t145 0, t150, t152, t154⟩ : S61) [.string (rdOf ByteArray.empty t145 0), .int .i64 t150, .int .i64 t152, .int .i64 t154] (fun _ => True) (fun _ => False) rfl rfl ?aP (fun _ hk => hk.elim) ?aF ?aO ?aB ?aS ?aL ?_
     (case aP => exact k61_mkM _ _ _ (⟨rdOf ByteArray.empty t145 0, t150, t152, t154⟩ : S61))
     (case aB => exact (bs2 GE114.out GE129.out))
     (case aF => exact (fun _ _ => trivial))
     (case aO => exact (rr HO_130001.out))
     (case aS => exact (below_size (bs2 GE114.out GE129.out)))
     (case aL => have := LMc59.out; omega)
     intro v156 w66 ho hb hg hat
     rw [← Ny155.out] at ho
     have n0_ := am (Kd.R_over' (rr HO_50.out) (Kd.R_typed (rr HO_130001.out)) (by decide) hg)
     have n1_ := am (Kd.R_over' (rr HO_130002.out) (Kd.R_typed (rr HO_130001.out)) (by decide) hg)
     have n2_ := am (Kd.R_over' (rr HO_130003.out) (Kd.R_typed (rr HO_130001.out)) (by decide) hg)
     have n3_ := am (blk_grown (rb BK114.out) hg (Kd.R_ne HO_130001.out BK114.out (by decide)))
     have n4_ := am (blk_grown (rb BK129.out) hg (Kd.R_ne HO_130001.out BK129.out (by decide)))
     have n5_ := am (Kd.R_over' (rr HO147.out) (Kd.R_typed (rr HO_130001.out)) (by decide) hg)
     have n6_ := am (hb)
     have n7_ := am (ho)
     revert n0_ n1_ n2_ n3_ n4_ n5_ n6_ n7_; clear HO_50 HO_130002 HO_130003 BK114 BK129 HO147 HB HO_130001; intro HO_50 HO_130002 HO_130003 BK114 BK129 HO147 HB HO157
     clear ho hb hg hat
     obtain ⟨Ao67, co67, eo67⟩ := Kd.R_slice HO157.out
     (first | subst eo67 | (injection eo67 with f1_ f2_ f3_; have f4_ := f1_.symm; have f5_ := f3_.symm; clear f1_ f2_ f3_; subst f4_; subst f5_))
     refine hK.out _ _ ?_
     clear hK K
     refine norm_ (a' := ?_) ?_ ?_
     rotate_left
     ·
      show Act.put _ (some 77) _ = _
      simp only [ap, sa, sb, sc, i64_w, i32_w]
      rfl
     refine pure_ (i := 20) (N := some 78) (v := ?_) (a' := ?_) #[T, T, T, T, T, T, T, T, T, T, T, T, T, T, T, T, T, T, T, T, T, F] rfl rfl (any_of HT_.out (by kernel_rfl)) (fun _ _ _ h => h) (Or.inl ⟨by rfl, ?_⟩) ?_ ?_
     rotate_left
     ·
      intro w'
      go_simp
      with_reducible rfl
     rotate_left
     ·
      simp only [ap, sa, sb, sc, i64_w, i32_w]
      rfl
     refine last_ (i := 21) (N := none) #[T, T, T, T, T, T, T, T, T, T, T, T, T, T, T, T, T, T, T, T, T, T] rfl rfl (one_of HT_.out (by kernel_rfl)) (by decide) (fun K hK => ?_)
     have hs68 : w66.cell? ⟨gb129, 1, none⟩ = some (u130001) := (blk_cell BK129.out 1).trans rfl
     have hfs68 := blk_frozen BK129.out 1
     have hns68_0 := NB114_129.out
     have hms68_0 := NB129_114.out
     refine skip_ (w1 := ?_) (by rfl) rfl ?_ ?_
     rotate_left
     ·
      go_simp
      rfl
     refine hK.out _ _ ?_
     clear hK K
     refine done_ (done_of HT_.out (by kernel_rfl)) ?_
     try go_wp2
     go_roundg k2
     case measure => have := HK1.out; have := HK2.out; omega
     case rel => exact ⟨(wrap64 (x52_2 + 1)), (y155), (.slice Ao67 y155.length co67), (by first | rfl | (simp; done) | (simp [*]; done)), H', ⟨by have := HK1.out; have := HK2.out; omega⟩, ⟨rr (Kd.R_mono (Kd.R_far (p := ⟨gb129, 1, none⟩) (Kd.R_types HO_50.out BK129.out (by decide)) (fun _ hk => hk.2) (.slice Ao67 y155.length co67)) (fun _ hk => trivial))⟩, ⟨rr (Kd.R_mono (Kd.R_far (p := ⟨gb129, 1, none⟩) (Kd.R_types HO157.out BK129.out (by decide)) (fun _ hk => hk.2) (.slice Ao67 y155.length co67)) (fun _ hk => trivial))⟩, ⟨rr (Kd.R_mono (Kd.R_far (p := ⟨gb129, 1, none⟩) (Kd.R_types HO_130002.out BK129.out (by decide)) (fun _ hk => hk.2) (.slice Ao67 y155.length co67)) (fun _ hk => hk.1))⟩, ⟨rr (Kd.R_mono (Kd.R_far (p := ⟨gb129, 1, none⟩) (Kd.R_types HO_130003.out BK129.out (by decide)) (fun _ hk => hk.2) (.slice Ao67 y155.length co67)) (fun _ hk => hk.1))⟩, ⟨by (with_reducible repeat (first | apply blk_drewN | apply blk_drew | apply blk_alloc)); refine blk_far ?_ NB114_129.out _; exact rb BK114.out⟩, ⟨by refine rb ?_; refine blk_put (cs := #[.string (rdOf ByteArray.empty t115 0), u130001, u130002, .slice Ao25 y122.length co25, .int .i64 t126, .int .i64 t128]) ?_ 1 _ rfl; exact rb BK129.out⟩, ⟨bs2 GE114.out GE129.out⟩⟩
end Go.Proofs.YtjjbdgngncgikaaGreatDoor.R
