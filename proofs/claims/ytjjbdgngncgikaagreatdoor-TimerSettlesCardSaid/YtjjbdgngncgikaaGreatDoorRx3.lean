import Derived.Test.YtjjbdgngncgikaaGreatDoorRx0
namespace Go.Proofs.YtjjbdgngncgikaaGreatDoor.R
open Go.RowKit Go.Proofs.YtjjbdgngncgikaaGreatDoorW.PrintWords Go.Proofs.YtjjbdgngncgikaaGreatDoorW.PrintLast Go.Proofs.YtjjbdgngncgikaaGreatDoorW.PrintMore
attribute [local go_sem] max2_int min2_int max_two min_two max_three min_three max_four min_four
set_option linter.unusedVariables false
set_option linter.unusedSimpArgs false

def strings_Split.f (a0 a1 : ByteArray) : Option (List ByteArray) := if a0.size < 4294967281 then (match a1.data.toList with
  | [c] => some ((Fast.lsplit c [] a0.data.toList).map fun l => (⟨l.toArray⟩ : ByteArray))
  | _ => none) else none
theorem strings_Split.calls (a0 a1 : ByteArray) (r : List ByteArray) (w : World) (hG : GW w) (h : strings_Split.f a0 a1 = some r) :
    Calls Tryz.prog 41 #[.string a0, .string a1] w fun e w' => ∃ v0_ : Value, e = .returned (v0_) ∧ Kd.R Kd.string 9 w' w.heap.size (fun _ => True) v0_ r ∧ Below w.heap.size w w' := by
  unfold strings_Split.f at h
  split at h
  · rename_i hc
    split at h
    · rename_i c hc1
      have h2 := Option.some.inj h
      obtain ⟨⟨m, hm⟩, _⟩ := hG
      have hs1 : a1.size = 1 := by
        have := congrArg List.length hc1
        simpa using this
      have hr : Lib.splitB a1 0 (Lib.countB a0 a1) a0 = r := by
        rw [← h2, ← Fast.split_fast c _ _ (Nat.le_refl _)]
        have h3 := Lib.splitB_data a1 0 (Lib.countB a0 a1) a0
        rw [hc1] at h3
        have h4 : Lib.countB a0 a1 = Lib.count a0.data.toList [c] := by unfold Lib.countB; rw [hc1]
        unfold Lib.split
        rw [← h4, ← h3, List.map_map]
        simp [Function.comp_def]
      have hl := Lib.splitB_all a1 (by omega) 0 _ a0 rfl
      refine (Tryz.strings_Split a0 a1 m w hc hm (by omega)).mono ?_
      rintro e w' ⟨rfl, rfl⟩
      refine ⟨_, rfl, ⟨fun _ _ => trivial, ?_⟩, below_alloc (Below.refl _ _) _⟩
      have hle := Lib.countB_le a1 (by omega) a0.size a0 (Nat.le_refl _)
      have hq := OwnRow.lit (R := fun (x : ByteArray) (cs : List Value) => cs = [Value.string x]) (e := 9) w w.heap.size (Kd.reps_scalar (enc := Value.string) (Lib.splitB a1 0 (Lib.countB a0 a1) a0)) (Nat.le_refl _) (by rw [hl]; omega)
      rw [hl] at hq
      rw [← hr]
      exact hq
    · cases h
  · cases h


def stringslite_HasPrefix.f (a0 : ByteArray) (a1 : ByteArray) : Option (Bool) := if (a0.size : Int) ≥ (a1.size : Int) then (if 0 ≤ (a1.size : Int) then (if (a1.size : Int) ≤ (a0.size : Int) then (some ((a0.extract 0 ((a1.size : Int) : Int).toNat).toList == a1.toList)) else (none)) else (none)) else (some false)
set_option maxHeartbeats 8000000 in
set_option maxRecDepth 100000 in
theorem stringslite_HasPrefix.calls (a0 : ByteArray) (a1 : ByteArray) (r : Bool) (w : World) (h : stringslite_HasPrefix.f a0 a1 = some r) :
  Calls Tryz.prog 49 #[.string a0, .string a1] w fun e w' => e = .returned (.bool r) ∧ Drawn0 w w' := by
 have H : (if (a0.size : Int) ≥ (a1.size : Int) then (if 0 ≤ (a1.size : Int) then (if (a1.size : Int) ≤ (a0.size : Int) then (some ((a0.extract 0 ((a1.size : Int) : Int).toNat).toList == a1.toList)) else (none)) else (none)) else (some false)) = some r := h
 clear h
 by_cases c3 : (a0.size : Int) ≥ (a1.size : Int)
 rotate_left
 ·
  rw [if_neg c3] at H
  have c3b0 : decide ((a1.size : Int) ≤ (a0.size : Int)) = false := decide_eq_false c3
  have c3b1 : decide (a1.size ≤ a0.size) = false := decide_eq_false (fun h => c3 (Int.ofNat_le.mpr h))
  clear c3
  obtain rfl := Option.some.inj H
  go_enter Tryz.func49, Tryz.ntmps49
  go_wp2
  go_ret
  exact ⟨by first | rfl | (simp; done) | (simp [*]; done), by repeat (first | exact Drawn0.refl _ | apply Drawn0.step)⟩
 rw [if_pos c3] at H
 have c3b0 : decide ((a1.size : Int) ≤ (a0.size : Int)) = true := decide_eq_true c3
 have c3b1 : decide (a1.size ≤ a0.size) = true := decide_eq_true (Int.ofNat_le.mp c3)
 clear c3
 have c4 := oi H; rw [if_pos c4] at H
 have c4b0 := eq_true c4
 have c4b1 := decide_eq_true c4
 clear c4
 have c5 := oi H; rw [if_pos c5] at H
 have c5b0 := eq_true c5
 have c5b1 := decide_eq_true c5
 clear c5
 obtain rfl := Option.some.inj H
 go_enter Tryz.func49, Tryz.ntmps49
 go_wp2
 go_ret
 exact ⟨by first | rfl | (simp; done) | (simp [*]; done), by repeat (first | exact Drawn0.refl _ | apply Drawn0.step)⟩
def strings_HasPrefix.f (a0 : ByteArray) (a1 : ByteArray) : Option (Bool) := (stringslite_HasPrefix.f a0 a1).bind fun t106 => (some t106)
set_option maxHeartbeats 8000000 in
set_option maxRecDepth 100000 in
theorem strings_HasPrefix.calls (a0 : ByteArray) (a1 : ByteArray) (r : Bool) (w : World) (h : strings_HasPrefix.f a0 a1 = some r) :
  Calls Tryz.prog 42 #[.string a0, .string a1] w fun e w' => e = .returned (.bool r) ∧ Drawn0 w w' := by
 have H : ((stringslite_HasPrefix.f a0 a1).bind fun t106 => (some t106)) = some r := h
 clear h
 obtain ⟨t106, A3, H⟩ := Option.bind_eq_some_iff.mp H
 (try dsimp only at H)
 replace A3 := am A3
 obtain rfl := Option.some.inj H
 go_enter Tryz.func42, Tryz.ntmps42
 go_wp2_with (first | ((refine gate_callee (f := 49) rfl ?_); refine gl (some 7) Tryz.func49 #[.string a0, .string a1] ?_; (with_reducible refine (stringslite_HasPrefix.calls a0 a1 t106 _ A3.out).mono ?_); rintro e w' ⟨rfl, ⟨nd, rfl⟩⟩; refine ⟨_, rfl, ?_⟩))
 go_ret
 exact ⟨by first | rfl | (simp; done) | (simp [*]; done), by repeat (first | exact Drawn0.refl _ | apply Drawn0.step)⟩
def strings_Contains.f (a0 a1 : ByteArray) : Option Bool := match a1.data.toList with
  | [c] => some (a0.data.toList.elem c)
  | _ => none
theorem strings_Contains.calls (a0 a1 : ByteArray) (r : Bool) (w : World) (h : strings_Contains.f a0 a1 = some r) :
    Calls Tryz.prog 43 #[.string a0, .string a1] w fun e w' => e = .returned (.bool r) ∧ Drawn0 w w' := by
  unfold strings_Contains.f at h
  split at h
  · rename_i c hc
    obtain rfl := Option.some.inj h
    have e1 : a1 = ⟨#[c]⟩ := by
      cases a1 with
      | mk d => cases d with
        | mk l => simp at hc; rw [hc]
    subst e1
    refine (Tryz.strings_Contains_one a0 c w).mono ?_
    rintro e w' ⟨rfl, rfl⟩
    rw [Fast.ib_mem]
    exact ⟨rfl, Drawn0.refl _⟩
  · cases h


def strings_Cut.f (a0 a1 : ByteArray) : Option (ByteArray × ByteArray × Bool) := if a0.size < 4294967281 then (match a1.data.toList with
  | [c] => some (⟨(Fast.cutAt c [] a0.data.toList).1.toArray⟩, ⟨(Fast.cutAt c [] a0.data.toList).2.1.toArray⟩, (Fast.cutAt c [] a0.data.toList).2.2)
  | _ => none) else none
theorem strings_Cut.calls (a0 a1 r1 r2 : ByteArray) (r3 : Bool) (w : World) (hG : GW w) (h : strings_Cut.f a0 a1 = some (r1, r2, r3)) :
    Calls Tryz.prog 57 #[.string a0, .string a1] w fun e w' => e = .returned (.tuple #[.string r1, .string r2, .bool r3]) ∧ Below w.heap.size w w' := by
  unfold strings_Cut.f at h
  split at h
  · rename_i hc
    split at h
    · rename_i c hc1
      have h1 := Option.some.inj h
      simp only [Prod.mk.injEq] at h1
      obtain ⟨rfl, rfl, rfl⟩ := h1
      obtain ⟨⟨m, hm⟩, _⟩ := hG
      refine (Tryz.strings_Cut a0 a1 m w hc hm).mono ?_
      rintro e w' ⟨rfl, n, rfl⟩
      rw [hc1, Fast.cut_fast]
      exact ⟨rfl, Drawn0.below ⟨⟨n, rfl⟩⟩⟩
    · cases h
  · cases h


def strings_ReplaceAll.f (a0 a1 a2 : ByteArray) : Option ByteArray := if a0.size < 4294967281 then (match a1.data.toList, a2.data.toList with
  | [c], [d] => some ⟨(a0.data.toList.map fun b => if b = c then d else b).toArray⟩
  | _, _ => none) else none
theorem strings_ReplaceAll.calls (a0 a1 a2 : ByteArray) (r : ByteArray) (w : World) (hG : GW w) (h : strings_ReplaceAll.f a0 a1 a2 = some r) :
    Calls Tryz.prog 58 #[.string a0, .string a1, .string a2] w fun e w' => e = .returned (.string r) ∧ Below w.heap.size w w' := by
  unfold strings_ReplaceAll.f at h
  split at h
  · rename_i hc
    split at h
    · rename_i c d hc1 hc2
      obtain rfl := Option.some.inj h
      obtain ⟨⟨m, hm⟩, _⟩ := hG
      have hs1 : a1.size = 1 := by
        have := congrArg List.length hc1
        simpa using this
      have hs2 : a2.size = 1 := by
        have := congrArg List.length hc2
        simpa using this
      have hle := Lib.countB_le a1 (by omega) a0.size a0 (Nat.le_refl _)
      refine (Tryz.strings_ReplaceAll a0 a1 a2 m w hc hm (by omega) (by rw [hs2]; omega)).mono ?_
      rintro e w' ⟨rfl, hb⟩
      rw [hc1, hc2, Fast.replace_fast]
      exact ⟨rfl, hb⟩
    · cases h
  · cases h


def block_port.f (a0 : ByteArray) : Option (ByteArray × ByteArray) := (strings_Cut.f a0 (⟨#[58]⟩ : ByteArray)).bind fun bt108 => ((strings_ReplaceAll.f bt108.2.1 (⟨#[95]⟩ : ByteArray) (⟨#[32]⟩ : ByteArray)).bind fun t111 => (some (bt108.1, t111)))
set_option maxHeartbeats 8000000 in
set_option maxRecDepth 100000 in
theorem block_port.calls (a0 : ByteArray) (r1 : ByteArray) (r2 : ByteArray) (w : World) (hG : GW w) (h : block_port.f a0 = some (r1, r2)) :
  Calls Tryz.prog 51 #[.string a0] w fun e w' => e = .returned (.agg #[.string r1, .string r2]) ∧ Below w.heap.size w w' := by
 have hu64 := Tryz.underlying64
 have HG := am hG
 clear hG
 have HB := am (Below.refl w.heap.size w)
 have H : ((strings_Cut.f a0 (⟨#[58]⟩ : ByteArray)).bind fun bt108 => ((strings_ReplaceAll.f bt108.2.1 (⟨#[95]⟩ : ByteArray) (⟨#[32]⟩ : ByteArray)).bind fun t111 => (some (bt108.1, t111)))) = some (r1, r2) := h
 clear h
 obtain ⟨⟨t108, t109, t110⟩, A2, H⟩ := Option.bind_eq_some_iff.mp H
 (try dsimp only at H)
 replace A2 := am A2
 obtain ⟨t111, A3, H⟩ := Option.bind_eq_some_iff.mp H
 (try dsimp only at H)
 replace A3 := am A3
 simp only [Option.some.injEq, Prod.mk.injEq] at H
 obtain ⟨rfl, rfl⟩ := H
 go_enter Tryz.func51, Tryz.ntmps51
 go_wp2_with (first | ((refine gate_dst (N := 2) rfl ?_); refine bx (N := 2) (cs := #[.string (⟨#[]⟩ : ByteArray), .string (⟨#[]⟩ : ByteArray)]) (t := 64) ?_; intro gb107 hg w4 hbox hb; have BK107 := am (hbox); have GW107 := am (gw hg (below_size bl)); have GE107 := am (gw hg (below_size bl)); replace HB := am (below_step bl hb); clear hb hbox hg) | ((refine gate_callee (f := 57) rfl ?_); refine gl (some 8) Tryz.func57 #[.string a0, .string (⟨#[58]⟩ : ByteArray)] ?_; (with_reducible refine (strings_Cut.calls a0 (⟨#[58]⟩ : ByteArray) t108 t109 t110 _ ?side1 A2.out).mono ?_); (case side1 => exact GW.below HG.out (bs1 GE107.out)); rintro e w5 ⟨rfl, hb⟩; refine ⟨_, rfl, ?_⟩; replace BK107 := am (blk_below (rb BK107.out) hb); replace HB := am (below_step (bs1 GE107.out) hb); (try clear hb); (try clear hb2); (try clear hk); (try clear hi)) | ((refine gate_callee (f := 58) rfl ?_); refine gl (some 14) Tryz.func58 #[.string t109, .string (⟨#[95]⟩ : ByteArray), .string (⟨#[32]⟩ : ByteArray)] ?_; (with_reducible refine (strings_ReplaceAll.calls t109 (⟨#[95]⟩ : ByteArray) (⟨#[32]⟩ : ByteArray) t111 _ ?side1 A3.out).mono ?_); (case side1 => exact GW.below HG.out (bs1 GE107.out)); rintro e w6 ⟨rfl, hb⟩; refine ⟨_, rfl, ?_⟩; replace BK107 := am (blk_below (rb BK107.out) hb); replace HB := am (below_step (bs1 GE107.out) hb); (try clear hb); (try clear hb2); (try clear hk); (try clear hi); obtain ⟨hcz7_0, hcz7_1, hfz7_0, hfz7_1⟩ := bz2 BK107.out))
 refine bodyPost_ret (results_cell_row rfl _ _ gb107 64 #[.string t108, .string t111] (0, 0) _ rfl (by refine rb ?_; refine blk_put (cs := #[.string t108, .string (⟨#[]⟩ : ByteArray)]) ?_ 1 _ rfl; refine rb ?_; refine blk_put (cs := #[.string (⟨#[]⟩ : ByteArray), .string (⟨#[]⟩ : ByteArray)]) ?_ 0 _ rfl; exact rb BK107.out) Tryz.underlying64 rfl (by kernel_rfl)) rfl ?_
 exact ⟨ew, bs1 GE107.out⟩
def strconv_ParseInt.f (a0 : ByteArray) (a1 a2 : Int) : Option (Int × Option Int) := if a1 = 10 ∧ a2 = 64 ∧ a0.size ≤ 9223372036854775806 then (match Lib.parseIntB 64 a0.data.toList with
  | .ok v => some (v, none)
  | _ => none) else none
theorem strconv_ParseInt.calls (a0 : ByteArray) (a1 a2 : Int) (r1 : Int) (r2 : Option Int) (w : World) (h : strconv_ParseInt.f a0 a1 a2 = some (r1, r2)) :
    Calls Tryz.prog 59 #[.string a0, .int .i64 a1, .int .i64 a2] w fun e w' => e = .returned (.tuple #[.int .i64 r1, errW r2]) ∧ Below w.heap.size w w' := by
  unfold strconv_ParseInt.f at h
  split at h
  · rename_i hc
    obtain ⟨rfl, rfl, hc⟩ := hc
    split at h
    · rename_i v hv
      have h1 := Option.some.inj h
      simp only [Prod.mk.injEq] at h1
      obtain ⟨rfl, rfl⟩ := h1
      refine (Tryz.strconv_ParseInt_10_at64_ok a0 hc v hv w).mono ?_
      rintro e w' ⟨rfl, hw⟩
      refine ⟨rfl, ?_⟩
      rcases hw with rfl | ⟨t, rfl⟩
      · exact Below.refl _ _
      · exact bytes_below (Below.refl _ _) (Nat.le_refl _) _ _
    · cases h
  · cases h


def block_number.f (a0 : ByteArray) : Option (Int) := if a0.toList = ([77] : List UInt8) then (some 1000000000000) else (if a0.toList = ([45, 77] : List UInt8) then (some (-1000000000000)) else (if a0.toList = ([68] : List UInt8) then (some 86400) else ((strconv_ParseInt.f a0 10 64).bind fun bt112 => (some bt112.1))))
set_option maxHeartbeats 8000000 in
set_option maxRecDepth 100000 in
theorem block_number.calls (a0 : ByteArray) (r : Int) (w : World) (h : block_number.f a0 = some r) :
  Calls Tryz.prog 52 #[.string a0] w fun e w' => e = .returned (.int .i64 r) ∧ Below w.heap.size w w' := by
 have HB := am (Below.refl w.heap.size w)
 have H : (if a0.toList = ([77] : List UInt8) then (some 1000000000000) else (if a0.toList = ([45, 77] : List UInt8) then (some (-1000000000000)) else (if a0.toList = ([68] : List UInt8) then (some 86400) else ((strconv_ParseInt.f a0 10 64).bind fun bt112 => (some bt112.1))))) = some r := h
 clear h
 by_cases c2 : a0.toList = ([77] : List UInt8)
 ·
  rw [if_pos c2] at H
  have c2b0 := beq_iff_eq.mpr c2
  have c2b1 := bne_eq_false_iff_eq.mpr c2
  clear c2
  obtain rfl := Option.some.inj H
  go_enter Tryz.func52, Tryz.ntmps52
  go_wp2
  go_ret
  exact ⟨ew, bl⟩
 rw [if_neg c2] at H
 have c2b0 := beq_eq_false_iff_ne.mpr c2
 have c2b1 := bne_iff_ne.mpr c2
 by_cases c3 : a0.toList = ([45, 77] : List UInt8)
 ·
  rw [if_pos c3] at H
  have c3b0 := beq_iff_eq.mpr c3
  have c3b1 := bne_eq_false_iff_eq.mpr c3
  clear c3
  obtain rfl := Option.some.inj H
  go_enter Tryz.func52, Tryz.ntmps52
  go_wp2
  go_ret
  exact ⟨ew, bl⟩
 rw [if_neg c3] at H
 have c3b0 := beq_eq_false_iff_ne.mpr c3
 have c3b1 := bne_iff_ne.mpr c3
 by_cases c4 : a0.toList = ([68] : List UInt8)
 ·
  rw [if_pos c4] at H
  have c4b0 := beq_iff_eq.mpr c4
  have c4b1 := bne_eq_false_iff_eq.mpr c4
  clear c4
  obtain rfl := Option.some.inj H
  go_enter Tryz.func52, Tryz.ntmps52
  go_wp2
  go_ret
  exact ⟨ew, bl⟩
 rw [if_neg c4] at H
 have c4b0 := beq_eq_false_iff_ne.mpr c4
 have c4b1 := bne_iff_ne.mpr c4
 obtain ⟨⟨t112, t113⟩, A5, H⟩ := Option.bind_eq_some_iff.mp H
 (try dsimp only at H)
 replace A5 := am A5
 obtain rfl := Option.some.inj H
 go_enter Tryz.func52, Tryz.ntmps52
 go_wp2_with (first | ((refine gate_callee (f := 59) rfl ?_); refine gl (some 14) Tryz.func59 #[.string a0, .int .i64 10, .int .i64 64] ?_; (with_reducible refine (strconv_ParseInt.calls a0 10 64 t112 t113 _ A5.out).mono ?_); rintro e w6 ⟨rfl, hb⟩; refine ⟨_, rfl, ?_⟩; replace HB := am (below_step bl hb); (try clear hb); (try clear hb2); (try clear hk); (try clear hi); (try simp only [errW_none, errW_some])))
 go_ret
 exact ⟨ew, bl⟩
def strings_Fields.f (a0 : ByteArray) : Option (List ByteArray) := if a0.size < 4294967281 ∧ a0.data.toList.all (fun b => decide (b.toNat < 128)) = true then some ((Lib.fields a0.data.toList).map fun l => (⟨l.toArray⟩ : ByteArray)) else none
theorem strings_Fields.calls (a0 : ByteArray) (r : List ByteArray) (w : World) (hG : GW w) (h : strings_Fields.f a0 = some r) :
    Calls Tryz.prog 53 #[.string a0] w fun e w' => ∃ v0_ : Value, e = .returned (v0_) ∧ Kd.R Kd.string 9 w' w.heap.size (fun _ => True) v0_ r ∧ Below w.heap.size w w' := by
  unfold strings_Fields.f at h
  split at h
  · rename_i hc
    obtain rfl := Option.some.inj h
    have hle : (Lib.fields a0.data.toList).length ≤ 9223372036854775807 := by
      have h1 := fields_length_le a0.data.toList
      have h2 : a0.data.toList.length = a0.size := rfl
      have := hc.1
      omega
    refine (Tryz.strings_Fields a0 w hc.1 (fun j b hb => of_decide_eq_true (List.all_eq_true.1 hc.2 b (List.mem_of_getElem? hb))) hG.2).mono ?_
    rintro e w' ⟨rfl, rfl⟩
    refine ⟨_, rfl, ⟨fun _ _ => trivial, ?_⟩, below_alloc (Below.refl _ _) _⟩
    have hq := OwnRow.lit (R := fun (x : ByteArray) (cs : List Value) => cs = [Value.string x]) (e := 9) w w.heap.size (Kd.reps_scalar (enc := Value.string) ((Lib.fields a0.data.toList).map fun l => (⟨l.toArray⟩ : ByteArray))) (Nat.le_refl _) (by rw [List.length_map]; exact hle)
    rw [List.length_map, encs, List.map_map] at hq
    exact hq
  · cases h


end Go.Proofs.YtjjbdgngncgikaaGreatDoor.R
