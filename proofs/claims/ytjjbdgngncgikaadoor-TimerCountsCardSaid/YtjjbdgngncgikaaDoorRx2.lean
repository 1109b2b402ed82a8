-- Written by this claim's own program out of the translation; not trusted: Lean checks it.
import Derived.Test.YtjjbdgngncgikaaDoorRx0
namespace Go.Proofs.YtjjbdgngncgikaaDoor.R
open Go.RowKit Go.Proofs.YtjjbdgngncgikaaDoorW.PrintWords Go.Proofs.YtjjbdgngncgikaaDoorW.PrintLast Go.Proofs.YtjjbdgngncgikaaDoorW.PrintMore
attribute [local go_sem] max2_int min2_int max_two min_two max_three min_three max_four min_four   -- for this text's walks alone
set_option linter.unusedVariables false
set_option linter.unusedSimpArgs false

/-! ### timer_Names: function 13 -/
def timer_Names.f  : Option (List ByteArray) := some (([(⟨#[99, 111, 117, 110, 116]⟩ : ByteArray), (⟨#[101, 100, 103, 101]⟩ : ByteArray), (⟨#[104, 121, 115, 116]⟩ : ByteArray), (⟨#[108, 97, 116, 99, 104]⟩ : ByteArray), (⟨#[109, 105, 110, 114, 117, 110]⟩ : ByteArray), (⟨#[111, 102, 102, 100, 101, 108, 97, 121]⟩ : ByteArray), (⟨#[111, 110, 100, 101, 108, 97, 121]⟩ : ByteArray), (⟨#[112, 117, 108, 115, 101]⟩ : ByteArray)] : List ByteArray))
set_option maxHeartbeats 8000000 in
set_option maxRecDepth 100000 in
theorem timer_Names.calls  (r : List ByteArray) (w : World) (h : timer_Names.f  = some r) :
  Calls Tryd.prog 13 #[] w fun e w' => ∃ v0_ : Value, e = .returned (v0_) ∧ Kd.R Kd.string 9 w' w.heap.size (fun _ => True) v0_ r ∧ Below w.heap.size w w' := by
 have HB := Aside0.mk (Below.refl w.heap.size w)
 have H : (some (([(⟨#[99, 111, 117, 110, 116]⟩ : ByteArray), (⟨#[101, 100, 103, 101]⟩ : ByteArray), (⟨#[104, 121, 115, 116]⟩ : ByteArray), (⟨#[108, 97, 116, 99, 104]⟩ : ByteArray), (⟨#[109, 105, 110, 114, 117, 110]⟩ : ByteArray), (⟨#[111, 102, 102, 100, 101, 108, 97, 121]⟩ : ByteArray), (⟨#[111, 110, 100, 101, 108, 97, 121]⟩ : ByteArray), (⟨#[112, 117, 108, 115, 101]⟩ : ByteArray)] : List ByteArray))) = some r := h
 clear h
 obtain ⟨y101, hy101⟩ : ∃ y_ : List ByteArray, y_ = (([(⟨#[99, 111, 117, 110, 116]⟩ : ByteArray), (⟨#[101, 100, 103, 101]⟩ : ByteArray), (⟨#[104, 121, 115, 116]⟩ : ByteArray), (⟨#[108, 97, 116, 99, 104]⟩ : ByteArray), (⟨#[109, 105, 110, 114, 117, 110]⟩ : ByteArray), (⟨#[111, 102, 102, 100, 101, 108, 97, 121]⟩ : ByteArray), (⟨#[111, 110, 100, 101, 108, 97, 121]⟩ : ByteArray), (⟨#[112, 117, 108, 115, 101]⟩ : ByteArray)] : List ByteArray)) := ⟨_, rfl⟩
 replace H : (some y101) = some r := by first | (rw [hy101]; with_reducible exact H) | (have H2_ := (Option.bind_some _ _).symm.trans H; rw [hy101]; with_reducible exact H2_) | (have H2_ := (Option.bind_some _ _).symm.trans H; with_reducible exact H2_) | with_reducible exact H | (rw [hy101]; exact H) | exact H
 have Ny101 := Aside0.mk hy101
 clear hy101
 obtain rfl := Option.some.inj H
 go_enter Tryd.func13, Tryd.ntmps13
 go_wp2_with (first | ((with_reducible refine gate_dst (N := 1) rfl ?_); refine Kd.R_lit Kd.string _ 9 ?hg (N := 1) ?hd (xs := ([(⟨#[99, 111, 117, 110, 116]⟩ : ByteArray), (⟨#[101, 100, 103, 101]⟩ : ByteArray), (⟨#[104, 121, 115, 116]⟩ : ByteArray), (⟨#[108, 97, 116, 99, 104]⟩ : ByteArray), (⟨#[109, 105, 110, 114, 117, 110]⟩ : ByteArray), (⟨#[111, 102, 102, 100, 101, 108, 97, 121]⟩ : ByteArray), (⟨#[111, 110, 100, 101, 108, 97, 121]⟩ : ByteArray), (⟨#[112, 117, 108, 115, 101]⟩ : ByteArray)] : List ByteArray)) (inner := [.string (⟨#[99, 111, 117, 110, 116]⟩ : ByteArray), .string (⟨#[101, 100, 103, 101]⟩ : ByteArray), .string (⟨#[104, 121, 115, 116]⟩ : ByteArray), .string (⟨#[108, 97, 116, 99, 104]⟩ : ByteArray), .string (⟨#[109, 105, 110, 114, 117, 110]⟩ : ByteArray), .string (⟨#[111, 102, 102, 100, 101, 108, 97, 121]⟩ : ByteArray), .string (⟨#[111, 110, 100, 101, 108, 97, 121]⟩ : ByteArray), .string (⟨#[112, 117, 108, 115, 101]⟩ : ByteArray)]) (ok := fun _ => True) (okp := fun _ => True) ?hr ?hp (fun _ hk => hk) trivial (Below.refl _ _) (Nat.le_refl _) (by simp) ?_; (case hd => rfl); (case hg => rfl); (case hr => first | (go_simp; done) | (go_simp; rfl)); (case hp => exact (Reps.one (show Kd.M Kd.string _ _ _ (⟨#[99, 111, 117, 110, 116]⟩ : ByteArray) [.string (⟨#[99, 111, 117, 110, 116]⟩ : ByteArray)] from rfl) (Reps.one (show Kd.M Kd.string _ _ _ (⟨#[101, 100, 103, 101]⟩ : ByteArray) [.string (⟨#[101, 100, 103, 101]⟩ : ByteArray)] from rfl) (Reps.one (show Kd.M Kd.string _ _ _ (⟨#[104, 121, 115, 116]⟩ : ByteArray) [.string (⟨#[104, 121, 115, 116]⟩ : ByteArray)] from rfl) (Reps.one (show Kd.M Kd.string _ _ _ (⟨#[108, 97, 116, 99, 104]⟩ : ByteArray) [.string (⟨#[108, 97, 116, 99, 104]⟩ : ByteArray)] from rfl) (Reps.one (show Kd.M Kd.string _ _ _ (⟨#[109, 105, 110, 114, 117, 110]⟩ : ByteArray) [.string (⟨#[109, 105, 110, 114, 117, 110]⟩ : ByteArray)] from rfl) (Reps.one (show Kd.M Kd.string _ _ _ (⟨#[111, 102, 102, 100, 101, 108, 97, 121]⟩ : ByteArray) [.string (⟨#[111, 102, 102, 100, 101, 108, 97, 121]⟩ : ByteArray)] from rfl) (Reps.one (show Kd.M Kd.string _ _ _ (⟨#[111, 110, 100, 101, 108, 97, 121]⟩ : ByteArray) [.string (⟨#[111, 110, 100, 101, 108, 97, 121]⟩ : ByteArray)] from rfl) (Reps.one (show Kd.M Kd.string _ _ _ (⟨#[112, 117, 108, 115, 101]⟩ : ByteArray) [.string (⟨#[112, 117, 108, 115, 101]⟩ : ByteArray)] from rfl) (Reps.none _ _)))))))))); intro v102 w1 ho2 hb hg_ hnew_; clear hg_ hnew_; (first | rw [← Ny101.out] at ho2 | (simp only [Int.reduceToNat] at ho2; rw [← Ny101.out] at ho2)); have n0_ := Aside0.mk (Kd.R_lower ho2 (below_size bl)); have n1_ := Aside0.mk (below_step bl hb); revert n0_ n1_; clear HB; intro HO103 HB; clear hb ho2))
 go_ret
 exact ⟨_, by first | rfl | (simp [errW_none, errW_some] <;> rfl) | (simp [*, errW_none, errW_some] <;> rfl), rr HO103.out, bl⟩

end Go.Proofs.YtjjbdgngncgikaaDoor.R
