/-
  PLAIN LAWS OF THE SEQUENCER, 3: Step of the block stage at right arguments; the goal of a demand.
-/
import Derived.Test.YtcpncmjjbfbdhaaDoorSq2v
import Derived.Test.YtcpncmjjbfbdhaaDoorRx0
import Derived.Test.YtcpncmjjbfbdhaaDoorRx5
import Derived.Test.YtcpncmjjbfbdhaaDoorRx7
namespace Go.Proofs.YtcpncmjjbfbdhaaDoor.Sq
open Go Go.RowKit Go.Proofs.YtcpncmjjbfbdhaaDoor.R Go.Proofs.YtcpncmjjbfbdhaaDoorW.PrintWords Go.Proofs.YtcpncmjjbfbdhaaDoorW.PrintMore
set_option linter.unusedVariables false
set_option linter.unusedSimpArgs false

theorem step_stage {n up dn ud dd x dt s t : Int} (h : checkOf B5 [n, up, dn, ud, dd] = 0) (hp : P5 n up dn ud dd) (hv : VS n s t) (hx1 : -1000000000000 ≤ x) (hx2 : x ≤ 1000000000000) (h1 : 1 ≤ dt) (h2 : dt ≤ 86400) (k : Nat) (hk : 80 ≤ k) :
    sequencer_Step.f k stageB [n, up, dn, ud, dd] [s, t] [(⟨1, x⟩ : S27)] dt = some ([(stg n up dn ud dd x dt s t).1, (stg n up dn ud dd x dt s t).2], 3, (stg n up dn ud dd x dt s t).1 + 1, 0) := by
  have hnext := stg_vs (x := x) hp hv h1 h2
  have hb := hnext.s2
  have hb1 := hnext.s1
  have hn2 := hp.n2
  obtain ⟨k, rfl⟩ : ∃ m, k = m + 4 := ⟨k - 4, by omega⟩
  have hs : vst n [s, t] = true := decide_eq_true ⟨hv.s1, hv.s2, hv.t1, hv.t2⟩
  have hfits : sequencer_fits.f 1 x 1 = some true := by
    unfold sequencer_fits.f
    rw [if_pos rfl, if_pos rfl, if_pos (by omega), decide_eq_true (by omega)]
  have hl1 : sequencer_Step.l0 (k + 1) stageB [n, up, dn, ud, dd] [s, t] [(⟨1, x⟩ : S27)] dt [1] [(⟨1, x⟩ : S27)] 1 1 = some ([(stg n up dn ud dd x dt s t).1, (stg n up dn ud dd x dt s t).2], 3, (stg n up dn ud dd x dt s t).1 + 1, 0) := by
    simp only [sequencer_Step.l0]
    rw [if_neg (by omega), possible_f n _ _ k (by omega), hs]
    simp only [Option.bind_some]
    rw [if_pos trivial, if_pos stageB_l, if_pos (by simp), show (rd_T27 [(⟨1, x⟩ : S27)] 0).f1 = x from rfl, stage_f hp hv h1 h2 k (by omega)]
    simp only [Option.bind_some]
    rw [if_pos (by simp), rd0, wrap_id (by omega) (by omega)]
  unfold sequencer_Step.f
  rw [check_stage _ _ (by omega), Option.bind_some, if_pos h, if_pos stageB_l]
  simp only [sequencer_Step.j0]
  rw [seconds_f, decide_eq_true ⟨h1, h2⟩, Option.bind_some, if_pos rfl]
  simp only [sequencer_Step.j1]
  rw [if_neg (by simp)]
  rw [show (([(⟨1, x⟩ : S27)] : List S27).length : Int) = 1 from rfl]
  simp only [sequencer_Step.l0]
  rw [if_pos (by omega), if_pos (by omega), if_pos (by simp), if_pos (by simp), show (rd_T27 [(⟨1, x⟩ : S27)] 0).f0 = 1 from rfl, show (rd_T27 [(⟨1, x⟩ : S27)] 0).f1 = x from rfl, show rd [1] 0 = 1 from rfl, hfits, Option.bind_some, if_pos rfl, wrap_id (by omega) (by omega)]
  exact hl1

end Go.Proofs.YtcpncmjjbfbdhaaDoor.Sq
