import Derived.Test.YtjjbdgngncgikaaGreatDoorTm6
import Derived.Test.YtjjbdgngncgikaaGreatDoorRx2
import Derived.Test.YtjjbdgngncgikaaGreatDoorRx6
import Derived.Test.YtjjbdgngncgikaaGreatDoorRx10
import Derived.Test.YtjjbdgngncgikaaGreatDoorRx13
import Derived.Test.YtjjbdgngncgikaaGreatDoorRx14
import Derived.Test.YtjjbdgngncgikaaGreatDoorRx16
import Derived.Test.YtjjbdgngncgikaaGreatDoorRx17
namespace Go.Proofs.YtjjbdgngncgikaaGreatDoor.Tm
open Go Go.RowKit Go.Proofs.YtjjbdgngncgikaaGreatDoor.R Go.Proofs.YtjjbdgngncgikaaGreatDoorW.PrintWords Go.Proofs.YtjjbdgngncgikaaGreatDoorW.PrintMore
set_option linter.unusedVariables false
set_option linter.unusedSimpArgs false
theorem same_bytes {a b : ByteArray} (h : a.toList = b.toList) : a = b := by
  rw [ByteArray.toList_eq, ByteArray.toList_eq] at h
  exact ByteArray.ext (Array.toList_inj.1 h)
def names8 : List ByteArray := [countB, edgeB, hystB, latchB, minrunB, offdelayB, ondelayB, pulseB]
theorem names_f : timer_Names.f = some names8 := rfl
theorem rnames_f : plenumref19_Names.f = some names8 := rfl
theorem rdN (l : List ByteArray) (i : Nat) (h : i < l.length) : rdOf ByteArray.empty l i = l[i] := by
  unfold rdOf; rw [Int.toNat_natCast, List.getD_eq_getElem?_getD, List.getElem?_eq_getElem h]; rfl
theorem index_none (nm : ByteArray) (ns : List ByteArray) (h : ∀ x ∈ ns, nm.toList ≠ x.toList) (hn : ns.length ≤ 100) : ∀ (d i k : Nat), i + d = ns.length → d < k → slices_Index_string_string.l0 k ns nm (ns.length : Int) (i : Int) = some (-1)
  | 0, i, k, hd, hk => by
    obtain ⟨k, rfl⟩ : ∃ m, k = m + 1 := ⟨k - 1, by omega⟩
    simp only [slices_Index_string_string.l0]
    rw [if_neg (by omega)]
  | d + 1, i, k, hd, hk => by
    obtain ⟨k, rfl⟩ : ∃ m, k = m + 1 := ⟨k - 1, by omega⟩
    simp only [slices_Index_string_string.l0]
    rw [if_pos (by omega), if_pos (by omega), if_pos (by omega), rdN ns i (by omega), if_neg (h _ (List.getElem_mem _)), wrap_id (by omega) (by omega), show (i : Int) + 1 = ((i + 1 : Nat) : Int) by omega]
    exact index_none nm ns h hn d (i + 1) k (by omega) (by omega)
theorem known_none (nm : ByteArray) (ns : List ByteArray) (h : ∀ x ∈ ns, nm.toList ≠ x.toList) (hn : ns.length ≤ 100) : ∀ (d i k : Nat), i + d = ns.length → d < k → plenumref19_Known.l0 k nm ns (i : Int) = some false
  | 0, i, k, hd, hk => by
    obtain ⟨k, rfl⟩ : ∃ m, k = m + 1 := ⟨k - 1, by omega⟩
    simp only [plenumref19_Known.l0]
    rw [if_neg (by omega)]
  | d + 1, i, k, hd, hk => by
    obtain ⟨k, rfl⟩ : ∃ m, k = m + 1 := ⟨k - 1, by omega⟩
    simp only [plenumref19_Known.l0]
    rw [if_pos (by omega), if_pos (by omega), rdN ns i (by omega), if_neg (fun e => h _ (List.getElem_mem _) e.symm), wrap_id (by omega) (by omega), show (i : Int) + 1 = ((i + 1 : Nat) : Int) by omega]
    exact known_none nm ns h hn d (i + 1) k (by omega) (by omega)
def Agree (nm : ByteArray) (l s : List Int) (r : List S26) (dt : Int) : Prop :=
  ∃ s' kd x e, s'.length ≤ 5 ∧ (∀ k, 80 ≤ k → timer_Step.f k nm l s r dt = some (s', kd, x, e) ∧ plenumref19_Step.f k nm l s r dt = some (s', kd, x, e)) ∧ (e = 0 → ∀ k, 80 ≤ k → plenumref19_Possible.f k nm l s' = some true)
theorem agree_of {nm B T} {n : Nat} (b : RB nm B T n) (c : Blk nm B T n) (hh : nm.toList = ([104, 121, 115, 116] : List UInt8) → B.length = 2) (l s : List Int) (r : List S26) (dt : Int) : Agree nm l s r dt := by
  obtain ⟨s', kd, x, e, h1, h2, h3⟩ := both b c hh l s r dt
  have hn := c.n5
  refine ⟨s', kd, x, e, ?_, h2, fun he k hk => ?_⟩
  · rcases h1 with rfl | h1
    · simp
    · omega
  · obtain ⟨hg, q1, q2, _⟩ := h3 he
    obtain ⟨p, hp, _, hp2⟩ := b.poss l s' k (by omega) hg
    rw [hp, ← hp2 q1, q2]
theorem agree (nm : ByteArray) (l s : List Int) (r : List S26) (dt : Int) : Agree nm l s r dt := by
  by_cases h : ∃ x ∈ names8, nm.toList = x.toList
  · obtain ⟨x, hx, h⟩ := h
    obtain rfl := same_bytes h
    simp only [names8, List.mem_cons, List.not_mem_nil, or_false] at hx
    rcases hx with rfl | rfl | rfl | rfl | rfl | rfl | rfl | rfl
    · exact agree_of cnt_rb count_blk (fun h => absurd h nh_cnt) l s r dt
    · exact agree_of edg_rb edge_blk (fun h => absurd h nh_edg) l s r dt
    · exact agree_of hys_rb hyst_blk (fun _ => rfl) l s r dt
    · exact agree_of lat_rb latch_blk (fun h => absurd h nh_lat) l s r dt
    · exact agree_of min_rb minrun_blk (fun _ => rfl) l s r dt
    · exact agree_of off_rb offdelay_blk (fun h => absurd h nh_off) l s r dt
    · exact agree_of on_rb ondelay_blk (fun h => absurd h nh_on) l s r dt
    · exact agree_of pul_rb pulse_blk (fun h => absurd h nh_pul) l s r dt
  · have h : ∀ x ∈ names8, nm.toList ≠ x.toList := fun x hx e => h ⟨x, hx, e⟩
    refine ⟨[], 0, 0, 3, by simp, fun k hk => ⟨?_, ?_⟩, fun h => absurd h (by decide)⟩
    · unfold timer_Step.f timer_find.f
      rw [names_f, Option.bind_some]
      unfold slices_Contains_string_string.f slices_Index_string_string.f
      have := index_none nm names8 h (by decide) 8 0 k rfl (by omega)
      rw [show ((0 : Nat) : Int) = 0 from rfl] at this
      rw [this]
      rfl
    · unfold plenumref19_Step.f plenumref19_Check.f plenumref19_Known.f
      rw [rnames_f, Option.bind_some]
      have := known_none nm names8 h (by decide) 8 0 k rfl (by omega)
      rw [show ((0 : Nat) : Int) = 0 from rfl] at this
      rw [this]
      rfl
end Go.Proofs.YtjjbdgngncgikaaGreatDoor.Tm
