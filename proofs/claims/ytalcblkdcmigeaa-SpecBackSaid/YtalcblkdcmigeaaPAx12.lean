-- Written for this claim by a program (the kit's print over a changed input, then joined with texts by hand).
import Derived.Test.YtalcblkdcmigeaaPAx0
import Derived.Test.YtalcblkdcmigeaaPAx3
import Derived.Test.YtalcblkdcmigeaaPutGetWalk
namespace Go.Proofs.Ytalcblkdcmigeaa.PA
open Go.RowKit Go.Proofs.YtalcblkdcmigeaaW.PrintWords Go.Proofs.YtalcblkdcmigeaaW.PrintLast Go.Proofs.YtalcblkdcmigeaaW.PrintMore
attribute [local go_sem] max2_int min2_int max_two min_two max_three min_three max_four min_four   -- for this text's walks alone
set_option linter.unusedVariables false
set_option linter.unusedSimpArgs false

/-! ### spec_Get: function 13 -/
def spec_Get.f (l0 : List Int) : Option (Int × Int × Int × Int × Int × Int × Bool) := if (l0.length : Int) = 6 then (if 0 < (l0.length : Int) then (if 1 < (l0.length : Int) then (if 2 < (l0.length : Int) then (if 3 < (l0.length : Int) then (if 4 < (l0.length : Int) then (if 5 < (l0.length : Int) then ((spec_May.f (wrap64 (rd l0 0)) (wrap64 (rd l0 1)) (wrap64 (rd l0 2)) (wrap64 (rd l0 3)) (wrap64 (rd l0 4)) (wrap64 (rd l0 5))).bind fun t203 => (if t203 = true then (some (wrap64 (rd l0 0), wrap64 (rd l0 1), wrap64 (rd l0 2), wrap64 (rd l0 3), wrap64 (rd l0 4), wrap64 (rd l0 5), true)) else (some (0, 0, 0, 0, 0, 0, false)))) else (none)) else (none)) else (none)) else (none)) else (none)) else (none)) else (some (0, 0, 0, 0, 0, 0, false))
def spec_Get.T3 : Bool × List (List Nat × List Nat) := (true, [([], []), ([0], [0]), ([1], [1]), ([2], [2]), ([], []), ([4], [4]), ([5], [5]), ([6], [6]), ([], []), ([8], [8]), ([9], [9]), ([10], [10]), ([], []), ([12], [12]), ([13], [13]), ([14], [14]), ([], []), ([16], [16]), ([17], [17]), ([18], [18]), ([], []), ([20], [20]), ([21], [21]), ([22], [22]), ([3, 7, 11, 15, 19, 23], [3, 7, 11, 15, 19, 23]), ([], []), ([25, 24, 0, 1, 2, 3, 4, 5, 6, 7, 8, 9, 10, 11, 12, 13, 14, 15, 16, 17, 18, 19, 20, 21, 22, 23, 24, 25], [24, 25])])
def spec_Get.B3 : List Nat := [0, 1, 3, 7, 0, 16, 48, 112, 0, 256, 768, 1792, 0, 4096, 12288, 28672, 0, 65536, 196608, 458752, 0, 1048576, 3145728, 7340032, 16777215, 0, 67108863]
theorem got_six (l : List Int) : got l 6 = #[.int .i64 (wrap64 (rd l 0)), .int .i64 (wrap64 (rd l 1)), .int .i64 (wrap64 (rd l 2)), .int .i64 (wrap64 (rd l 3)), .int .i64 (wrap64 (rd l 4)), .int .i64 (wrap64 (rd l 5))] := by
  simp [got, List.range, List.range.loop]
set_option maxHeartbeats 8000000 in
set_option maxRecDepth 100000 in
theorem spec_Get.calls (A0 : Option Addr) (c0 : Nat) (l0 : List Int) (r1 : Int) (r2 : Int) (r3 : Int) (r4 : Int) (r5 : Int) (r6 : Int) (r7 : Bool) (w : World) (hr0 : Kd.C (Kd.int .u8) w A0 l0.length l0) (hc0 : l0.length ≤ c0) (h : spec_Get.f l0 = some (r1, r2, r3, r4, r5, r6, r7)) :
    Calls Try.prog 13 #[.slice A0 l0.length c0] w fun e w' => e = .returned (.tuple #[.agg #[.int .i64 r1, .int .i64 r2, .int .i64 r3, .int .i64 r4, .int .i64 r5, .int .i64 r6], .bool r7]) ∧ Below w.heap.size w w' := by
  unfold spec_Get.f at h
  by_cases hl : (l0.length : Int) = 6
  · rw [if_pos hl, if_pos (by omega), if_pos (by omega), if_pos (by omega), if_pos (by omega), if_pos (by omega), if_pos (by omega)] at h
    obtain ⟨t, h1, h2⟩ := Option.bind_eq_some_iff.mp h
    have hl' : l0.length = 6 := by omega
    have hg := hand_Get_6 A0 c0 l0 hl' t w (by rw [← hl']; exact hr0) (fun w => by rw [got_six]; exact spec_May.calls _ _ _ _ _ _ _ w h1)
    rw [hl']
    refine hg.mono ?_
    rintro e w' ⟨rfl, hb⟩
    cases t with
    | true =>
      simp at h2
      obtain ⟨rfl, rfl, rfl, rfl, rfl, rfl, rfl⟩ := h2
      rw [if_pos rfl, got_six]
      exact ⟨rfl, hb⟩
    | false =>
      simp at h2
      obtain ⟨rfl, rfl, rfl, rfl, rfl, rfl, rfl⟩ := h2
      exact ⟨rfl, hb⟩
  · rw [if_neg hl] at h
    simp at h
    obtain ⟨rfl, rfl, rfl, rfl, rfl, rfl, rfl⟩ := h
    exact hand_Get_no _ _ _ hl w

end Go.Proofs.Ytalcblkdcmigeaa.PA
