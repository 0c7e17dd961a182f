-- Written for this claim by a program (the kit's print over a changed input, then joined with texts by hand).
import Derived.Test.YtalcblkdcmigeaaPAx0
import Derived.Test.YtalcblkdcmigeaaPAx3
import Derived.Test.YtalcblkdcmigeaaPutGetWalk
namespace Go.Proofs.Ytalcblkdcmigeaa.PA
open Go.RowKit Go.Proofs.YtalcblkdcmigeaaW.PrintWords Go.Proofs.YtalcblkdcmigeaaW.PrintLast Go.Proofs.YtalcblkdcmigeaaW.PrintMore
attribute [local go_sem] max2_int min2_int max_two min_two max_three min_three max_four min_four   -- for this text's walks alone
set_option linter.unusedVariables false
set_option linter.unusedSimpArgs false

/-! ### spec_Put: function 11 -/
def spec_Put.f (a0_0 : Int) (a0_1 : Int) (a0_2 : Int) (a0_3 : Int) (a0_4 : Int) (a0_5 : Int) : Option (List Int × Bool) := (spec_May.f a0_0 a0_1 a0_2 a0_3 a0_4 a0_5).bind fun t104 => (if t104 = true then (some ((([(a0_0) % 256, (a0_1) % 256, (a0_2) % 256, (a0_3) % 256, (a0_4) % 256, (a0_5) % 256] : List Int)), true)) else (some (([] : List Int), false)))
set_option maxHeartbeats 8000000 in
set_option maxRecDepth 100000 in
theorem spec_Put.calls (a0_0 : Int) (a0_1 : Int) (a0_2 : Int) (a0_3 : Int) (a0_4 : Int) (a0_5 : Int) (r1 : List Int) (r2 : Bool) (w : World) (h : spec_Put.f a0_0 a0_1 a0_2 a0_3 a0_4 a0_5 = some (r1, r2)) :
    Calls Try.prog 11 #[.agg #[.int .i64 a0_0, .int .i64 a0_1, .int .i64 a0_2, .int .i64 a0_3, .int .i64 a0_4, .int .i64 a0_5]] w fun e w' => ∃ v0_ : Value, e = .returned (.tuple #[v0_, .bool r2]) ∧ Kd.R (Kd.int .u8) 5 w' w.heap.size (fun _ => True) v0_ r1 ∧ Below w.heap.size w w' := by
  unfold spec_Put.f at h
  obtain ⟨t, h1, h2⟩ := Option.bind_eq_some_iff.mp h
  cases t with
  | true =>
    simp at h2
    obtain ⟨rfl, rfl⟩ := h2
    exact hand_Put_yes _ _ _ _ _ _ (fun w => spec_May.calls _ _ _ _ _ _ _ w h1) w
  | false =>
    simp at h2
    obtain ⟨rfl, rfl⟩ := h2
    exact hand_Put_no _ _ _ _ _ _ (fun w => spec_May.calls _ _ _ _ _ _ _ w h1) w

end Go.Proofs.Ytalcblkdcmigeaa.PA
