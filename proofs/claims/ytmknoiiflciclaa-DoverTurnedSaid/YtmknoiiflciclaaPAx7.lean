-- Written for this claim by a program (the kit's print over a changed input, then joined with texts by hand).
import Derived.Test.YtmknoiiflciclaaPAx0
import Derived.Test.YtmknoiiflciclaaDoverC
namespace Go.Proofs.Ytmknoiiflciclaa.PA
open Go.RowKit Go.Proofs.YtmknoiiflciclaaW.PrintWords Go.Proofs.YtmknoiiflciclaaW.PrintLast Go.Proofs.YtmknoiiflciclaaW.PrintMore
attribute [local go_sem] max2_int min2_int max_two min_two max_three min_three max_four min_four   -- for this text's walks alone
set_option linter.unusedVariables false
set_option linter.unusedSimpArgs false

/-! ### dover_sorted: function 22 -/
def dover_sorted.f (l0 : List (S29)) : Option (List (S29)) := if l0.length ≤ 10 then some (isort l0) else none
set_option maxHeartbeats 8000000 in
set_option maxRecDepth 100000 in
theorem dover_sorted.calls (A0 : Option Addr) (c0 : Nat) (l0 : List (S29)) (r : List (S29)) (w : World) (hr0 : Kd.C k29 w A0 l0.length l0) (hc0 : l0.length ≤ c0) (h : dover_sorted.f l0 = some r) :
    Calls Try.prog 22 #[.slice A0 l0.length c0] w fun e w' => ∃ v0_ : Value, e = .returned (v0_) ∧ Kd.R k29 29 w' w.heap.size (fun _ => True) v0_ r ∧ Below w.heap.size w w' := by
  unfold dover_sorted.f at h
  by_cases hl : l0.length ≤ 10
  · rw [if_pos hl] at h
    obtain rfl := Option.some.inj h
    exact hand_sorted A0 c0 l0 w hr0 hc0 hl
  · rw [if_neg hl] at h
    cases h

end Go.Proofs.Ytmknoiiflciclaa.PA
