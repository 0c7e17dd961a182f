-- Written for this claim by a program (the kit's print over a changed input, then joined with texts by hand).
import Derived.Test.YtmknoiiflciclaaPAx0
import Derived.Test.YtmknoiiflciclaaPAx18
import Derived.Test.YtmknoiiflciclaaQSort
namespace Go.Proofs.Ytmknoiiflciclaa.PA
open Go.RowKit Go.Proofs.YtmknoiiflciclaaW.PrintWords Go.Proofs.YtmknoiiflciclaaW.PrintLast Go.Proofs.YtmknoiiflciclaaW.PrintMore
attribute [local go_sem] max2_int min2_int max_two min_two max_three min_three max_four min_four   -- for this text's walks alone
set_option linter.unusedVariables false
set_option linter.unusedSimpArgs false

/-! ### queue_Sort: function 27 -/
def queue_Sort.f (l0 : List (S50)) : Option (List (S50)) := if l0.length ≤ 1000 then some (isortI l0) else none
set_option maxHeartbeats 8000000 in
set_option maxRecDepth 100000 in
theorem queue_Sort.calls (A0 : Option Addr) (c0 : Nat) (l0 : List (S50)) (r : List (S50)) (w : World) (hr0 : Kd.C k50 w A0 l0.length l0) (hc0 : l0.length ≤ c0) (h : queue_Sort.f l0 = some r) :
    Calls Try.prog 27 #[.slice A0 l0.length c0] w fun e w' => ∃ v0_ : Value, e = .returned (v0_) ∧ Kd.R k50 50 w' w.heap.size (fun _ => True) v0_ r ∧ Below w.heap.size w w' := by
  unfold queue_Sort.f at h
  by_cases hl : l0.length ≤ 1000
  · rw [if_pos hl] at h
    obtain rfl := Option.some.inj h
    refine (Q.hand_Sort A0 c0 l0 w hr0 hc0 (by omega)).mono ?_
    rintro e w' ⟨v0, out, rfl, hR, hB, hs, hp⟩
    rw [isortI_unique hs hp]
    exact ⟨v0, rfl, hR, hB⟩
  · rw [if_neg hl] at h
    cases h

end Go.Proofs.Ytmknoiiflciclaa.PA
