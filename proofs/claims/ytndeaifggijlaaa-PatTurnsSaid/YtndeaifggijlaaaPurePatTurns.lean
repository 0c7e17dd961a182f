/- The law PatTurns as a statement on numbers: for every m, k and j it answers true. -/
import Derived.Test.YtndeaifggijlaaaPAx11
import Derived.Test.YtndeaifggijlaaaPAx7
import Derived.Test.YtndeaifggijlaaaPatLib
namespace Go.Proofs.Ytndeaifggijlaaa.Pure
open Go.RowKit Go.Proofs.Ytndeaifggijlaaa.PA Go.Proofs.YtndeaifggijlaaaW.PrintWords Go.Proofs.YtndeaifggijlaaaW.PrintLast

theorem PatTurns : fuseelaw02_PatTurns.Pure := by
  intro m k j _ _ hj
  refine ⟨3, ?_⟩
  unfold fuseelaw02_PatTurns.f
  rw [awake_f 2]
  simp only [Option.bind_some, if_true]
  obtain ⟨b, e, hb⟩ := may_some m k
  rw [e]
  simp only [Option.bind_some]
  cases b with
  | false => simp [fuseelaw02_PatTurns.j0]
  | true =>
    have hv := hb.1 rfl
    simp only [if_true]
    by_cases h0 : j < 0
    · rw [if_pos h0]; simp [fuseelaw02_PatTurns.j0]
    · rw [if_neg h0]
      by_cases h1 : j > 1000000000000
      · rw [show decide (j > 1000000000000) = true by simpa using h1]; simp [fuseelaw02_PatTurns.j0]
      · rw [show decide (j > 1000000000000) = false by simpa using h1]
        have hv' := hv
        obtain ⟨a, b, c⟩ := hv'
        simp only [fuseelaw02_PatTurns.j0]
        rw [if_neg (by simp), hw_small (j + k) (by omega) (by omega), on_ON 1 m k j hv (by omega) (by omega), on_ON 1 m k (j + k) hv (by omega) (by omega)]
        have et : ON m k (j + k) = ON m k j := by
          have s1 := S_turn m k j hv
          have s2 := S_turn m k (j + 1) hv
          rw [show j + 1 + k = j + k + 1 from by omega] at s2
          unfold ON
          rw [s1, s2, decide_eq_decide]
          omega
        simp only [Option.bind_some]
        rw [et, if_pos (by simp), if_neg (show ¬ k = 0 by omega)]
        have eone : m = 1 → (ON m k j == (Int.tmod j k == 0)) = true := by
          intro hm
          subst hm
          rw [beq_iff_eq, Bool.eq_iff_iff, beq_iff_eq, Int.tmod_eq_emod_of_nonneg (by omega)]
          unfold ON S cl
          rw [decide_eq_true_iff]
          clear e et hb hv
          rcases six (show 1 ≤ k by omega) c with rfl | rfl | rfl | rfl | rfl | rfl <;> omega
        have eall : m = k → ON m k j = true := by
          intro hm
          unfold ON S cl
          rw [decide_eq_true_iff]
          subst hm
          clear e et hb hv eone
          rcases six (show 1 ≤ m by omega) c with rfl | rfl | rfl | rfl | rfl | rfl <;> omega
        by_cases q1 : m = 1
        · rw [if_pos q1, eone q1]
          by_cases q2 : m = k
          · rw [if_pos q2, if_pos (eall q2)]
          · rw [if_neg q2]
        · rw [if_neg q1]
          by_cases q2 : m = k
          · rw [if_pos q2, if_pos (eall q2)]
          · rw [if_neg q2]

end Go.Proofs.Ytndeaifggijlaaa.Pure
