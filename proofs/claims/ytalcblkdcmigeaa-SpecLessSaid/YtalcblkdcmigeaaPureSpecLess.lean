/- The law SpecLess as a statement on numbers: for every description and every n it answers true. -/
import Derived.Test.YtalcblkdcmigeaaPAx0
import Derived.Test.YtalcblkdcmigeaaPAx8
import Derived.Test.YtalcblkdcmigeaaPartsWalk
import Derived.Test.YtalcblkdcmigeaaSpecLib
namespace Go.Proofs.Ytalcblkdcmigeaa.Pure
open Go.RowKit Go.Proofs.Ytalcblkdcmigeaa.PA Go.Proofs.YtalcblkdcmigeaaW.PrintWords Go.Proofs.YtalcblkdcmigeaaW.PrintLast

theorem SpecLess : ∀ (c t x m k e n : Int), (Lit.int .i64 c).wf = true → (Lit.int .i64 t).wf = true → (Lit.int .i64 x).wf = true → (Lit.int .i64 m).wf = true → (Lit.int .i64 k).wf = true → (Lit.int .i64 e).wf = true → (Lit.int .i64 n).wf = true → ∃ r, fuseelaw05_SpecLess.f r c t x m k e n = some true := by
  intro c t x m k e n _ _ _ _ _ _ _
  refine ⟨20, ?_⟩
  unfold fuseelaw05_SpecLess.f
  rw [awake_f 20 (by omega), may_f]
  simp only [Option.bind_some, if_true]
  by_cases h : mayP c t x m k e
  · rw [if_pos (by simpa using h)]
    by_cases h1 : n < 0
    · rw [if_pos h1]; simp [fuseelaw05_SpecLess.j0]
    · rw [if_neg h1]
      by_cases h2 : n > 48
      · rw [show decide (n > 48) = true by simpa using h2]; simp [fuseelaw05_SpecLess.j0]
      · rw [show decide (n > 48) = false by simpa using h2]
        have hh := h
        unfold mayP at hh
        rw [fuseelaw05_SpecLess.j0, if_neg (by simp), hw_in (c - n) (by omega) (by omega), hw_in (m - n) (by omega) (by omega), hw_in (t + 1) (by omega) (by omega), hw_in (t + 1 + n) (by omega) (by omega), may_f, may_f, may_f]
        simp only [Option.bind_some]
        have e1 : decide (mayP (c - n) t x m k e) = decide (c - n ≥ 1) := by rw [decide_eq_decide]; unfold mayP; omega
        have e2 : decide (mayP c t x (m - n) k e) = decide (m - n ≥ 1) := by rw [decide_eq_decide]; unfold mayP; omega
        have e3 : decide (mayP (t + 1 + n) t x m k e) = false := by rw [decide_eq_false_iff_not]; unfold mayP; omega
        rw [e1, e2, e3]
        simp
  · rw [if_neg (by simpa using h)]; simp [fuseelaw05_SpecLess.j0]

end Go.Proofs.Ytalcblkdcmigeaa.Pure
