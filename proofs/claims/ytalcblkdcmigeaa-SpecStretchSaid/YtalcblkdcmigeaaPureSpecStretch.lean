/- The law SpecStretch as a statement on numbers: for every description and every two periods it answers true. -/
import Derived.Test.YtalcblkdcmigeaaPAx0
import Derived.Test.YtalcblkdcmigeaaPAx10
import Derived.Test.YtalcblkdcmigeaaPartsWalk
import Derived.Test.YtalcblkdcmigeaaSpecLib
namespace Go.Proofs.Ytalcblkdcmigeaa.Pure
open Go.RowKit Go.Proofs.Ytalcblkdcmigeaa.PA Go.Proofs.YtalcblkdcmigeaaW.PrintWords Go.Proofs.YtalcblkdcmigeaaW.PrintLast

theorem SpecStretch : ∀ (c t x m k e a b : Int), (Lit.int .i64 c).wf = true → (Lit.int .i64 t).wf = true → (Lit.int .i64 x).wf = true → (Lit.int .i64 m).wf = true → (Lit.int .i64 k).wf = true → (Lit.int .i64 e).wf = true → (Lit.int .i64 a).wf = true → (Lit.int .i64 b).wf = true → ∃ r, fuseelaw05_SpecStretch.f r c t x m k e a b = some true := by
  intro c t x m k e a b _ _ _ _ _ _ _ _
  refine ⟨20, ?_⟩
  unfold fuseelaw05_SpecStretch.f
  rw [awake_f 20 (by omega), may_f]
  simp only [Option.bind_some, if_true]
  by_cases h : mayP c t x m k e
  · rw [show decide (mayP c t x m k e) = true by simpa using h, fuseelaw05_SpecStretch.j0, if_neg (by simp), stretch_f, stretch_f, if_pos ⟨h, h⟩]
    simp only [Option.bind_some, if_true]
    by_cases h2 : mayP c a b m k e
    · rw [if_pos ⟨h, h2⟩]
      simp only [beq_self_eq_true, Bool.not_true, Bool.or_self]
      rw [fuseelaw05_SpecStretch.j1, if_neg (by simp), if_pos rfl, stretch_f, if_pos ⟨h2, h⟩, may_f, show decide (mayP c a b m k e) = true by simpa using h2]
      simp
    · rw [if_neg (fun q => h2 q.2)]
      simp only [beq_self_eq_true, Bool.not_true, Bool.or_self]
      rw [fuseelaw05_SpecStretch.j1, if_neg (by simp), if_neg (by simp)]
      simp
  · rw [show decide (mayP c t x m k e) = false by simpa using h]; simp [fuseelaw05_SpecStretch.j0]

end Go.Proofs.Ytalcblkdcmigeaa.Pure
