/- The law SpecOne as a statement on numbers: for every two descriptions it answers true. -/
import Derived.Test.YtalcblkdcmigeaaPAx0
import Derived.Test.YtalcblkdcmigeaaPAx11
import Derived.Test.YtalcblkdcmigeaaPartsWalk
import Derived.Test.YtalcblkdcmigeaaSpecLib
namespace Go.Proofs.Ytalcblkdcmigeaa.Pure
open Go.RowKit Go.Proofs.Ytalcblkdcmigeaa.PA Go.Proofs.YtalcblkdcmigeaaW.PrintWords Go.Proofs.YtalcblkdcmigeaaW.PrintLast

theorem SpecOne : ∀ (c t x m k e c' t' x' m' k' e' : Int), (Lit.int .i64 c).wf = true → (Lit.int .i64 t).wf = true → (Lit.int .i64 x).wf = true → (Lit.int .i64 m).wf = true → (Lit.int .i64 k).wf = true → (Lit.int .i64 e).wf = true → (Lit.int .i64 c').wf = true → (Lit.int .i64 t').wf = true → (Lit.int .i64 x').wf = true → (Lit.int .i64 m').wf = true → (Lit.int .i64 k').wf = true → (Lit.int .i64 e').wf = true → ∃ r, fuseelaw05_SpecOne.f r c t x m k e c' t' x' m' k' e' = some true := by
  intro c t x m k e c' t' x' m' k' e' _ _ _ _ _ _ _ _ _ _ _ _
  refine ⟨20, ?_⟩
  unfold fuseelaw05_SpecOne.f
  rw [awake_f 20 (by omega), put_f, put_f]
  simp only [Option.bind_some, if_true]
  by_cases h : mayP c t x m k e
  · by_cases h2 : mayP c' t' x' m' k' e'
    · rw [if_pos h, if_pos h2]
      obtain ⟨a1, a2, a3, a4, a5, a6⟩ := may_mod h
      obtain ⟨b1, b2, b3, b4, b5, b6⟩ := may_mod h2
      simp only [a1, a2, a3, a4, a5, a6, b1, b2, b3, b4, b5, b6]
      have h3 : mayP c t t m k e := by unfold mayP at h ⊢; omega
      rw [if_pos trivial, fuseelaw05_SpecOne.j0, if_neg (by simp), stretch_f, if_pos ⟨h, h3⟩]
      simp only [Option.bind_some]
      rw [bytes_f _ _ 19 (by simp) (by simp)]
      simp only [Option.bind_some]
      have eq : decide ([c, t, x, m, k, e] = [c', t', x', m', k', e']) = (c == c' && (t == t' && (x == x' && (m == m' && (k == k' && (e == e')))))) := by
        rw [Bool.eq_iff_iff]; simp
      rw [eq]
      simp
    · rw [if_pos h, if_neg h2]; simp [fuseelaw05_SpecOne.j0]
  · rw [if_neg h]; simp [fuseelaw05_SpecOne.j0]

end Go.Proofs.Ytalcblkdcmigeaa.Pure
