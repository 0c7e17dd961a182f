/- The law PatSpread as a statement on numbers: for every m, k and every two stretches it answers true. -/
import Derived.Test.YtndeaifggijlaaaPAx12
import Derived.Test.YtndeaifggijlaaaPAx7
import Derived.Test.YtndeaifggijlaaaPatLib
namespace Go.Proofs.Ytndeaifggijlaaa.Pure
open Go.RowKit Go.Proofs.Ytndeaifggijlaaa.PA Go.Proofs.YtndeaifggijlaaaW.PrintWords Go.Proofs.YtndeaifggijlaaaW.PrintLast

theorem PatSpread : fuseelaw02_PatSpread.Pure := by
  intro m k a b n _ _ _ _ _
  refine ⟨3, ?_⟩
  unfold fuseelaw02_PatSpread.f
  rw [awake_f 2]
  simp only [Option.bind_some, if_true]
  obtain ⟨t, e, hb⟩ := may_some m k
  rw [e]
  simp only [Option.bind_some]
  cases t with
  | false => simp [fuseelaw02_PatSpread.j0]
  | true =>
    have hv := hb.1 rfl
    simp only [if_true]
    have sk : fuseelaw02_PatSpread.j0 3 m k a b n true true = some true := by simp [fuseelaw02_PatSpread.j0]
    by_cases h1 : a < 0
    · rw [if_pos h1]; exact sk
    rw [if_neg h1]
    by_cases h2 : b < 0
    · rw [if_pos h2]; exact sk
    rw [if_neg h2]
    by_cases h3 : n < 0
    · rw [if_pos h3]; exact sk
    rw [if_neg h3]
    by_cases h4 : a > 1099511627776
    · rw [if_pos h4]; exact sk
    rw [if_neg h4]
    by_cases h5 : b > 1099511627776
    · rw [if_pos h5]; exact sk
    rw [if_neg h5]
    by_cases h6 : n > 1099511627776
    · rw [show decide (n > 1099511627776) = true by simpa using h6]; exact sk
    rw [show decide (n > 1099511627776) = false by simpa using h6]
    simp only [fuseelaw02_PatSpread.j0]
    rw [if_neg (by simp), count_f 1 m k a n hv (by omega) (by omega) (by omega) (by omega), count_f 1 m k b n hv (by omega) (by omega) (by omega) (by omega)]
    simp only [Option.bind_some]
    have s1 := S_sub m k a n hv
    have s2 := S_sub m k b n hv
    have b1 := S_bound m k a hv (by omega)
    have b2 := S_bound m k b hv (by omega)
    have b3 := S_bound m k (a + n) hv (by omega)
    have b4 := S_bound m k (b + n) hv (by omega)
    rw [hw_small _ (by omega) (by omega), hw_small _ (by omega) (by omega), if_pos (by omega)]
    simp
    omega

end Go.Proofs.Ytndeaifggijlaaa.Pure
