/- The law PatSum as a statement on numbers: for every m, k and every two numbers of jobs it answers true. -/
import Derived.Test.YtndeaifggijlaaaPAx15
import Derived.Test.YtndeaifggijlaaaPAx7
import Derived.Test.YtndeaifggijlaaaPatLib
namespace Go.Proofs.Ytndeaifggijlaaa.Pure
open Go.RowKit Go.Proofs.Ytndeaifggijlaaa.PA Go.Proofs.YtndeaifggijlaaaW.PrintWords Go.Proofs.YtndeaifggijlaaaW.PrintLast

theorem PatSum : fuseelaw02_PatSum.Pure := by
  intro m k f a b _ _ _ _ _
  refine ⟨3, ?_⟩
  unfold fuseelaw02_PatSum.f
  rw [awake_f 2]
  simp only [Option.bind_some, if_true]
  obtain ⟨t, e, hb⟩ := may_some m k
  rw [e]
  simp only [Option.bind_some]
  cases t with
  | false => simp [fuseelaw02_PatSum.j0]
  | true =>
    have hv := hb.1 rfl
    simp only [if_true]
    have sk : fuseelaw02_PatSum.j0 3 m k f a b true true = some true := by simp [fuseelaw02_PatSum.j0]
    by_cases h1 : f < 0
    · rw [if_pos h1]; exact sk
    rw [if_neg h1]
    by_cases h2 : a < 0
    · rw [if_pos h2]; exact sk
    rw [if_neg h2]
    by_cases h3 : b < 0
    · rw [if_pos h3]; exact sk
    rw [if_neg h3]
    by_cases h4 : f > 1000000000000
    · rw [if_pos h4]; exact sk
    rw [if_neg h4]
    by_cases h5 : a > 10000000000
    · rw [if_pos h5]; exact sk
    rw [if_neg h5]
    by_cases h6 : b > 10000000000
    · rw [show decide (b > 10000000000) = true by simpa using h6]; exact sk
    rw [show decide (b > 10000000000) = false by simpa using h6]
    simp only [fuseelaw02_PatSum.j0]
    rw [if_neg (by simp), hw_small (f + a) (by omega) (by omega), hw_small (a + b) (by omega) (by omega), count_f 1 m k f a hv (by omega) (by omega) (by omega) (by omega), count_f 1 m k (f + a) b hv (by omega) (by omega) (by omega) (by omega),
      count_f 1 m k f (a + b) hv (by omega) (by omega) (by omega) (by omega), most_f m k (a + b) hv (by omega) (by omega), most_f m k a hv (by omega) (by omega), most_f m k b hv (by omega) (by omega)]
    simp only [Option.bind_some]
    have b1 := S_bound m k (f + a) hv (by omega)
    have b2 := S_bound m k f hv (by omega)
    have b3 := S_bound m k (f + a + b) hv (by omega)
    have b4 := S_bound m k a hv (by omega)
    have b5 := S_bound m k b hv (by omega)
    have m1 := S_mono m k f (f + a) hv (by omega)
    have m2 := S_mono m k (f + a) (f + a + b) hv (by omega)
    have m3 := S_mono m k a (a + b) hv (by omega)
    have m4 := S_sub m k a b hv
    rw [show f + (a + b) = f + a + b from by omega, hw_small (S m k (f + a) - S m k f + (S m k (f + a + b) - S m k (f + a))) (by omega) (by omega), hw_small (S m k a + S m k b) (by omega) (by omega),
      if_pos (by omega), if_pos (by omega), if_pos (by omega), if_pos (by omega)]
    simp
    omega

end Go.Proofs.Ytndeaifggijlaaa.Pure
