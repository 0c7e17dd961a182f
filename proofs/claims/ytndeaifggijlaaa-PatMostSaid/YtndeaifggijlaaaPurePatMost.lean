/- The law PatMost as a statement on numbers: for every m, k and every stretch of jobs it answers true. -/
import Derived.Test.YtndeaifggijlaaaPAx14
import Derived.Test.YtndeaifggijlaaaPAx7
import Derived.Test.YtndeaifggijlaaaPatLib
namespace Go.Proofs.Ytndeaifggijlaaa.Pure
open Go.RowKit Go.Proofs.Ytndeaifggijlaaa.PA Go.Proofs.YtndeaifggijlaaaW.PrintWords Go.Proofs.YtndeaifggijlaaaW.PrintLast

theorem most_loop (m k a n : Int) (hv : V m k) (h0 : 0 ≤ a) (h1 : a ≤ 1099511627676) (n0 : 0 ≤ n) (n1 : n ≤ 100) : ∀ (d : Nat) (fuel : Nat) (i : Int), 0 ≤ i → i ≤ n → (n - i).toNat = d → d + 2 ≤ fuel →
    fuseelaw02_PatMost.l0 fuel m k a n (S m k (a + i) - S m k a) (S m k i) i = some true := by
  intro d
  induction d with
  | zero =>
    intro fuel i hi hik hd hf
    obtain ⟨fuel, rfl⟩ : ∃ x, fuel = x + 1 + 1 := ⟨fuel - 2, by omega⟩
    obtain rfl : i = n := by omega
    rw [fuseelaw02_PatMost.l0]
    have s1 := S_sub m k a i hv
    rw [if_neg (by omega), count_f fuel m k a i hv h0 (by omega) (by omega) (by omega), most_f m k i hv (by omega) (by omega)]
    simp only [Option.bind_some]
    rw [if_pos (by trivial), if_pos (by omega)]
    simp
  | succ d ih =>
    intro fuel i hi hik hd hf
    obtain ⟨fuel, rfl⟩ : ∃ x, fuel = x + 1 + 1 := ⟨fuel - 2, by omega⟩
    rw [fuseelaw02_PatMost.l0]
    have st := S_on m k (a + i) hv
    have st2 := S_on m k i hv
    have r := ih (fuel + 1) (i + 1) (by omega) (by omega) (by omega) (by omega)
    have b1 := S_bound m k (a + i) hv (by omega)
    have b2 := S_bound m k a hv (by omega)
    have b3 := S_bound m k i hv (by omega)
    rw [if_pos (by omega), hw_small (a + i) (by omega) (by omega), on_ON fuel m k (a + i) hv (by omega) (by omega), on_ON fuel m k i hv (by omega) (by omega)]
    simp only [Option.bind_some]
    rw [hw_small (i + 1) (by omega) (by omega), hw_small (S m k (a + i) - S m k a + 1) (by omega) (by omega), hw_small (S m k i + 1) (by omega) (by omega)]
    rw [show a + (i + 1) = a + i + 1 from by omega] at r
    by_cases o : ON m k (a + i) = true
    · rw [if_pos o] at st ⊢
      by_cases o2 : ON m k i = true
      · rw [if_pos o2] at st2 ⊢
        rw [show S m k (a + i) - S m k a + 1 = S m k (a + i + 1) - S m k a from by omega, show S m k i + 1 = S m k (i + 1) from by omega]
        exact r
      · rw [if_neg o2] at st2 ⊢
        rw [show S m k (a + i) - S m k a + 1 = S m k (a + i + 1) - S m k a from by omega, show S m k i = S m k (i + 1) from by omega]
        exact r
    · rw [if_neg o] at st ⊢
      by_cases o2 : ON m k i = true
      · rw [if_pos o2] at st2 ⊢
        rw [show S m k (a + i) - S m k a = S m k (a + i + 1) - S m k a from by omega, show S m k i + 1 = S m k (i + 1) from by omega]
        exact r
      · rw [if_neg o2] at st2 ⊢
        rw [show S m k (a + i) - S m k a = S m k (a + i + 1) - S m k a from by omega, show S m k i = S m k (i + 1) from by omega]
        exact r

theorem PatMost : fuseelaw02_PatMost.Pure := by
  intro m k a n _ _ _ _
  refine ⟨110, ?_⟩
  unfold fuseelaw02_PatMost.f
  rw [awake_f 109]
  simp only [Option.bind_some, if_true]
  obtain ⟨t, e, hb⟩ := may_some m k
  rw [e]
  simp only [Option.bind_some]
  cases t with
  | false => simp [fuseelaw02_PatMost.j0]
  | true =>
    have hv := hb.1 rfl
    simp only [if_true]
    have sk : fuseelaw02_PatMost.j0 110 m k a n true true = some true := by simp [fuseelaw02_PatMost.j0]
    by_cases h1 : a < 0
    · rw [if_pos h1]; exact sk
    rw [if_neg h1]
    by_cases h2 : n < 0
    · rw [if_pos h2]; exact sk
    rw [if_neg h2]
    by_cases h3 : n > 100
    · rw [if_pos h3]; exact sk
    rw [if_neg h3]
    by_cases h6 : a > 1099511627676
    · rw [show decide (a > 1099511627676) = true by simpa using h6]; exact sk
    rw [show decide (a > 1099511627676) = false by simpa using h6]
    simp only [fuseelaw02_PatMost.j0]
    rw [if_neg (by simp)]
    have r := most_loop m k a n hv (by omega) (by omega) (by omega) (by omega) n.toNat 109 0 (by omega) (by omega) (by omega) (by omega)
    rw [show a + 0 = a from by omega, show S m k a - S m k a = 0 from by omega, S_zero m k hv] at r
    exact r

end Go.Proofs.Ytndeaifggijlaaa.Pure
