/- The law PatWord as a statement on numbers: for every m, k and n it answers true. -/
import Derived.Test.YtndeaifggijlaaaPAx17
import Derived.Test.YtndeaifggijlaaaPAx7
import Derived.Test.YtndeaifggijlaaaPatLib
import Derived.Test.YtndeaifggijlaaaPatWordLib
namespace Go.Proofs.Ytndeaifggijlaaa.Pure
open Go.RowKit Go.Proofs.Ytndeaifggijlaaa.PA Go.Proofs.YtndeaifggijlaaaW.PrintWords Go.Proofs.YtndeaifggijlaaaW.PrintLast

theorem pw_loop (m k n : Int) (hv : V m k) : ∀ (d fuel : Nat) (j : Int), 0 ≤ j → j ≤ k → (k - j).toNat = d → d + 4 ≤ fuel →
    fuseelaw02_PatWord.l0 fuel m k n (WD m k) (S m k j) j = some true := by
  intro d
  have hv' := hv
  obtain ⟨x, y, z⟩ := hv'
  induction d with
  | zero =>
    intro fuel j h0 hj hd hf
    obtain ⟨fuel, rfl⟩ : ∃ x, fuel = x + 1 + 1 + 1 := ⟨fuel - 3, by omega⟩
    obtain rfl : j = k := by omega
    have s1 := S_turn m j 0 hv
    rw [S_zero m j hv, show (0 : Int) + j = j from by omega, show (0 : Int) + m = m from by omega] at s1
    have hl := wd_length m j h0
    rw [fuseelaw02_PatWord.l0, if_neg (by omega), if_pos hl, if_pos s1]
    have sk : fuseelaw02_PatWord.j2 (fuel + 1 + 1) m j n (WD m j) (S m j j) true = some true := by
      rw [fuseelaw02_PatWord.j2, if_pos rfl, if_pos hl, s1]; simp
    by_cases q : m = j
    · rw [if_pos q]; exact sk
    rw [if_neg q]
    by_cases q1 : n < 0
    · rw [if_pos q1]; exact sk
    rw [if_neg q1]
    by_cases q2 : n > 1000
    · rw [show decide (n > 1000) = true by simpa using q2]; exact sk
    rw [show decide (n > 1000) = false by simpa using q2]
    have hv2 : V (m + 1) j := ⟨by omega, by omega, by omega⟩
    have mo := S_more m j n hv hv2 (by omega)
    rw [fuseelaw02_PatWord.j2, if_neg (by simp), hw_small (m + 1) (by omega) (by omega), count_f fuel m j 0 n hv (by omega) (by omega) (by omega) (by omega), count_f fuel (m + 1) j 0 n hv2 (by omega) (by omega) (by omega) (by omega)]
    simp only [Option.bind_some]
    rw [S_zero m j hv, S_zero (m + 1) j hv2, show (0 : Int) + n = n from by omega]
    simp
    omega
  | succ d ih =>
    intro fuel j h0 hj hd hf
    obtain ⟨fuel, rfl⟩ : ∃ x, fuel = x + 1 + 1 := ⟨fuel - 2, by omega⟩
    have hl := wd_length m k (by omega)
    have st := S_on m k j hv
    have sb := S_bound m k j hv h0
    have r := ih (fuel + 1) (j + 1) (by omega) (by omega) (by omega) (by omega)
    rw [fuseelaw02_PatWord.l0, if_pos (by omega), if_pos h0, on_ON fuel m k j hv h0 (by omega)]
    simp only [Option.bind_some]
    rw [wd_rd m k j h0 (by omega), if_neg (by simp), hw_small (j + 1) (by omega) (by omega), hw_small (S m k j + 1) (by omega) (by omega)]
    by_cases o : ON m k j = true
    · rw [if_pos o] at st ⊢
      rw [← st]; exact r
    · rw [if_neg o] at st ⊢
      rw [show S m k j = S m k (j + 1) from by omega]; exact r

theorem PatWord : fuseelaw02_PatWord.Pure := by
  intro m k n _ _ _
  refine ⟨20, ?_⟩
  unfold fuseelaw02_PatWord.f
  rw [awake_f 19]
  simp only [Option.bind_some, if_true]
  obtain ⟨t, e, hb⟩ := may_some m k
  rw [e]
  cases t with
  | false =>
    rw [word_f_no m k e 20]
    simp [fuseelaw02_PatWord.j0]
  | true =>
    have hv := hb.1 rfl
    rw [word_f m k hv 20 (by omega)]
    simp only [Option.bind_some]
    rw [fuseelaw02_PatWord.j0, if_neg (by simp)]
    have hv' := hv
    obtain ⟨x, y, z⟩ := hv'
    have r := pw_loop m k n hv k.toNat 19 0 (by omega) (by omega) (by omega) (by omega)
    rw [S_zero m k hv] at r
    exact r

end Go.Proofs.Ytndeaifggijlaaa.Pure
