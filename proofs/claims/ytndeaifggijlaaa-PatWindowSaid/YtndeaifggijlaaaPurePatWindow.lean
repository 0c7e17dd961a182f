/- The law PatWindow as a statement on numbers: for every m, k and every first job it answers true. -/
import Derived.Test.YtndeaifggijlaaaPAx10
import Derived.Test.YtndeaifggijlaaaPAx7
import Derived.Test.YtndeaifggijlaaaPatLib
namespace Go.Proofs.Ytndeaifggijlaaa.Pure
open Go.RowKit Go.Proofs.Ytndeaifggijlaaa.PA Go.Proofs.YtndeaifggijlaaaW.PrintWords Go.Proofs.YtndeaifggijlaaaW.PrintLast

theorem window_loop (m k a : Int) (hv : V m k) (h0 : 0 ≤ a) (h1 : a ≤ 1099511627770) : ∀ (d : Nat) (fuel : Nat) (i : Int), 0 ≤ i → i ≤ k → (k - i).toNat = d → d + 2 ≤ fuel →
    fuseelaw02_PatWindow.l0 fuel m k a (S m k (a + i) - S m k a) i = some true := by
  intro d
  induction d with
  | zero =>
    intro fuel i hi hik hd hf
    obtain ⟨fuel, rfl⟩ : ∃ x, fuel = x + 1 + 1 := ⟨fuel - 2, by omega⟩
    have hv' := hv
    obtain ⟨x, y, z⟩ := hv'
    obtain rfl : i = k := by omega
    rw [fuseelaw02_PatWindow.l0]
    have s1 := S_turn m i a hv
    have p0 := S_step m i 0 hv
    have z0 := S_zero m i hv
    have o0 : ON m i 0 = true := by
      unfold ON
      rw [z0, decide_eq_true_iff]
      unfold S cl
      clear s1 p0 z0
      rcases six (show 1 ≤ i by omega) z with rfl | rfl | rfl | rfl | rfl | rfl <;> rcases six x (by omega) with rfl | rfl | rfl | rfl | rfl | rfl <;> omega
    rw [if_neg (by omega), if_pos (by omega), count_f fuel m i a i hv h0 (by omega) (by omega) (by omega)]
    simp only [Option.bind_some]
    rw [if_pos (by omega), on_ON fuel m i 0 hv (by omega) (by omega), o0]
    rfl
  | succ d ih =>
    intro fuel i hi hik hd hf
    obtain ⟨fuel, rfl⟩ : ∃ x, fuel = x + 1 + 1 := ⟨fuel - 2, by omega⟩
    have hv' := hv
    obtain ⟨x, y, z⟩ := hv'
    rw [fuseelaw02_PatWindow.l0]
    have st := S_on m k (a + i) hv
    have r := ih (fuel + 1) (i + 1) (by omega) (by omega) (by omega) (by omega)
    have b1 := S_bound m k (a + i) hv (by omega)
    have b2 := S_bound m k a hv (by omega)
    rw [if_pos (by omega), hw_small (a + i) (by omega) (by omega), on_ON fuel m k (a + i) hv (by omega) (by omega)]
    simp only [Option.bind_some]
    rw [hw_small (i + 1) (by omega) (by omega)]
    rw [show a + (i + 1) = a + i + 1 from by omega] at r
    by_cases o : ON m k (a + i) = true
    · rw [if_pos o] at st ⊢
      rw [hw_small _ (by omega) (by omega), show S m k (a + i) - S m k a + 1 = S m k (a + i + 1) - S m k a from by omega]
      exact r
    · rw [if_neg o] at st ⊢
      rw [show S m k (a + i) - S m k a = S m k (a + i + 1) - S m k a from by omega]
      exact r

theorem PatWindow : fuseelaw02_PatWindow.Pure := by
  intro m k a _ _ _
  refine ⟨12, ?_⟩
  unfold fuseelaw02_PatWindow.f
  rw [awake_f 11]
  simp only [Option.bind_some, if_true]
  obtain ⟨t, e, hb⟩ := may_some m k
  rw [e]
  simp only [Option.bind_some]
  cases t with
  | false => simp [fuseelaw02_PatWindow.j0]
  | true =>
    have hv := hb.1 rfl
    simp only [if_true]
    have sk : fuseelaw02_PatWindow.j0 12 m k a true true = some true := by simp [fuseelaw02_PatWindow.j0]
    by_cases h1 : a < 0
    · rw [if_pos h1]; exact sk
    rw [if_neg h1]
    by_cases h6 : a > 1099511627770
    · rw [show decide (a > 1099511627770) = true by simpa using h6]; exact sk
    rw [show decide (a > 1099511627770) = false by simpa using h6]
    simp only [fuseelaw02_PatWindow.j0]
    rw [if_neg (by simp)]
    have hv' := hv
    obtain ⟨x, y, z⟩ := hv'
    have r := window_loop m k a hv (by omega) (by omega) k.toNat 11 0 (by omega) (by omega) (by omega) (by omega)
    rw [show a + 0 = a from by omega, show S m k a - S m k a = 0 from by omega] at r
    exact r

end Go.Proofs.Ytndeaifggijlaaa.Pure
