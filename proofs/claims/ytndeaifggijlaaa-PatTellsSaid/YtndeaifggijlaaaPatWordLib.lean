/- What the word of m and k is, by the printed function, for every m and k. -/
import Derived.Test.YtndeaifggijlaaaPAx1
import Derived.Test.YtndeaifggijlaaaPAx16
import Derived.Test.YtndeaifggijlaaaPAx7
import Derived.Test.YtndeaifggijlaaaPatLib
namespace Go.Proofs.Ytndeaifggijlaaa.Pure
open Go.RowKit Go.Proofs.Ytndeaifggijlaaa.PA Go.Proofs.YtndeaifggijlaaaW.PrintWords Go.Proofs.YtndeaifggijlaaaW.PrintLast

def WD (m k : Int) : List Bool := (List.range k.toNat).map fun (i : Nat) => ON m k (i : Int)
theorem wd_take (m k : Int) (j : Nat) : (List.range (j + 1)).map (fun (i : Nat) => ON m k (i : Int)) = (List.range j).map (fun (i : Nat) => ON m k (i : Int)) ++ [ON m k (j : Int)] := by simp [List.range_succ]
theorem wd_length (m k : Int) (h : 0 ≤ k) : ((WD m k).length : Int) = k := by simp [WD]; omega
theorem wd_rd (m k j : Int) (h0 : 0 ≤ j) (h1 : j < k) : rdOf false (WD m k) j = ON m k j := by
  unfold rdOf WD
  rw [List.getD_eq_getElem?_getD, List.getElem?_map, List.getElem?_range (by omega)]
  simp only [Option.map_some, Option.getD_some]
  rw [Int.toNat_of_nonneg h0]
theorem word_loop (m k : Int) (hv : V m k) : ∀ (d fuel j : Nat), (j : Int) ≤ k → (k - j).toNat = d → d + 2 ≤ fuel →
    pat_Word.l0 fuel m k ((List.range j).map fun (i : Nat) => ON m k (i : Int)) (j : Int) = some (WD m k) := by
  intro d
  induction d with
  | zero =>
    intro fuel j hj hd hf
    obtain ⟨fuel, rfl⟩ : ∃ x, fuel = x + 1 + 1 := ⟨fuel - 2, by omega⟩
    rw [pat_Word.l0, if_neg (by omega)]
    unfold WD
    rw [show k.toNat = j from by omega]
  | succ d ih =>
    intro fuel j hj hd hf
    obtain ⟨fuel, rfl⟩ : ∃ x, fuel = x + 1 + 1 := ⟨fuel - 2, by omega⟩
    have hv' := hv
    obtain ⟨x, y, z⟩ := hv'
    have r := ih (fuel + 1) (j + 1) (by omega) (by omega) (by omega)
    rw [pat_Word.l0, if_pos (by omega), on_ON fuel m k j hv (by omega) (by omega)]
    simp only [Option.bind_some]
    rw [if_pos (by simp; omega), hw_small _ (by omega) (by omega), ← wd_take, show ((j : Int) + 1) = ((j + 1 : Nat) : Int) from by omega]
    exact r
theorem word_f (m k : Int) (hv : V m k) (fuel : Nat) (hf : 8 ≤ fuel) : pat_Word.f fuel m k = some (WD m k) := by
  unfold pat_Word.f
  rw [V_may hv]
  simp only [Option.bind_some, if_true]
  have hv' := hv
  obtain ⟨x, y, z⟩ := hv'
  exact word_loop m k hv k.toNat fuel 0 (by omega) (by omega) (by omega)
theorem word_f_no (m k : Int) (h : pat_May.f m k = some false) (fuel : Nat) : pat_Word.f fuel m k = some [] := by
  unfold pat_Word.f
  rw [h]
  simp

end Go.Proofs.Ytndeaifggijlaaa.Pure
