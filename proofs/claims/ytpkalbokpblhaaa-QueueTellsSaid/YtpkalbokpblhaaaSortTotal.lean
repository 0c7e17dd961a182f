import Derived.Test.YtpkalbokpblhaaaPAx0
import Derived.Test.YtpkalbokpblhaaaPAx2
import Derived.Test.YtpkalbokpblhaaaPAx3
import Derived.Test.YtpkalbokpblhaaaPAx4
import Derived.Test.YtpkalbokpblhaaaPAx5
import Derived.Test.YtpkalbokpblhaaaPAx6
import Derived.Test.YtpkalbokpblhaaaSortPure
import Derived.Test.YtpkalbokpblhaaaPileC
namespace Go.Proofs.Ytpkalbokpblhaaa.PA
open Go.RowKit Go.Proofs.YtpkalbokpblhaaaW.PrintWords Go.Proofs.YtpkalbokpblhaaaW.PrintLast Go.Proofs.YtpkalbokpblhaaaW.PrintMore
set_option linter.unusedVariables false
set_option linter.unusedSimpArgs false
theorem put_total : ∀ (p k : Nat) (x0 : List S24) (x : S24), p < k → p ≤ x0.length → x0.length < 8796093022207 → ∃ r, fuseeref04_put.l0 k x0 (p : Int) x.f0 x.f1 = some r
  | p, 0, x0, x, hk, _, _ => by omega
  | p, k + 1, x0, x, hk, hp, hl => by
    have fin : ∀ (h1 : (0 : Int) ≤ (p : Int)) (h2 : (p : Int) ≤ (x0.length : Int)), (([] : List S24) ++ x0.take p ++ [x]).length + (x0.drop p).length < 8796093022208 := fun _ _ => by
      simp
      omega
    rw [fuseeref04_put.l0]
    by_cases h0 : p = 0
    · rw [if_neg (by omega), if_pos (by omega), if_pos (by omega)]
      simp only [Option.bind_some, Int.toNat_natCast]
      rw [if_pos (by simp; omega), if_pos (by simp; omega), if_pos (by simpa using fin (by omega) (by omega))]
      exact ⟨_, rfl⟩
    · have hw : wrap64 ((p : Int) - 1) = ((p - 1 : Nat) : Int) := by
        rw [show wrap64 ((p : Int) - 1) = (p : Int) - 1 from by unfold wrap64; omega]
        omega
      rw [if_pos (by omega), hw, if_pos (by omega), if_pos (by omega)]
      have hrd : rd_T24 x0 ((p - 1 : Nat) : Int) = at_ x0 (p - 1) := by
        unfold rd_T24 at_
        rw [Int.toNat_natCast]
      rw [hrd, ref_ahead_ah, Option.bind_some]
      cases ah x (at_ x0 (p - 1)) with
      | true =>
        rw [if_pos rfl]
        exact put_total (p - 1) k x0 x (by omega) (by omega) hl
      | false =>
        rw [if_neg (by simp), if_pos (by omega), if_pos (by omega)]
        simp only [Option.bind_some, Int.toNat_natCast]
        rw [if_pos (by simp; omega), if_pos (by simp; omega), if_pos (by simpa using fin (by omega) (by omega))]
        exact ⟨_, rfl⟩
theorem sort_total' : ∀ (k : Nat) (x0 out : List S24) (i : Nat), 2 * x0.length - i < k → i ≤ x0.length → x0.length < 8796093022208 → Sorted out → out.Perm (x0.take i) → ∃ r, fuseeref04_Sort.l0 k x0 out (i : Int) = some r
  | 0, _, _, _, hk, _, _, _, _ => by omega
  | k + 1, x0, out, i, hk, hi, hl, hs, hp => by
    rw [fuseeref04_Sort.l0]
    have hol : out.length = i := by
      rw [hp.length_eq, List.length_take]
      omega
    by_cases h1 : i < x0.length
    · have hrd : rd_T24 x0 (i : Int) = at_ x0 i := by
        unfold rd_T24 at_
        rw [Int.toNat_natCast]
      have hw : wrap64 ((i : Int) + 1) = ((i + 1 : Nat) : Int) := by
        rw [show wrap64 ((i : Int) + 1) = (i : Int) + 1 from by unfold wrap64; omega]
        omega
      obtain ⟨t, ht⟩ := put_total out.length k out (at_ x0 i) (by omega) (Nat.le_refl _) (by omega)
      obtain ⟨h2, h3, h4⟩ := put_pure k out out.length (at_ x0 i) t (Nat.le_refl _) (by omega) hs (fun c h5 h6 => by omega) ht
      rw [if_pos (by omega), if_pos (by omega), hrd, fuseeref04_put.f, ht, Option.bind_some, hw]
      refine sort_total' k x0 t (i + 1) (by omega) (by omega) hl h2 ?_
      rw [List.take_succ_eq_append_getElem h1, ← at_get h1]
      exact h3.trans ((List.Perm.cons _ hp).trans (List.perm_append_singleton _ _).symm)
    · rw [if_neg (by omega)]
      exact ⟨_, rfl⟩
/-- Sorting ends, and tells the one sorted row. -/
theorem sort_total {k : Nat} {x0 : List S24} (hk : 2 * x0.length < k) (hl : x0.length < 8796093022208) : ∃ r, queue_Sort.f k x0 = some r ∧ fuseeref04_Sort.f k x0 = some r ∧ Sorted r ∧ r.Perm x0 := by
  obtain ⟨r, hr⟩ := sort_total' k x0 [] 0 (by omega) (Nat.zero_le _) hl List.Pairwise.nil (by simp)
  have hr2 : fuseeref04_Sort.f k x0 = some r := hr
  obtain ⟨h1, h2, _⟩ := sort_pure (by omega) hr2
  exact ⟨r, by rw [queue_Sort.f, hr2]; rfl, hr2, h1, h2⟩
theorem same_total : ∀ (k j : Nat) (x0 : List S24), x0.length - j < k → j ≤ x0.length → x0.length < 8796093022208 → fuseeref04_Same.l0 k x0 x0 (j : Int) = some true
  | 0, _, _, hk, _, _ => by omega
  | k + 1, j, x0, hk, hj, hl => by
    rw [fuseeref04_Same.l0]
    by_cases h1 : j < x0.length
    · have hw : wrap64 ((j : Int) + 1) = ((j + 1 : Nat) : Int) := by
        rw [show wrap64 ((j : Int) + 1) = (j : Int) + 1 from by unfold wrap64; omega]
        omega
      rw [if_pos (by omega), if_pos (by omega), if_pos (by omega), if_neg (by simp), hw]
      exact same_total k (j + 1) x0 (by omega) (by omega) hl
    · rw [if_neg (by omega)]
theorem same_self {k : Nat} {x0 : List S24} (hk : x0.length < k) (hl : x0.length < 8796093022208) : fuseeref04_Same.f k x0 x0 = some true := by
  rw [fuseeref04_Same.f, if_pos rfl]
  exact same_total k 0 x0 (by omega) (Nat.zero_le _) hl

end Go.Proofs.Ytpkalbokpblhaaa.PA
