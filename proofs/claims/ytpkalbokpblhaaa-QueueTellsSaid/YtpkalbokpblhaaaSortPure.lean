import Derived.Test.YtpkalbokpblhaaaPAx0
import Derived.Test.YtpkalbokpblhaaaPAx2
import Derived.Test.YtpkalbokpblhaaaPAx3
import Derived.Test.YtpkalbokpblhaaaPAx4
import Derived.Test.YtpkalbokpblhaaaPileC
namespace Go.Proofs.Ytpkalbokpblhaaa.PA
open Go.RowKit Go.Proofs.YtpkalbokpblhaaaW.PrintWords Go.Proofs.YtpkalbokpblhaaaW.PrintLast Go.Proofs.YtpkalbokpblhaaaW.PrintMore
attribute [local go_sem] max2_int min2_int max_two min_two max_three min_three max_four min_four
set_option linter.unusedVariables false
set_option linter.unusedSimpArgs false
theorem ref_ahead_ah (a b : S24) : fuseeref04_ahead.f a.f0 a.f1 b.f0 b.f1 = some (ah a b) := by
  unfold fuseeref04_ahead.f ah
  by_cases h1 : a.f0 < b.f0
  · simp [h1]
  · by_cases h2 : a.f0 = b.f0
    · simp [h2]
    · simp [h1, h2]
theorem ins_pure {x0 : List S24} {p : Nat} {x : S24} (hp : p ≤ x0.length) (hs : Sorted x0) (hlo : ∀ c, c < p → Le (at_ x0 c) x) (hhi : ∀ c, p ≤ c → c < x0.length → Le x (at_ x0 c)) :
    Sorted (x0.take p ++ [x] ++ x0.drop p) ∧ (x0.take p ++ [x] ++ x0.drop p).Perm (x :: x0) := by
  have h0 : Sorted (x0.take p ++ x0.drop p) := by rw [List.take_append_drop]; exact hs
  obtain ⟨h1, h2, h3⟩ := List.pairwise_append.1 h0
  have hl : ∀ a ∈ x0.take p, Le a x := fun a ha => by
    obtain ⟨c, hc, rfl⟩ := List.mem_iff_getElem.1 ha
    have hc2 : c < p := by
      rw [List.length_take] at hc
      omega
    have := hlo c hc2
    rw [at_get (by omega)] at this
    rw [List.getElem_take]
    exact this
  have hr : ∀ b ∈ x0.drop p, Le x b := fun b hb => by
    obtain ⟨c, hc, rfl⟩ := List.mem_iff_getElem.1 hb
    rw [List.length_drop] at hc
    have := hhi (p + c) (by omega) (by omega)
    rw [at_get (by omega)] at this
    rw [List.getElem_drop]
    exact this
  constructor
  · rw [List.append_assoc]
    refine List.pairwise_append.2 ⟨h1, ?_, fun a ha b hb => ?_⟩
    · rw [List.singleton_append]
      exact List.pairwise_cons.2 ⟨hr, h2⟩
    · rw [List.singleton_append] at hb
      rcases List.mem_cons.1 hb with rfl | hb
      · exact hl a ha
      · exact h3 a ha b hb
  · have e : (x0.take p ++ [x] ++ x0.drop p).Perm (x :: (x0.take p ++ x0.drop p)) := by
      rw [List.append_assoc, List.singleton_append]
      exact List.perm_middle
    rwa [List.take_append_drop] at e
theorem put_pure : ∀ (k : Nat) (x0 : List S24) (p : Nat) (x : S24) (r : List S24), p ≤ x0.length → (x0.length : Int) ≤ 9223372036854775807 → Sorted x0 → (∀ c, p ≤ c → c < x0.length → Le x (at_ x0 c)) →
    fuseeref04_put.l0 k x0 (p : Int) x.f0 x.f1 = some r → Sorted r ∧ r.Perm (x :: x0) ∧ r.length < 8796093022208
  | 0, _, _, _, _, _, _, _, _, h => by simp [fuseeref04_put.l0] at h
  | k + 1, x0, p, x, r, hp, hl, hs, hhi, h => by
    have fin : ∀ (hlo : ∀ c, c < p → Le (at_ x0 c) x) (e : r = x0.take p ++ [x] ++ x0.drop p) (hr : r.length < 8796093022208), Sorted r ∧ r.Perm (x :: x0) ∧ r.length < 8796093022208 := fun hlo e hr => by
      obtain ⟨h1, h2⟩ := ins_pure (x := x) hp hs hlo hhi
      rw [← e] at h1 h2
      exact ⟨h1, h2, hr⟩
    unfold fuseeref04_put.l0 at h
    by_cases h0 : p = 0
    · rw [if_neg (by omega)] at h
      simp only [Option.bind_some, Int.toNat_natCast] at h
      repeat' split at h
      all_goals first | (cases h; done) | skip
      refine fin (fun c hc => by omega) ?_ ?_
      · rw [← Option.some.inj h]
        simp
      · rename_i h9
        rw [← Option.some.inj h, List.length_append]
        exact h9
    · have hw : wrap64 ((p : Int) - 1) = ((p - 1 : Nat) : Int) := by
        rw [show wrap64 ((p : Int) - 1) = (p : Int) - 1 from by unfold wrap64; omega]
        omega
      rw [if_pos (by omega), hw, if_pos (by omega), if_pos (by omega)] at h
      have hrd : rd_T24 x0 ((p - 1 : Nat) : Int) = at_ x0 (p - 1) := by
        unfold rd_T24 at_
        rw [Int.toNat_natCast]
      rw [hrd, ref_ahead_ah, Option.bind_some] at h
      cases ht : ah x (at_ x0 (p - 1)) with
      | true =>
        rw [ht, if_pos rfl] at h
        refine put_pure k x0 (p - 1) x r (by omega) hl hs (fun c hc hc2 => ?_) h
        by_cases e : c = p - 1
        · subst e
          exact le_of_ah ht
        · exact hhi c (by omega) hc2
      | false =>
        rw [ht, if_neg (by simp)] at h
        simp only [Option.bind_some, Int.toNat_natCast] at h
        repeat' split at h
        all_goals first | (cases h; done) | skip
        refine fin (fun c hc => ?_) ?_ ?_
        · by_cases e : c = p - 1
          · subst e
            exact le_of_not ht
          · refine le_trans ?_ (le_of_not ht)
            rw [at_get (by omega), at_get (by omega)]
            exact (List.pairwise_iff_getElem.1 hs) c (p - 1) (by omega) (by omega) (by omega)
        · rw [← Option.some.inj h]
          simp
        · rename_i h9
          rw [← Option.some.inj h, List.length_append]
          exact h9
theorem sort_pure' : ∀ (k : Nat) (x0 out : List S24) (i : Nat) (r : List S24), i ≤ x0.length → (x0.length : Int) ≤ 9223372036854775807 → Sorted out → out.Perm (x0.take i) → out.length < 8796093022208 →
    fuseeref04_Sort.l0 k x0 out (i : Int) = some r → Sorted r ∧ r.Perm x0 ∧ r.length < 8796093022208
  | 0, _, _, _, _, _, _, _, _, _, h => by simp [fuseeref04_Sort.l0] at h
  | k + 1, x0, out, i, r, hi, hl, hs, hp, ho, h => by
    unfold fuseeref04_Sort.l0 at h
    by_cases h1 : i < x0.length
    · rw [if_pos (by omega), if_pos (by omega)] at h
      obtain ⟨t, ht, h⟩ := Option.bind_eq_some_iff.mp h
      have hrd : rd_T24 x0 (i : Int) = at_ x0 i := by
        unfold rd_T24 at_
        rw [Int.toNat_natCast]
      rw [hrd] at ht
      unfold fuseeref04_put.f at ht
      obtain ⟨h2, h3, h4⟩ := put_pure k out out.length (at_ x0 i) t (Nat.le_refl _) (by omega) hs (fun c h5 h6 => by omega) ht
      have hw : wrap64 ((i : Int) + 1) = ((i + 1 : Nat) : Int) := by
        rw [show wrap64 ((i : Int) + 1) = (i : Int) + 1 from by unfold wrap64; omega]
        omega
      rw [hw] at h
      refine sort_pure' k x0 t (i + 1) r (by omega) hl h2 ?_ h4 h
      rw [List.take_succ_eq_append_getElem h1, ← at_get h1]
      exact h3.trans ((List.Perm.cons _ hp).trans (List.perm_append_singleton _ _).symm)
    · rw [if_neg (by omega)] at h
      obtain rfl := Option.some.inj h
      have e : i = x0.length := by omega
      subst e
      rw [List.take_length] at hp
      exact ⟨hs, hp, ho⟩
theorem sort_pure {k : Nat} {x0 r : List S24} (hl : (x0.length : Int) ≤ 9223372036854775807) (h : fuseeref04_Sort.f k x0 = some r) : Sorted r ∧ r.Perm x0 ∧ x0.length < 8796093022208 := by
  obtain ⟨h1, h2, h3⟩ := sort_pure' k x0 [] 0 r (Nat.zero_le _) hl List.Pairwise.nil (by simp) (by simp) h
  exact ⟨h1, h2, by rw [← h2.length_eq]; exact h3⟩

end Go.Proofs.Ytpkalbokpblhaaa.PA
