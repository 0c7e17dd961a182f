import Derived.Test.YtpkalbokpblhaaaPAx0
import Derived.Test.YtpkalbokpblhaaaPAx7
import Derived.Test.YtpkalbokpblhaaaPAx8
import Derived.Test.YtpkalbokpblhaaaPAx9
import Derived.Test.YtpkalbokpblhaaaPileC
namespace Go.Proofs.Ytpkalbokpblhaaa.PA
open Go.RowKit Go.Proofs.YtpkalbokpblhaaaW.PrintWords Go.Proofs.YtpkalbokpblhaaaW.PrintLast Go.Proofs.YtpkalbokpblhaaaW.PrintMore
set_option linter.unusedVariables false
set_option linter.unusedSimpArgs false
theorem at_pure {l0 : List S24} {id : Int} : ∀ (k j : Nat) (r : Int), j ≤ l0.length → (l0.length : Int) ≤ 9223372036854775807 → queue_at.l0 k l0 id (j : Int) = some r →
    (r = -1 ∧ ∀ c, j ≤ c → c < l0.length → (at_ l0 c).f1 ≠ id) ∨ ∃ i : Nat, r = (i : Int) ∧ j ≤ i ∧ i < l0.length ∧ (at_ l0 i).f1 = id ∧ ∀ c, j ≤ c → c < i → (at_ l0 c).f1 ≠ id
  | 0, _, _, _, _, h => by simp [queue_at.l0] at h
  | k + 1, j, r, hj, hl, h => by
    unfold queue_at.l0 at h
    by_cases h1 : j < l0.length
    · rw [if_pos (by omega), if_pos (by omega)] at h
      have hrd : rd_T24 l0 (j : Int) = at_ l0 j := by
        unfold rd_T24 at_
        rw [Int.toNat_natCast]
      rw [hrd] at h
      by_cases h2 : (at_ l0 j).f1 = id
      · rw [if_pos h2] at h
        exact .inr ⟨j, (Option.some.inj h).symm, Nat.le_refl _, h1, h2, fun c h3 h4 => by omega⟩
      · have hw : wrap64 ((j : Int) + 1) = ((j + 1 : Nat) : Int) := by
          rw [show wrap64 ((j : Int) + 1) = (j : Int) + 1 from by unfold wrap64; omega]
          omega
        rw [if_neg h2, hw] at h
        rcases at_pure k (j + 1) r (by omega) hl h with ⟨e, h3⟩ | ⟨i, e, h3, h4, h5, h6⟩
        · refine .inl ⟨e, fun c h4 h5 => ?_⟩
          by_cases e : c = j
          · subst e
            exact h2
          · exact h3 c (by omega) h5
        · refine .inr ⟨i, e, by omega, h4, h5, fun c h7 h8 => ?_⟩
          by_cases e : c = j
          · subst e
            exact h2
          · exact h6 c (by omega) h8
    · rw [if_neg (by omega)] at h
      exact .inl ⟨(Option.some.inj h).symm, fun c h2 h3 => by omega⟩
theorem may_pure' {l0 : List S24} : ∀ (k j : Nat), j ≤ l0.length → (l0.length : Int) ≤ 9223372036854775807 → queue_May.l0 k l0 l0 (l0.length : Int) (j : Int) = some true →
    (∀ c, j ≤ c → 0 < c → c < l0.length → Le (at_ l0 (c - 1)) (at_ l0 c)) ∧ l0.length ≤ 40 ∧ ∀ c, j ≤ c → c < l0.length → ∃ k, queue_at.f k l0 (at_ l0 c).f1 = some (c : Int)
  | 0, _, _, _, h => by simp [queue_May.l0] at h
  | k + 1, j, hj, hl, h => by
    unfold queue_May.l0 at h
    by_cases h1 : j < l0.length
    · have hrd : ∀ i : Nat, rd_T24 l0 (i : Int) = at_ l0 i := fun i => by
        unfold rd_T24 at_
        rw [Int.toNat_natCast]
      have hw : wrap64 ((j : Int) + 1) = ((j + 1 : Nat) : Int) := by
        rw [show wrap64 ((j : Int) + 1) = (j : Int) + 1 from by unfold wrap64; omega]
        omega
      rw [if_pos (by omega), if_pos (by omega), if_pos (by omega), hw, hrd] at h
      have key : ∀ (t : Int), queue_at.f k l0 (at_ l0 j).f1 = some t → (if t = (j : Int) then queue_May.l0 k l0 l0 (l0.length : Int) ((j + 1 : Nat) : Int) else some false) = some true → (0 < j → Le (at_ l0 (j - 1)) (at_ l0 j)) →
          (∀ c, j ≤ c → 0 < c → c < l0.length → Le (at_ l0 (c - 1)) (at_ l0 c)) ∧ l0.length ≤ 40 ∧ ∀ c, j ≤ c → c < l0.length → ∃ k, queue_at.f k l0 (at_ l0 c).f1 = some (c : Int) := fun t ht h hle => by
        by_cases e : t = (j : Int)
        · rw [if_pos e] at h
          obtain ⟨g1, g2, g3⟩ := may_pure' k (j + 1) (by omega) hl h
          refine ⟨fun c c1 c2 c3 => ?_, g2, fun c c1 c2 => ?_⟩
          · by_cases e2 : c = j
            · subst e2
              exact hle c2
            · exact g1 c (by omega) c2 c3
          · by_cases e2 : c = j
            · subst e2
              exact ⟨k, e ▸ ht⟩
            · exact g3 c (by omega) c2
        · rw [if_neg e] at h
          cases h
      by_cases h0 : (j : Int) > 0
      · have hw2 : wrap64 ((j : Int) - 1) = ((j - 1 : Nat) : Int) := by
          rw [show wrap64 ((j : Int) - 1) = (j : Int) - 1 from by unfold wrap64; omega]
          omega
        rw [if_pos h0, hw2, if_pos (by omega), if_pos (by omega), hrd, ahead_ah, Option.bind_some] at h
        cases ha : ah (at_ l0 j) (at_ l0 (j - 1)) with
        | true =>
          rw [ha, if_pos rfl] at h
          cases h
        | false =>
          rw [ha, if_neg (by simp)] at h
          obtain ⟨t, ht, h⟩ := Option.bind_eq_some_iff.mp h
          exact key t ht h (fun _ => ha)
      · rw [if_neg h0] at h
        obtain ⟨t, ht, h⟩ := Option.bind_eq_some_iff.mp h
        exact key t ht h (fun h2 => by omega)
    · rw [if_neg (by omega)] at h
      have := of_decide_eq_true (Option.some.inj h)
      exact ⟨fun c h2 _ h3 => by omega, by omega, fun c h2 h3 => by omega⟩
theorem adj_sorted {l0 : List S24} (h : ∀ c, 0 < c → c < l0.length → Le (at_ l0 (c - 1)) (at_ l0 c)) : Sorted l0 := by
  have h2 : ∀ d i, i + d < l0.length → Le (at_ l0 i) (at_ l0 (i + d)) := fun d => by
    induction d with
    | zero => exact fun i _ => le_refl _
    | succ d ih => exact fun i hi => le_trans (ih i (by omega)) (h (i + (d + 1)) (by omega) hi)
  refine List.pairwise_iff_getElem.2 fun i j hi hj hij => ?_
  have := h2 (j - i) i (by omega)
  rw [show i + (j - i) = j from by omega, at_get hi, at_get hj] at this
  exact this
theorem may_pure {k : Nat} {l0 : List S24} (hl : (l0.length : Int) ≤ 9223372036854775807) (h : queue_May.f k l0 = some true) : Sorted l0 ∧ l0.length ≤ 40 ∧ ∀ c, c < l0.length → ∃ k, queue_at.f k l0 (at_ l0 c).f1 = some (c : Int) := by
  unfold queue_May.f at h
  obtain ⟨h1, h2, h3⟩ := may_pure' k 0 (Nat.zero_le _) hl h
  exact ⟨adj_sorted fun c h4 h5 => h1 c (Nat.zero_le _) h4 h5, h2, fun c h4 => h3 c (Nat.zero_le _) h4⟩

end Go.Proofs.Ytpkalbokpblhaaa.PA
