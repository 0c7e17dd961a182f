/- The law QueueLeast as a statement on rows. -/
import Derived.Test.YtpkalbokpblhaaaPAx14
import Derived.Test.YtpkalbokpblhaaaMayTotal
namespace Go.Proofs.Ytpkalbokpblhaaa.Pure
set_option linter.unusedVariables false
set_option linter.unusedSimpArgs false
open Go.RowKit Go.Proofs.Ytpkalbokpblhaaa.PA Go.Proofs.YtpkalbokpblhaaaW.PrintWords Go.Proofs.YtpkalbokpblhaaaW.PrintLast
theorem QueueLeast : ∀ (l0 : List S24) (a1 : Int), l0.length ≤ 9223372036854775807 → (Lit.int .i64 a1).wf = true → ∃ k, fuseelaw04_QueueLeast.f k l0 a1 = some true := by
  intro l0 a1 hl _
  refine ⟨30 + (2 * l0.length + 1), ?_⟩
  have haw := awake_true (2 * l0.length + 1)
  generalize hk : 30 + (2 * l0.length + 1) = k at *
  obtain ⟨b, hb⟩ := may_total (k := k) (l0 := l0) (by omega) (by omega)
  unfold fuseelaw04_QueueLeast.f queue_Min.f
  simp only [haw, hb, Option.bind_some, if_true]
  cases b with
  | false => simp
  | true =>
    obtain ⟨hso, _, _⟩ := may_pure (by omega) hb
    simp only [if_true]
    by_cases h0 : (l0.length : Int) = 0
    · rw [if_pos h0]
      simp only [Option.bind_some]
      have hnil : l0 = [] := List.eq_nil_of_length_eq_zero (by omega)
      by_cases h1 : a1 < 0
      · rw [if_pos h1]
        simp [hnil]
      · rw [if_neg h1, if_pos (by omega)]
        simp [hnil]
    · rw [if_neg h0, if_pos (by omega)]
      simp only [Option.bind_some, if_true]
      by_cases h1 : a1 < 0
      · rw [if_pos h1]
        simp
        omega
      · rw [if_neg h1]
        by_cases h2 : a1 ≥ (l0.length : Int)
        · rw [if_pos h2]
          simp
          omega
        · rw [if_neg h2, if_pos (by omega), if_pos (by omega)]
          have hle : Le (rd_T24 l0 0) (rd_T24 l0 a1) := by
            show Le (at_ l0 0) (at_ l0 a1.toNat)
            rcases Nat.eq_zero_or_pos a1.toNat with e | e
            · rw [e]
              exact le_refl _
            · rw [at_get (by omega), at_get (by omega)]
              exact (List.pairwise_iff_getElem.1 hso) 0 a1.toNat (by omega) (by omega) e
          unfold Le ah at hle
          simp at hle
          split
          · rfl
          · split
            · simp
              omega
            · omega
end Go.Proofs.Ytpkalbokpblhaaa.Pure
