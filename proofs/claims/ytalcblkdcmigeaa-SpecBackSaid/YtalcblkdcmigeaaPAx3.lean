-- Written for this claim by a program (the kit's print over a changed input, then joined with texts by hand).
import Derived.Test.YtalcblkdcmigeaaPAx0
import Derived.Test.YtalcblkdcmigeaaPAx2
import Derived.Test.YtalcblkdcmigeaaMayWalk
namespace Go.Proofs.Ytalcblkdcmigeaa.PA
open Go.RowKit Go.Proofs.YtalcblkdcmigeaaW.PrintWords Go.Proofs.YtalcblkdcmigeaaW.PrintLast Go.Proofs.YtalcblkdcmigeaaW.PrintMore
attribute [local go_sem] max2_int min2_int max_two min_two max_three min_three max_four min_four   -- for this text's walks alone
set_option linter.unusedVariables false
set_option linter.unusedSimpArgs false

/-! ### spec_May: function 9 -/
def spec_May.f (a0_0 : Int) (a0_1 : Int) (a0_2 : Int) (a0_3 : Int) (a0_4 : Int) (a0_5 : Int) : Option (Bool) := (pat_May.f a0_3 a0_4).bind fun t102 => (if a0_0 ≥ 1 then (if a0_0 ≤ 6 then (if a0_1 ≥ a0_0 then (if a0_2 ≥ a0_1 then (if a0_2 ≤ 48 then (if t102 = true then (if a0_5 ≥ 0 then (if a0_5 ≤ 8 then (if a0_5 = 0 then (some (a0_1 == a0_2)) else (some true)) else (some false)) else (some false)) else (some false)) else (some false)) else (some false)) else (some false)) else (some false)) else (some false))
theorem may_mayP (c t x m k e : Int) (r : Bool) (h : spec_May.f c t x m k e = some r) : r = true ↔ mayP c t x m k e := by
  unfold spec_May.f pat_May.f at h
  unfold mayP
  by_cases p1 : m ≥ 1
  · rw [if_pos p1] at h
    by_cases p2 : m ≤ k
    · rw [if_pos p2] at h
      simp only [Option.bind_some] at h
      by_cases q1 : c ≥ 1
      · rw [if_pos q1] at h
        by_cases q2 : c ≤ 6
        · rw [if_pos q2] at h
          by_cases q3 : t ≥ c
          · rw [if_pos q3] at h
            by_cases q4 : x ≥ t
            · rw [if_pos q4] at h
              by_cases q5 : x ≤ 48
              · rw [if_pos q5] at h
                by_cases q6 : k ≤ 6
                · rw [if_pos (by simpa using q6)] at h
                  by_cases q7 : e ≥ 0
                  · rw [if_pos q7] at h
                    by_cases q8 : e ≤ 8
                    · rw [if_pos q8] at h
                      by_cases q9 : e = 0
                      · rw [if_pos q9] at h; simp at h; subst h; simp; omega
                      · rw [if_neg q9] at h; simp at h; subst h; simp; omega
                    · rw [if_neg q8] at h; simp at h; subst h; simp; omega
                  · rw [if_neg q7] at h; simp at h; subst h; simp; omega
                · rw [if_neg (by simpa using q6)] at h; simp at h; subst h; simp; omega
              · rw [if_neg q5] at h; simp at h; subst h; simp; omega
            · rw [if_neg q4] at h; simp at h; subst h; simp; omega
          · rw [if_neg q3] at h; simp at h; subst h; simp; omega
        · rw [if_neg q2] at h; simp at h; subst h; simp; omega
      · rw [if_neg q1] at h; simp at h; subst h; simp; omega
    · rw [if_neg p2] at h
      simp only [Option.bind_some] at h
      have : r = false := by
        revert h
        repeat' split
        all_goals (intro h; simp at h; first | exact h | exact h.symm | (subst h; rfl) | skip)
        all_goals simp_all
      subst this; simp; omega
  · rw [if_neg p1] at h
    simp only [Option.bind_some] at h
    have : r = false := by
      revert h
      repeat' split
      all_goals (intro h; simp at h; first | exact h | exact h.symm | (subst h; rfl) | skip)
      all_goals simp_all
    subst this; simp; omega

set_option maxHeartbeats 8000000 in
set_option maxRecDepth 100000 in
theorem spec_May.calls (a0_0 : Int) (a0_1 : Int) (a0_2 : Int) (a0_3 : Int) (a0_4 : Int) (a0_5 : Int) (r : Bool) (w : World) (h : spec_May.f a0_0 a0_1 a0_2 a0_3 a0_4 a0_5 = some r) :
    Calls Try.prog 9 #[.agg #[.int .i64 a0_0, .int .i64 a0_1, .int .i64 a0_2, .int .i64 a0_3, .int .i64 a0_4, .int .i64 a0_5]] w fun e w' => e = .returned (.bool r) ∧ Below w.heap.size w w' := by
  have hb : ∃ b, pat_May.f a0_3 a0_4 = some b ∧ (b = true ↔ 1 ≤ a0_3 ∧ a0_3 ≤ a0_4 ∧ a0_4 ≤ 6) := by
    unfold pat_May.f
    by_cases h1 : a0_3 ≥ 1
    · rw [if_pos h1]
      by_cases h2 : a0_3 ≤ a0_4
      · rw [if_pos h2]; exact ⟨_, rfl, by simp; omega⟩
      · rw [if_neg h2]; exact ⟨_, rfl, by simp; omega⟩
    · rw [if_neg h1]; exact ⟨_, rfl, by simp; omega⟩
  obtain ⟨b, h1, h2⟩ := hb
  exact hand_May _ _ _ _ _ _ r (may_mayP _ _ _ _ _ _ r h) b h1 h2 w

end Go.Proofs.Ytalcblkdcmigeaa.PA
