/- The law QueueDrops as a statement on rows. -/
import Derived.Test.YtpkalbokpblhaaaPAx21
import Derived.Test.YtpkalbokpblhaaaQueueVal
namespace Go.Proofs.Ytpkalbokpblhaaa.Pure
set_option linter.unusedVariables false
set_option linter.unusedSimpArgs false
open Go.RowKit Go.Proofs.Ytpkalbokpblhaaa.PA Go.Proofs.YtpkalbokpblhaaaW.PrintWords Go.Proofs.YtpkalbokpblhaaaW.PrintLast
theorem QueueDrops : ∀ (l0 : List S24) (a1 : Int), l0.length ≤ 9223372036854775807 → (Lit.int .i64 a1).wf = true → ∃ k, fuseelaw04_QueueDrops.f k l0 a1 = some true := by
  intro l0 a1 hl _
  obtain ⟨k, hk, hk2⟩ : ∃ k, 300 < k ∧ 2 * l0.length < k := ⟨300 + 2 * l0.length + 1, by omega, by omega⟩
  refine ⟨k + 1, ?_⟩
  have haw : fuseelaw04_awake.f (k + 1) = some true := by
    have := awake_true (k + 1 - 30)
    rwa [show 30 + (k + 1 - 30) = k + 1 from by omega] at this
  have full : fuseelaw04_QueueDrops.j0 (k + 1) l0 a1 true true = some true := by
    rw [fuseelaw04_QueueDrops.j0, if_pos rfl]
  obtain ⟨b, hb⟩ := may_total (k := k + 1) (l0 := l0) (by omega) (by omega)
  unfold fuseelaw04_QueueDrops.f
  rw [haw, Option.bind_some, if_pos rfl, hb, Option.bind_some]
  cases b with
  | false => rw [if_neg (by simp), full]
  | true =>
    rw [if_pos rfl]
    have hq := Qu_of_may (by omega) hb
    have hle := hq.le
    by_cases h1 : a1 < 0
    · rw [if_pos h1, full]
    · rw [if_neg h1]
      by_cases h2 : a1 ≥ (l0.length : Int)
      · rw [decide_eq_true h2, full]
      · rw [decide_eq_false h2]
        obtain ⟨i, rfl⟩ : ∃ i : Nat, a1 = (i : Int) := ⟨a1.toNat, by omega⟩
        have hi : i < l0.length := by omega
        have hrd : rd_T24 l0 (i : Int) = at_ l0 i := by
          unfold rd_T24 at_
          rw [Int.toNat_natCast]
        have hp := out_perm hi
        have hqo : Qu (out_ l0 i) := hq.sub out_sub
        have hlo : (out_ l0 i).length + 1 = l0.length := by
          have := hp.length_eq
          rwa [List.length_cons] at this
        have hno := out_not hq hi
        obtain ⟨s, hs, hsp, hsq⟩ := push_val (k := k) hqo (by omega) hno (by omega)
        have hsl : s = l0 := sorted_unique hsq.so hq.so (hsp.trans hp)
        subst hsl
        rw [fuseelaw04_QueueDrops.j0, if_neg (by simp), if_pos (by omega), if_pos (by omega), hrd, drop_val hq hi (by omega), Option.bind_some]
        simp only []
        rw [drop_no hqo hno (by omega), Option.bind_some]
        simp only []
        rw [hs, Option.bind_some]
        simp only []
        rw [if_pos trivial, if_neg (by simp), if_pos trivial, if_pos (by unfold wrap64; omega), may_of_Qu hqo (by omega), Option.bind_some, if_pos rfl, same_self (by omega) (by omega)]
        rfl
end Go.Proofs.Ytpkalbokpblhaaa.Pure
