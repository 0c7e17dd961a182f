import Derived.Test.YtpkalbokpblhaaaPAx0
import Derived.Test.YtpkalbokpblhaaaPAx7
import Derived.Test.YtpkalbokpblhaaaPAx8
import Derived.Test.YtpkalbokpblhaaaPAx9
import Derived.Test.YtpkalbokpblhaaaPAx11
import Derived.Test.YtpkalbokpblhaaaPileC
import Derived.Test.YtpkalbokpblhaaaMayPure
namespace Go.Proofs.Ytpkalbokpblhaaa.PA
open Go.RowKit Go.Proofs.YtpkalbokpblhaaaW.PrintWords Go.Proofs.YtpkalbokpblhaaaW.PrintLast Go.Proofs.YtpkalbokpblhaaaW.PrintMore
set_option linter.unusedVariables false
set_option linter.unusedSimpArgs false
theorem at_total {l0 : List S24} {id : Int} : ∀ (k j : Nat), l0.length - j < k → j ≤ l0.length → (l0.length : Int) ≤ 9223372036854775807 → ∃ r, queue_at.l0 k l0 id (j : Int) = some r
  | 0, _, hk, _, _ => by omega
  | k + 1, j, hk, hj, hl => by
    rw [queue_at.l0]
    by_cases h1 : j < l0.length
    · have hw : wrap64 ((j : Int) + 1) = ((j + 1 : Nat) : Int) := by
        rw [show wrap64 ((j : Int) + 1) = (j : Int) + 1 from by unfold wrap64; omega]
        omega
      rw [if_pos (by omega), if_pos (by omega), hw]
      by_cases h2 : (rd_T24 l0 (j : Int)).f1 = id
      · rw [if_pos h2]
        exact ⟨_, rfl⟩
      · rw [if_neg h2]
        exact at_total k (j + 1) (by omega) (by omega) hl
    · rw [if_neg (by omega)]
      exact ⟨_, rfl⟩
theorem may_total' {l0 : List S24} : ∀ (k j : Nat), 2 * l0.length - j < k → j ≤ l0.length → (l0.length : Int) ≤ 9223372036854775807 → ∃ b, queue_May.l0 k l0 l0 (l0.length : Int) (j : Int) = some b
  | 0, _, hk, _, _ => by omega
  | k + 1, j, hk, hj, hl => by
    rw [queue_May.l0]
    by_cases h1 : j < l0.length
    · have hrd : ∀ i : Nat, rd_T24 l0 (i : Int) = at_ l0 i := fun i => by
        unfold rd_T24 at_
        rw [Int.toNat_natCast]
      have hw : wrap64 ((j : Int) + 1) = ((j + 1 : Nat) : Int) := by
        rw [show wrap64 ((j : Int) + 1) = (j : Int) + 1 from by unfold wrap64; omega]
        omega
      obtain ⟨t, ht⟩ := at_total (l0 := l0) (id := (at_ l0 j).f1) k 0 (by omega) (Nat.zero_le _) hl
      have key : ∃ b, ((queue_at.f k l0 (at_ l0 j).f1).bind fun t => if t = (j : Int) then queue_May.l0 k l0 l0 (l0.length : Int) ((j + 1 : Nat) : Int) else some false) = some b := by
        rw [queue_at.f, show ((0 : Int)) = ((0 : Nat) : Int) from rfl, ht, Option.bind_some]
        by_cases e : t = (j : Int)
        · rw [if_pos e]
          exact may_total' k (j + 1) (by omega) (by omega) hl
        · rw [if_neg e]
          exact ⟨_, rfl⟩
      rw [if_pos (by omega), if_pos (by omega), if_pos (by omega), hw, hrd]
      by_cases h0 : (j : Int) > 0
      · have hw2 : wrap64 ((j : Int) - 1) = ((j - 1 : Nat) : Int) := by
          rw [show wrap64 ((j : Int) - 1) = (j : Int) - 1 from by unfold wrap64; omega]
          omega
        rw [if_pos h0, hw2, if_pos (by omega), if_pos (by omega), hrd, ahead_ah, Option.bind_some]
        cases ah (at_ l0 j) (at_ l0 (j - 1)) with
        | true => exact ⟨_, rfl⟩
        | false =>
          rw [if_neg (by simp)]
          exact key
      · rw [if_neg h0]
        exact key
    · rw [if_neg (by omega)]
      exact ⟨_, rfl⟩
theorem may_total {k : Nat} {l0 : List S24} (hk : 2 * l0.length < k) (hl : (l0.length : Int) ≤ 9223372036854775807) : ∃ b, queue_May.f k l0 = some b := may_total' k 0 (by omega) (Nat.zero_le _) hl
theorem awake_true : ∀ m, fuseelaw04_awake.f (30 + m) = some true
  | 0 => by kernel_rfl
  | m + 1 => fuseelaw04_awake.mono (30 + m) _ (awake_true m)
end Go.Proofs.Ytpkalbokpblhaaa.PA
