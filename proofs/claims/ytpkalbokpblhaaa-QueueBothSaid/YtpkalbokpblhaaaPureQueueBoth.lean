/- The law QueueBoth as a statement on rows. -/
import Derived.Test.YtpkalbokpblhaaaPAx13
import Derived.Test.YtpkalbokpblhaaaSortTotal
namespace Go.Proofs.Ytpkalbokpblhaaa.Pure
set_option linter.unusedVariables false
set_option linter.unusedSimpArgs false
open Go.RowKit Go.Proofs.Ytpkalbokpblhaaa.PA Go.Proofs.YtpkalbokpblhaaaW.PrintWords Go.Proofs.YtpkalbokpblhaaaW.PrintLast
theorem awake_f : ∀ m, fuseelaw04_awake.f (30 + m) = some true
  | 0 => by kernel_rfl
  | m + 1 => fuseelaw04_awake.mono (30 + m) _ (awake_f m)
theorem QueueBoth : ∀ (l0 l1 : List S24), l0.length ≤ 9223372036854775807 → l1.length ≤ 9223372036854775807 → ∃ k, fuseelaw04_QueueBoth.f k l0 l1 = some true := by
  intro l0 l1 _ _
  refine ⟨1001, ?_⟩
  unfold fuseelaw04_QueueBoth.f
  rw [show fuseelaw04_awake.f 1001 = some true from awake_f 971, Option.bind_some, if_pos rfl]
  have full : fuseelaw04_QueueBoth.j0 1001 l0 l1 true true = some true := by
    rw [fuseelaw04_QueueBoth.j0, if_pos rfl]
  by_cases h0 : (l0.length : Int) > 60
  · rw [if_pos h0]
    exact full
  · rw [if_neg h0]
    by_cases h1 : (l1.length : Int) > 60
    · rw [decide_eq_true h1]
      exact full
    · rw [decide_eq_false h1, fuseelaw04_QueueBoth.j0, if_neg (by simp)]
      obtain ⟨a, ha, _, hsa, hpa⟩ := sort_total (k := 1000) (x0 := l0) (by omega) (by omega)
      obtain ⟨b, hb, _, hsb, hpb⟩ := sort_total (k := 1000) (x0 := l1) (by omega) (by omega)
      have hla := hpa.length_eq
      have hlb := hpb.length_eq
      obtain ⟨c, hc, _, hsc, hpc⟩ := sort_total (k := 1000) (x0 := l0 ++ l1) (by simp; omega) (by simp; omega)
      obtain ⟨d, hd, _, hsd, hpd⟩ := sort_total (k := 1000) (x0 := b ++ a) (by simp; omega) (by simp; omega)
      have hcd : c = d := sorted_unique hsc hsd (hpc.trans ((List.perm_append_comm.trans (hpb.symm.append hpa.symm)).trans hpd.symm))
      subst hcd
      have hlc := hpc.length_eq
      rw [List.length_append] at hlc
      have hw : wrap64 ((l0.length : Int) + (l1.length : Int)) = (l0.length : Int) + (l1.length : Int) := by unfold wrap64; omega
      simp only [Option.bind_some, List.nil_append]
      rw [if_pos (by simp; omega), if_pos (by omega), hc]
      simp only [Option.bind_some]
      rw [hb]
      simp only [Option.bind_some, List.nil_append]
      rw [if_pos (by simp; omega), ha]
      simp only [Option.bind_some]
      rw [if_pos (by omega), hd]
      simp only [Option.bind_some]
      rw [same_self (by omega) (by omega)]
      simp only [Option.bind_some, if_true]
      rw [hw]
      simp
      omega
end Go.Proofs.Ytpkalbokpblhaaa.Pure
