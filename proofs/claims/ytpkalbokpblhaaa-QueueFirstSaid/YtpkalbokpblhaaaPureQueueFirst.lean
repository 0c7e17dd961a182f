/- The law QueueFirst as a statement on rows. -/
import Derived.Test.YtpkalbokpblhaaaPAx19
import Derived.Test.YtpkalbokpblhaaaQueueVal
namespace Go.Proofs.Ytpkalbokpblhaaa.Pure
set_option linter.unusedVariables false
set_option linter.unusedSimpArgs false
open Go.RowKit Go.Proofs.Ytpkalbokpblhaaa.PA Go.Proofs.YtpkalbokpblhaaaW.PrintWords Go.Proofs.YtpkalbokpblhaaaW.PrintLast
theorem le_iff (a b : S24) : Le a b ↔ a.f0 < b.f0 ∨ a.f0 = b.f0 ∧ a.f1 ≤ b.f1 := by
  unfold Le ah
  rw [decide_eq_false_iff_not]
  omega
theorem min_cons {x : S24} {l : List S24} {k : Nat} (hq : Qu (x :: l)) (hk : 200 < k) : queue_Min.f k (x :: l) = some (x.f0, x.f1, true) := by
  have hle := hq.le
  rw [queue_Min.f, may_of_Qu hq (by omega), Option.bind_some, if_pos rfl, if_neg (by rw [List.length_cons]; omega), if_pos (by rw [List.length_cons]; omega)]
  rfl
theorem min_nil {k : Nat} (hk : 200 < k) : queue_Min.f k [] = some (0, 0, false) := by
  rw [queue_Min.f, may_of_Qu Qu.nil (by simp; omega), Option.bind_some, if_pos rfl, if_pos (by simp)]
theorem first_j1 {l : List S24} {x : S24} {m0 m1 : Int} {k : Nat} (hq : Qu l) (hk : 300 < k) (hm : ∀ m r, l = m :: r → m0 = m.f0 ∧ m1 = m.f1) : fuseelaw04_QueueFirst.j1 (k + 1) l false x.f0 x.f1 m0 m1 = some true := by
  have hle := hq.le
  rw [fuseelaw04_QueueFirst.j1, if_neg (by simp)]
  by_cases hx : l.length = 40 ∨ x.f1 ∈ l.map (·.f1)
  · rw [push_no hq hx (by omega), Option.bind_some]
    simp only [Bool.false_eq_true, if_false]
    rw [same_self (by omega) (by omega)]
    rfl
  · obtain ⟨s, hs, hp, hqs⟩ := push_val (k := k) hq (by omega) (fun h => hx (.inr h)) (by omega)
    have hsl := hp.length_eq
    rw [hs, Option.bind_some]
    simp only []
    rw [if_pos trivial]
    cases s with
    | nil => simp at hsl
    | cons y q =>
      rw [List.length_cons, List.length_cons] at hsl
      rw [pop_cons hqs (by omega), Option.bind_some]
      simp only []
      cases l with
      | nil =>
        have hy : y = x := by
          have := hp.mem_iff.1 (List.mem_cons_self ..)
          simpa using this
        subst hy
        have hq0 : q = [] := List.eq_nil_of_length_eq_zero (by simpa using hsl)
        subst hq0
        rw [if_pos (by simp), if_pos (by simp), same_self (by simp; omega) (by simp)]
        rfl
      | cons m r =>
        obtain ⟨rfl, rfl⟩ := hm m r rfl
        have hne : x.f1 ≠ m.f1 := fun e => hx (.inr (List.mem_map.2 ⟨m, List.mem_cons_self .., e.symm⟩))
        have hso := List.pairwise_cons.1 hqs.so
        have hlo := List.pairwise_cons.1 hq.so
        -- ahead of all: it stands first
        have fst : (x.f0 < m.f0 ∨ x.f0 = m.f0 ∧ x.f1 < m.f1) → y = x ∧ q = m :: r := fun ha => by
          have hxo : Sorted (x :: m :: r) := List.pairwise_cons.2 ⟨fun z hz => by
            rw [le_iff]
            rcases List.mem_cons.1 hz with rfl | hz
            · omega
            · have := hlo.1 z hz
              rw [le_iff] at this
              omega, hq.so⟩
          have := sorted_unique hqs.so hxo hp
          rw [List.cons.injEq] at this
          exact this
        have snd : ¬ (x.f0 < m.f0 ∨ x.f0 = m.f0 ∧ x.f1 < m.f1) → ¬ (y.f0 = x.f0 ∧ y.f1 = x.f1) := fun ha he => by
          have hmm : m ∈ y :: q := hp.mem_iff.2 (by simp)
          rcases List.mem_cons.1 hmm with rfl | hmq
          · exact hne he.2.symm
          · have := hso.1 m hmq
            rw [le_iff] at this
            omega
        rw [if_neg (by simp; omega)]
        by_cases c1 : x.f0 < m.f0
        · obtain ⟨rfl, rfl⟩ := fst (.inl c1)
          rw [if_pos c1, if_pos (by simp), same_self (by omega) (by omega)]
          rfl
        · rw [if_neg c1]
          by_cases c2 : x.f0 = m.f0
          · rw [if_pos c2]
            by_cases c3 : x.f1 < m.f1
            · obtain ⟨rfl, rfl⟩ := fst (.inr ⟨c2, c3⟩)
              rw [if_pos (by simp [c3]), if_pos c3, same_self (by omega) (by omega)]
              rfl
            · have h1 := snd (by omega)
              rw [if_pos (by
                have : (y.f0 == x.f0 && (y.f1 == x.f1)) = false := by
                  rw [Bool.and_eq_false_iff, beq_eq_false_iff_ne, beq_eq_false_iff_ne]
                  by_cases h2 : y.f0 = x.f0
                  · exact .inr (fun h3 => h1 ⟨h2, h3⟩)
                  · exact .inl h2
                rw [this, decide_eq_false c3]
                rfl), if_neg c3]
          · rw [if_neg c2]
            have h1 := snd (by omega)
            rw [if_pos (by
              have : (y.f0 == x.f0 && (y.f1 == x.f1)) = false := by
                rw [Bool.and_eq_false_iff, beq_eq_false_iff_ne, beq_eq_false_iff_ne]
                by_cases h2 : y.f0 = x.f0
                · exact .inr (fun h3 => h1 ⟨h2, h3⟩)
                · exact .inl h2
              rw [this]
              rfl)]
theorem QueueFirst : ∀ (l0 : List S24) (a b : Int), l0.length ≤ 9223372036854775807 → (Lit.int .i64 a).wf = true → (Lit.int .i64 b).wf = true → ∃ k, fuseelaw04_QueueFirst.f k l0 a b = some true := by
  intro l a b hl _ _
  obtain ⟨k, hk, hk2⟩ : ∃ k, 400 < k ∧ 2 * l.length < k := ⟨400 + 2 * l.length + 1, by omega, by omega⟩
  refine ⟨k + 2, ?_⟩
  have haw : fuseelaw04_awake.f (k + 2) = some true := by
    have := awake_true (k + 2 - 30)
    rwa [show 30 + (k + 2 - 30) = k + 2 from by omega] at this
  obtain ⟨t, ht⟩ := may_total (k := k + 2) (l0 := l) (by omega) (by omega)
  unfold fuseelaw04_QueueFirst.f
  rw [haw, Option.bind_some, if_pos rfl, ht, Option.bind_some, show k + 2 = (k + 1) + 1 from rfl, fuseelaw04_QueueFirst.j0]
  cases t with
  | false => rw [if_pos (by rfl)]
  | true =>
    have hq := Qu_of_may (by omega) ht
    rw [if_neg (by simp)]
    cases l with
    | nil =>
      rw [min_nil (by omega), pop_nil (by omega), Option.bind_some, Option.bind_some]
      simp only []
      rw [if_neg (by simp), if_neg (by simp), if_neg (by simp), if_neg (by simp)]
      exact first_j1 (x := ⟨a, b⟩) hq (by omega) (fun m r e => by simp at e)
    | cons m r =>
      rw [min_cons hq (by omega), pop_cons hq (by omega), Option.bind_some, Option.bind_some]
      simp only []
      rw [if_neg (by simp), if_neg (by simp), if_neg (by simp), if_pos trivial, show ((r.length : Int) != wrap64 (((m :: r).length : Int) - 1)) = false from by
        rw [List.length_cons, show wrap64 (((r.length + 1 : Nat) : Int) - 1) = (r.length : Int) from by
          have := hq.le
          rw [List.length_cons] at this
          unfold wrap64
          omega]
        simp]
      exact first_j1 (x := ⟨a, b⟩) hq (by omega) (fun m' r' e => by
        rw [List.cons.injEq] at e
        rw [e.1]
        exact ⟨rfl, rfl⟩)
end Go.Proofs.Ytpkalbokpblhaaa.Pure
