/- The law QueuePops as a statement on rows. -/
import Derived.Test.YtpkalbokpblhaaaPAx18
import Derived.Test.YtpkalbokpblhaaaQueueVal
namespace Go.Proofs.Ytpkalbokpblhaaa.Pure
set_option linter.unusedVariables false
set_option linter.unusedSimpArgs false
open Go.RowKit Go.Proofs.Ytpkalbokpblhaaa.PA Go.Proofs.YtpkalbokpblhaaaW.PrintWords Go.Proofs.YtpkalbokpblhaaaW.PrintLast
theorem popsucc {i : Nat} (h : i < 1000000) : wrap64 ((i : Int) + 1) = ((i + 1 : Nat) : Int) := by
  rw [show wrap64 ((i : Int) + 1) = (i : Int) + 1 from by unfold wrap64; omega]
  omega
/-- What was pushed. -/
def It (x0 : List Int) (n : Nat) : List S24 := (List.range n).map fun (j : Nat) => ⟨rd x0 (j : Int), (j : Int)⟩
theorem it_succ (x0 : List Int) (n : Nat) : It x0 (n + 1) = It x0 n ++ [⟨rd x0 (n : Int), (n : Int)⟩] := by
  unfold It
  rw [List.range_succ, List.map_append]
  rfl
theorem it_mem {x0 : List Int} {n : Nat} {y : S24} (h : y ∈ It x0 n) : 0 ≤ y.f1 ∧ y.f1 < (n : Int) ∧ rd x0 y.f1 = y.f0 := by
  unfold It at h
  obtain ⟨j, hj, rfl⟩ := List.mem_map.1 h
  have := List.mem_range.1 hj
  exact ⟨by simp, by simp; omega, rfl⟩
theorem pops_l1 (x0 : List Int) (h40 : x0.length ≤ 40) : ∀ (m k i : Nat) (l : List S24) (a b : Int), l.length = m → m + i = x0.length → Qu l → (∀ y ∈ l, 0 ≤ y.f1 ∧ y.f1 < (x0.length : Int) ∧ rd x0 y.f1 = y.f0) →
    (0 < i → ∀ y ∈ l, a < y.f0 ∨ a = y.f0 ∧ b < y.f1) → m + 202 < k → fuseelaw04_QueuePops.l1 k x0 l (i : Int) a b = some true
  | 0, k, i, l, a, b, hl, hi, hq, hm, hs, hk => by
    obtain ⟨k, rfl⟩ : ∃ k', k = k' + 1 := ⟨k - 1, by omega⟩
    have : l = [] := List.eq_nil_of_length_eq_zero hl
    subst this
    rw [fuseelaw04_QueuePops.l1, if_neg (by omega), pop_nil (by omega), Option.bind_some, if_pos (by simp)]
    rfl
  | m + 1, k, i, l, a, b, hl, hi, hq, hm, hs, hk => by
    obtain ⟨k, rfl⟩ : ∃ k', k = k' + 1 := ⟨k - 1, by omega⟩
    cases l with
    | nil => simp at hl
    | cons x l =>
      rw [List.length_cons] at hl
      obtain ⟨m1, m2, m3⟩ := hm x (List.mem_cons_self ..)
      have hrest := pops_l1 x0 h40 m k (i + 1) l x.f0 x.f1 (by omega) (by omega) (hq.sub (List.sublist_cons_self ..)) (fun y hy => hm y (List.mem_cons_of_mem _ hy)) (fun _ y hy => by
        have hle : Le x y := (List.pairwise_cons.1 hq.so).1 y hy
        have hnd := apart_iff.1 hq.ap
        rw [List.map_cons, List.nodup_cons] at hnd
        have hne : x.f1 ≠ y.f1 := fun e => hnd.1 (List.mem_map.2 ⟨y, hy, e.symm⟩)
        unfold Le ah at hle
        simp at hle
        omega) (by omega)
      rw [fuseelaw04_QueuePops.l1, if_pos (by omega), pop_cons hq (by omega), Option.bind_some]
      simp only []
      rw [if_pos trivial, if_neg (by omega), if_neg (by omega), if_pos m1, if_pos m2, if_pos m3, popsucc (by omega), hrest]
      by_cases h0 : (i : Int) > 0
      · have hx := hs (by omega) x (List.mem_cons_self ..)
        rw [if_pos h0, if_neg (by omega)]
        split
        · rw [if_neg (by omega)]
        · rfl
      · rw [if_neg h0]
theorem pops_l0 (x0 : List Int) (h40 : x0.length ≤ 40) : ∀ (m k i : Nat) (l : List S24), m + i = x0.length → Qu l → l.Perm (It x0 i) → m + 300 < k → fuseelaw04_QueuePops.l0 k x0 l (i : Int) = some true
  | 0, k, i, l, hi, hq, hp, hk => by
    obtain ⟨k, rfl⟩ : ∃ k', k = k' + 1 := ⟨k - 1, by omega⟩
    have hl := hp.length_eq
    have hil : (It x0 i).length = i := by simp [It]
    rw [fuseelaw04_QueuePops.l0, if_neg (by omega)]
    refine pops_l1 x0 h40 l.length k 0 l 0 0 rfl (by omega) hq (fun y hy => ?_) (fun h => absurd h (Nat.lt_irrefl 0)) (by omega)
    have := it_mem (hp.mem_iff.1 hy)
    omega
  | m + 1, k, i, l, hi, hq, hp, hk => by
    obtain ⟨k, rfl⟩ : ∃ k', k = k' + 1 := ⟨k - 1, by omega⟩
    have hl := hp.length_eq
    have hil : (It x0 i).length = i := by simp [It]
    have hno : (⟨rd x0 (i : Int), (i : Int)⟩ : S24).f1 ∉ l.map (·.f1) := fun h => by
      obtain ⟨y, hy, e⟩ := List.mem_map.1 h
      have := it_mem (hp.mem_iff.1 hy)
      simp at e
      omega
    obtain ⟨s, hs, hsp, hsq⟩ := push_val (k := k) (x := ⟨rd x0 (i : Int), (i : Int)⟩) hq (by omega) hno (by omega)
    have hsl := hsp.length_eq
    rw [List.length_cons] at hsl
    have hsp2 : s.Perm (It x0 (i + 1)) := by
      rw [it_succ]
      exact (hsp.trans (hp.cons _)).trans (List.perm_append_singleton _ _).symm
    have hrest := pops_l0 x0 h40 m k (i + 1) s (by omega) hsq hsp2 (by omega)
    simp only [] at hs
    have hsle := hsq.le
    rw [fuseelaw04_QueuePops.l0, if_pos (by omega), if_pos (by omega), hs, Option.bind_some]
    simp only []
    rw [if_pos trivial, may_of_Qu hsq (by omega), Option.bind_some, if_pos rfl, popsucc (by omega), if_pos (by omega), hrest]
theorem QueuePops : ∀ (l0 : List Int), (∀ x ∈ l0, (Lit.int .i64 x).wf = true) → l0.length * 8 ≤ 140737488351232 → ∃ k, fuseelaw04_QueuePops.f k l0 = some true := by
  intro l0 _ _
  refine ⟨1001, ?_⟩
  have haw : fuseelaw04_awake.f 1001 = some true := awake_true 971
  unfold fuseelaw04_QueuePops.f
  rw [haw, Option.bind_some, if_pos rfl]
  by_cases h : (l0.length : Int) > 40
  · rw [decide_eq_true h, fuseelaw04_QueuePops.j0, if_pos rfl]
  · rw [decide_eq_false h, fuseelaw04_QueuePops.j0, if_neg (by simp)]
    exact pops_l0 l0 (by omega) l0.length 1000 0 [] (by omega) Qu.nil (List.Perm.refl _) (by omega)
end Go.Proofs.Ytpkalbokpblhaaa.Pure
