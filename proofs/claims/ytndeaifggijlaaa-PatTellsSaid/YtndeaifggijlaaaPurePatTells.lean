/- The law PatTells as a statement on numbers: for every m, k, j and n it answers true. -/
import Derived.Test.YtndeaifggijlaaaPAx1
import Derived.Test.YtndeaifggijlaaaPAx13
import Derived.Test.YtndeaifggijlaaaPAx16
import Derived.Test.YtndeaifggijlaaaPAx18
import Derived.Test.YtndeaifggijlaaaPAx19
import Derived.Test.YtndeaifggijlaaaPAx2
import Derived.Test.YtndeaifggijlaaaPAx20
import Derived.Test.YtndeaifggijlaaaPAx21
import Derived.Test.YtndeaifggijlaaaPAx22
import Derived.Test.YtndeaifggijlaaaPAx23
import Derived.Test.YtndeaifggijlaaaPAx24
import Derived.Test.YtndeaifggijlaaaPAx25
import Derived.Test.YtndeaifggijlaaaPAx26
import Derived.Test.YtndeaifggijlaaaPAx7
import Derived.Test.YtndeaifggijlaaaPAx8
import Derived.Test.YtndeaifggijlaaaPatLib
import Derived.Test.YtndeaifggijlaaaPatWordLib
namespace Go.Proofs.Ytndeaifggijlaaa.Pure
open Go.RowKit Go.Proofs.Ytndeaifggijlaaa.PA Go.Proofs.YtndeaifggijlaaaW.PrintWords Go.Proofs.YtndeaifggijlaaaW.PrintLast

theorem rmay_f (m k : Int) (b : Bool) (h : pat_May.f m k = some b) : fuseeref02_May.f m k = some b := by
  unfold pat_May.f at h
  unfold fuseeref02_May.f
  by_cases h1 : m ≥ 1
  · rw [if_pos h1] at h ⊢
    by_cases h2 : m ≤ k
    · rw [if_pos h2] at h; rw [if_pos (show k ≥ m by omega)]; exact h
    · rw [if_neg h2] at h; rw [if_neg (show ¬ k ≥ m by omega)]; exact h
  · rw [if_neg h1] at h ⊢; exact h
theorem rin_f (j : Int) (b : Bool) (h : pat_in.f j = some b) : fuseeref02_in.f j = some b := h
theorem even_f (m k j : Int) (hv : V m k) (h0 : 0 ≤ j) (h1 : j ≤ 100000000000000) : fuseeref02_even.f m k j = some (ON m k j) := by
  obtain ⟨x, y, z⟩ := hv
  have hm := mul_bound m j x (by omega) h0 h1
  unfold fuseeref02_even.f
  rw [if_neg (by omega), hw_small (j * m) (by omega) (by omega), hw_small (k - m) (by omega) (by omega), Int.tmod_eq_emod_of_nonneg hm.1]
  have key : (j * m % k = 0 ∨ j * m % k > k - m) ↔ ON m k j = true := by
    have hv : V m k := ⟨x, y, z⟩
    have dm := Int.mul_ediv_add_emod j k
    have hr0 : 0 ≤ j % k := Int.emod_nonneg _ (by omega)
    have hr1 : j % k < k := Int.emod_lt_of_pos _ (by omega)
    have s1 := S_split m k (j / k) (j % k) hv
    have s2 := S_split m k (j / k) (j % k + 1) hv
    rw [dm] at s1
    rw [← Int.add_assoc, dm] at s2
    have e1 : j * m % k = (j % k) * m % k := by simp [Int.mul_emod]
    rw [e1]
    unfold ON
    rw [decide_eq_true_iff, s1, s2]
    generalize j % k = r at *
    clear hm e1 s1 s2 dm
    unfold S cl
    rcases six (show 1 ≤ k by omega) z with rfl | rfl | rfl | rfl | rfl | rfl <;> rcases six x (by omega) with rfl | rfl | rfl | rfl | rfl | rfl <;> (try (exfalso; omega)) <;>
      (have hr : r = 0 ∨ r = 1 ∨ r = 2 ∨ r = 3 ∨ r = 4 ∨ r = 5 := by omega
       rcases hr with rfl | rfl | rfl | rfl | rfl | rfl <;> omega)
  by_cases c : j * m % k = 0
  · rw [if_pos c, (key.1 (Or.inl c))]
  · rw [if_neg c]
    by_cases d : j * m % k > k - m
    · rw [key.1 (Or.inr d)]; simp; omega
    · have : ¬ ON m k j = true := fun q => by rcases key.2 q with q | q <;> omega
      simp only [Bool.not_eq_true] at this
      rw [this]; simp; omega
theorem ron_f (m k j : Int) (n : Nat) : fuseeref02_On.f m k j = pat_On.f (n + 1) m k j := by
  obtain ⟨b, e, hb⟩ := may_some m k
  obtain ⟨c, e2, hc⟩ := in_some j
  unfold fuseeref02_On.f
  rw [rmay_f m k b e, rin_f j c e2]
  simp only [Option.bind_some]
  cases b with
  | false => rw [on_no n m k j (fun q => by have := hb.2 q.1; simp at this)]; simp
  | true =>
    cases c with
    | false => rw [on_no n m k j (fun q => by have := hc.2 q.2; simp at this)]; simp
    | true =>
      have hv := hb.1 rfl
      have hj := hc.1 rfl
      rw [on_ON n m k j hv hj.1 hj.2, even_f m k j hv hj.1 (by omega)]
      simp
theorem rword_loop (m k : Int) (hv : V m k) : ∀ (d fuel j : Nat), (j : Int) ≤ k → (k - j).toNat = d → d + 2 ≤ fuel →
    fuseeref02_Word.l0 fuel m k ((List.range j).map fun (i : Nat) => ON m k (i : Int)) true (j : Int) = some (WD m k) := by
  intro d
  have hv' := hv
  obtain ⟨x, y, z⟩ := hv'
  induction d with
  | zero =>
    intro fuel j hj hd hf
    obtain ⟨fuel, rfl⟩ : ∃ x, fuel = x + 1 + 1 := ⟨fuel - 2, by omega⟩
    rw [fuseeref02_Word.l0, if_neg (by omega)]
    unfold WD
    rw [show k.toNat = j from by omega]
  | succ d ih =>
    intro fuel j hj hd hf
    obtain ⟨fuel, rfl⟩ : ∃ x, fuel = x + 1 + 1 := ⟨fuel - 2, by omega⟩
    have r := ih (fuel + 1) (j + 1) (by omega) (by omega) (by omega)
    rw [fuseeref02_Word.l0, if_pos (by omega), if_pos rfl, ron_f m k j 0, on_ON 0 m k j hv (by omega) (by omega)]
    simp only [Option.bind_some]
    rw [if_pos (by simp; omega), hw_small _ (by omega) (by omega), ← wd_take, show ((j : Int) + 1) = ((j + 1 : Nat) : Int) from by omega]
    exact r
theorem bools_loop (l : List Bool) (hl : l.length ≤ 1000000) : ∀ (d fuel : Nat) (j : Int), 0 ≤ j → j ≤ l.length → ((l.length : Int) - j).toNat = d → d + 1 ≤ fuel → fuseeref02_Bools.l0 fuel l l j = some true := by
  intro d
  induction d with
  | zero =>
    intro fuel j h0 hj hd hf
    obtain ⟨fuel, rfl⟩ : ∃ x, fuel = x + 1 := ⟨fuel - 1, by omega⟩
    rw [fuseeref02_Bools.l0, if_neg (by omega)]
  | succ d ih =>
    intro fuel j h0 hj hd hf
    obtain ⟨fuel, rfl⟩ : ∃ x, fuel = x + 1 := ⟨fuel - 1, by omega⟩
    rw [fuseeref02_Bools.l0, if_pos (by omega), if_pos h0, if_pos (by omega), if_neg (by simp), hw_small _ (by omega) (by omega)]
    exact ih fuel (j + 1) (by omega) (by omega) (by omega) (by omega)
theorem bools_f (l : List Bool) (hl : l.length ≤ 1000000) (fuel : Nat) (hf : l.length + 1 ≤ fuel) : fuseeref02_Bools.f fuel l l = some true := by
  unfold fuseeref02_Bools.f
  rw [if_pos rfl]
  exact bools_loop l hl l.length fuel 0 (by omega) (by omega) (by omega) hf
theorem rcount_loop (m k a n : Int) (hv : V m k) (a0 : 0 ≤ a) (a1 : a ≤ 1099511627776) (n0 : 0 ≤ n) (n1 : n ≤ 1099511627776) : ∀ (d fuel : Nat) (i : Int), 0 ≤ i → i ≤ n % k → (n % k - i).toNat = d → d + 1 ≤ fuel →
    fuseeref02_Count.l0 fuel m k a n (n / k * m + (S m k (a + i) - S m k a)) i = some (S m k (a + n) - S m k a) := by
  intro d
  have hv' := hv
  obtain ⟨x, y, z⟩ := hv'
  have hr0 : 0 ≤ n % k := Int.emod_nonneg _ (by omega)
  have hr1 : n % k < k := Int.emod_lt_of_pos _ (by omega)
  have hq0 : 0 ≤ n / k := Int.ediv_nonneg n0 (by omega)
  have hq1 : n / k ≤ n := Int.ediv_le_self _ n0
  have hqm := mul_bound m (n / k) x (by omega) hq0 (by omega)
  induction d with
  | zero =>
    intro fuel i h0 hi hd hf
    obtain ⟨fuel, rfl⟩ : ∃ x, fuel = x + 1 := ⟨fuel - 1, by omega⟩
    obtain rfl : i = n % k := by omega
    rw [fuseeref02_Count.l0, if_neg (by omega), Int.tmod_eq_emod_of_nonneg n0, if_neg (by omega)]
    have sp := S_split m k (n / k) (a + n % k) hv
    have dm := Int.mul_ediv_add_emod n k
    rw [show k * (n / k) + (a + n % k) = a + n from by omega] at sp
    rw [sp, Int.mul_comm m (n / k)]
    congr 1
    omega
  | succ d ih =>
    intro fuel i h0 hi hd hf
    obtain ⟨fuel, rfl⟩ : ∃ x, fuel = x + 1 := ⟨fuel - 1, by omega⟩
    have st := S_on m k (a + i) hv
    have sb := S_bound m k (a + i) hv (by omega)
    have sb2 := S_bound m k a hv (by omega)
    have r := ih fuel (i + 1) (by omega) (by omega) (by omega) (by omega)
    rw [fuseeref02_Count.l0, if_neg (by omega), Int.tmod_eq_emod_of_nonneg n0, if_pos (by omega), hw_small (a + i) (by omega) (by omega), even_f m k (a + i) hv (by omega) (by omega)]
    simp only [Option.bind_some]
    rw [hw_small (i + 1) (by omega) (by omega)]
    rw [show a + (i + 1) = a + i + 1 from by omega] at r
    by_cases o : ON m k (a + i) = true
    · rw [if_pos o] at st ⊢
      rw [hw_small _ (by omega) (by omega), show n / k * m + (S m k (a + i) - S m k a) + 1 = n / k * m + (S m k (a + i + 1) - S m k a) from by omega]
      exact r
    · rw [if_neg o] at st ⊢
      rw [show n / k * m + (S m k (a + i) - S m k a) = n / k * m + (S m k (a + i + 1) - S m k a) from by omega]
      exact r
theorem rcount_f (m k a n : Int) (fuel : Nat) (hf : 10 ≤ fuel) : ∃ c, pat_Count.f fuel m k a n = some c ∧ fuseeref02_Count.f fuel m k a n = some c := by
  obtain ⟨fuel, rfl⟩ : ∃ x, fuel = x + 1 := ⟨fuel - 1, by omega⟩
  obtain ⟨b, e, hb⟩ := may_some m k
  obtain ⟨c, e2, hc⟩ := in_some a
  obtain ⟨c3, e3, hc3⟩ := in_some n
  unfold fuseeref02_Count.f
  rw [rmay_f m k b e, rin_f a c e2, rin_f n c3 e3]
  simp only [Option.bind_some]
  by_cases all : b = true ∧ c = true ∧ c3 = true
  · obtain ⟨rfl, rfl, rfl⟩ := all
    have hv := hb.1 rfl
    have ha := hc.1 rfl
    have hn := hc3.1 rfl
    refine ⟨_, count_f fuel m k a n hv ha.1 ha.2 hn.1 hn.2, ?_⟩
    have hv' := hv
    obtain ⟨x, y, z⟩ := hv'
    have hq0 : 0 ≤ n / k := Int.ediv_nonneg hn.1 (by omega)
    have hq1 : n / k ≤ n := Int.ediv_le_self _ hn.1
    have hqm := mul_bound m (n / k) x (by omega) hq0 (by omega)
    have hr0 : 0 ≤ n % k := Int.emod_nonneg _ (by omega)
    have hr1 : n % k < k := Int.emod_lt_of_pos _ (by omega)
    rw [if_pos rfl, if_pos rfl, fuseeref02_Count.j0, if_neg (by simp), if_neg (by omega), Int.tdiv_eq_ediv_of_nonneg hn.1, hw_small (n / k) (by omega) (by omega), hw_small (n / k * m) (by omega) (by omega)]
    have r := rcount_loop m k a n hv ha.1 ha.2 hn.1 hn.2 (n % k).toNat fuel 0 (by omega) (by omega) (by omega) (by omega)
    rw [show a + 0 = a from by omega, show n / k * m + (S m k a - S m k a) = n / k * m from by omega] at r
    exact r
  · refine ⟨0, count_no fuel m k a n (fun q => all ⟨hb.2 q.1, hc.2 q.2.1, hc3.2 q.2.2⟩), ?_⟩
    have sk : fuseeref02_Count.j0 (fuel + 1) m k a n true = some 0 := by rw [fuseeref02_Count.j0, if_pos rfl]
    cases b with
    | false => simpa using sk
    | true =>
      cases c with
      | false => simpa using sk
      | true =>
        cases c3 with
        | false => simpa using sk
        | true => exact absurd ⟨rfl, rfl, rfl⟩ all
theorem rmost_f (m k n : Int) (fuel : Nat) (hf : 1 ≤ fuel) : ∃ c, pat_Most.f m k n = some c ∧ fuseeref02_Most.f fuel m k n = some c := by
  obtain ⟨fuel, rfl⟩ : ∃ x, fuel = x + 1 := ⟨fuel - 1, by omega⟩
  obtain ⟨b, e, hb⟩ := may_some m k
  obtain ⟨c3, e3, hc3⟩ := in_some n
  unfold fuseeref02_Most.f
  rw [rmay_f m k b e, rin_f n c3 e3]
  simp only [Option.bind_some]
  by_cases all : b = true ∧ c3 = true
  · obtain ⟨rfl, rfl⟩ := all
    have hv := hb.1 rfl
    have hn := hc3.1 rfl
    refine ⟨_, most_f m k n hv hn.1 hn.2, ?_⟩
    have hv' := hv
    obtain ⟨x, y, z⟩ := hv'
    have hm := mul_bound m n x (by omega) hn.1 (by omega)
    have hq0 : 0 ≤ n * m / k := Int.ediv_nonneg hm.1 (by omega)
    have hq1 : n * m / k ≤ n * m := Int.ediv_le_self _ hm.1
    have hdm := Int.mul_ediv_add_emod (n * m) k
    have hr0 : 0 ≤ n * m % k := Int.emod_nonneg _ (by omega)
    have hr1 : n * m % k < k := Int.emod_lt_of_pos _ (by omega)
    have hmc := Int.mul_comm k (n * m / k)
    rw [if_pos rfl, fuseeref02_Most.j0, if_neg (by simp), if_neg (by omega), hw_small (n * m) (by omega) (by omega), Int.tdiv_eq_ediv_of_nonneg hm.1, hw_small (n * m / k) (by omega) (by omega), hw_small (n * m / k * k) (by omega) (by omega), hw_small (n * m / k + 1) (by omega) (by omega)]
    have s1 : S m k n = if n * m / k * k < n * m then n * m / k + 1 else n * m / k := by
      unfold S cl
      generalize n * m = p at *
      rcases six (show 1 ≤ k by omega) z with rfl | rfl | rfl | rfl | rfl | rfl <;> split <;> omega
    rw [s1]
    split <;> rfl
  · refine ⟨0, most_no m k n (fun q => all ⟨hb.2 q.1, hc3.2 q.2⟩), ?_⟩
    have sk : fuseeref02_Most.j0 (fuel + 1) m k n true = some 0 := by rw [fuseeref02_Most.j0, if_pos rfl]
    cases b with
    | false => simpa using sk
    | true =>
      cases c3 with
      | false => simpa using sk
      | true => exact absurd ⟨rfl, rfl⟩ all

theorem words_f (m k : Int) : ∃ l, l.length ≤ 6 ∧ pat_Word.f 20 m k = some l ∧ fuseeref02_Word.f 20 m k = some l := by
  obtain ⟨b, e, hb⟩ := may_some m k
  unfold fuseeref02_Word.f
  rw [rmay_f m k b e]
  simp only [Option.bind_some]
  cases b with
  | false =>
    refine ⟨[], by simp, word_f_no m k e 20, ?_⟩
    rw [fuseeref02_Word.l0]
    split
    · simp
    · rfl
  | true =>
    have hv := hb.1 rfl
    have hv' := hv
    obtain ⟨x, y, z⟩ := hv'
    refine ⟨_, ?_, word_f m k hv 20 (by omega), rword_loop m k hv k.toNat 20 0 (by omega) (by omega) (by omega)⟩
    have := wd_length m k (by omega)
    omega

theorem PatTells : fuseelaw02_PatTells.Pure := by
  intro m k j n _ _ _ _
  refine ⟨20, ?_⟩
  unfold fuseelaw02_PatTells.f
  rw [awake_f 19]
  obtain ⟨l, hl, e1, e2⟩ := words_f m k
  obtain ⟨c, e3, e4⟩ := rcount_f m k j n 20 (by omega)
  obtain ⟨d, e5, e6⟩ := rmost_f m k n 20 (by omega)
  obtain ⟨b, e7, _⟩ := may_some m k
  have e8 : ∃ o, pat_On.f 20 m k j = some o := by
    by_cases q : V m k ∧ 0 ≤ j ∧ j ≤ 1099511627776
    · exact ⟨_, on_ON 19 m k j q.1 q.2.1 q.2.2⟩
    · exact ⟨_, on_no 19 m k j q⟩
  obtain ⟨o, e8⟩ := e8
  rw [e1, e2, e3, e4, e5, e6, e7, rmay_f m k b e7, ron_f m k j 19, e8]
  simp only [Option.bind_some]
  rw [bools_f l (by omega) 20 (by omega)]
  simp

end Go.Proofs.Ytndeaifggijlaaa.Pure
