/- Plain laws on which jobs are mandatory: the prefix count S, and what the printed functions answer in its terms. No memory, no program. -/
import Derived.Test.YtndeaifggijlaaaPAx1
import Derived.Test.YtndeaifggijlaaaPAx13
import Derived.Test.YtndeaifggijlaaaPAx2
import Derived.Test.YtndeaifggijlaaaPAx4
import Derived.Test.YtndeaifggijlaaaPAx5
import Derived.Test.YtndeaifggijlaaaPAx6
import Derived.Test.YtndeaifggijlaaaPAx7
import Derived.Test.YtndeaifggijlaaaPAx8
import Derived.Test.YtndeaifggijlaaaPAx9
namespace Go.Proofs.Ytndeaifggijlaaa.PA
open Go.RowKit Go.Proofs.YtndeaifggijlaaaW.PrintWords Go.Proofs.YtndeaifggijlaaaW.PrintLast Go.Proofs.YtndeaifggijlaaaW.PrintMore

/-- The quotient rounded up. -/
def cl (a k : Int) : Int := (a + k - 1) / k
/-- How many of the first j jobs are mandatory. -/
def S (m k j : Int) : Int := cl (j * m) k
/-- Is job j mandatory. -/
def ON (m k j : Int) : Bool := decide (S m k j < S m k (j + 1))
/-- m of k may be. -/
def V (m k : Int) : Prop := 1 ≤ m ∧ m ≤ k ∧ k ≤ 6

theorem six {k : Int} (h1 : 1 ≤ k) (h2 : k ≤ 6) : k = 1 ∨ k = 2 ∨ k = 3 ∨ k = 4 ∨ k = 5 ∨ k = 6 := by omega
theorem V_cases {P : Int → Int → Prop} (h : ∀ m k, V m k → (k = 1 ∨ k = 2 ∨ k = 3 ∨ k = 4 ∨ k = 5 ∨ k = 6) → (m = 1 ∨ m = 2 ∨ m = 3 ∨ m = 4 ∨ m = 5 ∨ m = 6) → P m k) : ∀ m k, V m k → P m k :=
  fun m k hv => h m k hv (by obtain ⟨a, b, c⟩ := hv; omega) (by obtain ⟨a, b, c⟩ := hv; omega)

theorem S_zero (m k : Int) (hv : V m k) : S m k 0 = 0 := by
  obtain ⟨a, b, c⟩ := hv
  unfold S cl
  rcases six (by omega) c with rfl | rfl | rfl | rfl | rfl | rfl <;> omega
theorem S_step (m k j : Int) (hv : V m k) : S m k j ≤ S m k (j + 1) ∧ S m k (j + 1) ≤ S m k j + 1 := by
  obtain ⟨a, b, c⟩ := hv
  unfold S cl
  rcases six (by omega) c with rfl | rfl | rfl | rfl | rfl | rfl <;> rcases six a (by omega) with rfl | rfl | rfl | rfl | rfl | rfl <;> omega
theorem S_on (m k j : Int) (hv : V m k) : S m k (j + 1) = S m k j + if ON m k j = true then 1 else 0 := by
  have h := S_step m k j hv
  unfold ON
  by_cases e : S m k j < S m k (j + 1)
  · rw [if_pos (by simpa using e)]; omega
  · rw [if_neg (by simpa using e)]; omega
theorem S_turn (m k j : Int) (hv : V m k) : S m k (j + k) = S m k j + m := by
  obtain ⟨a, b, c⟩ := hv
  unfold S cl
  rcases six (by omega) c with rfl | rfl | rfl | rfl | rfl | rfl <;> rcases six a (by omega) with rfl | rfl | rfl | rfl | rfl | rfl <;> omega
theorem S_split (m k q r : Int) (hv : V m k) : S m k (k * q + r) = m * q + S m k r := by
  obtain ⟨a, b, c⟩ := hv
  unfold S cl
  rcases six (by omega) c with rfl | rfl | rfl | rfl | rfl | rfl <;> rcases six a (by omega) with rfl | rfl | rfl | rfl | rfl | rfl <;> omega
theorem S_mono (m k i j : Int) (hv : V m k) (hij : i ≤ j) : S m k i ≤ S m k j := by
  obtain ⟨a, b, c⟩ := hv
  unfold S cl
  rcases six (by omega) c with rfl | rfl | rfl | rfl | rfl | rfl <;> rcases six a (by omega) with rfl | rfl | rfl | rfl | rfl | rfl <;> omega
theorem S_sub (m k i j : Int) (hv : V m k) : S m k (i + j) ≤ S m k i + S m k j ∧ S m k i + S m k j ≤ S m k (i + j) + 1 := by
  obtain ⟨a, b, c⟩ := hv
  unfold S cl
  rcases six (by omega) c with rfl | rfl | rfl | rfl | rfl | rfl <;> rcases six a (by omega) with rfl | rfl | rfl | rfl | rfl | rfl <;> omega
theorem S_bound (m k j : Int) (hv : V m k) (h0 : 0 ≤ j) : 0 ≤ S m k j ∧ S m k j ≤ j := by
  obtain ⟨a, b, c⟩ := hv
  unfold S cl
  rcases six (by omega) c with rfl | rfl | rfl | rfl | rfl | rfl <;> rcases six a (by omega) with rfl | rfl | rfl | rfl | rfl | rfl <;> omega
theorem S_more (m k j : Int) (hv : V m k) (hv' : V (m + 1) k) (h0 : 0 ≤ j) : S m k j ≤ S (m + 1) k j := by
  obtain ⟨a, b, c⟩ := hv
  obtain ⟨a', b', c'⟩ := hv'
  unfold S cl
  rcases six (by omega) c with rfl | rfl | rfl | rfl | rfl | rfl <;> rcases six a (by omega) with rfl | rfl | rfl | rfl | rfl | rfl <;> omega

theorem hw_in (x : Int) (a : -9223372036854775808 ≤ x) (b : x ≤ 9223372036854775807) : wrap64 x = x := IntWalk.wrap64_in _ (by omega)
theorem mul_bound (m j : Int) (a : 1 ≤ m) (b : m ≤ 6) (h0 : 0 ≤ j) (h1 : j ≤ 100000000000000) : 0 ≤ j * m ∧ j * m ≤ 600000000000000 := by
  rcases six a b with rfl | rfl | rfl | rfl | rfl | rfl <;> omega
theorem ceil_cl (a b : Int) (h0 : 0 ≤ a) (h1 : a ≤ 4000000000000000) (h2 : 1 ≤ b) (h3 : b ≤ 6) : frac_Ceil.f a b = some (cl a b, true) := by
  have e : wrap64 (wrap64 (Int.tdiv a b) + mn (Int.tmod a b) 1) = cl a b := by
    rw [Int.tdiv_eq_ediv_of_nonneg h0, Int.tmod_eq_emod_of_nonneg h0]
    unfold mn cl
    rcases six h2 h3 with rfl | rfl | rfl | rfl | rfl | rfl <;> (rw [hw_in (a / _) (by omega) (by omega)]; split <;> (rw [hw_in _ (by omega) (by omega)]; omega))
  unfold frac_Ceil.f frac_ratio_may.f frac_in.f
  have g1 : a ≥ 0 := h0
  have g2 : a ≤ 4611686018427387904 := by omega
  have g3 : b ≥ 1 := h2
  have g4 : b ≤ 4611686018427387904 := by omega
  have g5 : b ≠ 0 := by omega
  simp [g1, g2, g3, g4, g5, e]

theorem ofB_ON (m k j : Int) (hv : V m k) (h0 : 0 ≤ j) : ofB m k (j.tmod k).toNat = ON m k j := by
  have hv' := hv
  obtain ⟨a, b, c⟩ := hv
  have ht0 : 0 ≤ j.tmod k := Int.tmod_nonneg _ h0
  have ht1 : j.tmod k < k := Int.tmod_lt_of_pos _ (by omega)
  have p1 := mul_le (j.tmod k) m ht0 (by omega) a (by omega)
  have p2 := mul_le (j.tmod k + 1) m (by omega) (by omega) a (by omega)
  have e1 := ceil_f _ _ p1.1 p1.2 (show (1 : Int) ≤ k by omega) (by omega)
  have e2 := ceil_f _ _ p2.1 p2.2 (show (1 : Int) ≤ k by omega) (by omega)
  rw [ceil_cl _ _ p1.1 (by omega) (by omega) c] at e1
  rw [ceil_cl _ _ p2.1 (by omega) (by omega) c] at e2
  simp only [Option.some.injEq, Prod.mk.injEq, and_true] at e1 e2
  unfold ofB ON
  rw [Int.toNat_of_nonneg ht0, ← e1, ← e2, decide_eq_decide]
  have s1 := S_split m k (j / k) (j % k) hv'
  have s2 := S_split m k (j / k) (j % k + 1) hv'
  rw [Int.mul_ediv_add_emod] at s1
  rw [← Int.add_assoc, Int.mul_ediv_add_emod] at s2
  rw [Int.tmod_eq_emod_of_nonneg h0]
  unfold S at s1 s2 ⊢
  rw [s1, s2]
  omega

/-! What the printed functions answer. -/
theorem V_may {m k : Int} (hv : V m k) : pat_May.f m k = some true := may_mk m k hv.1 hv.2.1 hv.2.2
theorem may_some (m k : Int) : ∃ b, pat_May.f m k = some b ∧ (b = true ↔ V m k) := by
  unfold pat_May.f V
  by_cases h1 : m ≥ 1
  · rw [if_pos h1]
    by_cases h2 : m ≤ k
    · rw [if_pos h2]; exact ⟨_, rfl, by simp; omega⟩
    · rw [if_neg h2]; exact ⟨_, rfl, by simp; omega⟩
  · rw [if_neg h1]; exact ⟨_, rfl, by simp; omega⟩
theorem in_some (j : Int) : ∃ b, pat_in.f j = some b ∧ (b = true ↔ 0 ≤ j ∧ j ≤ 1099511627776) := by
  unfold pat_in.f
  by_cases h1 : j ≥ 0
  · rw [if_pos h1]; exact ⟨_, rfl, by simp; omega⟩
  · rw [if_neg h1]; exact ⟨_, rfl, by simp; omega⟩
theorem on_ON (n : Nat) (m k j : Int) (hv : V m k) (h0 : 0 ≤ j) (h1 : j ≤ 1099511627776) : pat_On.f (n + 1) m k j = some (ON m k j) := by
  rw [on_f n m k j hv.1 hv.2.1 hv.2.2 h0 h1, ofB_ON m k j hv h0]
theorem on_no (n : Nat) (m k j : Int) (h : ¬ (V m k ∧ 0 ≤ j ∧ j ≤ 1099511627776)) : pat_On.f (n + 1) m k j = some false := by
  obtain ⟨b, e, hb⟩ := may_some m k
  obtain ⟨c, e2, hc⟩ := in_some j
  unfold pat_On.f
  rw [e, e2]
  cases b with
  | false => simp [pat_On.j0]
  | true =>
    cases c with
    | false => simp [pat_On.j0]
    | true => exact absurd ⟨hb.1 rfl, hc.1 rfl⟩ h
theorem count_f (n : Nat) (m k a b : Int) (hv : V m k) (a0 : 0 ≤ a) (a1 : a ≤ 1099511627776) (b0 : 0 ≤ b) (b1 : b ≤ 1099511627776) : pat_Count.f (n + 1) m k a b = some (S m k (a + b) - S m k a) := by
  unfold pat_Count.f
  rw [V_may hv, in_mk a a0 a1, in_mk b b0 b1]
  simp only [Option.bind_some, if_true, pat_Count.j0]
  have hm : m ≤ 6 := by obtain ⟨x, y, z⟩ := hv; omega
  have hk : 1 ≤ k := by obtain ⟨x, y, z⟩ := hv; omega
  have p1 := mul_bound m (a + b) hv.1 hm (by omega) (by omega)
  have p2 := mul_bound m a hv.1 hm (by omega) (by omega)
  have s1 := S_bound m k (a + b) hv (by omega)
  have s2 := S_bound m k a hv (by omega)
  rw [if_neg (by simp), hw_small (a + b) (by omega) (by omega), hw_small ((a + b) * m) (by omega) (by omega), hw_small (a * m) (by omega) (by omega),
    ceil_cl _ _ p1.1 (by omega) hk hv.2.2, ceil_cl _ _ p2.1 (by omega) hk hv.2.2]
  simp only [Option.bind_some]
  unfold S at s1 s2 ⊢
  rw [hw_small _ (by omega) (by omega)]
theorem count_no (n : Nat) (m k a b : Int) (h : ¬ (V m k ∧ (0 ≤ a ∧ a ≤ 1099511627776) ∧ 0 ≤ b ∧ b ≤ 1099511627776)) : pat_Count.f (n + 1) m k a b = some 0 := by
  obtain ⟨x, e, hx⟩ := may_some m k
  obtain ⟨y, e2, hy⟩ := in_some a
  obtain ⟨z, e3, hz⟩ := in_some b
  unfold pat_Count.f
  rw [e, e2, e3]
  cases x with
  | false => simp [pat_Count.j0]
  | true =>
    cases y with
    | false => simp [pat_Count.j0]
    | true =>
      cases z with
      | false => simp [pat_Count.j0]
      | true => exact absurd ⟨hx.1 rfl, hy.1 rfl, hz.1 rfl⟩ h
theorem most_f (m k b : Int) (hv : V m k) (b0 : 0 ≤ b) (b1 : b ≤ 1099511627776) : pat_Most.f m k b = some (S m k b) := by
  unfold pat_Most.f
  rw [V_may hv, in_mk b b0 b1]
  have hm : m ≤ 6 := by obtain ⟨x, y, z⟩ := hv; omega
  have hk : 1 ≤ k := by obtain ⟨x, y, z⟩ := hv; omega
  have p2 := mul_bound m b hv.1 hm (by omega) (by omega)
  simp only [Option.bind_some, if_true]
  rw [hw_small (b * m) (by omega) (by omega), ceil_cl _ _ p2.1 (by omega) hk hv.2.2]
  rfl
theorem most_no (m k b : Int) (h : ¬ (V m k ∧ 0 ≤ b ∧ b ≤ 1099511627776)) : pat_Most.f m k b = some 0 := by
  obtain ⟨x, e, hx⟩ := may_some m k
  obtain ⟨z, e3, hz⟩ := in_some b
  unfold pat_Most.f
  rw [e, e3]
  cases x with
  | false => simp
  | true =>
    cases z with
    | false => simp
    | true => exact absurd ⟨hx.1 rfl, hz.1 rfl⟩ h
theorem awake_f (n : Nat) : fuseelaw02_awake.f (n + 1) = some true := by
  have hv : V 2 5 := ⟨by omega, by omega, by omega⟩
  unfold fuseelaw02_awake.f
  rw [on_ON n 2 5 0 hv (by omega) (by omega), on_ON n 2 5 1 hv (by omega) (by omega), on_ON n 2 5 2 hv (by omega) (by omega), on_ON n 2 5 3 hv (by omega) (by omega), on_ON n 2 5 4 hv (by omega) (by omega), on_ON n 2 5 7 hv (by omega) (by omega),
    count_f n 2 5 5 3 hv (by omega) (by omega) (by omega) (by omega)]
  rfl
theorem wf_bounds {a : Int} (h : (Lit.int .i64 a).wf = true) : -9223372036854775808 ≤ a ∧ a ≤ 9223372036854775807 := by
  have hmin : IntKind.i64.min = -9223372036854775808 := rfl
  have hmax : IntKind.i64.max = 9223372036854775807 := rfl
  simp only [Lit.wf, Bool.and_eq_true, decide_eq_true_eq] at h
  omega
end Go.Proofs.Ytndeaifggijlaaa.PA
