/- The law QueueSorts as a statement on rows. -/
import Derived.Test.YtpkalbokpblhaaaPAx12
import Derived.Test.YtpkalbokpblhaaaSortTotal
import Derived.Test.YtpkalbokpblhaaaMayTotal
namespace Go.Proofs.Ytpkalbokpblhaaa.Pure
set_option linter.unusedVariables false
set_option linter.unusedSimpArgs false
open Go.RowKit Go.Proofs.Ytpkalbokpblhaaa.PA Go.Proofs.YtpkalbokpblhaaaW.PrintWords Go.Proofs.YtpkalbokpblhaaaW.PrintLast
def isx (x y : S24) : Bool := y.f0 == x.f0 && (y.f1 == x.f1)
theorem rd_at (l : List S24) (i : Nat) : rd_T24 l (i : Int) = at_ l i := by
  unfold rd_T24 at_
  rw [Int.toNat_natCast]
theorem wsucc {i : Nat} (h : i < 1000000) : wrap64 ((i : Int) + 1) = ((i + 1 : Nat) : Int) := by
  rw [show wrap64 ((i : Int) + 1) = (i : Int) + 1 from by unfold wrap64; omega]
  omega
theorem cnt_drop {l : List S24} {x : S24} {i : Nat} (h : i < l.length) : (l.drop i).countP (isx x) = (if isx x (at_ l i) = true then 1 else 0) + (l.drop (i + 1)).countP (isx x) := by
  rw [List.drop_eq_getElem_cons h, List.countP_cons, ← at_get h]
  omega
theorem l0_run (x0 s : List S24) (x : S24) (b : Int) (hl : x0.length ≤ 100) : ∀ (m k i a : Nat), m + i = x0.length → a ≤ i → 
    fuseelaw04_QueueSorts.l0 (k + m + 1) x0 s (a : Int) b (i : Int) x.f0 x.f1 = fuseelaw04_QueueSorts.l1 k x0 s ((a + (x0.drop i).countP (isx x) : Nat) : Int) b 0 x.f0 x.f1
  | 0, k, i, a, hm, ha => by
    rw [fuseelaw04_QueueSorts.l0, if_neg (by omega), List.drop_eq_nil_of_le (by omega)]
    rfl
  | m + 1, k, i, a, hm, ha => by
    rw [fuseelaw04_QueueSorts.l0, if_pos (by omega), if_pos (by omega), rd_at, wsucc (by omega), wsucc (by omega), cnt_drop (by omega)]
    show (if isx x (at_ x0 i) = true then _ else _) = _
    by_cases h : isx x (at_ x0 i) = true
    · rw [if_pos h, if_pos h]
      rw [show k + (m + 1) = k + m + 1 from rfl, l0_run x0 s x b hl m k (i + 1) (a + 1) (by omega) (by omega)]
      congr 2
      omega
    · rw [if_neg h, if_neg h]
      rw [show k + (m + 1) = k + m + 1 from rfl, l0_run x0 s x b hl m k (i + 1) a (by omega) (by omega)]
      congr 2
      omega
theorem l1_run (x0 s : List S24) (x : S24) (a : Int) (hl : s.length ≤ 100) (hs : Sorted s) : ∀ (m k i b : Nat), m + i = s.length → b ≤ i →
    fuseelaw04_QueueSorts.l1 (k + m + 1) x0 s a (b : Int) (i : Int) x.f0 x.f1 = fuseelaw04_QueueSorts.l1 (k + 1) x0 s a ((b + (s.drop i).countP (isx x) : Nat) : Int) (s.length : Int) x.f0 x.f1
  | 0, k, i, b, hm, hb => by
    have : i = s.length := by omega
    subst this
    rw [List.drop_length]
    rfl
  | m + 1, k, i, b, hm, hb => by
    have hle : 0 < i → Le (at_ s (i - 1)) (at_ s i) := fun h0 => by
      rw [at_get (by omega), at_get (by omega)]
      exact (List.pairwise_iff_getElem.1 hs) (i - 1) i (by omega) (by omega) (by omega)
    rw [fuseelaw04_QueueSorts.l1, if_pos (by omega), if_pos (by omega), rd_at, wsucc (by omega), wsucc (by omega), cnt_drop (by omega)]
    have step : ∀ (b' : Nat), b' ≤ i + 1 → (if (i : Int) > 0 then (if 0 ≤ (wrap64 ((i : Int) - 1)) then (if (wrap64 ((i : Int) - 1)) < (s.length : Int) then (if ((at_ s i).f0) < ((rd_T24 s (wrap64 ((i : Int) - 1))).f0) then (some false) else (if ((at_ s i).f0) = ((rd_T24 s (wrap64 ((i : Int) - 1))).f0) then (if ((at_ s i).f1) < ((rd_T24 s (wrap64 ((i : Int) - 1))).f1) then (some false) else (fuseelaw04_QueueSorts.l1 (k + (m + 1)) x0 s a (b' : Int) ((i + 1 : Nat) : Int) x.f0 x.f1)) else (fuseelaw04_QueueSorts.l1 (k + (m + 1)) x0 s a (b' : Int) ((i + 1 : Nat) : Int) x.f0 x.f1))) else (none)) else (none)) else (fuseelaw04_QueueSorts.l1 (k + (m + 1)) x0 s a (b' : Int) ((i + 1 : Nat) : Int) x.f0 x.f1)) = fuseelaw04_QueueSorts.l1 (k + (m + 1)) x0 s a (b' : Int) ((i + 1 : Nat) : Int) x.f0 x.f1 := fun b' hb' => by
      by_cases h0 : (i : Int) > 0
      · have hw2 : wrap64 ((i : Int) - 1) = ((i - 1 : Nat) : Int) := by
          rw [show wrap64 ((i : Int) - 1) = (i : Int) - 1 from by unfold wrap64; omega]
          omega
        have h1 := hle (by omega)
        unfold Le ah at h1
        simp at h1
        rw [if_pos h0, hw2, if_pos (by omega), if_pos (by omega), rd_at, if_neg (by omega)]
        split
        · rw [if_neg (by omega)]
        · rfl
      · rw [if_neg h0]
    show (if isx x (at_ s i) = true then _ else _) = _
    by_cases h : isx x (at_ s i) = true
    · rw [if_pos h, if_pos h, step (b + 1) (by omega), show k + (m + 1) = k + m + 1 from rfl, l1_run x0 s x a hl hs m k (i + 1) (b + 1) (by omega) (by omega)]
      congr 2
      omega
    · rw [if_neg h, if_neg h, step b (by omega), show k + (m + 1) = k + m + 1 from rfl, l1_run x0 s x a hl hs m k (i + 1) b (by omega) (by omega)]
      congr 2
      omega
theorem QueueSorts : ∀ (l0 : List S24) (a b : Int), l0.length ≤ 9223372036854775807 → (Lit.int .i64 a).wf = true → (Lit.int .i64 b).wf = true → ∃ k, fuseelaw04_QueueSorts.f k l0 a b = some true := by
  intro l0 a b _ _ _
  by_cases h0 : (l0.length : Int) > 100
  · refine ⟨31, ?_⟩
    unfold fuseelaw04_QueueSorts.f
    rw [show fuseelaw04_awake.f 31 = some true from awake_true 1, Option.bind_some, if_pos rfl, decide_eq_true h0, fuseelaw04_QueueSorts.j0, if_pos rfl]
  · obtain ⟨s, hs, _, hso, hpm⟩ := sort_total (k := 1000 + l0.length + l0.length + 2) (x0 := l0) (by omega) (by omega)
    have hls := hpm.length_eq
    obtain ⟨t, ht, _, hto, htp⟩ := sort_total (k := 1000) (x0 := s) (by omega) (by omega)
    have hts : t = s := sorted_unique hto hso htp
    subst hts
    refine ⟨1000 + l0.length + l0.length + 3, ?_⟩
    unfold fuseelaw04_QueueSorts.f
    rw [show 1000 + l0.length + l0.length + 3 = 30 + (970 + l0.length + l0.length + 3) from by omega, awake_true, show 30 + (970 + l0.length + l0.length + 3) = (1000 + l0.length + l0.length + 2) + 1 from by omega, Option.bind_some, if_pos rfl, decide_eq_false h0, fuseelaw04_QueueSorts.j0, if_neg (by simp), hs, Option.bind_some]
    have e0 := l0_run l0 t ⟨a, b⟩ 0 (by omega) l0.length (1000 + l0.length + 1) 0 0 (by omega) (by omega)
    have e1 := l1_run l0 t ⟨a, b⟩ ((0 + (l0.drop 0).countP (isx ⟨a, b⟩) : Nat) : Int) (by omega) hso t.length 1000 0 0 (by omega) (by omega)
    rw [hls] at e1
    rw [show 1000 + l0.length + l0.length + 2 = 1000 + l0.length + 1 + l0.length + 1 from by omega]
    refine e0.trans (e1.trans ?_)
    rw [fuseelaw04_QueueSorts.l1, if_neg (by omega), if_pos (by omega), if_pos (by rw [List.drop_zero, List.drop_zero, hpm.countP_eq]), ht, Option.bind_some, same_self (by omega) (by omega)]
    rfl
end Go.Proofs.Ytpkalbokpblhaaa.Pure
