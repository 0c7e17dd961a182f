-- Written for this claim by a program (the kit's print over a changed input, then joined with texts by hand).
import Derived.Test.YtndeaifggijlaaaPAx0
import Derived.Test.YtndeaifggijlaaaPAx5
import Derived.Test.YtndeaifggijlaaaPAx3
namespace Go.Proofs.Ytndeaifggijlaaa.PA
open Go.RowKit Go.Proofs.YtndeaifggijlaaaW.PrintWords Go.Proofs.YtndeaifggijlaaaW.PrintLast Go.Proofs.YtndeaifggijlaaaW.PrintMore
attribute [local go_sem] max2_int min2_int max_two min_two max_three min_three max_four min_four   -- for this text's walks alone
set_option linter.unusedVariables false
set_option linter.unusedSimpArgs false

/-! ### frac_Ceil: function 24 -/
def frac_Ceil.f (a0 : Int) (a1 : Int) : Option (Int × Bool) := (frac_ratio_may.f a0 a1).bind fun t106 => (if t106 = true then (if a1 = 0 then (none) else (some (wrap64 ((wrap64 (Int.tdiv a0 a1)) + (mn (Int.tmod a0 a1) 1)), true))) else (some (0, false)))
set_option maxHeartbeats 1000000 in
set_option maxRecDepth 100000 in
theorem hand_told (a b r : Int) (w : World) (h : frac_ratio_may.f a b = some true) (hc : frac_ratio_ceil.f a b = some r) :
    Calls Try.prog 27 #[.agg #[.int .i64 a, .int .i64 b], .func (.func 28) #[.agg #[.int .i64 a, .int .i64 b]] #[]] w fun e w' => e = .returned (.tuple #[.int .i64 r, .bool true]) ∧ Below w.heap.size w w' := by
  have H1 := Aside0.mk h
  have H2 := Aside0.mk hc
  clear h hc
  have hu39 := Try.underlying39
  go_enter Try.func27, Try.ntmps27
  go_wp2_with fail
  refine (frac_ratio_may.calls _ _ _ _ H1.out).mono ?_
  rintro e w1 ⟨rfl, hb1⟩
  go_wp2_with fail
  refine (frac_ratio_ceil.calls _ _ _ _ H2.out).mono ?_
  rintro e w2 ⟨rfl, hb2⟩
  go_wp2_with fail
  go_ret2
  exact ⟨rfl, below_step (below_step (below_alloc (Below.refl _ _) _) hb1) hb2⟩

set_option maxHeartbeats 1000000 in
set_option maxRecDepth 100000 in
theorem hand_told_no (a b : Int) (f : Value) (w : World) (h : frac_ratio_may.f a b = some false) :
    Calls Try.prog 27 #[.agg #[.int .i64 a, .int .i64 b], f] w fun e w' => e = .returned (.tuple #[.int .i64 0, .bool false]) ∧ Below w.heap.size w w' := by
  have H1 := Aside0.mk h
  clear h
  have hu39 := Try.underlying39
  go_enter Try.func27, Try.ntmps27
  go_wp2_with fail
  refine (frac_ratio_may.calls _ _ _ _ H1.out).mono ?_
  rintro e w1 ⟨rfl, hb1⟩
  go_wp2_with fail
  go_ret2
  exact ⟨rfl, below_step (below_alloc (Below.refl _ _) _) hb1⟩
set_option maxHeartbeats 8000000 in
set_option maxRecDepth 100000 in
theorem frac_Ceil.calls (a0 : Int) (a1 : Int) (r1 : Int) (r2 : Bool) (w : World) (h : frac_Ceil.f a0 a1 = some (r1, r2)) :
    Calls Try.prog 24 #[.int .i64 a0, .int .i64 a1] w fun e w' => e = .returned (.tuple #[.int .i64 r1, .bool r2]) ∧ Below w.heap.size w w' := by
  unfold frac_Ceil.f at h
  obtain ⟨t, h1, h2⟩ := Option.bind_eq_some_iff.mp h
  clear h
  have hmf : ∀ (fn : Fn) (first cap : Array Value) (w : World), (Instr.makeFunc fn first cap).run Try.prog w = .ok (.func fn first cap) w := fun _ _ _ _ => rfl
  cases t with
  | true =>
    simp only [if_true] at h2
    have hc : frac_ratio_ceil.f a0 a1 = some r1 ∧ r2 = true := by
      unfold frac_ratio_ceil.f
      by_cases hz : a1 = 0
      · simp [hz] at h2
      · simp only [hz, if_false] at h2 ⊢
        simp only [Option.some.injEq, Prod.mk.injEq] at h2 ⊢
        exact ⟨h2.1, h2.2.symm⟩
    obtain ⟨hc, rfl⟩ := hc
    have H1 := Aside0.mk h1
    have H2 := Aside0.mk hc
    clear h1 hc h2
    have hu39 := Try.underlying39
    go_enter Try.func24, Try.ntmps24
    go_wp2_with fail
    refine (hand_told _ _ _ _ H1.out H2.out).mono ?_
    rintro e w1 ⟨rfl, hb1⟩
    go_wp2_with fail
    go_ret2
    exact ⟨rfl, below_step (by repeat (first | exact Below.refl _ _ | apply below_alloc)) hb1⟩
  | false =>
    simp only [Bool.false_eq_true, if_false, Option.some.injEq, Prod.mk.injEq] at h2
    obtain ⟨rfl, rfl⟩ := h2
    have H1 := Aside0.mk h1
    clear h1
    have hu39 := Try.underlying39
    go_enter Try.func24, Try.ntmps24
    go_wp2_with fail
    refine (hand_told_no _ _ _ _ H1.out).mono ?_
    rintro e w1 ⟨rfl, hb1⟩
    go_wp2_with fail
    go_ret2
    exact ⟨rfl, below_step (by repeat (first | exact Below.refl _ _ | apply below_alloc)) hb1⟩

end Go.Proofs.Ytndeaifggijlaaa.PA
