-- Written for this claim by a program (the kit's print over a changed input, then joined with texts by hand).
import Derived.Test.YtndeaifggijlaaaPAx0
import Derived.Test.YtndeaifggijlaaaPAx1
import Derived.Test.YtndeaifggijlaaaPAx8
import Derived.Test.YtndeaifggijlaaaPAx9
import Derived.Test.YtndeaifggijlaaaPAx13
namespace Go.Proofs.Ytndeaifggijlaaa.PA
open Go.RowKit Go.Proofs.YtndeaifggijlaaaW.PrintWords Go.Proofs.YtndeaifggijlaaaW.PrintLast Go.Proofs.YtndeaifggijlaaaW.PrintMore
attribute [local go_sem] max2_int min2_int max_two min_two max_three min_three max_four min_four   -- for this text's walks alone
set_option linter.unusedVariables false
set_option linter.unusedSimpArgs false

/-! ### fuseelaw02_PatSum: function 7 -/
def fuseelaw02_PatSum.j0 : Nat → Int → Int → Int → Int → Int → Bool → Bool → Option (Bool)
  | 0, _, _, _, _, _, _, _ => none
  | k + 1, x0, x1, x2, x3, x4, x11, x47 => if x47 = true then (some x11) else ((pat_Count.f k x0 x1 x2 x3).bind fun t154 => ((pat_Count.f k x0 x1 (wrap64 (x2 + x3)) x4).bind fun t155 => ((pat_Count.f k x0 x1 x2 (wrap64 (x3 + x4))).bind fun t156 => (if t156 = (wrap64 (t154 + t155)) then (if t154 ≥ 0 then (if t155 ≥ 0 then ((pat_Most.f x0 x1 (wrap64 (x3 + x4))).bind fun t157 => ((pat_Most.f x0 x1 x3).bind fun t158 => ((pat_Most.f x0 x1 x4).bind fun t159 => (if t157 ≤ (wrap64 (t158 + t159)) then ((pat_Most.f x0 x1 x3).bind fun t160 => ((pat_Most.f x0 x1 (wrap64 (x3 + x4))).bind fun t161 => (some (decide (t160 ≤ t161))))) else (some false))))) else (some false)) else (some false)) else (some false)))))
def fuseelaw02_PatSum.f (k : Nat) (a0 : Int) (a1 : Int) (a2 : Int) (a3 : Int) (a4 : Int) : Option (Bool) := (fuseelaw02_awake.f k).bind fun t152 => (if t152 = true then ((pat_May.f a0 a1).bind fun t153 => (if t153 = true then (if a2 < 0 then (fuseelaw02_PatSum.j0 k a0 a1 a2 a3 a4 t152 true) else (if a3 < 0 then (fuseelaw02_PatSum.j0 k a0 a1 a2 a3 a4 t152 true) else (if a4 < 0 then (fuseelaw02_PatSum.j0 k a0 a1 a2 a3 a4 t152 true) else (if a2 > 1000000000000 then (fuseelaw02_PatSum.j0 k a0 a1 a2 a3 a4 t152 true) else (if a3 > 10000000000 then (fuseelaw02_PatSum.j0 k a0 a1 a2 a3 a4 t152 true) else (fuseelaw02_PatSum.j0 k a0 a1 a2 a3 a4 t152 (decide (a4 > 10000000000)))))))) else (fuseelaw02_PatSum.j0 k a0 a1 a2 a3 a4 t152 true))) else (fuseelaw02_PatSum.j0 k a0 a1 a2 a3 a4 t152 true))
theorem fuseelaw02_PatSum.mono_l : ∀ k, (∀ y0 y1 y2 y3 y4 y5 y6, LeO (fuseelaw02_PatSum.j0 k y0 y1 y2 y3 y4 y5 y6) (fuseelaw02_PatSum.j0 (k + 1) y0 y1 y2 y3 y4 y5 y6))
  | 0 => fun _ _ _ _ _ _ _ r h => by simp [fuseelaw02_PatSum.j0] at h
  | k + 1 => by
    have ih0 := fuseelaw02_PatSum.mono_l k
    · intro y0 y1 y2 y3 y4 y5 y6
      unfold fuseelaw02_PatSum.j0
      repeat' first
      | (with_reducible exact ih0 _ _ _ _ _ _ _)
      | (with_reducible exact fuseelaw02_awake.mono _)
      | (with_reducible exact pat_Count.mono _ _ _ _ _)
      | (with_reducible exact LeO.refl _)
      | (with_reducible exact LeO.none _)
      | (with_reducible refine LeO.ite ?_ ?_)
      | (with_reducible refine LeO.bind ?_ (fun _ => ?_))
      | exact ih0 _ _ _ _ _ _ _
      | exact fuseelaw02_awake.mono _
      | exact pat_Count.mono _ _ _ _ _
      | exact LeO.none _
      | refine LeO.ite ?_ ?_
      | refine LeO.bind ?_ (fun _ => ?_)
theorem fuseelaw02_PatSum.mono : ∀ a0 a1 a2 a3 a4 k, LeO (fuseelaw02_PatSum.f k a0 a1 a2 a3 a4) (fuseelaw02_PatSum.f (k + 1) a0 a1 a2 a3 a4) := by
  intro a0 a1 a2 a3 a4 k
  have ih0 := fuseelaw02_PatSum.mono_l k
  unfold fuseelaw02_PatSum.f
  repeat' first
      | (with_reducible exact ih0 _ _ _ _ _ _ _)
      | (with_reducible exact fuseelaw02_awake.mono _)
      | (with_reducible exact pat_Count.mono _ _ _ _ _)
      | (with_reducible exact LeO.refl _)
      | (with_reducible exact LeO.none _)
      | (with_reducible refine LeO.ite ?_ ?_)
      | (with_reducible refine LeO.bind ?_ (fun _ => ?_))
      | exact ih0 _ _ _ _ _ _ _
      | exact fuseelaw02_awake.mono _
      | exact pat_Count.mono _ _ _ _ _
      | exact LeO.none _
      | refine LeO.ite ?_ ?_
      | refine LeO.bind ?_ (fun _ => ?_)
set_option maxHeartbeats 8000000 in
set_option maxRecDepth 100000 in
theorem fuseelaw02_PatSum.calls (k : Nat) (a0 : Int) (a1 : Int) (a2 : Int) (a3 : Int) (a4 : Int) (r : Bool) (w : World) (h : fuseelaw02_PatSum.f k a0 a1 a2 a3 a4 = some r) :
    Calls Try.prog 7 #[.int .i64 a0, .int .i64 a1, .int .i64 a2, .int .i64 a3, .int .i64 a4] w fun e w' => e = .returned (.bool r) ∧ Below w.heap.size w w' := by
  have HB := Aside0.mk (Below.refl w.heap.size w)
  have H : ((fuseelaw02_awake.f k).bind fun t152 => (if t152 = true then ((pat_May.f a0 a1).bind fun t153 => (if t153 = true then (if a2 < 0 then (fuseelaw02_PatSum.j0 k a0 a1 a2 a3 a4 t152 true) else (if a3 < 0 then (fuseelaw02_PatSum.j0 k a0 a1 a2 a3 a4 t152 true) else (if a4 < 0 then (fuseelaw02_PatSum.j0 k a0 a1 a2 a3 a4 t152 true) else (if a2 > 1000000000000 then (fuseelaw02_PatSum.j0 k a0 a1 a2 a3 a4 t152 true) else (if a3 > 10000000000 then (fuseelaw02_PatSum.j0 k a0 a1 a2 a3 a4 t152 true) else (fuseelaw02_PatSum.j0 k a0 a1 a2 a3 a4 t152 (decide (a4 > 10000000000)))))))) else (fuseelaw02_PatSum.j0 k a0 a1 a2 a3 a4 t152 true))) else (fuseelaw02_PatSum.j0 k a0 a1 a2 a3 a4 t152 true))) = some r := h
  clear h
  replace H := Option.bind_eq_some_iff.mp H
  obtain ⟨t152, A60, H⟩ := H
  replace H : (if t152 = true then ((pat_May.f a0 a1).bind fun t153 => (if t153 = true then (if a2 < 0 then (fuseelaw02_PatSum.j0 k a0 a1 a2 a3 a4 t152 true) else (if a3 < 0 then (fuseelaw02_PatSum.j0 k a0 a1 a2 a3 a4 t152 true) else (if a4 < 0 then (fuseelaw02_PatSum.j0 k a0 a1 a2 a3 a4 t152 true) else (if a2 > 1000000000000 then (fuseelaw02_PatSum.j0 k a0 a1 a2 a3 a4 t152 true) else (if a3 > 10000000000 then (fuseelaw02_PatSum.j0 k a0 a1 a2 a3 a4 t152 true) else (fuseelaw02_PatSum.j0 k a0 a1 a2 a3 a4 t152 (decide (a4 > 10000000000)))))))) else (fuseelaw02_PatSum.j0 k a0 a1 a2 a3 a4 t152 true))) else (fuseelaw02_PatSum.j0 k a0 a1 a2 a3 a4 t152 true)) = some r := H
  have A6 := Aside0.mk A60
  clear A60
  have HC7 := Aside0.mk H
  clear H
  go_enter Try.func7, Try.ntmps7
  go_upto_region 2 with (first | ((with_reducible refine gate_callee (f := 10) rfl ?_); refine goesL_ (some 15) rfl rfl Try.func10 (by kernel_rfl) rfl #[] rfl (by (try simp only [List.map_toArray, List.map_cons, List.map_nil]); first | done | rfl | (simp only [List.length_drop, List.length_take]; rfl)) ?_; (with_reducible refine (fuseelaw02_awake.calls k  t152 _ A6.out).mono ?_); rintro e w8 ⟨rfl, hb⟩; refine ⟨_, rfl, ?_⟩; have n0_ := Aside0.mk (below_step (by repeat (first | (with_reducible first | exact HB.out | apply below_alloc | apply pw_below_drewN | apply below_drew1) | exact HB.out)) hb); clear HB; have HB := n0_; clear n0_; (try clear hb); (try clear hb2); (try clear hk); (try clear hi)))
  (try simp only [Act.put, List.setIfInBounds_toArray, List.set_cons_zero, List.set_cons_succ])
  go_cut [47] (fun v47 wc => ∃ (kq : Nat) (x47_6 : Bool), v47 = .bool x47_6 ∧ Aside0 (fuseelaw02_PatSum.j0 kq a0 a1 a2 a3 a4 t152 x47_6 = some r) ∧ Aside0 (kq ≤ k) ∧ Aside0 (Below w.heap.size w wc))
  case first =>
    have H := HC7.out
    clear HC7
    by_cases c9 : t152 = true
    · subst c9
      have H1 : ((pat_May.f a0 a1).bind fun t153 => (if t153 = true then (if a2 < 0 then (fuseelaw02_PatSum.j0 k a0 a1 a2 a3 a4 true true) else (if a3 < 0 then (fuseelaw02_PatSum.j0 k a0 a1 a2 a3 a4 true true) else (if a4 < 0 then (fuseelaw02_PatSum.j0 k a0 a1 a2 a3 a4 true true) else (if a2 > 1000000000000 then (fuseelaw02_PatSum.j0 k a0 a1 a2 a3 a4 true true) else (if a3 > 10000000000 then (fuseelaw02_PatSum.j0 k a0 a1 a2 a3 a4 true true) else (fuseelaw02_PatSum.j0 k a0 a1 a2 a3 a4 true (decide (a4 > 10000000000)))))))) else (fuseelaw02_PatSum.j0 k a0 a1 a2 a3 a4 true true))) = some r := by rw [if_pos rfl] at H; exact H
      clear H
      have H := H1
      clear H1
      replace H := Option.bind_eq_some_iff.mp H
      obtain ⟨t153, A100, H⟩ := H
      replace H : (if t153 = true then (if a2 < 0 then (fuseelaw02_PatSum.j0 k a0 a1 a2 a3 a4 true true) else (if a3 < 0 then (fuseelaw02_PatSum.j0 k a0 a1 a2 a3 a4 true true) else (if a4 < 0 then (fuseelaw02_PatSum.j0 k a0 a1 a2 a3 a4 true true) else (if a2 > 1000000000000 then (fuseelaw02_PatSum.j0 k a0 a1 a2 a3 a4 true true) else (if a3 > 10000000000 then (fuseelaw02_PatSum.j0 k a0 a1 a2 a3 a4 true true) else (fuseelaw02_PatSum.j0 k a0 a1 a2 a3 a4 true (decide (a4 > 10000000000)))))))) else (fuseelaw02_PatSum.j0 k a0 a1 a2 a3 a4 true true)) = some r := H
      have A10 := Aside0.mk A100
      clear A100
      by_cases c11 : t153 = true
      · subst c11
        have H1 : (if a2 < 0 then (fuseelaw02_PatSum.j0 k a0 a1 a2 a3 a4 true true) else (if a3 < 0 then (fuseelaw02_PatSum.j0 k a0 a1 a2 a3 a4 true true) else (if a4 < 0 then (fuseelaw02_PatSum.j0 k a0 a1 a2 a3 a4 true true) else (if a2 > 1000000000000 then (fuseelaw02_PatSum.j0 k a0 a1 a2 a3 a4 true true) else (if a3 > 10000000000 then (fuseelaw02_PatSum.j0 k a0 a1 a2 a3 a4 true true) else (fuseelaw02_PatSum.j0 k a0 a1 a2 a3 a4 true (decide (a4 > 10000000000)))))))) = some r := by rw [if_pos rfl] at H; exact H
        clear H
        have H := H1
        clear H1
        by_cases c12 : a2 < 0
        · rw [if_pos c12] at H
          have c12b0 : decide (a2 < 0) = true := decide_eq_true c12
          clear c12
          (first | rw [c12b0] | (simp only [i64_w, i32_w]; rw [c12b0]) | skip)
          have H' := Aside0.mk H
          clear H
          go_wp2_with (first | (go_at_call 11; (with_reducible refine (pat_May.calls a0 a1 true _ A10.out).mono ?_); rintro e w' ⟨rfl, ⟨nd, rfl⟩⟩))
          go_meet
          case rel => exact ⟨_, (true), (by first | rfl | (simp; done) | (simp [*]; done)), H', ⟨by first | omega | exact Nat.le_refl _⟩, ⟨by repeat (first | (with_reducible first | exact HB.out | apply below_alloc | apply pw_below_drewN | apply below_drew1) | exact HB.out)⟩⟩
        · rw [if_neg c12] at H
          have c12b0 : decide (a2 < 0) = false := decide_eq_false c12
          clear c12
          (first | rw [c12b0] | (simp only [i64_w, i32_w]; rw [c12b0]) | skip)
          by_cases c13 : a3 < 0
          · rw [if_pos c13] at H
            have c13b0 : decide (a3 < 0) = true := decide_eq_true c13
            clear c13
            have H' := Aside0.mk H
            clear H
            go_wp2_with (first | (go_at_call 11; (with_reducible refine (pat_May.calls a0 a1 true _ A10.out).mono ?_); rintro e w' ⟨rfl, ⟨nd, rfl⟩⟩))
            go_meet
            case rel => exact ⟨_, (true), (by first | rfl | (simp; done) | (simp [*]; done)), H', ⟨by first | omega | exact Nat.le_refl _⟩, ⟨by repeat (first | (with_reducible first | exact HB.out | apply below_alloc | apply pw_below_drewN | apply below_drew1) | exact HB.out)⟩⟩
          · rw [if_neg c13] at H
            have c13b0 : decide (a3 < 0) = false := decide_eq_false c13
            clear c13
            by_cases c14 : a4 < 0
            · rw [if_pos c14] at H
              have c14b0 : decide (a4 < 0) = true := decide_eq_true c14
              clear c14
              have H' := Aside0.mk H
              clear H
              go_wp2_with (first | (go_at_call 11; (with_reducible refine (pat_May.calls a0 a1 true _ A10.out).mono ?_); rintro e w' ⟨rfl, ⟨nd, rfl⟩⟩))
              go_meet
              case rel => exact ⟨_, (true), (by first | rfl | (simp; done) | (simp [*]; done)), H', ⟨by first | omega | exact Nat.le_refl _⟩, ⟨by repeat (first | (with_reducible first | exact HB.out | apply below_alloc | apply pw_below_drewN | apply below_drew1) | exact HB.out)⟩⟩
            · rw [if_neg c14] at H
              have c14b0 : decide (a4 < 0) = false := decide_eq_false c14
              clear c14
              by_cases c15 : a2 > 1000000000000
              · rw [if_pos c15] at H
                have c15b0 : decide (1000000000000 < a2) = true := decide_eq_true c15
                clear c15
                have H' := Aside0.mk H
                clear H
                go_wp2_with (first | (go_at_call 11; (with_reducible refine (pat_May.calls a0 a1 true _ A10.out).mono ?_); rintro e w' ⟨rfl, ⟨nd, rfl⟩⟩))
                go_meet
                case rel => exact ⟨_, (true), (by first | rfl | (simp; done) | (simp [*]; done)), H', ⟨by first | omega | exact Nat.le_refl _⟩, ⟨by repeat (first | (with_reducible first | exact HB.out | apply below_alloc | apply pw_below_drewN | apply below_drew1) | exact HB.out)⟩⟩
              · rw [if_neg c15] at H
                have c15b0 : decide (1000000000000 < a2) = false := decide_eq_false c15
                clear c15
                by_cases c16 : a3 > 10000000000
                · rw [if_pos c16] at H
                  have c16b0 : decide (10000000000 < a3) = true := decide_eq_true c16
                  clear c16
                  have H' := Aside0.mk H
                  clear H
                  go_wp2_with (first | (go_at_call 11; (with_reducible refine (pat_May.calls a0 a1 true _ A10.out).mono ?_); rintro e w' ⟨rfl, ⟨nd, rfl⟩⟩))
                  go_meet
                  case rel => exact ⟨_, (true), (by first | rfl | (simp; done) | (simp [*]; done)), H', ⟨by first | omega | exact Nat.le_refl _⟩, ⟨by repeat (first | (with_reducible first | exact HB.out | apply below_alloc | apply pw_below_drewN | apply below_drew1) | exact HB.out)⟩⟩
                · rw [if_neg c16] at H
                  have c16b0 : decide (10000000000 < a3) = false := decide_eq_false c16
                  clear c16
                  have H' := Aside0.mk H
                  clear H
                  go_wp2_with (first | (go_at_call 11; (with_reducible refine (pat_May.calls a0 a1 true _ A10.out).mono ?_); rintro e w' ⟨rfl, ⟨nd, rfl⟩⟩))
                  go_meet
                  case rel => exact ⟨_, (decide (a4 > 10000000000)), (by first | rfl | (simp; done) | (simp [*]; done)), H', ⟨by first | omega | exact Nat.le_refl _⟩, ⟨by repeat (first | (with_reducible first | exact HB.out | apply below_alloc | apply pw_below_drewN | apply below_drew1) | exact HB.out)⟩⟩
      · replace c11 := Bool.eq_false_iff.mpr c11
        subst c11
        have H1 : (fuseelaw02_PatSum.j0 k a0 a1 a2 a3 a4 true true) = some r := by rw [if_neg (show ¬ (false = true) by decide)] at H; exact H
        clear H
        have H := H1
        clear H1
        have H' := Aside0.mk H
        clear H
        go_wp2_with (first | (go_at_call 11; (with_reducible refine (pat_May.calls a0 a1 false _ A10.out).mono ?_); rintro e w' ⟨rfl, ⟨nd, rfl⟩⟩))
        go_meet
        case rel => exact ⟨_, (true), (by first | rfl | (simp; done) | (simp [*]; done)), H', ⟨by first | omega | exact Nat.le_refl _⟩, ⟨by repeat (first | (with_reducible first | exact HB.out | apply below_alloc | apply pw_below_drewN | apply below_drew1) | exact HB.out)⟩⟩
    · replace c9 := Bool.eq_false_iff.mpr c9
      subst c9
      have H1 : (fuseelaw02_PatSum.j0 k a0 a1 a2 a3 a4 false true) = some r := by rw [if_neg (show ¬ (false = true) by decide)] at H; exact H
      clear H
      have H := H1
      clear H1
      have H' := Aside0.mk H
      clear H
      go_wp2
      go_meet
      case rel => exact ⟨_, (true), (by first | rfl | (simp; done) | (simp [*]; done)), H', ⟨by first | omega | exact Nat.le_refl _⟩, ⟨by repeat (first | (with_reducible first | exact HB.out | apply below_alloc | apply pw_below_drewN | apply below_drew1) | exact HB.out)⟩⟩
  case rest =>
    clear HC7
    try clear c1
    try clear p2
    try clear c7
    try clear c9
    try clear c10
    try clear c11
    try clear c12
    try clear c12b0
    try clear c13
    try clear c13b0
    try clear c14
    try clear c14b0
    try clear c15
    try clear c15b0
    try clear c16
    try clear c16b0
    obtain ⟨kq, x47_6, rfl, HA, HJ6, HB⟩ := hcut
    cases kq with
    | zero => exact absurd HA.out (by simp [fuseelaw02_PatSum.j0])
    | succ kj6 =>
      have H := HA.out
      clear HA
      simp only [fuseelaw02_PatSum.j0] at H
      by_cases c17 : x47_6 = true
      · subst c17
        have H1 : (some t152) = some r := by rw [if_pos rfl] at H; exact H
        clear H
        have H := H1
        clear H1
        obtain rfl := Option.some.inj H
        go_wp2
        go_ret
        exact ⟨by first | rfl | (simp [errW_none, errW_some] <;> rfl) | (simp [*, errW_none, errW_some] <;> rfl), by repeat (first | (with_reducible first | exact HB.out | apply below_alloc | apply pw_below_drewN | apply below_drew1) | exact HB.out)⟩
      · replace c17 := Bool.eq_false_iff.mpr c17
        subst c17
        have H1 : ((pat_Count.f kj6 a0 a1 a2 a3).bind fun t154 => ((pat_Count.f kj6 a0 a1 (wrap64 (a2 + a3)) a4).bind fun t155 => ((pat_Count.f kj6 a0 a1 a2 (wrap64 (a3 + a4))).bind fun t156 => (if t156 = (wrap64 (t154 + t155)) then (if t154 ≥ 0 then (if t155 ≥ 0 then ((pat_Most.f a0 a1 (wrap64 (a3 + a4))).bind fun t157 => ((pat_Most.f a0 a1 a3).bind fun t158 => ((pat_Most.f a0 a1 a4).bind fun t159 => (if t157 ≤ (wrap64 (t158 + t159)) then ((pat_Most.f a0 a1 a3).bind fun t160 => ((pat_Most.f a0 a1 (wrap64 (a3 + a4))).bind fun t161 => (some (decide (t160 ≤ t161))))) else (some false))))) else (some false)) else (some false)) else (some false))))) = some r := by rw [if_neg (show ¬ (false = true) by decide)] at H; exact H
        clear H
        have H := H1
        clear H1
        replace H := Option.bind_eq_some_iff.mp H
        obtain ⟨t154, A180, H⟩ := H
        replace H : ((pat_Count.f kj6 a0 a1 (wrap64 (a2 + a3)) a4).bind fun t155 => ((pat_Count.f kj6 a0 a1 a2 (wrap64 (a3 + a4))).bind fun t156 => (if t156 = (wrap64 (t154 + t155)) then (if t154 ≥ 0 then (if t155 ≥ 0 then ((pat_Most.f a0 a1 (wrap64 (a3 + a4))).bind fun t157 => ((pat_Most.f a0 a1 a3).bind fun t158 => ((pat_Most.f a0 a1 a4).bind fun t159 => (if t157 ≤ (wrap64 (t158 + t159)) then ((pat_Most.f a0 a1 a3).bind fun t160 => ((pat_Most.f a0 a1 (wrap64 (a3 + a4))).bind fun t161 => (some (decide (t160 ≤ t161))))) else (some false))))) else (some false)) else (some false)) else (some false)))) = some r := H
        have A18 := Aside0.mk A180
        clear A180
        replace H := Option.bind_eq_some_iff.mp H
        obtain ⟨t155, A190, H⟩ := H
        replace H : ((pat_Count.f kj6 a0 a1 a2 (wrap64 (a3 + a4))).bind fun t156 => (if t156 = (wrap64 (t154 + t155)) then (if t154 ≥ 0 then (if t155 ≥ 0 then ((pat_Most.f a0 a1 (wrap64 (a3 + a4))).bind fun t157 => ((pat_Most.f a0 a1 a3).bind fun t158 => ((pat_Most.f a0 a1 a4).bind fun t159 => (if t157 ≤ (wrap64 (t158 + t159)) then ((pat_Most.f a0 a1 a3).bind fun t160 => ((pat_Most.f a0 a1 (wrap64 (a3 + a4))).bind fun t161 => (some (decide (t160 ≤ t161))))) else (some false))))) else (some false)) else (some false)) else (some false))) = some r := H
        have A19 := Aside0.mk A190
        clear A190
        replace H := Option.bind_eq_some_iff.mp H
        obtain ⟨t156, A200, H⟩ := H
        replace H : (if t156 = (wrap64 (t154 + t155)) then (if t154 ≥ 0 then (if t155 ≥ 0 then ((pat_Most.f a0 a1 (wrap64 (a3 + a4))).bind fun t157 => ((pat_Most.f a0 a1 a3).bind fun t158 => ((pat_Most.f a0 a1 a4).bind fun t159 => (if t157 ≤ (wrap64 (t158 + t159)) then ((pat_Most.f a0 a1 a3).bind fun t160 => ((pat_Most.f a0 a1 (wrap64 (a3 + a4))).bind fun t161 => (some (decide (t160 ≤ t161))))) else (some false))))) else (some false)) else (some false)) else (some false)) = some r := H
        have A20 := Aside0.mk A200
        clear A200
        by_cases c21 : t156 = (wrap64 (t154 + t155))
        · rw [if_pos c21] at H
          have c21b0 : (t156 == (wrap64 (t154 + t155))) = true := beq_iff_eq.mpr c21
          have c21b1 : (t156 != (wrap64 (t154 + t155))) = false := bne_eq_false_iff_eq.mpr c21
          clear c21
          by_cases c22 : t154 ≥ 0
          · rw [if_pos c22] at H
            have c22b0 : decide (0 ≤ t154) = true := decide_eq_true c22
            clear c22
            by_cases c23 : t155 ≥ 0
            · rw [if_pos c23] at H
              have c23b0 : decide (0 ≤ t155) = true := decide_eq_true c23
              clear c23
              replace H := Option.bind_eq_some_iff.mp H
              obtain ⟨t157, A240, H⟩ := H
              replace H : ((pat_Most.f a0 a1 a3).bind fun t158 => ((pat_Most.f a0 a1 a4).bind fun t159 => (if t157 ≤ (wrap64 (t158 + t159)) then ((pat_Most.f a0 a1 a3).bind fun t160 => ((pat_Most.f a0 a1 (wrap64 (a3 + a4))).bind fun t161 => (some (decide (t160 ≤ t161))))) else (some false)))) = some r := H
              have A24 := Aside0.mk A240
              clear A240
              replace H := Option.bind_eq_some_iff.mp H
              obtain ⟨t158, A250, H⟩ := H
              replace H : ((pat_Most.f a0 a1 a4).bind fun t159 => (if t157 ≤ (wrap64 (t158 + t159)) then ((pat_Most.f a0 a1 a3).bind fun t160 => ((pat_Most.f a0 a1 (wrap64 (a3 + a4))).bind fun t161 => (some (decide (t160 ≤ t161))))) else (some false))) = some r := H
              have A25 := Aside0.mk A250
              clear A250
              replace H := Option.bind_eq_some_iff.mp H
              obtain ⟨t159, A260, H⟩ := H
              replace H : (if t157 ≤ (wrap64 (t158 + t159)) then ((pat_Most.f a0 a1 a3).bind fun t160 => ((pat_Most.f a0 a1 (wrap64 (a3 + a4))).bind fun t161 => (some (decide (t160 ≤ t161))))) else (some false)) = some r := H
              have A26 := Aside0.mk A260
              clear A260
              by_cases c27 : t157 ≤ (wrap64 (t158 + t159))
              · rw [if_pos c27] at H
                have c27b0 : decide (t157 ≤ (wrap64 (t158 + t159))) = true := decide_eq_true c27
                clear c27
                replace H := Option.bind_eq_some_iff.mp H
                obtain ⟨t160, A280, H⟩ := H
                replace H : ((pat_Most.f a0 a1 (wrap64 (a3 + a4))).bind fun t161 => (some (decide (t160 ≤ t161)))) = some r := H
                have A28 := Aside0.mk A280
                clear A280
                replace H := Option.bind_eq_some_iff.mp H
                obtain ⟨t161, A290, H⟩ := H
                replace H : (some (decide (t160 ≤ t161))) = some r := H
                have A29 := Aside0.mk A290
                clear A290
                obtain rfl := Option.some.inj H
                obtain rfl := Option.some.inj (A25.out.symm.trans A28.out)
                obtain rfl := Option.some.inj (A24.out.symm.trans A29.out)
                go_wp2_with (first | ((with_reducible refine gate_callee (f := 13) rfl ?_); refine goesL_ (some 53) rfl rfl Try.func13 (by kernel_rfl) rfl #[.int .i64 a0, .int .i64 a1, .int .i64 a2, .int .i64 a3] rfl (by (try simp only [List.map_toArray, List.map_cons, List.map_nil]); first | done | rfl | (simp only [List.length_drop, List.length_take]; rfl)) ?_; (with_reducible refine (pat_Count.calls kj6 a0 a1 a2 a3 t154 _ A18.out).mono ?_); rintro e w30 ⟨rfl, hb⟩; refine ⟨_, rfl, ?_⟩; have n0_ := Aside0.mk (below_step (by repeat (first | (with_reducible first | exact HB.out | apply below_alloc | apply pw_below_drewN | apply below_drew1) | exact HB.out)) hb); clear HB; have HB := n0_; clear n0_; (try clear hb); (try clear hb2); (try clear hk); (try clear hi)) | ((with_reducible refine gate_callee (f := 13) rfl ?_); refine goesL_ (some 60) rfl rfl Try.func13 (by kernel_rfl) rfl #[.int .i64 a0, .int .i64 a1, .int .i64 (wrap64 (a2 + a3)), .int .i64 a4] rfl (by (try simp only [List.map_toArray, List.map_cons, List.map_nil]); first | done | rfl | (simp only [List.length_drop, List.length_take]; rfl)) ?_; (with_reducible refine (pat_Count.calls kj6 a0 a1 (wrap64 (a2 + a3)) a4 t155 _ A19.out).mono ?_); rintro e w31 ⟨rfl, hb⟩; refine ⟨_, rfl, ?_⟩; have n0_ := Aside0.mk (below_step (by repeat (first | (with_reducible first | exact HB.out | apply below_alloc | apply pw_below_drewN | apply below_drew1) | exact HB.out)) hb); clear HB; have HB := n0_; clear n0_; (try clear hb); (try clear hb2); (try clear hk); (try clear hi)) | ((with_reducible refine gate_callee (f := 13) rfl ?_); refine goesL_ (some 67) rfl rfl Try.func13 (by kernel_rfl) rfl #[.int .i64 a0, .int .i64 a1, .int .i64 a2, .int .i64 (wrap64 (a3 + a4))] rfl (by (try simp only [List.map_toArray, List.map_cons, List.map_nil]); first | done | rfl | (simp only [List.length_drop, List.length_take]; rfl)) ?_; (with_reducible refine (pat_Count.calls kj6 a0 a1 a2 (wrap64 (a3 + a4)) t156 _ A20.out).mono ?_); rintro e w32 ⟨rfl, hb⟩; refine ⟨_, rfl, ?_⟩; have n0_ := Aside0.mk (below_step (by repeat (first | (with_reducible first | exact HB.out | apply below_alloc | apply pw_below_drewN | apply below_drew1) | exact HB.out)) hb); clear HB; have HB := n0_; clear n0_; (try clear hb); (try clear hb2); (try clear hk); (try clear hi)) | (go_at_call 14; (with_reducible refine (pat_Most.calls a0 a1 (wrap64 (a3 + a4)) t157 _ A24.out).mono ?_); rintro e w33 ⟨rfl, hb⟩; have n0_ := Aside0.mk (below_step (by repeat (first | (with_reducible first | exact HB.out | apply below_alloc | apply pw_below_drewN | apply below_drew1) | exact HB.out)) hb); clear HB; have HB := n0_; clear n0_; (try clear hb); (try clear hb2); (try clear hk); (try clear hi)) | (go_at_call 14; (with_reducible refine (pat_Most.calls a0 a1 a3 t158 _ A25.out).mono ?_); rintro e w34 ⟨rfl, hb⟩; have n0_ := Aside0.mk (below_step (by repeat (first | (with_reducible first | exact HB.out | apply below_alloc | apply pw_below_drewN | apply below_drew1) | exact HB.out)) hb); clear HB; have HB := n0_; clear n0_; (try clear hb); (try clear hb2); (try clear hk); (try clear hi)) | (go_at_call 14; (with_reducible refine (pat_Most.calls a0 a1 a4 t159 _ A26.out).mono ?_); rintro e w35 ⟨rfl, hb⟩; have n0_ := Aside0.mk (below_step (by repeat (first | (with_reducible first | exact HB.out | apply below_alloc | apply pw_below_drewN | apply below_drew1) | exact HB.out)) hb); clear HB; have HB := n0_; clear n0_; (try clear hb); (try clear hb2); (try clear hk); (try clear hi)) | (go_at_call 14; (with_reducible refine (pat_Most.calls a0 a1 a3 t160 _ A28.out).mono ?_); rintro e w36 ⟨rfl, hb⟩; have n0_ := Aside0.mk (below_step (by repeat (first | (with_reducible first | exact HB.out | apply below_alloc | apply pw_below_drewN | apply below_drew1) | exact HB.out)) hb); clear HB; have HB := n0_; clear n0_; (try clear hb); (try clear hb2); (try clear hk); (try clear hi)) | (go_at_call 14; (with_reducible refine (pat_Most.calls a0 a1 (wrap64 (a3 + a4)) t161 _ A29.out).mono ?_); rintro e w37 ⟨rfl, hb⟩; have n0_ := Aside0.mk (below_step (by repeat (first | (with_reducible first | exact HB.out | apply below_alloc | apply pw_below_drewN | apply below_drew1) | exact HB.out)) hb); clear HB; have HB := n0_; clear n0_; (try clear hb); (try clear hb2); (try clear hk); (try clear hi)))
                go_ret
                exact ⟨by first | rfl | (simp [errW_none, errW_some] <;> rfl) | (simp [*, errW_none, errW_some] <;> rfl), by repeat (first | (with_reducible first | exact HB.out | apply below_alloc | apply pw_below_drewN | apply below_drew1) | exact HB.out)⟩
              · rw [if_neg c27] at H
                have c27b0 : decide (t157 ≤ (wrap64 (t158 + t159))) = false := decide_eq_false c27
                clear c27
                obtain rfl := Option.some.inj H
                go_wp2_with (first | ((with_reducible refine gate_callee (f := 13) rfl ?_); refine goesL_ (some 53) rfl rfl Try.func13 (by kernel_rfl) rfl #[.int .i64 a0, .int .i64 a1, .int .i64 a2, .int .i64 a3] rfl (by (try simp only [List.map_toArray, List.map_cons, List.map_nil]); first | done | rfl | (simp only [List.length_drop, List.length_take]; rfl)) ?_; (with_reducible refine (pat_Count.calls kj6 a0 a1 a2 a3 t154 _ A18.out).mono ?_); rintro e w38 ⟨rfl, hb⟩; refine ⟨_, rfl, ?_⟩; have n0_ := Aside0.mk (below_step (by repeat (first | (with_reducible first | exact HB.out | apply below_alloc | apply pw_below_drewN | apply below_drew1) | exact HB.out)) hb); clear HB; have HB := n0_; clear n0_; (try clear hb); (try clear hb2); (try clear hk); (try clear hi)) | ((with_reducible refine gate_callee (f := 13) rfl ?_); refine goesL_ (some 60) rfl rfl Try.func13 (by kernel_rfl) rfl #[.int .i64 a0, .int .i64 a1, .int .i64 (wrap64 (a2 + a3)), .int .i64 a4] rfl (by (try simp only [List.map_toArray, List.map_cons, List.map_nil]); first | done | rfl | (simp only [List.length_drop, List.length_take]; rfl)) ?_; (with_reducible refine (pat_Count.calls kj6 a0 a1 (wrap64 (a2 + a3)) a4 t155 _ A19.out).mono ?_); rintro e w39 ⟨rfl, hb⟩; refine ⟨_, rfl, ?_⟩; have n0_ := Aside0.mk (below_step (by repeat (first | (with_reducible first | exact HB.out | apply below_alloc | apply pw_below_drewN | apply below_drew1) | exact HB.out)) hb); clear HB; have HB := n0_; clear n0_; (try clear hb); (try clear hb2); (try clear hk); (try clear hi)) | ((with_reducible refine gate_callee (f := 13) rfl ?_); refine goesL_ (some 67) rfl rfl Try.func13 (by kernel_rfl) rfl #[.int .i64 a0, .int .i64 a1, .int .i64 a2, .int .i64 (wrap64 (a3 + a4))] rfl (by (try simp only [List.map_toArray, List.map_cons, List.map_nil]); first | done | rfl | (simp only [List.length_drop, List.length_take]; rfl)) ?_; (with_reducible refine (pat_Count.calls kj6 a0 a1 a2 (wrap64 (a3 + a4)) t156 _ A20.out).mono ?_); rintro e w40 ⟨rfl, hb⟩; refine ⟨_, rfl, ?_⟩; have n0_ := Aside0.mk (below_step (by repeat (first | (with_reducible first | exact HB.out | apply below_alloc | apply pw_below_drewN | apply below_drew1) | exact HB.out)) hb); clear HB; have HB := n0_; clear n0_; (try clear hb); (try clear hb2); (try clear hk); (try clear hi)) | (go_at_call 14; (with_reducible refine (pat_Most.calls a0 a1 (wrap64 (a3 + a4)) t157 _ A24.out).mono ?_); rintro e w41 ⟨rfl, hb⟩; have n0_ := Aside0.mk (below_step (by repeat (first | (with_reducible first | exact HB.out | apply below_alloc | apply pw_below_drewN | apply below_drew1) | exact HB.out)) hb); clear HB; have HB := n0_; clear n0_; (try clear hb); (try clear hb2); (try clear hk); (try clear hi)) | (go_at_call 14; (with_reducible refine (pat_Most.calls a0 a1 a3 t158 _ A25.out).mono ?_); rintro e w42 ⟨rfl, hb⟩; have n0_ := Aside0.mk (below_step (by repeat (first | (with_reducible first | exact HB.out | apply below_alloc | apply pw_below_drewN | apply below_drew1) | exact HB.out)) hb); clear HB; have HB := n0_; clear n0_; (try clear hb); (try clear hb2); (try clear hk); (try clear hi)) | (go_at_call 14; (with_reducible refine (pat_Most.calls a0 a1 a4 t159 _ A26.out).mono ?_); rintro e w43 ⟨rfl, hb⟩; have n0_ := Aside0.mk (below_step (by repeat (first | (with_reducible first | exact HB.out | apply below_alloc | apply pw_below_drewN | apply below_drew1) | exact HB.out)) hb); clear HB; have HB := n0_; clear n0_; (try clear hb); (try clear hb2); (try clear hk); (try clear hi)))
                go_ret
                exact ⟨by first | rfl | (simp [errW_none, errW_some] <;> rfl) | (simp [*, errW_none, errW_some] <;> rfl), by repeat (first | (with_reducible first | exact HB.out | apply below_alloc | apply pw_below_drewN | apply below_drew1) | exact HB.out)⟩
            · rw [if_neg c23] at H
              have c23b0 : decide (0 ≤ t155) = false := decide_eq_false c23
              clear c23
              obtain rfl := Option.some.inj H
              go_wp2_with (first | ((with_reducible refine gate_callee (f := 13) rfl ?_); refine goesL_ (some 53) rfl rfl Try.func13 (by kernel_rfl) rfl #[.int .i64 a0, .int .i64 a1, .int .i64 a2, .int .i64 a3] rfl (by (try simp only [List.map_toArray, List.map_cons, List.map_nil]); first | done | rfl | (simp only [List.length_drop, List.length_take]; rfl)) ?_; (with_reducible refine (pat_Count.calls kj6 a0 a1 a2 a3 t154 _ A18.out).mono ?_); rintro e w44 ⟨rfl, hb⟩; refine ⟨_, rfl, ?_⟩; have n0_ := Aside0.mk (below_step (by repeat (first | (with_reducible first | exact HB.out | apply below_alloc | apply pw_below_drewN | apply below_drew1) | exact HB.out)) hb); clear HB; have HB := n0_; clear n0_; (try clear hb); (try clear hb2); (try clear hk); (try clear hi)) | ((with_reducible refine gate_callee (f := 13) rfl ?_); refine goesL_ (some 60) rfl rfl Try.func13 (by kernel_rfl) rfl #[.int .i64 a0, .int .i64 a1, .int .i64 (wrap64 (a2 + a3)), .int .i64 a4] rfl (by (try simp only [List.map_toArray, List.map_cons, List.map_nil]); first | done | rfl | (simp only [List.length_drop, List.length_take]; rfl)) ?_; (with_reducible refine (pat_Count.calls kj6 a0 a1 (wrap64 (a2 + a3)) a4 t155 _ A19.out).mono ?_); rintro e w45 ⟨rfl, hb⟩; refine ⟨_, rfl, ?_⟩; have n0_ := Aside0.mk (below_step (by repeat (first | (with_reducible first | exact HB.out | apply below_alloc | apply pw_below_drewN | apply below_drew1) | exact HB.out)) hb); clear HB; have HB := n0_; clear n0_; (try clear hb); (try clear hb2); (try clear hk); (try clear hi)) | ((with_reducible refine gate_callee (f := 13) rfl ?_); refine goesL_ (some 67) rfl rfl Try.func13 (by kernel_rfl) rfl #[.int .i64 a0, .int .i64 a1, .int .i64 a2, .int .i64 (wrap64 (a3 + a4))] rfl (by (try simp only [List.map_toArray, List.map_cons, List.map_nil]); first | done | rfl | (simp only [List.length_drop, List.length_take]; rfl)) ?_; (with_reducible refine (pat_Count.calls kj6 a0 a1 a2 (wrap64 (a3 + a4)) t156 _ A20.out).mono ?_); rintro e w46 ⟨rfl, hb⟩; refine ⟨_, rfl, ?_⟩; have n0_ := Aside0.mk (below_step (by repeat (first | (with_reducible first | exact HB.out | apply below_alloc | apply pw_below_drewN | apply below_drew1) | exact HB.out)) hb); clear HB; have HB := n0_; clear n0_; (try clear hb); (try clear hb2); (try clear hk); (try clear hi)))
              go_ret
              exact ⟨by first | rfl | (simp [errW_none, errW_some] <;> rfl) | (simp [*, errW_none, errW_some] <;> rfl), by repeat (first | (with_reducible first | exact HB.out | apply below_alloc | apply pw_below_drewN | apply below_drew1) | exact HB.out)⟩
          · rw [if_neg c22] at H
            have c22b0 : decide (0 ≤ t154) = false := decide_eq_false c22
            clear c22
            obtain rfl := Option.some.inj H
            go_wp2_with (first | ((with_reducible refine gate_callee (f := 13) rfl ?_); refine goesL_ (some 53) rfl rfl Try.func13 (by kernel_rfl) rfl #[.int .i64 a0, .int .i64 a1, .int .i64 a2, .int .i64 a3] rfl (by (try simp only [List.map_toArray, List.map_cons, List.map_nil]); first | done | rfl | (simp only [List.length_drop, List.length_take]; rfl)) ?_; (with_reducible refine (pat_Count.calls kj6 a0 a1 a2 a3 t154 _ A18.out).mono ?_); rintro e w47 ⟨rfl, hb⟩; refine ⟨_, rfl, ?_⟩; have n0_ := Aside0.mk (below_step (by repeat (first | (with_reducible first | exact HB.out | apply below_alloc | apply pw_below_drewN | apply below_drew1) | exact HB.out)) hb); clear HB; have HB := n0_; clear n0_; (try clear hb); (try clear hb2); (try clear hk); (try clear hi)) | ((with_reducible refine gate_callee (f := 13) rfl ?_); refine goesL_ (some 60) rfl rfl Try.func13 (by kernel_rfl) rfl #[.int .i64 a0, .int .i64 a1, .int .i64 (wrap64 (a2 + a3)), .int .i64 a4] rfl (by (try simp only [List.map_toArray, List.map_cons, List.map_nil]); first | done | rfl | (simp only [List.length_drop, List.length_take]; rfl)) ?_; (with_reducible refine (pat_Count.calls kj6 a0 a1 (wrap64 (a2 + a3)) a4 t155 _ A19.out).mono ?_); rintro e w48 ⟨rfl, hb⟩; refine ⟨_, rfl, ?_⟩; have n0_ := Aside0.mk (below_step (by repeat (first | (with_reducible first | exact HB.out | apply below_alloc | apply pw_below_drewN | apply below_drew1) | exact HB.out)) hb); clear HB; have HB := n0_; clear n0_; (try clear hb); (try clear hb2); (try clear hk); (try clear hi)) | ((with_reducible refine gate_callee (f := 13) rfl ?_); refine goesL_ (some 67) rfl rfl Try.func13 (by kernel_rfl) rfl #[.int .i64 a0, .int .i64 a1, .int .i64 a2, .int .i64 (wrap64 (a3 + a4))] rfl (by (try simp only [List.map_toArray, List.map_cons, List.map_nil]); first | done | rfl | (simp only [List.length_drop, List.length_take]; rfl)) ?_; (with_reducible refine (pat_Count.calls kj6 a0 a1 a2 (wrap64 (a3 + a4)) t156 _ A20.out).mono ?_); rintro e w49 ⟨rfl, hb⟩; refine ⟨_, rfl, ?_⟩; have n0_ := Aside0.mk (below_step (by repeat (first | (with_reducible first | exact HB.out | apply below_alloc | apply pw_below_drewN | apply below_drew1) | exact HB.out)) hb); clear HB; have HB := n0_; clear n0_; (try clear hb); (try clear hb2); (try clear hk); (try clear hi)))
            go_ret
            exact ⟨by first | rfl | (simp [errW_none, errW_some] <;> rfl) | (simp [*, errW_none, errW_some] <;> rfl), by repeat (first | (with_reducible first | exact HB.out | apply below_alloc | apply pw_below_drewN | apply below_drew1) | exact HB.out)⟩
        · rw [if_neg c21] at H
          have c21b0 : (t156 == (wrap64 (t154 + t155))) = false := beq_eq_false_iff_ne.mpr c21
          have c21b1 : (t156 != (wrap64 (t154 + t155))) = true := bne_iff_ne.mpr c21
          obtain rfl := Option.some.inj H
          go_wp2_with (first | ((with_reducible refine gate_callee (f := 13) rfl ?_); refine goesL_ (some 53) rfl rfl Try.func13 (by kernel_rfl) rfl #[.int .i64 a0, .int .i64 a1, .int .i64 a2, .int .i64 a3] rfl (by (try simp only [List.map_toArray, List.map_cons, List.map_nil]); first | done | rfl | (simp only [List.length_drop, List.length_take]; rfl)) ?_; (with_reducible refine (pat_Count.calls kj6 a0 a1 a2 a3 t154 _ A18.out).mono ?_); rintro e w50 ⟨rfl, hb⟩; refine ⟨_, rfl, ?_⟩; have n0_ := Aside0.mk (below_step (by repeat (first | (with_reducible first | exact HB.out | apply below_alloc | apply pw_below_drewN | apply below_drew1) | exact HB.out)) hb); clear HB; have HB := n0_; clear n0_; (try clear hb); (try clear hb2); (try clear hk); (try clear hi)) | ((with_reducible refine gate_callee (f := 13) rfl ?_); refine goesL_ (some 60) rfl rfl Try.func13 (by kernel_rfl) rfl #[.int .i64 a0, .int .i64 a1, .int .i64 (wrap64 (a2 + a3)), .int .i64 a4] rfl (by (try simp only [List.map_toArray, List.map_cons, List.map_nil]); first | done | rfl | (simp only [List.length_drop, List.length_take]; rfl)) ?_; (with_reducible refine (pat_Count.calls kj6 a0 a1 (wrap64 (a2 + a3)) a4 t155 _ A19.out).mono ?_); rintro e w51 ⟨rfl, hb⟩; refine ⟨_, rfl, ?_⟩; have n0_ := Aside0.mk (below_step (by repeat (first | (with_reducible first | exact HB.out | apply below_alloc | apply pw_below_drewN | apply below_drew1) | exact HB.out)) hb); clear HB; have HB := n0_; clear n0_; (try clear hb); (try clear hb2); (try clear hk); (try clear hi)) | ((with_reducible refine gate_callee (f := 13) rfl ?_); refine goesL_ (some 67) rfl rfl Try.func13 (by kernel_rfl) rfl #[.int .i64 a0, .int .i64 a1, .int .i64 a2, .int .i64 (wrap64 (a3 + a4))] rfl (by (try simp only [List.map_toArray, List.map_cons, List.map_nil]); first | done | rfl | (simp only [List.length_drop, List.length_take]; rfl)) ?_; (with_reducible refine (pat_Count.calls kj6 a0 a1 a2 (wrap64 (a3 + a4)) t156 _ A20.out).mono ?_); rintro e w52 ⟨rfl, hb⟩; refine ⟨_, rfl, ?_⟩; have n0_ := Aside0.mk (below_step (by repeat (first | (with_reducible first | exact HB.out | apply below_alloc | apply pw_below_drewN | apply below_drew1) | exact HB.out)) hb); clear HB; have HB := n0_; clear n0_; (try clear hb); (try clear hb2); (try clear hk); (try clear hi)))
          go_ret
          exact ⟨by first | rfl | (simp [errW_none, errW_some] <;> rfl) | (simp [*, errW_none, errW_some] <;> rfl), by repeat (first | (with_reducible first | exact HB.out | apply below_alloc | apply pw_below_drewN | apply below_drew1) | exact HB.out)⟩

/-- THE ONE PURE STATEMENT of fuseelaw02_PatSum: yours. -/
def fuseelaw02_PatSum.Pure : Prop := ∀ (a0 : Int) (a1 : Int) (a2 : Int) (a3 : Int) (a4 : Int), (Lit.int .i64 a0).wf = true → (Lit.int .i64 a1).wf = true → (Lit.int .i64 a2).wf = true → (Lit.int .i64 a3).wf = true → (Lit.int .i64 a4).wf = true → ∃ k, fuseelaw02_PatSum.f k a0 a1 a2 a3 a4 = some true
theorem fuseelaw02_PatSum.walk (P : fuseelaw02_PatSum.Pure) (a0 : Int) (a1 : Int) (a2 : Int) (a3 : Int) (a4 : Int) (w : World) (w0 : (Lit.int .i64 a0).wf = true) (w1 : (Lit.int .i64 a1).wf = true) (w2 : (Lit.int .i64 a2).wf = true) (w3 : (Lit.int .i64 a3).wf = true) (w4 : (Lit.int .i64 a4).wf = true) :
    Calls Try.prog 7 #[.int .i64 a0, .int .i64 a1, .int .i64 a2, .int .i64 a3, .int .i64 a4] w fun e w' => e = .returned (.bool true) ∧ Below w.heap.size w w' := by
  obtain ⟨k, h⟩ := P a0 a1 a2 a3 a4 w0 w1 w2 w3 w4
  refine (fuseelaw02_PatSum.calls k a0 a1 a2 a3 a4 true w h).mono ?_
  rintro e w' ⟨rfl, hd⟩
  exact ⟨rfl, hd⟩

end Go.Proofs.Ytndeaifggijlaaa.PA
