-- Written for this claim by a program (the kit's print over a changed input, then joined with texts by hand).
import Derived.Test.YtndeaifggijlaaaPAx0
import Derived.Test.YtndeaifggijlaaaPAx1
import Derived.Test.YtndeaifggijlaaaPAx8
import Derived.Test.YtndeaifggijlaaaPAx9
namespace Go.Proofs.Ytndeaifggijlaaa.PA
open Go.RowKit Go.Proofs.YtndeaifggijlaaaW.PrintWords Go.Proofs.YtndeaifggijlaaaW.PrintLast Go.Proofs.YtndeaifggijlaaaW.PrintMore
attribute [local go_sem] max2_int min2_int max_two min_two max_three min_three max_four min_four   -- for this text's walks alone
set_option linter.unusedVariables false
set_option linter.unusedSimpArgs false

/-! ### fuseelaw02_PatSpread: function 5 -/
def fuseelaw02_PatSpread.j0 : Nat → Int → Int → Int → Int → Int → Bool → Bool → Option (Bool)
  | 0, _, _, _, _, _, _, _ => none
  | k + 1, x0, x1, x2, x3, x4, x11, x46 => if x46 = true then (some x11) else ((pat_Count.f k x0 x1 x2 x4).bind fun t138 => ((pat_Count.f k x0 x1 x3 x4).bind fun t139 => (if (wrap64 (t138 - t139)) ≤ 1 then (some (decide ((wrap64 (t139 - t138)) ≤ 1))) else (some false))))
def fuseelaw02_PatSpread.f (k : Nat) (a0 : Int) (a1 : Int) (a2 : Int) (a3 : Int) (a4 : Int) : Option (Bool) := (fuseelaw02_awake.f k).bind fun t136 => (if t136 = true then ((pat_May.f a0 a1).bind fun t137 => (if t137 = true then (if a2 < 0 then (fuseelaw02_PatSpread.j0 k a0 a1 a2 a3 a4 t136 true) else (if a3 < 0 then (fuseelaw02_PatSpread.j0 k a0 a1 a2 a3 a4 t136 true) else (if a4 < 0 then (fuseelaw02_PatSpread.j0 k a0 a1 a2 a3 a4 t136 true) else (if a2 > 1099511627776 then (fuseelaw02_PatSpread.j0 k a0 a1 a2 a3 a4 t136 true) else (if a3 > 1099511627776 then (fuseelaw02_PatSpread.j0 k a0 a1 a2 a3 a4 t136 true) else (fuseelaw02_PatSpread.j0 k a0 a1 a2 a3 a4 t136 (decide (a4 > 1099511627776)))))))) else (fuseelaw02_PatSpread.j0 k a0 a1 a2 a3 a4 t136 true))) else (fuseelaw02_PatSpread.j0 k a0 a1 a2 a3 a4 t136 true))
theorem fuseelaw02_PatSpread.mono_l : ∀ k, (∀ y0 y1 y2 y3 y4 y5 y6, LeO (fuseelaw02_PatSpread.j0 k y0 y1 y2 y3 y4 y5 y6) (fuseelaw02_PatSpread.j0 (k + 1) y0 y1 y2 y3 y4 y5 y6))
  | 0 => fun _ _ _ _ _ _ _ r h => by simp [fuseelaw02_PatSpread.j0] at h
  | k + 1 => by
    have ih0 := fuseelaw02_PatSpread.mono_l k
    · intro y0 y1 y2 y3 y4 y5 y6
      unfold fuseelaw02_PatSpread.j0
      repeat' first
      | (with_reducible exact ih0 _ _ _ _ _ _ _)
      | (with_reducible exact fuseelaw02_awake.mono _)
      | (with_reducible exact pat_Count.mono _ _ _ _ _)
      | (with_reducible exact LeO.refl _)
      | (with_reducible exact LeO.none _)
      | (with_reducible refine LeO.ite ?_ ?_)
      | (with_reducible refine LeO.bind ?_ (fun _ => ?_))
      | exact ih0 _ _ _ _ _ _ _
      | exact fuseelaw02_awake.mono _
      | exact pat_Count.mono _ _ _ _ _
      | exact LeO.none _
      | refine LeO.ite ?_ ?_
      | refine LeO.bind ?_ (fun _ => ?_)
theorem fuseelaw02_PatSpread.mono : ∀ a0 a1 a2 a3 a4 k, LeO (fuseelaw02_PatSpread.f k a0 a1 a2 a3 a4) (fuseelaw02_PatSpread.f (k + 1) a0 a1 a2 a3 a4) := by
  intro a0 a1 a2 a3 a4 k
  have ih0 := fuseelaw02_PatSpread.mono_l k
  unfold fuseelaw02_PatSpread.f
  repeat' first
      | (with_reducible exact ih0 _ _ _ _ _ _ _)
      | (with_reducible exact fuseelaw02_awake.mono _)
      | (with_reducible exact pat_Count.mono _ _ _ _ _)
      | (with_reducible exact LeO.refl _)
      | (with_reducible exact LeO.none _)
      | (with_reducible refine LeO.ite ?_ ?_)
      | (with_reducible refine LeO.bind ?_ (fun _ => ?_))
      | exact ih0 _ _ _ _ _ _ _
      | exact fuseelaw02_awake.mono _
      | exact pat_Count.mono _ _ _ _ _
      | exact LeO.none _
      | refine LeO.ite ?_ ?_
      | refine LeO.bind ?_ (fun _ => ?_)
set_option maxHeartbeats 8000000 in
set_option maxRecDepth 100000 in
theorem fuseelaw02_PatSpread.calls (k : Nat) (a0 : Int) (a1 : Int) (a2 : Int) (a3 : Int) (a4 : Int) (r : Bool) (w : World) (h : fuseelaw02_PatSpread.f k a0 a1 a2 a3 a4 = some r) :
    Calls Try.prog 5 #[.int .i64 a0, .int .i64 a1, .int .i64 a2, .int .i64 a3, .int .i64 a4] w fun e w' => e = .returned (.bool r) ∧ Below w.heap.size w w' := by
  have HB := Aside0.mk (Below.refl w.heap.size w)
  have H : ((fuseelaw02_awake.f k).bind fun t136 => (if t136 = true then ((pat_May.f a0 a1).bind fun t137 => (if t137 = true then (if a2 < 0 then (fuseelaw02_PatSpread.j0 k a0 a1 a2 a3 a4 t136 true) else (if a3 < 0 then (fuseelaw02_PatSpread.j0 k a0 a1 a2 a3 a4 t136 true) else (if a4 < 0 then (fuseelaw02_PatSpread.j0 k a0 a1 a2 a3 a4 t136 true) else (if a2 > 1099511627776 then (fuseelaw02_PatSpread.j0 k a0 a1 a2 a3 a4 t136 true) else (if a3 > 1099511627776 then (fuseelaw02_PatSpread.j0 k a0 a1 a2 a3 a4 t136 true) else (fuseelaw02_PatSpread.j0 k a0 a1 a2 a3 a4 t136 (decide (a4 > 1099511627776)))))))) else (fuseelaw02_PatSpread.j0 k a0 a1 a2 a3 a4 t136 true))) else (fuseelaw02_PatSpread.j0 k a0 a1 a2 a3 a4 t136 true))) = some r := h
  clear h
  replace H := Option.bind_eq_some_iff.mp H
  obtain ⟨t136, A60, H⟩ := H
  replace H : (if t136 = true then ((pat_May.f a0 a1).bind fun t137 => (if t137 = true then (if a2 < 0 then (fuseelaw02_PatSpread.j0 k a0 a1 a2 a3 a4 t136 true) else (if a3 < 0 then (fuseelaw02_PatSpread.j0 k a0 a1 a2 a3 a4 t136 true) else (if a4 < 0 then (fuseelaw02_PatSpread.j0 k a0 a1 a2 a3 a4 t136 true) else (if a2 > 1099511627776 then (fuseelaw02_PatSpread.j0 k a0 a1 a2 a3 a4 t136 true) else (if a3 > 1099511627776 then (fuseelaw02_PatSpread.j0 k a0 a1 a2 a3 a4 t136 true) else (fuseelaw02_PatSpread.j0 k a0 a1 a2 a3 a4 t136 (decide (a4 > 1099511627776)))))))) else (fuseelaw02_PatSpread.j0 k a0 a1 a2 a3 a4 t136 true))) else (fuseelaw02_PatSpread.j0 k a0 a1 a2 a3 a4 t136 true)) = some r := H
  have A6 := Aside0.mk A60
  clear A60
  have HC7 := Aside0.mk H
  clear H
  go_enter Try.func5, Try.ntmps5
  go_upto_region 2 with (first | ((with_reducible refine gate_callee (f := 10) rfl ?_); refine goesL_ (some 14) rfl rfl Try.func10 (by kernel_rfl) rfl #[] rfl (by (try simp only [List.map_toArray, List.map_cons, List.map_nil]); first | done | rfl | (simp only [List.length_drop, List.length_take]; rfl)) ?_; (with_reducible refine (fuseelaw02_awake.calls k  t136 _ A6.out).mono ?_); rintro e w8 ⟨rfl, hb⟩; refine ⟨_, rfl, ?_⟩; have n0_ := Aside0.mk (below_step (by repeat (first | (with_reducible first | exact HB.out | apply below_alloc | apply pw_below_drewN | apply below_drew1) | exact HB.out)) hb); clear HB; have HB := n0_; clear n0_; (try clear hb); (try clear hb2); (try clear hk); (try clear hi)))
  (try simp only [Act.put, List.setIfInBounds_toArray, List.set_cons_zero, List.set_cons_succ])
  go_cut [46] (fun v46 wc => ∃ (kq : Nat) (x46_6 : Bool), v46 = .bool x46_6 ∧ Aside0 (fuseelaw02_PatSpread.j0 kq a0 a1 a2 a3 a4 t136 x46_6 = some r) ∧ Aside0 (kq ≤ k) ∧ Aside0 (Below w.heap.size w wc))
  case first =>
    have H := HC7.out
    clear HC7
    by_cases c9 : t136 = true
    · subst c9
      have H1 : ((pat_May.f a0 a1).bind fun t137 => (if t137 = true then (if a2 < 0 then (fuseelaw02_PatSpread.j0 k a0 a1 a2 a3 a4 true true) else (if a3 < 0 then (fuseelaw02_PatSpread.j0 k a0 a1 a2 a3 a4 true true) else (if a4 < 0 then (fuseelaw02_PatSpread.j0 k a0 a1 a2 a3 a4 true true) else (if a2 > 1099511627776 then (fuseelaw02_PatSpread.j0 k a0 a1 a2 a3 a4 true true) else (if a3 > 1099511627776 then (fuseelaw02_PatSpread.j0 k a0 a1 a2 a3 a4 true true) else (fuseelaw02_PatSpread.j0 k a0 a1 a2 a3 a4 true (decide (a4 > 1099511627776)))))))) else (fuseelaw02_PatSpread.j0 k a0 a1 a2 a3 a4 true true))) = some r := by rw [if_pos rfl] at H; exact H
      clear H
      have H := H1
      clear H1
      replace H := Option.bind_eq_some_iff.mp H
      obtain ⟨t137, A100, H⟩ := H
      replace H : (if t137 = true then (if a2 < 0 then (fuseelaw02_PatSpread.j0 k a0 a1 a2 a3 a4 true true) else (if a3 < 0 then (fuseelaw02_PatSpread.j0 k a0 a1 a2 a3 a4 true true) else (if a4 < 0 then (fuseelaw02_PatSpread.j0 k a0 a1 a2 a3 a4 true true) else (if a2 > 1099511627776 then (fuseelaw02_PatSpread.j0 k a0 a1 a2 a3 a4 true true) else (if a3 > 1099511627776 then (fuseelaw02_PatSpread.j0 k a0 a1 a2 a3 a4 true true) else (fuseelaw02_PatSpread.j0 k a0 a1 a2 a3 a4 true (decide (a4 > 1099511627776)))))))) else (fuseelaw02_PatSpread.j0 k a0 a1 a2 a3 a4 true true)) = some r := H
      have A10 := Aside0.mk A100
      clear A100
      by_cases c11 : t137 = true
      · subst c11
        have H1 : (if a2 < 0 then (fuseelaw02_PatSpread.j0 k a0 a1 a2 a3 a4 true true) else (if a3 < 0 then (fuseelaw02_PatSpread.j0 k a0 a1 a2 a3 a4 true true) else (if a4 < 0 then (fuseelaw02_PatSpread.j0 k a0 a1 a2 a3 a4 true true) else (if a2 > 1099511627776 then (fuseelaw02_PatSpread.j0 k a0 a1 a2 a3 a4 true true) else (if a3 > 1099511627776 then (fuseelaw02_PatSpread.j0 k a0 a1 a2 a3 a4 true true) else (fuseelaw02_PatSpread.j0 k a0 a1 a2 a3 a4 true (decide (a4 > 1099511627776)))))))) = some r := by rw [if_pos rfl] at H; exact H
        clear H
        have H := H1
        clear H1
        by_cases c12 : a2 < 0
        · rw [if_pos c12] at H
          have c12b0 : decide (a2 < 0) = true := decide_eq_true c12
          clear c12
          (first | rw [c12b0] | (simp only [i64_w, i32_w]; rw [c12b0]) | skip)
          have H' := Aside0.mk H
          clear H
          go_wp2_with (first | (go_at_call 11; (with_reducible refine (pat_May.calls a0 a1 true _ A10.out).mono ?_); rintro e w' ⟨rfl, ⟨nd, rfl⟩⟩))
          go_meet
          case rel => exact ⟨_, (true), (by first | rfl | (simp; done) | (simp [*]; done)), H', ⟨by first | omega | exact Nat.le_refl _⟩, ⟨by repeat (first | (with_reducible first | exact HB.out | apply below_alloc | apply pw_below_drewN | apply below_drew1) | exact HB.out)⟩⟩
        · rw [if_neg c12] at H
          have c12b0 : decide (a2 < 0) = false := decide_eq_false c12
          clear c12
          (first | rw [c12b0] | (simp only [i64_w, i32_w]; rw [c12b0]) | skip)
          by_cases c13 : a3 < 0
          · rw [if_pos c13] at H
            have c13b0 : decide (a3 < 0) = true := decide_eq_true c13
            clear c13
            have H' := Aside0.mk H
            clear H
            go_wp2_with (first | (go_at_call 11; (with_reducible refine (pat_May.calls a0 a1 true _ A10.out).mono ?_); rintro e w' ⟨rfl, ⟨nd, rfl⟩⟩))
            go_meet
            case rel => exact ⟨_, (true), (by first | rfl | (simp; done) | (simp [*]; done)), H', ⟨by first | omega | exact Nat.le_refl _⟩, ⟨by repeat (first | (with_reducible first | exact HB.out | apply below_alloc | apply pw_below_drewN | apply below_drew1) | exact HB.out)⟩⟩
          · rw [if_neg c13] at H
            have c13b0 : decide (a3 < 0) = false := decide_eq_false c13
            clear c13
            by_cases c14 : a4 < 0
            · rw [if_pos c14] at H
              have c14b0 : decide (a4 < 0) = true := decide_eq_true c14
              clear c14
              have H' := Aside0.mk H
              clear H
              go_wp2_with (first | (go_at_call 11; (with_reducible refine (pat_May.calls a0 a1 true _ A10.out).mono ?_); rintro e w' ⟨rfl, ⟨nd, rfl⟩⟩))
              go_meet
              case rel => exact ⟨_, (true), (by first | rfl | (simp; done) | (simp [*]; done)), H', ⟨by first | omega | exact Nat.le_refl _⟩, ⟨by repeat (first | (with_reducible first | exact HB.out | apply below_alloc | apply pw_below_drewN | apply below_drew1) | exact HB.out)⟩⟩
            · rw [if_neg c14] at H
              have c14b0 : decide (a4 < 0) = false := decide_eq_false c14
              clear c14
              by_cases c15 : a2 > 1099511627776
              · rw [if_pos c15] at H
                have c15b0 : decide (1099511627776 < a2) = true := decide_eq_true c15
                clear c15
                have H' := Aside0.mk H
                clear H
                go_wp2_with (first | (go_at_call 11; (with_reducible refine (pat_May.calls a0 a1 true _ A10.out).mono ?_); rintro e w' ⟨rfl, ⟨nd, rfl⟩⟩))
                go_meet
                case rel => exact ⟨_, (true), (by first | rfl | (simp; done) | (simp [*]; done)), H', ⟨by first | omega | exact Nat.le_refl _⟩, ⟨by repeat (first | (with_reducible first | exact HB.out | apply below_alloc | apply pw_below_drewN | apply below_drew1) | exact HB.out)⟩⟩
              · rw [if_neg c15] at H
                have c15b0 : decide (1099511627776 < a2) = false := decide_eq_false c15
                clear c15
                by_cases c16 : a3 > 1099511627776
                · rw [if_pos c16] at H
                  have c16b0 : decide (1099511627776 < a3) = true := decide_eq_true c16
                  clear c16
                  have H' := Aside0.mk H
                  clear H
                  go_wp2_with (first | (go_at_call 11; (with_reducible refine (pat_May.calls a0 a1 true _ A10.out).mono ?_); rintro e w' ⟨rfl, ⟨nd, rfl⟩⟩))
                  go_meet
                  case rel => exact ⟨_, (true), (by first | rfl | (simp; done) | (simp [*]; done)), H', ⟨by first | omega | exact Nat.le_refl _⟩, ⟨by repeat (first | (with_reducible first | exact HB.out | apply below_alloc | apply pw_below_drewN | apply below_drew1) | exact HB.out)⟩⟩
                · rw [if_neg c16] at H
                  have c16b0 : decide (1099511627776 < a3) = false := decide_eq_false c16
                  clear c16
                  have H' := Aside0.mk H
                  clear H
                  go_wp2_with (first | (go_at_call 11; (with_reducible refine (pat_May.calls a0 a1 true _ A10.out).mono ?_); rintro e w' ⟨rfl, ⟨nd, rfl⟩⟩))
                  go_meet
                  case rel => exact ⟨_, (decide (a4 > 1099511627776)), (by first | rfl | (simp; done) | (simp [*]; done)), H', ⟨by first | omega | exact Nat.le_refl _⟩, ⟨by repeat (first | (with_reducible first | exact HB.out | apply below_alloc | apply pw_below_drewN | apply below_drew1) | exact HB.out)⟩⟩
      · replace c11 := Bool.eq_false_iff.mpr c11
        subst c11
        have H1 : (fuseelaw02_PatSpread.j0 k a0 a1 a2 a3 a4 true true) = some r := by rw [if_neg (show ¬ (false = true) by decide)] at H; exact H
        clear H
        have H := H1
        clear H1
        have H' := Aside0.mk H
        clear H
        go_wp2_with (first | (go_at_call 11; (with_reducible refine (pat_May.calls a0 a1 false _ A10.out).mono ?_); rintro e w' ⟨rfl, ⟨nd, rfl⟩⟩))
        go_meet
        case rel => exact ⟨_, (true), (by first | rfl | (simp; done) | (simp [*]; done)), H', ⟨by first | omega | exact Nat.le_refl _⟩, ⟨by repeat (first | (with_reducible first | exact HB.out | apply below_alloc | apply pw_below_drewN | apply below_drew1) | exact HB.out)⟩⟩
    · replace c9 := Bool.eq_false_iff.mpr c9
      subst c9
      have H1 : (fuseelaw02_PatSpread.j0 k a0 a1 a2 a3 a4 false true) = some r := by rw [if_neg (show ¬ (false = true) by decide)] at H; exact H
      clear H
      have H := H1
      clear H1
      have H' := Aside0.mk H
      clear H
      go_wp2
      go_meet
      case rel => exact ⟨_, (true), (by first | rfl | (simp; done) | (simp [*]; done)), H', ⟨by first | omega | exact Nat.le_refl _⟩, ⟨by repeat (first | (with_reducible first | exact HB.out | apply below_alloc | apply pw_below_drewN | apply below_drew1) | exact HB.out)⟩⟩
  case rest =>
    clear HC7
    try clear c1
    try clear p2
    try clear c5
    try clear c9
    try clear c10
    try clear c11
    try clear c12
    try clear c12b0
    try clear c13
    try clear c13b0
    try clear c14
    try clear c14b0
    try clear c15
    try clear c15b0
    try clear c16
    try clear c16b0
    obtain ⟨kq, x46_6, rfl, HA, HJ6, HB⟩ := hcut
    cases kq with
    | zero => exact absurd HA.out (by simp [fuseelaw02_PatSpread.j0])
    | succ kj6 =>
      have H := HA.out
      clear HA
      simp only [fuseelaw02_PatSpread.j0] at H
      by_cases c17 : x46_6 = true
      · subst c17
        have H1 : (some t136) = some r := by rw [if_pos rfl] at H; exact H
        clear H
        have H := H1
        clear H1
        obtain rfl := Option.some.inj H
        go_wp2
        go_ret
        exact ⟨by first | rfl | (simp [errW_none, errW_some] <;> rfl) | (simp [*, errW_none, errW_some] <;> rfl), by repeat (first | (with_reducible first | exact HB.out | apply below_alloc | apply pw_below_drewN | apply below_drew1) | exact HB.out)⟩
      · replace c17 := Bool.eq_false_iff.mpr c17
        subst c17
        have H1 : ((pat_Count.f kj6 a0 a1 a2 a4).bind fun t138 => ((pat_Count.f kj6 a0 a1 a3 a4).bind fun t139 => (if (wrap64 (t138 - t139)) ≤ 1 then (some (decide ((wrap64 (t139 - t138)) ≤ 1))) else (some false)))) = some r := by rw [if_neg (show ¬ (false = true) by decide)] at H; exact H
        clear H
        have H := H1
        clear H1
        replace H := Option.bind_eq_some_iff.mp H
        obtain ⟨t138, A180, H⟩ := H
        replace H : ((pat_Count.f kj6 a0 a1 a3 a4).bind fun t139 => (if (wrap64 (t138 - t139)) ≤ 1 then (some (decide ((wrap64 (t139 - t138)) ≤ 1))) else (some false))) = some r := H
        have A18 := Aside0.mk A180
        clear A180
        replace H := Option.bind_eq_some_iff.mp H
        obtain ⟨t139, A190, H⟩ := H
        replace H : (if (wrap64 (t138 - t139)) ≤ 1 then (some (decide ((wrap64 (t139 - t138)) ≤ 1))) else (some false)) = some r := H
        have A19 := Aside0.mk A190
        clear A190
        by_cases c20 : (wrap64 (t138 - t139)) ≤ 1
        · rw [if_pos c20] at H
          have c20b0 : decide ((wrap64 (t138 - t139)) ≤ 1) = true := decide_eq_true c20
          clear c20
          obtain rfl := Option.some.inj H
          go_wp2_with (first | ((with_reducible refine gate_callee (f := 13) rfl ?_); refine goesL_ (some 52) rfl rfl Try.func13 (by kernel_rfl) rfl #[.int .i64 a0, .int .i64 a1, .int .i64 a2, .int .i64 a4] rfl (by (try simp only [List.map_toArray, List.map_cons, List.map_nil]); first | done | rfl | (simp only [List.length_drop, List.length_take]; rfl)) ?_; (with_reducible refine (pat_Count.calls kj6 a0 a1 a2 a4 t138 _ A18.out).mono ?_); rintro e w21 ⟨rfl, hb⟩; refine ⟨_, rfl, ?_⟩; have n0_ := Aside0.mk (below_step (by repeat (first | (with_reducible first | exact HB.out | apply below_alloc | apply pw_below_drewN | apply below_drew1) | exact HB.out)) hb); clear HB; have HB := n0_; clear n0_; (try clear hb); (try clear hb2); (try clear hk); (try clear hi)) | ((with_reducible refine gate_callee (f := 13) rfl ?_); refine goesL_ (some 57) rfl rfl Try.func13 (by kernel_rfl) rfl #[.int .i64 a0, .int .i64 a1, .int .i64 a3, .int .i64 a4] rfl (by (try simp only [List.map_toArray, List.map_cons, List.map_nil]); first | done | rfl | (simp only [List.length_drop, List.length_take]; rfl)) ?_; (with_reducible refine (pat_Count.calls kj6 a0 a1 a3 a4 t139 _ A19.out).mono ?_); rintro e w22 ⟨rfl, hb⟩; refine ⟨_, rfl, ?_⟩; have n0_ := Aside0.mk (below_step (by repeat (first | (with_reducible first | exact HB.out | apply below_alloc | apply pw_below_drewN | apply below_drew1) | exact HB.out)) hb); clear HB; have HB := n0_; clear n0_; (try clear hb); (try clear hb2); (try clear hk); (try clear hi)))
          go_ret
          exact ⟨by first | rfl | (simp [errW_none, errW_some] <;> rfl) | (simp [*, errW_none, errW_some] <;> rfl), by repeat (first | (with_reducible first | exact HB.out | apply below_alloc | apply pw_below_drewN | apply below_drew1) | exact HB.out)⟩
        · rw [if_neg c20] at H
          have c20b0 : decide ((wrap64 (t138 - t139)) ≤ 1) = false := decide_eq_false c20
          clear c20
          obtain rfl := Option.some.inj H
          go_wp2_with (first | ((with_reducible refine gate_callee (f := 13) rfl ?_); refine goesL_ (some 52) rfl rfl Try.func13 (by kernel_rfl) rfl #[.int .i64 a0, .int .i64 a1, .int .i64 a2, .int .i64 a4] rfl (by (try simp only [List.map_toArray, List.map_cons, List.map_nil]); first | done | rfl | (simp only [List.length_drop, List.length_take]; rfl)) ?_; (with_reducible refine (pat_Count.calls kj6 a0 a1 a2 a4 t138 _ A18.out).mono ?_); rintro e w23 ⟨rfl, hb⟩; refine ⟨_, rfl, ?_⟩; have n0_ := Aside0.mk (below_step (by repeat (first | (with_reducible first | exact HB.out | apply below_alloc | apply pw_below_drewN | apply below_drew1) | exact HB.out)) hb); clear HB; have HB := n0_; clear n0_; (try clear hb); (try clear hb2); (try clear hk); (try clear hi)) | ((with_reducible refine gate_callee (f := 13) rfl ?_); refine goesL_ (some 57) rfl rfl Try.func13 (by kernel_rfl) rfl #[.int .i64 a0, .int .i64 a1, .int .i64 a3, .int .i64 a4] rfl (by (try simp only [List.map_toArray, List.map_cons, List.map_nil]); first | done | rfl | (simp only [List.length_drop, List.length_take]; rfl)) ?_; (with_reducible refine (pat_Count.calls kj6 a0 a1 a3 a4 t139 _ A19.out).mono ?_); rintro e w24 ⟨rfl, hb⟩; refine ⟨_, rfl, ?_⟩; have n0_ := Aside0.mk (below_step (by repeat (first | (with_reducible first | exact HB.out | apply below_alloc | apply pw_below_drewN | apply below_drew1) | exact HB.out)) hb); clear HB; have HB := n0_; clear n0_; (try clear hb); (try clear hb2); (try clear hk); (try clear hi)))
          go_ret
          exact ⟨by first | rfl | (simp [errW_none, errW_some] <;> rfl) | (simp [*, errW_none, errW_some] <;> rfl), by repeat (first | (with_reducible first | exact HB.out | apply below_alloc | apply pw_below_drewN | apply below_drew1) | exact HB.out)⟩

/-- THE ONE PURE STATEMENT of fuseelaw02_PatSpread: yours. -/
def fuseelaw02_PatSpread.Pure : Prop := ∀ (a0 : Int) (a1 : Int) (a2 : Int) (a3 : Int) (a4 : Int), (Lit.int .i64 a0).wf = true → (Lit.int .i64 a1).wf = true → (Lit.int .i64 a2).wf = true → (Lit.int .i64 a3).wf = true → (Lit.int .i64 a4).wf = true → ∃ k, fuseelaw02_PatSpread.f k a0 a1 a2 a3 a4 = some true
theorem fuseelaw02_PatSpread.walk (P : fuseelaw02_PatSpread.Pure) (a0 : Int) (a1 : Int) (a2 : Int) (a3 : Int) (a4 : Int) (w : World) (w0 : (Lit.int .i64 a0).wf = true) (w1 : (Lit.int .i64 a1).wf = true) (w2 : (Lit.int .i64 a2).wf = true) (w3 : (Lit.int .i64 a3).wf = true) (w4 : (Lit.int .i64 a4).wf = true) :
    Calls Try.prog 5 #[.int .i64 a0, .int .i64 a1, .int .i64 a2, .int .i64 a3, .int .i64 a4] w fun e w' => e = .returned (.bool true) ∧ Below w.heap.size w w' := by
  obtain ⟨k, h⟩ := P a0 a1 a2 a3 a4 w0 w1 w2 w3 w4
  refine (fuseelaw02_PatSpread.calls k a0 a1 a2 a3 a4 true w h).mono ?_
  rintro e w' ⟨rfl, hd⟩
  exact ⟨rfl, hd⟩

end Go.Proofs.Ytndeaifggijlaaa.PA
