-- Written for this claim by a program (the kit's print over a changed input, then joined with texts by hand).
import Derived.Test.YtmknoiiflciclaaPAx0
import Derived.Test.YtmknoiiflciclaaPAx5
import Derived.Test.YtmknoiiflciclaaPAx7
namespace Go.Proofs.Ytmknoiiflciclaa.PA
open Go.RowKit Go.Proofs.YtmknoiiflciclaaW.PrintWords Go.Proofs.YtmknoiiflciclaaW.PrintLast Go.Proofs.YtmknoiiflciclaaW.PrintMore
attribute [local go_sem] max2_int min2_int max_two min_two max_three min_three max_four min_four   -- for this text's walks alone
set_option linter.unusedVariables false
set_option linter.unusedSimpArgs false

/-! ### dover_Fits: function 14 -/
def dover_Fits.l0 : Nat → Int → List (S29) → Int → Int → Option (Bool)
  | 0, _, _, _, _ => none
  | k + 1, x1, x8, x9, x10 => if x10 < x9 then (if 0 ≤ x10 then (if x10 < (x8.length : Int) then ((dover_left.f ((rd_T29 x8 x10).f0) ((rd_T29 x8 x10).f1) ((rd_T29 x8 x10).f2) ((rd_T29 x8 x10).f3) ((rd_T29 x8 x10).f4)).bind fun t127 => (if (wrap64 (x1 + t127)) > ((rd_T29 x8 x10).f1) then (some false) else (dover_Fits.l0 k (wrap64 (x1 + t127)) x8 x9 (wrap64 (x10 + 1))))) else (none)) else (none)) else (some true)
def dover_Fits.f (k : Nat) (l0 : List (S29)) (a1 : Int) : Option (Bool) := (dover_sorted.f l0).bind fun t122 => (dover_Fits.l0 k a1 t122 (t122.length : Int) 0)
theorem dover_Fits.mono_l : ∀ k, (∀ y0 y1 y2 y3, LeO (dover_Fits.l0 k y0 y1 y2 y3) (dover_Fits.l0 (k + 1) y0 y1 y2 y3))
  | 0 => fun _ _ _ _ r h => by simp [dover_Fits.l0] at h
  | k + 1 => by
    have ih0 := dover_Fits.mono_l k
    · intro y0 y1 y2 y3
      unfold dover_Fits.l0
      repeat' first
      | (with_reducible exact ih0 _ _ _ _)
      | (with_reducible exact LeO.refl _)
      | (with_reducible exact LeO.none _)
      | (with_reducible refine LeO.ite ?_ ?_)
      | (with_reducible refine LeO.bind ?_ (fun _ => ?_))
      | exact ih0 _ _ _ _
      | exact LeO.none _
      | refine LeO.ite ?_ ?_
      | refine LeO.bind ?_ (fun _ => ?_)
theorem dover_Fits.mono : ∀ a0 a1 k, LeO (dover_Fits.f k a0 a1) (dover_Fits.f (k + 1) a0 a1) := by
  intro a0 a1 k
  have ih0 := dover_Fits.mono_l k
  unfold dover_Fits.f
  repeat' first
      | (with_reducible exact ih0 _ _ _ _)
      | (with_reducible exact LeO.refl _)
      | (with_reducible exact LeO.none _)
      | (with_reducible refine LeO.ite ?_ ?_)
      | (with_reducible refine LeO.bind ?_ (fun _ => ?_))
      | exact ih0 _ _ _ _
      | exact LeO.none _
      | refine LeO.ite ?_ ?_
      | refine LeO.bind ?_ (fun _ => ?_)
set_option maxHeartbeats 8000000 in
set_option maxRecDepth 100000 in
theorem dover_Fits.calls (k : Nat) (A0 : Option Addr) (c0 : Nat) (l0 : List (S29)) (a1 : Int) (r : Bool) (w : World) (hr0 : Kd.C k29 w A0 l0.length l0) (hc0 : l0.length ≤ c0) (h : dover_Fits.f k l0 a1 = some r) :
    Calls Try.prog 14 #[.slice A0 l0.length c0, .int .i64 a1] w fun e w' => e = .returned (.bool r) ∧ Below w.heap.size w w' := by
  have hu29 := Try.underlying29
  have HR0 := Aside0.mk hr0
  have HC0 := Aside0.mk hc0
  clear hr0 hc0
  have HB := Aside0.mk (Below.refl w.heap.size w)
  have H : ((dover_sorted.f l0).bind fun t122 => (dover_Fits.l0 k a1 t122 (t122.length : Int) 0)) = some r := h
  clear h
  replace H := Option.bind_eq_some_iff.mp H
  obtain ⟨t122, A30, H⟩ := H
  replace H : (dover_Fits.l0 k a1 t122 (t122.length : Int) 0) = some r := H
  have A3 := Aside0.mk A30
  clear A30
  have H' := Aside0.mk H
  clear H
  go_enter Try.func14, Try.ntmps14
  go_wp2_with (first | ((with_reducible refine gate_callee (f := 22) rfl ?_); refine goesL_ (some 8) rfl rfl Try.func22 (by kernel_rfl) rfl #[.slice A0 l0.length c0] rfl (by (try simp only [List.map_toArray, List.map_cons, List.map_nil]); first | done | rfl | (simp only [List.length_drop, List.length_take]; rfl)) ?_; (with_reducible refine (dover_sorted.calls _ _ l0 t122 _ ?side1 ?side2 A3.out).mono ?_); (case side1 => repeat (first | exact HR0.out | (with_reducible refine Kd.C_alloc ?_ _) | (with_reducible refine Kd.C_drewN ?_ _) | (with_reducible refine Kd.C_drew ?_))); (case side2 => exact HC0.out); rintro e w4 ⟨v123, rfl, ho0, hb⟩; refine ⟨_, rfl, ?_⟩; have n0_ := Aside0.mk (Kd.R_lower ho0 (below_size (by repeat (first | (with_reducible first | exact HB.out | apply below_alloc | apply pw_below_drewN | apply below_drew1) | exact HB.out)))); have n1_ := Aside0.mk (below_step (by repeat (first | (with_reducible first | exact HB.out | apply below_alloc | apply pw_below_drewN | apply below_drew1) | exact HB.out)) hb); clear HB; have HO124 := n0_; have HB := n1_; clear n0_ n1_; (try clear hb); (try clear hb2); (try clear hk); (try clear hi); (try clear ho0); obtain ⟨Ao5, co5, eo5⟩ := Kd.R_slice HO124.out; subst eo5))
  go_loopg [1, 10] k (fun kq v1 v10 w' => ∃ (x1_1 : Int) (x10_1 : Int), v1 = .int .i64 x1_1 ∧ v10 = .int .i64 x10_1 ∧ Aside0 (dover_Fits.l0 kq x1_1 t122 (t122.length : Int) x10_1 = some r) ∧ Aside0 (kq ≤ k) ∧ Aside0 (Kd.R k29 29 w' w.heap.size (fun _ => True) (.slice Ao5 t122.length co5) t122) ∧ Aside0 (Below w.heap.size w w'))
  case atStart => exact ⟨(a1), (0), (by first | rfl | (simp; done) | (simp [*]; done)), (by first | rfl | (simp; done) | (simp [*]; done)), H', ⟨Nat.le_refl _⟩, ⟨by (with_reducible repeat (first | apply Kd.R_alloc | apply Kd.R_drewN | apply Kd.R_drew)); exact HO124.out⟩, ⟨by repeat (first | (with_reducible first | exact HB.out | apply below_alloc | apply pw_below_drewN | apply below_drew1) | exact HB.out)⟩⟩
  case round =>
    clear H'
    try clear c1
    try clear c2
    try clear p2
    obtain ⟨x1_1, x10_1, rfl, rfl, HA, HK1, HO_8, HB⟩ := hrel
    cases gk with
    | zero => exact absurd HA.out (by simp [dover_Fits.l0])
    | succ k1 =>
      have H := HA.out
      clear HA
      simp only [dover_Fits.l0] at H
      by_cases c6 : x10_1 < (t122.length : Int)
      · rw [if_pos c6] at H
        have c6b0 : decide (x10_1 < (t122.length : Int)) = true := decide_eq_true c6
        clear c6
        by_cases c7 : 0 ≤ x10_1
        · rw [if_pos c7] at H
          have c7b0 : decide (0 ≤ x10_1) = true := decide_eq_true c7
          clear c7
          by_cases c8 : x10_1 < (t122.length : Int)
          · rw [if_pos c8] at H
            have c8b0 : decide (x10_1 < (t122.length : Int)) = true := decide_eq_true c8
            clear c8
            replace H := Option.bind_eq_some_iff.mp H
            obtain ⟨t127, A90, H⟩ := H
            replace H : (if (wrap64 (x1_1 + t127)) > ((rd_T29 t122 x10_1).f1) then (some false) else (dover_Fits.l0 k1 (wrap64 (x1_1 + t127)) t122 (t122.length : Int) (wrap64 (x10_1 + 1)))) = some r := H
            have A9 := Aside0.mk A90
            clear A90
            by_cases c10 : (wrap64 (x1_1 + t127)) > ((rd_T29 t122 x10_1).f1)
            · rw [if_pos c10] at H
              have c10b0 : decide (((rd_T29 t122 x10_1).f1) < (wrap64 (x1_1 + t127))) = true := decide_eq_true c10
              clear c10
              obtain rfl := Option.some.inj H
              have p125 : 0 ≤ (x10_1 : Int) := of_decide_eq_true (by first | (with_reducible assumption) | assumption)
              have q125 : x10_1 < (t122.length : Int) := of_decide_eq_true (by first | (with_reducible assumption) | assumption)
              obtain ⟨ad125, e125, hx125_0, hx125_1, hx125_2, hx125_3, hx125_4⟩ := at_T29 (Kd.R_reads' HO_8.out).2.2 x10_1 p125 q125
              cases e125
              replace p125 := eq_true p125
              replace q125 := eq_true q125
              go_wp2_with (first | ((with_reducible refine gate_dst (N := 6) rfl ?_); refine box_event ?hg (N := 6) ?hd (cs := #[.int .i64 0, .int .i64 0, .int .i64 0, .int .i64 0, .int .i64 0]) (t := 29) ?hr ?_; (case hd => rfl); (case hg => rfl); (case hr => first | (go_simp; done) | (go_simp; rfl)); intro gb126 hg w11 hbox hb; have n0_ := Aside0.mk (Kd.R_below (Kd.R_elderB (by (with_reducible repeat (first | apply Kd.R_alloc | apply Kd.R_drewN | apply Kd.R_drew)); exact HO_8.out) gb126 (Nat.le_of_eq hg.symm)) hb); have n1_ := Aside0.mk (below_step (by repeat (first | (with_reducible first | exact HB.out | apply below_alloc | apply pw_below_drewN | apply below_drew1) | exact HB.out)) hb); have n2_ := Aside0.mk (hbox); have n3_ := Aside0.mk ((by rw [hg]; exact (below_size (by repeat (first | (with_reducible first | exact HB.out | apply below_alloc | apply pw_below_drewN | apply below_drew1) | exact HB.out))) : w.heap.size ≤ gb126)); have n4_ := Aside0.mk ((by rw [hg]; exact (below_size (by repeat (first | (with_reducible first | exact HB.out | apply below_alloc | apply pw_below_drewN | apply below_drew1) | exact HB.out))) : w.heap.size ≤ gb126)); clear HO_8; clear HB; have HO_8 := n0_; have HB := n1_; have BK126 := n2_; have GW126 := n3_; have GE126 := n4_; clear n0_ n1_ n2_ n3_ n4_; clear hb hbox hg; have hcz12_0 : w11.cell? ⟨gb126, 0, none⟩ = some (.int .i64 0) := (blk_cell BK126.out 0).trans rfl; have hcz12_1 : w11.cell? ⟨gb126, 1, none⟩ = some (.int .i64 0) := (blk_cell BK126.out 1).trans rfl; have hcz12_2 : w11.cell? ⟨gb126, 2, none⟩ = some (.int .i64 0) := (blk_cell BK126.out 2).trans rfl; have hcz12_3 : w11.cell? ⟨gb126, 3, none⟩ = some (.int .i64 0) := (blk_cell BK126.out 3).trans rfl; have hcz12_4 : w11.cell? ⟨gb126, 4, none⟩ = some (.int .i64 0) := (blk_cell BK126.out 4).trans rfl; have hfz12_0 := blk_frozen BK126.out 0; have hfz12_1 := blk_frozen BK126.out 1; have hfz12_2 := blk_frozen BK126.out 2; have hfz12_3 := blk_frozen BK126.out 3; have hfz12_4 := blk_frozen BK126.out 4) | ((with_reducible refine gate_callee (f := 25) rfl ?_); refine goesL_ (some 16) rfl rfl Try.func25 (by kernel_rfl) rfl #[.agg #[.int .i64 ((rd_T29 t122 x10_1).f0), .int .i64 ((rd_T29 t122 x10_1).f1), .int .i64 ((rd_T29 t122 x10_1).f2), .int .i64 ((rd_T29 t122 x10_1).f3), .int .i64 ((rd_T29 t122 x10_1).f4)]] rfl (by (try simp only [List.map_toArray, List.map_cons, List.map_nil]); first | done | rfl | (simp only [List.length_drop, List.length_take]; rfl)) ?_; (with_reducible refine (dover_left.calls ((rd_T29 t122 x10_1).f0) ((rd_T29 t122 x10_1).f1) ((rd_T29 t122 x10_1).f2) ((rd_T29 t122 x10_1).f3) ((rd_T29 t122 x10_1).f4) t127 _ A9.out).mono ?_); rintro e w13 ⟨rfl, hb⟩; refine ⟨_, rfl, ?_⟩; have n0_ := Aside0.mk (Kd.R_below (by (with_reducible repeat (first | apply Kd.R_alloc | apply Kd.R_drewN | apply Kd.R_drew)); exact (Kd.R_mono (Kd.R_far (p := ⟨gb126, 4, none⟩) (Kd.R_far (p := ⟨gb126, 3, none⟩) (Kd.R_far (p := ⟨gb126, 2, none⟩) (Kd.R_far (p := ⟨gb126, 1, none⟩) (Kd.R_far (p := ⟨gb126, 0, none⟩) (Kd.R_mono HO_8.out (fun k_ hk => (⟨hk, hk.2⟩ : _ ∧ k_ ≠ gb126))) (fun _ hk => hk.2) (.int .i64 ((rd_T29 t122 x10_1).f0))) (fun _ hk => hk.2) (.int .i64 ((rd_T29 t122 x10_1).f1))) (fun _ hk => hk.2) (.int .i64 ((rd_T29 t122 x10_1).f2))) (fun _ hk => hk.2) (.int .i64 ((rd_T29 t122 x10_1).f3))) (fun _ hk => hk.2) (.int .i64 ((rd_T29 t122 x10_1).f4))) (fun _ h_ => h_.1))) hb); have n1_ := Aside0.mk (blk_below (g := gb126) (o := .cells #[.int .i64 ((rd_T29 t122 x10_1).f0), .int .i64 ((rd_T29 t122 x10_1).f1), .int .i64 ((rd_T29 t122 x10_1).f2), .int .i64 ((rd_T29 t122 x10_1).f3), .int .i64 ((rd_T29 t122 x10_1).f4)] 29 (0, 0)) (by (with_reducible repeat (first | refine blk_drewN ?_ _ | refine blk_drew ?_ | refine blk_alloc ?_ _)); refine blk_put (cs := #[.int .i64 ((rd_T29 t122 x10_1).f0), .int .i64 ((rd_T29 t122 x10_1).f1), .int .i64 ((rd_T29 t122 x10_1).f2), .int .i64 ((rd_T29 t122 x10_1).f3), .int .i64 0]) ?_ 4 _ rfl; (with_reducible repeat (first | refine blk_drewN ?_ _ | refine blk_drew ?_ | refine blk_alloc ?_ _)); refine blk_put (cs := #[.int .i64 ((rd_T29 t122 x10_1).f0), .int .i64 ((rd_T29 t122 x10_1).f1), .int .i64 ((rd_T29 t122 x10_1).f2), .int .i64 0, .int .i64 0]) ?_ 3 _ rfl; (with_reducible repeat (first | refine blk_drewN ?_ _ | refine blk_drew ?_ | refine blk_alloc ?_ _)); refine blk_put (cs := #[.int .i64 ((rd_T29 t122 x10_1).f0), .int .i64 ((rd_T29 t122 x10_1).f1), .int .i64 0, .int .i64 0, .int .i64 0]) ?_ 2 _ rfl; (with_reducible repeat (first | refine blk_drewN ?_ _ | refine blk_drew ?_ | refine blk_alloc ?_ _)); refine blk_put (cs := #[.int .i64 ((rd_T29 t122 x10_1).f0), .int .i64 0, .int .i64 0, .int .i64 0, .int .i64 0]) ?_ 1 _ rfl; (with_reducible repeat (first | refine blk_drewN ?_ _ | refine blk_drew ?_ | refine blk_alloc ?_ _)); refine blk_put (cs := #[.int .i64 0, .int .i64 0, .int .i64 0, .int .i64 0, .int .i64 0]) ?_ 0 _ rfl; (with_reducible repeat (first | refine blk_drewN ?_ _ | refine blk_drew ?_ | refine blk_alloc ?_ _)); exact BK126.out) hb); have n2_ := Aside0.mk (below_step (by repeat (first | (with_reducible first | exact HB.out | apply below_alloc | apply pw_below_drewN | apply below_drew1 | refine below_set ?_ GE126.out) | exact HB.out)) hb); clear HO_8; clear BK126; clear HB; have HO_8 := n0_; have BK126 := n1_; have HB := n2_; clear n0_ n1_ n2_; (try clear hb); (try clear hb2); (try clear hk); (try clear hi); have hcz14_0 : w13.cell? ⟨gb126, 0, none⟩ = some (.int .i64 ((rd_T29 t122 x10_1).f0)) := (blk_cell BK126.out 0).trans rfl; have hcz14_1 : w13.cell? ⟨gb126, 1, none⟩ = some (.int .i64 ((rd_T29 t122 x10_1).f1)) := (blk_cell BK126.out 1).trans rfl; have hcz14_2 : w13.cell? ⟨gb126, 2, none⟩ = some (.int .i64 ((rd_T29 t122 x10_1).f2)) := (blk_cell BK126.out 2).trans rfl; have hcz14_3 : w13.cell? ⟨gb126, 3, none⟩ = some (.int .i64 ((rd_T29 t122 x10_1).f3)) := (blk_cell BK126.out 3).trans rfl; have hcz14_4 : w13.cell? ⟨gb126, 4, none⟩ = some (.int .i64 ((rd_T29 t122 x10_1).f4)) := (blk_cell BK126.out 4).trans rfl; have hfz14_0 := blk_frozen BK126.out 0; have hfz14_1 := blk_frozen BK126.out 1; have hfz14_2 := blk_frozen BK126.out 2; have hfz14_3 := blk_frozen BK126.out 3; have hfz14_4 := blk_frozen BK126.out 4))
              go_ret
              exact ⟨by first | rfl | (simp [errW_none, errW_some] <;> rfl) | (simp [*, errW_none, errW_some] <;> rfl), by repeat (first | (with_reducible first | exact HB.out | apply below_alloc | apply pw_below_drewN | apply below_drew1 | refine below_set ?_ GE126.out) | exact HB.out)⟩
            · rw [if_neg c10] at H
              have c10b0 : decide (((rd_T29 t122 x10_1).f1) < (wrap64 (x1_1 + t127))) = false := decide_eq_false c10
              clear c10
              have H' := Aside0.mk H
              clear H
              have p125 : 0 ≤ (x10_1 : Int) := of_decide_eq_true (by first | (with_reducible assumption) | assumption)
              have q125 : x10_1 < (t122.length : Int) := of_decide_eq_true (by first | (with_reducible assumption) | assumption)
              obtain ⟨ad125, e125, hx125_0, hx125_1, hx125_2, hx125_3, hx125_4⟩ := at_T29 (Kd.R_reads' HO_8.out).2.2 x10_1 p125 q125
              cases e125
              replace p125 := eq_true p125
              replace q125 := eq_true q125
              go_wp2_with (first | ((with_reducible refine gate_dst (N := 6) rfl ?_); refine box_event ?hg (N := 6) ?hd (cs := #[.int .i64 0, .int .i64 0, .int .i64 0, .int .i64 0, .int .i64 0]) (t := 29) ?hr ?_; (case hd => rfl); (case hg => rfl); (case hr => first | (go_simp; done) | (go_simp; rfl)); intro gb126 hg w15 hbox hb; have n0_ := Aside0.mk (Kd.R_below (Kd.R_elderB (by (with_reducible repeat (first | apply Kd.R_alloc | apply Kd.R_drewN | apply Kd.R_drew)); exact HO_8.out) gb126 (Nat.le_of_eq hg.symm)) hb); have n1_ := Aside0.mk (below_step (by repeat (first | (with_reducible first | exact HB.out | apply below_alloc | apply pw_below_drewN | apply below_drew1) | exact HB.out)) hb); have n2_ := Aside0.mk (hbox); have n3_ := Aside0.mk ((by rw [hg]; exact (below_size (by repeat (first | (with_reducible first | exact HB.out | apply below_alloc | apply pw_below_drewN | apply below_drew1) | exact HB.out))) : w.heap.size ≤ gb126)); have n4_ := Aside0.mk ((by rw [hg]; exact (below_size (by repeat (first | (with_reducible first | exact HB.out | apply below_alloc | apply pw_below_drewN | apply below_drew1) | exact HB.out))) : w.heap.size ≤ gb126)); clear HO_8; clear HB; have HO_8 := n0_; have HB := n1_; have BK126 := n2_; have GW126 := n3_; have GE126 := n4_; clear n0_ n1_ n2_ n3_ n4_; clear hb hbox hg; have hcz16_0 : w15.cell? ⟨gb126, 0, none⟩ = some (.int .i64 0) := (blk_cell BK126.out 0).trans rfl; have hcz16_1 : w15.cell? ⟨gb126, 1, none⟩ = some (.int .i64 0) := (blk_cell BK126.out 1).trans rfl; have hcz16_2 : w15.cell? ⟨gb126, 2, none⟩ = some (.int .i64 0) := (blk_cell BK126.out 2).trans rfl; have hcz16_3 : w15.cell? ⟨gb126, 3, none⟩ = some (.int .i64 0) := (blk_cell BK126.out 3).trans rfl; have hcz16_4 : w15.cell? ⟨gb126, 4, none⟩ = some (.int .i64 0) := (blk_cell BK126.out 4).trans rfl; have hfz16_0 := blk_frozen BK126.out 0; have hfz16_1 := blk_frozen BK126.out 1; have hfz16_2 := blk_frozen BK126.out 2; have hfz16_3 := blk_frozen BK126.out 3; have hfz16_4 := blk_frozen BK126.out 4) | ((with_reducible refine gate_callee (f := 25) rfl ?_); refine goesL_ (some 16) rfl rfl Try.func25 (by kernel_rfl) rfl #[.agg #[.int .i64 ((rd_T29 t122 x10_1).f0), .int .i64 ((rd_T29 t122 x10_1).f1), .int .i64 ((rd_T29 t122 x10_1).f2), .int .i64 ((rd_T29 t122 x10_1).f3), .int .i64 ((rd_T29 t122 x10_1).f4)]] rfl (by (try simp only [List.map_toArray, List.map_cons, List.map_nil]); first | done | rfl | (simp only [List.length_drop, List.length_take]; rfl)) ?_; (with_reducible refine (dover_left.calls ((rd_T29 t122 x10_1).f0) ((rd_T29 t122 x10_1).f1) ((rd_T29 t122 x10_1).f2) ((rd_T29 t122 x10_1).f3) ((rd_T29 t122 x10_1).f4) t127 _ A9.out).mono ?_); rintro e w17 ⟨rfl, hb⟩; refine ⟨_, rfl, ?_⟩; have n0_ := Aside0.mk (Kd.R_below (by (with_reducible repeat (first | apply Kd.R_alloc | apply Kd.R_drewN | apply Kd.R_drew)); exact (Kd.R_mono (Kd.R_far (p := ⟨gb126, 4, none⟩) (Kd.R_far (p := ⟨gb126, 3, none⟩) (Kd.R_far (p := ⟨gb126, 2, none⟩) (Kd.R_far (p := ⟨gb126, 1, none⟩) (Kd.R_far (p := ⟨gb126, 0, none⟩) (Kd.R_mono HO_8.out (fun k_ hk => (⟨hk, hk.2⟩ : _ ∧ k_ ≠ gb126))) (fun _ hk => hk.2) (.int .i64 ((rd_T29 t122 x10_1).f0))) (fun _ hk => hk.2) (.int .i64 ((rd_T29 t122 x10_1).f1))) (fun _ hk => hk.2) (.int .i64 ((rd_T29 t122 x10_1).f2))) (fun _ hk => hk.2) (.int .i64 ((rd_T29 t122 x10_1).f3))) (fun _ hk => hk.2) (.int .i64 ((rd_T29 t122 x10_1).f4))) (fun _ h_ => h_.1))) hb); have n1_ := Aside0.mk (blk_below (g := gb126) (o := .cells #[.int .i64 ((rd_T29 t122 x10_1).f0), .int .i64 ((rd_T29 t122 x10_1).f1), .int .i64 ((rd_T29 t122 x10_1).f2), .int .i64 ((rd_T29 t122 x10_1).f3), .int .i64 ((rd_T29 t122 x10_1).f4)] 29 (0, 0)) (by (with_reducible repeat (first | refine blk_drewN ?_ _ | refine blk_drew ?_ | refine blk_alloc ?_ _)); refine blk_put (cs := #[.int .i64 ((rd_T29 t122 x10_1).f0), .int .i64 ((rd_T29 t122 x10_1).f1), .int .i64 ((rd_T29 t122 x10_1).f2), .int .i64 ((rd_T29 t122 x10_1).f3), .int .i64 0]) ?_ 4 _ rfl; (with_reducible repeat (first | refine blk_drewN ?_ _ | refine blk_drew ?_ | refine blk_alloc ?_ _)); refine blk_put (cs := #[.int .i64 ((rd_T29 t122 x10_1).f0), .int .i64 ((rd_T29 t122 x10_1).f1), .int .i64 ((rd_T29 t122 x10_1).f2), .int .i64 0, .int .i64 0]) ?_ 3 _ rfl; (with_reducible repeat (first | refine blk_drewN ?_ _ | refine blk_drew ?_ | refine blk_alloc ?_ _)); refine blk_put (cs := #[.int .i64 ((rd_T29 t122 x10_1).f0), .int .i64 ((rd_T29 t122 x10_1).f1), .int .i64 0, .int .i64 0, .int .i64 0]) ?_ 2 _ rfl; (with_reducible repeat (first | refine blk_drewN ?_ _ | refine blk_drew ?_ | refine blk_alloc ?_ _)); refine blk_put (cs := #[.int .i64 ((rd_T29 t122 x10_1).f0), .int .i64 0, .int .i64 0, .int .i64 0, .int .i64 0]) ?_ 1 _ rfl; (with_reducible repeat (first | refine blk_drewN ?_ _ | refine blk_drew ?_ | refine blk_alloc ?_ _)); refine blk_put (cs := #[.int .i64 0, .int .i64 0, .int .i64 0, .int .i64 0, .int .i64 0]) ?_ 0 _ rfl; (with_reducible repeat (first | refine blk_drewN ?_ _ | refine blk_drew ?_ | refine blk_alloc ?_ _)); exact BK126.out) hb); have n2_ := Aside0.mk (below_step (by repeat (first | (with_reducible first | exact HB.out | apply below_alloc | apply pw_below_drewN | apply below_drew1 | refine below_set ?_ GE126.out) | exact HB.out)) hb); clear HO_8; clear BK126; clear HB; have HO_8 := n0_; have BK126 := n1_; have HB := n2_; clear n0_ n1_ n2_; (try clear hb); (try clear hb2); (try clear hk); (try clear hi); have hcz18_0 : w17.cell? ⟨gb126, 0, none⟩ = some (.int .i64 ((rd_T29 t122 x10_1).f0)) := (blk_cell BK126.out 0).trans rfl; have hcz18_1 : w17.cell? ⟨gb126, 1, none⟩ = some (.int .i64 ((rd_T29 t122 x10_1).f1)) := (blk_cell BK126.out 1).trans rfl; have hcz18_2 : w17.cell? ⟨gb126, 2, none⟩ = some (.int .i64 ((rd_T29 t122 x10_1).f2)) := (blk_cell BK126.out 2).trans rfl; have hcz18_3 : w17.cell? ⟨gb126, 3, none⟩ = some (.int .i64 ((rd_T29 t122 x10_1).f3)) := (blk_cell BK126.out 3).trans rfl; have hcz18_4 : w17.cell? ⟨gb126, 4, none⟩ = some (.int .i64 ((rd_T29 t122 x10_1).f4)) := (blk_cell BK126.out 4).trans rfl; have hfz18_0 := blk_frozen BK126.out 0; have hfz18_1 := blk_frozen BK126.out 1; have hfz18_2 := blk_frozen BK126.out 2; have hfz18_3 := blk_frozen BK126.out 3; have hfz18_4 := blk_frozen BK126.out 4))
              go_roundg k1
              case measure => have := HK1.out; omega
              case rel => exact ⟨(wrap64 (x1_1 + t127)), (wrap64 (x10_1 + 1)), (by first | rfl | (simp; done) | (simp [*]; done)), (by first | rfl | (simp; done) | (simp [*]; done)), H', ⟨by have := HK1.out; omega⟩, ⟨by (with_reducible repeat (first | apply Kd.R_alloc | apply Kd.R_drewN | apply Kd.R_drew)); exact Kd.R_mono HO_8.out (fun _ hk => trivial)⟩, ⟨by repeat (first | (with_reducible first | exact HB.out | apply below_alloc | apply pw_below_drewN | apply below_drew1 | refine below_set ?_ GE126.out) | exact HB.out)⟩⟩
          · rw [if_neg c8] at H
            exact absurd H (by simp)
        · rw [if_neg c7] at H
          exact absurd H (by simp)
      · rw [if_neg c6] at H
        have c6b0 : decide (x10_1 < (t122.length : Int)) = false := decide_eq_false c6
        clear c6
        obtain rfl := Option.some.inj H
        go_wp2
        go_ret
        exact ⟨by first | rfl | (simp [errW_none, errW_some] <;> rfl) | (simp [*, errW_none, errW_some] <;> rfl), by repeat (first | (with_reducible first | exact HB.out | apply below_alloc | apply pw_below_drewN | apply below_drew1) | exact HB.out)⟩

end Go.Proofs.Ytmknoiiflciclaa.PA
