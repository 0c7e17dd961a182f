-- Written for this claim by a program (the kit's print over a changed input, then joined with texts by hand).
import Derived.Test.YtmknoiiflciclaaPAx0
import Derived.Test.YtmknoiiflciclaaPAx3
import Derived.Test.YtmknoiiflciclaaPAx8
import Derived.Test.YtmknoiiflciclaaPAx9
namespace Go.Proofs.Ytmknoiiflciclaa.PA
open Go.RowKit Go.Proofs.YtmknoiiflciclaaW.PrintWords Go.Proofs.YtmknoiiflciclaaW.PrintLast Go.Proofs.YtmknoiiflciclaaW.PrintMore
attribute [local go_sem] max2_int min2_int max_two min_two max_three min_three max_four min_four   -- for this text's walks alone
set_option linter.unusedVariables false
set_option linter.unusedSimpArgs false

/-! ### fuseelaw13_DoverRival: function 4 -/
mutual
def fuseelaw13_DoverRival.j0 : Nat → List (S29) → Int → List Int → Bool → Bool → Option (Bool)
  | 0, _, _, _, _, _ => none
  | k + 1, x0, x1, x2, x7, x29 => if x29 = true then (some x7) else (if ([] : List (S29)).length + x0.length < 3518437208883 then (fuseelaw13_DoverRival.l0 k x0 x1 x2 (([] : List (S29)) ++ x0) 0) else (none))
def fuseelaw13_DoverRival.l0 : Nat → List (S29) → Int → List Int → List (S29) → Int → Option (Bool)
  | 0, _, _, _, _, _ => none
  | k + 1, x0, x1, x2, x8, x9 => if x9 < (x2.length : Int) then (fuseelaw13_DoverRival.l1 k x0 x1 x2 x8 x9 0) else (fuseelaw13_DoverRival.l2 k x0 x1 x8 0)
def fuseelaw13_DoverRival.l1 : Nat → List (S29) → Int → List Int → List (S29) → Int → Int → Option (Bool)
  | 0, _, _, _, _, _, _ => none
  | k + 1, x0, x1, x2, x8, x9, x10 => if x10 < (x8.length : Int) then (if 0 ≤ x10 then (if 0 ≤ x9 then (if x9 < (x2.length : Int) then (if ((rd_T29 x8 x10).f0) = (rd x2 x9) then (if ((rd_T29 x8 x10).f4) < ((rd_T29 x8 x10).f2) then (if (wrap64 (x1 + x9)) < ((rd_T29 x8 x10).f1) then (fuseelaw13_DoverRival.l1 k x0 x1 x2 (x8.set (x10 : Int).toNat (⟨(rd_T29 x8 x10).f0, (rd_T29 x8 x10).f1, (rd_T29 x8 x10).f2, (rd_T29 x8 x10).f3, wrap64 (((rd_T29 x8 x10).f4) + 1)⟩ : S29)) x9 (wrap64 (x10 + 1))) else (fuseelaw13_DoverRival.l1 k x0 x1 x2 x8 x9 (wrap64 (x10 + 1)))) else (fuseelaw13_DoverRival.l1 k x0 x1 x2 x8 x9 (wrap64 (x10 + 1)))) else (fuseelaw13_DoverRival.l1 k x0 x1 x2 x8 x9 (wrap64 (x10 + 1)))) else (none)) else (none)) else (none)) else (fuseelaw13_DoverRival.l0 k x0 x1 x2 x8 (wrap64 (x9 + 1)))
def fuseelaw13_DoverRival.l2 : Nat → List (S29) → Int → List (S29) → Int → Option (Bool)
  | 0, _, _, _, _ => none
  | k + 1, x0, x1, x8, x11 => if x11 < (x8.length : Int) then (if 0 ≤ x11 then (if ((rd_T29 x8 x11).f4) < ((rd_T29 x8 x11).f2) then (some true) else (fuseelaw13_DoverRival.l2 k x0 x1 x8 (wrap64 (x11 + 1)))) else (none)) else ((dover_Fits.f k x0 x1).bind fun t190 => (some t190))
end
def fuseelaw13_DoverRival.f (k : Nat) (l0 : List (S29)) (a1 : Int) (l2 : List Int) : Option (Bool) := (fuseelaw13_awake.f k).bind fun t176 => (if t176 = true then ((dover_May.f l0 a1).bind fun t177 => (if t177 = true then (if (l2.length : Int) > 400 then (fuseelaw13_DoverRival.j0 k l0 a1 l2 t176 true) else (fuseelaw13_DoverRival.j0 k l0 a1 l2 t176 (decide (a1 > 274877906944)))) else (fuseelaw13_DoverRival.j0 k l0 a1 l2 t176 true))) else (fuseelaw13_DoverRival.j0 k l0 a1 l2 t176 true))
theorem fuseelaw13_DoverRival.mono_l : ∀ k, (∀ y0 y1 y2 y3 y4, LeO (fuseelaw13_DoverRival.j0 k y0 y1 y2 y3 y4) (fuseelaw13_DoverRival.j0 (k + 1) y0 y1 y2 y3 y4)) ∧ (∀ y0 y1 y2 y3 y4, LeO (fuseelaw13_DoverRival.l0 k y0 y1 y2 y3 y4) (fuseelaw13_DoverRival.l0 (k + 1) y0 y1 y2 y3 y4)) ∧ (∀ y0 y1 y2 y3 y4 y5, LeO (fuseelaw13_DoverRival.l1 k y0 y1 y2 y3 y4 y5) (fuseelaw13_DoverRival.l1 (k + 1) y0 y1 y2 y3 y4 y5)) ∧ (∀ y0 y1 y2 y3, LeO (fuseelaw13_DoverRival.l2 k y0 y1 y2 y3) (fuseelaw13_DoverRival.l2 (k + 1) y0 y1 y2 y3))
  | 0 => ⟨fun _ _ _ _ _ r h => by simp [fuseelaw13_DoverRival.j0] at h, fun _ _ _ _ _ r h => by simp [fuseelaw13_DoverRival.l0] at h, fun _ _ _ _ _ _ r h => by simp [fuseelaw13_DoverRival.l1] at h, fun _ _ _ _ r h => by simp [fuseelaw13_DoverRival.l2] at h⟩
  | k + 1 => by
    obtain ⟨ih0, ih1, ih2, ih3⟩ := fuseelaw13_DoverRival.mono_l k
    refine ⟨?_, ?_, ?_, ?_⟩
    · intro y0 y1 y2 y3 y4
      unfold fuseelaw13_DoverRival.j0
      repeat' first
      | (with_reducible exact ih0 _ _ _ _ _)
      | (with_reducible exact ih1 _ _ _ _ _)
      | (with_reducible exact ih2 _ _ _ _ _ _)
      | (with_reducible exact ih3 _ _ _ _)
      | (with_reducible exact dover_Fits.mono _ _ _)
      | (with_reducible exact fuseelaw13_awake.mono _)
      | (with_reducible exact LeO.refl _)
      | (with_reducible exact LeO.none _)
      | (with_reducible refine LeO.ite ?_ ?_)
      | (with_reducible refine LeO.bind ?_ (fun _ => ?_))
      | exact ih0 _ _ _ _ _
      | exact ih1 _ _ _ _ _
      | exact ih2 _ _ _ _ _ _
      | exact ih3 _ _ _ _
      | exact dover_Fits.mono _ _ _
      | exact fuseelaw13_awake.mono _
      | exact LeO.none _
      | refine LeO.ite ?_ ?_
      | refine LeO.bind ?_ (fun _ => ?_)
    · intro y0 y1 y2 y3 y4
      unfold fuseelaw13_DoverRival.l0
      repeat' first
      | (with_reducible exact ih0 _ _ _ _ _)
      | (with_reducible exact ih1 _ _ _ _ _)
      | (with_reducible exact ih2 _ _ _ _ _ _)
      | (with_reducible exact ih3 _ _ _ _)
      | (with_reducible exact dover_Fits.mono _ _ _)
      | (with_reducible exact fuseelaw13_awake.mono _)
      | (with_reducible exact LeO.refl _)
      | (with_reducible exact LeO.none _)
      | (with_reducible refine LeO.ite ?_ ?_)
      | (with_reducible refine LeO.bind ?_ (fun _ => ?_))
      | exact ih0 _ _ _ _ _
      | exact ih1 _ _ _ _ _
      | exact ih2 _ _ _ _ _ _
      | exact ih3 _ _ _ _
      | exact dover_Fits.mono _ _ _
      | exact fuseelaw13_awake.mono _
      | exact LeO.none _
      | refine LeO.ite ?_ ?_
      | refine LeO.bind ?_ (fun _ => ?_)
    · intro y0 y1 y2 y3 y4 y5
      unfold fuseelaw13_DoverRival.l1
      repeat' first
      | (with_reducible exact ih0 _ _ _ _ _)
      | (with_reducible exact ih1 _ _ _ _ _)
      | (with_reducible exact ih2 _ _ _ _ _ _)
      | (with_reducible exact ih3 _ _ _ _)
      | (with_reducible exact dover_Fits.mono _ _ _)
      | (with_reducible exact fuseelaw13_awake.mono _)
      | (with_reducible exact LeO.refl _)
      | (with_reducible exact LeO.none _)
      | (with_reducible refine LeO.ite ?_ ?_)
      | (with_reducible refine LeO.bind ?_ (fun _ => ?_))
      | exact ih0 _ _ _ _ _
      | exact ih1 _ _ _ _ _
      | exact ih2 _ _ _ _ _ _
      | exact ih3 _ _ _ _
      | exact dover_Fits.mono _ _ _
      | exact fuseelaw13_awake.mono _
      | exact LeO.none _
      | refine LeO.ite ?_ ?_
      | refine LeO.bind ?_ (fun _ => ?_)
    · intro y0 y1 y2 y3
      unfold fuseelaw13_DoverRival.l2
      repeat' first
      | (with_reducible exact ih0 _ _ _ _ _)
      | (with_reducible exact ih1 _ _ _ _ _)
      | (with_reducible exact ih2 _ _ _ _ _ _)
      | (with_reducible exact ih3 _ _ _ _)
      | (with_reducible exact dover_Fits.mono _ _ _)
      | (with_reducible exact fuseelaw13_awake.mono _)
      | (with_reducible exact LeO.refl _)
      | (with_reducible exact LeO.none _)
      | (with_reducible refine LeO.ite ?_ ?_)
      | (with_reducible refine LeO.bind ?_ (fun _ => ?_))
      | exact ih0 _ _ _ _ _
      | exact ih1 _ _ _ _ _
      | exact ih2 _ _ _ _ _ _
      | exact ih3 _ _ _ _
      | exact dover_Fits.mono _ _ _
      | exact fuseelaw13_awake.mono _
      | exact LeO.none _
      | refine LeO.ite ?_ ?_
      | refine LeO.bind ?_ (fun _ => ?_)
theorem fuseelaw13_DoverRival.mono : ∀ a0 a1 a2 k, LeO (fuseelaw13_DoverRival.f k a0 a1 a2) (fuseelaw13_DoverRival.f (k + 1) a0 a1 a2) := by
  intro a0 a1 a2 k
  obtain ⟨ih0, ih1, ih2, ih3⟩ := fuseelaw13_DoverRival.mono_l k
  unfold fuseelaw13_DoverRival.f
  repeat' first
      | (with_reducible exact ih0 _ _ _ _ _)
      | (with_reducible exact ih1 _ _ _ _ _)
      | (with_reducible exact ih2 _ _ _ _ _ _)
      | (with_reducible exact ih3 _ _ _ _)
      | (with_reducible exact dover_Fits.mono _ _ _)
      | (with_reducible exact fuseelaw13_awake.mono _)
      | (with_reducible exact LeO.refl _)
      | (with_reducible exact LeO.none _)
      | (with_reducible refine LeO.ite ?_ ?_)
      | (with_reducible refine LeO.bind ?_ (fun _ => ?_))
      | exact ih0 _ _ _ _ _
      | exact ih1 _ _ _ _ _
      | exact ih2 _ _ _ _ _ _
      | exact ih3 _ _ _ _
      | exact dover_Fits.mono _ _ _
      | exact fuseelaw13_awake.mono _
      | exact LeO.none _
      | refine LeO.ite ?_ ?_
      | refine LeO.bind ?_ (fun _ => ?_)
set_option maxHeartbeats 8000000 in
set_option maxRecDepth 100000 in
theorem fuseelaw13_DoverRival.calls (k : Nat) (A0 : Option Addr) (c0 : Nat) (l0 : List (S29)) (a1 : Int) (A2 : Option Addr) (c2 : Nat) (l2 : List Int) (r : Bool) (w : World) (hr0 : Kd.C k29 w A0 l0.length l0) (hc0 : l0.length ≤ c0) (hr2 : Kd.C (Kd.int .i64) w A2 l2.length l2) (hc2 : l2.length ≤ c2) (h : fuseelaw13_DoverRival.f k l0 a1 l2 = some r) :
    Calls Try.prog 4 #[.slice A0 l0.length c0, .int .i64 a1, .slice A2 l2.length c2] w fun e w' => e = .returned (.bool r) ∧ Below w.heap.size w w' := by
  have HR0 := Aside0.mk hr0
  have HC0 := Aside0.mk hc0
  clear hr0 hc0
  have HR2 := Aside0.mk hr2
  have HC2 := Aside0.mk hc2
  clear hr2 hc2
  have HB := Aside0.mk (Below.refl w.heap.size w)
  have H : ((fuseelaw13_awake.f k).bind fun t176 => (if t176 = true then ((dover_May.f l0 a1).bind fun t177 => (if t177 = true then (if (l2.length : Int) > 400 then (fuseelaw13_DoverRival.j0 k l0 a1 l2 t176 true) else (fuseelaw13_DoverRival.j0 k l0 a1 l2 t176 (decide (a1 > 274877906944)))) else (fuseelaw13_DoverRival.j0 k l0 a1 l2 t176 true))) else (fuseelaw13_DoverRival.j0 k l0 a1 l2 t176 true))) = some r := h
  clear h
  replace H := Option.bind_eq_some_iff.mp H
  obtain ⟨t176, A40, H⟩ := H
  replace H : (if t176 = true then ((dover_May.f l0 a1).bind fun t177 => (if t177 = true then (if (l2.length : Int) > 400 then (fuseelaw13_DoverRival.j0 k l0 a1 l2 t176 true) else (fuseelaw13_DoverRival.j0 k l0 a1 l2 t176 (decide (a1 > 274877906944)))) else (fuseelaw13_DoverRival.j0 k l0 a1 l2 t176 true))) else (fuseelaw13_DoverRival.j0 k l0 a1 l2 t176 true)) = some r := H
  have A4 := Aside0.mk A40
  clear A40
  have HC5 := Aside0.mk H
  clear H
  go_enter Try.func4, Try.ntmps4
  go_upto_region 2 with (first | (go_at_call 9; (with_reducible refine (fuseelaw13_awake.calls k  t176 _ A4.out).mono ?_); rintro e w6 ⟨rfl, hb⟩; have n0_ := Aside0.mk (below_step (by repeat (first | (with_reducible first | exact HB.out | apply below_alloc | apply pw_below_drewN | apply below_drew1) | exact HB.out)) hb); clear HB; have HB := n0_; clear n0_; (try clear hb); (try clear hb2); (try clear hk); (try clear hi)))
  repeat (go_quiet (first | (go_at_call 9; (with_reducible refine (fuseelaw13_awake.calls k  t176 _ A4.out).mono ?_); rintro e w6 ⟨rfl, hb⟩; have n0_ := Aside0.mk (below_step (by repeat (first | (with_reducible first | exact HB.out | apply below_alloc | apply pw_below_drewN | apply below_drew1) | exact HB.out)) hb); clear HB; have HB := n0_; clear n0_; (try clear hb); (try clear hb2); (try clear hk); (try clear hi))); go_upto_region 2 with (first | (go_at_call 9; (with_reducible refine (fuseelaw13_awake.calls k  t176 _ A4.out).mono ?_); rintro e w6 ⟨rfl, hb⟩; have n0_ := Aside0.mk (below_step (by repeat (first | (with_reducible first | exact HB.out | apply below_alloc | apply pw_below_drewN | apply below_drew1) | exact HB.out)) hb); clear HB; have HB := n0_; clear n0_; (try clear hb); (try clear hb2); (try clear hk); (try clear hi))))
  (try simp only [Act.put, List.setIfInBounds_toArray, List.set_cons_zero, List.set_cons_succ])
  go_cut [29] (fun v29 wc => ∃ (kq : Nat) (x29_4 : Bool), v29 = .bool x29_4 ∧ Aside0 (fuseelaw13_DoverRival.j0 kq l0 a1 l2 t176 x29_4 = some r) ∧ Aside0 (kq ≤ k) ∧ Aside0 (Below w.heap.size w wc))
  case first =>
    have H := HC5.out
    clear HC5
    by_cases c7 : t176 = true
    · subst c7
      have H1 : ((dover_May.f l0 a1).bind fun t177 => (if t177 = true then (if (l2.length : Int) > 400 then (fuseelaw13_DoverRival.j0 k l0 a1 l2 true true) else (fuseelaw13_DoverRival.j0 k l0 a1 l2 true (decide (a1 > 274877906944)))) else (fuseelaw13_DoverRival.j0 k l0 a1 l2 true true))) = some r := by rw [if_pos rfl] at H; exact H
      clear H
      have H := H1
      clear H1
      replace H := Option.bind_eq_some_iff.mp H
      obtain ⟨t177, A80, H⟩ := H
      replace H : (if t177 = true then (if (l2.length : Int) > 400 then (fuseelaw13_DoverRival.j0 k l0 a1 l2 true true) else (fuseelaw13_DoverRival.j0 k l0 a1 l2 true (decide (a1 > 274877906944)))) else (fuseelaw13_DoverRival.j0 k l0 a1 l2 true true)) = some r := H
      have A8 := Aside0.mk A80
      clear A80
      by_cases c9 : t177 = true
      · subst c9
        have H1 : (if (l2.length : Int) > 400 then (fuseelaw13_DoverRival.j0 k l0 a1 l2 true true) else (fuseelaw13_DoverRival.j0 k l0 a1 l2 true (decide (a1 > 274877906944)))) = some r := by rw [if_pos rfl] at H; exact H
        clear H
        have H := H1
        clear H1
        by_cases c10 : (l2.length : Int) > 400
        · rw [if_pos c10] at H
          have c10b0 : decide (400 < (l2.length : Int)) = true := decide_eq_true c10
          have c10b1 : decide (400 < l2.length) = true := decide_eq_true (by omega)
          clear c10
          (first | rw [c10b0] | (simp only [i64_w, i32_w]; rw [c10b0]) | skip)
          have H' := Aside0.mk H
          clear H
          go_wp2_with (first | (go_at_call 10; (with_reducible refine (dover_May.calls _ _ l0 a1 true _ ?side1 ?side2 A8.out).mono ?_); (case side1 => repeat (first | exact (Kd.C_below HR0.out HB.out) | (with_reducible refine Kd.C_alloc ?_ _) | (with_reducible refine Kd.C_drewN ?_ _) | (with_reducible refine Kd.C_drew ?_))); (case side2 => exact HC0.out); rintro e w11 ⟨rfl, hb⟩; have n0_ := Aside0.mk (below_step (by repeat (first | (with_reducible first | exact HB.out | apply below_alloc | apply pw_below_drewN | apply below_drew1) | exact HB.out)) hb); clear HB; have HB := n0_; clear n0_; (try clear hb); (try clear hb2); (try clear hk); (try clear hi)))
          repeat (go_quiet (first | (go_at_call 10; (with_reducible refine (dover_May.calls _ _ l0 a1 true _ ?side1 ?side2 A8.out).mono ?_); (case side1 => repeat (first | exact (Kd.C_below HR0.out HB.out) | (with_reducible refine Kd.C_alloc ?_ _) | (with_reducible refine Kd.C_drewN ?_ _) | (with_reducible refine Kd.C_drew ?_))); (case side2 => exact HC0.out); rintro e w11 ⟨rfl, hb⟩; have n0_ := Aside0.mk (below_step (by repeat (first | (with_reducible first | exact HB.out | apply below_alloc | apply pw_below_drewN | apply below_drew1) | exact HB.out)) hb); clear HB; have HB := n0_; clear n0_; (try clear hb); (try clear hb2); (try clear hk); (try clear hi))); try go_wp2_with (first | (go_at_call 10; (with_reducible refine (dover_May.calls _ _ l0 a1 true _ ?side1 ?side2 A8.out).mono ?_); (case side1 => repeat (first | exact (Kd.C_below HR0.out HB.out) | (with_reducible refine Kd.C_alloc ?_ _) | (with_reducible refine Kd.C_drewN ?_ _) | (with_reducible refine Kd.C_drew ?_))); (case side2 => exact HC0.out); rintro e w11 ⟨rfl, hb⟩; have n0_ := Aside0.mk (below_step (by repeat (first | (with_reducible first | exact HB.out | apply below_alloc | apply pw_below_drewN | apply below_drew1) | exact HB.out)) hb); clear HB; have HB := n0_; clear n0_; (try clear hb); (try clear hb2); (try clear hk); (try clear hi))))
          go_meet
          case rel => exact ⟨_, (true), (by first | rfl | (simp; done) | (simp [*]; done)), H', ⟨by first | omega | exact Nat.le_refl _⟩, ⟨by repeat (first | (with_reducible first | exact HB.out | apply below_alloc | apply pw_below_drewN | apply below_drew1) | exact HB.out)⟩⟩
        · rw [if_neg c10] at H
          have c10b0 : decide (400 < (l2.length : Int)) = false := decide_eq_false c10
          have c10b1 : decide (400 < l2.length) = false := decide_eq_false (by omega)
          clear c10
          (first | rw [c10b0] | (simp only [i64_w, i32_w]; rw [c10b0]) | skip)
          have H' := Aside0.mk H
          clear H
          go_wp2_with (first | (go_at_call 10; (with_reducible refine (dover_May.calls _ _ l0 a1 true _ ?side1 ?side2 A8.out).mono ?_); (case side1 => repeat (first | exact (Kd.C_below HR0.out HB.out) | (with_reducible refine Kd.C_alloc ?_ _) | (with_reducible refine Kd.C_drewN ?_ _) | (with_reducible refine Kd.C_drew ?_))); (case side2 => exact HC0.out); rintro e w12 ⟨rfl, hb⟩; have n0_ := Aside0.mk (below_step (by repeat (first | (with_reducible first | exact HB.out | apply below_alloc | apply pw_below_drewN | apply below_drew1) | exact HB.out)) hb); clear HB; have HB := n0_; clear n0_; (try clear hb); (try clear hb2); (try clear hk); (try clear hi)))
          repeat (go_quiet (first | (go_at_call 10; (with_reducible refine (dover_May.calls _ _ l0 a1 true _ ?side1 ?side2 A8.out).mono ?_); (case side1 => repeat (first | exact (Kd.C_below HR0.out HB.out) | (with_reducible refine Kd.C_alloc ?_ _) | (with_reducible refine Kd.C_drewN ?_ _) | (with_reducible refine Kd.C_drew ?_))); (case side2 => exact HC0.out); rintro e w12 ⟨rfl, hb⟩; have n0_ := Aside0.mk (below_step (by repeat (first | (with_reducible first | exact HB.out | apply below_alloc | apply pw_below_drewN | apply below_drew1) | exact HB.out)) hb); clear HB; have HB := n0_; clear n0_; (try clear hb); (try clear hb2); (try clear hk); (try clear hi))); try go_wp2_with (first | (go_at_call 10; (with_reducible refine (dover_May.calls _ _ l0 a1 true _ ?side1 ?side2 A8.out).mono ?_); (case side1 => repeat (first | exact (Kd.C_below HR0.out HB.out) | (with_reducible refine Kd.C_alloc ?_ _) | (with_reducible refine Kd.C_drewN ?_ _) | (with_reducible refine Kd.C_drew ?_))); (case side2 => exact HC0.out); rintro e w12 ⟨rfl, hb⟩; have n0_ := Aside0.mk (below_step (by repeat (first | (with_reducible first | exact HB.out | apply below_alloc | apply pw_below_drewN | apply below_drew1) | exact HB.out)) hb); clear HB; have HB := n0_; clear n0_; (try clear hb); (try clear hb2); (try clear hk); (try clear hi))))
          go_meet
          case rel => exact ⟨_, (decide (a1 > 274877906944)), (by first | rfl | (simp; done) | (simp [*]; done)), H', ⟨by first | omega | exact Nat.le_refl _⟩, ⟨by repeat (first | (with_reducible first | exact HB.out | apply below_alloc | apply pw_below_drewN | apply below_drew1) | exact HB.out)⟩⟩
      · replace c9 := Bool.eq_false_iff.mpr c9
        subst c9
        have H1 : (fuseelaw13_DoverRival.j0 k l0 a1 l2 true true) = some r := by rw [if_neg (show ¬ (false = true) by decide)] at H; exact H
        clear H
        have H := H1
        clear H1
        have H' := Aside0.mk H
        clear H
        go_wp2_with (first | (go_at_call 10; (with_reducible refine (dover_May.calls _ _ l0 a1 false _ ?side1 ?side2 A8.out).mono ?_); (case side1 => repeat (first | exact (Kd.C_below HR0.out HB.out) | (with_reducible refine Kd.C_alloc ?_ _) | (with_reducible refine Kd.C_drewN ?_ _) | (with_reducible refine Kd.C_drew ?_))); (case side2 => exact HC0.out); rintro e w13 ⟨rfl, hb⟩; have n0_ := Aside0.mk (below_step (by repeat (first | (with_reducible first | exact HB.out | apply below_alloc | apply pw_below_drewN | apply below_drew1) | exact HB.out)) hb); clear HB; have HB := n0_; clear n0_; (try clear hb); (try clear hb2); (try clear hk); (try clear hi)))
        repeat (go_quiet (first | (go_at_call 10; (with_reducible refine (dover_May.calls _ _ l0 a1 false _ ?side1 ?side2 A8.out).mono ?_); (case side1 => repeat (first | exact (Kd.C_below HR0.out HB.out) | (with_reducible refine Kd.C_alloc ?_ _) | (with_reducible refine Kd.C_drewN ?_ _) | (with_reducible refine Kd.C_drew ?_))); (case side2 => exact HC0.out); rintro e w13 ⟨rfl, hb⟩; have n0_ := Aside0.mk (below_step (by repeat (first | (with_reducible first | exact HB.out | apply below_alloc | apply pw_below_drewN | apply below_drew1) | exact HB.out)) hb); clear HB; have HB := n0_; clear n0_; (try clear hb); (try clear hb2); (try clear hk); (try clear hi))); try go_wp2_with (first | (go_at_call 10; (with_reducible refine (dover_May.calls _ _ l0 a1 false _ ?side1 ?side2 A8.out).mono ?_); (case side1 => repeat (first | exact (Kd.C_below HR0.out HB.out) | (with_reducible refine Kd.C_alloc ?_ _) | (with_reducible refine Kd.C_drewN ?_ _) | (with_reducible refine Kd.C_drew ?_))); (case side2 => exact HC0.out); rintro e w13 ⟨rfl, hb⟩; have n0_ := Aside0.mk (below_step (by repeat (first | (with_reducible first | exact HB.out | apply below_alloc | apply pw_below_drewN | apply below_drew1) | exact HB.out)) hb); clear HB; have HB := n0_; clear n0_; (try clear hb); (try clear hb2); (try clear hk); (try clear hi))))
        go_meet
        case rel => exact ⟨_, (true), (by first | rfl | (simp; done) | (simp [*]; done)), H', ⟨by first | omega | exact Nat.le_refl _⟩, ⟨by repeat (first | (with_reducible first | exact HB.out | apply below_alloc | apply pw_below_drewN | apply below_drew1) | exact HB.out)⟩⟩
    · replace c7 := Bool.eq_false_iff.mpr c7
      subst c7
      have H1 : (fuseelaw13_DoverRival.j0 k l0 a1 l2 false true) = some r := by rw [if_neg (show ¬ (false = true) by decide)] at H; exact H
      clear H
      have H := H1
      clear H1
      have H' := Aside0.mk H
      clear H
      go_wp2
      repeat (go_quiet (fail); try go_wp2)
      go_meet
      case rel => exact ⟨_, (true), (by first | rfl | (simp; done) | (simp [*]; done)), H', ⟨by first | omega | exact Nat.le_refl _⟩, ⟨by repeat (first | (with_reducible first | exact HB.out | apply below_alloc | apply pw_below_drewN | apply below_drew1) | exact HB.out)⟩⟩
  case rest =>
    clear HC5
    try clear c1
    try clear c2
    try clear p2
    try clear c4
    try clear c7
    try clear c9
    try clear c10
    try clear c10b0
    try clear c10b1
    obtain ⟨kq, x29_4, rfl, HA, HJ4, HB⟩ := hcut
    cases kq with
    | zero => exact absurd HA.out (by simp [fuseelaw13_DoverRival.j0])
    | succ kj4 =>
      have H := HA.out
      clear HA
      simp only [fuseelaw13_DoverRival.j0] at H
      by_cases c14 : x29_4 = true
      · subst c14
        have H1 : (some t176) = some r := by rw [if_pos rfl] at H; exact H
        clear H
        have H := H1
        clear H1
        obtain rfl := Option.some.inj H
        go_wp2
        repeat (go_quiet (fail); try go_wp2)
        go_ret
        exact ⟨by first | rfl | (simp [errW_none, errW_some] <;> rfl) | (simp [*, errW_none, errW_some] <;> rfl), by repeat (first | (with_reducible first | exact HB.out | apply below_alloc | apply pw_below_drewN | apply below_drew1) | exact HB.out)⟩
      · replace c14 := Bool.eq_false_iff.mpr c14
        subst c14
        have H1 : (if ([] : List (S29)).length + l0.length < 3518437208883 then (fuseelaw13_DoverRival.l0 kj4 l0 a1 l2 (([] : List (S29)) ++ l0) 0) else (none)) = some r := by rw [if_neg (show ¬ (false = true) by decide)] at H; exact H
        clear H
        have H := H1
        clear H1
        by_cases c15 : ([] : List (S29)).length + l0.length < 3518437208883
        · rw [if_pos c15] at H
          have LMc15 := Aside0.mk c15
          clear c15
          obtain ⟨y178, hy178⟩ : ∃ y_ : List (S29), y_ = (([] : List (S29)) ++ l0) := ⟨_, rfl⟩
          replace H : (fuseelaw13_DoverRival.l0 kj4 l0 a1 l2 y178 0) = some r := by first | (rw [hy178]; with_reducible exact H) | (have H2_ := (Option.bind_some _ _).symm.trans H; rw [hy178]; with_reducible exact H2_) | (have H2_ := (Option.bind_some _ _).symm.trans H; with_reducible exact H2_) | with_reducible exact H | (rw [hy178]; exact H) | exact H
          have Ny178 := Aside0.mk hy178
          clear hy178
          have H' := Aside0.mk H
          clear H
          go_wp2_with (first | ((with_reducible refine gate_builtin (b := .append) (xs := #[.const (.slice none 0 0), .tmp 31]) rfl ?_); (try (refine gate_guard (by rfl) ?_; dsimp only)); at_builtin; refine Kd.R_append_rows k29 (w0 := w) w.heap.size rfl (.const (.slice none 0 0)) (.tmp 31) 22 29 (.agg #[(.int .i64 0), (.int .i64 0), (.int .i64 0), (.int .i64 0), (.int .i64 0)]) 40 rfl Try.underlying22 info29 rfl (by decide) (by omega) (.slice none 0 0) ([] : List (S29)) l0 _ _ _ (fun _ => True) (fun _ => False) rfl rfl ?aO ?aR (fun _ _ h => h) (fun _ h => h.elim) ?aF ?aB ?aS ?aL ?_; (case aR => repeat (first | exact (Kd.C_below HR0.out HB.out) | (with_reducible refine Kd.C_alloc ?_ _) | (with_reducible refine Kd.C_drewN ?_ _) | (with_reducible refine Kd.C_drew ?_))); (case aB => exact (by repeat (first | (with_reducible first | exact HB.out | apply below_alloc | apply pw_below_drewN | apply below_drew1) | exact HB.out))); (case aF => exact (fun _ _ => trivial)); (case aO => exact ((Kd.R_nil _ _ _ _ (fun _ => True)))); (case aS => exact (below_size (by repeat (first | (with_reducible first | exact HB.out | apply below_alloc | apply pw_below_drewN | apply below_drew1) | exact HB.out)))); (case aL => have := LMc15.out; omega); intro v179 w16 ho hb hg hat; rw [← Ny178.out] at ho; have n0_ := Aside0.mk (hb); have n1_ := Aside0.mk (ho); clear HB; have HB := n0_; have HO180 := n1_; clear n0_ n1_; clear ho hb hg hat))
          repeat (go_quiet (first | ((with_reducible refine gate_builtin (b := .append) (xs := #[.const (.slice none 0 0), .tmp 31]) rfl ?_); (try (refine gate_guard (by rfl) ?_; dsimp only)); at_builtin; refine Kd.R_append_rows k29 (w0 := w) w.heap.size rfl (.const (.slice none 0 0)) (.tmp 31) 22 29 (.agg #[(.int .i64 0), (.int .i64 0), (.int .i64 0), (.int .i64 0), (.int .i64 0)]) 40 rfl Try.underlying22 info29 rfl (by decide) (by omega) (.slice none 0 0) ([] : List (S29)) l0 _ _ _ (fun _ => True) (fun _ => False) rfl rfl ?aO ?aR (fun _ _ h => h) (fun _ h => h.elim) ?aF ?aB ?aS ?aL ?_; (case aR => repeat (first | exact (Kd.C_below HR0.out HB.out) | (with_reducible refine Kd.C_alloc ?_ _) | (with_reducible refine Kd.C_drewN ?_ _) | (with_reducible refine Kd.C_drew ?_))); (case aB => exact (by repeat (first | (with_reducible first | exact HB.out | apply below_alloc | apply pw_below_drewN | apply below_drew1) | exact HB.out))); (case aF => exact (fun _ _ => trivial)); (case aO => exact ((Kd.R_nil _ _ _ _ (fun _ => True)))); (case aS => exact (below_size (by repeat (first | (with_reducible first | exact HB.out | apply below_alloc | apply pw_below_drewN | apply below_drew1) | exact HB.out)))); (case aL => have := LMc15.out; omega); intro v179 w16 ho hb hg hat; rw [← Ny178.out] at ho; have n0_ := Aside0.mk (hb); have n1_ := Aside0.mk (ho); clear HB; have HB := n0_; have HO180 := n1_; clear n0_ n1_; clear ho hb hg hat)); try go_wp2_with (first | ((with_reducible refine gate_builtin (b := .append) (xs := #[.const (.slice none 0 0), .tmp 31]) rfl ?_); (try (refine gate_guard (by rfl) ?_; dsimp only)); at_builtin; refine Kd.R_append_rows k29 (w0 := w) w.heap.size rfl (.const (.slice none 0 0)) (.tmp 31) 22 29 (.agg #[(.int .i64 0), (.int .i64 0), (.int .i64 0), (.int .i64 0), (.int .i64 0)]) 40 rfl Try.underlying22 info29 rfl (by decide) (by omega) (.slice none 0 0) ([] : List (S29)) l0 _ _ _ (fun _ => True) (fun _ => False) rfl rfl ?aO ?aR (fun _ _ h => h) (fun _ h => h.elim) ?aF ?aB ?aS ?aL ?_; (case aR => repeat (first | exact (Kd.C_below HR0.out HB.out) | (with_reducible refine Kd.C_alloc ?_ _) | (with_reducible refine Kd.C_drewN ?_ _) | (with_reducible refine Kd.C_drew ?_))); (case aB => exact (by repeat (first | (with_reducible first | exact HB.out | apply below_alloc | apply pw_below_drewN | apply below_drew1) | exact HB.out))); (case aF => exact (fun _ _ => trivial)); (case aO => exact ((Kd.R_nil _ _ _ _ (fun _ => True)))); (case aS => exact (below_size (by repeat (first | (with_reducible first | exact HB.out | apply below_alloc | apply pw_below_drewN | apply below_drew1) | exact HB.out)))); (case aL => have := LMc15.out; omega); intro v179 w16 ho hb hg hat; rw [← Ny178.out] at ho; have n0_ := Aside0.mk (hb); have n1_ := Aside0.mk (ho); clear HB; have HB := n0_; have HO180 := n1_; clear n0_ n1_; clear ho hb hg hat)))
          go_loopg [9] kj4 (fun kq v9 w' => ∃ (x8_2 : List (S29)) (x9_2 : Int), v9 = .int .i64 x9_2 ∧ Aside0 (fuseelaw13_DoverRival.l0 kq l0 a1 l2 x8_2 x9_2 = some r) ∧ Aside0 (kq ≤ kj4) ∧ Aside0 (Kd.R k29 29 w' w.heap.size (fun _ => True) v179 x8_2) ∧ Aside0 (Below w.heap.size w w'))
          case atStart => exact ⟨(y178), (0), (by first | rfl | (simp; done) | (simp [*]; done)), H', ⟨Nat.le_refl _⟩, ⟨by (with_reducible repeat (first | apply Kd.R_alloc | apply Kd.R_drewN | apply Kd.R_drew)); exact HO180.out⟩, ⟨by repeat (first | (with_reducible first | exact HB.out | apply below_alloc | apply pw_below_drewN | apply below_drew1) | exact HB.out)⟩⟩
          case round =>
            clear H'
            try clear c1
            try clear c2
            try clear p2
            try clear c4
            try clear c7
            try clear c9
            try clear c10
            try clear c10b0
            try clear c10b1
            try clear c14
            try clear c15
            try clear p2
            obtain ⟨x8_2, x9_2, rfl, HA, HK2, HO_8, HB⟩ := hrel
            cases gk with
            | zero => exact absurd HA.out (by simp [fuseelaw13_DoverRival.l0])
            | succ k2 =>
              have H := HA.out
              clear HA
              simp only [fuseelaw13_DoverRival.l0] at H
              by_cases c17 : x9_2 < (l2.length : Int)
              · rw [if_pos c17] at H
                have c17b0 : decide (x9_2 < (l2.length : Int)) = true := decide_eq_true c17
                clear c17
                have H' := Aside0.mk H
                clear H
                go_wp2
                repeat (go_quiet (fail); try go_wp2)
                go_loopg [10] k2 (fun kq v10 w' => ∃ (x8_3 : List (S29)) (x10_3 : Int), v10 = .int .i64 x10_3 ∧ Aside0 (fuseelaw13_DoverRival.l1 kq l0 a1 l2 x8_3 x9_2 x10_3 = some r) ∧ Aside0 (kq ≤ k2) ∧ Aside0 (Kd.R k29 29 w' w.heap.size (fun _ => True) v179 x8_3) ∧ Aside0 (Below w.heap.size w w'))
                case atStart => exact ⟨(x8_2), (0), (by first | rfl | (simp; done) | (simp [*]; done)), H', ⟨Nat.le_refl _⟩, ⟨by (with_reducible repeat (first | apply Kd.R_alloc | apply Kd.R_drewN | apply Kd.R_drew)); exact HO_8.out⟩, ⟨by repeat (first | (with_reducible first | exact HB.out | apply below_alloc | apply pw_below_drewN | apply below_drew1) | exact HB.out)⟩⟩
                case round =>
                  clear H'
                  try clear c1
                  try clear c2
                  try clear p2
                  try clear c4
                  try clear c7
                  try clear c9
                  try clear c10
                  try clear c10b0
                  try clear c10b1
                  try clear c14
                  try clear c15
                  try clear c17
                  try clear c17b0
                  try clear p2
                  obtain ⟨x8_3, x10_3, rfl, HA, HK3, HO_8, HB⟩ := hrel
                  cases gk with
                  | zero => exact absurd HA.out (by simp [fuseelaw13_DoverRival.l1])
                  | succ k3 =>
                    have H := HA.out
                    clear HA
                    simp only [fuseelaw13_DoverRival.l1] at H
                    by_cases c18 : x10_3 < (x8_3.length : Int)
                    · rw [if_pos c18] at H
                      have c18b0 : decide (x10_3 < (x8_3.length : Int)) = true := decide_eq_true c18
                      clear c18
                      by_cases c19 : 0 ≤ x10_3
                      · rw [if_pos c19] at H
                        have c19b0 : decide (0 ≤ x10_3) = true := decide_eq_true c19
                        clear c19
                        by_cases c20 : 0 ≤ x9_2
                        · rw [if_pos c20] at H
                          have c20b0 : decide (0 ≤ x9_2) = true := decide_eq_true c20
                          clear c20
                          by_cases c21 : x9_2 < (l2.length : Int)
                          · rw [if_pos c21] at H
                            have c21b0 : decide (x9_2 < (l2.length : Int)) = true := decide_eq_true c21
                            clear c21
                            by_cases c22 : ((rd_T29 x8_3 x10_3).f0) = (rd l2 x9_2)
                            · rw [if_pos c22] at H
                              have c22b0 : (((rd_T29 x8_3 x10_3).f0) == (rd l2 x9_2)) = true := beq_iff_eq.mpr c22
                              have c22b1 : (((rd_T29 x8_3 x10_3).f0) != (rd l2 x9_2)) = false := bne_eq_false_iff_eq.mpr c22
                              clear c22
                              by_cases c23 : ((rd_T29 x8_3 x10_3).f4) < ((rd_T29 x8_3 x10_3).f2)
                              · rw [if_pos c23] at H
                                have c23b0 : decide (((rd_T29 x8_3 x10_3).f4) < ((rd_T29 x8_3 x10_3).f2)) = true := decide_eq_true c23
                                clear c23
                                by_cases c24 : (wrap64 (a1 + x9_2)) < ((rd_T29 x8_3 x10_3).f1)
                                · rw [if_pos c24] at H
                                  have c24b0 : decide ((wrap64 (a1 + x9_2)) < ((rd_T29 x8_3 x10_3).f1)) = true := decide_eq_true c24
                                  clear c24
                                  obtain ⟨y187, hy187⟩ : ∃ y_ : List (S29), y_ = (x8_3.set (x10_3 : Int).toNat (⟨(rd_T29 x8_3 x10_3).f0, (rd_T29 x8_3 x10_3).f1, (rd_T29 x8_3 x10_3).f2, (rd_T29 x8_3 x10_3).f3, wrap64 (((rd_T29 x8_3 x10_3).f4) + 1)⟩ : S29)) := ⟨_, rfl⟩
                                  replace H : (fuseelaw13_DoverRival.l1 k3 l0 a1 l2 y187 x9_2 (wrap64 (x10_3 + 1))) = some r := by first | (rw [hy187]; with_reducible exact H) | (have H2_ := (Option.bind_some _ _).symm.trans H; rw [hy187]; with_reducible exact H2_) | (have H2_ := (Option.bind_some _ _).symm.trans H; with_reducible exact H2_) | with_reducible exact H | (rw [hy187]; exact H) | exact H
                                  have Ny187 := Aside0.mk hy187
                                  clear hy187
                                  have H' := Aside0.mk H
                                  clear H
                                  obtain ⟨Ao26, co26, eo26⟩ := Kd.R_slice HO_8.out
                                  subst eo26
                                  have p181 : 0 ≤ (x10_3 : Int) := of_decide_eq_true (by first | (with_reducible assumption) | assumption)
                                  have q181 : x10_3 < (x8_3.length : Int) := of_decide_eq_true (by first | (with_reducible assumption) | assumption)
                                  obtain ⟨ad181, e181, hx181_0, hx181_1, hx181_2, hx181_3, hx181_4⟩ := at_T29 (Kd.R_reads' HO_8.out).2.2 x10_3 p181 q181
                                  cases e181
                                  replace p181 := eq_true p181
                                  replace q181 := eq_true q181
                                  have p182 : 0 ≤ (x9_2 : Int) := of_decide_eq_true (by first | (with_reducible assumption) | assumption)
                                  have q182 : x9_2 < (l2.length : Int) := of_decide_eq_true (by first | (with_reducible assumption) | assumption)
                                  obtain ⟨ad182, e182, hx182_0⟩ := Kd.at_int HR2.out x9_2 p182 q182
                                  cases e182
                                  replace hx182_0 := (HB.out.cell (World.block_lt_of_cell? w _ hx182_0)).trans hx182_0
                                  replace p182 := eq_true p182
                                  replace q182 := eq_true q182
                                  have p183 : 0 ≤ (x10_3 : Int) := of_decide_eq_true (by first | (with_reducible assumption) | assumption)
                                  have q183 : x10_3 < (x8_3.length : Int) := of_decide_eq_true (by first | (with_reducible assumption) | assumption)
                                  obtain ⟨ad183, e183, hx183_0, hx183_1, hx183_2, hx183_3, hx183_4⟩ := at_T29 (Kd.R_reads' HO_8.out).2.2 x10_3 p183 q183
                                  obtain rfl : ad181 = ad183 := (by injection e183)
                                  replace p183 := eq_true p183
                                  replace q183 := eq_true q183
                                  have p184 : 0 ≤ (x10_3 : Int) := of_decide_eq_true (by first | (with_reducible assumption) | assumption)
                                  have q184 : x10_3 < (x8_3.length : Int) := of_decide_eq_true (by first | (with_reducible assumption) | assumption)
                                  obtain ⟨ad184, e184, hx184_0, hx184_1, hx184_2, hx184_3, hx184_4⟩ := at_T29 (Kd.R_reads' HO_8.out).2.2 x10_3 p184 q184
                                  obtain rfl : ad181 = ad184 := (by injection e184)
                                  replace p184 := eq_true p184
                                  replace q184 := eq_true q184
                                  have p185 : 0 ≤ (x10_3 : Int) := of_decide_eq_true (by first | (with_reducible assumption) | assumption)
                                  have q185 : x10_3 < (x8_3.length : Int) := of_decide_eq_true (by first | (with_reducible assumption) | assumption)
                                  obtain ⟨ad185, e185, hx185_0, hx185_1, hx185_2, hx185_3, hx185_4⟩ := at_T29 (Kd.R_reads' HO_8.out).2.2 x10_3 p185 q185
                                  obtain rfl : ad181 = ad185 := (by injection e185)
                                  replace p185 := eq_true p185
                                  replace q185 := eq_true q185
                                  have p186 : 0 ≤ (x10_3 : Int) := of_decide_eq_true (by first | (with_reducible assumption) | assumption)
                                  have q186 : x10_3 < (x8_3.length : Int) := of_decide_eq_true (by first | (with_reducible assumption) | assumption)
                                  obtain ⟨ad186, e186, hx186_0, hx186_1, hx186_2, hx186_3, hx186_4⟩ := at_T29 (Kd.R_reads' HO_8.out).2.2 x10_3 p186 q186
                                  obtain rfl : ad181 = ad186 := (by injection e186)
                                  replace p186 := eq_true p186
                                  replace q186 := eq_true q186
                                  have p25 : 0 ≤ (x10_3 : Int) := of_decide_eq_true (by first | (with_reducible assumption) | assumption)
                                  have q25 : (x10_3 : Int) < ((x8_3.length : Int) : Int) := of_decide_eq_true (by first | (with_reducible assumption) | assumption)
                                  obtain ⟨go25, co25, eo25, gb25, gl25, cl25, HG25⟩ := Kd.R_form HO_8.out (by omega)
                                  (first | cases eo25 | (injection eo25 with ea_ en_ ec_; (first | subst ea_ | (injection ea_ with ea_; subst ea_)); subst ec_; clear en_))
                                  have GB25 := Aside0.mk gb25
                                  have GG25 := Aside0.mk HG25
                                  clear gb25 gl25 HG25
                                  (first | simp only [add_plain] at hx181_0 | skip)
                                  (first | simp only [add_plain] at hx181_1 | skip)
                                  (first | simp only [add_plain] at hx181_2 | skip)
                                  (first | simp only [add_plain] at hx181_3 | skip)
                                  (first | simp only [add_plain] at hx181_4 | skip)
                                  (first | simp only [add_plain] at hx183_0 | skip)
                                  (first | simp only [add_plain] at hx183_1 | skip)
                                  (first | simp only [add_plain] at hx183_2 | skip)
                                  (first | simp only [add_plain] at hx183_3 | skip)
                                  (first | simp only [add_plain] at hx183_4 | skip)
                                  (first | simp only [add_plain] at hx184_0 | skip)
                                  (first | simp only [add_plain] at hx184_1 | skip)
                                  (first | simp only [add_plain] at hx184_2 | skip)
                                  (first | simp only [add_plain] at hx184_3 | skip)
                                  (first | simp only [add_plain] at hx184_4 | skip)
                                  (first | simp only [add_plain] at hx185_0 | skip)
                                  (first | simp only [add_plain] at hx185_1 | skip)
                                  (first | simp only [add_plain] at hx185_2 | skip)
                                  (first | simp only [add_plain] at hx185_3 | skip)
                                  (first | simp only [add_plain] at hx185_4 | skip)
                                  (first | simp only [add_plain] at hx186_0 | skip)
                                  (first | simp only [add_plain] at hx186_1 | skip)
                                  (first | simp only [add_plain] at hx186_2 | skip)
                                  (first | simp only [add_plain] at hx186_3 | skip)
                                  (first | simp only [add_plain] at hx186_4 | skip)
                                  obtain ⟨ce25, hcl25, hM25, hcc25, hfr25⟩ := Kd.R_elem HO_8.out z29 (x10_3 : Int) p25 q25
                                  obtain rfl := k29_openM hM25
                                  have hx25_0 : wr.cell? ⟨go25, (x10_3 : Int).toNat * 5, none⟩ = some (.int .i64 ((rd_T29 x8_3 x10_3).f0)) := hcc25 0 _ rfl
                                  have hx25_1 : wr.cell? ⟨go25, (x10_3 : Int).toNat * 5 + 1, none⟩ = some (.int .i64 ((rd_T29 x8_3 x10_3).f1)) := hcc25 1 _ rfl
                                  have hx25_2 : wr.cell? ⟨go25, (x10_3 : Int).toNat * 5 + 2, none⟩ = some (.int .i64 ((rd_T29 x8_3 x10_3).f2)) := hcc25 2 _ rfl
                                  have hx25_3 : wr.cell? ⟨go25, (x10_3 : Int).toNat * 5 + 3, none⟩ = some (.int .i64 ((rd_T29 x8_3 x10_3).f3)) := hcc25 3 _ rfl
                                  have hx25_4 : wr.cell? ⟨go25, (x10_3 : Int).toNat * 5 + 4, none⟩ = some (.int .i64 ((rd_T29 x8_3 x10_3).f4)) := hcc25 4 _ rfl
                                  have hf25_0 : wr.frozen? ⟨go25, (x10_3 : Int).toNat * 5, none⟩ = false := hfr25 0
                                  have hf25_1 : wr.frozen? ⟨go25, (x10_3 : Int).toNat * 5 + 1, none⟩ = false := hfr25 1
                                  have hf25_2 : wr.frozen? ⟨go25, (x10_3 : Int).toNat * 5 + 2, none⟩ = false := hfr25 2
                                  have hf25_3 : wr.frozen? ⟨go25, (x10_3 : Int).toNat * 5 + 3, none⟩ = false := hfr25 3
                                  have hf25_4 : wr.frozen? ⟨go25, (x10_3 : Int).toNat * 5 + 4, none⟩ = false := hfr25 4
                                  clear hcl25 hcc25 hfr25 hM25
                                  replace p25 := eq_true p25
                                  replace q25 := eq_true q25
                                  have HX27 := Aside0.mk (show Kd.R k29 29 wr w.heap.size (fun _ => True) (.slice (some ⟨go25, 0, none⟩) x8_3.length co26) x8_3 from (by (with_reducible repeat (first | apply Kd.R_alloc | apply Kd.R_drewN | apply Kd.R_drew)); exact HO_8.out))
                                  obtain ⟨ce27, hcl27, hM27, hcc27, hfr27⟩ := Kd.R_elem HX27.out z29 (x10_3 : Int) (of_decide_eq_true (by first | (with_reducible assumption) | assumption)) (by have h_ : (x10_3 : Int) < ((x8_3.length : Int) : Int) := of_decide_eq_true (by first | (with_reducible assumption) | assumption); first | exact h_ | (have e_ := (Kd.R_reads' HO_8.out).1; omega) | simpa using h_)
                                  obtain rfl := k29_openM hM27
                                  have HP27 := Kd.R_seg HX27.out (x10_3 : Int) (of_decide_eq_true (by first | (with_reducible assumption) | assumption)) (by have h_ : (x10_3 : Int) < ((x8_3.length : Int) : Int) := of_decide_eq_true (by first | (with_reducible assumption) | assumption); first | exact h_ | (have e_ := (Kd.R_reads' HO_8.out).1; omega) | simpa using h_) (seg := [.int .i64 (wrap64 (((rd_T29 x8_3 x10_3).f4) + 1))]) (j := 4) hcl27 hcc27 (show 5 ≤ 5 from by decide) (x' := (⟨(rd_T29 x8_3 x10_3).f0, (rd_T29 x8_3 x10_3).f1, (rd_T29 x8_3 x10_3).f2, (rd_T29 x8_3 x10_3).f3, wrap64 (((rd_T29 x8_3 x10_3).f4) + 1)⟩ : S29)) (k29_mkM _ _ _ (⟨(rd_T29 x8_3 x10_3).f0, (rd_T29 x8_3 x10_3).f1, (rd_T29 x8_3 x10_3).f2, (rd_T29 x8_3 x10_3).f3, wrap64 (((rd_T29 x8_3 x10_3).f4) + 1)⟩ : S29) ) (fun _ hk => hk)
                                  have hx27_4 := hcc27 4 _ rfl
                                  (try simp only [show (k29).sz = 5 from rfl, Nat.mul_one, Nat.add_zero] at hx27_4)
                                  have hf27_4 := hfr27 4
                                  (try simp only [show (k29).sz = 5 from rfl, Nat.mul_one, Nat.add_zero] at hf27_4)
                                  clear hcl27 hcc27 hfr27 hM27
                                  go_wp2_with (first | ((with_reducible refine gate_store (t := 3) (p := 88) rfl ?_); (try (rw [drewN_self wr]; generalize hq_ : World.drewN wr _ = wr; have n0_ := Aside0.mk (Kd.R_at hq_ HO_8.out); have n1_ := Aside0.mk (below_at hq_ HB.out); clear hq_ HO_8 HB; have HO_8 := n0_; have HB := n1_; clear n0_ n1_; (try (have HX27 := Aside0.mk (show Kd.R k29 29 wr w.heap.size (fun _ => True) (.slice (some ⟨go25, 0, none⟩) x8_3.length co26) x8_3 from (by (with_reducible repeat (first | apply Kd.R_alloc | apply Kd.R_drewN | apply Kd.R_drew)); exact HO_8.out)))); (try (obtain ⟨ce27, hcl27, hM27, hcc27, hfr27⟩ := Kd.R_elem HX27.out z29 (x10_3 : Int) (of_decide_eq_true (by first | (with_reducible assumption) | assumption)) (by have h_ : (x10_3 : Int) < ((x8_3.length : Int) : Int) := of_decide_eq_true (by first | (with_reducible assumption) | assumption); first | exact h_ | (have e_ := (Kd.R_reads' HO_8.out).1; omega) | simpa using h_))); (try (obtain rfl := k29_openM hM27)); (try (have HP27 := Kd.R_seg HX27.out (x10_3 : Int) (of_decide_eq_true (by first | (with_reducible assumption) | assumption)) (by have h_ : (x10_3 : Int) < ((x8_3.length : Int) : Int) := of_decide_eq_true (by first | (with_reducible assumption) | assumption); first | exact h_ | (have e_ := (Kd.R_reads' HO_8.out).1; omega) | simpa using h_) (seg := [.int .i64 (wrap64 (((rd_T29 x8_3 x10_3).f4) + 1))]) (j := 4) hcl27 hcc27 (show 5 ≤ 5 from by decide) (x' := (⟨(rd_T29 x8_3 x10_3).f0, (rd_T29 x8_3 x10_3).f1, (rd_T29 x8_3 x10_3).f2, (rd_T29 x8_3 x10_3).f3, wrap64 (((rd_T29 x8_3 x10_3).f4) + 1)⟩ : S29)) (k29_mkM _ _ _ (⟨(rd_T29 x8_3 x10_3).f0, (rd_T29 x8_3 x10_3).f1, (rd_T29 x8_3 x10_3).f2, (rd_T29 x8_3 x10_3).f3, wrap64 (((rd_T29 x8_3 x10_3).f4) + 1)⟩ : S29) ) (fun _ hk => hk))); (try (have hx27_4 := hcc27 4 _ rfl)); (try (try simp only [show (k29).sz = 5 from rfl, Nat.mul_one, Nat.add_zero] at hx27_4)); (try (have hf27_4 := hfr27 4)); (try (try simp only [show (k29).sz = 5 from rfl, Nat.mul_one, Nat.add_zero] at hf27_4)); (try (clear hcl27 hcc27 hfr27 hM27)))); refine store_event (t := 3) (p := 88) (v := ?vo_w28) (w1 := (wr.setCell ⟨go25, (x10_3 : Int).toNat * 5 + 4, none⟩ (.int .i64 (wrap64 (((rd_T29 x8_3 x10_3).f4) + 1))))) ?hg ?ho ?hn ?hr ?_; (case ho => rfl); (case hg => rfl); (case hn => rfl); (case hr => first | (go_simp; done) | (go_simp; rfl)); intro w28 hw; have hg : wr.grownBy w28 (some go25) := (by rw [hw]; exact HP27.2); have hp_ : Kd.R k29 29 w28 w.heap.size (fun _ => True) (.slice (some ⟨go25, 0, none⟩) x8_3.length co26) y187 := (by rw [hw, Ny187.out]; exact HP27.1); clear HP27; have n0_ := Aside0.mk (hp_); have n1_ := Aside0.mk ((by rw [hw]; exact below_set (HB.out) GB25.out : Below w.heap.size w w28)); clear HO_8; clear HB; have HO_8 := n0_; have HB := n1_; clear n0_ n1_; clear hg hw hp_))
                                  repeat (go_quiet (first | ((with_reducible refine gate_store (t := 3) (p := 88) rfl ?_); (try (rw [drewN_self wr]; generalize hq_ : World.drewN wr _ = wr; have n0_ := Aside0.mk (Kd.R_at hq_ HO_8.out); have n1_ := Aside0.mk (below_at hq_ HB.out); clear hq_ HO_8 HB; have HO_8 := n0_; have HB := n1_; clear n0_ n1_; (try (have HX27 := Aside0.mk (show Kd.R k29 29 wr w.heap.size (fun _ => True) (.slice (some ⟨go25, 0, none⟩) x8_3.length co26) x8_3 from (by (with_reducible repeat (first | apply Kd.R_alloc | apply Kd.R_drewN | apply Kd.R_drew)); exact HO_8.out)))); (try (obtain ⟨ce27, hcl27, hM27, hcc27, hfr27⟩ := Kd.R_elem HX27.out z29 (x10_3 : Int) (of_decide_eq_true (by first | (with_reducible assumption) | assumption)) (by have h_ : (x10_3 : Int) < ((x8_3.length : Int) : Int) := of_decide_eq_true (by first | (with_reducible assumption) | assumption); first | exact h_ | (have e_ := (Kd.R_reads' HO_8.out).1; omega) | simpa using h_))); (try (obtain rfl := k29_openM hM27)); (try (have HP27 := Kd.R_seg HX27.out (x10_3 : Int) (of_decide_eq_true (by first | (with_reducible assumption) | assumption)) (by have h_ : (x10_3 : Int) < ((x8_3.length : Int) : Int) := of_decide_eq_true (by first | (with_reducible assumption) | assumption); first | exact h_ | (have e_ := (Kd.R_reads' HO_8.out).1; omega) | simpa using h_) (seg := [.int .i64 (wrap64 (((rd_T29 x8_3 x10_3).f4) + 1))]) (j := 4) hcl27 hcc27 (show 5 ≤ 5 from by decide) (x' := (⟨(rd_T29 x8_3 x10_3).f0, (rd_T29 x8_3 x10_3).f1, (rd_T29 x8_3 x10_3).f2, (rd_T29 x8_3 x10_3).f3, wrap64 (((rd_T29 x8_3 x10_3).f4) + 1)⟩ : S29)) (k29_mkM _ _ _ (⟨(rd_T29 x8_3 x10_3).f0, (rd_T29 x8_3 x10_3).f1, (rd_T29 x8_3 x10_3).f2, (rd_T29 x8_3 x10_3).f3, wrap64 (((rd_T29 x8_3 x10_3).f4) + 1)⟩ : S29) ) (fun _ hk => hk))); (try (have hx27_4 := hcc27 4 _ rfl)); (try (try simp only [show (k29).sz = 5 from rfl, Nat.mul_one, Nat.add_zero] at hx27_4)); (try (have hf27_4 := hfr27 4)); (try (try simp only [show (k29).sz = 5 from rfl, Nat.mul_one, Nat.add_zero] at hf27_4)); (try (clear hcl27 hcc27 hfr27 hM27)))); refine store_event (t := 3) (p := 88) (v := ?vo_w28) (w1 := (wr.setCell ⟨go25, (x10_3 : Int).toNat * 5 + 4, none⟩ (.int .i64 (wrap64 (((rd_T29 x8_3 x10_3).f4) + 1))))) ?hg ?ho ?hn ?hr ?_; (case ho => rfl); (case hg => rfl); (case hn => rfl); (case hr => first | (go_simp; done) | (go_simp; rfl)); intro w28 hw; have hg : wr.grownBy w28 (some go25) := (by rw [hw]; exact HP27.2); have hp_ : Kd.R k29 29 w28 w.heap.size (fun _ => True) (.slice (some ⟨go25, 0, none⟩) x8_3.length co26) y187 := (by rw [hw, Ny187.out]; exact HP27.1); clear HP27; have n0_ := Aside0.mk (hp_); have n1_ := Aside0.mk ((by rw [hw]; exact below_set (HB.out) GB25.out : Below w.heap.size w w28)); clear HO_8; clear HB; have HO_8 := n0_; have HB := n1_; clear n0_ n1_; clear hg hw hp_)); try go_wp2_with (first | ((with_reducible refine gate_store (t := 3) (p := 88) rfl ?_); (try (rw [drewN_self wr]; generalize hq_ : World.drewN wr _ = wr; have n0_ := Aside0.mk (Kd.R_at hq_ HO_8.out); have n1_ := Aside0.mk (below_at hq_ HB.out); clear hq_ HO_8 HB; have HO_8 := n0_; have HB := n1_; clear n0_ n1_; (try (have HX27 := Aside0.mk (show Kd.R k29 29 wr w.heap.size (fun _ => True) (.slice (some ⟨go25, 0, none⟩) x8_3.length co26) x8_3 from (by (with_reducible repeat (first | apply Kd.R_alloc | apply Kd.R_drewN | apply Kd.R_drew)); exact HO_8.out)))); (try (obtain ⟨ce27, hcl27, hM27, hcc27, hfr27⟩ := Kd.R_elem HX27.out z29 (x10_3 : Int) (of_decide_eq_true (by first | (with_reducible assumption) | assumption)) (by have h_ : (x10_3 : Int) < ((x8_3.length : Int) : Int) := of_decide_eq_true (by first | (with_reducible assumption) | assumption); first | exact h_ | (have e_ := (Kd.R_reads' HO_8.out).1; omega) | simpa using h_))); (try (obtain rfl := k29_openM hM27)); (try (have HP27 := Kd.R_seg HX27.out (x10_3 : Int) (of_decide_eq_true (by first | (with_reducible assumption) | assumption)) (by have h_ : (x10_3 : Int) < ((x8_3.length : Int) : Int) := of_decide_eq_true (by first | (with_reducible assumption) | assumption); first | exact h_ | (have e_ := (Kd.R_reads' HO_8.out).1; omega) | simpa using h_) (seg := [.int .i64 (wrap64 (((rd_T29 x8_3 x10_3).f4) + 1))]) (j := 4) hcl27 hcc27 (show 5 ≤ 5 from by decide) (x' := (⟨(rd_T29 x8_3 x10_3).f0, (rd_T29 x8_3 x10_3).f1, (rd_T29 x8_3 x10_3).f2, (rd_T29 x8_3 x10_3).f3, wrap64 (((rd_T29 x8_3 x10_3).f4) + 1)⟩ : S29)) (k29_mkM _ _ _ (⟨(rd_T29 x8_3 x10_3).f0, (rd_T29 x8_3 x10_3).f1, (rd_T29 x8_3 x10_3).f2, (rd_T29 x8_3 x10_3).f3, wrap64 (((rd_T29 x8_3 x10_3).f4) + 1)⟩ : S29) ) (fun _ hk => hk))); (try (have hx27_4 := hcc27 4 _ rfl)); (try (try simp only [show (k29).sz = 5 from rfl, Nat.mul_one, Nat.add_zero] at hx27_4)); (try (have hf27_4 := hfr27 4)); (try (try simp only [show (k29).sz = 5 from rfl, Nat.mul_one, Nat.add_zero] at hf27_4)); (try (clear hcl27 hcc27 hfr27 hM27)))); refine store_event (t := 3) (p := 88) (v := ?vo_w28) (w1 := (wr.setCell ⟨go25, (x10_3 : Int).toNat * 5 + 4, none⟩ (.int .i64 (wrap64 (((rd_T29 x8_3 x10_3).f4) + 1))))) ?hg ?ho ?hn ?hr ?_; (case ho => rfl); (case hg => rfl); (case hn => rfl); (case hr => first | (go_simp; done) | (go_simp; rfl)); intro w28 hw; have hg : wr.grownBy w28 (some go25) := (by rw [hw]; exact HP27.2); have hp_ : Kd.R k29 29 w28 w.heap.size (fun _ => True) (.slice (some ⟨go25, 0, none⟩) x8_3.length co26) y187 := (by rw [hw, Ny187.out]; exact HP27.1); clear HP27; have n0_ := Aside0.mk (hp_); have n1_ := Aside0.mk ((by rw [hw]; exact below_set (HB.out) GB25.out : Below w.heap.size w w28)); clear HO_8; clear HB; have HO_8 := n0_; have HB := n1_; clear n0_ n1_; clear hg hw hp_)))
                                  go_roundg k3
                                  case measure => have := HJ4.out; have := HK2.out; have := HK3.out; omega
                                  case rel => exact ⟨(y187), (wrap64 (x10_3 + 1)), (by first | rfl | (simp; done) | (simp [*]; done)), H', ⟨by have := HJ4.out; have := HK2.out; have := HK3.out; omega⟩, ⟨by (with_reducible repeat (first | apply Kd.R_alloc | apply Kd.R_drewN | apply Kd.R_drew)); exact HO_8.out⟩, ⟨by repeat (first | (with_reducible first | exact HB.out | apply below_alloc | apply pw_below_drewN | apply below_drew1) | exact HB.out)⟩⟩
                                · rw [if_neg c24] at H
                                  have c24b0 : decide ((wrap64 (a1 + x9_2)) < ((rd_T29 x8_3 x10_3).f1)) = false := decide_eq_false c24
                                  clear c24
                                  have H' := Aside0.mk H
                                  clear H
                                  obtain ⟨Ao29, co29, eo29⟩ := Kd.R_slice HO_8.out
                                  subst eo29
                                  have p181 : 0 ≤ (x10_3 : Int) := of_decide_eq_true (by first | (with_reducible assumption) | assumption)
                                  have q181 : x10_3 < (x8_3.length : Int) := of_decide_eq_true (by first | (with_reducible assumption) | assumption)
                                  obtain ⟨ad181, e181, hx181_0, hx181_1, hx181_2, hx181_3, hx181_4⟩ := at_T29 (Kd.R_reads' HO_8.out).2.2 x10_3 p181 q181
                                  cases e181
                                  replace p181 := eq_true p181
                                  replace q181 := eq_true q181
                                  have p182 : 0 ≤ (x9_2 : Int) := of_decide_eq_true (by first | (with_reducible assumption) | assumption)
                                  have q182 : x9_2 < (l2.length : Int) := of_decide_eq_true (by first | (with_reducible assumption) | assumption)
                                  obtain ⟨ad182, e182, hx182_0⟩ := Kd.at_int HR2.out x9_2 p182 q182
                                  cases e182
                                  replace hx182_0 := (HB.out.cell (World.block_lt_of_cell? w _ hx182_0)).trans hx182_0
                                  replace p182 := eq_true p182
                                  replace q182 := eq_true q182
                                  have p183 : 0 ≤ (x10_3 : Int) := of_decide_eq_true (by first | (with_reducible assumption) | assumption)
                                  have q183 : x10_3 < (x8_3.length : Int) := of_decide_eq_true (by first | (with_reducible assumption) | assumption)
                                  obtain ⟨ad183, e183, hx183_0, hx183_1, hx183_2, hx183_3, hx183_4⟩ := at_T29 (Kd.R_reads' HO_8.out).2.2 x10_3 p183 q183
                                  obtain rfl : ad181 = ad183 := (by injection e183)
                                  replace p183 := eq_true p183
                                  replace q183 := eq_true q183
                                  have p184 : 0 ≤ (x10_3 : Int) := of_decide_eq_true (by first | (with_reducible assumption) | assumption)
                                  have q184 : x10_3 < (x8_3.length : Int) := of_decide_eq_true (by first | (with_reducible assumption) | assumption)
                                  obtain ⟨ad184, e184, hx184_0, hx184_1, hx184_2, hx184_3, hx184_4⟩ := at_T29 (Kd.R_reads' HO_8.out).2.2 x10_3 p184 q184
                                  obtain rfl : ad181 = ad184 := (by injection e184)
                                  replace p184 := eq_true p184
                                  replace q184 := eq_true q184
                                  have p185 : 0 ≤ (x10_3 : Int) := of_decide_eq_true (by first | (with_reducible assumption) | assumption)
                                  have q185 : x10_3 < (x8_3.length : Int) := of_decide_eq_true (by first | (with_reducible assumption) | assumption)
                                  obtain ⟨ad185, e185, hx185_0, hx185_1, hx185_2, hx185_3, hx185_4⟩ := at_T29 (Kd.R_reads' HO_8.out).2.2 x10_3 p185 q185
                                  obtain rfl : ad181 = ad185 := (by injection e185)
                                  replace p185 := eq_true p185
                                  replace q185 := eq_true q185
                                  go_wp2
                                  repeat (go_quiet (fail); try go_wp2)
                                  go_roundg k3
                                  case measure => have := HJ4.out; have := HK2.out; have := HK3.out; omega
                                  case rel => exact ⟨(x8_3), (wrap64 (x10_3 + 1)), (by first | rfl | (simp; done) | (simp [*]; done)), H', ⟨by have := HJ4.out; have := HK2.out; have := HK3.out; omega⟩, ⟨by (with_reducible repeat (first | apply Kd.R_alloc | apply Kd.R_drewN | apply Kd.R_drew)); exact HO_8.out⟩, ⟨by repeat (first | (with_reducible first | exact HB.out | apply below_alloc | apply pw_below_drewN | apply below_drew1) | exact HB.out)⟩⟩
                              · rw [if_neg c23] at H
                                have c23b0 : decide (((rd_T29 x8_3 x10_3).f4) < ((rd_T29 x8_3 x10_3).f2)) = false := decide_eq_false c23
                                clear c23
                                have H' := Aside0.mk H
                                clear H
                                obtain ⟨Ao30, co30, eo30⟩ := Kd.R_slice HO_8.out
                                subst eo30
                                have p181 : 0 ≤ (x10_3 : Int) := of_decide_eq_true (by first | (with_reducible assumption) | assumption)
                                have q181 : x10_3 < (x8_3.length : Int) := of_decide_eq_true (by first | (with_reducible assumption) | assumption)
                                obtain ⟨ad181, e181, hx181_0, hx181_1, hx181_2, hx181_3, hx181_4⟩ := at_T29 (Kd.R_reads' HO_8.out).2.2 x10_3 p181 q181
                                cases e181
                                replace p181 := eq_true p181
                                replace q181 := eq_true q181
                                have p182 : 0 ≤ (x9_2 : Int) := of_decide_eq_true (by first | (with_reducible assumption) | assumption)
                                have q182 : x9_2 < (l2.length : Int) := of_decide_eq_true (by first | (with_reducible assumption) | assumption)
                                obtain ⟨ad182, e182, hx182_0⟩ := Kd.at_int HR2.out x9_2 p182 q182
                                cases e182
                                replace hx182_0 := (HB.out.cell (World.block_lt_of_cell? w _ hx182_0)).trans hx182_0
                                replace p182 := eq_true p182
                                replace q182 := eq_true q182
                                have p183 : 0 ≤ (x10_3 : Int) := of_decide_eq_true (by first | (with_reducible assumption) | assumption)
                                have q183 : x10_3 < (x8_3.length : Int) := of_decide_eq_true (by first | (with_reducible assumption) | assumption)
                                obtain ⟨ad183, e183, hx183_0, hx183_1, hx183_2, hx183_3, hx183_4⟩ := at_T29 (Kd.R_reads' HO_8.out).2.2 x10_3 p183 q183
                                obtain rfl : ad181 = ad183 := (by injection e183)
                                replace p183 := eq_true p183
                                replace q183 := eq_true q183
                                have p184 : 0 ≤ (x10_3 : Int) := of_decide_eq_true (by first | (with_reducible assumption) | assumption)
                                have q184 : x10_3 < (x8_3.length : Int) := of_decide_eq_true (by first | (with_reducible assumption) | assumption)
                                obtain ⟨ad184, e184, hx184_0, hx184_1, hx184_2, hx184_3, hx184_4⟩ := at_T29 (Kd.R_reads' HO_8.out).2.2 x10_3 p184 q184
                                obtain rfl : ad181 = ad184 := (by injection e184)
                                replace p184 := eq_true p184
                                replace q184 := eq_true q184
                                go_wp2
                                repeat (go_quiet (fail); try go_wp2)
                                go_roundg k3
                                case measure => have := HJ4.out; have := HK2.out; have := HK3.out; omega
                                case rel => exact ⟨(x8_3), (wrap64 (x10_3 + 1)), (by first | rfl | (simp; done) | (simp [*]; done)), H', ⟨by have := HJ4.out; have := HK2.out; have := HK3.out; omega⟩, ⟨by (with_reducible repeat (first | apply Kd.R_alloc | apply Kd.R_drewN | apply Kd.R_drew)); exact HO_8.out⟩, ⟨by repeat (first | (with_reducible first | exact HB.out | apply below_alloc | apply pw_below_drewN | apply below_drew1) | exact HB.out)⟩⟩
                            · rw [if_neg c22] at H
                              have c22b0 : (((rd_T29 x8_3 x10_3).f0) == (rd l2 x9_2)) = false := beq_eq_false_iff_ne.mpr c22
                              have c22b1 : (((rd_T29 x8_3 x10_3).f0) != (rd l2 x9_2)) = true := bne_iff_ne.mpr c22
                              have H' := Aside0.mk H
                              clear H
                              obtain ⟨Ao31, co31, eo31⟩ := Kd.R_slice HO_8.out
                              subst eo31
                              have p181 : 0 ≤ (x10_3 : Int) := of_decide_eq_true (by first | (with_reducible assumption) | assumption)
                              have q181 : x10_3 < (x8_3.length : Int) := of_decide_eq_true (by first | (with_reducible assumption) | assumption)
                              obtain ⟨ad181, e181, hx181_0, hx181_1, hx181_2, hx181_3, hx181_4⟩ := at_T29 (Kd.R_reads' HO_8.out).2.2 x10_3 p181 q181
                              cases e181
                              replace p181 := eq_true p181
                              replace q181 := eq_true q181
                              have p182 : 0 ≤ (x9_2 : Int) := of_decide_eq_true (by first | (with_reducible assumption) | assumption)
                              have q182 : x9_2 < (l2.length : Int) := of_decide_eq_true (by first | (with_reducible assumption) | assumption)
                              obtain ⟨ad182, e182, hx182_0⟩ := Kd.at_int HR2.out x9_2 p182 q182
                              cases e182
                              replace hx182_0 := (HB.out.cell (World.block_lt_of_cell? w _ hx182_0)).trans hx182_0
                              replace p182 := eq_true p182
                              replace q182 := eq_true q182
                              go_wp2
                              repeat (go_quiet (fail); try go_wp2)
                              go_roundg k3
                              case measure => have := HJ4.out; have := HK2.out; have := HK3.out; omega
                              case rel => exact ⟨(x8_3), (wrap64 (x10_3 + 1)), (by first | rfl | (simp; done) | (simp [*]; done)), H', ⟨by have := HJ4.out; have := HK2.out; have := HK3.out; omega⟩, ⟨by (with_reducible repeat (first | apply Kd.R_alloc | apply Kd.R_drewN | apply Kd.R_drew)); exact HO_8.out⟩, ⟨by repeat (first | (with_reducible first | exact HB.out | apply below_alloc | apply pw_below_drewN | apply below_drew1) | exact HB.out)⟩⟩
                          · rw [if_neg c21] at H
                            exact absurd H (by simp)
                        · rw [if_neg c20] at H
                          exact absurd H (by simp)
                      · rw [if_neg c19] at H
                        exact absurd H (by simp)
                    · rw [if_neg c18] at H
                      have c18b0 : decide (x10_3 < (x8_3.length : Int)) = false := decide_eq_false c18
                      clear c18
                      have H' := Aside0.mk H
                      clear H
                      obtain ⟨Ao32, co32, eo32⟩ := Kd.R_slice HO_8.out
                      subst eo32
                      go_wp2
                      repeat (go_quiet (fail); try go_wp2)
                      go_roundg k3
                      case measure => have := HJ4.out; have := HK2.out; have := HK3.out; omega
                      case rel => exact ⟨(x8_3), (wrap64 (x9_2 + 1)), (by first | rfl | (simp; done) | (simp [*]; done)), H', ⟨by have := HJ4.out; have := HK2.out; have := HK3.out; omega⟩, ⟨by (with_reducible repeat (first | apply Kd.R_alloc | apply Kd.R_drewN | apply Kd.R_drew)); exact HO_8.out⟩, ⟨by repeat (first | (with_reducible first | exact HB.out | apply below_alloc | apply pw_below_drewN | apply below_drew1) | exact HB.out)⟩⟩
              · rw [if_neg c17] at H
                have c17b0 : decide (x9_2 < (l2.length : Int)) = false := decide_eq_false c17
                clear c17
                have H' := Aside0.mk H
                clear H
                go_wp2
                repeat (go_quiet (fail); try go_wp2)
                go_loopg [11] k2 (fun kq v11 w' => ∃ (x11_3 : Int), v11 = .int .i64 x11_3 ∧ Aside0 (fuseelaw13_DoverRival.l2 kq l0 a1 x8_2 x11_3 = some r) ∧ Aside0 (kq ≤ k2) ∧ Aside0 (Kd.R k29 29 w' w.heap.size (fun _ => True) v179 x8_2) ∧ Aside0 (Below w.heap.size w w'))
                case atStart => exact ⟨(0), (by first | rfl | (simp; done) | (simp [*]; done)), H', ⟨Nat.le_refl _⟩, ⟨by (with_reducible repeat (first | apply Kd.R_alloc | apply Kd.R_drewN | apply Kd.R_drew)); exact HO_8.out⟩, ⟨by repeat (first | (with_reducible first | exact HB.out | apply below_alloc | apply pw_below_drewN | apply below_drew1) | exact HB.out)⟩⟩
                case round =>
                  clear H'
                  try clear c1
                  try clear p1
                  try clear q1
                  try clear hx1
                  try clear c2
                  try clear p2
                  try clear q2
                  try clear hx2
                  try clear c4
                  try clear p6
                  try clear c7
                  try clear c9
                  try clear c10
                  try clear c10b0
                  try clear c10b1
                  try clear c14
                  try clear c15
                  try clear c17
                  try clear c17b0
                  try clear c18
                  try clear c18b0
                  try clear p18
                  try clear q18
                  try clear hx18
                  try clear c19
                  try clear c19b0
                  try clear c20
                  try clear c20b0
                  try clear c21
                  try clear c21b0
                  try clear c22
                  try clear c22b0
                  try clear c22b1
                  try clear c23
                  try clear c23b0
                  try clear c24
                  try clear c24b0
                  try clear c25
                  try clear p25
                  try clear q25
                  try clear hx25
                  try clear hf25
                  try clear c27
                  try clear hx27
                  try clear hf27
                  try clear hx181_0
                  try clear hx181_1
                  try clear hx181_2
                  try clear hx181_3
                  try clear hx181_4
                  try clear hx182_0
                  try clear hx183_0
                  try clear hx183_1
                  try clear hx183_2
                  try clear hx183_3
                  try clear hx183_4
                  try clear hx184_0
                  try clear hx184_1
                  try clear hx184_2
                  try clear hx184_3
                  try clear hx184_4
                  try clear hx185_0
                  try clear hx185_1
                  try clear hx185_2
                  try clear hx185_3
                  try clear hx185_4
                  try clear hx186_0
                  try clear hx186_1
                  try clear hx186_2
                  try clear hx186_3
                  try clear hx186_4
                  try clear hx25_0
                  try clear hx25_1
                  try clear hx25_2
                  try clear hx25_3
                  try clear hx25_4
                  try clear hx27_4
                  try clear p181
                  try clear p182
                  try clear p183
                  try clear p184
                  try clear p185
                  try clear p186
                  try clear p2
                  try clear p25
                  try clear q181
                  try clear q182
                  try clear q183
                  try clear q184
                  try clear q185
                  try clear q186
                  try clear q25
                  obtain ⟨x11_3, rfl, HA, HK3, HO_8, HB⟩ := hrel
                  cases gk with
                  | zero => exact absurd HA.out (by simp [fuseelaw13_DoverRival.l2])
                  | succ k3 =>
                    have H := HA.out
                    clear HA
                    simp only [fuseelaw13_DoverRival.l2] at H
                    by_cases c33 : x11_3 < (x8_2.length : Int)
                    · rw [if_pos c33] at H
                      have c33b0 : decide (x11_3 < (x8_2.length : Int)) = true := decide_eq_true c33
                      clear c33
                      by_cases c34 : 0 ≤ x11_3
                      · rw [if_pos c34] at H
                        have c34b0 : decide (0 ≤ x11_3) = true := decide_eq_true c34
                        clear c34
                        by_cases c35 : ((rd_T29 x8_2 x11_3).f4) < ((rd_T29 x8_2 x11_3).f2)
                        · rw [if_pos c35] at H
                          have c35b0 : decide (((rd_T29 x8_2 x11_3).f4) < ((rd_T29 x8_2 x11_3).f2)) = true := decide_eq_true c35
                          clear c35
                          obtain rfl := Option.some.inj H
                          obtain ⟨Ao36, co36, eo36⟩ := Kd.R_slice HO_8.out
                          subst eo36
                          have p188 : 0 ≤ (x11_3 : Int) := of_decide_eq_true (by first | (with_reducible assumption) | assumption)
                          have q188 : x11_3 < (x8_2.length : Int) := of_decide_eq_true (by first | (with_reducible assumption) | assumption)
                          obtain ⟨ad188, e188, hx188_0, hx188_1, hx188_2, hx188_3, hx188_4⟩ := at_T29 (Kd.R_reads' HO_8.out).2.2 x11_3 p188 q188
                          cases e188
                          replace p188 := eq_true p188
                          replace q188 := eq_true q188
                          have p189 : 0 ≤ (x11_3 : Int) := of_decide_eq_true (by first | (with_reducible assumption) | assumption)
                          have q189 : x11_3 < (x8_2.length : Int) := of_decide_eq_true (by first | (with_reducible assumption) | assumption)
                          obtain ⟨ad189, e189, hx189_0, hx189_1, hx189_2, hx189_3, hx189_4⟩ := at_T29 (Kd.R_reads' HO_8.out).2.2 x11_3 p189 q189
                          obtain rfl : ad188 = ad189 := (by injection e189)
                          replace p189 := eq_true p189
                          replace q189 := eq_true q189
                          go_wp2
                          repeat (go_quiet (fail); try go_wp2)
                          go_ret
                          exact ⟨by first | rfl | (simp [errW_none, errW_some] <;> rfl) | (simp [*, errW_none, errW_some] <;> rfl), by repeat (first | (with_reducible first | exact HB.out | apply below_alloc | apply pw_below_drewN | apply below_drew1) | exact HB.out)⟩
                        · rw [if_neg c35] at H
                          have c35b0 : decide (((rd_T29 x8_2 x11_3).f4) < ((rd_T29 x8_2 x11_3).f2)) = false := decide_eq_false c35
                          clear c35
                          have H' := Aside0.mk H
                          clear H
                          obtain ⟨Ao37, co37, eo37⟩ := Kd.R_slice HO_8.out
                          subst eo37
                          have p188 : 0 ≤ (x11_3 : Int) := of_decide_eq_true (by first | (with_reducible assumption) | assumption)
                          have q188 : x11_3 < (x8_2.length : Int) := of_decide_eq_true (by first | (with_reducible assumption) | assumption)
                          obtain ⟨ad188, e188, hx188_0, hx188_1, hx188_2, hx188_3, hx188_4⟩ := at_T29 (Kd.R_reads' HO_8.out).2.2 x11_3 p188 q188
                          cases e188
                          replace p188 := eq_true p188
                          replace q188 := eq_true q188
                          have p189 : 0 ≤ (x11_3 : Int) := of_decide_eq_true (by first | (with_reducible assumption) | assumption)
                          have q189 : x11_3 < (x8_2.length : Int) := of_decide_eq_true (by first | (with_reducible assumption) | assumption)
                          obtain ⟨ad189, e189, hx189_0, hx189_1, hx189_2, hx189_3, hx189_4⟩ := at_T29 (Kd.R_reads' HO_8.out).2.2 x11_3 p189 q189
                          obtain rfl : ad188 = ad189 := (by injection e189)
                          replace p189 := eq_true p189
                          replace q189 := eq_true q189
                          go_wp2
                          repeat (go_quiet (fail); try go_wp2)
                          go_roundg k3
                          case measure => have := HJ4.out; have := HK2.out; have := HK3.out; omega
                          case rel => exact ⟨(wrap64 (x11_3 + 1)), (by first | rfl | (simp; done) | (simp [*]; done)), H', ⟨by have := HJ4.out; have := HK2.out; have := HK3.out; omega⟩, ⟨by (with_reducible repeat (first | apply Kd.R_alloc | apply Kd.R_drewN | apply Kd.R_drew)); exact HO_8.out⟩, ⟨by repeat (first | (with_reducible first | exact HB.out | apply below_alloc | apply pw_below_drewN | apply below_drew1) | exact HB.out)⟩⟩
                      · rw [if_neg c34] at H
                        exact absurd H (by simp)
                    · rw [if_neg c33] at H
                      have c33b0 : decide (x11_3 < (x8_2.length : Int)) = false := decide_eq_false c33
                      clear c33
                      replace H := Option.bind_eq_some_iff.mp H
                      obtain ⟨t190, A380, H⟩ := H
                      replace H : (some t190) = some r := H
                      have A38 := Aside0.mk A380
                      clear A380
                      obtain rfl := Option.some.inj H
                      obtain ⟨Ao39, co39, eo39⟩ := Kd.R_slice HO_8.out
                      subst eo39
                      go_wp2_with (first | (go_at_call 14; (with_reducible refine (dover_Fits.calls k3 _ _ l0 a1 t190 _ ?side1 ?side2 A38.out).mono ?_); (case side1 => repeat (first | exact (Kd.C_below HR0.out HB.out) | (with_reducible refine Kd.C_alloc ?_ _) | (with_reducible refine Kd.C_drewN ?_ _) | (with_reducible refine Kd.C_drew ?_))); (case side2 => exact HC0.out); rintro e w40 ⟨rfl, hb⟩; have n0_ := Aside0.mk (Kd.R_below (by (with_reducible repeat (first | apply Kd.R_alloc | apply Kd.R_drewN | apply Kd.R_drew)); exact HO_8.out) hb); have n1_ := Aside0.mk (below_step (by repeat (first | (with_reducible first | exact HB.out | apply below_alloc | apply pw_below_drewN | apply below_drew1) | exact HB.out)) hb); clear HO_8; clear HB; have HO_8 := n0_; have HB := n1_; clear n0_ n1_; (try clear hb); (try clear hb2); (try clear hk); (try clear hi)))
                      repeat (go_quiet (first | (go_at_call 14; (with_reducible refine (dover_Fits.calls k3 _ _ l0 a1 t190 _ ?side1 ?side2 A38.out).mono ?_); (case side1 => repeat (first | exact (Kd.C_below HR0.out HB.out) | (with_reducible refine Kd.C_alloc ?_ _) | (with_reducible refine Kd.C_drewN ?_ _) | (with_reducible refine Kd.C_drew ?_))); (case side2 => exact HC0.out); rintro e w40 ⟨rfl, hb⟩; have n0_ := Aside0.mk (Kd.R_below (by (with_reducible repeat (first | apply Kd.R_alloc | apply Kd.R_drewN | apply Kd.R_drew)); exact HO_8.out) hb); have n1_ := Aside0.mk (below_step (by repeat (first | (with_reducible first | exact HB.out | apply below_alloc | apply pw_below_drewN | apply below_drew1) | exact HB.out)) hb); clear HO_8; clear HB; have HO_8 := n0_; have HB := n1_; clear n0_ n1_; (try clear hb); (try clear hb2); (try clear hk); (try clear hi))); try go_wp2_with (first | (go_at_call 14; (with_reducible refine (dover_Fits.calls k3 _ _ l0 a1 t190 _ ?side1 ?side2 A38.out).mono ?_); (case side1 => repeat (first | exact (Kd.C_below HR0.out HB.out) | (with_reducible refine Kd.C_alloc ?_ _) | (with_reducible refine Kd.C_drewN ?_ _) | (with_reducible refine Kd.C_drew ?_))); (case side2 => exact HC0.out); rintro e w40 ⟨rfl, hb⟩; have n0_ := Aside0.mk (Kd.R_below (by (with_reducible repeat (first | apply Kd.R_alloc | apply Kd.R_drewN | apply Kd.R_drew)); exact HO_8.out) hb); have n1_ := Aside0.mk (below_step (by repeat (first | (with_reducible first | exact HB.out | apply below_alloc | apply pw_below_drewN | apply below_drew1) | exact HB.out)) hb); clear HO_8; clear HB; have HO_8 := n0_; have HB := n1_; clear n0_ n1_; (try clear hb); (try clear hb2); (try clear hk); (try clear hi))))
                      go_ret
                      exact ⟨by first | rfl | (simp [errW_none, errW_some] <;> rfl) | (simp [*, errW_none, errW_some] <;> rfl), by repeat (first | (with_reducible first | exact HB.out | apply below_alloc | apply pw_below_drewN | apply below_drew1) | exact HB.out)⟩
        · rw [if_neg c15] at H
          exact absurd H (by simp)

end Go.Proofs.Ytmknoiiflciclaa.PA
