-- Written for this claim by a program (the kit's print over a changed input, then joined with texts by hand).
import Derived.Test.YtmknoiiflciclaaPAx0
import Derived.Test.YtmknoiiflciclaaPAx3
import Derived.Test.YtmknoiiflciclaaPAx6
import Derived.Test.YtmknoiiflciclaaPAx8
import Derived.Test.YtmknoiiflciclaaPAx9
namespace Go.Proofs.Ytmknoiiflciclaa.PA
open Go.RowKit Go.Proofs.YtmknoiiflciclaaW.PrintWords Go.Proofs.YtmknoiiflciclaaW.PrintLast Go.Proofs.YtmknoiiflciclaaW.PrintMore
attribute [local go_sem] max2_int min2_int max_two min_two max_three min_three max_four min_four   -- for this text's walks alone
set_option linter.unusedVariables false
set_option linter.unusedSimpArgs false

/-! ### fuseelaw13_DoverWaits: function 5 -/
mutual
def fuseelaw13_DoverWaits.j0 : Nat → List (S29) → Int → Int → Bool → Bool → Option (Bool)
  | 0, _, _, _, _, _ => none
  | k + 1, x0, x1, x2, x7, x34 => if x34 = true then (some x7) else (if 0 ≤ x2 then (if x2 < (x0.length : Int) then ((dover_Lax.f ((rd_T29 x0 x2).f0) ((rd_T29 x0 x2).f1) ((rd_T29 x0 x2).f2) ((rd_T29 x0 x2).f3) (wrap64 (((rd_T29 x0 x2).f4) + 1)) (wrap64 (x1 + 1))).bind fun t196 => ((dover_Lax.f ((rd_T29 x0 x2).f0) ((rd_T29 x0 x2).f1) ((rd_T29 x0 x2).f2) ((rd_T29 x0 x2).f3) ((rd_T29 x0 x2).f4) x1).bind fun t197 => (if t196 = t197 then ((dover_Lax.f ((rd_T29 x0 x2).f0) ((rd_T29 x0 x2).f1) ((rd_T29 x0 x2).f2) ((rd_T29 x0 x2).f3) ((rd_T29 x0 x2).f4) (wrap64 (x1 + 1))).bind fun t198 => ((dover_Lax.f ((rd_T29 x0 x2).f0) ((rd_T29 x0 x2).f1) ((rd_T29 x0 x2).f2) ((rd_T29 x0 x2).f3) ((rd_T29 x0 x2).f4) x1).bind fun t199 => (if t198 = (wrap64 (t199 - 1)) then ((dover_Fits.f k (([(⟨(rd_T29 x0 x2).f0, (rd_T29 x0 x2).f1, (rd_T29 x0 x2).f2, (rd_T29 x0 x2).f3, (rd_T29 x0 x2).f4⟩ : S29)] : List (S29))) x1).bind fun t203 => ((dover_Lax.f ((rd_T29 x0 x2).f0) ((rd_T29 x0 x2).f1) ((rd_T29 x0 x2).f2) ((rd_T29 x0 x2).f3) ((rd_T29 x0 x2).f4) x1).bind fun t204 => (fuseelaw13_DoverWaits.j1 k x0 x1 x2 (t203 != (decide (t204 ≥ 0))) ((rd_T29 x0 x2).f0) ((rd_T29 x0 x2).f1) ((rd_T29 x0 x2).f2) ((rd_T29 x0 x2).f3) (wrap64 (((rd_T29 x0 x2).f4) + 1))))) else (fuseelaw13_DoverWaits.j1 k x0 x1 x2 true ((rd_T29 x0 x2).f0) ((rd_T29 x0 x2).f1) ((rd_T29 x0 x2).f2) ((rd_T29 x0 x2).f3) (wrap64 (((rd_T29 x0 x2).f4) + 1)))))) else (fuseelaw13_DoverWaits.j1 k x0 x1 x2 true ((rd_T29 x0 x2).f0) ((rd_T29 x0 x2).f1) ((rd_T29 x0 x2).f2) ((rd_T29 x0 x2).f3) (wrap64 (((rd_T29 x0 x2).f4) + 1)))))) else (none)) else (none))
def fuseelaw13_DoverWaits.j1 : Nat → List (S29) → Int → Int → Bool → Int → Int → Int → Int → Int → Option (Bool)
  | 0, _, _, _, _, _, _, _, _, _ => none
  | k + 1, x0, x1, x2, x74, x196000, x196001, x196002, x196003, x196004 => if x74 = true then (some false) else (if 0 ≤ x2 then (if x2 ≤ (x0.length : Int) then ((some (x0.take (x2 : Int).toNat : List (S29))).bind fun y205 => (if ([] : List (S29)).length + y205.length < 3518437208883 then ((some (([] : List (S29)) ++ y205 : List (S29))).bind fun y209 => (if 0 ≤ (wrap64 (x2 + 1)) then (if (wrap64 (x2 + 1)) ≤ (x0.length : Int) then ((some (x0.drop ((wrap64 (x2 + 1)) : Int).toNat : List (S29))).bind fun y212 => (if y209.length + y212.length < 3518437208883 then (if ([] : List (S29)).length + x0.length < 3518437208883 then ((some (([] : List (S29)) ++ x0 : List (S29))).bind fun y219 => (if x2 < (y219.length : Int) then ((dover_Fits.f k x0 x1).bind fun t223 => (if t223 = true then ((dover_Fits.f k (y209 ++ y212) x1).bind fun t224 => (if t224 = true then ((dover_Fits.f k (y219.set (x2 : Int).toNat (⟨x196000, x196001, x196002, x196003, x196004⟩ : S29)) x1).bind fun t225 => (some t225)) else (some false))) else (some true))) else (none))) else (none)) else (none))) else (none)) else (none))) else (none))) else (none)) else (none))
end
def fuseelaw13_DoverWaits.f (k : Nat) (l0 : List (S29)) (a1 : Int) (a2 : Int) : Option (Bool) := (fuseelaw13_awake.f k).bind fun t191 => (if t191 = true then ((dover_May.f l0 a1).bind fun t192 => (if t192 = true then (if a2 < 0 then (fuseelaw13_DoverWaits.j0 k l0 a1 a2 t191 true) else (if a2 ≥ (l0.length : Int) then (fuseelaw13_DoverWaits.j0 k l0 a1 a2 t191 true) else (fuseelaw13_DoverWaits.j0 k l0 a1 a2 t191 (decide (a1 > 274877906944))))) else (fuseelaw13_DoverWaits.j0 k l0 a1 a2 t191 true))) else (fuseelaw13_DoverWaits.j0 k l0 a1 a2 t191 true))
theorem fuseelaw13_DoverWaits.mono_l : ∀ k, (∀ y0 y1 y2 y3 y4, LeO (fuseelaw13_DoverWaits.j0 k y0 y1 y2 y3 y4) (fuseelaw13_DoverWaits.j0 (k + 1) y0 y1 y2 y3 y4)) ∧ (∀ y0 y1 y2 y3 y4 y5 y6 y7 y8, LeO (fuseelaw13_DoverWaits.j1 k y0 y1 y2 y3 y4 y5 y6 y7 y8) (fuseelaw13_DoverWaits.j1 (k + 1) y0 y1 y2 y3 y4 y5 y6 y7 y8))
  | 0 => ⟨fun _ _ _ _ _ r h => by simp [fuseelaw13_DoverWaits.j0] at h, fun _ _ _ _ _ _ _ _ _ r h => by simp [fuseelaw13_DoverWaits.j1] at h⟩
  | k + 1 => by
    obtain ⟨ih0, ih1⟩ := fuseelaw13_DoverWaits.mono_l k
    refine ⟨?_, ?_⟩
    · intro y0 y1 y2 y3 y4
      unfold fuseelaw13_DoverWaits.j0
      repeat' first
      | (with_reducible exact ih0 _ _ _ _ _)
      | (with_reducible exact ih1 _ _ _ _ _ _ _ _ _)
      | (with_reducible exact dover_Fits.mono _ _ _)
      | (with_reducible exact fuseelaw13_awake.mono _)
      | (with_reducible exact LeO.refl _)
      | (with_reducible exact LeO.none _)
      | (with_reducible refine LeO.ite ?_ ?_)
      | (with_reducible refine LeO.bind ?_ (fun _ => ?_))
      | exact ih0 _ _ _ _ _
      | exact ih1 _ _ _ _ _ _ _ _ _
      | exact dover_Fits.mono _ _ _
      | exact fuseelaw13_awake.mono _
      | exact LeO.none _
      | refine LeO.ite ?_ ?_
      | refine LeO.bind ?_ (fun _ => ?_)
    · intro y0 y1 y2 y3 y4 y5 y6 y7 y8
      unfold fuseelaw13_DoverWaits.j1
      repeat' first
      | (with_reducible exact ih0 _ _ _ _ _)
      | (with_reducible exact ih1 _ _ _ _ _ _ _ _ _)
      | (with_reducible exact dover_Fits.mono _ _ _)
      | (with_reducible exact fuseelaw13_awake.mono _)
      | (with_reducible exact LeO.refl _)
      | (with_reducible exact LeO.none _)
      | (with_reducible refine LeO.ite ?_ ?_)
      | (with_reducible refine LeO.bind ?_ (fun _ => ?_))
      | exact ih0 _ _ _ _ _
      | exact ih1 _ _ _ _ _ _ _ _ _
      | exact dover_Fits.mono _ _ _
      | exact fuseelaw13_awake.mono _
      | exact LeO.none _
      | refine LeO.ite ?_ ?_
      | refine LeO.bind ?_ (fun _ => ?_)
theorem fuseelaw13_DoverWaits.mono : ∀ a0 a1 a2 k, LeO (fuseelaw13_DoverWaits.f k a0 a1 a2) (fuseelaw13_DoverWaits.f (k + 1) a0 a1 a2) := by
  intro a0 a1 a2 k
  obtain ⟨ih0, ih1⟩ := fuseelaw13_DoverWaits.mono_l k
  unfold fuseelaw13_DoverWaits.f
  repeat' first
      | (with_reducible exact ih0 _ _ _ _ _)
      | (with_reducible exact ih1 _ _ _ _ _ _ _ _ _)
      | (with_reducible exact dover_Fits.mono _ _ _)
      | (with_reducible exact fuseelaw13_awake.mono _)
      | (with_reducible exact LeO.refl _)
      | (with_reducible exact LeO.none _)
      | (with_reducible refine LeO.ite ?_ ?_)
      | (with_reducible refine LeO.bind ?_ (fun _ => ?_))
      | exact ih0 _ _ _ _ _
      | exact ih1 _ _ _ _ _ _ _ _ _
      | exact dover_Fits.mono _ _ _
      | exact fuseelaw13_awake.mono _
      | exact LeO.none _
      | refine LeO.ite ?_ ?_
      | refine LeO.bind ?_ (fun _ => ?_)
def fuseelaw13_DoverWaits.T7 : Bool × List (List Nat × List Nat) := (true, [([], []), ([], []), ([1], [1]), ([0, 2], [0, 2]), ([], []), ([], []), ([4, 5, 3], [4, 5]), ([3, 6], [3, 6]), ([7, 6], [7]), ([8], [8]), ([8], [8]), ([10, 8], [8, 10]), ([9, 11, 8, 8], [8, 9, 11]), ([8], [8]), ([8], [8]), ([13, 14, 12, 8], [8, 13, 14]), ([15, 8], [8, 15]), ([12, 16, 8], [8, 12, 16]), ([8, 17], [8, 17]), ([18, 15], [18]), ([19], [19]), ([20, 19], [19, 20]), ([19], [19]), ([21, 22, 19, 19], [19, 21, 22]), ([19], [19]), ([19], [19]), ([24, 25, 23, 19], [19, 24, 25]), ([26, 19], [19, 26]), ([23, 27, 19], [19, 23, 27]), ([19, 28], [19, 28])])
def fuseelaw13_DoverWaits.B7 : List Nat := [0, 0, 2, 7, 0, 0, 63, 127, 255, 511, 511, 1535, 4095, 511, 511, 32767, 65535, 131071, 262143, 524287, 1048575, 2097151, 1048575, 8388607, 1048575, 1048575, 67108863, 134217727, 268435455, 536870911]
theorem fuseelaw13_DoverWaits.tab7 : rtab .any (opsOf Try.f5 7) = fuseelaw13_DoverWaits.T7 := by kernel_rfl
theorem fuseelaw13_DoverWaits.bits7 : waitsOk fuseelaw13_DoverWaits.T7.2 fuseelaw13_DoverWaits.B7 = true := by kernel_rfl
def fuseelaw13_DoverWaits.T9 : Bool × List (List Nat × List Nat) := (true, [([], []), ([], []), ([0, 1], [0, 1]), ([2], [2]), ([], []), ([], []), ([5], [5]), ([4, 6], [4, 6]), ([3, 7, 3], [3, 7]), ([8, 8, 0, 1, 2, 3, 4, 5, 6, 7, 8], [8])])
def fuseelaw13_DoverWaits.B9 : List Nat := [0, 0, 3, 7, 0, 0, 32, 112, 255, 511]
theorem fuseelaw13_DoverWaits.tab9 : rtab .any (opsOf Try.f5 9) = fuseelaw13_DoverWaits.T9 := by kernel_rfl
theorem fuseelaw13_DoverWaits.bits9 : waitsOk fuseelaw13_DoverWaits.T9.2 fuseelaw13_DoverWaits.B9 = true := by kernel_rfl
set_option maxHeartbeats 8000000 in
set_option maxRecDepth 100000 in
theorem fuseelaw13_DoverWaits.calls (k : Nat) (A0 : Option Addr) (c0 : Nat) (l0 : List (S29)) (a1 : Int) (a2 : Int) (r : Bool) (w : World) (hr0 : Kd.C k29 w A0 l0.length l0) (hc0 : l0.length ≤ c0) (h : fuseelaw13_DoverWaits.f k l0 a1 a2 = some r) :
    Calls Try.prog 5 #[.slice A0 l0.length c0, .int .i64 a1, .int .i64 a2] w fun e w' => e = .returned (.bool r) ∧ Below w.heap.size w w' := by
  have hu29 := Try.underlying29
  have HR0 := Aside0.mk hr0
  have HC0 := Aside0.mk hc0
  clear hr0 hc0
  have HB := Aside0.mk (Below.refl w.heap.size w)
  have H : ((fuseelaw13_awake.f k).bind fun t191 => (if t191 = true then ((dover_May.f l0 a1).bind fun t192 => (if t192 = true then (if a2 < 0 then (fuseelaw13_DoverWaits.j0 k l0 a1 a2 t191 true) else (if a2 ≥ (l0.length : Int) then (fuseelaw13_DoverWaits.j0 k l0 a1 a2 t191 true) else (fuseelaw13_DoverWaits.j0 k l0 a1 a2 t191 (decide (a1 > 274877906944))))) else (fuseelaw13_DoverWaits.j0 k l0 a1 a2 t191 true))) else (fuseelaw13_DoverWaits.j0 k l0 a1 a2 t191 true))) = some r := h
  clear h
  replace H := Option.bind_eq_some_iff.mp H
  obtain ⟨t191, A40, H⟩ := H
  replace H : (if t191 = true then ((dover_May.f l0 a1).bind fun t192 => (if t192 = true then (if a2 < 0 then (fuseelaw13_DoverWaits.j0 k l0 a1 a2 t191 true) else (if a2 ≥ (l0.length : Int) then (fuseelaw13_DoverWaits.j0 k l0 a1 a2 t191 true) else (fuseelaw13_DoverWaits.j0 k l0 a1 a2 t191 (decide (a1 > 274877906944))))) else (fuseelaw13_DoverWaits.j0 k l0 a1 a2 t191 true))) else (fuseelaw13_DoverWaits.j0 k l0 a1 a2 t191 true)) = some r := H
  have A4 := Aside0.mk A40
  clear A40
  have HC5 := Aside0.mk H
  clear H
  go_enter Try.func5, Try.ntmps5
  go_upto_region 2 with (first | ((with_reducible refine gate_callee (f := 9) rfl ?_); refine goesL_ (some 12) rfl rfl Try.func9 (by kernel_rfl) rfl #[] rfl (by (try simp only [List.map_toArray, List.map_cons, List.map_nil]); first | done | rfl | (simp only [List.length_drop, List.length_take]; rfl)) ?_; (with_reducible refine (fuseelaw13_awake.calls k  t191 _ A4.out).mono ?_); rintro e w6 ⟨rfl, hb⟩; refine ⟨_, rfl, ?_⟩; have n0_ := Aside0.mk (below_step (by repeat (first | (with_reducible first | exact HB.out | apply below_alloc | apply pw_below_drewN | apply below_drew1) | exact HB.out)) hb); clear HB; have HB := n0_; clear n0_; (try clear hb); (try clear hb2); (try clear hk); (try clear hi)))
  (try simp only [Act.put, List.setIfInBounds_toArray, List.set_cons_zero, List.set_cons_succ])
  go_cut [34] (fun v34 wc => ∃ (kq : Nat) (x34_4 : Bool), v34 = .bool x34_4 ∧ Aside0 (fuseelaw13_DoverWaits.j0 kq l0 a1 a2 t191 x34_4 = some r) ∧ Aside0 (kq ≤ k) ∧ Aside0 (Below w.heap.size w wc))
  case first =>
    have H := HC5.out
    clear HC5
    by_cases c7 : t191 = true
    · subst c7
      have H1 : ((dover_May.f l0 a1).bind fun t192 => (if t192 = true then (if a2 < 0 then (fuseelaw13_DoverWaits.j0 k l0 a1 a2 true true) else (if a2 ≥ (l0.length : Int) then (fuseelaw13_DoverWaits.j0 k l0 a1 a2 true true) else (fuseelaw13_DoverWaits.j0 k l0 a1 a2 true (decide (a1 > 274877906944))))) else (fuseelaw13_DoverWaits.j0 k l0 a1 a2 true true))) = some r := by rw [if_pos rfl] at H; exact H
      clear H
      have H := H1
      clear H1
      replace H := Option.bind_eq_some_iff.mp H
      obtain ⟨t192, A80, H⟩ := H
      replace H : (if t192 = true then (if a2 < 0 then (fuseelaw13_DoverWaits.j0 k l0 a1 a2 true true) else (if a2 ≥ (l0.length : Int) then (fuseelaw13_DoverWaits.j0 k l0 a1 a2 true true) else (fuseelaw13_DoverWaits.j0 k l0 a1 a2 true (decide (a1 > 274877906944))))) else (fuseelaw13_DoverWaits.j0 k l0 a1 a2 true true)) = some r := H
      have A8 := Aside0.mk A80
      clear A80
      by_cases c9 : t192 = true
      · subst c9
        have H1 : (if a2 < 0 then (fuseelaw13_DoverWaits.j0 k l0 a1 a2 true true) else (if a2 ≥ (l0.length : Int) then (fuseelaw13_DoverWaits.j0 k l0 a1 a2 true true) else (fuseelaw13_DoverWaits.j0 k l0 a1 a2 true (decide (a1 > 274877906944))))) = some r := by rw [if_pos rfl] at H; exact H
        clear H
        have H := H1
        clear H1
        by_cases c10 : a2 < 0
        · rw [if_pos c10] at H
          have c10b0 : decide (a2 < 0) = true := decide_eq_true c10
          clear c10
          (first | rw [c10b0] | (simp only [i64_w, i32_w]; rw [c10b0]) | skip)
          have H' := Aside0.mk H
          clear H
          go_wp2_with (first | (go_at_call 10; (with_reducible refine (dover_May.calls _ _ l0 a1 true _ ?side1 ?side2 A8.out).mono ?_); (case side1 => repeat (first | exact (Kd.C_below HR0.out HB.out) | (with_reducible refine Kd.C_alloc ?_ _) | (with_reducible refine Kd.C_drewN ?_ _) | (with_reducible refine Kd.C_drew ?_))); (case side2 => exact HC0.out); rintro e w11 ⟨rfl, hb⟩; have n0_ := Aside0.mk (below_step (by repeat (first | (with_reducible first | exact HB.out | apply below_alloc | apply pw_below_drewN | apply below_drew1) | exact HB.out)) hb); clear HB; have HB := n0_; clear n0_; (try clear hb); (try clear hb2); (try clear hk); (try clear hi)))
          go_meet
          case rel => exact ⟨_, (true), (by first | rfl | (simp; done) | (simp [*]; done)), H', ⟨by first | omega | exact Nat.le_refl _⟩, ⟨by repeat (first | (with_reducible first | exact HB.out | apply below_alloc | apply pw_below_drewN | apply below_drew1) | exact HB.out)⟩⟩
        · rw [if_neg c10] at H
          have c10b0 : decide (a2 < 0) = false := decide_eq_false c10
          clear c10
          (first | rw [c10b0] | (simp only [i64_w, i32_w]; rw [c10b0]) | skip)
          by_cases c12 : a2 ≥ (l0.length : Int)
          · rw [if_pos c12] at H
            have c12b0 : decide ((l0.length : Int) ≤ a2) = true := decide_eq_true c12
            clear c12
            have H' := Aside0.mk H
            clear H
            go_wp2_with (first | (go_at_call 10; (with_reducible refine (dover_May.calls _ _ l0 a1 true _ ?side1 ?side2 A8.out).mono ?_); (case side1 => repeat (first | exact (Kd.C_below HR0.out HB.out) | (with_reducible refine Kd.C_alloc ?_ _) | (with_reducible refine Kd.C_drewN ?_ _) | (with_reducible refine Kd.C_drew ?_))); (case side2 => exact HC0.out); rintro e w13 ⟨rfl, hb⟩; have n0_ := Aside0.mk (below_step (by repeat (first | (with_reducible first | exact HB.out | apply below_alloc | apply pw_below_drewN | apply below_drew1) | exact HB.out)) hb); clear HB; have HB := n0_; clear n0_; (try clear hb); (try clear hb2); (try clear hk); (try clear hi)))
            go_meet
            case rel => exact ⟨_, (true), (by first | rfl | (simp; done) | (simp [*]; done)), H', ⟨by first | omega | exact Nat.le_refl _⟩, ⟨by repeat (first | (with_reducible first | exact HB.out | apply below_alloc | apply pw_below_drewN | apply below_drew1) | exact HB.out)⟩⟩
          · rw [if_neg c12] at H
            have c12b0 : decide ((l0.length : Int) ≤ a2) = false := decide_eq_false c12
            clear c12
            have H' := Aside0.mk H
            clear H
            go_wp2_with (first | (go_at_call 10; (with_reducible refine (dover_May.calls _ _ l0 a1 true _ ?side1 ?side2 A8.out).mono ?_); (case side1 => repeat (first | exact (Kd.C_below HR0.out HB.out) | (with_reducible refine Kd.C_alloc ?_ _) | (with_reducible refine Kd.C_drewN ?_ _) | (with_reducible refine Kd.C_drew ?_))); (case side2 => exact HC0.out); rintro e w14 ⟨rfl, hb⟩; have n0_ := Aside0.mk (below_step (by repeat (first | (with_reducible first | exact HB.out | apply below_alloc | apply pw_below_drewN | apply below_drew1) | exact HB.out)) hb); clear HB; have HB := n0_; clear n0_; (try clear hb); (try clear hb2); (try clear hk); (try clear hi)))
            go_meet
            case rel => exact ⟨_, (decide (a1 > 274877906944)), (by first | rfl | (simp; done) | (simp [*]; done)), H', ⟨by first | omega | exact Nat.le_refl _⟩, ⟨by repeat (first | (with_reducible first | exact HB.out | apply below_alloc | apply pw_below_drewN | apply below_drew1) | exact HB.out)⟩⟩
      · replace c9 := Bool.eq_false_iff.mpr c9
        subst c9
        have H1 : (fuseelaw13_DoverWaits.j0 k l0 a1 a2 true true) = some r := by rw [if_neg (show ¬ (false = true) by decide)] at H; exact H
        clear H
        have H := H1
        clear H1
        have H' := Aside0.mk H
        clear H
        go_wp2_with (first | (go_at_call 10; (with_reducible refine (dover_May.calls _ _ l0 a1 false _ ?side1 ?side2 A8.out).mono ?_); (case side1 => repeat (first | exact (Kd.C_below HR0.out HB.out) | (with_reducible refine Kd.C_alloc ?_ _) | (with_reducible refine Kd.C_drewN ?_ _) | (with_reducible refine Kd.C_drew ?_))); (case side2 => exact HC0.out); rintro e w15 ⟨rfl, hb⟩; have n0_ := Aside0.mk (below_step (by repeat (first | (with_reducible first | exact HB.out | apply below_alloc | apply pw_below_drewN | apply below_drew1) | exact HB.out)) hb); clear HB; have HB := n0_; clear n0_; (try clear hb); (try clear hb2); (try clear hk); (try clear hi)))
        go_meet
        case rel => exact ⟨_, (true), (by first | rfl | (simp; done) | (simp [*]; done)), H', ⟨by first | omega | exact Nat.le_refl _⟩, ⟨by repeat (first | (with_reducible first | exact HB.out | apply below_alloc | apply pw_below_drewN | apply below_drew1) | exact HB.out)⟩⟩
    · replace c7 := Bool.eq_false_iff.mpr c7
      subst c7
      have H1 : (fuseelaw13_DoverWaits.j0 k l0 a1 a2 false true) = some r := by rw [if_neg (show ¬ (false = true) by decide)] at H; exact H
      clear H
      have H := H1
      clear H1
      have H' := Aside0.mk H
      clear H
      go_wp2
      go_meet
      case rel => exact ⟨_, (true), (by first | rfl | (simp; done) | (simp [*]; done)), H', ⟨by first | omega | exact Nat.le_refl _⟩, ⟨by repeat (first | (with_reducible first | exact HB.out | apply below_alloc | apply pw_below_drewN | apply below_drew1) | exact HB.out)⟩⟩
  case rest =>
    clear HC5
    try clear c1
    try clear p2
    try clear c5
    try clear c7
    try clear c9
    try clear c10
    try clear c10b0
    try clear c12
    try clear c12b0
    obtain ⟨kq, x34_4, rfl, HA, HJ4, HB⟩ := hcut
    cases kq with
    | zero => exact absurd HA.out (by simp [fuseelaw13_DoverWaits.j0])
    | succ kj4 =>
      have H := HA.out
      clear HA
      simp only [fuseelaw13_DoverWaits.j0] at H
      by_cases c16 : x34_4 = true
      · subst c16
        have H1 : (some t191) = some r := by rw [if_pos rfl] at H; exact H
        clear H
        have H := H1
        clear H1
        obtain rfl := Option.some.inj H
        go_wp2
        go_ret
        exact ⟨by first | rfl | (simp [errW_none, errW_some] <;> rfl) | (simp [*, errW_none, errW_some] <;> rfl), by repeat (first | (with_reducible first | exact HB.out | apply below_alloc | apply pw_below_drewN | apply below_drew1) | exact HB.out)⟩
      · replace c16 := Bool.eq_false_iff.mpr c16
        subst c16
        have H1 : (if 0 ≤ a2 then (if a2 < (l0.length : Int) then ((dover_Lax.f ((rd_T29 l0 a2).f0) ((rd_T29 l0 a2).f1) ((rd_T29 l0 a2).f2) ((rd_T29 l0 a2).f3) (wrap64 (((rd_T29 l0 a2).f4) + 1)) (wrap64 (a1 + 1))).bind fun t196 => ((dover_Lax.f ((rd_T29 l0 a2).f0) ((rd_T29 l0 a2).f1) ((rd_T29 l0 a2).f2) ((rd_T29 l0 a2).f3) ((rd_T29 l0 a2).f4) a1).bind fun t197 => (if t196 = t197 then ((dover_Lax.f ((rd_T29 l0 a2).f0) ((rd_T29 l0 a2).f1) ((rd_T29 l0 a2).f2) ((rd_T29 l0 a2).f3) ((rd_T29 l0 a2).f4) (wrap64 (a1 + 1))).bind fun t198 => ((dover_Lax.f ((rd_T29 l0 a2).f0) ((rd_T29 l0 a2).f1) ((rd_T29 l0 a2).f2) ((rd_T29 l0 a2).f3) ((rd_T29 l0 a2).f4) a1).bind fun t199 => (if t198 = (wrap64 (t199 - 1)) then ((dover_Fits.f kj4 (([(⟨(rd_T29 l0 a2).f0, (rd_T29 l0 a2).f1, (rd_T29 l0 a2).f2, (rd_T29 l0 a2).f3, (rd_T29 l0 a2).f4⟩ : S29)] : List (S29))) a1).bind fun t203 => ((dover_Lax.f ((rd_T29 l0 a2).f0) ((rd_T29 l0 a2).f1) ((rd_T29 l0 a2).f2) ((rd_T29 l0 a2).f3) ((rd_T29 l0 a2).f4) a1).bind fun t204 => (fuseelaw13_DoverWaits.j1 kj4 l0 a1 a2 (t203 != (decide (t204 ≥ 0))) ((rd_T29 l0 a2).f0) ((rd_T29 l0 a2).f1) ((rd_T29 l0 a2).f2) ((rd_T29 l0 a2).f3) (wrap64 (((rd_T29 l0 a2).f4) + 1))))) else (fuseelaw13_DoverWaits.j1 kj4 l0 a1 a2 true ((rd_T29 l0 a2).f0) ((rd_T29 l0 a2).f1) ((rd_T29 l0 a2).f2) ((rd_T29 l0 a2).f3) (wrap64 (((rd_T29 l0 a2).f4) + 1)))))) else (fuseelaw13_DoverWaits.j1 kj4 l0 a1 a2 true ((rd_T29 l0 a2).f0) ((rd_T29 l0 a2).f1) ((rd_T29 l0 a2).f2) ((rd_T29 l0 a2).f3) (wrap64 (((rd_T29 l0 a2).f4) + 1)))))) else (none)) else (none)) = some r := by rw [if_neg (show ¬ (false = true) by decide)] at H; exact H
        clear H
        have H := H1
        clear H1
        by_cases c17 : 0 ≤ a2
        · rw [if_pos c17] at H
          have c17b0 : decide (0 ≤ a2) = true := decide_eq_true c17
          clear c17
          by_cases c18 : a2 < (l0.length : Int)
          · rw [if_pos c18] at H
            have c18b0 : decide (a2 < (l0.length : Int)) = true := decide_eq_true c18
            clear c18
            have HC19 := Aside0.mk H
            clear H
            have p193 : 0 ≤ (a2 : Int) := of_decide_eq_true (by first | (with_reducible assumption) | assumption)
            have q193 : a2 < (l0.length : Int) := of_decide_eq_true (by first | (with_reducible assumption) | assumption)
            obtain ⟨ad193, e193, hx193_0, hx193_1, hx193_2, hx193_3, hx193_4⟩ := at_T29 HR0.out a2 p193 q193
            cases e193
            replace hx193_0 := (HB.out.cell (World.block_lt_of_cell? w _ hx193_0)).trans hx193_0
            replace hx193_1 := (HB.out.cell (World.block_lt_of_cell? w _ hx193_1)).trans hx193_1
            replace hx193_2 := (HB.out.cell (World.block_lt_of_cell? w _ hx193_2)).trans hx193_2
            replace hx193_3 := (HB.out.cell (World.block_lt_of_cell? w _ hx193_3)).trans hx193_3
            replace hx193_4 := (HB.out.cell (World.block_lt_of_cell? w _ hx193_4)).trans hx193_4
            replace p193 := eq_true p193
            replace q193 := eq_true q193
            go_upto_region 7 with (first | ((with_reducible refine gate_dst (N := 8) rfl ?_); (try (refine gate_guard (by rfl) ?_; dsimp only)); refine box_event ?hg (N := 8) ?hd (cs := #[.int .i64 0, .int .i64 0, .int .i64 0, .int .i64 0, .int .i64 0]) (t := 29) ?hr ?_; (case hd => rfl); (case hg => rfl); (case hr => first | (go_simp; done) | (go_simp; rfl)); intro gb194 hg w20 hbox hb; have n0_ := Aside0.mk (below_step (by repeat (first | (with_reducible first | exact HB.out | apply below_alloc | apply pw_below_drewN | apply below_drew1) | exact HB.out)) hb); have n1_ := Aside0.mk (hbox); have n2_ := Aside0.mk ((by rw [hg]; exact (below_size (by repeat (first | (with_reducible first | exact HB.out | apply below_alloc | apply pw_below_drewN | apply below_drew1) | exact HB.out))) : w.heap.size ≤ gb194)); have n3_ := Aside0.mk ((by rw [hg]; exact (below_size (by repeat (first | (with_reducible first | exact HB.out | apply below_alloc | apply pw_below_drewN | apply below_drew1) | exact HB.out))) : w.heap.size ≤ gb194)); clear HB; have HB := n0_; have BK194 := n1_; have GW194 := n2_; have GE194 := n3_; clear n0_ n1_ n2_ n3_; clear hb hbox hg; have hcz21_0 : w20.cell? ⟨gb194, 0, none⟩ = some (.int .i64 0) := (blk_cell BK194.out 0).trans rfl; have hcz21_1 : w20.cell? ⟨gb194, 1, none⟩ = some (.int .i64 0) := (blk_cell BK194.out 1).trans rfl; have hcz21_2 : w20.cell? ⟨gb194, 2, none⟩ = some (.int .i64 0) := (blk_cell BK194.out 2).trans rfl; have hcz21_3 : w20.cell? ⟨gb194, 3, none⟩ = some (.int .i64 0) := (blk_cell BK194.out 3).trans rfl; have hcz21_4 : w20.cell? ⟨gb194, 4, none⟩ = some (.int .i64 0) := (blk_cell BK194.out 4).trans rfl; have hfz21_0 := blk_frozen BK194.out 0; have hfz21_1 := blk_frozen BK194.out 1; have hfz21_2 := blk_frozen BK194.out 2; have hfz21_3 := blk_frozen BK194.out 3; have hfz21_4 := blk_frozen BK194.out 4) | ((with_reducible refine gate_dst (N := 9) rfl ?_); (try (refine gate_guard (by rfl) ?_; dsimp only)); refine box_event ?hg (N := 9) ?hd (cs := #[.int .i64 0, .int .i64 0, .int .i64 0, .int .i64 0, .int .i64 0]) (t := 29) ?hr ?_; (case hd => rfl); (case hg => rfl); (case hr => first | (go_simp; done) | (go_simp; rfl)); intro gb195 hg w22 hbox hb; have n0_ := Aside0.mk (blk_below (g := gb194) (o := .cells #[.int .i64 ((rd_T29 l0 a2).f0), .int .i64 ((rd_T29 l0 a2).f1), .int .i64 ((rd_T29 l0 a2).f2), .int .i64 ((rd_T29 l0 a2).f3), .int .i64 ((rd_T29 l0 a2).f4)] 29 (0, 0)) (by (with_reducible repeat (first | refine blk_drewN ?_ _ | refine blk_drew ?_ | refine blk_alloc ?_ _)); refine blk_put (cs := #[.int .i64 ((rd_T29 l0 a2).f0), .int .i64 ((rd_T29 l0 a2).f1), .int .i64 ((rd_T29 l0 a2).f2), .int .i64 ((rd_T29 l0 a2).f3), .int .i64 0]) ?_ 4 _ rfl; (with_reducible repeat (first | refine blk_drewN ?_ _ | refine blk_drew ?_ | refine blk_alloc ?_ _)); refine blk_put (cs := #[.int .i64 ((rd_T29 l0 a2).f0), .int .i64 ((rd_T29 l0 a2).f1), .int .i64 ((rd_T29 l0 a2).f2), .int .i64 0, .int .i64 0]) ?_ 3 _ rfl; (with_reducible repeat (first | refine blk_drewN ?_ _ | refine blk_drew ?_ | refine blk_alloc ?_ _)); refine blk_put (cs := #[.int .i64 ((rd_T29 l0 a2).f0), .int .i64 ((rd_T29 l0 a2).f1), .int .i64 0, .int .i64 0, .int .i64 0]) ?_ 2 _ rfl; (with_reducible repeat (first | refine blk_drewN ?_ _ | refine blk_drew ?_ | refine blk_alloc ?_ _)); refine blk_put (cs := #[.int .i64 ((rd_T29 l0 a2).f0), .int .i64 0, .int .i64 0, .int .i64 0, .int .i64 0]) ?_ 1 _ rfl; (with_reducible repeat (first | refine blk_drewN ?_ _ | refine blk_drew ?_ | refine blk_alloc ?_ _)); refine blk_put (cs := #[.int .i64 0, .int .i64 0, .int .i64 0, .int .i64 0, .int .i64 0]) ?_ 0 _ rfl; (with_reducible repeat (first | refine blk_drewN ?_ _ | refine blk_drew ?_ | refine blk_alloc ?_ _)); exact BK194.out) hb); have n1_ := Aside0.mk (below_step (by repeat (first | (with_reducible first | exact HB.out | apply below_alloc | apply pw_below_drewN | apply below_drew1 | refine below_set ?_ GE194.out) | exact HB.out)) hb); have n2_ := Aside0.mk (hbox); have n3_ := Aside0.mk ((by rw [hg]; exact (below_size (by repeat (first | (with_reducible first | exact HB.out | apply below_alloc | apply pw_below_drewN | apply below_drew1 | refine below_set ?_ GE194.out) | exact HB.out))) : w.heap.size ≤ gb195)); have n4_ := Aside0.mk ((by rw [hg]; exact (below_size (by repeat (first | (with_reducible first | exact HB.out | apply below_alloc | apply pw_below_drewN | apply below_drew1 | refine below_set ?_ GE194.out) | exact HB.out))) : w.heap.size ≤ gb195)); have n5_ := Aside0.mk ((by rw [hg]; exact Nat.ne_of_lt (blk_lt (g := gb194) (o := .cells #[.int .i64 ((rd_T29 l0 a2).f0), .int .i64 ((rd_T29 l0 a2).f1), .int .i64 ((rd_T29 l0 a2).f2), .int .i64 ((rd_T29 l0 a2).f3), .int .i64 ((rd_T29 l0 a2).f4)] 29 (0, 0)) (by (with_reducible repeat (first | refine blk_drewN ?_ _ | refine blk_drew ?_ | refine blk_alloc ?_ _)); refine blk_put (cs := #[.int .i64 ((rd_T29 l0 a2).f0), .int .i64 ((rd_T29 l0 a2).f1), .int .i64 ((rd_T29 l0 a2).f2), .int .i64 ((rd_T29 l0 a2).f3), .int .i64 0]) ?_ 4 _ rfl; (with_reducible repeat (first | refine blk_drewN ?_ _ | refine blk_drew ?_ | refine blk_alloc ?_ _)); refine blk_put (cs := #[.int .i64 ((rd_T29 l0 a2).f0), .int .i64 ((rd_T29 l0 a2).f1), .int .i64 ((rd_T29 l0 a2).f2), .int .i64 0, .int .i64 0]) ?_ 3 _ rfl; (with_reducible repeat (first | refine blk_drewN ?_ _ | refine blk_drew ?_ | refine blk_alloc ?_ _)); refine blk_put (cs := #[.int .i64 ((rd_T29 l0 a2).f0), .int .i64 ((rd_T29 l0 a2).f1), .int .i64 0, .int .i64 0, .int .i64 0]) ?_ 2 _ rfl; (with_reducible repeat (first | refine blk_drewN ?_ _ | refine blk_drew ?_ | refine blk_alloc ?_ _)); refine blk_put (cs := #[.int .i64 ((rd_T29 l0 a2).f0), .int .i64 0, .int .i64 0, .int .i64 0, .int .i64 0]) ?_ 1 _ rfl; (with_reducible repeat (first | refine blk_drewN ?_ _ | refine blk_drew ?_ | refine blk_alloc ?_ _)); refine blk_put (cs := #[.int .i64 0, .int .i64 0, .int .i64 0, .int .i64 0, .int .i64 0]) ?_ 0 _ rfl; (with_reducible repeat (first | refine blk_drewN ?_ _ | refine blk_drew ?_ | refine blk_alloc ?_ _)); exact BK194.out)) : gb194 ≠ gb195)); have n6_ := Aside0.mk ((by rw [hg]; exact Nat.ne_of_gt (blk_lt (g := gb194) (o := .cells #[.int .i64 ((rd_T29 l0 a2).f0), .int .i64 ((rd_T29 l0 a2).f1), .int .i64 ((rd_T29 l0 a2).f2), .int .i64 ((rd_T29 l0 a2).f3), .int .i64 ((rd_T29 l0 a2).f4)] 29 (0, 0)) (by (with_reducible repeat (first | refine blk_drewN ?_ _ | refine blk_drew ?_ | refine blk_alloc ?_ _)); refine blk_put (cs := #[.int .i64 ((rd_T29 l0 a2).f0), .int .i64 ((rd_T29 l0 a2).f1), .int .i64 ((rd_T29 l0 a2).f2), .int .i64 ((rd_T29 l0 a2).f3), .int .i64 0]) ?_ 4 _ rfl; (with_reducible repeat (first | refine blk_drewN ?_ _ | refine blk_drew ?_ | refine blk_alloc ?_ _)); refine blk_put (cs := #[.int .i64 ((rd_T29 l0 a2).f0), .int .i64 ((rd_T29 l0 a2).f1), .int .i64 ((rd_T29 l0 a2).f2), .int .i64 0, .int .i64 0]) ?_ 3 _ rfl; (with_reducible repeat (first | refine blk_drewN ?_ _ | refine blk_drew ?_ | refine blk_alloc ?_ _)); refine blk_put (cs := #[.int .i64 ((rd_T29 l0 a2).f0), .int .i64 ((rd_T29 l0 a2).f1), .int .i64 0, .int .i64 0, .int .i64 0]) ?_ 2 _ rfl; (with_reducible repeat (first | refine blk_drewN ?_ _ | refine blk_drew ?_ | refine blk_alloc ?_ _)); refine blk_put (cs := #[.int .i64 ((rd_T29 l0 a2).f0), .int .i64 0, .int .i64 0, .int .i64 0, .int .i64 0]) ?_ 1 _ rfl; (with_reducible repeat (first | refine blk_drewN ?_ _ | refine blk_drew ?_ | refine blk_alloc ?_ _)); refine blk_put (cs := #[.int .i64 0, .int .i64 0, .int .i64 0, .int .i64 0, .int .i64 0]) ?_ 0 _ rfl; (with_reducible repeat (first | refine blk_drewN ?_ _ | refine blk_drew ?_ | refine blk_alloc ?_ _)); exact BK194.out)) : gb195 ≠ gb194)); clear BK194; clear HB; have BK194 := n0_; have HB := n1_; have BK195 := n2_; have GW195 := n3_; have GE195 := n4_; have NB194_195 := n5_; have NB195_194 := n6_; clear n0_ n1_ n2_ n3_ n4_ n5_ n6_; clear hb hbox hg; have hnb23 := NB195_194.out; have hnc23 := NB194_195.out; have hcz24_0 : w22.cell? ⟨gb195, 0, none⟩ = some (.int .i64 0) := (blk_cell BK195.out 0).trans rfl; have hcz24_1 : w22.cell? ⟨gb195, 1, none⟩ = some (.int .i64 0) := (blk_cell BK195.out 1).trans rfl; have hcz24_2 : w22.cell? ⟨gb195, 2, none⟩ = some (.int .i64 0) := (blk_cell BK195.out 2).trans rfl; have hcz24_3 : w22.cell? ⟨gb195, 3, none⟩ = some (.int .i64 0) := (blk_cell BK195.out 3).trans rfl; have hcz24_4 : w22.cell? ⟨gb195, 4, none⟩ = some (.int .i64 0) := (blk_cell BK195.out 4).trans rfl; have hfz24_0 := blk_frozen BK195.out 0; have hfz24_1 := blk_frozen BK195.out 1; have hfz24_2 := blk_frozen BK195.out 2; have hfz24_3 := blk_frozen BK195.out 3; have hfz24_4 := blk_frozen BK195.out 4))
            (try simp only [Act.put, List.setIfInBounds_toArray, List.set_cons_zero, List.set_cons_succ])
            go_cut [74] (fun v74 wc => ∃ (kq : Nat) (x74_18 : Bool), v74 = .bool x74_18 ∧ Aside0 (fuseelaw13_DoverWaits.j1 kq l0 a1 a2 x74_18 ((rd_T29 l0 a2).f0) ((rd_T29 l0 a2).f1) ((rd_T29 l0 a2).f2) ((rd_T29 l0 a2).f3) (wrap64 (((rd_T29 l0 a2).f4) + 1)) = some r) ∧ Aside0 (kq ≤ kj4) ∧ Aside0 (wc.heap[gb194]? = some (.cells #[.int .i64 ((rd_T29 l0 a2).f0), .int .i64 ((rd_T29 l0 a2).f1), .int .i64 ((rd_T29 l0 a2).f2), .int .i64 ((rd_T29 l0 a2).f3), .int .i64 ((rd_T29 l0 a2).f4)] 29 (0, 0))) ∧ Aside0 (wc.heap[gb195]? = some (.cells #[.int .i64 ((rd_T29 l0 a2).f0), .int .i64 ((rd_T29 l0 a2).f1), .int .i64 ((rd_T29 l0 a2).f2), .int .i64 ((rd_T29 l0 a2).f3), .int .i64 (wrap64 (((rd_T29 l0 a2).f4) + 1))] 29 (0, 0))) ∧ Aside0 (Below w.heap.size w wc))
            case first =>
              have H := HC19.out
              clear HC19
              replace H := Option.bind_eq_some_iff.mp H
              obtain ⟨t196, A250, H⟩ := H
              replace H : ((dover_Lax.f ((rd_T29 l0 a2).f0) ((rd_T29 l0 a2).f1) ((rd_T29 l0 a2).f2) ((rd_T29 l0 a2).f3) ((rd_T29 l0 a2).f4) a1).bind fun t197 => (if t196 = t197 then ((dover_Lax.f ((rd_T29 l0 a2).f0) ((rd_T29 l0 a2).f1) ((rd_T29 l0 a2).f2) ((rd_T29 l0 a2).f3) ((rd_T29 l0 a2).f4) (wrap64 (a1 + 1))).bind fun t198 => ((dover_Lax.f ((rd_T29 l0 a2).f0) ((rd_T29 l0 a2).f1) ((rd_T29 l0 a2).f2) ((rd_T29 l0 a2).f3) ((rd_T29 l0 a2).f4) a1).bind fun t199 => (if t198 = (wrap64 (t199 - 1)) then ((dover_Fits.f kj4 (([(⟨(rd_T29 l0 a2).f0, (rd_T29 l0 a2).f1, (rd_T29 l0 a2).f2, (rd_T29 l0 a2).f3, (rd_T29 l0 a2).f4⟩ : S29)] : List (S29))) a1).bind fun t203 => ((dover_Lax.f ((rd_T29 l0 a2).f0) ((rd_T29 l0 a2).f1) ((rd_T29 l0 a2).f2) ((rd_T29 l0 a2).f3) ((rd_T29 l0 a2).f4) a1).bind fun t204 => (fuseelaw13_DoverWaits.j1 kj4 l0 a1 a2 (t203 != (decide (t204 ≥ 0))) ((rd_T29 l0 a2).f0) ((rd_T29 l0 a2).f1) ((rd_T29 l0 a2).f2) ((rd_T29 l0 a2).f3) (wrap64 (((rd_T29 l0 a2).f4) + 1))))) else (fuseelaw13_DoverWaits.j1 kj4 l0 a1 a2 true ((rd_T29 l0 a2).f0) ((rd_T29 l0 a2).f1) ((rd_T29 l0 a2).f2) ((rd_T29 l0 a2).f3) (wrap64 (((rd_T29 l0 a2).f4) + 1)))))) else (fuseelaw13_DoverWaits.j1 kj4 l0 a1 a2 true ((rd_T29 l0 a2).f0) ((rd_T29 l0 a2).f1) ((rd_T29 l0 a2).f2) ((rd_T29 l0 a2).f3) (wrap64 (((rd_T29 l0 a2).f4) + 1))))) = some r := H
              have A25 := Aside0.mk A250
              clear A250
              replace H := Option.bind_eq_some_iff.mp H
              obtain ⟨t197, A260, H⟩ := H
              replace H : (if t196 = t197 then ((dover_Lax.f ((rd_T29 l0 a2).f0) ((rd_T29 l0 a2).f1) ((rd_T29 l0 a2).f2) ((rd_T29 l0 a2).f3) ((rd_T29 l0 a2).f4) (wrap64 (a1 + 1))).bind fun t198 => ((dover_Lax.f ((rd_T29 l0 a2).f0) ((rd_T29 l0 a2).f1) ((rd_T29 l0 a2).f2) ((rd_T29 l0 a2).f3) ((rd_T29 l0 a2).f4) a1).bind fun t199 => (if t198 = (wrap64 (t199 - 1)) then ((dover_Fits.f kj4 (([(⟨(rd_T29 l0 a2).f0, (rd_T29 l0 a2).f1, (rd_T29 l0 a2).f2, (rd_T29 l0 a2).f3, (rd_T29 l0 a2).f4⟩ : S29)] : List (S29))) a1).bind fun t203 => ((dover_Lax.f ((rd_T29 l0 a2).f0) ((rd_T29 l0 a2).f1) ((rd_T29 l0 a2).f2) ((rd_T29 l0 a2).f3) ((rd_T29 l0 a2).f4) a1).bind fun t204 => (fuseelaw13_DoverWaits.j1 kj4 l0 a1 a2 (t203 != (decide (t204 ≥ 0))) ((rd_T29 l0 a2).f0) ((rd_T29 l0 a2).f1) ((rd_T29 l0 a2).f2) ((rd_T29 l0 a2).f3) (wrap64 (((rd_T29 l0 a2).f4) + 1))))) else (fuseelaw13_DoverWaits.j1 kj4 l0 a1 a2 true ((rd_T29 l0 a2).f0) ((rd_T29 l0 a2).f1) ((rd_T29 l0 a2).f2) ((rd_T29 l0 a2).f3) (wrap64 (((rd_T29 l0 a2).f4) + 1)))))) else (fuseelaw13_DoverWaits.j1 kj4 l0 a1 a2 true ((rd_T29 l0 a2).f0) ((rd_T29 l0 a2).f1) ((rd_T29 l0 a2).f2) ((rd_T29 l0 a2).f3) (wrap64 (((rd_T29 l0 a2).f4) + 1)))) = some r := H
              have A26 := Aside0.mk A260
              clear A260
              by_cases c27 : t196 = t197
              · rw [if_pos c27] at H
                have c27b0 : (t196 == t197) = true := beq_iff_eq.mpr c27
                have c27b1 : (t196 != t197) = false := bne_eq_false_iff_eq.mpr c27
                clear c27
                (first | rw [c27b0] | (simp only [i64_w, i32_w]; rw [c27b0]) | skip)
                replace H := Option.bind_eq_some_iff.mp H
                obtain ⟨t198, A280, H⟩ := H
                replace H : ((dover_Lax.f ((rd_T29 l0 a2).f0) ((rd_T29 l0 a2).f1) ((rd_T29 l0 a2).f2) ((rd_T29 l0 a2).f3) ((rd_T29 l0 a2).f4) a1).bind fun t199 => (if t198 = (wrap64 (t199 - 1)) then ((dover_Fits.f kj4 (([(⟨(rd_T29 l0 a2).f0, (rd_T29 l0 a2).f1, (rd_T29 l0 a2).f2, (rd_T29 l0 a2).f3, (rd_T29 l0 a2).f4⟩ : S29)] : List (S29))) a1).bind fun t203 => ((dover_Lax.f ((rd_T29 l0 a2).f0) ((rd_T29 l0 a2).f1) ((rd_T29 l0 a2).f2) ((rd_T29 l0 a2).f3) ((rd_T29 l0 a2).f4) a1).bind fun t204 => (fuseelaw13_DoverWaits.j1 kj4 l0 a1 a2 (t203 != (decide (t204 ≥ 0))) ((rd_T29 l0 a2).f0) ((rd_T29 l0 a2).f1) ((rd_T29 l0 a2).f2) ((rd_T29 l0 a2).f3) (wrap64 (((rd_T29 l0 a2).f4) + 1))))) else (fuseelaw13_DoverWaits.j1 kj4 l0 a1 a2 true ((rd_T29 l0 a2).f0) ((rd_T29 l0 a2).f1) ((rd_T29 l0 a2).f2) ((rd_T29 l0 a2).f3) (wrap64 (((rd_T29 l0 a2).f4) + 1))))) = some r := H
                have A28 := Aside0.mk A280
                clear A280
                replace H := Option.bind_eq_some_iff.mp H
                obtain ⟨t199, A290, H⟩ := H
                replace H : (if t198 = (wrap64 (t199 - 1)) then ((dover_Fits.f kj4 (([(⟨(rd_T29 l0 a2).f0, (rd_T29 l0 a2).f1, (rd_T29 l0 a2).f2, (rd_T29 l0 a2).f3, (rd_T29 l0 a2).f4⟩ : S29)] : List (S29))) a1).bind fun t203 => ((dover_Lax.f ((rd_T29 l0 a2).f0) ((rd_T29 l0 a2).f1) ((rd_T29 l0 a2).f2) ((rd_T29 l0 a2).f3) ((rd_T29 l0 a2).f4) a1).bind fun t204 => (fuseelaw13_DoverWaits.j1 kj4 l0 a1 a2 (t203 != (decide (t204 ≥ 0))) ((rd_T29 l0 a2).f0) ((rd_T29 l0 a2).f1) ((rd_T29 l0 a2).f2) ((rd_T29 l0 a2).f3) (wrap64 (((rd_T29 l0 a2).f4) + 1))))) else (fuseelaw13_DoverWaits.j1 kj4 l0 a1 a2 true ((rd_T29 l0 a2).f0) ((rd_T29 l0 a2).f1) ((rd_T29 l0 a2).f2) ((rd_T29 l0 a2).f3) (wrap64 (((rd_T29 l0 a2).f4) + 1)))) = some r := H
                have A29 := Aside0.mk A290
                clear A290
                by_cases c30 : t198 = (wrap64 (t199 - 1))
                · rw [if_pos c30] at H
                  have c30b0 : (t198 == (wrap64 (t199 - 1))) = true := beq_iff_eq.mpr c30
                  have c30b1 : (t198 != (wrap64 (t199 - 1))) = false := bne_eq_false_iff_eq.mpr c30
                  clear c30
                  obtain ⟨y200, hy200⟩ : ∃ y_ : List (S29), y_ = (([(⟨(rd_T29 l0 a2).f0, (rd_T29 l0 a2).f1, (rd_T29 l0 a2).f2, (rd_T29 l0 a2).f3, (rd_T29 l0 a2).f4⟩ : S29)] : List (S29))) := ⟨_, rfl⟩
                  replace H : ((dover_Fits.f kj4 y200 a1).bind fun t203 => ((dover_Lax.f ((rd_T29 l0 a2).f0) ((rd_T29 l0 a2).f1) ((rd_T29 l0 a2).f2) ((rd_T29 l0 a2).f3) ((rd_T29 l0 a2).f4) a1).bind fun t204 => (fuseelaw13_DoverWaits.j1 kj4 l0 a1 a2 (t203 != (decide (t204 ≥ 0))) ((rd_T29 l0 a2).f0) ((rd_T29 l0 a2).f1) ((rd_T29 l0 a2).f2) ((rd_T29 l0 a2).f3) (wrap64 (((rd_T29 l0 a2).f4) + 1))))) = some r := by first | (rw [hy200]; with_reducible exact H) | (have H2_ := (Option.bind_some _ _).symm.trans H; rw [hy200]; with_reducible exact H2_) | (have H2_ := (Option.bind_some _ _).symm.trans H; with_reducible exact H2_) | with_reducible exact H | (rw [hy200]; exact H) | exact H
                  have Ny200 := Aside0.mk hy200
                  clear hy200
                  replace H := Option.bind_eq_some_iff.mp H
                  obtain ⟨t203, A310, H⟩ := H
                  replace H : ((dover_Lax.f ((rd_T29 l0 a2).f0) ((rd_T29 l0 a2).f1) ((rd_T29 l0 a2).f2) ((rd_T29 l0 a2).f3) ((rd_T29 l0 a2).f4) a1).bind fun t204 => (fuseelaw13_DoverWaits.j1 kj4 l0 a1 a2 (t203 != (decide (t204 ≥ 0))) ((rd_T29 l0 a2).f0) ((rd_T29 l0 a2).f1) ((rd_T29 l0 a2).f2) ((rd_T29 l0 a2).f3) (wrap64 (((rd_T29 l0 a2).f4) + 1)))) = some r := H
                  have A31 := Aside0.mk A310
                  clear A310
                  replace H := Option.bind_eq_some_iff.mp H
                  obtain ⟨t204, A320, H⟩ := H
                  replace H : (fuseelaw13_DoverWaits.j1 kj4 l0 a1 a2 (t203 != (decide (t204 ≥ 0))) ((rd_T29 l0 a2).f0) ((rd_T29 l0 a2).f1) ((rd_T29 l0 a2).f2) ((rd_T29 l0 a2).f3) (wrap64 (((rd_T29 l0 a2).f4) + 1))) = some r := H
                  have A32 := Aside0.mk A320
                  clear A320
                  have H' := Aside0.mk H
                  clear H
                  try go_wp2
                  have n0_ : Aside0 (((((((w22.setCell ⟨gb195, 0, none⟩ (.int .i64 ((rd_T29 l0 a2).f0))).setCell ⟨gb195, 1, none⟩ (.int .i64 ((rd_T29 l0 a2).f1))).setCell ⟨gb195, 2, none⟩ (.int .i64 ((rd_T29 l0 a2).f2))).setCell ⟨gb195, 3, none⟩ (.int .i64 ((rd_T29 l0 a2).f3))).setCell ⟨gb195, 4, none⟩ (.int .i64 ((rd_T29 l0 a2).f4))).setCell ⟨gb195, 4, none⟩ (.int .i64 (wrap64 (((rd_T29 l0 a2).f4) + 1)))).heap[gb194]? = some (.cells #[.int .i64 ((rd_T29 l0 a2).f0), .int .i64 ((rd_T29 l0 a2).f1), .int .i64 ((rd_T29 l0 a2).f2), .int .i64 ((rd_T29 l0 a2).f3), .int .i64 ((rd_T29 l0 a2).f4)] 29 (0, 0))) := ⟨by (with_reducible repeat (first | refine blk_drewN ?_ _ | refine blk_drew ?_ | refine blk_alloc ?_ _)); refine blk_far ?_ NB194_195.out _; (with_reducible repeat (first | refine blk_drewN ?_ _ | refine blk_drew ?_ | refine blk_alloc ?_ _)); refine blk_far ?_ NB194_195.out _; (with_reducible repeat (first | refine blk_drewN ?_ _ | refine blk_drew ?_ | refine blk_alloc ?_ _)); refine blk_far ?_ NB194_195.out _; (with_reducible repeat (first | refine blk_drewN ?_ _ | refine blk_drew ?_ | refine blk_alloc ?_ _)); refine blk_far ?_ NB194_195.out _; (with_reducible repeat (first | refine blk_drewN ?_ _ | refine blk_drew ?_ | refine blk_alloc ?_ _)); refine blk_far ?_ NB194_195.out _; (with_reducible repeat (first | refine blk_drewN ?_ _ | refine blk_drew ?_ | refine blk_alloc ?_ _)); refine blk_far ?_ NB194_195.out _; (with_reducible repeat (first | refine blk_drewN ?_ _ | refine blk_drew ?_ | refine blk_alloc ?_ _)); exact BK194.out⟩
                  have n1_ : Aside0 (((((((w22.setCell ⟨gb195, 0, none⟩ (.int .i64 ((rd_T29 l0 a2).f0))).setCell ⟨gb195, 1, none⟩ (.int .i64 ((rd_T29 l0 a2).f1))).setCell ⟨gb195, 2, none⟩ (.int .i64 ((rd_T29 l0 a2).f2))).setCell ⟨gb195, 3, none⟩ (.int .i64 ((rd_T29 l0 a2).f3))).setCell ⟨gb195, 4, none⟩ (.int .i64 ((rd_T29 l0 a2).f4))).setCell ⟨gb195, 4, none⟩ (.int .i64 (wrap64 (((rd_T29 l0 a2).f4) + 1)))).heap[gb195]? = some (.cells #[.int .i64 ((rd_T29 l0 a2).f0), .int .i64 ((rd_T29 l0 a2).f1), .int .i64 ((rd_T29 l0 a2).f2), .int .i64 ((rd_T29 l0 a2).f3), .int .i64 (wrap64 (((rd_T29 l0 a2).f4) + 1))] 29 (0, 0))) := ⟨by (with_reducible repeat (first | refine blk_drewN ?_ _ | refine blk_drew ?_ | refine blk_alloc ?_ _)); refine blk_put (cs := #[.int .i64 ((rd_T29 l0 a2).f0), .int .i64 ((rd_T29 l0 a2).f1), .int .i64 ((rd_T29 l0 a2).f2), .int .i64 ((rd_T29 l0 a2).f3), .int .i64 ((rd_T29 l0 a2).f4)]) ?_ 4 _ rfl; (with_reducible repeat (first | refine blk_drewN ?_ _ | refine blk_drew ?_ | refine blk_alloc ?_ _)); refine blk_put (cs := #[.int .i64 ((rd_T29 l0 a2).f0), .int .i64 ((rd_T29 l0 a2).f1), .int .i64 ((rd_T29 l0 a2).f2), .int .i64 ((rd_T29 l0 a2).f3), .int .i64 0]) ?_ 4 _ rfl; (with_reducible repeat (first | refine blk_drewN ?_ _ | refine blk_drew ?_ | refine blk_alloc ?_ _)); refine blk_put (cs := #[.int .i64 ((rd_T29 l0 a2).f0), .int .i64 ((rd_T29 l0 a2).f1), .int .i64 ((rd_T29 l0 a2).f2), .int .i64 0, .int .i64 0]) ?_ 3 _ rfl; (with_reducible repeat (first | refine blk_drewN ?_ _ | refine blk_drew ?_ | refine blk_alloc ?_ _)); refine blk_put (cs := #[.int .i64 ((rd_T29 l0 a2).f0), .int .i64 ((rd_T29 l0 a2).f1), .int .i64 0, .int .i64 0, .int .i64 0]) ?_ 2 _ rfl; (with_reducible repeat (first | refine blk_drewN ?_ _ | refine blk_drew ?_ | refine blk_alloc ?_ _)); refine blk_put (cs := #[.int .i64 ((rd_T29 l0 a2).f0), .int .i64 0, .int .i64 0, .int .i64 0, .int .i64 0]) ?_ 1 _ rfl; (with_reducible repeat (first | refine blk_drewN ?_ _ | refine blk_drew ?_ | refine blk_alloc ?_ _)); refine blk_put (cs := #[.int .i64 0, .int .i64 0, .int .i64 0, .int .i64 0, .int .i64 0]) ?_ 0 _ rfl; (with_reducible repeat (first | refine blk_drewN ?_ _ | refine blk_drew ?_ | refine blk_alloc ?_ _)); exact BK195.out⟩
                  have n2_ : Aside0 (Below w.heap.size w ((((((w22.setCell ⟨gb195, 0, none⟩ (.int .i64 ((rd_T29 l0 a2).f0))).setCell ⟨gb195, 1, none⟩ (.int .i64 ((rd_T29 l0 a2).f1))).setCell ⟨gb195, 2, none⟩ (.int .i64 ((rd_T29 l0 a2).f2))).setCell ⟨gb195, 3, none⟩ (.int .i64 ((rd_T29 l0 a2).f3))).setCell ⟨gb195, 4, none⟩ (.int .i64 ((rd_T29 l0 a2).f4))).setCell ⟨gb195, 4, none⟩ (.int .i64 (wrap64 (((rd_T29 l0 a2).f4) + 1))))) := ⟨by repeat (first | (with_reducible first | exact HB.out | apply below_alloc | apply pw_below_drewN | apply below_drew1 | refine below_set ?_ GE194.out | refine below_set ?_ GE195.out) | exact HB.out)⟩
                  (try clear BK194)
                  (try clear BK195)
                  (try clear HB)
                  generalize ((((((w22.setCell ⟨gb195, 0, none⟩ (.int .i64 ((rd_T29 l0 a2).f0))).setCell ⟨gb195, 1, none⟩ (.int .i64 ((rd_T29 l0 a2).f1))).setCell ⟨gb195, 2, none⟩ (.int .i64 ((rd_T29 l0 a2).f2))).setCell ⟨gb195, 3, none⟩ (.int .i64 ((rd_T29 l0 a2).f3))).setCell ⟨gb195, 4, none⟩ (.int .i64 ((rd_T29 l0 a2).f4))).setCell ⟨gb195, 4, none⟩ (.int .i64 (wrap64 (((rd_T29 l0 a2).f4) + 1)))) = w33 at n0_ n1_ n2_ ⊢
                  have BK194 := n0_
                  have BK195 := n1_
                  have HB := n2_
                  clear n0_ n1_ n2_
                  have n0_ := Aside0.mk (blk_drew BK194.out)
                  have n1_ := Aside0.mk (blk_drew BK195.out)
                  have n2_ := Aside0.mk (below_drew1 HB.out)
                  clear BK194
                  clear BK195
                  clear HB
                  have BK194 := n0_
                  have BK195 := n1_
                  have HB := n2_
                  clear n0_ n1_ n2_
                  refine start_ (n := 30) (S := fun w' => w'.cell? ⟨gb195, 0, none⟩ = some (.int .i64 ((rd_T29 l0 a2).f0)) ∧ w'.cell? ⟨gb195, 1, none⟩ = some (.int .i64 ((rd_T29 l0 a2).f1)) ∧ w'.cell? ⟨gb195, 2, none⟩ = some (.int .i64 ((rd_T29 l0 a2).f2)) ∧ w'.cell? ⟨gb195, 3, none⟩ = some (.int .i64 ((rd_T29 l0 a2).f3)) ∧ w'.cell? ⟨gb195, 4, none⟩ = some (.int .i64 (wrap64 (((rd_T29 l0 a2).f4) + 1))) ∧ w'.cell? ⟨gb194, 0, none⟩ = some (.int .i64 ((rd_T29 l0 a2).f0)) ∧ w'.cell? ⟨gb194, 1, none⟩ = some (.int .i64 ((rd_T29 l0 a2).f1)) ∧ w'.cell? ⟨gb194, 2, none⟩ = some (.int .i64 ((rd_T29 l0 a2).f2)) ∧ w'.cell? ⟨gb194, 3, none⟩ = some (.int .i64 ((rd_T29 l0 a2).f3)) ∧ w'.cell? ⟨gb194, 4, none⟩ = some (.int .i64 ((rd_T29 l0 a2).f4))) (ds := []) #[false, false, false, false, false, false, false, false, false, false, false, false, false, false, false, false, false, false, false, false, false, false, false, false, false, false, false, false, false, false] (by kernel_rfl) rfl rfl ⟨(blk_cell BK195.out 0).trans rfl, (blk_cell BK195.out 1).trans rfl, (blk_cell BK195.out 2).trans rfl, (blk_cell BK195.out 3).trans rfl, (blk_cell BK195.out 4).trans rfl, (blk_cell BK194.out 0).trans rfl, (blk_cell BK194.out 1).trans rfl, (blk_cell BK194.out 2).trans rfl, (blk_cell BK194.out 3).trans rfl, (blk_cell BK194.out 4).trans rfl⟩ (fun hHeld => ?_); refine with_tabW fuseelaw13_DoverWaits.tab7 fuseelaw13_DoverWaits.bits7 (fun HT_ HW_ => ?_)
                  generalize w33.drew = w34 at BK194 BK195 HB hHeld ⊢
                  refine pure_ (i := 1) (N := some 46) (v := ?_) (a' := ?_) #[false, true, false, false, false, false, false, false, false, false, false, false, false, false, false, false, false, false, false, false, false, false, false, false, false, false, false, false, false, false] rfl rfl (any_of HT_.out (by kernel_rfl)) (fun _ _ _ h => h) (Or.inl ⟨by rfl, ?_⟩) ?_ ?_
                  rotate_left
                  · intro w'
                    go_simp
                    with_reducible rfl
                  rotate_left
                  · simp only [Act.put, List.setIfInBounds_toArray, List.set_cons_zero, List.set_cons_succ, i64_w, i32_w]
                    rfl
                  refine pure_ (i := 2) (N := some 47) (v := ?_) (a' := ?_) #[false, true, true, false, false, false, false, false, false, false, false, false, false, false, false, false, false, false, false, false, false, false, false, false, false, false, false, false, false, false] rfl rfl (any_of HT_.out (by kernel_rfl)) (fun _ _ _ h => h) (Or.inl ⟨by rfl, ?_⟩) ?_ ?_
                  rotate_left
                  · intro w'
                    go_simp
                    with_reducible rfl
                  rotate_left
                  · simp only [Act.put, List.setIfInBounds_toArray, List.set_cons_zero, List.set_cons_succ, i64_w, i32_w]
                    rfl
                  refine pure_ (i := 5) (N := some 50) (v := ?_) (a' := ?_) #[false, true, true, false, false, true, false, false, false, false, false, false, false, false, false, false, false, false, false, false, false, false, false, false, false, false, false, false, false, false] rfl rfl (any_of HT_.out (by kernel_rfl)) (fun _ _ _ h => h) (Or.inl ⟨by rfl, ?_⟩) ?_ ?_
                  rotate_left
                  · intro w'
                    go_simp
                    with_reducible rfl
                  rotate_left
                  · simp only [Act.put, List.setIfInBounds_toArray, List.set_cons_zero, List.set_cons_succ, i64_w, i32_w]
                    rfl
                  refine take_ (i := 0) (N := some 45) (v := ?_) (a' := ?_) #[true, true, true, false, false, true, false, false, false, false, false, false, false, false, false, false, false, false, false, false, false, false, false, false, false, false, false, false, false, false] rfl rfl (take_ofW HT_.out HW_.out (by kernel_rfl)) (fun _ _ _ h => h) (Or.inl ⟨by rfl, ?_⟩) hHeld ?_ ?_
                  rotate_left
                  · rintro w' ⟨s0, s1, s2, s3, s4, s5, s6, s7, s8, s9⟩
                    go_simp
                    with_reducible rfl
                  rotate_left
                  · simp only [Act.put, List.setIfInBounds_toArray, List.set_cons_zero, List.set_cons_succ, i64_w, i32_w]
                    rfl
                  refine take_ (i := 4) (N := some 49) (v := ?_) (a' := ?_) #[true, true, true, false, true, true, false, false, false, false, false, false, false, false, false, false, false, false, false, false, false, false, false, false, false, false, false, false, false, false] rfl rfl (take_ofW HT_.out HW_.out (by kernel_rfl)) (fun _ _ _ h => h) (Or.inl ⟨by rfl, ?_⟩) hHeld ?_ ?_
                  rotate_left
                  · rintro w' ⟨s0, s1, s2, s3, s4, s5, s6, s7, s8, s9⟩
                    go_simp
                    with_reducible rfl
                  rotate_left
                  · simp only [Act.put, List.setIfInBounds_toArray, List.set_cons_zero, List.set_cons_succ, i64_w, i32_w]
                    rfl
                  refine one_ (i := 3) (N := some 48) #[true, true, true, true, true, true, false, false, false, false, false, false, false, false, false, false, false, false, false, false, false, false, false, false, false, false, false, false, false, false] rfl rfl (one_of HT_.out (by kernel_rfl)) (by decide) (fun K hK => ?_)
                  refine goes_ Try.func13 (by kernel_rfl) rfl #[.agg #[.int .i64 ((rd_T29 l0 a2).f0), .int .i64 ((rd_T29 l0 a2).f1), .int .i64 ((rd_T29 l0 a2).f2), .int .i64 ((rd_T29 l0 a2).f3), .int .i64 (wrap64 (((rd_T29 l0 a2).f4) + 1))], .int .i64 (wrap64 (a1 + 1))] (by rfl) rfl rfl (by (try simp only [List.map_toArray, List.map_cons, List.map_nil]); first | done | rfl | (simp only [List.length_drop, List.length_take]; rfl)) ?_
                  with_reducible refine (dover_Lax.calls ((rd_T29 l0 a2).f0) ((rd_T29 l0 a2).f1) ((rd_T29 l0 a2).f2) ((rd_T29 l0 a2).f3) (wrap64 (((rd_T29 l0 a2).f4) + 1)) (wrap64 (a1 + 1)) t196 _ A25.out).mono ?_
                  rintro e w35 ⟨rfl, hb⟩
                  refine ⟨_, rfl, ?_⟩
                  have n0_ := Aside0.mk (blk_below (g := gb194) (o := .cells #[.int .i64 ((rd_T29 l0 a2).f0), .int .i64 ((rd_T29 l0 a2).f1), .int .i64 ((rd_T29 l0 a2).f2), .int .i64 ((rd_T29 l0 a2).f3), .int .i64 ((rd_T29 l0 a2).f4)] 29 (0, 0)) (by (with_reducible repeat (first | refine blk_drewN ?_ _ | refine blk_drew ?_ | refine blk_alloc ?_ _)); exact BK194.out) hb)
                  have n1_ := Aside0.mk (blk_below (g := gb195) (o := .cells #[.int .i64 ((rd_T29 l0 a2).f0), .int .i64 ((rd_T29 l0 a2).f1), .int .i64 ((rd_T29 l0 a2).f2), .int .i64 ((rd_T29 l0 a2).f3), .int .i64 (wrap64 (((rd_T29 l0 a2).f4) + 1))] 29 (0, 0)) (by (with_reducible repeat (first | refine blk_drewN ?_ _ | refine blk_drew ?_ | refine blk_alloc ?_ _)); exact BK195.out) hb)
                  have n2_ := Aside0.mk (below_step (by repeat (first | (with_reducible first | exact HB.out | apply below_alloc | apply pw_below_drewN | apply below_drew1 | refine below_set ?_ GE194.out | refine below_set ?_ GE195.out) | exact HB.out)) hb)
                  clear BK194
                  clear BK195
                  clear HB
                  have BK194 := n0_
                  have BK195 := n1_
                  have HB := n2_
                  clear n0_ n1_ n2_
                  (try clear hb)
                  (try clear hb2)
                  (try clear hk)
                  (try clear hi)
                  refine hK.out _ _ ⟨(blk_cell BK195.out 0).trans rfl, (blk_cell BK195.out 1).trans rfl, (blk_cell BK195.out 2).trans rfl, (blk_cell BK195.out 3).trans rfl, (blk_cell BK195.out 4).trans rfl, (blk_cell BK194.out 0).trans rfl, (blk_cell BK194.out 1).trans rfl, (blk_cell BK194.out 2).trans rfl, (blk_cell BK194.out 3).trans rfl, (blk_cell BK194.out 4).trans rfl⟩ (fun hHeld => ?_)
                  clear hK K
                  refine norm_ (a' := ?_) ?_ ?_
                  rotate_left
                  · show Act.put _ (some 48) _ = _
                    simp only [Act.put, List.setIfInBounds_toArray, List.set_cons_zero, List.set_cons_succ, i64_w, i32_w]
                    rfl
                  refine one_ (i := 6) (N := some 51) #[true, true, true, true, true, true, true, false, false, false, false, false, false, false, false, false, false, false, false, false, false, false, false, false, false, false, false, false, false, false] rfl rfl (one_of HT_.out (by kernel_rfl)) (by decide) (fun K hK => ?_)
                  refine goes_ Try.func13 (by kernel_rfl) rfl #[.agg #[.int .i64 ((rd_T29 l0 a2).f0), .int .i64 ((rd_T29 l0 a2).f1), .int .i64 ((rd_T29 l0 a2).f2), .int .i64 ((rd_T29 l0 a2).f3), .int .i64 ((rd_T29 l0 a2).f4)], .int .i64 a1] (by rfl) rfl rfl (by (try simp only [List.map_toArray, List.map_cons, List.map_nil]); first | done | rfl | (simp only [List.length_drop, List.length_take]; rfl)) ?_
                  with_reducible refine (dover_Lax.calls ((rd_T29 l0 a2).f0) ((rd_T29 l0 a2).f1) ((rd_T29 l0 a2).f2) ((rd_T29 l0 a2).f3) ((rd_T29 l0 a2).f4) a1 t197 _ A26.out).mono ?_
                  rintro e w36 ⟨rfl, hb⟩
                  refine ⟨_, rfl, ?_⟩
                  have n0_ := Aside0.mk (blk_below (g := gb194) (o := .cells #[.int .i64 ((rd_T29 l0 a2).f0), .int .i64 ((rd_T29 l0 a2).f1), .int .i64 ((rd_T29 l0 a2).f2), .int .i64 ((rd_T29 l0 a2).f3), .int .i64 ((rd_T29 l0 a2).f4)] 29 (0, 0)) (by (with_reducible repeat (first | refine blk_drewN ?_ _ | refine blk_drew ?_ | refine blk_alloc ?_ _)); exact BK194.out) hb)
                  have n1_ := Aside0.mk (blk_below (g := gb195) (o := .cells #[.int .i64 ((rd_T29 l0 a2).f0), .int .i64 ((rd_T29 l0 a2).f1), .int .i64 ((rd_T29 l0 a2).f2), .int .i64 ((rd_T29 l0 a2).f3), .int .i64 (wrap64 (((rd_T29 l0 a2).f4) + 1))] 29 (0, 0)) (by (with_reducible repeat (first | refine blk_drewN ?_ _ | refine blk_drew ?_ | refine blk_alloc ?_ _)); exact BK195.out) hb)
                  have n2_ := Aside0.mk (below_step (by repeat (first | (with_reducible first | exact HB.out | apply below_alloc | apply pw_below_drewN | apply below_drew1 | refine below_set ?_ GE194.out | refine below_set ?_ GE195.out) | exact HB.out)) hb)
                  clear BK194
                  clear BK195
                  clear HB
                  have BK194 := n0_
                  have BK195 := n1_
                  have HB := n2_
                  clear n0_ n1_ n2_
                  (try clear hb)
                  (try clear hb2)
                  (try clear hk)
                  (try clear hi)
                  refine hK.out _ _ ⟨(blk_cell BK195.out 0).trans rfl, (blk_cell BK195.out 1).trans rfl, (blk_cell BK195.out 2).trans rfl, (blk_cell BK195.out 3).trans rfl, (blk_cell BK195.out 4).trans rfl, (blk_cell BK194.out 0).trans rfl, (blk_cell BK194.out 1).trans rfl, (blk_cell BK194.out 2).trans rfl, (blk_cell BK194.out 3).trans rfl, (blk_cell BK194.out 4).trans rfl⟩ (fun hHeld => ?_)
                  clear hK K
                  refine norm_ (a' := ?_) ?_ ?_
                  rotate_left
                  · show Act.put _ (some 51) _ = _
                    simp only [Act.put, List.setIfInBounds_toArray, List.set_cons_zero, List.set_cons_succ, i64_w, i32_w]
                    rfl
                  refine pure_ (i := 7) (N := some 52) (v := ?_) (a' := ?_) #[true, true, true, true, true, true, true, true, false, false, false, false, false, false, false, false, false, false, false, false, false, false, false, false, false, false, false, false, false, false] rfl rfl (any_of HT_.out (by kernel_rfl)) (fun _ _ _ h => h) (Or.inl ⟨by rfl, ?_⟩) ?_ ?_
                  rotate_left
                  · intro w'
                    go_simp
                    with_reducible rfl
                  rotate_left
                  · simp only [Act.put, List.setIfInBounds_toArray, List.set_cons_zero, List.set_cons_succ, i64_w, i32_w]
                    rfl
                  refine pure_ (i := 8) (N := some 53) (v := ?_) (a' := ?_) #[true, true, true, true, true, true, true, true, true, false, false, false, false, false, false, false, false, false, false, false, false, false, false, false, false, false, false, false, false, false] rfl rfl (any_of HT_.out (by kernel_rfl)) (fun _ _ _ h => h) (Or.inl ⟨by rfl, ?_⟩) ?_ ?_
                  rotate_left
                  · intro w'
                    go_simp
                    with_reducible rfl
                  rotate_left
                  · simp only [Act.put, List.setIfInBounds_toArray, List.set_cons_zero, List.set_cons_succ, i64_w, i32_w]
                    rfl
                  refine pure_ (i := 10) (N := some 55) (v := ?_) (a' := ?_) #[true, true, true, true, true, true, true, true, true, false, true, false, false, false, false, false, false, false, false, false, false, false, false, false, false, false, false, false, false, false] rfl rfl (any_of HT_.out (by kernel_rfl)) (fun _ _ _ h => h) (Or.inl ⟨by rfl, ?_⟩) ?_ ?_
                  rotate_left
                  · intro w'
                    go_simp
                    with_reducible rfl
                  rotate_left
                  · simp only [Act.put, List.setIfInBounds_toArray, List.set_cons_zero, List.set_cons_succ, i64_w, i32_w]
                    rfl
                  refine pure_ (i := 11) (N := some 56) (v := ?_) (a' := ?_) #[true, true, true, true, true, true, true, true, true, false, true, true, false, false, false, false, false, false, false, false, false, false, false, false, false, false, false, false, false, false] rfl rfl (any_of HT_.out (by kernel_rfl)) (fun _ _ _ h => h) (Or.inl ⟨by rfl, ?_⟩) ?_ ?_
                  rotate_left
                  · intro w'
                    go_simp
                    with_reducible rfl
                  rotate_left
                  · simp only [Act.put, List.setIfInBounds_toArray, List.set_cons_zero, List.set_cons_succ, i64_w, i32_w]
                    rfl
                  refine pure_ (i := 14) (N := some 59) (v := ?_) (a' := ?_) #[true, true, true, true, true, true, true, true, true, false, true, true, false, false, true, false, false, false, false, false, false, false, false, false, false, false, false, false, false, false] rfl rfl (any_of HT_.out (by kernel_rfl)) (fun _ _ _ h => h) (Or.inl ⟨by rfl, ?_⟩) ?_ ?_
                  rotate_left
                  · intro w'
                    go_simp
                    with_reducible rfl
                  rotate_left
                  · simp only [Act.put, List.setIfInBounds_toArray, List.set_cons_zero, List.set_cons_succ, i64_w, i32_w]
                    rfl
                  refine take_ (i := 9) (N := some 54) (v := ?_) (a' := ?_) #[true, true, true, true, true, true, true, true, true, true, true, true, false, false, true, false, false, false, false, false, false, false, false, false, false, false, false, false, false, false] rfl rfl (take_ofW HT_.out HW_.out (by kernel_rfl)) (fun _ _ _ h => h) (Or.inl ⟨by rfl, ?_⟩) hHeld ?_ ?_
                  rotate_left
                  · rintro w' ⟨s0, s1, s2, s3, s4, s5, s6, s7, s8, s9⟩
                    go_simp
                    with_reducible rfl
                  rotate_left
                  · simp only [Act.put, List.setIfInBounds_toArray, List.set_cons_zero, List.set_cons_succ, i64_w, i32_w]
                    rfl
                  refine take_ (i := 13) (N := some 58) (v := ?_) (a' := ?_) #[true, true, true, true, true, true, true, true, true, true, true, true, false, true, true, false, false, false, false, false, false, false, false, false, false, false, false, false, false, false] rfl rfl (take_ofW HT_.out HW_.out (by kernel_rfl)) (fun _ _ _ h => h) (Or.inl ⟨by rfl, ?_⟩) hHeld ?_ ?_
                  rotate_left
                  · rintro w' ⟨s0, s1, s2, s3, s4, s5, s6, s7, s8, s9⟩
                    go_simp
                    with_reducible rfl
                  rotate_left
                  · simp only [Act.put, List.setIfInBounds_toArray, List.set_cons_zero, List.set_cons_succ, i64_w, i32_w]
                    rfl
                  refine one_ (i := 12) (N := some 57) #[true, true, true, true, true, true, true, true, true, true, true, true, true, true, true, false, false, false, false, false, false, false, false, false, false, false, false, false, false, false] rfl rfl (one_of HT_.out (by kernel_rfl)) (by decide) (fun K hK => ?_)
                  refine goes_ Try.func13 (by kernel_rfl) rfl #[.agg #[.int .i64 ((rd_T29 l0 a2).f0), .int .i64 ((rd_T29 l0 a2).f1), .int .i64 ((rd_T29 l0 a2).f2), .int .i64 ((rd_T29 l0 a2).f3), .int .i64 ((rd_T29 l0 a2).f4)], .int .i64 (wrap64 (a1 + 1))] (by rfl) rfl rfl (by (try simp only [List.map_toArray, List.map_cons, List.map_nil]); first | done | rfl | (simp only [List.length_drop, List.length_take]; rfl)) ?_
                  with_reducible refine (dover_Lax.calls ((rd_T29 l0 a2).f0) ((rd_T29 l0 a2).f1) ((rd_T29 l0 a2).f2) ((rd_T29 l0 a2).f3) ((rd_T29 l0 a2).f4) (wrap64 (a1 + 1)) t198 _ A28.out).mono ?_
                  rintro e w37 ⟨rfl, hb⟩
                  refine ⟨_, rfl, ?_⟩
                  have n0_ := Aside0.mk (blk_below (g := gb194) (o := .cells #[.int .i64 ((rd_T29 l0 a2).f0), .int .i64 ((rd_T29 l0 a2).f1), .int .i64 ((rd_T29 l0 a2).f2), .int .i64 ((rd_T29 l0 a2).f3), .int .i64 ((rd_T29 l0 a2).f4)] 29 (0, 0)) (by (with_reducible repeat (first | refine blk_drewN ?_ _ | refine blk_drew ?_ | refine blk_alloc ?_ _)); exact BK194.out) hb)
                  have n1_ := Aside0.mk (blk_below (g := gb195) (o := .cells #[.int .i64 ((rd_T29 l0 a2).f0), .int .i64 ((rd_T29 l0 a2).f1), .int .i64 ((rd_T29 l0 a2).f2), .int .i64 ((rd_T29 l0 a2).f3), .int .i64 (wrap64 (((rd_T29 l0 a2).f4) + 1))] 29 (0, 0)) (by (with_reducible repeat (first | refine blk_drewN ?_ _ | refine blk_drew ?_ | refine blk_alloc ?_ _)); exact BK195.out) hb)
                  have n2_ := Aside0.mk (below_step (by repeat (first | (with_reducible first | exact HB.out | apply below_alloc | apply pw_below_drewN | apply below_drew1 | refine below_set ?_ GE194.out | refine below_set ?_ GE195.out) | exact HB.out)) hb)
                  clear BK194
                  clear BK195
                  clear HB
                  have BK194 := n0_
                  have BK195 := n1_
                  have HB := n2_
                  clear n0_ n1_ n2_
                  (try clear hb)
                  (try clear hb2)
                  (try clear hk)
                  (try clear hi)
                  refine hK.out _ _ ⟨(blk_cell BK195.out 0).trans rfl, (blk_cell BK195.out 1).trans rfl, (blk_cell BK195.out 2).trans rfl, (blk_cell BK195.out 3).trans rfl, (blk_cell BK195.out 4).trans rfl, (blk_cell BK194.out 0).trans rfl, (blk_cell BK194.out 1).trans rfl, (blk_cell BK194.out 2).trans rfl, (blk_cell BK194.out 3).trans rfl, (blk_cell BK194.out 4).trans rfl⟩ (fun hHeld => ?_)
                  clear hK K
                  refine norm_ (a' := ?_) ?_ ?_
                  rotate_left
                  · show Act.put _ (some 57) _ = _
                    simp only [Act.put, List.setIfInBounds_toArray, List.set_cons_zero, List.set_cons_succ, i64_w, i32_w]
                    rfl
                  refine one_ (i := 15) (N := some 60) #[true, true, true, true, true, true, true, true, true, true, true, true, true, true, true, true, false, false, false, false, false, false, false, false, false, false, false, false, false, false] rfl rfl (one_of HT_.out (by kernel_rfl)) (by decide) (fun K hK => ?_)
                  refine goes_ Try.func13 (by kernel_rfl) rfl #[.agg #[.int .i64 ((rd_T29 l0 a2).f0), .int .i64 ((rd_T29 l0 a2).f1), .int .i64 ((rd_T29 l0 a2).f2), .int .i64 ((rd_T29 l0 a2).f3), .int .i64 ((rd_T29 l0 a2).f4)], .int .i64 a1] (by rfl) rfl rfl (by (try simp only [List.map_toArray, List.map_cons, List.map_nil]); first | done | rfl | (simp only [List.length_drop, List.length_take]; rfl)) ?_
                  with_reducible refine (dover_Lax.calls ((rd_T29 l0 a2).f0) ((rd_T29 l0 a2).f1) ((rd_T29 l0 a2).f2) ((rd_T29 l0 a2).f3) ((rd_T29 l0 a2).f4) a1 t199 _ A29.out).mono ?_
                  rintro e w38 ⟨rfl, hb⟩
                  refine ⟨_, rfl, ?_⟩
                  have n0_ := Aside0.mk (blk_below (g := gb194) (o := .cells #[.int .i64 ((rd_T29 l0 a2).f0), .int .i64 ((rd_T29 l0 a2).f1), .int .i64 ((rd_T29 l0 a2).f2), .int .i64 ((rd_T29 l0 a2).f3), .int .i64 ((rd_T29 l0 a2).f4)] 29 (0, 0)) (by (with_reducible repeat (first | refine blk_drewN ?_ _ | refine blk_drew ?_ | refine blk_alloc ?_ _)); exact BK194.out) hb)
                  have n1_ := Aside0.mk (blk_below (g := gb195) (o := .cells #[.int .i64 ((rd_T29 l0 a2).f0), .int .i64 ((rd_T29 l0 a2).f1), .int .i64 ((rd_T29 l0 a2).f2), .int .i64 ((rd_T29 l0 a2).f3), .int .i64 (wrap64 (((rd_T29 l0 a2).f4) + 1))] 29 (0, 0)) (by (with_reducible repeat (first | refine blk_drewN ?_ _ | refine blk_drew ?_ | refine blk_alloc ?_ _)); exact BK195.out) hb)
                  have n2_ := Aside0.mk (below_step (by repeat (first | (with_reducible first | exact HB.out | apply below_alloc | apply pw_below_drewN | apply below_drew1 | refine below_set ?_ GE194.out | refine below_set ?_ GE195.out) | exact HB.out)) hb)
                  clear BK194
                  clear BK195
                  clear HB
                  have BK194 := n0_
                  have BK195 := n1_
                  have HB := n2_
                  clear n0_ n1_ n2_
                  (try clear hb)
                  (try clear hb2)
                  (try clear hk)
                  (try clear hi)
                  refine hK.out _ _ ⟨(blk_cell BK195.out 0).trans rfl, (blk_cell BK195.out 1).trans rfl, (blk_cell BK195.out 2).trans rfl, (blk_cell BK195.out 3).trans rfl, (blk_cell BK195.out 4).trans rfl, (blk_cell BK194.out 0).trans rfl, (blk_cell BK194.out 1).trans rfl, (blk_cell BK194.out 2).trans rfl, (blk_cell BK194.out 3).trans rfl, (blk_cell BK194.out 4).trans rfl⟩ (fun hHeld => ?_)
                  clear hK K
                  refine norm_ (a' := ?_) ?_ ?_
                  rotate_left
                  · show Act.put _ (some 60) _ = _
                    simp only [Act.put, List.setIfInBounds_toArray, List.set_cons_zero, List.set_cons_succ, i64_w, i32_w]
                    rfl
                  refine pure_ (i := 16) (N := some 61) (v := ?_) (a' := ?_) #[true, true, true, true, true, true, true, true, true, true, true, true, true, true, true, true, true, false, false, false, false, false, false, false, false, false, false, false, false, false] rfl rfl (any_of HT_.out (by kernel_rfl)) (fun _ _ _ h => h) (Or.inl ⟨by rfl, ?_⟩) ?_ ?_
                  rotate_left
                  · intro w'
                    go_simp
                    with_reducible rfl
                  rotate_left
                  · simp only [Act.put, List.setIfInBounds_toArray, List.set_cons_zero, List.set_cons_succ, i64_w, i32_w]
                    rfl
                  refine pure_ (i := 17) (N := some 62) (v := ?_) (a' := ?_) #[true, true, true, true, true, true, true, true, true, true, true, true, true, true, true, true, true, true, false, false, false, false, false, false, false, false, false, false, false, false] rfl rfl (any_of HT_.out (by kernel_rfl)) (fun _ _ _ h => h) (Or.inl ⟨by rfl, ?_⟩) ?_ ?_
                  rotate_left
                  · intro w'
                    go_simp
                    with_reducible rfl
                  rotate_left
                  · simp only [Act.put, List.setIfInBounds_toArray, List.set_cons_zero, List.set_cons_succ, i64_w, i32_w]
                    rfl
                  refine pure_ (i := 18) (N := some 63) (v := ?_) (a' := ?_) #[true, true, true, true, true, true, true, true, true, true, true, true, true, true, true, true, true, true, true, false, false, false, false, false, false, false, false, false, false, false] rfl rfl (any_of HT_.out (by kernel_rfl)) (fun _ _ _ h => h) (Or.inl ⟨by rfl, ?_⟩) ?_ ?_
                  rotate_left
                  · intro w'
                    go_simp
                    with_reducible rfl
                  rotate_left
                  · simp only [Act.put, List.setIfInBounds_toArray, List.set_cons_zero, List.set_cons_succ, i64_w, i32_w]
                    rfl
                  refine pure_ (i := 19) (N := some 64) (v := ?_) (a' := ?_) #[true, true, true, true, true, true, true, true, true, true, true, true, true, true, true, true, true, true, true, true, false, false, false, false, false, false, false, false, false, false] rfl rfl (any_of HT_.out (by kernel_rfl)) (fun _ _ _ h => h) (Or.inl ⟨by rfl, ?_⟩) ?_ ?_
                  rotate_left
                  · intro w'
                    go_simp
                    with_reducible rfl
                  rotate_left
                  · simp only [Act.put, List.setIfInBounds_toArray, List.set_cons_zero, List.set_cons_succ, i64_w, i32_w]
                    rfl
                  refine pure_ (i := 22) (N := some 67) (v := ?_) (a' := ?_) #[true, true, true, true, true, true, true, true, true, true, true, true, true, true, true, true, true, true, true, true, false, false, true, false, false, false, false, false, false, false] rfl rfl (any_of HT_.out (by kernel_rfl)) (fun _ _ _ h => h) (Or.inl ⟨by rfl, ?_⟩) ?_ ?_
                  rotate_left
                  · intro w'
                    go_simp
                    with_reducible rfl
                  rotate_left
                  · simp only [Act.put, List.setIfInBounds_toArray, List.set_cons_zero, List.set_cons_succ, i64_w, i32_w]
                    rfl
                  refine pure_ (i := 25) (N := some 70) (v := ?_) (a' := ?_) #[true, true, true, true, true, true, true, true, true, true, true, true, true, true, true, true, true, true, true, true, false, false, true, false, false, true, false, false, false, false] rfl rfl (any_of HT_.out (by kernel_rfl)) (fun _ _ _ h => h) (Or.inl ⟨by rfl, ?_⟩) ?_ ?_
                  rotate_left
                  · intro w'
                    go_simp
                    with_reducible rfl
                  rotate_left
                  · simp only [Act.put, List.setIfInBounds_toArray, List.set_cons_zero, List.set_cons_succ, i64_w, i32_w]
                    rfl
                  refine take_ (i := 20) (N := some 65) (v := ?_) (a' := ?_) #[true, true, true, true, true, true, true, true, true, true, true, true, true, true, true, true, true, true, true, true, true, false, true, false, false, true, false, false, false, false] rfl rfl (take_ofW HT_.out HW_.out (by kernel_rfl)) (fun _ _ _ h => h) (Or.inl ⟨by rfl, ?_⟩) hHeld ?_ ?_
                  rotate_left
                  · rintro w' ⟨s0, s1, s2, s3, s4, s5, s6, s7, s8, s9⟩
                    go_simp
                    with_reducible rfl
                  rotate_left
                  · simp only [Act.put, List.setIfInBounds_toArray, List.set_cons_zero, List.set_cons_succ, i64_w, i32_w]
                    rfl
                  refine take_ (i := 24) (N := some 69) (v := ?_) (a' := ?_) #[true, true, true, true, true, true, true, true, true, true, true, true, true, true, true, true, true, true, true, true, true, false, true, false, true, true, false, false, false, false] rfl rfl (take_ofW HT_.out HW_.out (by kernel_rfl)) (fun _ _ _ h => h) (Or.inl ⟨by rfl, ?_⟩) hHeld ?_ ?_
                  rotate_left
                  · rintro w' ⟨s0, s1, s2, s3, s4, s5, s6, s7, s8, s9⟩
                    go_simp
                    with_reducible rfl
                  rotate_left
                  · simp only [Act.put, List.setIfInBounds_toArray, List.set_cons_zero, List.set_cons_succ, i64_w, i32_w]
                    rfl
                  refine one_ (i := 21) (N := some 66) #[true, true, true, true, true, true, true, true, true, true, true, true, true, true, true, true, true, true, true, true, true, true, true, false, true, true, false, false, false, false] rfl rfl (one_of HT_.out (by kernel_rfl)) (by decide) (fun K hK => ?_)
                  refine Kd.R_lit_step k29 _ 29 ?hg (N := 66) ?hd (xs := ([(⟨(rd_T29 l0 a2).f0, (rd_T29 l0 a2).f1, (rd_T29 l0 a2).f2, (rd_T29 l0 a2).f3, (rd_T29 l0 a2).f4⟩ : S29)] : List (S29))) (inner := [.int .i64 ((rd_T29 l0 a2).f0), .int .i64 ((rd_T29 l0 a2).f1), .int .i64 ((rd_T29 l0 a2).f2), .int .i64 ((rd_T29 l0 a2).f3), .int .i64 ((rd_T29 l0 a2).f4)]) (ok := fun _ => True) (okp := fun _ => True) ?hr ?hp (fun _ hk => hk) trivial (Below.refl _ _) (Nat.le_refl _) (by simp) ?_; (case hd => rfl); (case hg => rfl); (case hr => first | (go_simp; done) | (go_simp; rfl)); (case hp => exact (Reps.c5 (show Kd.M k29 _ _ _ (⟨(rd_T29 l0 a2).f0, (rd_T29 l0 a2).f1, (rd_T29 l0 a2).f2, (rd_T29 l0 a2).f3, (rd_T29 l0 a2).f4⟩ : S29) [.int .i64 ((rd_T29 l0 a2).f0), .int .i64 ((rd_T29 l0 a2).f1), .int .i64 ((rd_T29 l0 a2).f2), .int .i64 ((rd_T29 l0 a2).f3), .int .i64 ((rd_T29 l0 a2).f4)] from (k29_mkM _ _ _ (⟨(rd_T29 l0 a2).f0, (rd_T29 l0 a2).f1, (rd_T29 l0 a2).f2, (rd_T29 l0 a2).f3, (rd_T29 l0 a2).f4⟩ : S29) )) (Reps.none _ _)))
                  intro v201 w39 ho40 hb hg_ hnew_
                  clear hg_ hnew_
                  (first | rw [← Ny200.out] at ho40 | (simp only [Int.reduceToNat] at ho40; rw [← Ny200.out] at ho40))
                  have n0_ := Aside0.mk (Kd.R_lower (Kd.R_newB (Kd.R_newB ho40 (g := gb194) (o := .cells #[.int .i64 ((rd_T29 l0 a2).f0), .int .i64 ((rd_T29 l0 a2).f1), .int .i64 ((rd_T29 l0 a2).f2), .int .i64 ((rd_T29 l0 a2).f3), .int .i64 ((rd_T29 l0 a2).f4)] 29 (0, 0)) (by (with_reducible repeat (first | refine blk_drewN ?_ _ | refine blk_drew ?_ | refine blk_alloc ?_ _)); exact BK194.out)) (g := gb195) (o := .cells #[.int .i64 ((rd_T29 l0 a2).f0), .int .i64 ((rd_T29 l0 a2).f1), .int .i64 ((rd_T29 l0 a2).f2), .int .i64 ((rd_T29 l0 a2).f3), .int .i64 (wrap64 (((rd_T29 l0 a2).f4) + 1))] 29 (0, 0)) (by (with_reducible repeat (first | refine blk_drewN ?_ _ | refine blk_drew ?_ | refine blk_alloc ?_ _)); exact BK195.out)) (below_size (by repeat (first | (with_reducible first | exact HB.out | apply below_alloc | apply pw_below_drewN | apply below_drew1 | refine below_set ?_ GE194.out | refine below_set ?_ GE195.out) | exact HB.out))))
                  have n1_ := Aside0.mk (blk_below (g := gb194) (o := .cells #[.int .i64 ((rd_T29 l0 a2).f0), .int .i64 ((rd_T29 l0 a2).f1), .int .i64 ((rd_T29 l0 a2).f2), .int .i64 ((rd_T29 l0 a2).f3), .int .i64 ((rd_T29 l0 a2).f4)] 29 (0, 0)) (by (with_reducible repeat (first | refine blk_drewN ?_ _ | refine blk_drew ?_ | refine blk_alloc ?_ _)); exact BK194.out) hb)
                  have n2_ := Aside0.mk (blk_below (g := gb195) (o := .cells #[.int .i64 ((rd_T29 l0 a2).f0), .int .i64 ((rd_T29 l0 a2).f1), .int .i64 ((rd_T29 l0 a2).f2), .int .i64 ((rd_T29 l0 a2).f3), .int .i64 (wrap64 (((rd_T29 l0 a2).f4) + 1))] 29 (0, 0)) (by (with_reducible repeat (first | refine blk_drewN ?_ _ | refine blk_drew ?_ | refine blk_alloc ?_ _)); exact BK195.out) hb)
                  have n3_ := Aside0.mk (below_step (by repeat (first | (with_reducible first | exact HB.out | apply below_alloc | apply pw_below_drewN | apply below_drew1 | refine below_set ?_ GE194.out | refine below_set ?_ GE195.out) | exact HB.out)) hb)
                  clear BK194
                  clear BK195
                  clear HB
                  have HO202 := n0_
                  have BK194 := n1_
                  have BK195 := n2_
                  have HB := n3_
                  clear n0_ n1_ n2_ n3_
                  clear hb ho40
                  obtain ⟨Ao41, co41, eo41⟩ := Kd.R_slice HO202.out
                  (first | subst eo41 | (injection eo41 with f1_ f2_ f3_; have f4_ := f1_.symm; have f5_ := f3_.symm; clear f1_ f2_ f3_; subst f4_; subst f5_))
                  refine hK.out _ _ ⟨(blk_cell BK195.out 0).trans rfl, (blk_cell BK195.out 1).trans rfl, (blk_cell BK195.out 2).trans rfl, (blk_cell BK195.out 3).trans rfl, (blk_cell BK195.out 4).trans rfl, (blk_cell BK194.out 0).trans rfl, (blk_cell BK194.out 1).trans rfl, (blk_cell BK194.out 2).trans rfl, (blk_cell BK194.out 3).trans rfl, (blk_cell BK194.out 4).trans rfl⟩ (fun hHeld => ?_)
                  clear hK K
                  refine norm_ (a' := ?_) ?_ ?_
                  rotate_left
                  · show Act.put _ (some 66) _ = _
                    simp only [Act.put, List.setIfInBounds_toArray, List.set_cons_zero, List.set_cons_succ, i64_w, i32_w]
                    rfl
                  refine one_ (i := 23) (N := some 68) #[true, true, true, true, true, true, true, true, true, true, true, true, true, true, true, true, true, true, true, true, true, true, true, true, true, true, false, false, false, false] rfl rfl (one_of HT_.out (by kernel_rfl)) (by decide) (fun K hK => ?_)
                  refine goes_ Try.func14 (by kernel_rfl) rfl #[.slice Ao41 y200.length co41, .int .i64 a1] (by rfl) rfl rfl (by (try simp only [List.map_toArray, List.map_cons, List.map_nil]); first | done | rfl | (simp only [List.length_drop, List.length_take]; rfl)) ?_
                  with_reducible refine (dover_Fits.calls kj4 _ _ y200 a1 t203 _ ?side1 ?side2 A31.out).mono ?_
                  (case side1 => repeat (first | exact (Kd.R_reads' HO202.out).2.2 | (with_reducible refine Kd.C_alloc ?_ _) | (with_reducible refine Kd.C_drewN ?_ _) | (with_reducible refine Kd.C_drew ?_)))
                  (case side2 => exact (Kd.R_reads' HO202.out).2.1)
                  rintro e w42 ⟨rfl, hb⟩
                  refine ⟨_, rfl, ?_⟩
                  have n0_ := Aside0.mk (Kd.R_below (by (with_reducible repeat (first | apply Kd.R_alloc | apply Kd.R_drewN | apply Kd.R_drew)); exact HO202.out) hb)
                  have n1_ := Aside0.mk (blk_below (g := gb194) (o := .cells #[.int .i64 ((rd_T29 l0 a2).f0), .int .i64 ((rd_T29 l0 a2).f1), .int .i64 ((rd_T29 l0 a2).f2), .int .i64 ((rd_T29 l0 a2).f3), .int .i64 ((rd_T29 l0 a2).f4)] 29 (0, 0)) (by (with_reducible repeat (first | refine blk_drewN ?_ _ | refine blk_drew ?_ | refine blk_alloc ?_ _)); exact BK194.out) hb)
                  have n2_ := Aside0.mk (blk_below (g := gb195) (o := .cells #[.int .i64 ((rd_T29 l0 a2).f0), .int .i64 ((rd_T29 l0 a2).f1), .int .i64 ((rd_T29 l0 a2).f2), .int .i64 ((rd_T29 l0 a2).f3), .int .i64 (wrap64 (((rd_T29 l0 a2).f4) + 1))] 29 (0, 0)) (by (with_reducible repeat (first | refine blk_drewN ?_ _ | refine blk_drew ?_ | refine blk_alloc ?_ _)); exact BK195.out) hb)
                  have n3_ := Aside0.mk (below_step (by repeat (first | (with_reducible first | exact HB.out | apply below_alloc | apply pw_below_drewN | apply below_drew1 | refine below_set ?_ GE194.out | refine below_set ?_ GE195.out) | exact HB.out)) hb)
                  clear HO202
                  clear BK194
                  clear BK195
                  clear HB
                  have HO202 := n0_
                  have BK194 := n1_
                  have BK195 := n2_
                  have HB := n3_
                  clear n0_ n1_ n2_ n3_
                  (try clear hb)
                  (try clear hb2)
                  (try clear hk)
                  (try clear hi)
                  refine hK.out _ _ ⟨(blk_cell BK195.out 0).trans rfl, (blk_cell BK195.out 1).trans rfl, (blk_cell BK195.out 2).trans rfl, (blk_cell BK195.out 3).trans rfl, (blk_cell BK195.out 4).trans rfl, (blk_cell BK194.out 0).trans rfl, (blk_cell BK194.out 1).trans rfl, (blk_cell BK194.out 2).trans rfl, (blk_cell BK194.out 3).trans rfl, (blk_cell BK194.out 4).trans rfl⟩ (fun hHeld => ?_)
                  clear hK K
                  refine norm_ (a' := ?_) ?_ ?_
                  rotate_left
                  · show Act.put _ (some 68) _ = _
                    simp only [Act.put, List.setIfInBounds_toArray, List.set_cons_zero, List.set_cons_succ, i64_w, i32_w]
                    rfl
                  refine one_ (i := 26) (N := some 71) #[true, true, true, true, true, true, true, true, true, true, true, true, true, true, true, true, true, true, true, true, true, true, true, true, true, true, true, false, false, false] rfl rfl (one_of HT_.out (by kernel_rfl)) (by decide) (fun K hK => ?_)
                  refine goes_ Try.func13 (by kernel_rfl) rfl #[.agg #[.int .i64 ((rd_T29 l0 a2).f0), .int .i64 ((rd_T29 l0 a2).f1), .int .i64 ((rd_T29 l0 a2).f2), .int .i64 ((rd_T29 l0 a2).f3), .int .i64 ((rd_T29 l0 a2).f4)], .int .i64 a1] (by rfl) rfl rfl (by (try simp only [List.map_toArray, List.map_cons, List.map_nil]); first | done | rfl | (simp only [List.length_drop, List.length_take]; rfl)) ?_
                  with_reducible refine (dover_Lax.calls ((rd_T29 l0 a2).f0) ((rd_T29 l0 a2).f1) ((rd_T29 l0 a2).f2) ((rd_T29 l0 a2).f3) ((rd_T29 l0 a2).f4) a1 t204 _ A32.out).mono ?_
                  rintro e w43 ⟨rfl, hb⟩
                  refine ⟨_, rfl, ?_⟩
                  have n0_ := Aside0.mk (Kd.R_below (by (with_reducible repeat (first | apply Kd.R_alloc | apply Kd.R_drewN | apply Kd.R_drew)); exact HO202.out) hb)
                  have n1_ := Aside0.mk (blk_below (g := gb194) (o := .cells #[.int .i64 ((rd_T29 l0 a2).f0), .int .i64 ((rd_T29 l0 a2).f1), .int .i64 ((rd_T29 l0 a2).f2), .int .i64 ((rd_T29 l0 a2).f3), .int .i64 ((rd_T29 l0 a2).f4)] 29 (0, 0)) (by (with_reducible repeat (first | refine blk_drewN ?_ _ | refine blk_drew ?_ | refine blk_alloc ?_ _)); exact BK194.out) hb)
                  have n2_ := Aside0.mk (blk_below (g := gb195) (o := .cells #[.int .i64 ((rd_T29 l0 a2).f0), .int .i64 ((rd_T29 l0 a2).f1), .int .i64 ((rd_T29 l0 a2).f2), .int .i64 ((rd_T29 l0 a2).f3), .int .i64 (wrap64 (((rd_T29 l0 a2).f4) + 1))] 29 (0, 0)) (by (with_reducible repeat (first | refine blk_drewN ?_ _ | refine blk_drew ?_ | refine blk_alloc ?_ _)); exact BK195.out) hb)
                  have n3_ := Aside0.mk (below_step (by repeat (first | (with_reducible first | exact HB.out | apply below_alloc | apply pw_below_drewN | apply below_drew1 | refine below_set ?_ GE194.out | refine below_set ?_ GE195.out) | exact HB.out)) hb)
                  clear HO202
                  clear BK194
                  clear BK195
                  clear HB
                  have HO202 := n0_
                  have BK194 := n1_
                  have BK195 := n2_
                  have HB := n3_
                  clear n0_ n1_ n2_ n3_
                  (try clear hb)
                  (try clear hb2)
                  (try clear hk)
                  (try clear hi)
                  refine hK.out _ _ ⟨(blk_cell BK195.out 0).trans rfl, (blk_cell BK195.out 1).trans rfl, (blk_cell BK195.out 2).trans rfl, (blk_cell BK195.out 3).trans rfl, (blk_cell BK195.out 4).trans rfl, (blk_cell BK194.out 0).trans rfl, (blk_cell BK194.out 1).trans rfl, (blk_cell BK194.out 2).trans rfl, (blk_cell BK194.out 3).trans rfl, (blk_cell BK194.out 4).trans rfl⟩ (fun hHeld => ?_)
                  clear hK K
                  refine norm_ (a' := ?_) ?_ ?_
                  rotate_left
                  · show Act.put _ (some 71) _ = _
                    simp only [Act.put, List.setIfInBounds_toArray, List.set_cons_zero, List.set_cons_succ, i64_w, i32_w]
                    rfl
                  refine pure_ (i := 27) (N := some 72) (v := ?_) (a' := ?_) #[true, true, true, true, true, true, true, true, true, true, true, true, true, true, true, true, true, true, true, true, true, true, true, true, true, true, true, true, false, false] rfl rfl (any_of HT_.out (by kernel_rfl)) (fun _ _ _ h => h) (Or.inl ⟨by rfl, ?_⟩) ?_ ?_
                  rotate_left
                  · intro w'
                    go_simp
                    with_reducible rfl
                  rotate_left
                  · simp only [Act.put, List.setIfInBounds_toArray, List.set_cons_zero, List.set_cons_succ, i64_w, i32_w]
                    rfl
                  refine pure_ (i := 28) (N := some 73) (v := ?_) (a' := ?_) #[true, true, true, true, true, true, true, true, true, true, true, true, true, true, true, true, true, true, true, true, true, true, true, true, true, true, true, true, true, false] rfl rfl (any_of HT_.out (by kernel_rfl)) (fun _ _ _ h => h) (Or.inl ⟨by rfl, ?_⟩) ?_ ?_
                  rotate_left
                  · intro w'
                    go_simp
                    with_reducible rfl
                  rotate_left
                  · simp only [Act.put, List.setIfInBounds_toArray, List.set_cons_zero, List.set_cons_succ, i64_w, i32_w]
                    rfl
                  refine pure_ (i := 29) (N := some 74) (v := ?_) (a' := ?_) #[true, true, true, true, true, true, true, true, true, true, true, true, true, true, true, true, true, true, true, true, true, true, true, true, true, true, true, true, true, true] rfl rfl (any_of HT_.out (by kernel_rfl)) (fun _ _ _ h => h) (Or.inl ⟨by rfl, ?_⟩) ?_ ?_
                  rotate_left
                  · intro w'
                    go_simp
                    with_reducible rfl
                  rotate_left
                  · simp only [Act.put, List.setIfInBounds_toArray, List.set_cons_zero, List.set_cons_succ, i64_w, i32_w]
                    rfl
                  refine done_ (done_of HT_.out (by kernel_rfl)) ?_
                  try go_wp2
                  go_meet
                  case rel => exact ⟨_, ((t203 != (decide (t204 ≥ 0)))), (by first | rfl | (simp; done) | (simp [*]; done)), H', ⟨by have := HJ4.out; first | omega | exact Nat.le_refl _⟩, ⟨by (with_reducible repeat (first | refine blk_drewN ?_ _ | refine blk_drew ?_ | refine blk_alloc ?_ _)); exact BK194.out⟩, ⟨by (with_reducible repeat (first | refine blk_drewN ?_ _ | refine blk_drew ?_ | refine blk_alloc ?_ _)); exact BK195.out⟩, ⟨by repeat (first | (with_reducible first | exact HB.out | apply below_alloc | apply pw_below_drewN | apply below_drew1 | refine below_set ?_ GE194.out | refine below_set ?_ GE195.out) | exact HB.out)⟩⟩
                · rw [if_neg c30] at H
                  have c30b0 : (t198 == (wrap64 (t199 - 1))) = false := beq_eq_false_iff_ne.mpr c30
                  have c30b1 : (t198 != (wrap64 (t199 - 1))) = true := bne_iff_ne.mpr c30
                  have H' := Aside0.mk H
                  clear H
                  try go_wp2
                  have n0_ : Aside0 (((((((w22.setCell ⟨gb195, 0, none⟩ (.int .i64 ((rd_T29 l0 a2).f0))).setCell ⟨gb195, 1, none⟩ (.int .i64 ((rd_T29 l0 a2).f1))).setCell ⟨gb195, 2, none⟩ (.int .i64 ((rd_T29 l0 a2).f2))).setCell ⟨gb195, 3, none⟩ (.int .i64 ((rd_T29 l0 a2).f3))).setCell ⟨gb195, 4, none⟩ (.int .i64 ((rd_T29 l0 a2).f4))).setCell ⟨gb195, 4, none⟩ (.int .i64 (wrap64 (((rd_T29 l0 a2).f4) + 1)))).heap[gb194]? = some (.cells #[.int .i64 ((rd_T29 l0 a2).f0), .int .i64 ((rd_T29 l0 a2).f1), .int .i64 ((rd_T29 l0 a2).f2), .int .i64 ((rd_T29 l0 a2).f3), .int .i64 ((rd_T29 l0 a2).f4)] 29 (0, 0))) := ⟨by (with_reducible repeat (first | refine blk_drewN ?_ _ | refine blk_drew ?_ | refine blk_alloc ?_ _)); refine blk_far ?_ NB194_195.out _; (with_reducible repeat (first | refine blk_drewN ?_ _ | refine blk_drew ?_ | refine blk_alloc ?_ _)); refine blk_far ?_ NB194_195.out _; (with_reducible repeat (first | refine blk_drewN ?_ _ | refine blk_drew ?_ | refine blk_alloc ?_ _)); refine blk_far ?_ NB194_195.out _; (with_reducible repeat (first | refine blk_drewN ?_ _ | refine blk_drew ?_ | refine blk_alloc ?_ _)); refine blk_far ?_ NB194_195.out _; (with_reducible repeat (first | refine blk_drewN ?_ _ | refine blk_drew ?_ | refine blk_alloc ?_ _)); refine blk_far ?_ NB194_195.out _; (with_reducible repeat (first | refine blk_drewN ?_ _ | refine blk_drew ?_ | refine blk_alloc ?_ _)); refine blk_far ?_ NB194_195.out _; (with_reducible repeat (first | refine blk_drewN ?_ _ | refine blk_drew ?_ | refine blk_alloc ?_ _)); exact BK194.out⟩
                  have n1_ : Aside0 (((((((w22.setCell ⟨gb195, 0, none⟩ (.int .i64 ((rd_T29 l0 a2).f0))).setCell ⟨gb195, 1, none⟩ (.int .i64 ((rd_T29 l0 a2).f1))).setCell ⟨gb195, 2, none⟩ (.int .i64 ((rd_T29 l0 a2).f2))).setCell ⟨gb195, 3, none⟩ (.int .i64 ((rd_T29 l0 a2).f3))).setCell ⟨gb195, 4, none⟩ (.int .i64 ((rd_T29 l0 a2).f4))).setCell ⟨gb195, 4, none⟩ (.int .i64 (wrap64 (((rd_T29 l0 a2).f4) + 1)))).heap[gb195]? = some (.cells #[.int .i64 ((rd_T29 l0 a2).f0), .int .i64 ((rd_T29 l0 a2).f1), .int .i64 ((rd_T29 l0 a2).f2), .int .i64 ((rd_T29 l0 a2).f3), .int .i64 (wrap64 (((rd_T29 l0 a2).f4) + 1))] 29 (0, 0))) := ⟨by (with_reducible repeat (first | refine blk_drewN ?_ _ | refine blk_drew ?_ | refine blk_alloc ?_ _)); refine blk_put (cs := #[.int .i64 ((rd_T29 l0 a2).f0), .int .i64 ((rd_T29 l0 a2).f1), .int .i64 ((rd_T29 l0 a2).f2), .int .i64 ((rd_T29 l0 a2).f3), .int .i64 ((rd_T29 l0 a2).f4)]) ?_ 4 _ rfl; (with_reducible repeat (first | refine blk_drewN ?_ _ | refine blk_drew ?_ | refine blk_alloc ?_ _)); refine blk_put (cs := #[.int .i64 ((rd_T29 l0 a2).f0), .int .i64 ((rd_T29 l0 a2).f1), .int .i64 ((rd_T29 l0 a2).f2), .int .i64 ((rd_T29 l0 a2).f3), .int .i64 0]) ?_ 4 _ rfl; (with_reducible repeat (first | refine blk_drewN ?_ _ | refine blk_drew ?_ | refine blk_alloc ?_ _)); refine blk_put (cs := #[.int .i64 ((rd_T29 l0 a2).f0), .int .i64 ((rd_T29 l0 a2).f1), .int .i64 ((rd_T29 l0 a2).f2), .int .i64 0, .int .i64 0]) ?_ 3 _ rfl; (with_reducible repeat (first | refine blk_drewN ?_ _ | refine blk_drew ?_ | refine blk_alloc ?_ _)); refine blk_put (cs := #[.int .i64 ((rd_T29 l0 a2).f0), .int .i64 ((rd_T29 l0 a2).f1), .int .i64 0, .int .i64 0, .int .i64 0]) ?_ 2 _ rfl; (with_reducible repeat (first | refine blk_drewN ?_ _ | refine blk_drew ?_ | refine blk_alloc ?_ _)); refine blk_put (cs := #[.int .i64 ((rd_T29 l0 a2).f0), .int .i64 0, .int .i64 0, .int .i64 0, .int .i64 0]) ?_ 1 _ rfl; (with_reducible repeat (first | refine blk_drewN ?_ _ | refine blk_drew ?_ | refine blk_alloc ?_ _)); refine blk_put (cs := #[.int .i64 0, .int .i64 0, .int .i64 0, .int .i64 0, .int .i64 0]) ?_ 0 _ rfl; (with_reducible repeat (first | refine blk_drewN ?_ _ | refine blk_drew ?_ | refine blk_alloc ?_ _)); exact BK195.out⟩
                  have n2_ : Aside0 (Below w.heap.size w ((((((w22.setCell ⟨gb195, 0, none⟩ (.int .i64 ((rd_T29 l0 a2).f0))).setCell ⟨gb195, 1, none⟩ (.int .i64 ((rd_T29 l0 a2).f1))).setCell ⟨gb195, 2, none⟩ (.int .i64 ((rd_T29 l0 a2).f2))).setCell ⟨gb195, 3, none⟩ (.int .i64 ((rd_T29 l0 a2).f3))).setCell ⟨gb195, 4, none⟩ (.int .i64 ((rd_T29 l0 a2).f4))).setCell ⟨gb195, 4, none⟩ (.int .i64 (wrap64 (((rd_T29 l0 a2).f4) + 1))))) := ⟨by repeat (first | (with_reducible first | exact HB.out | apply below_alloc | apply pw_below_drewN | apply below_drew1 | refine below_set ?_ GE194.out | refine below_set ?_ GE195.out) | exact HB.out)⟩
                  (try clear BK194)
                  (try clear BK195)
                  (try clear HB)
                  generalize ((((((w22.setCell ⟨gb195, 0, none⟩ (.int .i64 ((rd_T29 l0 a2).f0))).setCell ⟨gb195, 1, none⟩ (.int .i64 ((rd_T29 l0 a2).f1))).setCell ⟨gb195, 2, none⟩ (.int .i64 ((rd_T29 l0 a2).f2))).setCell ⟨gb195, 3, none⟩ (.int .i64 ((rd_T29 l0 a2).f3))).setCell ⟨gb195, 4, none⟩ (.int .i64 ((rd_T29 l0 a2).f4))).setCell ⟨gb195, 4, none⟩ (.int .i64 (wrap64 (((rd_T29 l0 a2).f4) + 1)))) = w44 at n0_ n1_ n2_ ⊢
                  have BK194 := n0_
                  have BK195 := n1_
                  have HB := n2_
                  clear n0_ n1_ n2_
                  have n0_ := Aside0.mk (blk_drew BK194.out)
                  have n1_ := Aside0.mk (blk_drew BK195.out)
                  have n2_ := Aside0.mk (below_drew1 HB.out)
                  clear BK194
                  clear BK195
                  clear HB
                  have BK194 := n0_
                  have BK195 := n1_
                  have HB := n2_
                  clear n0_ n1_ n2_
                  refine start_ (n := 30) (S := fun w' => w'.cell? ⟨gb195, 0, none⟩ = some (.int .i64 ((rd_T29 l0 a2).f0)) ∧ w'.cell? ⟨gb195, 1, none⟩ = some (.int .i64 ((rd_T29 l0 a2).f1)) ∧ w'.cell? ⟨gb195, 2, none⟩ = some (.int .i64 ((rd_T29 l0 a2).f2)) ∧ w'.cell? ⟨gb195, 3, none⟩ = some (.int .i64 ((rd_T29 l0 a2).f3)) ∧ w'.cell? ⟨gb195, 4, none⟩ = some (.int .i64 (wrap64 (((rd_T29 l0 a2).f4) + 1))) ∧ w'.cell? ⟨gb194, 0, none⟩ = some (.int .i64 ((rd_T29 l0 a2).f0)) ∧ w'.cell? ⟨gb194, 1, none⟩ = some (.int .i64 ((rd_T29 l0 a2).f1)) ∧ w'.cell? ⟨gb194, 2, none⟩ = some (.int .i64 ((rd_T29 l0 a2).f2)) ∧ w'.cell? ⟨gb194, 3, none⟩ = some (.int .i64 ((rd_T29 l0 a2).f3)) ∧ w'.cell? ⟨gb194, 4, none⟩ = some (.int .i64 ((rd_T29 l0 a2).f4))) (ds := []) #[false, false, false, false, false, false, false, false, false, false, false, false, false, false, false, false, false, false, false, false, false, false, false, false, false, false, false, false, false, false] (by kernel_rfl) rfl rfl ⟨(blk_cell BK195.out 0).trans rfl, (blk_cell BK195.out 1).trans rfl, (blk_cell BK195.out 2).trans rfl, (blk_cell BK195.out 3).trans rfl, (blk_cell BK195.out 4).trans rfl, (blk_cell BK194.out 0).trans rfl, (blk_cell BK194.out 1).trans rfl, (blk_cell BK194.out 2).trans rfl, (blk_cell BK194.out 3).trans rfl, (blk_cell BK194.out 4).trans rfl⟩ (fun hHeld => ?_); refine with_tabW fuseelaw13_DoverWaits.tab7 fuseelaw13_DoverWaits.bits7 (fun HT_ HW_ => ?_)
                  generalize w44.drew = w45 at BK194 BK195 HB hHeld ⊢
                  refine pure_ (i := 1) (N := some 46) (v := ?_) (a' := ?_) #[false, true, false, false, false, false, false, false, false, false, false, false, false, false, false, false, false, false, false, false, false, false, false, false, false, false, false, false, false, false] rfl rfl (any_of HT_.out (by kernel_rfl)) (fun _ _ _ h => h) (Or.inl ⟨by rfl, ?_⟩) ?_ ?_
                  rotate_left
                  · intro w'
                    go_simp
                    with_reducible rfl
                  rotate_left
                  · simp only [Act.put, List.setIfInBounds_toArray, List.set_cons_zero, List.set_cons_succ, i64_w, i32_w]
                    rfl
                  refine pure_ (i := 2) (N := some 47) (v := ?_) (a' := ?_) #[false, true, true, false, false, false, false, false, false, false, false, false, false, false, false, false, false, false, false, false, false, false, false, false, false, false, false, false, false, false] rfl rfl (any_of HT_.out (by kernel_rfl)) (fun _ _ _ h => h) (Or.inl ⟨by rfl, ?_⟩) ?_ ?_
                  rotate_left
                  · intro w'
                    go_simp
                    with_reducible rfl
                  rotate_left
                  · simp only [Act.put, List.setIfInBounds_toArray, List.set_cons_zero, List.set_cons_succ, i64_w, i32_w]
                    rfl
                  refine pure_ (i := 5) (N := some 50) (v := ?_) (a' := ?_) #[false, true, true, false, false, true, false, false, false, false, false, false, false, false, false, false, false, false, false, false, false, false, false, false, false, false, false, false, false, false] rfl rfl (any_of HT_.out (by kernel_rfl)) (fun _ _ _ h => h) (Or.inl ⟨by rfl, ?_⟩) ?_ ?_
                  rotate_left
                  · intro w'
                    go_simp
                    with_reducible rfl
                  rotate_left
                  · simp only [Act.put, List.setIfInBounds_toArray, List.set_cons_zero, List.set_cons_succ, i64_w, i32_w]
                    rfl
                  refine take_ (i := 0) (N := some 45) (v := ?_) (a' := ?_) #[true, true, true, false, false, true, false, false, false, false, false, false, false, false, false, false, false, false, false, false, false, false, false, false, false, false, false, false, false, false] rfl rfl (take_ofW HT_.out HW_.out (by kernel_rfl)) (fun _ _ _ h => h) (Or.inl ⟨by rfl, ?_⟩) hHeld ?_ ?_
                  rotate_left
                  · rintro w' ⟨s0, s1, s2, s3, s4, s5, s6, s7, s8, s9⟩
                    go_simp
                    with_reducible rfl
                  rotate_left
                  · simp only [Act.put, List.setIfInBounds_toArray, List.set_cons_zero, List.set_cons_succ, i64_w, i32_w]
                    rfl
                  refine take_ (i := 4) (N := some 49) (v := ?_) (a' := ?_) #[true, true, true, false, true, true, false, false, false, false, false, false, false, false, false, false, false, false, false, false, false, false, false, false, false, false, false, false, false, false] rfl rfl (take_ofW HT_.out HW_.out (by kernel_rfl)) (fun _ _ _ h => h) (Or.inl ⟨by rfl, ?_⟩) hHeld ?_ ?_
                  rotate_left
                  · rintro w' ⟨s0, s1, s2, s3, s4, s5, s6, s7, s8, s9⟩
                    go_simp
                    with_reducible rfl
                  rotate_left
                  · simp only [Act.put, List.setIfInBounds_toArray, List.set_cons_zero, List.set_cons_succ, i64_w, i32_w]
                    rfl
                  refine one_ (i := 3) (N := some 48) #[true, true, true, true, true, true, false, false, false, false, false, false, false, false, false, false, false, false, false, false, false, false, false, false, false, false, false, false, false, false] rfl rfl (one_of HT_.out (by kernel_rfl)) (by decide) (fun K hK => ?_)
                  refine goes_ Try.func13 (by kernel_rfl) rfl #[.agg #[.int .i64 ((rd_T29 l0 a2).f0), .int .i64 ((rd_T29 l0 a2).f1), .int .i64 ((rd_T29 l0 a2).f2), .int .i64 ((rd_T29 l0 a2).f3), .int .i64 (wrap64 (((rd_T29 l0 a2).f4) + 1))], .int .i64 (wrap64 (a1 + 1))] (by rfl) rfl rfl (by (try simp only [List.map_toArray, List.map_cons, List.map_nil]); first | done | rfl | (simp only [List.length_drop, List.length_take]; rfl)) ?_
                  with_reducible refine (dover_Lax.calls ((rd_T29 l0 a2).f0) ((rd_T29 l0 a2).f1) ((rd_T29 l0 a2).f2) ((rd_T29 l0 a2).f3) (wrap64 (((rd_T29 l0 a2).f4) + 1)) (wrap64 (a1 + 1)) t196 _ A25.out).mono ?_
                  rintro e w46 ⟨rfl, hb⟩
                  refine ⟨_, rfl, ?_⟩
                  have n0_ := Aside0.mk (blk_below (g := gb194) (o := .cells #[.int .i64 ((rd_T29 l0 a2).f0), .int .i64 ((rd_T29 l0 a2).f1), .int .i64 ((rd_T29 l0 a2).f2), .int .i64 ((rd_T29 l0 a2).f3), .int .i64 ((rd_T29 l0 a2).f4)] 29 (0, 0)) (by (with_reducible repeat (first | refine blk_drewN ?_ _ | refine blk_drew ?_ | refine blk_alloc ?_ _)); exact BK194.out) hb)
                  have n1_ := Aside0.mk (blk_below (g := gb195) (o := .cells #[.int .i64 ((rd_T29 l0 a2).f0), .int .i64 ((rd_T29 l0 a2).f1), .int .i64 ((rd_T29 l0 a2).f2), .int .i64 ((rd_T29 l0 a2).f3), .int .i64 (wrap64 (((rd_T29 l0 a2).f4) + 1))] 29 (0, 0)) (by (with_reducible repeat (first | refine blk_drewN ?_ _ | refine blk_drew ?_ | refine blk_alloc ?_ _)); exact BK195.out) hb)
                  have n2_ := Aside0.mk (below_step (by repeat (first | (with_reducible first | exact HB.out | apply below_alloc | apply pw_below_drewN | apply below_drew1 | refine below_set ?_ GE194.out | refine below_set ?_ GE195.out) | exact HB.out)) hb)
                  clear BK194
                  clear BK195
                  clear HB
                  have BK194 := n0_
                  have BK195 := n1_
                  have HB := n2_
                  clear n0_ n1_ n2_
                  (try clear hb)
                  (try clear hb2)
                  (try clear hk)
                  (try clear hi)
                  refine hK.out _ _ ⟨(blk_cell BK195.out 0).trans rfl, (blk_cell BK195.out 1).trans rfl, (blk_cell BK195.out 2).trans rfl, (blk_cell BK195.out 3).trans rfl, (blk_cell BK195.out 4).trans rfl, (blk_cell BK194.out 0).trans rfl, (blk_cell BK194.out 1).trans rfl, (blk_cell BK194.out 2).trans rfl, (blk_cell BK194.out 3).trans rfl, (blk_cell BK194.out 4).trans rfl⟩ (fun hHeld => ?_)
                  clear hK K
                  refine norm_ (a' := ?_) ?_ ?_
                  rotate_left
                  · show Act.put _ (some 48) _ = _
                    simp only [Act.put, List.setIfInBounds_toArray, List.set_cons_zero, List.set_cons_succ, i64_w, i32_w]
                    rfl
                  refine one_ (i := 6) (N := some 51) #[true, true, true, true, true, true, true, false, false, false, false, false, false, false, false, false, false, false, false, false, false, false, false, false, false, false, false, false, false, false] rfl rfl (one_of HT_.out (by kernel_rfl)) (by decide) (fun K hK => ?_)
                  refine goes_ Try.func13 (by kernel_rfl) rfl #[.agg #[.int .i64 ((rd_T29 l0 a2).f0), .int .i64 ((rd_T29 l0 a2).f1), .int .i64 ((rd_T29 l0 a2).f2), .int .i64 ((rd_T29 l0 a2).f3), .int .i64 ((rd_T29 l0 a2).f4)], .int .i64 a1] (by rfl) rfl rfl (by (try simp only [List.map_toArray, List.map_cons, List.map_nil]); first | done | rfl | (simp only [List.length_drop, List.length_take]; rfl)) ?_
                  with_reducible refine (dover_Lax.calls ((rd_T29 l0 a2).f0) ((rd_T29 l0 a2).f1) ((rd_T29 l0 a2).f2) ((rd_T29 l0 a2).f3) ((rd_T29 l0 a2).f4) a1 t197 _ A26.out).mono ?_
                  rintro e w47 ⟨rfl, hb⟩
                  refine ⟨_, rfl, ?_⟩
                  have n0_ := Aside0.mk (blk_below (g := gb194) (o := .cells #[.int .i64 ((rd_T29 l0 a2).f0), .int .i64 ((rd_T29 l0 a2).f1), .int .i64 ((rd_T29 l0 a2).f2), .int .i64 ((rd_T29 l0 a2).f3), .int .i64 ((rd_T29 l0 a2).f4)] 29 (0, 0)) (by (with_reducible repeat (first | refine blk_drewN ?_ _ | refine blk_drew ?_ | refine blk_alloc ?_ _)); exact BK194.out) hb)
                  have n1_ := Aside0.mk (blk_below (g := gb195) (o := .cells #[.int .i64 ((rd_T29 l0 a2).f0), .int .i64 ((rd_T29 l0 a2).f1), .int .i64 ((rd_T29 l0 a2).f2), .int .i64 ((rd_T29 l0 a2).f3), .int .i64 (wrap64 (((rd_T29 l0 a2).f4) + 1))] 29 (0, 0)) (by (with_reducible repeat (first | refine blk_drewN ?_ _ | refine blk_drew ?_ | refine blk_alloc ?_ _)); exact BK195.out) hb)
                  have n2_ := Aside0.mk (below_step (by repeat (first | (with_reducible first | exact HB.out | apply below_alloc | apply pw_below_drewN | apply below_drew1 | refine below_set ?_ GE194.out | refine below_set ?_ GE195.out) | exact HB.out)) hb)
                  clear BK194
                  clear BK195
                  clear HB
                  have BK194 := n0_
                  have BK195 := n1_
                  have HB := n2_
                  clear n0_ n1_ n2_
                  (try clear hb)
                  (try clear hb2)
                  (try clear hk)
                  (try clear hi)
                  refine hK.out _ _ ⟨(blk_cell BK195.out 0).trans rfl, (blk_cell BK195.out 1).trans rfl, (blk_cell BK195.out 2).trans rfl, (blk_cell BK195.out 3).trans rfl, (blk_cell BK195.out 4).trans rfl, (blk_cell BK194.out 0).trans rfl, (blk_cell BK194.out 1).trans rfl, (blk_cell BK194.out 2).trans rfl, (blk_cell BK194.out 3).trans rfl, (blk_cell BK194.out 4).trans rfl⟩ (fun hHeld => ?_)
                  clear hK K
                  refine norm_ (a' := ?_) ?_ ?_
                  rotate_left
                  · show Act.put _ (some 51) _ = _
                    simp only [Act.put, List.setIfInBounds_toArray, List.set_cons_zero, List.set_cons_succ, i64_w, i32_w]
                    rfl
                  refine pure_ (i := 7) (N := some 52) (v := ?_) (a' := ?_) #[true, true, true, true, true, true, true, true, false, false, false, false, false, false, false, false, false, false, false, false, false, false, false, false, false, false, false, false, false, false] rfl rfl (any_of HT_.out (by kernel_rfl)) (fun _ _ _ h => h) (Or.inl ⟨by rfl, ?_⟩) ?_ ?_
                  rotate_left
                  · intro w'
                    go_simp
                    with_reducible rfl
                  rotate_left
                  · simp only [Act.put, List.setIfInBounds_toArray, List.set_cons_zero, List.set_cons_succ, i64_w, i32_w]
                    rfl
                  refine pure_ (i := 8) (N := some 53) (v := ?_) (a' := ?_) #[true, true, true, true, true, true, true, true, true, false, false, false, false, false, false, false, false, false, false, false, false, false, false, false, false, false, false, false, false, false] rfl rfl (any_of HT_.out (by kernel_rfl)) (fun _ _ _ h => h) (Or.inl ⟨by rfl, ?_⟩) ?_ ?_
                  rotate_left
                  · intro w'
                    go_simp
                    with_reducible rfl
                  rotate_left
                  · simp only [Act.put, List.setIfInBounds_toArray, List.set_cons_zero, List.set_cons_succ, i64_w, i32_w]
                    rfl
                  refine pure_ (i := 10) (N := some 55) (v := ?_) (a' := ?_) #[true, true, true, true, true, true, true, true, true, false, true, false, false, false, false, false, false, false, false, false, false, false, false, false, false, false, false, false, false, false] rfl rfl (any_of HT_.out (by kernel_rfl)) (fun _ _ _ h => h) (Or.inl ⟨by rfl, ?_⟩) ?_ ?_
                  rotate_left
                  · intro w'
                    go_simp
                    with_reducible rfl
                  rotate_left
                  · simp only [Act.put, List.setIfInBounds_toArray, List.set_cons_zero, List.set_cons_succ, i64_w, i32_w]
                    rfl
                  refine pure_ (i := 11) (N := some 56) (v := ?_) (a' := ?_) #[true, true, true, true, true, true, true, true, true, false, true, true, false, false, false, false, false, false, false, false, false, false, false, false, false, false, false, false, false, false] rfl rfl (any_of HT_.out (by kernel_rfl)) (fun _ _ _ h => h) (Or.inl ⟨by rfl, ?_⟩) ?_ ?_
                  rotate_left
                  · intro w'
                    go_simp
                    with_reducible rfl
                  rotate_left
                  · simp only [Act.put, List.setIfInBounds_toArray, List.set_cons_zero, List.set_cons_succ, i64_w, i32_w]
                    rfl
                  refine pure_ (i := 14) (N := some 59) (v := ?_) (a' := ?_) #[true, true, true, true, true, true, true, true, true, false, true, true, false, false, true, false, false, false, false, false, false, false, false, false, false, false, false, false, false, false] rfl rfl (any_of HT_.out (by kernel_rfl)) (fun _ _ _ h => h) (Or.inl ⟨by rfl, ?_⟩) ?_ ?_
                  rotate_left
                  · intro w'
                    go_simp
                    with_reducible rfl
                  rotate_left
                  · simp only [Act.put, List.setIfInBounds_toArray, List.set_cons_zero, List.set_cons_succ, i64_w, i32_w]
                    rfl
                  refine take_ (i := 9) (N := some 54) (v := ?_) (a' := ?_) #[true, true, true, true, true, true, true, true, true, true, true, true, false, false, true, false, false, false, false, false, false, false, false, false, false, false, false, false, false, false] rfl rfl (take_ofW HT_.out HW_.out (by kernel_rfl)) (fun _ _ _ h => h) (Or.inl ⟨by rfl, ?_⟩) hHeld ?_ ?_
                  rotate_left
                  · rintro w' ⟨s0, s1, s2, s3, s4, s5, s6, s7, s8, s9⟩
                    go_simp
                    with_reducible rfl
                  rotate_left
                  · simp only [Act.put, List.setIfInBounds_toArray, List.set_cons_zero, List.set_cons_succ, i64_w, i32_w]
                    rfl
                  refine take_ (i := 13) (N := some 58) (v := ?_) (a' := ?_) #[true, true, true, true, true, true, true, true, true, true, true, true, false, true, true, false, false, false, false, false, false, false, false, false, false, false, false, false, false, false] rfl rfl (take_ofW HT_.out HW_.out (by kernel_rfl)) (fun _ _ _ h => h) (Or.inl ⟨by rfl, ?_⟩) hHeld ?_ ?_
                  rotate_left
                  · rintro w' ⟨s0, s1, s2, s3, s4, s5, s6, s7, s8, s9⟩
                    go_simp
                    with_reducible rfl
                  rotate_left
                  · simp only [Act.put, List.setIfInBounds_toArray, List.set_cons_zero, List.set_cons_succ, i64_w, i32_w]
                    rfl
                  refine one_ (i := 12) (N := some 57) #[true, true, true, true, true, true, true, true, true, true, true, true, true, true, true, false, false, false, false, false, false, false, false, false, false, false, false, false, false, false] rfl rfl (one_of HT_.out (by kernel_rfl)) (by decide) (fun K hK => ?_)
                  refine goes_ Try.func13 (by kernel_rfl) rfl #[.agg #[.int .i64 ((rd_T29 l0 a2).f0), .int .i64 ((rd_T29 l0 a2).f1), .int .i64 ((rd_T29 l0 a2).f2), .int .i64 ((rd_T29 l0 a2).f3), .int .i64 ((rd_T29 l0 a2).f4)], .int .i64 (wrap64 (a1 + 1))] (by rfl) rfl rfl (by (try simp only [List.map_toArray, List.map_cons, List.map_nil]); first | done | rfl | (simp only [List.length_drop, List.length_take]; rfl)) ?_
                  with_reducible refine (dover_Lax.calls ((rd_T29 l0 a2).f0) ((rd_T29 l0 a2).f1) ((rd_T29 l0 a2).f2) ((rd_T29 l0 a2).f3) ((rd_T29 l0 a2).f4) (wrap64 (a1 + 1)) t198 _ A28.out).mono ?_
                  rintro e w48 ⟨rfl, hb⟩
                  refine ⟨_, rfl, ?_⟩
                  have n0_ := Aside0.mk (blk_below (g := gb194) (o := .cells #[.int .i64 ((rd_T29 l0 a2).f0), .int .i64 ((rd_T29 l0 a2).f1), .int .i64 ((rd_T29 l0 a2).f2), .int .i64 ((rd_T29 l0 a2).f3), .int .i64 ((rd_T29 l0 a2).f4)] 29 (0, 0)) (by (with_reducible repeat (first | refine blk_drewN ?_ _ | refine blk_drew ?_ | refine blk_alloc ?_ _)); exact BK194.out) hb)
                  have n1_ := Aside0.mk (blk_below (g := gb195) (o := .cells #[.int .i64 ((rd_T29 l0 a2).f0), .int .i64 ((rd_T29 l0 a2).f1), .int .i64 ((rd_T29 l0 a2).f2), .int .i64 ((rd_T29 l0 a2).f3), .int .i64 (wrap64 (((rd_T29 l0 a2).f4) + 1))] 29 (0, 0)) (by (with_reducible repeat (first | refine blk_drewN ?_ _ | refine blk_drew ?_ | refine blk_alloc ?_ _)); exact BK195.out) hb)
                  have n2_ := Aside0.mk (below_step (by repeat (first | (with_reducible first | exact HB.out | apply below_alloc | apply pw_below_drewN | apply below_drew1 | refine below_set ?_ GE194.out | refine below_set ?_ GE195.out) | exact HB.out)) hb)
                  clear BK194
                  clear BK195
                  clear HB
                  have BK194 := n0_
                  have BK195 := n1_
                  have HB := n2_
                  clear n0_ n1_ n2_
                  (try clear hb)
                  (try clear hb2)
                  (try clear hk)
                  (try clear hi)
                  refine hK.out _ _ ⟨(blk_cell BK195.out 0).trans rfl, (blk_cell BK195.out 1).trans rfl, (blk_cell BK195.out 2).trans rfl, (blk_cell BK195.out 3).trans rfl, (blk_cell BK195.out 4).trans rfl, (blk_cell BK194.out 0).trans rfl, (blk_cell BK194.out 1).trans rfl, (blk_cell BK194.out 2).trans rfl, (blk_cell BK194.out 3).trans rfl, (blk_cell BK194.out 4).trans rfl⟩ (fun hHeld => ?_)
                  clear hK K
                  refine norm_ (a' := ?_) ?_ ?_
                  rotate_left
                  · show Act.put _ (some 57) _ = _
                    simp only [Act.put, List.setIfInBounds_toArray, List.set_cons_zero, List.set_cons_succ, i64_w, i32_w]
                    rfl
                  refine one_ (i := 15) (N := some 60) #[true, true, true, true, true, true, true, true, true, true, true, true, true, true, true, true, false, false, false, false, false, false, false, false, false, false, false, false, false, false] rfl rfl (one_of HT_.out (by kernel_rfl)) (by decide) (fun K hK => ?_)
                  refine goes_ Try.func13 (by kernel_rfl) rfl #[.agg #[.int .i64 ((rd_T29 l0 a2).f0), .int .i64 ((rd_T29 l0 a2).f1), .int .i64 ((rd_T29 l0 a2).f2), .int .i64 ((rd_T29 l0 a2).f3), .int .i64 ((rd_T29 l0 a2).f4)], .int .i64 a1] (by rfl) rfl rfl (by (try simp only [List.map_toArray, List.map_cons, List.map_nil]); first | done | rfl | (simp only [List.length_drop, List.length_take]; rfl)) ?_
                  with_reducible refine (dover_Lax.calls ((rd_T29 l0 a2).f0) ((rd_T29 l0 a2).f1) ((rd_T29 l0 a2).f2) ((rd_T29 l0 a2).f3) ((rd_T29 l0 a2).f4) a1 t199 _ A29.out).mono ?_
                  rintro e w49 ⟨rfl, hb⟩
                  refine ⟨_, rfl, ?_⟩
                  have n0_ := Aside0.mk (blk_below (g := gb194) (o := .cells #[.int .i64 ((rd_T29 l0 a2).f0), .int .i64 ((rd_T29 l0 a2).f1), .int .i64 ((rd_T29 l0 a2).f2), .int .i64 ((rd_T29 l0 a2).f3), .int .i64 ((rd_T29 l0 a2).f4)] 29 (0, 0)) (by (with_reducible repeat (first | refine blk_drewN ?_ _ | refine blk_drew ?_ | refine blk_alloc ?_ _)); exact BK194.out) hb)
                  have n1_ := Aside0.mk (blk_below (g := gb195) (o := .cells #[.int .i64 ((rd_T29 l0 a2).f0), .int .i64 ((rd_T29 l0 a2).f1), .int .i64 ((rd_T29 l0 a2).f2), .int .i64 ((rd_T29 l0 a2).f3), .int .i64 (wrap64 (((rd_T29 l0 a2).f4) + 1))] 29 (0, 0)) (by (with_reducible repeat (first | refine blk_drewN ?_ _ | refine blk_drew ?_ | refine blk_alloc ?_ _)); exact BK195.out) hb)
                  have n2_ := Aside0.mk (below_step (by repeat (first | (with_reducible first | exact HB.out | apply below_alloc | apply pw_below_drewN | apply below_drew1 | refine below_set ?_ GE194.out | refine below_set ?_ GE195.out) | exact HB.out)) hb)
                  clear BK194
                  clear BK195
                  clear HB
                  have BK194 := n0_
                  have BK195 := n1_
                  have HB := n2_
                  clear n0_ n1_ n2_
                  (try clear hb)
                  (try clear hb2)
                  (try clear hk)
                  (try clear hi)
                  refine hK.out _ _ ⟨(blk_cell BK195.out 0).trans rfl, (blk_cell BK195.out 1).trans rfl, (blk_cell BK195.out 2).trans rfl, (blk_cell BK195.out 3).trans rfl, (blk_cell BK195.out 4).trans rfl, (blk_cell BK194.out 0).trans rfl, (blk_cell BK194.out 1).trans rfl, (blk_cell BK194.out 2).trans rfl, (blk_cell BK194.out 3).trans rfl, (blk_cell BK194.out 4).trans rfl⟩ (fun hHeld => ?_)
                  clear hK K
                  refine norm_ (a' := ?_) ?_ ?_
                  rotate_left
                  · show Act.put _ (some 60) _ = _
                    simp only [Act.put, List.setIfInBounds_toArray, List.set_cons_zero, List.set_cons_succ, i64_w, i32_w]
                    rfl
                  refine pure_ (i := 16) (N := some 61) (v := ?_) (a' := ?_) #[true, true, true, true, true, true, true, true, true, true, true, true, true, true, true, true, true, false, false, false, false, false, false, false, false, false, false, false, false, false] rfl rfl (any_of HT_.out (by kernel_rfl)) (fun _ _ _ h => h) (Or.inl ⟨by rfl, ?_⟩) ?_ ?_
                  rotate_left
                  · intro w'
                    go_simp
                    with_reducible rfl
                  rotate_left
                  · simp only [Act.put, List.setIfInBounds_toArray, List.set_cons_zero, List.set_cons_succ, i64_w, i32_w]
                    rfl
                  refine pure_ (i := 17) (N := some 62) (v := ?_) (a' := ?_) #[true, true, true, true, true, true, true, true, true, true, true, true, true, true, true, true, true, true, false, false, false, false, false, false, false, false, false, false, false, false] rfl rfl (any_of HT_.out (by kernel_rfl)) (fun _ _ _ h => h) (Or.inl ⟨by rfl, ?_⟩) ?_ ?_
                  rotate_left
                  · intro w'
                    go_simp
                    with_reducible rfl
                  rotate_left
                  · simp only [Act.put, List.setIfInBounds_toArray, List.set_cons_zero, List.set_cons_succ, i64_w, i32_w]
                    rfl
                  refine pure_ (i := 18) (N := some 63) (v := ?_) (a' := ?_) #[true, true, true, true, true, true, true, true, true, true, true, true, true, true, true, true, true, true, true, false, false, false, false, false, false, false, false, false, false, false] rfl rfl (any_of HT_.out (by kernel_rfl)) (fun _ _ _ h => h) (Or.inl ⟨by rfl, ?_⟩) ?_ ?_
                  rotate_left
                  · intro w'
                    go_simp
                    with_reducible rfl
                  rotate_left
                  · simp only [Act.put, List.setIfInBounds_toArray, List.set_cons_zero, List.set_cons_succ, i64_w, i32_w]
                    rfl
                  refine pure_ (i := 19) (N := some 64) (v := ?_) (a' := ?_) #[true, true, true, true, true, true, true, true, true, true, true, true, true, true, true, true, true, true, true, true, false, false, false, false, false, false, false, false, false, false] rfl rfl (any_of HT_.out (by kernel_rfl)) (fun _ _ _ h => h) (Or.inl ⟨by rfl, ?_⟩) ?_ ?_
                  rotate_left
                  · intro w'
                    go_simp
                    with_reducible rfl
                  rotate_left
                  · simp only [Act.put, List.setIfInBounds_toArray, List.set_cons_zero, List.set_cons_succ, i64_w, i32_w]
                    rfl
                  refine pure_ (i := 20) (N := some 65) (v := undef) (a' := ?_) #[true, true, true, true, true, true, true, true, true, true, true, true, true, true, true, true, true, true, true, true, true, false, false, false, false, false, false, false, false, false] rfl rfl (any_of HT_.out (by kernel_rfl)) (fun _ _ _ h => h) (Or.inr ⟨by rfl, rfl⟩) ?_ ?_
                  rotate_left
                  · simp only [Act.put, List.setIfInBounds_toArray, List.set_cons_zero, List.set_cons_succ, i64_w, i32_w]
                    rfl
                  refine pure_ (i := 21) (N := some 66) (v := undef) (a' := ?_) #[true, true, true, true, true, true, true, true, true, true, true, true, true, true, true, true, true, true, true, true, true, true, false, false, false, false, false, false, false, false] rfl rfl (any_of HT_.out (by kernel_rfl)) (fun _ _ _ h => h) (Or.inr ⟨by rfl, rfl⟩) ?_ ?_
                  rotate_left
                  · simp only [Act.put, List.setIfInBounds_toArray, List.set_cons_zero, List.set_cons_succ, i64_w, i32_w]
                    rfl
                  refine pure_ (i := 22) (N := some 67) (v := undef) (a' := ?_) #[true, true, true, true, true, true, true, true, true, true, true, true, true, true, true, true, true, true, true, true, true, true, true, false, false, false, false, false, false, false] rfl rfl (any_of HT_.out (by kernel_rfl)) (fun _ _ _ h => h) (Or.inr ⟨by rfl, rfl⟩) ?_ ?_
                  rotate_left
                  · simp only [Act.put, List.setIfInBounds_toArray, List.set_cons_zero, List.set_cons_succ, i64_w, i32_w]
                    rfl
                  refine pure_ (i := 23) (N := some 68) (v := undef) (a' := ?_) #[true, true, true, true, true, true, true, true, true, true, true, true, true, true, true, true, true, true, true, true, true, true, true, true, false, false, false, false, false, false] rfl rfl (any_of HT_.out (by kernel_rfl)) (fun _ _ _ h => h) (Or.inr ⟨by rfl, rfl⟩) ?_ ?_
                  rotate_left
                  · simp only [Act.put, List.setIfInBounds_toArray, List.set_cons_zero, List.set_cons_succ, i64_w, i32_w]
                    rfl
                  refine pure_ (i := 24) (N := some 69) (v := undef) (a' := ?_) #[true, true, true, true, true, true, true, true, true, true, true, true, true, true, true, true, true, true, true, true, true, true, true, true, true, false, false, false, false, false] rfl rfl (any_of HT_.out (by kernel_rfl)) (fun _ _ _ h => h) (Or.inr ⟨by rfl, rfl⟩) ?_ ?_
                  rotate_left
                  · simp only [Act.put, List.setIfInBounds_toArray, List.set_cons_zero, List.set_cons_succ, i64_w, i32_w]
                    rfl
                  refine pure_ (i := 25) (N := some 70) (v := undef) (a' := ?_) #[true, true, true, true, true, true, true, true, true, true, true, true, true, true, true, true, true, true, true, true, true, true, true, true, true, true, false, false, false, false] rfl rfl (any_of HT_.out (by kernel_rfl)) (fun _ _ _ h => h) (Or.inr ⟨by rfl, rfl⟩) ?_ ?_
                  rotate_left
                  · simp only [Act.put, List.setIfInBounds_toArray, List.set_cons_zero, List.set_cons_succ, i64_w, i32_w]
                    rfl
                  refine pure_ (i := 26) (N := some 71) (v := undef) (a' := ?_) #[true, true, true, true, true, true, true, true, true, true, true, true, true, true, true, true, true, true, true, true, true, true, true, true, true, true, true, false, false, false] rfl rfl (any_of HT_.out (by kernel_rfl)) (fun _ _ _ h => h) (Or.inr ⟨by rfl, rfl⟩) ?_ ?_
                  rotate_left
                  · simp only [Act.put, List.setIfInBounds_toArray, List.set_cons_zero, List.set_cons_succ, i64_w, i32_w]
                    rfl
                  refine pure_ (i := 27) (N := some 72) (v := undef) (a' := ?_) #[true, true, true, true, true, true, true, true, true, true, true, true, true, true, true, true, true, true, true, true, true, true, true, true, true, true, true, true, false, false] rfl rfl (any_of HT_.out (by kernel_rfl)) (fun _ _ _ h => h) (Or.inr ⟨by rfl, rfl⟩) ?_ ?_
                  rotate_left
                  · simp only [Act.put, List.setIfInBounds_toArray, List.set_cons_zero, List.set_cons_succ, i64_w, i32_w]
                    rfl
                  refine pure_ (i := 28) (N := some 73) (v := undef) (a' := ?_) #[true, true, true, true, true, true, true, true, true, true, true, true, true, true, true, true, true, true, true, true, true, true, true, true, true, true, true, true, true, false] rfl rfl (any_of HT_.out (by kernel_rfl)) (fun _ _ _ h => h) (Or.inr ⟨by rfl, rfl⟩) ?_ ?_
                  rotate_left
                  · simp only [Act.put, List.setIfInBounds_toArray, List.set_cons_zero, List.set_cons_succ, i64_w, i32_w]
                    rfl
                  refine pure_ (i := 29) (N := some 74) (v := ?_) (a' := ?_) #[true, true, true, true, true, true, true, true, true, true, true, true, true, true, true, true, true, true, true, true, true, true, true, true, true, true, true, true, true, true] rfl rfl (any_of HT_.out (by kernel_rfl)) (fun _ _ _ h => h) (Or.inl ⟨by rfl, ?_⟩) ?_ ?_
                  rotate_left
                  · intro w'
                    go_simp
                    with_reducible rfl
                  rotate_left
                  · simp only [Act.put, List.setIfInBounds_toArray, List.set_cons_zero, List.set_cons_succ, i64_w, i32_w]
                    rfl
                  refine done_ (done_of HT_.out (by kernel_rfl)) ?_
                  try go_wp2
                  go_meet
                  case rel => exact ⟨_, (true), (by first | rfl | (simp; done) | (simp [*]; done)), H', ⟨by have := HJ4.out; first | omega | exact Nat.le_refl _⟩, ⟨by (with_reducible repeat (first | refine blk_drewN ?_ _ | refine blk_drew ?_ | refine blk_alloc ?_ _)); exact BK194.out⟩, ⟨by (with_reducible repeat (first | refine blk_drewN ?_ _ | refine blk_drew ?_ | refine blk_alloc ?_ _)); exact BK195.out⟩, ⟨by repeat (first | (with_reducible first | exact HB.out | apply below_alloc | apply pw_below_drewN | apply below_drew1 | refine below_set ?_ GE194.out | refine below_set ?_ GE195.out) | exact HB.out)⟩⟩
              · rw [if_neg c27] at H
                have c27b0 : (t196 == t197) = false := beq_eq_false_iff_ne.mpr c27
                have c27b1 : (t196 != t197) = true := bne_iff_ne.mpr c27
                (first | rw [c27b0] | (simp only [i64_w, i32_w]; rw [c27b0]) | skip)
                have H' := Aside0.mk H
                clear H
                try go_wp2
                have n0_ : Aside0 (((((((w22.setCell ⟨gb195, 0, none⟩ (.int .i64 ((rd_T29 l0 a2).f0))).setCell ⟨gb195, 1, none⟩ (.int .i64 ((rd_T29 l0 a2).f1))).setCell ⟨gb195, 2, none⟩ (.int .i64 ((rd_T29 l0 a2).f2))).setCell ⟨gb195, 3, none⟩ (.int .i64 ((rd_T29 l0 a2).f3))).setCell ⟨gb195, 4, none⟩ (.int .i64 ((rd_T29 l0 a2).f4))).setCell ⟨gb195, 4, none⟩ (.int .i64 (wrap64 (((rd_T29 l0 a2).f4) + 1)))).heap[gb194]? = some (.cells #[.int .i64 ((rd_T29 l0 a2).f0), .int .i64 ((rd_T29 l0 a2).f1), .int .i64 ((rd_T29 l0 a2).f2), .int .i64 ((rd_T29 l0 a2).f3), .int .i64 ((rd_T29 l0 a2).f4)] 29 (0, 0))) := ⟨by (with_reducible repeat (first | refine blk_drewN ?_ _ | refine blk_drew ?_ | refine blk_alloc ?_ _)); refine blk_far ?_ NB194_195.out _; (with_reducible repeat (first | refine blk_drewN ?_ _ | refine blk_drew ?_ | refine blk_alloc ?_ _)); refine blk_far ?_ NB194_195.out _; (with_reducible repeat (first | refine blk_drewN ?_ _ | refine blk_drew ?_ | refine blk_alloc ?_ _)); refine blk_far ?_ NB194_195.out _; (with_reducible repeat (first | refine blk_drewN ?_ _ | refine blk_drew ?_ | refine blk_alloc ?_ _)); refine blk_far ?_ NB194_195.out _; (with_reducible repeat (first | refine blk_drewN ?_ _ | refine blk_drew ?_ | refine blk_alloc ?_ _)); refine blk_far ?_ NB194_195.out _; (with_reducible repeat (first | refine blk_drewN ?_ _ | refine blk_drew ?_ | refine blk_alloc ?_ _)); refine blk_far ?_ NB194_195.out _; (with_reducible repeat (first | refine blk_drewN ?_ _ | refine blk_drew ?_ | refine blk_alloc ?_ _)); exact BK194.out⟩
                have n1_ : Aside0 (((((((w22.setCell ⟨gb195, 0, none⟩ (.int .i64 ((rd_T29 l0 a2).f0))).setCell ⟨gb195, 1, none⟩ (.int .i64 ((rd_T29 l0 a2).f1))).setCell ⟨gb195, 2, none⟩ (.int .i64 ((rd_T29 l0 a2).f2))).setCell ⟨gb195, 3, none⟩ (.int .i64 ((rd_T29 l0 a2).f3))).setCell ⟨gb195, 4, none⟩ (.int .i64 ((rd_T29 l0 a2).f4))).setCell ⟨gb195, 4, none⟩ (.int .i64 (wrap64 (((rd_T29 l0 a2).f4) + 1)))).heap[gb195]? = some (.cells #[.int .i64 ((rd_T29 l0 a2).f0), .int .i64 ((rd_T29 l0 a2).f1), .int .i64 ((rd_T29 l0 a2).f2), .int .i64 ((rd_T29 l0 a2).f3), .int .i64 (wrap64 (((rd_T29 l0 a2).f4) + 1))] 29 (0, 0))) := ⟨by (with_reducible repeat (first | refine blk_drewN ?_ _ | refine blk_drew ?_ | refine blk_alloc ?_ _)); refine blk_put (cs := #[.int .i64 ((rd_T29 l0 a2).f0), .int .i64 ((rd_T29 l0 a2).f1), .int .i64 ((rd_T29 l0 a2).f2), .int .i64 ((rd_T29 l0 a2).f3), .int .i64 ((rd_T29 l0 a2).f4)]) ?_ 4 _ rfl; (with_reducible repeat (first | refine blk_drewN ?_ _ | refine blk_drew ?_ | refine blk_alloc ?_ _)); refine blk_put (cs := #[.int .i64 ((rd_T29 l0 a2).f0), .int .i64 ((rd_T29 l0 a2).f1), .int .i64 ((rd_T29 l0 a2).f2), .int .i64 ((rd_T29 l0 a2).f3), .int .i64 0]) ?_ 4 _ rfl; (with_reducible repeat (first | refine blk_drewN ?_ _ | refine blk_drew ?_ | refine blk_alloc ?_ _)); refine blk_put (cs := #[.int .i64 ((rd_T29 l0 a2).f0), .int .i64 ((rd_T29 l0 a2).f1), .int .i64 ((rd_T29 l0 a2).f2), .int .i64 0, .int .i64 0]) ?_ 3 _ rfl; (with_reducible repeat (first | refine blk_drewN ?_ _ | refine blk_drew ?_ | refine blk_alloc ?_ _)); refine blk_put (cs := #[.int .i64 ((rd_T29 l0 a2).f0), .int .i64 ((rd_T29 l0 a2).f1), .int .i64 0, .int .i64 0, .int .i64 0]) ?_ 2 _ rfl; (with_reducible repeat (first | refine blk_drewN ?_ _ | refine blk_drew ?_ | refine blk_alloc ?_ _)); refine blk_put (cs := #[.int .i64 ((rd_T29 l0 a2).f0), .int .i64 0, .int .i64 0, .int .i64 0, .int .i64 0]) ?_ 1 _ rfl; (with_reducible repeat (first | refine blk_drewN ?_ _ | refine blk_drew ?_ | refine blk_alloc ?_ _)); refine blk_put (cs := #[.int .i64 0, .int .i64 0, .int .i64 0, .int .i64 0, .int .i64 0]) ?_ 0 _ rfl; (with_reducible repeat (first | refine blk_drewN ?_ _ | refine blk_drew ?_ | refine blk_alloc ?_ _)); exact BK195.out⟩
                have n2_ : Aside0 (Below w.heap.size w ((((((w22.setCell ⟨gb195, 0, none⟩ (.int .i64 ((rd_T29 l0 a2).f0))).setCell ⟨gb195, 1, none⟩ (.int .i64 ((rd_T29 l0 a2).f1))).setCell ⟨gb195, 2, none⟩ (.int .i64 ((rd_T29 l0 a2).f2))).setCell ⟨gb195, 3, none⟩ (.int .i64 ((rd_T29 l0 a2).f3))).setCell ⟨gb195, 4, none⟩ (.int .i64 ((rd_T29 l0 a2).f4))).setCell ⟨gb195, 4, none⟩ (.int .i64 (wrap64 (((rd_T29 l0 a2).f4) + 1))))) := ⟨by repeat (first | (with_reducible first | exact HB.out | apply below_alloc | apply pw_below_drewN | apply below_drew1 | refine below_set ?_ GE194.out | refine below_set ?_ GE195.out) | exact HB.out)⟩
                (try clear BK194)
                (try clear BK195)
                (try clear HB)
                generalize ((((((w22.setCell ⟨gb195, 0, none⟩ (.int .i64 ((rd_T29 l0 a2).f0))).setCell ⟨gb195, 1, none⟩ (.int .i64 ((rd_T29 l0 a2).f1))).setCell ⟨gb195, 2, none⟩ (.int .i64 ((rd_T29 l0 a2).f2))).setCell ⟨gb195, 3, none⟩ (.int .i64 ((rd_T29 l0 a2).f3))).setCell ⟨gb195, 4, none⟩ (.int .i64 ((rd_T29 l0 a2).f4))).setCell ⟨gb195, 4, none⟩ (.int .i64 (wrap64 (((rd_T29 l0 a2).f4) + 1)))) = w50 at n0_ n1_ n2_ ⊢
                have BK194 := n0_
                have BK195 := n1_
                have HB := n2_
                clear n0_ n1_ n2_
                have n0_ := Aside0.mk (blk_drew BK194.out)
                have n1_ := Aside0.mk (blk_drew BK195.out)
                have n2_ := Aside0.mk (below_drew1 HB.out)
                clear BK194
                clear BK195
                clear HB
                have BK194 := n0_
                have BK195 := n1_
                have HB := n2_
                clear n0_ n1_ n2_
                refine start_ (n := 30) (S := fun w' => w'.cell? ⟨gb195, 0, none⟩ = some (.int .i64 ((rd_T29 l0 a2).f0)) ∧ w'.cell? ⟨gb195, 1, none⟩ = some (.int .i64 ((rd_T29 l0 a2).f1)) ∧ w'.cell? ⟨gb195, 2, none⟩ = some (.int .i64 ((rd_T29 l0 a2).f2)) ∧ w'.cell? ⟨gb195, 3, none⟩ = some (.int .i64 ((rd_T29 l0 a2).f3)) ∧ w'.cell? ⟨gb195, 4, none⟩ = some (.int .i64 (wrap64 (((rd_T29 l0 a2).f4) + 1))) ∧ w'.cell? ⟨gb194, 0, none⟩ = some (.int .i64 ((rd_T29 l0 a2).f0)) ∧ w'.cell? ⟨gb194, 1, none⟩ = some (.int .i64 ((rd_T29 l0 a2).f1)) ∧ w'.cell? ⟨gb194, 2, none⟩ = some (.int .i64 ((rd_T29 l0 a2).f2)) ∧ w'.cell? ⟨gb194, 3, none⟩ = some (.int .i64 ((rd_T29 l0 a2).f3)) ∧ w'.cell? ⟨gb194, 4, none⟩ = some (.int .i64 ((rd_T29 l0 a2).f4))) (ds := []) #[false, false, false, false, false, false, false, false, false, false, false, false, false, false, false, false, false, false, false, false, false, false, false, false, false, false, false, false, false, false] (by kernel_rfl) rfl rfl ⟨(blk_cell BK195.out 0).trans rfl, (blk_cell BK195.out 1).trans rfl, (blk_cell BK195.out 2).trans rfl, (blk_cell BK195.out 3).trans rfl, (blk_cell BK195.out 4).trans rfl, (blk_cell BK194.out 0).trans rfl, (blk_cell BK194.out 1).trans rfl, (blk_cell BK194.out 2).trans rfl, (blk_cell BK194.out 3).trans rfl, (blk_cell BK194.out 4).trans rfl⟩ (fun hHeld => ?_); refine with_tabW fuseelaw13_DoverWaits.tab7 fuseelaw13_DoverWaits.bits7 (fun HT_ HW_ => ?_)
                generalize w50.drew = w51 at BK194 BK195 HB hHeld ⊢
                refine pure_ (i := 1) (N := some 46) (v := ?_) (a' := ?_) #[false, true, false, false, false, false, false, false, false, false, false, false, false, false, false, false, false, false, false, false, false, false, false, false, false, false, false, false, false, false] rfl rfl (any_of HT_.out (by kernel_rfl)) (fun _ _ _ h => h) (Or.inl ⟨by rfl, ?_⟩) ?_ ?_
                rotate_left
                · intro w'
                  go_simp
                  with_reducible rfl
                rotate_left
                · simp only [Act.put, List.setIfInBounds_toArray, List.set_cons_zero, List.set_cons_succ, i64_w, i32_w]
                  rfl
                refine pure_ (i := 2) (N := some 47) (v := ?_) (a' := ?_) #[false, true, true, false, false, false, false, false, false, false, false, false, false, false, false, false, false, false, false, false, false, false, false, false, false, false, false, false, false, false] rfl rfl (any_of HT_.out (by kernel_rfl)) (fun _ _ _ h => h) (Or.inl ⟨by rfl, ?_⟩) ?_ ?_
                rotate_left
                · intro w'
                  go_simp
                  with_reducible rfl
                rotate_left
                · simp only [Act.put, List.setIfInBounds_toArray, List.set_cons_zero, List.set_cons_succ, i64_w, i32_w]
                  rfl
                refine pure_ (i := 5) (N := some 50) (v := ?_) (a' := ?_) #[false, true, true, false, false, true, false, false, false, false, false, false, false, false, false, false, false, false, false, false, false, false, false, false, false, false, false, false, false, false] rfl rfl (any_of HT_.out (by kernel_rfl)) (fun _ _ _ h => h) (Or.inl ⟨by rfl, ?_⟩) ?_ ?_
                rotate_left
                · intro w'
                  go_simp
                  with_reducible rfl
                rotate_left
                · simp only [Act.put, List.setIfInBounds_toArray, List.set_cons_zero, List.set_cons_succ, i64_w, i32_w]
                  rfl
                refine take_ (i := 0) (N := some 45) (v := ?_) (a' := ?_) #[true, true, true, false, false, true, false, false, false, false, false, false, false, false, false, false, false, false, false, false, false, false, false, false, false, false, false, false, false, false] rfl rfl (take_ofW HT_.out HW_.out (by kernel_rfl)) (fun _ _ _ h => h) (Or.inl ⟨by rfl, ?_⟩) hHeld ?_ ?_
                rotate_left
                · rintro w' ⟨s0, s1, s2, s3, s4, s5, s6, s7, s8, s9⟩
                  go_simp
                  with_reducible rfl
                rotate_left
                · simp only [Act.put, List.setIfInBounds_toArray, List.set_cons_zero, List.set_cons_succ, i64_w, i32_w]
                  rfl
                refine take_ (i := 4) (N := some 49) (v := ?_) (a' := ?_) #[true, true, true, false, true, true, false, false, false, false, false, false, false, false, false, false, false, false, false, false, false, false, false, false, false, false, false, false, false, false] rfl rfl (take_ofW HT_.out HW_.out (by kernel_rfl)) (fun _ _ _ h => h) (Or.inl ⟨by rfl, ?_⟩) hHeld ?_ ?_
                rotate_left
                · rintro w' ⟨s0, s1, s2, s3, s4, s5, s6, s7, s8, s9⟩
                  go_simp
                  with_reducible rfl
                rotate_left
                · simp only [Act.put, List.setIfInBounds_toArray, List.set_cons_zero, List.set_cons_succ, i64_w, i32_w]
                  rfl
                refine one_ (i := 3) (N := some 48) #[true, true, true, true, true, true, false, false, false, false, false, false, false, false, false, false, false, false, false, false, false, false, false, false, false, false, false, false, false, false] rfl rfl (one_of HT_.out (by kernel_rfl)) (by decide) (fun K hK => ?_)
                refine goes_ Try.func13 (by kernel_rfl) rfl #[.agg #[.int .i64 ((rd_T29 l0 a2).f0), .int .i64 ((rd_T29 l0 a2).f1), .int .i64 ((rd_T29 l0 a2).f2), .int .i64 ((rd_T29 l0 a2).f3), .int .i64 (wrap64 (((rd_T29 l0 a2).f4) + 1))], .int .i64 (wrap64 (a1 + 1))] (by rfl) rfl rfl (by (try simp only [List.map_toArray, List.map_cons, List.map_nil]); first | done | rfl | (simp only [List.length_drop, List.length_take]; rfl)) ?_
                with_reducible refine (dover_Lax.calls ((rd_T29 l0 a2).f0) ((rd_T29 l0 a2).f1) ((rd_T29 l0 a2).f2) ((rd_T29 l0 a2).f3) (wrap64 (((rd_T29 l0 a2).f4) + 1)) (wrap64 (a1 + 1)) t196 _ A25.out).mono ?_
                rintro e w52 ⟨rfl, hb⟩
                refine ⟨_, rfl, ?_⟩
                have n0_ := Aside0.mk (blk_below (g := gb194) (o := .cells #[.int .i64 ((rd_T29 l0 a2).f0), .int .i64 ((rd_T29 l0 a2).f1), .int .i64 ((rd_T29 l0 a2).f2), .int .i64 ((rd_T29 l0 a2).f3), .int .i64 ((rd_T29 l0 a2).f4)] 29 (0, 0)) (by (with_reducible repeat (first | refine blk_drewN ?_ _ | refine blk_drew ?_ | refine blk_alloc ?_ _)); exact BK194.out) hb)
                have n1_ := Aside0.mk (blk_below (g := gb195) (o := .cells #[.int .i64 ((rd_T29 l0 a2).f0), .int .i64 ((rd_T29 l0 a2).f1), .int .i64 ((rd_T29 l0 a2).f2), .int .i64 ((rd_T29 l0 a2).f3), .int .i64 (wrap64 (((rd_T29 l0 a2).f4) + 1))] 29 (0, 0)) (by (with_reducible repeat (first | refine blk_drewN ?_ _ | refine blk_drew ?_ | refine blk_alloc ?_ _)); exact BK195.out) hb)
                have n2_ := Aside0.mk (below_step (by repeat (first | (with_reducible first | exact HB.out | apply below_alloc | apply pw_below_drewN | apply below_drew1 | refine below_set ?_ GE194.out | refine below_set ?_ GE195.out) | exact HB.out)) hb)
                clear BK194
                clear BK195
                clear HB
                have BK194 := n0_
                have BK195 := n1_
                have HB := n2_
                clear n0_ n1_ n2_
                (try clear hb)
                (try clear hb2)
                (try clear hk)
                (try clear hi)
                refine hK.out _ _ ⟨(blk_cell BK195.out 0).trans rfl, (blk_cell BK195.out 1).trans rfl, (blk_cell BK195.out 2).trans rfl, (blk_cell BK195.out 3).trans rfl, (blk_cell BK195.out 4).trans rfl, (blk_cell BK194.out 0).trans rfl, (blk_cell BK194.out 1).trans rfl, (blk_cell BK194.out 2).trans rfl, (blk_cell BK194.out 3).trans rfl, (blk_cell BK194.out 4).trans rfl⟩ (fun hHeld => ?_)
                clear hK K
                refine norm_ (a' := ?_) ?_ ?_
                rotate_left
                · show Act.put _ (some 48) _ = _
                  simp only [Act.put, List.setIfInBounds_toArray, List.set_cons_zero, List.set_cons_succ, i64_w, i32_w]
                  rfl
                refine one_ (i := 6) (N := some 51) #[true, true, true, true, true, true, true, false, false, false, false, false, false, false, false, false, false, false, false, false, false, false, false, false, false, false, false, false, false, false] rfl rfl (one_of HT_.out (by kernel_rfl)) (by decide) (fun K hK => ?_)
                refine goes_ Try.func13 (by kernel_rfl) rfl #[.agg #[.int .i64 ((rd_T29 l0 a2).f0), .int .i64 ((rd_T29 l0 a2).f1), .int .i64 ((rd_T29 l0 a2).f2), .int .i64 ((rd_T29 l0 a2).f3), .int .i64 ((rd_T29 l0 a2).f4)], .int .i64 a1] (by rfl) rfl rfl (by (try simp only [List.map_toArray, List.map_cons, List.map_nil]); first | done | rfl | (simp only [List.length_drop, List.length_take]; rfl)) ?_
                with_reducible refine (dover_Lax.calls ((rd_T29 l0 a2).f0) ((rd_T29 l0 a2).f1) ((rd_T29 l0 a2).f2) ((rd_T29 l0 a2).f3) ((rd_T29 l0 a2).f4) a1 t197 _ A26.out).mono ?_
                rintro e w53 ⟨rfl, hb⟩
                refine ⟨_, rfl, ?_⟩
                have n0_ := Aside0.mk (blk_below (g := gb194) (o := .cells #[.int .i64 ((rd_T29 l0 a2).f0), .int .i64 ((rd_T29 l0 a2).f1), .int .i64 ((rd_T29 l0 a2).f2), .int .i64 ((rd_T29 l0 a2).f3), .int .i64 ((rd_T29 l0 a2).f4)] 29 (0, 0)) (by (with_reducible repeat (first | refine blk_drewN ?_ _ | refine blk_drew ?_ | refine blk_alloc ?_ _)); exact BK194.out) hb)
                have n1_ := Aside0.mk (blk_below (g := gb195) (o := .cells #[.int .i64 ((rd_T29 l0 a2).f0), .int .i64 ((rd_T29 l0 a2).f1), .int .i64 ((rd_T29 l0 a2).f2), .int .i64 ((rd_T29 l0 a2).f3), .int .i64 (wrap64 (((rd_T29 l0 a2).f4) + 1))] 29 (0, 0)) (by (with_reducible repeat (first | refine blk_drewN ?_ _ | refine blk_drew ?_ | refine blk_alloc ?_ _)); exact BK195.out) hb)
                have n2_ := Aside0.mk (below_step (by repeat (first | (with_reducible first | exact HB.out | apply below_alloc | apply pw_below_drewN | apply below_drew1 | refine below_set ?_ GE194.out | refine below_set ?_ GE195.out) | exact HB.out)) hb)
                clear BK194
                clear BK195
                clear HB
                have BK194 := n0_
                have BK195 := n1_
                have HB := n2_
                clear n0_ n1_ n2_
                (try clear hb)
                (try clear hb2)
                (try clear hk)
                (try clear hi)
                refine hK.out _ _ ⟨(blk_cell BK195.out 0).trans rfl, (blk_cell BK195.out 1).trans rfl, (blk_cell BK195.out 2).trans rfl, (blk_cell BK195.out 3).trans rfl, (blk_cell BK195.out 4).trans rfl, (blk_cell BK194.out 0).trans rfl, (blk_cell BK194.out 1).trans rfl, (blk_cell BK194.out 2).trans rfl, (blk_cell BK194.out 3).trans rfl, (blk_cell BK194.out 4).trans rfl⟩ (fun hHeld => ?_)
                clear hK K
                refine norm_ (a' := ?_) ?_ ?_
                rotate_left
                · show Act.put _ (some 51) _ = _
                  simp only [Act.put, List.setIfInBounds_toArray, List.set_cons_zero, List.set_cons_succ, i64_w, i32_w]
                  rfl
                refine pure_ (i := 7) (N := some 52) (v := ?_) (a' := ?_) #[true, true, true, true, true, true, true, true, false, false, false, false, false, false, false, false, false, false, false, false, false, false, false, false, false, false, false, false, false, false] rfl rfl (any_of HT_.out (by kernel_rfl)) (fun _ _ _ h => h) (Or.inl ⟨by rfl, ?_⟩) ?_ ?_
                rotate_left
                · intro w'
                  go_simp
                  with_reducible rfl
                rotate_left
                · simp only [Act.put, List.setIfInBounds_toArray, List.set_cons_zero, List.set_cons_succ, i64_w, i32_w]
                  rfl
                refine pure_ (i := 8) (N := some 53) (v := ?_) (a' := ?_) #[true, true, true, true, true, true, true, true, true, false, false, false, false, false, false, false, false, false, false, false, false, false, false, false, false, false, false, false, false, false] rfl rfl (any_of HT_.out (by kernel_rfl)) (fun _ _ _ h => h) (Or.inl ⟨by rfl, ?_⟩) ?_ ?_
                rotate_left
                · intro w'
                  go_simp
                  with_reducible rfl
                rotate_left
                · simp only [Act.put, List.setIfInBounds_toArray, List.set_cons_zero, List.set_cons_succ, i64_w, i32_w]
                  rfl
                refine pure_ (i := 9) (N := some 54) (v := undef) (a' := ?_) #[true, true, true, true, true, true, true, true, true, true, false, false, false, false, false, false, false, false, false, false, false, false, false, false, false, false, false, false, false, false] rfl rfl (any_of HT_.out (by kernel_rfl)) (fun _ _ _ h => h) (Or.inr ⟨by rfl, rfl⟩) ?_ ?_
                rotate_left
                · simp only [Act.put, List.setIfInBounds_toArray, List.set_cons_zero, List.set_cons_succ, i64_w, i32_w]
                  rfl
                refine pure_ (i := 10) (N := some 55) (v := undef) (a' := ?_) #[true, true, true, true, true, true, true, true, true, true, true, false, false, false, false, false, false, false, false, false, false, false, false, false, false, false, false, false, false, false] rfl rfl (any_of HT_.out (by kernel_rfl)) (fun _ _ _ h => h) (Or.inr ⟨by rfl, rfl⟩) ?_ ?_
                rotate_left
                · simp only [Act.put, List.setIfInBounds_toArray, List.set_cons_zero, List.set_cons_succ, i64_w, i32_w]
                  rfl
                refine pure_ (i := 11) (N := some 56) (v := undef) (a' := ?_) #[true, true, true, true, true, true, true, true, true, true, true, true, false, false, false, false, false, false, false, false, false, false, false, false, false, false, false, false, false, false] rfl rfl (any_of HT_.out (by kernel_rfl)) (fun _ _ _ h => h) (Or.inr ⟨by rfl, rfl⟩) ?_ ?_
                rotate_left
                · simp only [Act.put, List.setIfInBounds_toArray, List.set_cons_zero, List.set_cons_succ, i64_w, i32_w]
                  rfl
                refine pure_ (i := 12) (N := some 57) (v := undef) (a' := ?_) #[true, true, true, true, true, true, true, true, true, true, true, true, true, false, false, false, false, false, false, false, false, false, false, false, false, false, false, false, false, false] rfl rfl (any_of HT_.out (by kernel_rfl)) (fun _ _ _ h => h) (Or.inr ⟨by rfl, rfl⟩) ?_ ?_
                rotate_left
                · simp only [Act.put, List.setIfInBounds_toArray, List.set_cons_zero, List.set_cons_succ, i64_w, i32_w]
                  rfl
                refine pure_ (i := 13) (N := some 58) (v := undef) (a' := ?_) #[true, true, true, true, true, true, true, true, true, true, true, true, true, true, false, false, false, false, false, false, false, false, false, false, false, false, false, false, false, false] rfl rfl (any_of HT_.out (by kernel_rfl)) (fun _ _ _ h => h) (Or.inr ⟨by rfl, rfl⟩) ?_ ?_
                rotate_left
                · simp only [Act.put, List.setIfInBounds_toArray, List.set_cons_zero, List.set_cons_succ, i64_w, i32_w]
                  rfl
                refine pure_ (i := 14) (N := some 59) (v := undef) (a' := ?_) #[true, true, true, true, true, true, true, true, true, true, true, true, true, true, true, false, false, false, false, false, false, false, false, false, false, false, false, false, false, false] rfl rfl (any_of HT_.out (by kernel_rfl)) (fun _ _ _ h => h) (Or.inr ⟨by rfl, rfl⟩) ?_ ?_
                rotate_left
                · simp only [Act.put, List.setIfInBounds_toArray, List.set_cons_zero, List.set_cons_succ, i64_w, i32_w]
                  rfl
                refine pure_ (i := 15) (N := some 60) (v := undef) (a' := ?_) #[true, true, true, true, true, true, true, true, true, true, true, true, true, true, true, true, false, false, false, false, false, false, false, false, false, false, false, false, false, false] rfl rfl (any_of HT_.out (by kernel_rfl)) (fun _ _ _ h => h) (Or.inr ⟨by rfl, rfl⟩) ?_ ?_
                rotate_left
                · simp only [Act.put, List.setIfInBounds_toArray, List.set_cons_zero, List.set_cons_succ, i64_w, i32_w]
                  rfl
                refine pure_ (i := 16) (N := some 61) (v := undef) (a' := ?_) #[true, true, true, true, true, true, true, true, true, true, true, true, true, true, true, true, true, false, false, false, false, false, false, false, false, false, false, false, false, false] rfl rfl (any_of HT_.out (by kernel_rfl)) (fun _ _ _ h => h) (Or.inr ⟨by rfl, rfl⟩) ?_ ?_
                rotate_left
                · simp only [Act.put, List.setIfInBounds_toArray, List.set_cons_zero, List.set_cons_succ, i64_w, i32_w]
                  rfl
                refine pure_ (i := 17) (N := some 62) (v := undef) (a' := ?_) #[true, true, true, true, true, true, true, true, true, true, true, true, true, true, true, true, true, true, false, false, false, false, false, false, false, false, false, false, false, false] rfl rfl (any_of HT_.out (by kernel_rfl)) (fun _ _ _ h => h) (Or.inr ⟨by rfl, rfl⟩) ?_ ?_
                rotate_left
                · simp only [Act.put, List.setIfInBounds_toArray, List.set_cons_zero, List.set_cons_succ, i64_w, i32_w]
                  rfl
                refine pure_ (i := 18) (N := some 63) (v := ?_) (a' := ?_) #[true, true, true, true, true, true, true, true, true, true, true, true, true, true, true, true, true, true, true, false, false, false, false, false, false, false, false, false, false, false] rfl rfl (any_of HT_.out (by kernel_rfl)) (fun _ _ _ h => h) (Or.inl ⟨by rfl, ?_⟩) ?_ ?_
                rotate_left
                · intro w'
                  go_simp
                  with_reducible rfl
                rotate_left
                · simp only [Act.put, List.setIfInBounds_toArray, List.set_cons_zero, List.set_cons_succ, i64_w, i32_w]
                  rfl
                refine pure_ (i := 19) (N := some 64) (v := ?_) (a' := ?_) #[true, true, true, true, true, true, true, true, true, true, true, true, true, true, true, true, true, true, true, true, false, false, false, false, false, false, false, false, false, false] rfl rfl (any_of HT_.out (by kernel_rfl)) (fun _ _ _ h => h) (Or.inl ⟨by rfl, ?_⟩) ?_ ?_
                rotate_left
                · intro w'
                  go_simp
                  with_reducible rfl
                rotate_left
                · simp only [Act.put, List.setIfInBounds_toArray, List.set_cons_zero, List.set_cons_succ, i64_w, i32_w]
                  rfl
                refine pure_ (i := 20) (N := some 65) (v := undef) (a' := ?_) #[true, true, true, true, true, true, true, true, true, true, true, true, true, true, true, true, true, true, true, true, true, false, false, false, false, false, false, false, false, false] rfl rfl (any_of HT_.out (by kernel_rfl)) (fun _ _ _ h => h) (Or.inr ⟨by rfl, rfl⟩) ?_ ?_
                rotate_left
                · simp only [Act.put, List.setIfInBounds_toArray, List.set_cons_zero, List.set_cons_succ, i64_w, i32_w]
                  rfl
                refine pure_ (i := 21) (N := some 66) (v := undef) (a' := ?_) #[true, true, true, true, true, true, true, true, true, true, true, true, true, true, true, true, true, true, true, true, true, true, false, false, false, false, false, false, false, false] rfl rfl (any_of HT_.out (by kernel_rfl)) (fun _ _ _ h => h) (Or.inr ⟨by rfl, rfl⟩) ?_ ?_
                rotate_left
                · simp only [Act.put, List.setIfInBounds_toArray, List.set_cons_zero, List.set_cons_succ, i64_w, i32_w]
                  rfl
                refine pure_ (i := 22) (N := some 67) (v := undef) (a' := ?_) #[true, true, true, true, true, true, true, true, true, true, true, true, true, true, true, true, true, true, true, true, true, true, true, false, false, false, false, false, false, false] rfl rfl (any_of HT_.out (by kernel_rfl)) (fun _ _ _ h => h) (Or.inr ⟨by rfl, rfl⟩) ?_ ?_
                rotate_left
                · simp only [Act.put, List.setIfInBounds_toArray, List.set_cons_zero, List.set_cons_succ, i64_w, i32_w]
                  rfl
                refine pure_ (i := 23) (N := some 68) (v := undef) (a' := ?_) #[true, true, true, true, true, true, true, true, true, true, true, true, true, true, true, true, true, true, true, true, true, true, true, true, false, false, false, false, false, false] rfl rfl (any_of HT_.out (by kernel_rfl)) (fun _ _ _ h => h) (Or.inr ⟨by rfl, rfl⟩) ?_ ?_
                rotate_left
                · simp only [Act.put, List.setIfInBounds_toArray, List.set_cons_zero, List.set_cons_succ, i64_w, i32_w]
                  rfl
                refine pure_ (i := 24) (N := some 69) (v := undef) (a' := ?_) #[true, true, true, true, true, true, true, true, true, true, true, true, true, true, true, true, true, true, true, true, true, true, true, true, true, false, false, false, false, false] rfl rfl (any_of HT_.out (by kernel_rfl)) (fun _ _ _ h => h) (Or.inr ⟨by rfl, rfl⟩) ?_ ?_
                rotate_left
                · simp only [Act.put, List.setIfInBounds_toArray, List.set_cons_zero, List.set_cons_succ, i64_w, i32_w]
                  rfl
                refine pure_ (i := 25) (N := some 70) (v := undef) (a' := ?_) #[true, true, true, true, true, true, true, true, true, true, true, true, true, true, true, true, true, true, true, true, true, true, true, true, true, true, false, false, false, false] rfl rfl (any_of HT_.out (by kernel_rfl)) (fun _ _ _ h => h) (Or.inr ⟨by rfl, rfl⟩) ?_ ?_
                rotate_left
                · simp only [Act.put, List.setIfInBounds_toArray, List.set_cons_zero, List.set_cons_succ, i64_w, i32_w]
                  rfl
                refine pure_ (i := 26) (N := some 71) (v := undef) (a' := ?_) #[true, true, true, true, true, true, true, true, true, true, true, true, true, true, true, true, true, true, true, true, true, true, true, true, true, true, true, false, false, false] rfl rfl (any_of HT_.out (by kernel_rfl)) (fun _ _ _ h => h) (Or.inr ⟨by rfl, rfl⟩) ?_ ?_
                rotate_left
                · simp only [Act.put, List.setIfInBounds_toArray, List.set_cons_zero, List.set_cons_succ, i64_w, i32_w]
                  rfl
                refine pure_ (i := 27) (N := some 72) (v := undef) (a' := ?_) #[true, true, true, true, true, true, true, true, true, true, true, true, true, true, true, true, true, true, true, true, true, true, true, true, true, true, true, true, false, false] rfl rfl (any_of HT_.out (by kernel_rfl)) (fun _ _ _ h => h) (Or.inr ⟨by rfl, rfl⟩) ?_ ?_
                rotate_left
                · simp only [Act.put, List.setIfInBounds_toArray, List.set_cons_zero, List.set_cons_succ, i64_w, i32_w]
                  rfl
                refine pure_ (i := 28) (N := some 73) (v := undef) (a' := ?_) #[true, true, true, true, true, true, true, true, true, true, true, true, true, true, true, true, true, true, true, true, true, true, true, true, true, true, true, true, true, false] rfl rfl (any_of HT_.out (by kernel_rfl)) (fun _ _ _ h => h) (Or.inr ⟨by rfl, rfl⟩) ?_ ?_
                rotate_left
                · simp only [Act.put, List.setIfInBounds_toArray, List.set_cons_zero, List.set_cons_succ, i64_w, i32_w]
                  rfl
                refine pure_ (i := 29) (N := some 74) (v := ?_) (a' := ?_) #[true, true, true, true, true, true, true, true, true, true, true, true, true, true, true, true, true, true, true, true, true, true, true, true, true, true, true, true, true, true] rfl rfl (any_of HT_.out (by kernel_rfl)) (fun _ _ _ h => h) (Or.inl ⟨by rfl, ?_⟩) ?_ ?_
                rotate_left
                · intro w'
                  go_simp
                  with_reducible rfl
                rotate_left
                · simp only [Act.put, List.setIfInBounds_toArray, List.set_cons_zero, List.set_cons_succ, i64_w, i32_w]
                  rfl
                refine done_ (done_of HT_.out (by kernel_rfl)) ?_
                try go_wp2
                go_meet
                case rel => exact ⟨_, (true), (by first | rfl | (simp; done) | (simp [*]; done)), H', ⟨by have := HJ4.out; first | omega | exact Nat.le_refl _⟩, ⟨by (with_reducible repeat (first | refine blk_drewN ?_ _ | refine blk_drew ?_ | refine blk_alloc ?_ _)); exact BK194.out⟩, ⟨by (with_reducible repeat (first | refine blk_drewN ?_ _ | refine blk_drew ?_ | refine blk_alloc ?_ _)); exact BK195.out⟩, ⟨by repeat (first | (with_reducible first | exact HB.out | apply below_alloc | apply pw_below_drewN | apply below_drew1 | refine below_set ?_ GE194.out | refine below_set ?_ GE195.out) | exact HB.out)⟩⟩
            case rest =>
              clear HC19
              try clear c1
              try clear c2
              try clear p2
              try clear c3
              try clear p6
              try clear c13
              try clear c27
              try clear c27b0
              try clear c27b1
              try clear c30
              try clear c30b0
              try clear c30b1
              obtain ⟨kq, x74_18, rfl, HA, HJ18, BK194, BK195, HB⟩ := hcut
              cases kq with
              | zero => exact absurd HA.out (by simp [fuseelaw13_DoverWaits.j1])
              | succ kj18 =>
                have H := HA.out
                clear HA
                simp only [fuseelaw13_DoverWaits.j1] at H
                by_cases c54 : x74_18 = true
                · subst c54
                  have H1 : (some false) = some r := by rw [if_pos rfl] at H; exact H
                  clear H
                  have H := H1
                  clear H1
                  obtain rfl := Option.some.inj H
                  go_wp2
                  go_ret
                  exact ⟨by first | rfl | (simp [errW_none, errW_some] <;> rfl) | (simp [*, errW_none, errW_some] <;> rfl), by repeat (first | (with_reducible first | exact HB.out | apply below_alloc | apply pw_below_drewN | apply below_drew1 | refine below_set ?_ GE194.out | refine below_set ?_ GE195.out) | exact HB.out)⟩
                · replace c54 := Bool.eq_false_iff.mpr c54
                  subst c54
                  have H1 : (if 0 ≤ a2 then (if a2 ≤ (l0.length : Int) then ((some (l0.take (a2 : Int).toNat : List (S29))).bind fun y205 => (if ([] : List (S29)).length + y205.length < 3518437208883 then ((some (([] : List (S29)) ++ y205 : List (S29))).bind fun y209 => (if 0 ≤ (wrap64 (a2 + 1)) then (if (wrap64 (a2 + 1)) ≤ (l0.length : Int) then ((some (l0.drop ((wrap64 (a2 + 1)) : Int).toNat : List (S29))).bind fun y212 => (if y209.length + y212.length < 3518437208883 then (if ([] : List (S29)).length + l0.length < 3518437208883 then ((some (([] : List (S29)) ++ l0 : List (S29))).bind fun y219 => (if a2 < (y219.length : Int) then ((dover_Fits.f kj18 l0 a1).bind fun t223 => (if t223 = true then ((dover_Fits.f kj18 (y209 ++ y212) a1).bind fun t224 => (if t224 = true then ((dover_Fits.f kj18 (y219.set (a2 : Int).toNat (⟨((rd_T29 l0 a2).f0), ((rd_T29 l0 a2).f1), ((rd_T29 l0 a2).f2), ((rd_T29 l0 a2).f3), (wrap64 (((rd_T29 l0 a2).f4) + 1))⟩ : S29)) a1).bind fun t225 => (some t225)) else (some false))) else (some true))) else (none))) else (none)) else (none))) else (none)) else (none))) else (none))) else (none)) else (none)) = some r := by rw [if_neg (show ¬ (false = true) by decide)] at H; exact H
                  clear H
                  have H := H1
                  clear H1
                  by_cases c55 : 0 ≤ a2
                  · rw [if_pos c55] at H
                    have c55b0 := eq_true c55
                    have c55b1 : decide (0 ≤ a2) = true := decide_eq_true c55
                    clear c55
                    by_cases c56 : a2 ≤ (l0.length : Int)
                    · rw [if_pos c56] at H
                      have c56b0 := eq_true c56
                      have c56b1 : decide (a2 ≤ (l0.length : Int)) = true := decide_eq_true c56
                      clear c56
                      obtain ⟨y205, hy205⟩ : ∃ y_ : List (S29), y_ = (l0.take (a2 : Int).toNat) := ⟨_, rfl⟩
                      replace H : (if ([] : List (S29)).length + y205.length < 3518437208883 then ((some (([] : List (S29)) ++ y205 : List (S29))).bind fun y209 => (if 0 ≤ (wrap64 (a2 + 1)) then (if (wrap64 (a2 + 1)) ≤ (l0.length : Int) then ((some (l0.drop ((wrap64 (a2 + 1)) : Int).toNat : List (S29))).bind fun y212 => (if y209.length + y212.length < 3518437208883 then (if ([] : List (S29)).length + l0.length < 3518437208883 then ((some (([] : List (S29)) ++ l0 : List (S29))).bind fun y219 => (if a2 < (y219.length : Int) then ((dover_Fits.f kj18 l0 a1).bind fun t223 => (if t223 = true then ((dover_Fits.f kj18 (y209 ++ y212) a1).bind fun t224 => (if t224 = true then ((dover_Fits.f kj18 (y219.set (a2 : Int).toNat (⟨((rd_T29 l0 a2).f0), ((rd_T29 l0 a2).f1), ((rd_T29 l0 a2).f2), ((rd_T29 l0 a2).f3), (wrap64 (((rd_T29 l0 a2).f4) + 1))⟩ : S29)) a1).bind fun t225 => (some t225)) else (some false))) else (some true))) else (none))) else (none)) else (none))) else (none)) else (none))) else (none)) = some r := by first | (rw [hy205]; with_reducible exact H) | (have H2_ := (Option.bind_some _ _).symm.trans H; rw [hy205]; with_reducible exact H2_) | (have H2_ := (Option.bind_some _ _).symm.trans H; with_reducible exact H2_) | with_reducible exact H | (rw [hy205]; exact H) | exact H
                      have Ny205 := Aside0.mk hy205
                      clear hy205
                      by_cases c57 : ([] : List (S29)).length + y205.length < 3518437208883
                      · rw [if_pos c57] at H
                        have LMc57 := Aside0.mk c57
                        clear c57
                        obtain ⟨y209, hy209⟩ : ∃ y_ : List (S29), y_ = (([] : List (S29)) ++ y205) := ⟨_, rfl⟩
                        replace H : (if 0 ≤ (wrap64 (a2 + 1)) then (if (wrap64 (a2 + 1)) ≤ (l0.length : Int) then ((some (l0.drop ((wrap64 (a2 + 1)) : Int).toNat : List (S29))).bind fun y212 => (if y209.length + y212.length < 3518437208883 then (if ([] : List (S29)).length + l0.length < 3518437208883 then ((some (([] : List (S29)) ++ l0 : List (S29))).bind fun y219 => (if a2 < (y219.length : Int) then ((dover_Fits.f kj18 l0 a1).bind fun t223 => (if t223 = true then ((dover_Fits.f kj18 (y209 ++ y212) a1).bind fun t224 => (if t224 = true then ((dover_Fits.f kj18 (y219.set (a2 : Int).toNat (⟨((rd_T29 l0 a2).f0), ((rd_T29 l0 a2).f1), ((rd_T29 l0 a2).f2), ((rd_T29 l0 a2).f3), (wrap64 (((rd_T29 l0 a2).f4) + 1))⟩ : S29)) a1).bind fun t225 => (some t225)) else (some false))) else (some true))) else (none))) else (none)) else (none))) else (none)) else (none)) = some r := by first | (rw [hy209]; with_reducible exact H) | (have H2_ := (Option.bind_some _ _).symm.trans H; rw [hy209]; with_reducible exact H2_) | (have H2_ := (Option.bind_some _ _).symm.trans H; with_reducible exact H2_) | with_reducible exact H | (rw [hy209]; exact H) | exact H
                        have Ny209 := Aside0.mk hy209
                        clear hy209
                        obtain ⟨ji58, hji58⟩ : ∃ j_ : Int, (wrap64 (a2 + 1)) = j_ := ⟨_, rfl⟩
                        replace H : (if 0 ≤ (ji58) then (if (ji58) ≤ (l0.length : Int) then ((some (l0.drop ((ji58) : Int).toNat : List (S29))).bind fun y212 => (if y209.length + y212.length < 3518437208883 then (if ([] : List (S29)).length + l0.length < 3518437208883 then ((some (([] : List (S29)) ++ l0 : List (S29))).bind fun y219 => (if a2 < (y219.length : Int) then ((dover_Fits.f kj18 l0 a1).bind fun t223 => (if t223 = true then ((dover_Fits.f kj18 (y209 ++ y212) a1).bind fun t224 => (if t224 = true then ((dover_Fits.f kj18 (y219.set (a2 : Int).toNat (⟨((rd_T29 l0 a2).f0), ((rd_T29 l0 a2).f1), ((rd_T29 l0 a2).f2), ((rd_T29 l0 a2).f3), (wrap64 (((rd_T29 l0 a2).f4) + 1))⟩ : S29)) a1).bind fun t225 => (some t225)) else (some false))) else (some true))) else (none))) else (none)) else (none))) else (none)) else (none)) = some r := by first | (rw [hji58] at H; exact H) | (simp only [hji58] at H ⊢; exact H)
                        have hji58w : (IntKind.i64.wrap (a2 + 1)) = ji58 := (i64_w _).trans hji58
                        by_cases c59 : 0 ≤ (ji58)
                        · rw [if_pos c59] at H
                          have c59b0 := eq_true c59
                          have c59b1 : decide (0 ≤ (ji58)) = true := decide_eq_true c59
                          clear c59
                          by_cases c60 : (ji58) ≤ (l0.length : Int)
                          · rw [if_pos c60] at H
                            have c60b0 := eq_true c60
                            have c60b1 : decide ((ji58) ≤ (l0.length : Int)) = true := decide_eq_true c60
                            clear c60
                            obtain ⟨y212, hy212⟩ : ∃ y_ : List (S29), y_ = (l0.drop ((ji58) : Int).toNat) := ⟨_, rfl⟩
                            replace H : (if y209.length + y212.length < 3518437208883 then (if ([] : List (S29)).length + l0.length < 3518437208883 then ((some (([] : List (S29)) ++ l0 : List (S29))).bind fun y219 => (if a2 < (y219.length : Int) then ((dover_Fits.f kj18 l0 a1).bind fun t223 => (if t223 = true then ((dover_Fits.f kj18 (y209 ++ y212) a1).bind fun t224 => (if t224 = true then ((dover_Fits.f kj18 (y219.set (a2 : Int).toNat (⟨((rd_T29 l0 a2).f0), ((rd_T29 l0 a2).f1), ((rd_T29 l0 a2).f2), ((rd_T29 l0 a2).f3), (wrap64 (((rd_T29 l0 a2).f4) + 1))⟩ : S29)) a1).bind fun t225 => (some t225)) else (some false))) else (some true))) else (none))) else (none)) else (none)) = some r := by first | (rw [hy212]; with_reducible exact H) | (have H2_ := (Option.bind_some _ _).symm.trans H; rw [hy212]; with_reducible exact H2_) | (have H2_ := (Option.bind_some _ _).symm.trans H; with_reducible exact H2_) | with_reducible exact H | (rw [hy212]; exact H) | exact H
                            have Ny212 := Aside0.mk hy212
                            clear hy212
                            by_cases c61 : y209.length + y212.length < 3518437208883
                            · rw [if_pos c61] at H
                              have LMc61 := Aside0.mk c61
                              clear c61
                              obtain ⟨y216, hy216⟩ : ∃ y_ : List (S29), y_ = (y209 ++ y212) := ⟨_, rfl⟩
                              replace H : (if ([] : List (S29)).length + l0.length < 3518437208883 then ((some (([] : List (S29)) ++ l0 : List (S29))).bind fun y219 => (if a2 < (y219.length : Int) then ((dover_Fits.f kj18 l0 a1).bind fun t223 => (if t223 = true then ((dover_Fits.f kj18 y216 a1).bind fun t224 => (if t224 = true then ((dover_Fits.f kj18 (y219.set (a2 : Int).toNat (⟨((rd_T29 l0 a2).f0), ((rd_T29 l0 a2).f1), ((rd_T29 l0 a2).f2), ((rd_T29 l0 a2).f3), (wrap64 (((rd_T29 l0 a2).f4) + 1))⟩ : S29)) a1).bind fun t225 => (some t225)) else (some false))) else (some true))) else (none))) else (none)) = some r := by first | (rw [hy216]; with_reducible exact H) | (have H2_ := (Option.bind_some _ _).symm.trans H; rw [hy216]; with_reducible exact H2_) | (have H2_ := (Option.bind_some _ _).symm.trans H; with_reducible exact H2_) | with_reducible exact H | (rw [hy216]; exact H) | exact H
                              have Ny216 := Aside0.mk hy216
                              clear hy216
                              by_cases c62 : ([] : List (S29)).length + l0.length < 3518437208883
                              · rw [if_pos c62] at H
                                have LMc62 := Aside0.mk c62
                                clear c62
                                obtain ⟨y219, hy219⟩ : ∃ y_ : List (S29), y_ = (([] : List (S29)) ++ l0) := ⟨_, rfl⟩
                                replace H : (if a2 < (y219.length : Int) then ((dover_Fits.f kj18 l0 a1).bind fun t223 => (if t223 = true then ((dover_Fits.f kj18 y216 a1).bind fun t224 => (if t224 = true then ((dover_Fits.f kj18 (y219.set (a2 : Int).toNat (⟨((rd_T29 l0 a2).f0), ((rd_T29 l0 a2).f1), ((rd_T29 l0 a2).f2), ((rd_T29 l0 a2).f3), (wrap64 (((rd_T29 l0 a2).f4) + 1))⟩ : S29)) a1).bind fun t225 => (some t225)) else (some false))) else (some true))) else (none)) = some r := by first | (rw [hy219]; with_reducible exact H) | (have H2_ := (Option.bind_some _ _).symm.trans H; rw [hy219]; with_reducible exact H2_) | (have H2_ := (Option.bind_some _ _).symm.trans H; with_reducible exact H2_) | with_reducible exact H | (rw [hy219]; exact H) | exact H
                                have Ny219 := Aside0.mk hy219
                                clear hy219
                                by_cases c63 : a2 < (y219.length : Int)
                                · rw [if_pos c63] at H
                                  have c63b0 : decide (a2 < (y219.length : Int)) = true := decide_eq_true c63
                                  clear c63
                                  obtain ⟨y222, hy222⟩ : ∃ y_ : List (S29), y_ = (y219.set (a2 : Int).toNat (⟨((rd_T29 l0 a2).f0), ((rd_T29 l0 a2).f1), ((rd_T29 l0 a2).f2), ((rd_T29 l0 a2).f3), (wrap64 (((rd_T29 l0 a2).f4) + 1))⟩ : S29)) := ⟨_, rfl⟩
                                  replace H : ((dover_Fits.f kj18 l0 a1).bind fun t223 => (if t223 = true then ((dover_Fits.f kj18 y216 a1).bind fun t224 => (if t224 = true then ((dover_Fits.f kj18 y222 a1).bind fun t225 => (some t225)) else (some false))) else (some true))) = some r := by first | (rw [hy222]; with_reducible exact H) | (have H2_ := (Option.bind_some _ _).symm.trans H; rw [hy222]; with_reducible exact H2_) | (have H2_ := (Option.bind_some _ _).symm.trans H; with_reducible exact H2_) | with_reducible exact H | (rw [hy222]; exact H) | exact H
                                  have Ny222 := Aside0.mk hy222
                                  clear hy222
                                  replace H := Option.bind_eq_some_iff.mp H
                                  obtain ⟨t223, A650, H⟩ := H
                                  replace H : (if t223 = true then ((dover_Fits.f kj18 y216 a1).bind fun t224 => (if t224 = true then ((dover_Fits.f kj18 y222 a1).bind fun t225 => (some t225)) else (some false))) else (some true)) = some r := H
                                  have A65 := Aside0.mk A650
                                  clear A650
                                  by_cases c66 : t223 = true
                                  · subst c66
                                    have H1 : ((dover_Fits.f kj18 y216 a1).bind fun t224 => (if t224 = true then ((dover_Fits.f kj18 y222 a1).bind fun t225 => (some t225)) else (some false))) = some r := by rw [if_pos rfl] at H; exact H
                                    clear H
                                    have H := H1
                                    clear H1
                                    replace H := Option.bind_eq_some_iff.mp H
                                    obtain ⟨t224, A670, H⟩ := H
                                    replace H : (if t224 = true then ((dover_Fits.f kj18 y222 a1).bind fun t225 => (some t225)) else (some false)) = some r := H
                                    have A67 := Aside0.mk A670
                                    clear A670
                                    by_cases c68 : t224 = true
                                    · subst c68
                                      have H1 : ((dover_Fits.f kj18 y222 a1).bind fun t225 => (some t225)) = some r := by rw [if_pos rfl] at H; exact H
                                      clear H
                                      have H := H1
                                      clear H1
                                      replace H := Option.bind_eq_some_iff.mp H
                                      obtain ⟨t225, A690, H⟩ := H
                                      replace H : (some t225) = some r := H
                                      have A69 := Aside0.mk A690
                                      clear A690
                                      obtain rfl := Option.some.inj H
                                      try go_wp2
                                      have n0_ := Aside0.mk (blk_drew BK194.out)
                                      have n1_ := Aside0.mk (blk_drew BK195.out)
                                      have n2_ := Aside0.mk (below_drew1 HB.out)
                                      clear BK194
                                      clear BK195
                                      clear HB
                                      have BK194 := n0_
                                      have BK195 := n1_
                                      have HB := n2_
                                      clear n0_ n1_ n2_
                                      have q71 : (a2 : Int) ≤ ((l0.length : Int) : Int) := of_decide_eq_true (by first | (with_reducible assumption) | assumption)
                                      obtain ⟨i071, hi071, _, hsz71, _⟩ := info_parts info29
                                      have hroom71 : l0.length ≤ c0 := HC0.out
                                      have hC71 : Kd.C k29 _ (some ad193) l0.length l0 := HR0.out
                                      have hcut71 := cut_to (P := Try.prog) 22 29 .i64 Try.underlying22 hi071 (some ad193) l0.length c0 a2 (of_decide_eq_true (by first | (with_reducible assumption) | assumption)) q71 hroom71
                                      have hr71 := Kd.C_take (m := (a2 : Int).toNat) hC71 (by omega)
                                      have hy71 : y205.length = (a2 : Int).toNat := (by rw [Ny205.out, List.length_take]; omega)
                                      rw [← Ny205.out] at hr71
                                      rw [← hy71] at hcut71
                                      have HR208 := Aside0.mk hr71
                                      have HC208 := Aside0.mk (show y205.length ≤ c0 from by omega)
                                      clear hr71 hC71 hroom71 hi071 hsz71
                                      have KY71 := Aside0.mk hy71
                                      clear hy71
                                      replace q71 := eq_true q71
                                      have q72 : ((ji58) : Int) ≤ ((l0.length : Int) : Int) := of_decide_eq_true (by first | (with_reducible assumption) | assumption)
                                      obtain ⟨i072, hi072, _, hsz72, _⟩ := info_parts info29
                                      have hroom72 : l0.length ≤ c0 := HC0.out
                                      have hC72 : Kd.C k29 _ (some ad193) l0.length l0 := HR0.out
                                      have q072 : (0 : Int) ≤ ((ji58) : Int) := of_decide_eq_true (by first | (with_reducible assumption) | assumption)
                                      have hcut72 := cut_from (P := Try.prog) 22 29 .i64 Try.underlying22 hi072 5 hsz72 (some ad193) l0.length c0 (ji58) q072 q72
                                      have hr72 := Kd.C_drop (m := ((ji58) : Int).toNat) (c := c0) hC72 (by omega) hroom72
                                      obtain ⟨A72, hA72⟩ : ∃ A1, A1 = (if c0 = ((ji58) : Int).toNat then (some ad193) else ((some ad193) : Option Addr).map (·.add (((ji58) : Int).toNat * 5))) := ⟨_, rfl⟩
                                      obtain ⟨c72, hc72⟩ : ∃ c1, c1 = c0 - ((ji58) : Int).toNat := ⟨_, rfl⟩
                                      have hy72 : y212.length = l0.length - ((ji58) : Int).toNat := (by rw [Ny212.out, List.length_drop] <;> omega)
                                      rw [show (l0).drop ((ji58) : Int).toNat = y212 from Ny212.out.symm] at hr72
                                      replace hr72 : Kd.C k29 _ A72 y212.length y212 := (by rw [hA72]; exact hr72)
                                      rw [← hy72, ← hA72, ← hc72] at hcut72
                                      have HR215 := Aside0.mk hr72
                                      have HC215 := Aside0.mk (show y212.length ≤ c72 from by rw [hy72, hc72]; exact Nat.sub_le_sub_right hroom72 _)
                                      clear hr72 hC72 hroom72 hi072 hsz72 hc72
                                      have KY72 := Aside0.mk hy72
                                      have KA72 := Aside0.mk hA72
                                      clear hy72 hA72
                                      replace q72 := eq_true q72
                                      refine start_ (n := 10) (S := fun w' => True) (ds := []) #[false, false, false, false, false, false, false, false, false, false] (by kernel_rfl) rfl rfl trivial (fun hHeld => ?_); refine with_tabW fuseelaw13_DoverWaits.tab9 fuseelaw13_DoverWaits.bits9 (fun HT_ HW_ => ?_)
                                      generalize wc.drew = w70 at BK194 BK195 HB HR208 HR215 hHeld ⊢
                                      refine pure_ (i := 0) (N := some 75) (v := ?_) (a' := ?_) #[true, false, false, false, false, false, false, false, false, false] rfl rfl (any_of HT_.out (by kernel_rfl)) (fun _ _ _ h => h) (Or.inl ⟨by rfl, ?_⟩) ?_ ?_
                                      rotate_left
                                      · intro w'
                                        go_simp
                                        with_reducible rfl
                                      rotate_left
                                      · simp only [Act.put, List.setIfInBounds_toArray, List.set_cons_zero, List.set_cons_succ, i64_w, i32_w]
                                        rfl
                                      refine pure_ (i := 1) (N := some 76) (v := ?_) (a' := ?_) #[true, true, false, false, false, false, false, false, false, false] rfl rfl (any_of HT_.out (by kernel_rfl)) (fun _ _ _ h => h) (Or.inl ⟨by rfl, ?_⟩) ?_ ?_
                                      rotate_left
                                      · intro w'
                                        go_simp
                                        with_reducible rfl
                                      rotate_left
                                      · simp only [Act.put, List.setIfInBounds_toArray, List.set_cons_zero, List.set_cons_succ, i64_w, i32_w]
                                        rfl
                                      refine pure_ (i := 2) (N := some 77) (v := ?_) (a' := ?_) #[true, true, true, false, false, false, false, false, false, false] rfl rfl (any_of HT_.out (by kernel_rfl)) (fun _ _ _ h => h) (Or.inl ⟨by rfl, ?_⟩) ?_ ?_
                                      rotate_left
                                      · intro w'
                                        go_simp
                                        with_reducible rfl
                                      rotate_left
                                      · simp only [Act.put, List.setIfInBounds_toArray, List.set_cons_zero, List.set_cons_succ, i64_w, i32_w]
                                        rfl
                                      refine pure_ (i := 4) (N := some 79) (v := ?_) (a' := ?_) #[true, true, true, false, true, false, false, false, false, false] rfl rfl (any_of HT_.out (by kernel_rfl)) (fun _ _ _ h => h) (Or.inl ⟨by rfl, ?_⟩) ?_ ?_
                                      rotate_left
                                      · intro w'
                                        go_simp
                                        with_reducible rfl
                                      rotate_left
                                      · simp only [Act.put, List.setIfInBounds_toArray, List.set_cons_zero, List.set_cons_succ, i64_w, i32_w]
                                        rfl
                                      refine pure_ (i := 5) (N := some 80) (v := ?_) (a' := ?_) #[true, true, true, false, true, true, false, false, false, false] rfl rfl (any_of HT_.out (by kernel_rfl)) (fun _ _ _ h => h) (Or.inl ⟨by rfl, ?_⟩) ?_ ?_
                                      rotate_left
                                      · intro w'
                                        go_simp
                                        with_reducible rfl
                                      rotate_left
                                      · simp only [Act.put, List.setIfInBounds_toArray, List.set_cons_zero, List.set_cons_succ, i64_w, i32_w]
                                        rfl
                                      refine pure_ (i := 6) (N := some 81) (v := ?_) (a' := ?_) #[true, true, true, false, true, true, true, false, false, false] rfl rfl (any_of HT_.out (by kernel_rfl)) (fun _ _ _ h => h) (Or.inl ⟨by rfl, ?_⟩) ?_ ?_
                                      rotate_left
                                      · intro w'
                                        go_simp
                                        with_reducible rfl
                                      rotate_left
                                      · simp only [Act.put, List.setIfInBounds_toArray, List.set_cons_zero, List.set_cons_succ, i64_w, i32_w]
                                        rfl
                                      refine pure_ (i := 7) (N := some 82) (v := ?_) (a' := ?_) #[true, true, true, false, true, true, true, true, false, false] rfl rfl (any_of HT_.out (by kernel_rfl)) (fun _ _ _ h => h) (Or.inl ⟨by rfl, ?_⟩) ?_ ?_
                                      rotate_left
                                      · intro w'
                                        go_simp
                                        with_reducible rfl
                                      rotate_left
                                      · simp only [Act.put, List.setIfInBounds_toArray, List.set_cons_zero, List.set_cons_succ, i64_w, i32_w]
                                        rfl
                                      refine one_ (i := 3) (N := some 78) #[true, true, true, true, true, true, true, true, false, false] rfl rfl (one_of HT_.out (by kernel_rfl)) (by decide) (fun K hK => ?_)
                                      refine Kd.R_append_rows_step k29 (w0 := w) w.heap.size (by rfl) (.const (.slice none 0 0)) (.tmp 77) 22 29 (.agg #[(.int .i64 0), (.int .i64 0), (.int .i64 0), (.int .i64 0), (.int .i64 0)]) 40 rfl Try.underlying22 info29 rfl (by decide) (by omega) (.slice none 0 0) ([] : List (S29)) y205 _ _ _ (fun k_ => k_ ≠ gb194 ∧ k_ ≠ gb195) (fun _ => False) rfl rfl ?aO ?aR (fun _ _ h => h) (fun _ h => h.elim) ?aF ?aB ?aS ?aL ?_
                                      (case aR => repeat (first | exact (Kd.C_below HR208.out HB.out) | (with_reducible refine Kd.C_alloc ?_ _) | (with_reducible refine Kd.C_drewN ?_ _) | (with_reducible refine Kd.C_drew ?_)))
                                      (case aB => exact (by repeat (first | (with_reducible first | exact HB.out | apply below_alloc | apply pw_below_drewN | apply below_drew1 | refine below_set ?_ GE194.out | refine below_set ?_ GE195.out) | exact HB.out)))
                                      (case aF => exact (fun k_ hk => ⟨Kd.freshB (g := gb194) (o := .cells #[.int .i64 ((rd_T29 l0 a2).f0), .int .i64 ((rd_T29 l0 a2).f1), .int .i64 ((rd_T29 l0 a2).f2), .int .i64 ((rd_T29 l0 a2).f3), .int .i64 ((rd_T29 l0 a2).f4)] 29 (0, 0)) (by (with_reducible repeat (first | refine blk_drewN ?_ _ | refine blk_drew ?_ | refine blk_alloc ?_ _)); exact BK194.out) k_ hk, Kd.freshB (g := gb195) (o := .cells #[.int .i64 ((rd_T29 l0 a2).f0), .int .i64 ((rd_T29 l0 a2).f1), .int .i64 ((rd_T29 l0 a2).f2), .int .i64 ((rd_T29 l0 a2).f3), .int .i64 (wrap64 (((rd_T29 l0 a2).f4) + 1))] 29 (0, 0)) (by (with_reducible repeat (first | refine blk_drewN ?_ _ | refine blk_drew ?_ | refine blk_alloc ?_ _)); exact BK195.out) k_ hk⟩))
                                      (case aO => exact ((Kd.R_nil _ _ _ _ (fun k_ => k_ ≠ gb194 ∧ k_ ≠ gb195))))
                                      (case aS => exact (below_size (by repeat (first | (with_reducible first | exact HB.out | apply below_alloc | apply pw_below_drewN | apply below_drew1 | refine below_set ?_ GE194.out | refine below_set ?_ GE195.out) | exact HB.out))))
                                      (case aL => have := LMc57.out; omega)
                                      intro v210 w73 ho hb hg hat
                                      rw [← Ny209.out] at ho
                                      have n0_ := Aside0.mk (blk_grown (g := gb194) (o := .cells #[.int .i64 ((rd_T29 l0 a2).f0), .int .i64 ((rd_T29 l0 a2).f1), .int .i64 ((rd_T29 l0 a2).f2), .int .i64 ((rd_T29 l0 a2).f3), .int .i64 ((rd_T29 l0 a2).f4)] 29 (0, 0)) (by (with_reducible repeat (first | refine blk_drewN ?_ _ | refine blk_drew ?_ | refine blk_alloc ?_ _)); exact BK194.out) hg (by simp [Value.ownBlock]))
                                      have n1_ := Aside0.mk (blk_grown (g := gb195) (o := .cells #[.int .i64 ((rd_T29 l0 a2).f0), .int .i64 ((rd_T29 l0 a2).f1), .int .i64 ((rd_T29 l0 a2).f2), .int .i64 ((rd_T29 l0 a2).f3), .int .i64 (wrap64 (((rd_T29 l0 a2).f4) + 1))] 29 (0, 0)) (by (with_reducible repeat (first | refine blk_drewN ?_ _ | refine blk_drew ?_ | refine blk_alloc ?_ _)); exact BK195.out) hg (by simp [Value.ownBlock]))
                                      have n2_ := Aside0.mk (hb)
                                      have n3_ := Aside0.mk (ho)
                                      clear BK194
                                      clear BK195
                                      clear HB
                                      have BK194 := n0_
                                      have BK195 := n1_
                                      have HB := n2_
                                      have HO211 := n3_
                                      clear n0_ n1_ n2_ n3_
                                      clear ho hb hg hat
                                      refine hK.out _ _ trivial (fun hHeld => ?_)
                                      clear hK K
                                      refine norm_ (a' := ?_) ?_ ?_
                                      rotate_left
                                      · show Act.put _ (some 78) _ = _
                                        simp only [Act.put, List.setIfInBounds_toArray, List.set_cons_zero, List.set_cons_succ, i64_w, i32_w]
                                        rfl
                                      refine one_ (i := 8) (N := some 83) #[true, true, true, true, true, true, true, true, true, false] rfl rfl (one_of HT_.out (by kernel_rfl)) (by decide) (fun K hK => ?_)
                                      refine Kd.R_append_rows_step k29 (w0 := w) w.heap.size (by rfl) (.tmp 78) (.tmp 82) 22 29 (.agg #[(.int .i64 0), (.int .i64 0), (.int .i64 0), (.int .i64 0), (.int .i64 0)]) 40 rfl Try.underlying22 info29 rfl (by decide) (by omega) v210 y209 y212 _ _ _ (fun k_ => k_ ≠ gb194 ∧ k_ ≠ gb195) (fun _ => False) rfl rfl ?aO ?aR (fun _ _ h => h) (fun _ h => h.elim) ?aF ?aB ?aS ?aL ?_
                                      (case aR => repeat (first | exact (Kd.C_below HR215.out HB.out) | (with_reducible refine Kd.C_alloc ?_ _) | (with_reducible refine Kd.C_drewN ?_ _) | (with_reducible refine Kd.C_drew ?_)))
                                      (case aB => exact (by repeat (first | (with_reducible first | exact HB.out | apply below_alloc | apply pw_below_drewN | apply below_drew1 | refine below_set ?_ GE194.out | refine below_set ?_ GE195.out) | exact HB.out)))
                                      (case aF => exact (fun k_ hk => ⟨Kd.freshB (g := gb194) (o := .cells #[.int .i64 ((rd_T29 l0 a2).f0), .int .i64 ((rd_T29 l0 a2).f1), .int .i64 ((rd_T29 l0 a2).f2), .int .i64 ((rd_T29 l0 a2).f3), .int .i64 ((rd_T29 l0 a2).f4)] 29 (0, 0)) (by (with_reducible repeat (first | refine blk_drewN ?_ _ | refine blk_drew ?_ | refine blk_alloc ?_ _)); exact BK194.out) k_ hk, Kd.freshB (g := gb195) (o := .cells #[.int .i64 ((rd_T29 l0 a2).f0), .int .i64 ((rd_T29 l0 a2).f1), .int .i64 ((rd_T29 l0 a2).f2), .int .i64 ((rd_T29 l0 a2).f3), .int .i64 (wrap64 (((rd_T29 l0 a2).f4) + 1))] 29 (0, 0)) (by (with_reducible repeat (first | refine blk_drewN ?_ _ | refine blk_drew ?_ | refine blk_alloc ?_ _)); exact BK195.out) k_ hk⟩))
                                      (case aO => exact (by (with_reducible repeat (first | apply Kd.R_alloc | apply Kd.R_drewN | apply Kd.R_drew)); exact HO211.out))
                                      (case aS => exact (below_size (by repeat (first | (with_reducible first | exact HB.out | apply below_alloc | apply pw_below_drewN | apply below_drew1 | refine below_set ?_ GE194.out | refine below_set ?_ GE195.out) | exact HB.out))))
                                      (case aL => have := LMc61.out; omega)
                                      intro v217 w74 ho hb hg hat
                                      rw [← Ny216.out] at ho
                                      have n0_ := Aside0.mk (blk_grown (g := gb194) (o := .cells #[.int .i64 ((rd_T29 l0 a2).f0), .int .i64 ((rd_T29 l0 a2).f1), .int .i64 ((rd_T29 l0 a2).f2), .int .i64 ((rd_T29 l0 a2).f3), .int .i64 ((rd_T29 l0 a2).f4)] 29 (0, 0)) (by (with_reducible repeat (first | refine blk_drewN ?_ _ | refine blk_drew ?_ | refine blk_alloc ?_ _)); exact BK194.out) hg (Kd.R_away HO211.out (fun _ hk => hk.1)))
                                      have n1_ := Aside0.mk (blk_grown (g := gb195) (o := .cells #[.int .i64 ((rd_T29 l0 a2).f0), .int .i64 ((rd_T29 l0 a2).f1), .int .i64 ((rd_T29 l0 a2).f2), .int .i64 ((rd_T29 l0 a2).f3), .int .i64 (wrap64 (((rd_T29 l0 a2).f4) + 1))] 29 (0, 0)) (by (with_reducible repeat (first | refine blk_drewN ?_ _ | refine blk_drew ?_ | refine blk_alloc ?_ _)); exact BK195.out) hg (Kd.R_away HO211.out (fun _ hk => hk.2)))
                                      have n2_ := Aside0.mk (hb)
                                      have n3_ := Aside0.mk (ho)
                                      clear BK194
                                      clear BK195
                                      clear HB
                                      clear HO211
                                      have BK194 := n0_
                                      have BK195 := n1_
                                      have HB := n2_
                                      have HO218 := n3_
                                      clear n0_ n1_ n2_ n3_
                                      clear ho hb hg hat
                                      refine hK.out _ _ trivial (fun hHeld => ?_)
                                      clear hK K
                                      refine norm_ (a' := ?_) ?_ ?_
                                      rotate_left
                                      · show Act.put _ (some 83) _ = _
                                        simp only [Act.put, List.setIfInBounds_toArray, List.set_cons_zero, List.set_cons_succ, i64_w, i32_w]
                                        rfl
                                      refine pure_ (i := 9) (N := some 10) (v := ?_) (a' := ?_) #[true, true, true, true, true, true, true, true, true, true] rfl rfl (any_of HT_.out (by kernel_rfl)) (fun _ _ _ h => h) (Or.inl ⟨by rfl, ?_⟩) ?_ ?_
                                      rotate_left
                                      · intro w'
                                        go_simp
                                        with_reducible rfl
                                      rotate_left
                                      · simp only [Act.put, List.setIfInBounds_toArray, List.set_cons_zero, List.set_cons_succ, i64_w, i32_w]
                                        rfl
                                      refine done_ (done_of HT_.out (by kernel_rfl)) ?_
                                      try go_wp2_with (first | ((with_reducible refine gate_builtin (b := .append) (xs := #[.const (.slice none 0 0), .tmp 84]) rfl ?_); (try (refine gate_guard (by rfl) ?_; dsimp only)); at_builtin; refine Kd.R_append_rows k29 (w0 := w) w.heap.size rfl (.const (.slice none 0 0)) (.tmp 84) 22 29 (.agg #[(.int .i64 0), (.int .i64 0), (.int .i64 0), (.int .i64 0), (.int .i64 0)]) 40 rfl Try.underlying22 info29 rfl (by decide) (by omega) (.slice none 0 0) ([] : List (S29)) l0 _ _ _ (fun k_ => some k_ ≠ (v217 : Value).ownBlock ∧ k_ ≠ gb194 ∧ k_ ≠ gb195) (fun _ => False) rfl rfl ?aO ?aR (fun _ _ h => h) (fun _ h => h.elim) ?aF ?aB ?aS ?aL ?_; (case aR => repeat (first | exact (Kd.C_below HR0.out HB.out) | (with_reducible refine Kd.C_alloc ?_ _) | (with_reducible refine Kd.C_drewN ?_ _) | (with_reducible refine Kd.C_drew ?_))); (case aB => exact (by repeat (first | (with_reducible first | exact HB.out | apply below_alloc | apply pw_below_drewN | apply below_drew1 | refine below_set ?_ GE194.out | refine below_set ?_ GE195.out) | exact HB.out))); (case aF => exact (fun k_ hk => ⟨Kd.fresh' (Kd.R_lt (by (with_reducible repeat (first | apply Kd.R_alloc | apply Kd.R_drewN | apply Kd.R_drew)); exact HO218.out)) k_ hk, Kd.freshB (g := gb194) (o := .cells #[.int .i64 ((rd_T29 l0 a2).f0), .int .i64 ((rd_T29 l0 a2).f1), .int .i64 ((rd_T29 l0 a2).f2), .int .i64 ((rd_T29 l0 a2).f3), .int .i64 ((rd_T29 l0 a2).f4)] 29 (0, 0)) (by (with_reducible repeat (first | refine blk_drewN ?_ _ | refine blk_drew ?_ | refine blk_alloc ?_ _)); exact BK194.out) k_ hk, Kd.freshB (g := gb195) (o := .cells #[.int .i64 ((rd_T29 l0 a2).f0), .int .i64 ((rd_T29 l0 a2).f1), .int .i64 ((rd_T29 l0 a2).f2), .int .i64 ((rd_T29 l0 a2).f3), .int .i64 (wrap64 (((rd_T29 l0 a2).f4) + 1))] 29 (0, 0)) (by (with_reducible repeat (first | refine blk_drewN ?_ _ | refine blk_drew ?_ | refine blk_alloc ?_ _)); exact BK195.out) k_ hk⟩)); (case aO => exact ((Kd.R_nil _ _ _ _ (fun k_ => some k_ ≠ (v217 : Value).ownBlock ∧ k_ ≠ gb194 ∧ k_ ≠ gb195)))); (case aS => exact (below_size (by repeat (first | (with_reducible first | exact HB.out | apply below_alloc | apply pw_below_drewN | apply below_drew1 | refine below_set ?_ GE194.out | refine below_set ?_ GE195.out) | exact HB.out)))); (case aL => have := LMc62.out; omega); intro v220 w75 ho hb hg hat; rw [← Ny219.out] at ho; have n0_ := Aside0.mk (blk_grown (g := gb194) (o := .cells #[.int .i64 ((rd_T29 l0 a2).f0), .int .i64 ((rd_T29 l0 a2).f1), .int .i64 ((rd_T29 l0 a2).f2), .int .i64 ((rd_T29 l0 a2).f3), .int .i64 ((rd_T29 l0 a2).f4)] 29 (0, 0)) (by (with_reducible repeat (first | refine blk_drewN ?_ _ | refine blk_drew ?_ | refine blk_alloc ?_ _)); exact BK194.out) hg (by simp [Value.ownBlock])); have n1_ := Aside0.mk (blk_grown (g := gb195) (o := .cells #[.int .i64 ((rd_T29 l0 a2).f0), .int .i64 ((rd_T29 l0 a2).f1), .int .i64 ((rd_T29 l0 a2).f2), .int .i64 ((rd_T29 l0 a2).f3), .int .i64 (wrap64 (((rd_T29 l0 a2).f4) + 1))] 29 (0, 0)) (by (with_reducible repeat (first | refine blk_drewN ?_ _ | refine blk_drew ?_ | refine blk_alloc ?_ _)); exact BK195.out) hg (by simp [Value.ownBlock])); have n2_ := Aside0.mk (Kd.R_after (Kd.R_apart_nil (by (with_reducible repeat (first | apply Kd.R_alloc | apply Kd.R_drewN | apply Kd.R_drew)); exact HO218.out)) hg hat); have n3_ := Aside0.mk (hb); have n4_ := Aside0.mk (ho); clear BK194; clear BK195; clear HO218; clear HB; have BK194 := n0_; have BK195 := n1_; have HO218 := n2_; have HB := n3_; have HO221 := n4_; clear n0_ n1_ n2_ n3_ n4_; clear ho hb hg hat; have hnb76 := NB195_194.out; have hnc76 := NB194_195.out; have hcz77_0 : w75.cell? ⟨gb195, 0, none⟩ = some (.int .i64 ((rd_T29 l0 a2).f0)) := (blk_cell BK195.out 0).trans rfl; have hcz77_1 : w75.cell? ⟨gb195, 1, none⟩ = some (.int .i64 ((rd_T29 l0 a2).f1)) := (blk_cell BK195.out 1).trans rfl; have hcz77_2 : w75.cell? ⟨gb195, 2, none⟩ = some (.int .i64 ((rd_T29 l0 a2).f2)) := (blk_cell BK195.out 2).trans rfl; have hcz77_3 : w75.cell? ⟨gb195, 3, none⟩ = some (.int .i64 ((rd_T29 l0 a2).f3)) := (blk_cell BK195.out 3).trans rfl; have hcz77_4 : w75.cell? ⟨gb195, 4, none⟩ = some (.int .i64 (wrap64 (((rd_T29 l0 a2).f4) + 1))) := (blk_cell BK195.out 4).trans rfl; have hfz77_0 := blk_frozen BK195.out 0; have hfz77_1 := blk_frozen BK195.out 1; have hfz77_2 := blk_frozen BK195.out 2; have hfz77_3 := blk_frozen BK195.out 3; have hfz77_4 := blk_frozen BK195.out 4; have p64 : 0 ≤ (a2 : Int) := of_decide_eq_true (by first | (with_reducible assumption) | assumption); have q64 : (a2 : Int) < ((y219.length : Int) : Int) := of_decide_eq_true (by first | (with_reducible assumption) | assumption); obtain ⟨go64, co64, eo64, gb64, gl64, cl64, HG64⟩ := Kd.R_form HO221.out (by omega); (first | cases eo64 | (injection eo64 with ea_ en_ ec_; (first | subst ea_ | (injection ea_ with ea_; subst ea_)); subst ec_; clear en_)); have GB64 := Aside0.mk gb64; have GG64 := Aside0.mk HG64; clear gb64 gl64 HG64; obtain ⟨ce64, hcl64, hM64, hcc64, hfr64⟩ := Kd.R_elem HO221.out z29 (a2 : Int) p64 q64; obtain rfl := k29_openM hM64; have hx64_0 : w75.cell? ⟨go64, (a2 : Int).toNat * 5, none⟩ = some (.int .i64 ((rd_T29 y219 a2).f0)) := hcc64 0 _ rfl; have hx64_1 : w75.cell? ⟨go64, (a2 : Int).toNat * 5 + 1, none⟩ = some (.int .i64 ((rd_T29 y219 a2).f1)) := hcc64 1 _ rfl; have hx64_2 : w75.cell? ⟨go64, (a2 : Int).toNat * 5 + 2, none⟩ = some (.int .i64 ((rd_T29 y219 a2).f2)) := hcc64 2 _ rfl; have hx64_3 : w75.cell? ⟨go64, (a2 : Int).toNat * 5 + 3, none⟩ = some (.int .i64 ((rd_T29 y219 a2).f3)) := hcc64 3 _ rfl; have hx64_4 : w75.cell? ⟨go64, (a2 : Int).toNat * 5 + 4, none⟩ = some (.int .i64 ((rd_T29 y219 a2).f4)) := hcc64 4 _ rfl; have hf64_0 : w75.frozen? ⟨go64, (a2 : Int).toNat * 5, none⟩ = false := hfr64 0; have hf64_1 : w75.frozen? ⟨go64, (a2 : Int).toNat * 5 + 1, none⟩ = false := hfr64 1; have hf64_2 : w75.frozen? ⟨go64, (a2 : Int).toNat * 5 + 2, none⟩ = false := hfr64 2; have hf64_3 : w75.frozen? ⟨go64, (a2 : Int).toNat * 5 + 3, none⟩ = false := hfr64 3; have hf64_4 : w75.frozen? ⟨go64, (a2 : Int).toNat * 5 + 4, none⟩ = false := hfr64 4; clear hcl64 hcc64 hfr64 hM64; replace p64 := eq_true p64; replace q64 := eq_true q64; have HX78 := Aside0.mk (show Kd.R k29 29 w75 w.heap.size (fun k_ => some k_ ≠ (v217 : Value).ownBlock ∧ k_ ≠ gb194 ∧ k_ ≠ gb195) (.slice (some ⟨go64, 0, none⟩) y219.length co64) y219 from (by (with_reducible repeat (first | apply Kd.R_alloc | apply Kd.R_drewN | apply Kd.R_drew)); exact HO221.out)); obtain ⟨ce78, hcl78, hM78, hcc78, hfr78⟩ := Kd.R_elem HX78.out z29 (a2 : Int) (of_decide_eq_true (by first | (with_reducible assumption) | assumption)) (by have h_ : (a2 : Int) < ((y219.length : Int) : Int) := of_decide_eq_true (by first | (with_reducible assumption) | assumption); first | exact h_ | (have e_ := (Kd.R_reads' HO221.out).1; omega) | simpa using h_); obtain rfl := k29_openM hM78; have HP78 := Kd.R_seg HX78.out (a2 : Int) (of_decide_eq_true (by first | (with_reducible assumption) | assumption)) (by have h_ : (a2 : Int) < ((y219.length : Int) : Int) := of_decide_eq_true (by first | (with_reducible assumption) | assumption); first | exact h_ | (have e_ := (Kd.R_reads' HO221.out).1; omega) | simpa using h_) (seg := [.int .i64 ((rd_T29 l0 a2).f0), .int .i64 ((rd_T29 l0 a2).f1), .int .i64 ((rd_T29 l0 a2).f2), .int .i64 ((rd_T29 l0 a2).f3), .int .i64 (wrap64 (((rd_T29 l0 a2).f4) + 1))]) (j := 0) hcl78 hcc78 (show 5 ≤ 5 from by decide) (x' := (⟨((rd_T29 l0 a2).f0), ((rd_T29 l0 a2).f1), ((rd_T29 l0 a2).f2), ((rd_T29 l0 a2).f3), (wrap64 (((rd_T29 l0 a2).f4) + 1))⟩ : S29)) (k29_mkM _ _ _ (⟨((rd_T29 l0 a2).f0), ((rd_T29 l0 a2).f1), ((rd_T29 l0 a2).f2), ((rd_T29 l0 a2).f3), (wrap64 (((rd_T29 l0 a2).f4) + 1))⟩ : S29) ) (fun _ hk => hk); have hx78_0 := hcc78 0 _ rfl; (try simp only [show (k29).sz = 5 from rfl, Nat.mul_one, Nat.add_zero] at hx78_0); have hf78_0 := hfr78 0; (try simp only [show (k29).sz = 5 from rfl, Nat.mul_one, Nat.add_zero] at hf78_0); have hx78_1 := hcc78 1 _ rfl; (try simp only [show (k29).sz = 5 from rfl, Nat.mul_one, Nat.add_zero] at hx78_1); have hf78_1 := hfr78 1; (try simp only [show (k29).sz = 5 from rfl, Nat.mul_one, Nat.add_zero] at hf78_1); have hx78_2 := hcc78 2 _ rfl; (try simp only [show (k29).sz = 5 from rfl, Nat.mul_one, Nat.add_zero] at hx78_2); have hf78_2 := hfr78 2; (try simp only [show (k29).sz = 5 from rfl, Nat.mul_one, Nat.add_zero] at hf78_2); have hx78_3 := hcc78 3 _ rfl; (try simp only [show (k29).sz = 5 from rfl, Nat.mul_one, Nat.add_zero] at hx78_3); have hf78_3 := hfr78 3; (try simp only [show (k29).sz = 5 from rfl, Nat.mul_one, Nat.add_zero] at hf78_3); have hx78_4 := hcc78 4 _ rfl; (try simp only [show (k29).sz = 5 from rfl, Nat.mul_one, Nat.add_zero] at hx78_4); have hf78_4 := hfr78 4; (try simp only [show (k29).sz = 5 from rfl, Nat.mul_one, Nat.add_zero] at hf78_4); clear hcl78 hcc78 hfr78 hM78) | ((with_reducible refine gate_store (t := 29) (p := 89) rfl ?_); refine store_event (t := 29) (p := 89) (v := ?vo_w79) (w1 := (((((w75.setCell ⟨go64, (a2 : Int).toNat * 5, none⟩ (.int .i64 ((rd_T29 l0 a2).f0))).setCell ⟨go64, (a2 : Int).toNat * 5 + 1, none⟩ (.int .i64 ((rd_T29 l0 a2).f1))).setCell ⟨go64, (a2 : Int).toNat * 5 + 2, none⟩ (.int .i64 ((rd_T29 l0 a2).f2))).setCell ⟨go64, (a2 : Int).toNat * 5 + 3, none⟩ (.int .i64 ((rd_T29 l0 a2).f3))).setCell ⟨go64, (a2 : Int).toNat * 5 + 4, none⟩ (.int .i64 (wrap64 (((rd_T29 l0 a2).f4) + 1))))) ?hg ?ho ?hn ?hr ?_; (case ho => rfl); (case hg => rfl); (case hn => rfl); (case hr => first | (go_simp; done) | (go_simp; rfl)); intro w79 hw; have hg : w75.grownBy w79 (some go64) := (by rw [hw]; exact HP78.2); have hp_ : Kd.R k29 29 w79 w.heap.size (fun k_ => some k_ ≠ (v217 : Value).ownBlock ∧ k_ ≠ gb194 ∧ k_ ≠ gb195) (.slice (some ⟨go64, 0, none⟩) y219.length co64) y222 := (by rw [hw, Ny222.out]; exact HP78.1); clear HP78; have n0_ := Aside0.mk (blk_grown (g := gb194) (o := .cells #[.int .i64 ((rd_T29 l0 a2).f0), .int .i64 ((rd_T29 l0 a2).f1), .int .i64 ((rd_T29 l0 a2).f2), .int .i64 ((rd_T29 l0 a2).f3), .int .i64 ((rd_T29 l0 a2).f4)] 29 (0, 0)) (by (with_reducible repeat (first | refine blk_drewN ?_ _ | refine blk_drew ?_ | refine blk_alloc ?_ _)); exact BK194.out) hg (Kd.R_away HO221.out (fun _ hk => hk.2.1))); have n1_ := Aside0.mk (blk_grown (g := gb195) (o := .cells #[.int .i64 ((rd_T29 l0 a2).f0), .int .i64 ((rd_T29 l0 a2).f1), .int .i64 ((rd_T29 l0 a2).f2), .int .i64 ((rd_T29 l0 a2).f3), .int .i64 (wrap64 (((rd_T29 l0 a2).f4) + 1))] 29 (0, 0)) (by (with_reducible repeat (first | refine blk_drewN ?_ _ | refine blk_drew ?_ | refine blk_alloc ?_ _)); exact BK195.out) hg (Kd.R_away HO221.out (fun _ hk => hk.2.2))); have n2_ := Aside0.mk (Kd.R_after (v := (.slice (some ⟨go64, 0, none⟩) y219.length co64)) (v1 := (.slice (some ⟨go64, 0, none⟩) y219.length co64)) (ok := (fun k_ => k_ ≠ gb194 ∧ k_ ≠ gb195)) (by (with_reducible repeat (first | apply Kd.R_alloc | apply Kd.R_drewN | apply Kd.R_drew)); exact HO218.out) hg (.inl rfl)); have n3_ := Aside0.mk (hp_); have n4_ := Aside0.mk ((by rw [hw]; exact below_set (below_set (below_set (below_set (below_set (HB.out) GB64.out) GB64.out) GB64.out) GB64.out) GB64.out : Below w.heap.size w w79)); clear BK194; clear BK195; clear HO218; clear HO221; clear HB; have BK194 := n0_; have BK195 := n1_; have HO218 := n2_; have HO221 := n3_; have HB := n4_; clear n0_ n1_ n2_ n3_ n4_; clear hg hw hp_) | ((with_reducible refine gate_callee (f := 14) rfl ?_); refine goesL_ (some 92) rfl rfl Try.func14 (by kernel_rfl) rfl #[.slice (some ad193) l0.length c0, .int .i64 a1] rfl (by (try simp only [List.map_toArray, List.map_cons, List.map_nil]); first | done | rfl | (simp only [List.length_drop, List.length_take]; rfl)) ?_; (with_reducible refine (dover_Fits.calls kj18 _ _ l0 a1 true _ ?side1 ?side2 A65.out).mono ?_); (case side1 => repeat (first | exact (Kd.C_below HR0.out HB.out) | (with_reducible refine Kd.C_alloc ?_ _) | (with_reducible refine Kd.C_drewN ?_ _) | (with_reducible refine Kd.C_drew ?_))); (case side2 => exact HC0.out); rintro e w80 ⟨rfl, hb⟩; refine ⟨_, rfl, ?_⟩; have n0_ := Aside0.mk (Kd.R_below (by (with_reducible repeat (first | apply Kd.R_alloc | apply Kd.R_drewN | apply Kd.R_drew)); exact HO218.out) hb); have n1_ := Aside0.mk (Kd.R_below (by (with_reducible repeat (first | apply Kd.R_alloc | apply Kd.R_drewN | apply Kd.R_drew)); exact HO221.out) hb); have n2_ := Aside0.mk (blk_below (g := gb194) (o := .cells #[.int .i64 ((rd_T29 l0 a2).f0), .int .i64 ((rd_T29 l0 a2).f1), .int .i64 ((rd_T29 l0 a2).f2), .int .i64 ((rd_T29 l0 a2).f3), .int .i64 ((rd_T29 l0 a2).f4)] 29 (0, 0)) (by (with_reducible repeat (first | refine blk_drewN ?_ _ | refine blk_drew ?_ | refine blk_alloc ?_ _)); exact BK194.out) hb); have n3_ := Aside0.mk (blk_below (g := gb195) (o := .cells #[.int .i64 ((rd_T29 l0 a2).f0), .int .i64 ((rd_T29 l0 a2).f1), .int .i64 ((rd_T29 l0 a2).f2), .int .i64 ((rd_T29 l0 a2).f3), .int .i64 (wrap64 (((rd_T29 l0 a2).f4) + 1))] 29 (0, 0)) (by (with_reducible repeat (first | refine blk_drewN ?_ _ | refine blk_drew ?_ | refine blk_alloc ?_ _)); exact BK195.out) hb); have n4_ := Aside0.mk (below_step (by repeat (first | (with_reducible first | exact HB.out | apply below_alloc | apply pw_below_drewN | apply below_drew1 | refine below_set ?_ GE194.out | refine below_set ?_ GE195.out) | exact HB.out)) hb); clear HO218; clear HO221; clear BK194; clear BK195; clear HB; have HO218 := n0_; have HO221 := n1_; have BK194 := n2_; have BK195 := n3_; have HB := n4_; clear n0_ n1_ n2_ n3_ n4_; (try clear hb); (try clear hb2); (try clear hk); (try clear hi); obtain ⟨Ao81, co81, eo81⟩ := Kd.R_slice HO218.out; subst eo81) | (go_at_call 14; (with_reducible refine (dover_Fits.calls kj18 _ _ y216 a1 true _ ?side1 ?side2 A67.out).mono ?_); (case side1 => repeat (first | exact (Kd.R_reads' HO218.out).2.2 | (with_reducible refine Kd.C_alloc ?_ _) | (with_reducible refine Kd.C_drewN ?_ _) | (with_reducible refine Kd.C_drew ?_))); (case side2 => exact (Kd.R_reads' HO218.out).2.1); rintro e w82 ⟨rfl, hb⟩; have n0_ := Aside0.mk (Kd.R_below (by (with_reducible repeat (first | apply Kd.R_alloc | apply Kd.R_drewN | apply Kd.R_drew)); exact HO218.out) hb); have n1_ := Aside0.mk (Kd.R_below (by (with_reducible repeat (first | apply Kd.R_alloc | apply Kd.R_drewN | apply Kd.R_drew)); exact HO221.out) hb); have n2_ := Aside0.mk (blk_below (g := gb194) (o := .cells #[.int .i64 ((rd_T29 l0 a2).f0), .int .i64 ((rd_T29 l0 a2).f1), .int .i64 ((rd_T29 l0 a2).f2), .int .i64 ((rd_T29 l0 a2).f3), .int .i64 ((rd_T29 l0 a2).f4)] 29 (0, 0)) (by (with_reducible repeat (first | refine blk_drewN ?_ _ | refine blk_drew ?_ | refine blk_alloc ?_ _)); exact BK194.out) hb); have n3_ := Aside0.mk (blk_below (g := gb195) (o := .cells #[.int .i64 ((rd_T29 l0 a2).f0), .int .i64 ((rd_T29 l0 a2).f1), .int .i64 ((rd_T29 l0 a2).f2), .int .i64 ((rd_T29 l0 a2).f3), .int .i64 (wrap64 (((rd_T29 l0 a2).f4) + 1))] 29 (0, 0)) (by (with_reducible repeat (first | refine blk_drewN ?_ _ | refine blk_drew ?_ | refine blk_alloc ?_ _)); exact BK195.out) hb); have n4_ := Aside0.mk (below_step (by repeat (first | (with_reducible first | exact HB.out | apply below_alloc | apply pw_below_drewN | apply below_drew1 | refine below_set ?_ GE194.out | refine below_set ?_ GE195.out) | exact HB.out)) hb); clear HO218; clear HO221; clear BK194; clear BK195; clear HB; have HO218 := n0_; have HO221 := n1_; have BK194 := n2_; have BK195 := n3_; have HB := n4_; clear n0_ n1_ n2_ n3_ n4_; (try clear hb); (try clear hb2); (try clear hk); (try clear hi)) | (go_at_call 14; refine calls_of_args (args' := #[.slice (some ⟨go64, 0, none⟩) y222.length co64, .int .i64 a1]) (by first | (rw [show y222.length = y219.length from (Kd.R_reads' HO221.out).1.symm] <;> rfl) | rfl) ?_; (with_reducible refine (dover_Fits.calls kj18 _ _ y222 a1 t225 _ ?side1 ?side2 A69.out).mono ?_); (case side1 => repeat (first | exact (Kd.R_reads' HO221.out).2.2 | (with_reducible refine Kd.C_alloc ?_ _) | (with_reducible refine Kd.C_drewN ?_ _) | (with_reducible refine Kd.C_drew ?_))); (case side2 => rw [show y222.length = y219.length from (Kd.R_reads' HO221.out).1.symm]; exact (Kd.R_reads' HO221.out).2.1); rintro e w83 ⟨rfl, hb⟩; have n0_ := Aside0.mk (Kd.R_below (by (with_reducible repeat (first | apply Kd.R_alloc | apply Kd.R_drewN | apply Kd.R_drew)); exact HO218.out) hb); have n1_ := Aside0.mk (Kd.R_below (by (with_reducible repeat (first | apply Kd.R_alloc | apply Kd.R_drewN | apply Kd.R_drew)); exact HO221.out) hb); have n2_ := Aside0.mk (blk_below (g := gb194) (o := .cells #[.int .i64 ((rd_T29 l0 a2).f0), .int .i64 ((rd_T29 l0 a2).f1), .int .i64 ((rd_T29 l0 a2).f2), .int .i64 ((rd_T29 l0 a2).f3), .int .i64 ((rd_T29 l0 a2).f4)] 29 (0, 0)) (by (with_reducible repeat (first | refine blk_drewN ?_ _ | refine blk_drew ?_ | refine blk_alloc ?_ _)); exact BK194.out) hb); have n3_ := Aside0.mk (blk_below (g := gb195) (o := .cells #[.int .i64 ((rd_T29 l0 a2).f0), .int .i64 ((rd_T29 l0 a2).f1), .int .i64 ((rd_T29 l0 a2).f2), .int .i64 ((rd_T29 l0 a2).f3), .int .i64 (wrap64 (((rd_T29 l0 a2).f4) + 1))] 29 (0, 0)) (by (with_reducible repeat (first | refine blk_drewN ?_ _ | refine blk_drew ?_ | refine blk_alloc ?_ _)); exact BK195.out) hb); have n4_ := Aside0.mk (below_step (by repeat (first | (with_reducible first | exact HB.out | apply below_alloc | apply pw_below_drewN | apply below_drew1 | refine below_set ?_ GE194.out | refine below_set ?_ GE195.out) | exact HB.out)) hb); clear HO218; clear HO221; clear BK194; clear BK195; clear HB; have HO218 := n0_; have HO221 := n1_; have BK194 := n2_; have BK195 := n3_; have HB := n4_; clear n0_ n1_ n2_ n3_ n4_; (try clear hb); (try clear hb2); (try clear hk); (try clear hi)))
                                      go_ret
                                      exact ⟨by first | rfl | (simp [errW_none, errW_some] <;> rfl) | (simp only [← hji58]; first | rfl | (simp [errW_none, errW_some] <;> rfl)) | (simp [*, errW_none, errW_some] <;> rfl), by repeat (first | (with_reducible first | exact HB.out | apply below_alloc | apply pw_below_drewN | apply below_drew1 | refine below_set ?_ GE194.out | refine below_set ?_ GE195.out) | exact HB.out)⟩
                                    · replace c68 := Bool.eq_false_iff.mpr c68
                                      subst c68
                                      have H1 : (some false) = some r := by rw [if_neg (show ¬ (false = true) by decide)] at H; exact H
                                      clear H
                                      have H := H1
                                      clear H1
                                      obtain rfl := Option.some.inj H
                                      try go_wp2
                                      have n0_ := Aside0.mk (blk_drew BK194.out)
                                      have n1_ := Aside0.mk (blk_drew BK195.out)
                                      have n2_ := Aside0.mk (below_drew1 HB.out)
                                      clear BK194
                                      clear BK195
                                      clear HB
                                      have BK194 := n0_
                                      have BK195 := n1_
                                      have HB := n2_
                                      clear n0_ n1_ n2_
                                      have q85 : (a2 : Int) ≤ ((l0.length : Int) : Int) := of_decide_eq_true (by first | (with_reducible assumption) | assumption)
                                      obtain ⟨i085, hi085, _, hsz85, _⟩ := info_parts info29
                                      have hroom85 : l0.length ≤ c0 := HC0.out
                                      have hC85 : Kd.C k29 _ (some ad193) l0.length l0 := HR0.out
                                      have hcut85 := cut_to (P := Try.prog) 22 29 .i64 Try.underlying22 hi085 (some ad193) l0.length c0 a2 (of_decide_eq_true (by first | (with_reducible assumption) | assumption)) q85 hroom85
                                      have hr85 := Kd.C_take (m := (a2 : Int).toNat) hC85 (by omega)
                                      have hy85 : y205.length = (a2 : Int).toNat := (by rw [Ny205.out, List.length_take]; omega)
                                      rw [← Ny205.out] at hr85
                                      rw [← hy85] at hcut85
                                      have HR208 := Aside0.mk hr85
                                      have HC208 := Aside0.mk (show y205.length ≤ c0 from by omega)
                                      clear hr85 hC85 hroom85 hi085 hsz85
                                      have KY85 := Aside0.mk hy85
                                      clear hy85
                                      replace q85 := eq_true q85
                                      have q86 : ((ji58) : Int) ≤ ((l0.length : Int) : Int) := of_decide_eq_true (by first | (with_reducible assumption) | assumption)
                                      obtain ⟨i086, hi086, _, hsz86, _⟩ := info_parts info29
                                      have hroom86 : l0.length ≤ c0 := HC0.out
                                      have hC86 : Kd.C k29 _ (some ad193) l0.length l0 := HR0.out
                                      have q086 : (0 : Int) ≤ ((ji58) : Int) := of_decide_eq_true (by first | (with_reducible assumption) | assumption)
                                      have hcut86 := cut_from (P := Try.prog) 22 29 .i64 Try.underlying22 hi086 5 hsz86 (some ad193) l0.length c0 (ji58) q086 q86
                                      have hr86 := Kd.C_drop (m := ((ji58) : Int).toNat) (c := c0) hC86 (by omega) hroom86
                                      obtain ⟨A86, hA86⟩ : ∃ A1, A1 = (if c0 = ((ji58) : Int).toNat then (some ad193) else ((some ad193) : Option Addr).map (·.add (((ji58) : Int).toNat * 5))) := ⟨_, rfl⟩
                                      obtain ⟨c86, hc86⟩ : ∃ c1, c1 = c0 - ((ji58) : Int).toNat := ⟨_, rfl⟩
                                      have hy86 : y212.length = l0.length - ((ji58) : Int).toNat := (by rw [Ny212.out, List.length_drop] <;> omega)
                                      rw [show (l0).drop ((ji58) : Int).toNat = y212 from Ny212.out.symm] at hr86
                                      replace hr86 : Kd.C k29 _ A86 y212.length y212 := (by rw [hA86]; exact hr86)
                                      rw [← hy86, ← hA86, ← hc86] at hcut86
                                      have HR215 := Aside0.mk hr86
                                      have HC215 := Aside0.mk (show y212.length ≤ c86 from by rw [hy86, hc86]; exact Nat.sub_le_sub_right hroom86 _)
                                      clear hr86 hC86 hroom86 hi086 hsz86 hc86
                                      have KY86 := Aside0.mk hy86
                                      have KA86 := Aside0.mk hA86
                                      clear hy86 hA86
                                      replace q86 := eq_true q86
                                      refine start_ (n := 10) (S := fun w' => True) (ds := []) #[false, false, false, false, false, false, false, false, false, false] (by kernel_rfl) rfl rfl trivial (fun hHeld => ?_); refine with_tabW fuseelaw13_DoverWaits.tab9 fuseelaw13_DoverWaits.bits9 (fun HT_ HW_ => ?_)
                                      generalize wc.drew = w84 at BK194 BK195 HB HR208 HR215 hHeld ⊢
                                      refine pure_ (i := 0) (N := some 75) (v := ?_) (a' := ?_) #[true, false, false, false, false, false, false, false, false, false] rfl rfl (any_of HT_.out (by kernel_rfl)) (fun _ _ _ h => h) (Or.inl ⟨by rfl, ?_⟩) ?_ ?_
                                      rotate_left
                                      · intro w'
                                        go_simp
                                        with_reducible rfl
                                      rotate_left
                                      · simp only [Act.put, List.setIfInBounds_toArray, List.set_cons_zero, List.set_cons_succ, i64_w, i32_w]
                                        rfl
                                      refine pure_ (i := 1) (N := some 76) (v := ?_) (a' := ?_) #[true, true, false, false, false, false, false, false, false, false] rfl rfl (any_of HT_.out (by kernel_rfl)) (fun _ _ _ h => h) (Or.inl ⟨by rfl, ?_⟩) ?_ ?_
                                      rotate_left
                                      · intro w'
                                        go_simp
                                        with_reducible rfl
                                      rotate_left
                                      · simp only [Act.put, List.setIfInBounds_toArray, List.set_cons_zero, List.set_cons_succ, i64_w, i32_w]
                                        rfl
                                      refine pure_ (i := 2) (N := some 77) (v := ?_) (a' := ?_) #[true, true, true, false, false, false, false, false, false, false] rfl rfl (any_of HT_.out (by kernel_rfl)) (fun _ _ _ h => h) (Or.inl ⟨by rfl, ?_⟩) ?_ ?_
                                      rotate_left
                                      · intro w'
                                        go_simp
                                        with_reducible rfl
                                      rotate_left
                                      · simp only [Act.put, List.setIfInBounds_toArray, List.set_cons_zero, List.set_cons_succ, i64_w, i32_w]
                                        rfl
                                      refine pure_ (i := 4) (N := some 79) (v := ?_) (a' := ?_) #[true, true, true, false, true, false, false, false, false, false] rfl rfl (any_of HT_.out (by kernel_rfl)) (fun _ _ _ h => h) (Or.inl ⟨by rfl, ?_⟩) ?_ ?_
                                      rotate_left
                                      · intro w'
                                        go_simp
                                        with_reducible rfl
                                      rotate_left
                                      · simp only [Act.put, List.setIfInBounds_toArray, List.set_cons_zero, List.set_cons_succ, i64_w, i32_w]
                                        rfl
                                      refine pure_ (i := 5) (N := some 80) (v := ?_) (a' := ?_) #[true, true, true, false, true, true, false, false, false, false] rfl rfl (any_of HT_.out (by kernel_rfl)) (fun _ _ _ h => h) (Or.inl ⟨by rfl, ?_⟩) ?_ ?_
                                      rotate_left
                                      · intro w'
                                        go_simp
                                        with_reducible rfl
                                      rotate_left
                                      · simp only [Act.put, List.setIfInBounds_toArray, List.set_cons_zero, List.set_cons_succ, i64_w, i32_w]
                                        rfl
                                      refine pure_ (i := 6) (N := some 81) (v := ?_) (a' := ?_) #[true, true, true, false, true, true, true, false, false, false] rfl rfl (any_of HT_.out (by kernel_rfl)) (fun _ _ _ h => h) (Or.inl ⟨by rfl, ?_⟩) ?_ ?_
                                      rotate_left
                                      · intro w'
                                        go_simp
                                        with_reducible rfl
                                      rotate_left
                                      · simp only [Act.put, List.setIfInBounds_toArray, List.set_cons_zero, List.set_cons_succ, i64_w, i32_w]
                                        rfl
                                      refine pure_ (i := 7) (N := some 82) (v := ?_) (a' := ?_) #[true, true, true, false, true, true, true, true, false, false] rfl rfl (any_of HT_.out (by kernel_rfl)) (fun _ _ _ h => h) (Or.inl ⟨by rfl, ?_⟩) ?_ ?_
                                      rotate_left
                                      · intro w'
                                        go_simp
                                        with_reducible rfl
                                      rotate_left
                                      · simp only [Act.put, List.setIfInBounds_toArray, List.set_cons_zero, List.set_cons_succ, i64_w, i32_w]
                                        rfl
                                      refine one_ (i := 3) (N := some 78) #[true, true, true, true, true, true, true, true, false, false] rfl rfl (one_of HT_.out (by kernel_rfl)) (by decide) (fun K hK => ?_)
                                      refine Kd.R_append_rows_step k29 (w0 := w) w.heap.size (by rfl) (.const (.slice none 0 0)) (.tmp 77) 22 29 (.agg #[(.int .i64 0), (.int .i64 0), (.int .i64 0), (.int .i64 0), (.int .i64 0)]) 40 rfl Try.underlying22 info29 rfl (by decide) (by omega) (.slice none 0 0) ([] : List (S29)) y205 _ _ _ (fun k_ => k_ ≠ gb194 ∧ k_ ≠ gb195) (fun _ => False) rfl rfl ?aO ?aR (fun _ _ h => h) (fun _ h => h.elim) ?aF ?aB ?aS ?aL ?_
                                      (case aR => repeat (first | exact (Kd.C_below HR208.out HB.out) | (with_reducible refine Kd.C_alloc ?_ _) | (with_reducible refine Kd.C_drewN ?_ _) | (with_reducible refine Kd.C_drew ?_)))
                                      (case aB => exact (by repeat (first | (with_reducible first | exact HB.out | apply below_alloc | apply pw_below_drewN | apply below_drew1 | refine below_set ?_ GE194.out | refine below_set ?_ GE195.out) | exact HB.out)))
                                      (case aF => exact (fun k_ hk => ⟨Kd.freshB (g := gb194) (o := .cells #[.int .i64 ((rd_T29 l0 a2).f0), .int .i64 ((rd_T29 l0 a2).f1), .int .i64 ((rd_T29 l0 a2).f2), .int .i64 ((rd_T29 l0 a2).f3), .int .i64 ((rd_T29 l0 a2).f4)] 29 (0, 0)) (by (with_reducible repeat (first | refine blk_drewN ?_ _ | refine blk_drew ?_ | refine blk_alloc ?_ _)); exact BK194.out) k_ hk, Kd.freshB (g := gb195) (o := .cells #[.int .i64 ((rd_T29 l0 a2).f0), .int .i64 ((rd_T29 l0 a2).f1), .int .i64 ((rd_T29 l0 a2).f2), .int .i64 ((rd_T29 l0 a2).f3), .int .i64 (wrap64 (((rd_T29 l0 a2).f4) + 1))] 29 (0, 0)) (by (with_reducible repeat (first | refine blk_drewN ?_ _ | refine blk_drew ?_ | refine blk_alloc ?_ _)); exact BK195.out) k_ hk⟩))
                                      (case aO => exact ((Kd.R_nil _ _ _ _ (fun k_ => k_ ≠ gb194 ∧ k_ ≠ gb195))))
                                      (case aS => exact (below_size (by repeat (first | (with_reducible first | exact HB.out | apply below_alloc | apply pw_below_drewN | apply below_drew1 | refine below_set ?_ GE194.out | refine below_set ?_ GE195.out) | exact HB.out))))
                                      (case aL => have := LMc57.out; omega)
                                      intro v210 w87 ho hb hg hat
                                      rw [← Ny209.out] at ho
                                      have n0_ := Aside0.mk (blk_grown (g := gb194) (o := .cells #[.int .i64 ((rd_T29 l0 a2).f0), .int .i64 ((rd_T29 l0 a2).f1), .int .i64 ((rd_T29 l0 a2).f2), .int .i64 ((rd_T29 l0 a2).f3), .int .i64 ((rd_T29 l0 a2).f4)] 29 (0, 0)) (by (with_reducible repeat (first | refine blk_drewN ?_ _ | refine blk_drew ?_ | refine blk_alloc ?_ _)); exact BK194.out) hg (by simp [Value.ownBlock]))
                                      have n1_ := Aside0.mk (blk_grown (g := gb195) (o := .cells #[.int .i64 ((rd_T29 l0 a2).f0), .int .i64 ((rd_T29 l0 a2).f1), .int .i64 ((rd_T29 l0 a2).f2), .int .i64 ((rd_T29 l0 a2).f3), .int .i64 (wrap64 (((rd_T29 l0 a2).f4) + 1))] 29 (0, 0)) (by (with_reducible repeat (first | refine blk_drewN ?_ _ | refine blk_drew ?_ | refine blk_alloc ?_ _)); exact BK195.out) hg (by simp [Value.ownBlock]))
                                      have n2_ := Aside0.mk (hb)
                                      have n3_ := Aside0.mk (ho)
                                      clear BK194
                                      clear BK195
                                      clear HB
                                      have BK194 := n0_
                                      have BK195 := n1_
                                      have HB := n2_
                                      have HO211 := n3_
                                      clear n0_ n1_ n2_ n3_
                                      clear ho hb hg hat
                                      refine hK.out _ _ trivial (fun hHeld => ?_)
                                      clear hK K
                                      refine norm_ (a' := ?_) ?_ ?_
                                      rotate_left
                                      · show Act.put _ (some 78) _ = _
                                        simp only [Act.put, List.setIfInBounds_toArray, List.set_cons_zero, List.set_cons_succ, i64_w, i32_w]
                                        rfl
                                      refine one_ (i := 8) (N := some 83) #[true, true, true, true, true, true, true, true, true, false] rfl rfl (one_of HT_.out (by kernel_rfl)) (by decide) (fun K hK => ?_)
                                      refine Kd.R_append_rows_step k29 (w0 := w) w.heap.size (by rfl) (.tmp 78) (.tmp 82) 22 29 (.agg #[(.int .i64 0), (.int .i64 0), (.int .i64 0), (.int .i64 0), (.int .i64 0)]) 40 rfl Try.underlying22 info29 rfl (by decide) (by omega) v210 y209 y212 _ _ _ (fun k_ => k_ ≠ gb194 ∧ k_ ≠ gb195) (fun _ => False) rfl rfl ?aO ?aR (fun _ _ h => h) (fun _ h => h.elim) ?aF ?aB ?aS ?aL ?_
                                      (case aR => repeat (first | exact (Kd.C_below HR215.out HB.out) | (with_reducible refine Kd.C_alloc ?_ _) | (with_reducible refine Kd.C_drewN ?_ _) | (with_reducible refine Kd.C_drew ?_)))
                                      (case aB => exact (by repeat (first | (with_reducible first | exact HB.out | apply below_alloc | apply pw_below_drewN | apply below_drew1 | refine below_set ?_ GE194.out | refine below_set ?_ GE195.out) | exact HB.out)))
                                      (case aF => exact (fun k_ hk => ⟨Kd.freshB (g := gb194) (o := .cells #[.int .i64 ((rd_T29 l0 a2).f0), .int .i64 ((rd_T29 l0 a2).f1), .int .i64 ((rd_T29 l0 a2).f2), .int .i64 ((rd_T29 l0 a2).f3), .int .i64 ((rd_T29 l0 a2).f4)] 29 (0, 0)) (by (with_reducible repeat (first | refine blk_drewN ?_ _ | refine blk_drew ?_ | refine blk_alloc ?_ _)); exact BK194.out) k_ hk, Kd.freshB (g := gb195) (o := .cells #[.int .i64 ((rd_T29 l0 a2).f0), .int .i64 ((rd_T29 l0 a2).f1), .int .i64 ((rd_T29 l0 a2).f2), .int .i64 ((rd_T29 l0 a2).f3), .int .i64 (wrap64 (((rd_T29 l0 a2).f4) + 1))] 29 (0, 0)) (by (with_reducible repeat (first | refine blk_drewN ?_ _ | refine blk_drew ?_ | refine blk_alloc ?_ _)); exact BK195.out) k_ hk⟩))
                                      (case aO => exact (by (with_reducible repeat (first | apply Kd.R_alloc | apply Kd.R_drewN | apply Kd.R_drew)); exact HO211.out))
                                      (case aS => exact (below_size (by repeat (first | (with_reducible first | exact HB.out | apply below_alloc | apply pw_below_drewN | apply below_drew1 | refine below_set ?_ GE194.out | refine below_set ?_ GE195.out) | exact HB.out))))
                                      (case aL => have := LMc61.out; omega)
                                      intro v217 w88 ho hb hg hat
                                      rw [← Ny216.out] at ho
                                      have n0_ := Aside0.mk (blk_grown (g := gb194) (o := .cells #[.int .i64 ((rd_T29 l0 a2).f0), .int .i64 ((rd_T29 l0 a2).f1), .int .i64 ((rd_T29 l0 a2).f2), .int .i64 ((rd_T29 l0 a2).f3), .int .i64 ((rd_T29 l0 a2).f4)] 29 (0, 0)) (by (with_reducible repeat (first | refine blk_drewN ?_ _ | refine blk_drew ?_ | refine blk_alloc ?_ _)); exact BK194.out) hg (Kd.R_away HO211.out (fun _ hk => hk.1)))
                                      have n1_ := Aside0.mk (blk_grown (g := gb195) (o := .cells #[.int .i64 ((rd_T29 l0 a2).f0), .int .i64 ((rd_T29 l0 a2).f1), .int .i64 ((rd_T29 l0 a2).f2), .int .i64 ((rd_T29 l0 a2).f3), .int .i64 (wrap64 (((rd_T29 l0 a2).f4) + 1))] 29 (0, 0)) (by (with_reducible repeat (first | refine blk_drewN ?_ _ | refine blk_drew ?_ | refine blk_alloc ?_ _)); exact BK195.out) hg (Kd.R_away HO211.out (fun _ hk => hk.2)))
                                      have n2_ := Aside0.mk (hb)
                                      have n3_ := Aside0.mk (ho)
                                      clear BK194
                                      clear BK195
                                      clear HB
                                      clear HO211
                                      have BK194 := n0_
                                      have BK195 := n1_
                                      have HB := n2_
                                      have HO218 := n3_
                                      clear n0_ n1_ n2_ n3_
                                      clear ho hb hg hat
                                      refine hK.out _ _ trivial (fun hHeld => ?_)
                                      clear hK K
                                      refine norm_ (a' := ?_) ?_ ?_
                                      rotate_left
                                      · show Act.put _ (some 83) _ = _
                                        simp only [Act.put, List.setIfInBounds_toArray, List.set_cons_zero, List.set_cons_succ, i64_w, i32_w]
                                        rfl
                                      refine pure_ (i := 9) (N := some 10) (v := ?_) (a' := ?_) #[true, true, true, true, true, true, true, true, true, true] rfl rfl (any_of HT_.out (by kernel_rfl)) (fun _ _ _ h => h) (Or.inl ⟨by rfl, ?_⟩) ?_ ?_
                                      rotate_left
                                      · intro w'
                                        go_simp
                                        with_reducible rfl
                                      rotate_left
                                      · simp only [Act.put, List.setIfInBounds_toArray, List.set_cons_zero, List.set_cons_succ, i64_w, i32_w]
                                        rfl
                                      refine done_ (done_of HT_.out (by kernel_rfl)) ?_
                                      try go_wp2_with (first | ((with_reducible refine gate_builtin (b := .append) (xs := #[.const (.slice none 0 0), .tmp 84]) rfl ?_); (try (refine gate_guard (by rfl) ?_; dsimp only)); at_builtin; refine Kd.R_append_rows k29 (w0 := w) w.heap.size rfl (.const (.slice none 0 0)) (.tmp 84) 22 29 (.agg #[(.int .i64 0), (.int .i64 0), (.int .i64 0), (.int .i64 0), (.int .i64 0)]) 40 rfl Try.underlying22 info29 rfl (by decide) (by omega) (.slice none 0 0) ([] : List (S29)) l0 _ _ _ (fun k_ => some k_ ≠ (v217 : Value).ownBlock ∧ k_ ≠ gb194 ∧ k_ ≠ gb195) (fun _ => False) rfl rfl ?aO ?aR (fun _ _ h => h) (fun _ h => h.elim) ?aF ?aB ?aS ?aL ?_; (case aR => repeat (first | exact (Kd.C_below HR0.out HB.out) | (with_reducible refine Kd.C_alloc ?_ _) | (with_reducible refine Kd.C_drewN ?_ _) | (with_reducible refine Kd.C_drew ?_))); (case aB => exact (by repeat (first | (with_reducible first | exact HB.out | apply below_alloc | apply pw_below_drewN | apply below_drew1 | refine below_set ?_ GE194.out | refine below_set ?_ GE195.out) | exact HB.out))); (case aF => exact (fun k_ hk => ⟨Kd.fresh' (Kd.R_lt (by (with_reducible repeat (first | apply Kd.R_alloc | apply Kd.R_drewN | apply Kd.R_drew)); exact HO218.out)) k_ hk, Kd.freshB (g := gb194) (o := .cells #[.int .i64 ((rd_T29 l0 a2).f0), .int .i64 ((rd_T29 l0 a2).f1), .int .i64 ((rd_T29 l0 a2).f2), .int .i64 ((rd_T29 l0 a2).f3), .int .i64 ((rd_T29 l0 a2).f4)] 29 (0, 0)) (by (with_reducible repeat (first | refine blk_drewN ?_ _ | refine blk_drew ?_ | refine blk_alloc ?_ _)); exact BK194.out) k_ hk, Kd.freshB (g := gb195) (o := .cells #[.int .i64 ((rd_T29 l0 a2).f0), .int .i64 ((rd_T29 l0 a2).f1), .int .i64 ((rd_T29 l0 a2).f2), .int .i64 ((rd_T29 l0 a2).f3), .int .i64 (wrap64 (((rd_T29 l0 a2).f4) + 1))] 29 (0, 0)) (by (with_reducible repeat (first | refine blk_drewN ?_ _ | refine blk_drew ?_ | refine blk_alloc ?_ _)); exact BK195.out) k_ hk⟩)); (case aO => exact ((Kd.R_nil _ _ _ _ (fun k_ => some k_ ≠ (v217 : Value).ownBlock ∧ k_ ≠ gb194 ∧ k_ ≠ gb195)))); (case aS => exact (below_size (by repeat (first | (with_reducible first | exact HB.out | apply below_alloc | apply pw_below_drewN | apply below_drew1 | refine below_set ?_ GE194.out | refine below_set ?_ GE195.out) | exact HB.out)))); (case aL => have := LMc62.out; omega); intro v220 w89 ho hb hg hat; rw [← Ny219.out] at ho; have n0_ := Aside0.mk (blk_grown (g := gb194) (o := .cells #[.int .i64 ((rd_T29 l0 a2).f0), .int .i64 ((rd_T29 l0 a2).f1), .int .i64 ((rd_T29 l0 a2).f2), .int .i64 ((rd_T29 l0 a2).f3), .int .i64 ((rd_T29 l0 a2).f4)] 29 (0, 0)) (by (with_reducible repeat (first | refine blk_drewN ?_ _ | refine blk_drew ?_ | refine blk_alloc ?_ _)); exact BK194.out) hg (by simp [Value.ownBlock])); have n1_ := Aside0.mk (blk_grown (g := gb195) (o := .cells #[.int .i64 ((rd_T29 l0 a2).f0), .int .i64 ((rd_T29 l0 a2).f1), .int .i64 ((rd_T29 l0 a2).f2), .int .i64 ((rd_T29 l0 a2).f3), .int .i64 (wrap64 (((rd_T29 l0 a2).f4) + 1))] 29 (0, 0)) (by (with_reducible repeat (first | refine blk_drewN ?_ _ | refine blk_drew ?_ | refine blk_alloc ?_ _)); exact BK195.out) hg (by simp [Value.ownBlock])); have n2_ := Aside0.mk (Kd.R_after (Kd.R_apart_nil (by (with_reducible repeat (first | apply Kd.R_alloc | apply Kd.R_drewN | apply Kd.R_drew)); exact HO218.out)) hg hat); have n3_ := Aside0.mk (hb); have n4_ := Aside0.mk (ho); clear BK194; clear BK195; clear HO218; clear HB; have BK194 := n0_; have BK195 := n1_; have HO218 := n2_; have HB := n3_; have HO221 := n4_; clear n0_ n1_ n2_ n3_ n4_; clear ho hb hg hat; have hnb90 := NB195_194.out; have hnc90 := NB194_195.out; have hcz91_0 : w89.cell? ⟨gb195, 0, none⟩ = some (.int .i64 ((rd_T29 l0 a2).f0)) := (blk_cell BK195.out 0).trans rfl; have hcz91_1 : w89.cell? ⟨gb195, 1, none⟩ = some (.int .i64 ((rd_T29 l0 a2).f1)) := (blk_cell BK195.out 1).trans rfl; have hcz91_2 : w89.cell? ⟨gb195, 2, none⟩ = some (.int .i64 ((rd_T29 l0 a2).f2)) := (blk_cell BK195.out 2).trans rfl; have hcz91_3 : w89.cell? ⟨gb195, 3, none⟩ = some (.int .i64 ((rd_T29 l0 a2).f3)) := (blk_cell BK195.out 3).trans rfl; have hcz91_4 : w89.cell? ⟨gb195, 4, none⟩ = some (.int .i64 (wrap64 (((rd_T29 l0 a2).f4) + 1))) := (blk_cell BK195.out 4).trans rfl; have hfz91_0 := blk_frozen BK195.out 0; have hfz91_1 := blk_frozen BK195.out 1; have hfz91_2 := blk_frozen BK195.out 2; have hfz91_3 := blk_frozen BK195.out 3; have hfz91_4 := blk_frozen BK195.out 4; have p64 : 0 ≤ (a2 : Int) := of_decide_eq_true (by first | (with_reducible assumption) | assumption); have q64 : (a2 : Int) < ((y219.length : Int) : Int) := of_decide_eq_true (by first | (with_reducible assumption) | assumption); obtain ⟨go64, co64, eo64, gb64, gl64, cl64, HG64⟩ := Kd.R_form HO221.out (by omega); (first | cases eo64 | (injection eo64 with ea_ en_ ec_; (first | subst ea_ | (injection ea_ with ea_; subst ea_)); subst ec_; clear en_)); have GB64 := Aside0.mk gb64; have GG64 := Aside0.mk HG64; clear gb64 gl64 HG64; obtain ⟨ce64, hcl64, hM64, hcc64, hfr64⟩ := Kd.R_elem HO221.out z29 (a2 : Int) p64 q64; obtain rfl := k29_openM hM64; have hx64_0 : w89.cell? ⟨go64, (a2 : Int).toNat * 5, none⟩ = some (.int .i64 ((rd_T29 y219 a2).f0)) := hcc64 0 _ rfl; have hx64_1 : w89.cell? ⟨go64, (a2 : Int).toNat * 5 + 1, none⟩ = some (.int .i64 ((rd_T29 y219 a2).f1)) := hcc64 1 _ rfl; have hx64_2 : w89.cell? ⟨go64, (a2 : Int).toNat * 5 + 2, none⟩ = some (.int .i64 ((rd_T29 y219 a2).f2)) := hcc64 2 _ rfl; have hx64_3 : w89.cell? ⟨go64, (a2 : Int).toNat * 5 + 3, none⟩ = some (.int .i64 ((rd_T29 y219 a2).f3)) := hcc64 3 _ rfl; have hx64_4 : w89.cell? ⟨go64, (a2 : Int).toNat * 5 + 4, none⟩ = some (.int .i64 ((rd_T29 y219 a2).f4)) := hcc64 4 _ rfl; have hf64_0 : w89.frozen? ⟨go64, (a2 : Int).toNat * 5, none⟩ = false := hfr64 0; have hf64_1 : w89.frozen? ⟨go64, (a2 : Int).toNat * 5 + 1, none⟩ = false := hfr64 1; have hf64_2 : w89.frozen? ⟨go64, (a2 : Int).toNat * 5 + 2, none⟩ = false := hfr64 2; have hf64_3 : w89.frozen? ⟨go64, (a2 : Int).toNat * 5 + 3, none⟩ = false := hfr64 3; have hf64_4 : w89.frozen? ⟨go64, (a2 : Int).toNat * 5 + 4, none⟩ = false := hfr64 4; clear hcl64 hcc64 hfr64 hM64; replace p64 := eq_true p64; replace q64 := eq_true q64; have HX92 := Aside0.mk (show Kd.R k29 29 w89 w.heap.size (fun k_ => some k_ ≠ (v217 : Value).ownBlock ∧ k_ ≠ gb194 ∧ k_ ≠ gb195) (.slice (some ⟨go64, 0, none⟩) y219.length co64) y219 from (by (with_reducible repeat (first | apply Kd.R_alloc | apply Kd.R_drewN | apply Kd.R_drew)); exact HO221.out)); obtain ⟨ce92, hcl92, hM92, hcc92, hfr92⟩ := Kd.R_elem HX92.out z29 (a2 : Int) (of_decide_eq_true (by first | (with_reducible assumption) | assumption)) (by have h_ : (a2 : Int) < ((y219.length : Int) : Int) := of_decide_eq_true (by first | (with_reducible assumption) | assumption); first | exact h_ | (have e_ := (Kd.R_reads' HO221.out).1; omega) | simpa using h_); obtain rfl := k29_openM hM92; have HP92 := Kd.R_seg HX92.out (a2 : Int) (of_decide_eq_true (by first | (with_reducible assumption) | assumption)) (by have h_ : (a2 : Int) < ((y219.length : Int) : Int) := of_decide_eq_true (by first | (with_reducible assumption) | assumption); first | exact h_ | (have e_ := (Kd.R_reads' HO221.out).1; omega) | simpa using h_) (seg := [.int .i64 ((rd_T29 l0 a2).f0), .int .i64 ((rd_T29 l0 a2).f1), .int .i64 ((rd_T29 l0 a2).f2), .int .i64 ((rd_T29 l0 a2).f3), .int .i64 (wrap64 (((rd_T29 l0 a2).f4) + 1))]) (j := 0) hcl92 hcc92 (show 5 ≤ 5 from by decide) (x' := (⟨((rd_T29 l0 a2).f0), ((rd_T29 l0 a2).f1), ((rd_T29 l0 a2).f2), ((rd_T29 l0 a2).f3), (wrap64 (((rd_T29 l0 a2).f4) + 1))⟩ : S29)) (k29_mkM _ _ _ (⟨((rd_T29 l0 a2).f0), ((rd_T29 l0 a2).f1), ((rd_T29 l0 a2).f2), ((rd_T29 l0 a2).f3), (wrap64 (((rd_T29 l0 a2).f4) + 1))⟩ : S29) ) (fun _ hk => hk); have hx92_0 := hcc92 0 _ rfl; (try simp only [show (k29).sz = 5 from rfl, Nat.mul_one, Nat.add_zero] at hx92_0); have hf92_0 := hfr92 0; (try simp only [show (k29).sz = 5 from rfl, Nat.mul_one, Nat.add_zero] at hf92_0); have hx92_1 := hcc92 1 _ rfl; (try simp only [show (k29).sz = 5 from rfl, Nat.mul_one, Nat.add_zero] at hx92_1); have hf92_1 := hfr92 1; (try simp only [show (k29).sz = 5 from rfl, Nat.mul_one, Nat.add_zero] at hf92_1); have hx92_2 := hcc92 2 _ rfl; (try simp only [show (k29).sz = 5 from rfl, Nat.mul_one, Nat.add_zero] at hx92_2); have hf92_2 := hfr92 2; (try simp only [show (k29).sz = 5 from rfl, Nat.mul_one, Nat.add_zero] at hf92_2); have hx92_3 := hcc92 3 _ rfl; (try simp only [show (k29).sz = 5 from rfl, Nat.mul_one, Nat.add_zero] at hx92_3); have hf92_3 := hfr92 3; (try simp only [show (k29).sz = 5 from rfl, Nat.mul_one, Nat.add_zero] at hf92_3); have hx92_4 := hcc92 4 _ rfl; (try simp only [show (k29).sz = 5 from rfl, Nat.mul_one, Nat.add_zero] at hx92_4); have hf92_4 := hfr92 4; (try simp only [show (k29).sz = 5 from rfl, Nat.mul_one, Nat.add_zero] at hf92_4); clear hcl92 hcc92 hfr92 hM92) | ((with_reducible refine gate_store (t := 29) (p := 89) rfl ?_); refine store_event (t := 29) (p := 89) (v := ?vo_w93) (w1 := (((((w89.setCell ⟨go64, (a2 : Int).toNat * 5, none⟩ (.int .i64 ((rd_T29 l0 a2).f0))).setCell ⟨go64, (a2 : Int).toNat * 5 + 1, none⟩ (.int .i64 ((rd_T29 l0 a2).f1))).setCell ⟨go64, (a2 : Int).toNat * 5 + 2, none⟩ (.int .i64 ((rd_T29 l0 a2).f2))).setCell ⟨go64, (a2 : Int).toNat * 5 + 3, none⟩ (.int .i64 ((rd_T29 l0 a2).f3))).setCell ⟨go64, (a2 : Int).toNat * 5 + 4, none⟩ (.int .i64 (wrap64 (((rd_T29 l0 a2).f4) + 1))))) ?hg ?ho ?hn ?hr ?_; (case ho => rfl); (case hg => rfl); (case hn => rfl); (case hr => first | (go_simp; done) | (go_simp; rfl)); intro w93 hw; have hg : w89.grownBy w93 (some go64) := (by rw [hw]; exact HP92.2); have hp_ : Kd.R k29 29 w93 w.heap.size (fun k_ => some k_ ≠ (v217 : Value).ownBlock ∧ k_ ≠ gb194 ∧ k_ ≠ gb195) (.slice (some ⟨go64, 0, none⟩) y219.length co64) y222 := (by rw [hw, Ny222.out]; exact HP92.1); clear HP92; have n0_ := Aside0.mk (blk_grown (g := gb194) (o := .cells #[.int .i64 ((rd_T29 l0 a2).f0), .int .i64 ((rd_T29 l0 a2).f1), .int .i64 ((rd_T29 l0 a2).f2), .int .i64 ((rd_T29 l0 a2).f3), .int .i64 ((rd_T29 l0 a2).f4)] 29 (0, 0)) (by (with_reducible repeat (first | refine blk_drewN ?_ _ | refine blk_drew ?_ | refine blk_alloc ?_ _)); exact BK194.out) hg (Kd.R_away HO221.out (fun _ hk => hk.2.1))); have n1_ := Aside0.mk (blk_grown (g := gb195) (o := .cells #[.int .i64 ((rd_T29 l0 a2).f0), .int .i64 ((rd_T29 l0 a2).f1), .int .i64 ((rd_T29 l0 a2).f2), .int .i64 ((rd_T29 l0 a2).f3), .int .i64 (wrap64 (((rd_T29 l0 a2).f4) + 1))] 29 (0, 0)) (by (with_reducible repeat (first | refine blk_drewN ?_ _ | refine blk_drew ?_ | refine blk_alloc ?_ _)); exact BK195.out) hg (Kd.R_away HO221.out (fun _ hk => hk.2.2))); have n2_ := Aside0.mk (Kd.R_after (v := (.slice (some ⟨go64, 0, none⟩) y219.length co64)) (v1 := (.slice (some ⟨go64, 0, none⟩) y219.length co64)) (ok := (fun k_ => k_ ≠ gb194 ∧ k_ ≠ gb195)) (by (with_reducible repeat (first | apply Kd.R_alloc | apply Kd.R_drewN | apply Kd.R_drew)); exact HO218.out) hg (.inl rfl)); have n3_ := Aside0.mk (hp_); have n4_ := Aside0.mk ((by rw [hw]; exact below_set (below_set (below_set (below_set (below_set (HB.out) GB64.out) GB64.out) GB64.out) GB64.out) GB64.out : Below w.heap.size w w93)); clear BK194; clear BK195; clear HO218; clear HO221; clear HB; have BK194 := n0_; have BK195 := n1_; have HO218 := n2_; have HO221 := n3_; have HB := n4_; clear n0_ n1_ n2_ n3_ n4_; clear hg hw hp_) | ((with_reducible refine gate_callee (f := 14) rfl ?_); refine goesL_ (some 92) rfl rfl Try.func14 (by kernel_rfl) rfl #[.slice (some ad193) l0.length c0, .int .i64 a1] rfl (by (try simp only [List.map_toArray, List.map_cons, List.map_nil]); first | done | rfl | (simp only [List.length_drop, List.length_take]; rfl)) ?_; (with_reducible refine (dover_Fits.calls kj18 _ _ l0 a1 true _ ?side1 ?side2 A65.out).mono ?_); (case side1 => repeat (first | exact (Kd.C_below HR0.out HB.out) | (with_reducible refine Kd.C_alloc ?_ _) | (with_reducible refine Kd.C_drewN ?_ _) | (with_reducible refine Kd.C_drew ?_))); (case side2 => exact HC0.out); rintro e w94 ⟨rfl, hb⟩; refine ⟨_, rfl, ?_⟩; have n0_ := Aside0.mk (Kd.R_below (by (with_reducible repeat (first | apply Kd.R_alloc | apply Kd.R_drewN | apply Kd.R_drew)); exact HO218.out) hb); have n1_ := Aside0.mk (Kd.R_below (by (with_reducible repeat (first | apply Kd.R_alloc | apply Kd.R_drewN | apply Kd.R_drew)); exact HO221.out) hb); have n2_ := Aside0.mk (blk_below (g := gb194) (o := .cells #[.int .i64 ((rd_T29 l0 a2).f0), .int .i64 ((rd_T29 l0 a2).f1), .int .i64 ((rd_T29 l0 a2).f2), .int .i64 ((rd_T29 l0 a2).f3), .int .i64 ((rd_T29 l0 a2).f4)] 29 (0, 0)) (by (with_reducible repeat (first | refine blk_drewN ?_ _ | refine blk_drew ?_ | refine blk_alloc ?_ _)); exact BK194.out) hb); have n3_ := Aside0.mk (blk_below (g := gb195) (o := .cells #[.int .i64 ((rd_T29 l0 a2).f0), .int .i64 ((rd_T29 l0 a2).f1), .int .i64 ((rd_T29 l0 a2).f2), .int .i64 ((rd_T29 l0 a2).f3), .int .i64 (wrap64 (((rd_T29 l0 a2).f4) + 1))] 29 (0, 0)) (by (with_reducible repeat (first | refine blk_drewN ?_ _ | refine blk_drew ?_ | refine blk_alloc ?_ _)); exact BK195.out) hb); have n4_ := Aside0.mk (below_step (by repeat (first | (with_reducible first | exact HB.out | apply below_alloc | apply pw_below_drewN | apply below_drew1 | refine below_set ?_ GE194.out | refine below_set ?_ GE195.out) | exact HB.out)) hb); clear HO218; clear HO221; clear BK194; clear BK195; clear HB; have HO218 := n0_; have HO221 := n1_; have BK194 := n2_; have BK195 := n3_; have HB := n4_; clear n0_ n1_ n2_ n3_ n4_; (try clear hb); (try clear hb2); (try clear hk); (try clear hi); obtain ⟨Ao95, co95, eo95⟩ := Kd.R_slice HO218.out; subst eo95) | (go_at_call 14; (with_reducible refine (dover_Fits.calls kj18 _ _ y216 a1 false _ ?side1 ?side2 A67.out).mono ?_); (case side1 => repeat (first | exact (Kd.R_reads' HO218.out).2.2 | (with_reducible refine Kd.C_alloc ?_ _) | (with_reducible refine Kd.C_drewN ?_ _) | (with_reducible refine Kd.C_drew ?_))); (case side2 => exact (Kd.R_reads' HO218.out).2.1); rintro e w96 ⟨rfl, hb⟩; have n0_ := Aside0.mk (Kd.R_below (by (with_reducible repeat (first | apply Kd.R_alloc | apply Kd.R_drewN | apply Kd.R_drew)); exact HO218.out) hb); have n1_ := Aside0.mk (Kd.R_below (by (with_reducible repeat (first | apply Kd.R_alloc | apply Kd.R_drewN | apply Kd.R_drew)); exact HO221.out) hb); have n2_ := Aside0.mk (blk_below (g := gb194) (o := .cells #[.int .i64 ((rd_T29 l0 a2).f0), .int .i64 ((rd_T29 l0 a2).f1), .int .i64 ((rd_T29 l0 a2).f2), .int .i64 ((rd_T29 l0 a2).f3), .int .i64 ((rd_T29 l0 a2).f4)] 29 (0, 0)) (by (with_reducible repeat (first | refine blk_drewN ?_ _ | refine blk_drew ?_ | refine blk_alloc ?_ _)); exact BK194.out) hb); have n3_ := Aside0.mk (blk_below (g := gb195) (o := .cells #[.int .i64 ((rd_T29 l0 a2).f0), .int .i64 ((rd_T29 l0 a2).f1), .int .i64 ((rd_T29 l0 a2).f2), .int .i64 ((rd_T29 l0 a2).f3), .int .i64 (wrap64 (((rd_T29 l0 a2).f4) + 1))] 29 (0, 0)) (by (with_reducible repeat (first | refine blk_drewN ?_ _ | refine blk_drew ?_ | refine blk_alloc ?_ _)); exact BK195.out) hb); have n4_ := Aside0.mk (below_step (by repeat (first | (with_reducible first | exact HB.out | apply below_alloc | apply pw_below_drewN | apply below_drew1 | refine below_set ?_ GE194.out | refine below_set ?_ GE195.out) | exact HB.out)) hb); clear HO218; clear HO221; clear BK194; clear BK195; clear HB; have HO218 := n0_; have HO221 := n1_; have BK194 := n2_; have BK195 := n3_; have HB := n4_; clear n0_ n1_ n2_ n3_ n4_; (try clear hb); (try clear hb2); (try clear hk); (try clear hi)))
                                      go_ret
                                      exact ⟨by first | rfl | (simp [errW_none, errW_some] <;> rfl) | (simp only [← hji58]; first | rfl | (simp [errW_none, errW_some] <;> rfl)) | (simp [*, errW_none, errW_some] <;> rfl), by repeat (first | (with_reducible first | exact HB.out | apply below_alloc | apply pw_below_drewN | apply below_drew1 | refine below_set ?_ GE194.out | refine below_set ?_ GE195.out) | exact HB.out)⟩
                                  · replace c66 := Bool.eq_false_iff.mpr c66
                                    subst c66
                                    have H1 : (some true) = some r := by rw [if_neg (show ¬ (false = true) by decide)] at H; exact H
                                    clear H
                                    have H := H1
                                    clear H1
                                    obtain rfl := Option.some.inj H
                                    try go_wp2
                                    have n0_ := Aside0.mk (blk_drew BK194.out)
                                    have n1_ := Aside0.mk (blk_drew BK195.out)
                                    have n2_ := Aside0.mk (below_drew1 HB.out)
                                    clear BK194
                                    clear BK195
                                    clear HB
                                    have BK194 := n0_
                                    have BK195 := n1_
                                    have HB := n2_
                                    clear n0_ n1_ n2_
                                    have q98 : (a2 : Int) ≤ ((l0.length : Int) : Int) := of_decide_eq_true (by first | (with_reducible assumption) | assumption)
                                    obtain ⟨i098, hi098, _, hsz98, _⟩ := info_parts info29
                                    have hroom98 : l0.length ≤ c0 := HC0.out
                                    have hC98 : Kd.C k29 _ (some ad193) l0.length l0 := HR0.out
                                    have hcut98 := cut_to (P := Try.prog) 22 29 .i64 Try.underlying22 hi098 (some ad193) l0.length c0 a2 (of_decide_eq_true (by first | (with_reducible assumption) | assumption)) q98 hroom98
                                    have hr98 := Kd.C_take (m := (a2 : Int).toNat) hC98 (by omega)
                                    have hy98 : y205.length = (a2 : Int).toNat := (by rw [Ny205.out, List.length_take]; omega)
                                    rw [← Ny205.out] at hr98
                                    rw [← hy98] at hcut98
                                    have HR208 := Aside0.mk hr98
                                    have HC208 := Aside0.mk (show y205.length ≤ c0 from by omega)
                                    clear hr98 hC98 hroom98 hi098 hsz98
                                    have KY98 := Aside0.mk hy98
                                    clear hy98
                                    replace q98 := eq_true q98
                                    have q99 : ((ji58) : Int) ≤ ((l0.length : Int) : Int) := of_decide_eq_true (by first | (with_reducible assumption) | assumption)
                                    obtain ⟨i099, hi099, _, hsz99, _⟩ := info_parts info29
                                    have hroom99 : l0.length ≤ c0 := HC0.out
                                    have hC99 : Kd.C k29 _ (some ad193) l0.length l0 := HR0.out
                                    have q099 : (0 : Int) ≤ ((ji58) : Int) := of_decide_eq_true (by first | (with_reducible assumption) | assumption)
                                    have hcut99 := cut_from (P := Try.prog) 22 29 .i64 Try.underlying22 hi099 5 hsz99 (some ad193) l0.length c0 (ji58) q099 q99
                                    have hr99 := Kd.C_drop (m := ((ji58) : Int).toNat) (c := c0) hC99 (by omega) hroom99
                                    obtain ⟨A99, hA99⟩ : ∃ A1, A1 = (if c0 = ((ji58) : Int).toNat then (some ad193) else ((some ad193) : Option Addr).map (·.add (((ji58) : Int).toNat * 5))) := ⟨_, rfl⟩
                                    obtain ⟨c99, hc99⟩ : ∃ c1, c1 = c0 - ((ji58) : Int).toNat := ⟨_, rfl⟩
                                    have hy99 : y212.length = l0.length - ((ji58) : Int).toNat := (by rw [Ny212.out, List.length_drop] <;> omega)
                                    rw [show (l0).drop ((ji58) : Int).toNat = y212 from Ny212.out.symm] at hr99
                                    replace hr99 : Kd.C k29 _ A99 y212.length y212 := (by rw [hA99]; exact hr99)
                                    rw [← hy99, ← hA99, ← hc99] at hcut99
                                    have HR215 := Aside0.mk hr99
                                    have HC215 := Aside0.mk (show y212.length ≤ c99 from by rw [hy99, hc99]; exact Nat.sub_le_sub_right hroom99 _)
                                    clear hr99 hC99 hroom99 hi099 hsz99 hc99
                                    have KY99 := Aside0.mk hy99
                                    have KA99 := Aside0.mk hA99
                                    clear hy99 hA99
                                    replace q99 := eq_true q99
                                    refine start_ (n := 10) (S := fun w' => True) (ds := []) #[false, false, false, false, false, false, false, false, false, false] (by kernel_rfl) rfl rfl trivial (fun hHeld => ?_); refine with_tabW fuseelaw13_DoverWaits.tab9 fuseelaw13_DoverWaits.bits9 (fun HT_ HW_ => ?_)
                                    generalize wc.drew = w97 at BK194 BK195 HB HR208 HR215 hHeld ⊢
                                    refine pure_ (i := 0) (N := some 75) (v := ?_) (a' := ?_) #[true, false, false, false, false, false, false, false, false, false] rfl rfl (any_of HT_.out (by kernel_rfl)) (fun _ _ _ h => h) (Or.inl ⟨by rfl, ?_⟩) ?_ ?_
                                    rotate_left
                                    · intro w'
                                      go_simp
                                      with_reducible rfl
                                    rotate_left
                                    · simp only [Act.put, List.setIfInBounds_toArray, List.set_cons_zero, List.set_cons_succ, i64_w, i32_w]
                                      rfl
                                    refine pure_ (i := 1) (N := some 76) (v := ?_) (a' := ?_) #[true, true, false, false, false, false, false, false, false, false] rfl rfl (any_of HT_.out (by kernel_rfl)) (fun _ _ _ h => h) (Or.inl ⟨by rfl, ?_⟩) ?_ ?_
                                    rotate_left
                                    · intro w'
                                      go_simp
                                      with_reducible rfl
                                    rotate_left
                                    · simp only [Act.put, List.setIfInBounds_toArray, List.set_cons_zero, List.set_cons_succ, i64_w, i32_w]
                                      rfl
                                    refine pure_ (i := 2) (N := some 77) (v := ?_) (a' := ?_) #[true, true, true, false, false, false, false, false, false, false] rfl rfl (any_of HT_.out (by kernel_rfl)) (fun _ _ _ h => h) (Or.inl ⟨by rfl, ?_⟩) ?_ ?_
                                    rotate_left
                                    · intro w'
                                      go_simp
                                      with_reducible rfl
                                    rotate_left
                                    · simp only [Act.put, List.setIfInBounds_toArray, List.set_cons_zero, List.set_cons_succ, i64_w, i32_w]
                                      rfl
                                    refine pure_ (i := 4) (N := some 79) (v := ?_) (a' := ?_) #[true, true, true, false, true, false, false, false, false, false] rfl rfl (any_of HT_.out (by kernel_rfl)) (fun _ _ _ h => h) (Or.inl ⟨by rfl, ?_⟩) ?_ ?_
                                    rotate_left
                                    · intro w'
                                      go_simp
                                      with_reducible rfl
                                    rotate_left
                                    · simp only [Act.put, List.setIfInBounds_toArray, List.set_cons_zero, List.set_cons_succ, i64_w, i32_w]
                                      rfl
                                    refine pure_ (i := 5) (N := some 80) (v := ?_) (a' := ?_) #[true, true, true, false, true, true, false, false, false, false] rfl rfl (any_of HT_.out (by kernel_rfl)) (fun _ _ _ h => h) (Or.inl ⟨by rfl, ?_⟩) ?_ ?_
                                    rotate_left
                                    · intro w'
                                      go_simp
                                      with_reducible rfl
                                    rotate_left
                                    · simp only [Act.put, List.setIfInBounds_toArray, List.set_cons_zero, List.set_cons_succ, i64_w, i32_w]
                                      rfl
                                    refine pure_ (i := 6) (N := some 81) (v := ?_) (a' := ?_) #[true, true, true, false, true, true, true, false, false, false] rfl rfl (any_of HT_.out (by kernel_rfl)) (fun _ _ _ h => h) (Or.inl ⟨by rfl, ?_⟩) ?_ ?_
                                    rotate_left
                                    · intro w'
                                      go_simp
                                      with_reducible rfl
                                    rotate_left
                                    · simp only [Act.put, List.setIfInBounds_toArray, List.set_cons_zero, List.set_cons_succ, i64_w, i32_w]
                                      rfl
                                    refine pure_ (i := 7) (N := some 82) (v := ?_) (a' := ?_) #[true, true, true, false, true, true, true, true, false, false] rfl rfl (any_of HT_.out (by kernel_rfl)) (fun _ _ _ h => h) (Or.inl ⟨by rfl, ?_⟩) ?_ ?_
                                    rotate_left
                                    · intro w'
                                      go_simp
                                      with_reducible rfl
                                    rotate_left
                                    · simp only [Act.put, List.setIfInBounds_toArray, List.set_cons_zero, List.set_cons_succ, i64_w, i32_w]
                                      rfl
                                    refine one_ (i := 3) (N := some 78) #[true, true, true, true, true, true, true, true, false, false] rfl rfl (one_of HT_.out (by kernel_rfl)) (by decide) (fun K hK => ?_)
                                    refine Kd.R_append_rows_step k29 (w0 := w) w.heap.size (by rfl) (.const (.slice none 0 0)) (.tmp 77) 22 29 (.agg #[(.int .i64 0), (.int .i64 0), (.int .i64 0), (.int .i64 0), (.int .i64 0)]) 40 rfl Try.underlying22 info29 rfl (by decide) (by omega) (.slice none 0 0) ([] : List (S29)) y205 _ _ _ (fun k_ => k_ ≠ gb194 ∧ k_ ≠ gb195) (fun _ => False) rfl rfl ?aO ?aR (fun _ _ h => h) (fun _ h => h.elim) ?aF ?aB ?aS ?aL ?_
                                    (case aR => repeat (first | exact (Kd.C_below HR208.out HB.out) | (with_reducible refine Kd.C_alloc ?_ _) | (with_reducible refine Kd.C_drewN ?_ _) | (with_reducible refine Kd.C_drew ?_)))
                                    (case aB => exact (by repeat (first | (with_reducible first | exact HB.out | apply below_alloc | apply pw_below_drewN | apply below_drew1 | refine below_set ?_ GE194.out | refine below_set ?_ GE195.out) | exact HB.out)))
                                    (case aF => exact (fun k_ hk => ⟨Kd.freshB (g := gb194) (o := .cells #[.int .i64 ((rd_T29 l0 a2).f0), .int .i64 ((rd_T29 l0 a2).f1), .int .i64 ((rd_T29 l0 a2).f2), .int .i64 ((rd_T29 l0 a2).f3), .int .i64 ((rd_T29 l0 a2).f4)] 29 (0, 0)) (by (with_reducible repeat (first | refine blk_drewN ?_ _ | refine blk_drew ?_ | refine blk_alloc ?_ _)); exact BK194.out) k_ hk, Kd.freshB (g := gb195) (o := .cells #[.int .i64 ((rd_T29 l0 a2).f0), .int .i64 ((rd_T29 l0 a2).f1), .int .i64 ((rd_T29 l0 a2).f2), .int .i64 ((rd_T29 l0 a2).f3), .int .i64 (wrap64 (((rd_T29 l0 a2).f4) + 1))] 29 (0, 0)) (by (with_reducible repeat (first | refine blk_drewN ?_ _ | refine blk_drew ?_ | refine blk_alloc ?_ _)); exact BK195.out) k_ hk⟩))
                                    (case aO => exact ((Kd.R_nil _ _ _ _ (fun k_ => k_ ≠ gb194 ∧ k_ ≠ gb195))))
                                    (case aS => exact (below_size (by repeat (first | (with_reducible first | exact HB.out | apply below_alloc | apply pw_below_drewN | apply below_drew1 | refine below_set ?_ GE194.out | refine below_set ?_ GE195.out) | exact HB.out))))
                                    (case aL => have := LMc57.out; omega)
                                    intro v210 w100 ho hb hg hat
                                    rw [← Ny209.out] at ho
                                    have n0_ := Aside0.mk (blk_grown (g := gb194) (o := .cells #[.int .i64 ((rd_T29 l0 a2).f0), .int .i64 ((rd_T29 l0 a2).f1), .int .i64 ((rd_T29 l0 a2).f2), .int .i64 ((rd_T29 l0 a2).f3), .int .i64 ((rd_T29 l0 a2).f4)] 29 (0, 0)) (by (with_reducible repeat (first | refine blk_drewN ?_ _ | refine blk_drew ?_ | refine blk_alloc ?_ _)); exact BK194.out) hg (by simp [Value.ownBlock]))
                                    have n1_ := Aside0.mk (blk_grown (g := gb195) (o := .cells #[.int .i64 ((rd_T29 l0 a2).f0), .int .i64 ((rd_T29 l0 a2).f1), .int .i64 ((rd_T29 l0 a2).f2), .int .i64 ((rd_T29 l0 a2).f3), .int .i64 (wrap64 (((rd_T29 l0 a2).f4) + 1))] 29 (0, 0)) (by (with_reducible repeat (first | refine blk_drewN ?_ _ | refine blk_drew ?_ | refine blk_alloc ?_ _)); exact BK195.out) hg (by simp [Value.ownBlock]))
                                    have n2_ := Aside0.mk (hb)
                                    have n3_ := Aside0.mk (ho)
                                    clear BK194
                                    clear BK195
                                    clear HB
                                    have BK194 := n0_
                                    have BK195 := n1_
                                    have HB := n2_
                                    have HO211 := n3_
                                    clear n0_ n1_ n2_ n3_
                                    clear ho hb hg hat
                                    refine hK.out _ _ trivial (fun hHeld => ?_)
                                    clear hK K
                                    refine norm_ (a' := ?_) ?_ ?_
                                    rotate_left
                                    · show Act.put _ (some 78) _ = _
                                      simp only [Act.put, List.setIfInBounds_toArray, List.set_cons_zero, List.set_cons_succ, i64_w, i32_w]
                                      rfl
                                    refine one_ (i := 8) (N := some 83) #[true, true, true, true, true, true, true, true, true, false] rfl rfl (one_of HT_.out (by kernel_rfl)) (by decide) (fun K hK => ?_)
                                    refine Kd.R_append_rows_step k29 (w0 := w) w.heap.size (by rfl) (.tmp 78) (.tmp 82) 22 29 (.agg #[(.int .i64 0), (.int .i64 0), (.int .i64 0), (.int .i64 0), (.int .i64 0)]) 40 rfl Try.underlying22 info29 rfl (by decide) (by omega) v210 y209 y212 _ _ _ (fun k_ => k_ ≠ gb194 ∧ k_ ≠ gb195) (fun _ => False) rfl rfl ?aO ?aR (fun _ _ h => h) (fun _ h => h.elim) ?aF ?aB ?aS ?aL ?_
                                    (case aR => repeat (first | exact (Kd.C_below HR215.out HB.out) | (with_reducible refine Kd.C_alloc ?_ _) | (with_reducible refine Kd.C_drewN ?_ _) | (with_reducible refine Kd.C_drew ?_)))
                                    (case aB => exact (by repeat (first | (with_reducible first | exact HB.out | apply below_alloc | apply pw_below_drewN | apply below_drew1 | refine below_set ?_ GE194.out | refine below_set ?_ GE195.out) | exact HB.out)))
                                    (case aF => exact (fun k_ hk => ⟨Kd.freshB (g := gb194) (o := .cells #[.int .i64 ((rd_T29 l0 a2).f0), .int .i64 ((rd_T29 l0 a2).f1), .int .i64 ((rd_T29 l0 a2).f2), .int .i64 ((rd_T29 l0 a2).f3), .int .i64 ((rd_T29 l0 a2).f4)] 29 (0, 0)) (by (with_reducible repeat (first | refine blk_drewN ?_ _ | refine blk_drew ?_ | refine blk_alloc ?_ _)); exact BK194.out) k_ hk, Kd.freshB (g := gb195) (o := .cells #[.int .i64 ((rd_T29 l0 a2).f0), .int .i64 ((rd_T29 l0 a2).f1), .int .i64 ((rd_T29 l0 a2).f2), .int .i64 ((rd_T29 l0 a2).f3), .int .i64 (wrap64 (((rd_T29 l0 a2).f4) + 1))] 29 (0, 0)) (by (with_reducible repeat (first | refine blk_drewN ?_ _ | refine blk_drew ?_ | refine blk_alloc ?_ _)); exact BK195.out) k_ hk⟩))
                                    (case aO => exact (by (with_reducible repeat (first | apply Kd.R_alloc | apply Kd.R_drewN | apply Kd.R_drew)); exact HO211.out))
                                    (case aS => exact (below_size (by repeat (first | (with_reducible first | exact HB.out | apply below_alloc | apply pw_below_drewN | apply below_drew1 | refine below_set ?_ GE194.out | refine below_set ?_ GE195.out) | exact HB.out))))
                                    (case aL => have := LMc61.out; omega)
                                    intro v217 w101 ho hb hg hat
                                    rw [← Ny216.out] at ho
                                    have n0_ := Aside0.mk (blk_grown (g := gb194) (o := .cells #[.int .i64 ((rd_T29 l0 a2).f0), .int .i64 ((rd_T29 l0 a2).f1), .int .i64 ((rd_T29 l0 a2).f2), .int .i64 ((rd_T29 l0 a2).f3), .int .i64 ((rd_T29 l0 a2).f4)] 29 (0, 0)) (by (with_reducible repeat (first | refine blk_drewN ?_ _ | refine blk_drew ?_ | refine blk_alloc ?_ _)); exact BK194.out) hg (Kd.R_away HO211.out (fun _ hk => hk.1)))
                                    have n1_ := Aside0.mk (blk_grown (g := gb195) (o := .cells #[.int .i64 ((rd_T29 l0 a2).f0), .int .i64 ((rd_T29 l0 a2).f1), .int .i64 ((rd_T29 l0 a2).f2), .int .i64 ((rd_T29 l0 a2).f3), .int .i64 (wrap64 (((rd_T29 l0 a2).f4) + 1))] 29 (0, 0)) (by (with_reducible repeat (first | refine blk_drewN ?_ _ | refine blk_drew ?_ | refine blk_alloc ?_ _)); exact BK195.out) hg (Kd.R_away HO211.out (fun _ hk => hk.2)))
                                    have n2_ := Aside0.mk (hb)
                                    have n3_ := Aside0.mk (ho)
                                    clear BK194
                                    clear BK195
                                    clear HB
                                    clear HO211
                                    have BK194 := n0_
                                    have BK195 := n1_
                                    have HB := n2_
                                    have HO218 := n3_
                                    clear n0_ n1_ n2_ n3_
                                    clear ho hb hg hat
                                    refine hK.out _ _ trivial (fun hHeld => ?_)
                                    clear hK K
                                    refine norm_ (a' := ?_) ?_ ?_
                                    rotate_left
                                    · show Act.put _ (some 83) _ = _
                                      simp only [Act.put, List.setIfInBounds_toArray, List.set_cons_zero, List.set_cons_succ, i64_w, i32_w]
                                      rfl
                                    refine pure_ (i := 9) (N := some 10) (v := ?_) (a' := ?_) #[true, true, true, true, true, true, true, true, true, true] rfl rfl (any_of HT_.out (by kernel_rfl)) (fun _ _ _ h => h) (Or.inl ⟨by rfl, ?_⟩) ?_ ?_
                                    rotate_left
                                    · intro w'
                                      go_simp
                                      with_reducible rfl
                                    rotate_left
                                    · simp only [Act.put, List.setIfInBounds_toArray, List.set_cons_zero, List.set_cons_succ, i64_w, i32_w]
                                      rfl
                                    refine done_ (done_of HT_.out (by kernel_rfl)) ?_
                                    try go_wp2_with (first | ((with_reducible refine gate_builtin (b := .append) (xs := #[.const (.slice none 0 0), .tmp 84]) rfl ?_); (try (refine gate_guard (by rfl) ?_; dsimp only)); at_builtin; refine Kd.R_append_rows k29 (w0 := w) w.heap.size rfl (.const (.slice none 0 0)) (.tmp 84) 22 29 (.agg #[(.int .i64 0), (.int .i64 0), (.int .i64 0), (.int .i64 0), (.int .i64 0)]) 40 rfl Try.underlying22 info29 rfl (by decide) (by omega) (.slice none 0 0) ([] : List (S29)) l0 _ _ _ (fun k_ => some k_ ≠ (v217 : Value).ownBlock ∧ k_ ≠ gb194 ∧ k_ ≠ gb195) (fun _ => False) rfl rfl ?aO ?aR (fun _ _ h => h) (fun _ h => h.elim) ?aF ?aB ?aS ?aL ?_; (case aR => repeat (first | exact (Kd.C_below HR0.out HB.out) | (with_reducible refine Kd.C_alloc ?_ _) | (with_reducible refine Kd.C_drewN ?_ _) | (with_reducible refine Kd.C_drew ?_))); (case aB => exact (by repeat (first | (with_reducible first | exact HB.out | apply below_alloc | apply pw_below_drewN | apply below_drew1 | refine below_set ?_ GE194.out | refine below_set ?_ GE195.out) | exact HB.out))); (case aF => exact (fun k_ hk => ⟨Kd.fresh' (Kd.R_lt (by (with_reducible repeat (first | apply Kd.R_alloc | apply Kd.R_drewN | apply Kd.R_drew)); exact HO218.out)) k_ hk, Kd.freshB (g := gb194) (o := .cells #[.int .i64 ((rd_T29 l0 a2).f0), .int .i64 ((rd_T29 l0 a2).f1), .int .i64 ((rd_T29 l0 a2).f2), .int .i64 ((rd_T29 l0 a2).f3), .int .i64 ((rd_T29 l0 a2).f4)] 29 (0, 0)) (by (with_reducible repeat (first | refine blk_drewN ?_ _ | refine blk_drew ?_ | refine blk_alloc ?_ _)); exact BK194.out) k_ hk, Kd.freshB (g := gb195) (o := .cells #[.int .i64 ((rd_T29 l0 a2).f0), .int .i64 ((rd_T29 l0 a2).f1), .int .i64 ((rd_T29 l0 a2).f2), .int .i64 ((rd_T29 l0 a2).f3), .int .i64 (wrap64 (((rd_T29 l0 a2).f4) + 1))] 29 (0, 0)) (by (with_reducible repeat (first | refine blk_drewN ?_ _ | refine blk_drew ?_ | refine blk_alloc ?_ _)); exact BK195.out) k_ hk⟩)); (case aO => exact ((Kd.R_nil _ _ _ _ (fun k_ => some k_ ≠ (v217 : Value).ownBlock ∧ k_ ≠ gb194 ∧ k_ ≠ gb195)))); (case aS => exact (below_size (by repeat (first | (with_reducible first | exact HB.out | apply below_alloc | apply pw_below_drewN | apply below_drew1 | refine below_set ?_ GE194.out | refine below_set ?_ GE195.out) | exact HB.out)))); (case aL => have := LMc62.out; omega); intro v220 w102 ho hb hg hat; rw [← Ny219.out] at ho; have n0_ := Aside0.mk (blk_grown (g := gb194) (o := .cells #[.int .i64 ((rd_T29 l0 a2).f0), .int .i64 ((rd_T29 l0 a2).f1), .int .i64 ((rd_T29 l0 a2).f2), .int .i64 ((rd_T29 l0 a2).f3), .int .i64 ((rd_T29 l0 a2).f4)] 29 (0, 0)) (by (with_reducible repeat (first | refine blk_drewN ?_ _ | refine blk_drew ?_ | refine blk_alloc ?_ _)); exact BK194.out) hg (by simp [Value.ownBlock])); have n1_ := Aside0.mk (blk_grown (g := gb195) (o := .cells #[.int .i64 ((rd_T29 l0 a2).f0), .int .i64 ((rd_T29 l0 a2).f1), .int .i64 ((rd_T29 l0 a2).f2), .int .i64 ((rd_T29 l0 a2).f3), .int .i64 (wrap64 (((rd_T29 l0 a2).f4) + 1))] 29 (0, 0)) (by (with_reducible repeat (first | refine blk_drewN ?_ _ | refine blk_drew ?_ | refine blk_alloc ?_ _)); exact BK195.out) hg (by simp [Value.ownBlock])); have n2_ := Aside0.mk (Kd.R_after (Kd.R_apart_nil (by (with_reducible repeat (first | apply Kd.R_alloc | apply Kd.R_drewN | apply Kd.R_drew)); exact HO218.out)) hg hat); have n3_ := Aside0.mk (hb); have n4_ := Aside0.mk (ho); clear BK194; clear BK195; clear HO218; clear HB; have BK194 := n0_; have BK195 := n1_; have HO218 := n2_; have HB := n3_; have HO221 := n4_; clear n0_ n1_ n2_ n3_ n4_; clear ho hb hg hat; have hnb103 := NB195_194.out; have hnc103 := NB194_195.out; have hcz104_0 : w102.cell? ⟨gb195, 0, none⟩ = some (.int .i64 ((rd_T29 l0 a2).f0)) := (blk_cell BK195.out 0).trans rfl; have hcz104_1 : w102.cell? ⟨gb195, 1, none⟩ = some (.int .i64 ((rd_T29 l0 a2).f1)) := (blk_cell BK195.out 1).trans rfl; have hcz104_2 : w102.cell? ⟨gb195, 2, none⟩ = some (.int .i64 ((rd_T29 l0 a2).f2)) := (blk_cell BK195.out 2).trans rfl; have hcz104_3 : w102.cell? ⟨gb195, 3, none⟩ = some (.int .i64 ((rd_T29 l0 a2).f3)) := (blk_cell BK195.out 3).trans rfl; have hcz104_4 : w102.cell? ⟨gb195, 4, none⟩ = some (.int .i64 (wrap64 (((rd_T29 l0 a2).f4) + 1))) := (blk_cell BK195.out 4).trans rfl; have hfz104_0 := blk_frozen BK195.out 0; have hfz104_1 := blk_frozen BK195.out 1; have hfz104_2 := blk_frozen BK195.out 2; have hfz104_3 := blk_frozen BK195.out 3; have hfz104_4 := blk_frozen BK195.out 4; have p64 : 0 ≤ (a2 : Int) := of_decide_eq_true (by first | (with_reducible assumption) | assumption); have q64 : (a2 : Int) < ((y219.length : Int) : Int) := of_decide_eq_true (by first | (with_reducible assumption) | assumption); obtain ⟨go64, co64, eo64, gb64, gl64, cl64, HG64⟩ := Kd.R_form HO221.out (by omega); (first | cases eo64 | (injection eo64 with ea_ en_ ec_; (first | subst ea_ | (injection ea_ with ea_; subst ea_)); subst ec_; clear en_)); have GB64 := Aside0.mk gb64; have GG64 := Aside0.mk HG64; clear gb64 gl64 HG64; obtain ⟨ce64, hcl64, hM64, hcc64, hfr64⟩ := Kd.R_elem HO221.out z29 (a2 : Int) p64 q64; obtain rfl := k29_openM hM64; have hx64_0 : w102.cell? ⟨go64, (a2 : Int).toNat * 5, none⟩ = some (.int .i64 ((rd_T29 y219 a2).f0)) := hcc64 0 _ rfl; have hx64_1 : w102.cell? ⟨go64, (a2 : Int).toNat * 5 + 1, none⟩ = some (.int .i64 ((rd_T29 y219 a2).f1)) := hcc64 1 _ rfl; have hx64_2 : w102.cell? ⟨go64, (a2 : Int).toNat * 5 + 2, none⟩ = some (.int .i64 ((rd_T29 y219 a2).f2)) := hcc64 2 _ rfl; have hx64_3 : w102.cell? ⟨go64, (a2 : Int).toNat * 5 + 3, none⟩ = some (.int .i64 ((rd_T29 y219 a2).f3)) := hcc64 3 _ rfl; have hx64_4 : w102.cell? ⟨go64, (a2 : Int).toNat * 5 + 4, none⟩ = some (.int .i64 ((rd_T29 y219 a2).f4)) := hcc64 4 _ rfl; have hf64_0 : w102.frozen? ⟨go64, (a2 : Int).toNat * 5, none⟩ = false := hfr64 0; have hf64_1 : w102.frozen? ⟨go64, (a2 : Int).toNat * 5 + 1, none⟩ = false := hfr64 1; have hf64_2 : w102.frozen? ⟨go64, (a2 : Int).toNat * 5 + 2, none⟩ = false := hfr64 2; have hf64_3 : w102.frozen? ⟨go64, (a2 : Int).toNat * 5 + 3, none⟩ = false := hfr64 3; have hf64_4 : w102.frozen? ⟨go64, (a2 : Int).toNat * 5 + 4, none⟩ = false := hfr64 4; clear hcl64 hcc64 hfr64 hM64; replace p64 := eq_true p64; replace q64 := eq_true q64; have HX105 := Aside0.mk (show Kd.R k29 29 w102 w.heap.size (fun k_ => some k_ ≠ (v217 : Value).ownBlock ∧ k_ ≠ gb194 ∧ k_ ≠ gb195) (.slice (some ⟨go64, 0, none⟩) y219.length co64) y219 from (by (with_reducible repeat (first | apply Kd.R_alloc | apply Kd.R_drewN | apply Kd.R_drew)); exact HO221.out)); obtain ⟨ce105, hcl105, hM105, hcc105, hfr105⟩ := Kd.R_elem HX105.out z29 (a2 : Int) (of_decide_eq_true (by first | (with_reducible assumption) | assumption)) (by have h_ : (a2 : Int) < ((y219.length : Int) : Int) := of_decide_eq_true (by first | (with_reducible assumption) | assumption); first | exact h_ | (have e_ := (Kd.R_reads' HO221.out).1; omega) | simpa using h_); obtain rfl := k29_openM hM105; have HP105 := Kd.R_seg HX105.out (a2 : Int) (of_decide_eq_true (by first | (with_reducible assumption) | assumption)) (by have h_ : (a2 : Int) < ((y219.length : Int) : Int) := of_decide_eq_true (by first | (with_reducible assumption) | assumption); first | exact h_ | (have e_ := (Kd.R_reads' HO221.out).1; omega) | simpa using h_) (seg := [.int .i64 ((rd_T29 l0 a2).f0), .int .i64 ((rd_T29 l0 a2).f1), .int .i64 ((rd_T29 l0 a2).f2), .int .i64 ((rd_T29 l0 a2).f3), .int .i64 (wrap64 (((rd_T29 l0 a2).f4) + 1))]) (j := 0) hcl105 hcc105 (show 5 ≤ 5 from by decide) (x' := (⟨((rd_T29 l0 a2).f0), ((rd_T29 l0 a2).f1), ((rd_T29 l0 a2).f2), ((rd_T29 l0 a2).f3), (wrap64 (((rd_T29 l0 a2).f4) + 1))⟩ : S29)) (k29_mkM _ _ _ (⟨((rd_T29 l0 a2).f0), ((rd_T29 l0 a2).f1), ((rd_T29 l0 a2).f2), ((rd_T29 l0 a2).f3), (wrap64 (((rd_T29 l0 a2).f4) + 1))⟩ : S29) ) (fun _ hk => hk); have hx105_0 := hcc105 0 _ rfl; (try simp only [show (k29).sz = 5 from rfl, Nat.mul_one, Nat.add_zero] at hx105_0); have hf105_0 := hfr105 0; (try simp only [show (k29).sz = 5 from rfl, Nat.mul_one, Nat.add_zero] at hf105_0); have hx105_1 := hcc105 1 _ rfl; (try simp only [show (k29).sz = 5 from rfl, Nat.mul_one, Nat.add_zero] at hx105_1); have hf105_1 := hfr105 1; (try simp only [show (k29).sz = 5 from rfl, Nat.mul_one, Nat.add_zero] at hf105_1); have hx105_2 := hcc105 2 _ rfl; (try simp only [show (k29).sz = 5 from rfl, Nat.mul_one, Nat.add_zero] at hx105_2); have hf105_2 := hfr105 2; (try simp only [show (k29).sz = 5 from rfl, Nat.mul_one, Nat.add_zero] at hf105_2); have hx105_3 := hcc105 3 _ rfl; (try simp only [show (k29).sz = 5 from rfl, Nat.mul_one, Nat.add_zero] at hx105_3); have hf105_3 := hfr105 3; (try simp only [show (k29).sz = 5 from rfl, Nat.mul_one, Nat.add_zero] at hf105_3); have hx105_4 := hcc105 4 _ rfl; (try simp only [show (k29).sz = 5 from rfl, Nat.mul_one, Nat.add_zero] at hx105_4); have hf105_4 := hfr105 4; (try simp only [show (k29).sz = 5 from rfl, Nat.mul_one, Nat.add_zero] at hf105_4); clear hcl105 hcc105 hfr105 hM105) | ((with_reducible refine gate_store (t := 29) (p := 89) rfl ?_); refine store_event (t := 29) (p := 89) (v := ?vo_w106) (w1 := (((((w102.setCell ⟨go64, (a2 : Int).toNat * 5, none⟩ (.int .i64 ((rd_T29 l0 a2).f0))).setCell ⟨go64, (a2 : Int).toNat * 5 + 1, none⟩ (.int .i64 ((rd_T29 l0 a2).f1))).setCell ⟨go64, (a2 : Int).toNat * 5 + 2, none⟩ (.int .i64 ((rd_T29 l0 a2).f2))).setCell ⟨go64, (a2 : Int).toNat * 5 + 3, none⟩ (.int .i64 ((rd_T29 l0 a2).f3))).setCell ⟨go64, (a2 : Int).toNat * 5 + 4, none⟩ (.int .i64 (wrap64 (((rd_T29 l0 a2).f4) + 1))))) ?hg ?ho ?hn ?hr ?_; (case ho => rfl); (case hg => rfl); (case hn => rfl); (case hr => first | (go_simp; done) | (go_simp; rfl)); intro w106 hw; have hg : w102.grownBy w106 (some go64) := (by rw [hw]; exact HP105.2); have hp_ : Kd.R k29 29 w106 w.heap.size (fun k_ => some k_ ≠ (v217 : Value).ownBlock ∧ k_ ≠ gb194 ∧ k_ ≠ gb195) (.slice (some ⟨go64, 0, none⟩) y219.length co64) y222 := (by rw [hw, Ny222.out]; exact HP105.1); clear HP105; have n0_ := Aside0.mk (blk_grown (g := gb194) (o := .cells #[.int .i64 ((rd_T29 l0 a2).f0), .int .i64 ((rd_T29 l0 a2).f1), .int .i64 ((rd_T29 l0 a2).f2), .int .i64 ((rd_T29 l0 a2).f3), .int .i64 ((rd_T29 l0 a2).f4)] 29 (0, 0)) (by (with_reducible repeat (first | refine blk_drewN ?_ _ | refine blk_drew ?_ | refine blk_alloc ?_ _)); exact BK194.out) hg (Kd.R_away HO221.out (fun _ hk => hk.2.1))); have n1_ := Aside0.mk (blk_grown (g := gb195) (o := .cells #[.int .i64 ((rd_T29 l0 a2).f0), .int .i64 ((rd_T29 l0 a2).f1), .int .i64 ((rd_T29 l0 a2).f2), .int .i64 ((rd_T29 l0 a2).f3), .int .i64 (wrap64 (((rd_T29 l0 a2).f4) + 1))] 29 (0, 0)) (by (with_reducible repeat (first | refine blk_drewN ?_ _ | refine blk_drew ?_ | refine blk_alloc ?_ _)); exact BK195.out) hg (Kd.R_away HO221.out (fun _ hk => hk.2.2))); have n2_ := Aside0.mk (Kd.R_after (v := (.slice (some ⟨go64, 0, none⟩) y219.length co64)) (v1 := (.slice (some ⟨go64, 0, none⟩) y219.length co64)) (ok := (fun k_ => k_ ≠ gb194 ∧ k_ ≠ gb195)) (by (with_reducible repeat (first | apply Kd.R_alloc | apply Kd.R_drewN | apply Kd.R_drew)); exact HO218.out) hg (.inl rfl)); have n3_ := Aside0.mk (hp_); have n4_ := Aside0.mk ((by rw [hw]; exact below_set (below_set (below_set (below_set (below_set (HB.out) GB64.out) GB64.out) GB64.out) GB64.out) GB64.out : Below w.heap.size w w106)); clear BK194; clear BK195; clear HO218; clear HO221; clear HB; have BK194 := n0_; have BK195 := n1_; have HO218 := n2_; have HO221 := n3_; have HB := n4_; clear n0_ n1_ n2_ n3_ n4_; clear hg hw hp_) | ((with_reducible refine gate_callee (f := 14) rfl ?_); refine goesL_ (some 92) rfl rfl Try.func14 (by kernel_rfl) rfl #[.slice (some ad193) l0.length c0, .int .i64 a1] rfl (by (try simp only [List.map_toArray, List.map_cons, List.map_nil]); first | done | rfl | (simp only [List.length_drop, List.length_take]; rfl)) ?_; (with_reducible refine (dover_Fits.calls kj18 _ _ l0 a1 false _ ?side1 ?side2 A65.out).mono ?_); (case side1 => repeat (first | exact (Kd.C_below HR0.out HB.out) | (with_reducible refine Kd.C_alloc ?_ _) | (with_reducible refine Kd.C_drewN ?_ _) | (with_reducible refine Kd.C_drew ?_))); (case side2 => exact HC0.out); rintro e w107 ⟨rfl, hb⟩; refine ⟨_, rfl, ?_⟩; have n0_ := Aside0.mk (Kd.R_below (by (with_reducible repeat (first | apply Kd.R_alloc | apply Kd.R_drewN | apply Kd.R_drew)); exact HO218.out) hb); have n1_ := Aside0.mk (Kd.R_below (by (with_reducible repeat (first | apply Kd.R_alloc | apply Kd.R_drewN | apply Kd.R_drew)); exact HO221.out) hb); have n2_ := Aside0.mk (blk_below (g := gb194) (o := .cells #[.int .i64 ((rd_T29 l0 a2).f0), .int .i64 ((rd_T29 l0 a2).f1), .int .i64 ((rd_T29 l0 a2).f2), .int .i64 ((rd_T29 l0 a2).f3), .int .i64 ((rd_T29 l0 a2).f4)] 29 (0, 0)) (by (with_reducible repeat (first | refine blk_drewN ?_ _ | refine blk_drew ?_ | refine blk_alloc ?_ _)); exact BK194.out) hb); have n3_ := Aside0.mk (blk_below (g := gb195) (o := .cells #[.int .i64 ((rd_T29 l0 a2).f0), .int .i64 ((rd_T29 l0 a2).f1), .int .i64 ((rd_T29 l0 a2).f2), .int .i64 ((rd_T29 l0 a2).f3), .int .i64 (wrap64 (((rd_T29 l0 a2).f4) + 1))] 29 (0, 0)) (by (with_reducible repeat (first | refine blk_drewN ?_ _ | refine blk_drew ?_ | refine blk_alloc ?_ _)); exact BK195.out) hb); have n4_ := Aside0.mk (below_step (by repeat (first | (with_reducible first | exact HB.out | apply below_alloc | apply pw_below_drewN | apply below_drew1 | refine below_set ?_ GE194.out | refine below_set ?_ GE195.out) | exact HB.out)) hb); clear HO218; clear HO221; clear BK194; clear BK195; clear HB; have HO218 := n0_; have HO221 := n1_; have BK194 := n2_; have BK195 := n3_; have HB := n4_; clear n0_ n1_ n2_ n3_ n4_; (try clear hb); (try clear hb2); (try clear hk); (try clear hi)))
                                    go_ret
                                    exact ⟨by first | rfl | (simp [errW_none, errW_some] <;> rfl) | (simp only [← hji58]; first | rfl | (simp [errW_none, errW_some] <;> rfl)) | (simp [*, errW_none, errW_some] <;> rfl), by repeat (first | (with_reducible first | exact HB.out | apply below_alloc | apply pw_below_drewN | apply below_drew1 | refine below_set ?_ GE194.out | refine below_set ?_ GE195.out) | exact HB.out)⟩
                                · rw [if_neg c63] at H
                                  exact absurd H (by simp)
                              · rw [if_neg c62] at H
                                exact absurd H (by simp)
                            · rw [if_neg c61] at H
                              exact absurd H (by simp)
                          · rw [if_neg c60] at H
                            exact absurd H (by simp)
                        · rw [if_neg c59] at H
                          exact absurd H (by simp)
                      · rw [if_neg c57] at H
                        exact absurd H (by simp)
                    · rw [if_neg c56] at H
                      exact absurd H (by simp)
                  · rw [if_neg c55] at H
                    exact absurd H (by simp)
          · rw [if_neg c18] at H
            exact absurd H (by simp)
        · rw [if_neg c17] at H
          exact absurd H (by simp)

end Go.Proofs.Ytmknoiiflciclaa.PA
