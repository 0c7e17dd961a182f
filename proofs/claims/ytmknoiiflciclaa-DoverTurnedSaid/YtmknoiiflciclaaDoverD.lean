import Derived.Test.YtmknoiiflciclaaDoverA
import Derived.Test.YtmknoiiflciclaaDoverB
import Derived.Test.YtmknoiiflciclaaDoverMap
import Derived.Test.YtmknoiiflciclaaDoverSpec
import Derived.Test.YtmknoiiflciclaaPAx0
import Derived.Test.YtmknoiiflciclaaPAx14
import Derived.Test.YtmknoiiflciclaaPAx15
import Derived.Test.YtmknoiiflciclaaDoverMap
import Derived.Test.YtmknoiiflciclaaDoverC
import Derived.Laws.CopyOwn
import Derived.Laws.EntriesVeiled
import Derived.Deep.RegionWith
import Derived.BigRegion
import Derived.Carry
namespace Go.Proofs.Ytmknoiiflciclaa.PA
open Go.RowKit Go.Proofs.YtmknoiiflciclaaW.PrintWords Go.Proofs.YtmknoiiflciclaaW.PrintLast Go.Proofs.YtmknoiiflciclaaW.PrintMore
attribute [local go_sem] max2_int min2_int max_two min_two max_three min_three max_four min_four
set_option linter.unusedVariables false
set_option linter.unusedSimpArgs false
/-- The picker. -/
structure PS (W : World) (g p m : Nat) (gv : Value) (cur : Int) (M : List S29) : Prop where
  g : W.heap[g]? = some (.cells #[.pointer (some ⟨p, 0, none⟩)] 41 (0, 0))
  p : W.heap[p]? = some (.cells #[.map (some m), gv, .int .i64 cur] 43 (0, 0))
  m : MapAt W m M
theorem PS.below {W W' : World} {g p m : Nat} {gv : Value} {cur : Int} {M : List S29} (h : PS W g p m gv cur M) (hb : Below W.heap.size W W') : PS W' g p m gv cur M := ⟨blk_below h.g hb, blk_below h.p hb, h.m.below hb⟩
theorem PS.alloc {W : World} {g p m : Nat} {gv : Value} {cur : Int} {M : List S29} (h : PS W g p m gv cur M) (o : Obj) : PS (W.alloc o) g p m gv cur M := h.below (below_alloc (Below.refl _ _) o)
theorem PS.ne {W : World} {g p m : Nat} {gv : Value} {cur : Int} {M : List S29} (h : PS W g p m gv cur M) : g ≠ p := blk_ne h.g h.p (by decide)
theorem decide_S29 (a b : S29) : decide (a = b) = decide (a.f0 = b.f0 ∧ a.f1 = b.f1 ∧ a.f2 = b.f2 ∧ a.f3 = b.f3 ∧ a.f4 = b.f4) := by
  apply decide_eq_decide.mpr
  constructor
  · rintro rfl
    simp
  · rintro ⟨h0, h1, h2, h3, h4⟩
    cases a
    cases b
    simp_all
theorem beats_f (v s : Int) : frac_Beats.f v s 4 = some (beatsS v s) := by
  have hin : ∀ n lo hi, frac_in.f n lo hi = some (decide (lo ≤ n ∧ n ≤ hi)) := fun n lo hi => by
    unfold frac_in.f
    split
    · congr 1
      simp
      omega
    · congr 1
      simp
      omega
  unfold frac_Beats.f beatsS
  simp only [hin, Option.bind_some]
  by_cases h0 : 0 ≤ v ∧ v ≤ 1048576
  · rw [if_pos (decide_eq_true h0)]
    by_cases h1 : 0 ≤ s ∧ s ≤ 1048576
    · rw [if_pos (decide_eq_true h1), if_pos (by decide)]
      by_cases h2 : v ≤ s
      · rw [if_pos h2, if_neg (by omega)]
      · rw [if_neg h2, if_pos (by omega)]
    · rw [if_neg (by simpa using h1), if_neg (by omega)]
  · rw [if_neg (by simpa using h0), if_neg (by omega)]
set_option maxHeartbeats 8000000 in
set_option maxRecDepth 100000 in
theorem hand_still {W : World} {g p m : Nat} {gv : Value} {cur : Int} {M : List S29} (h : PS W g p m gv cur M) (a : S29) :
    Calls Try.prog 21 #[apeV a, .pointer (some ⟨g, 0, none⟩)] W fun e w' => e = .returned (.bool (stillS M a)) ∧ Below W.heap.size W w' := by
  have hu29 := Try.underlying29
  have hu43 := Try.underlying43
  have hu3 := Try.underlying3
  have hst : stillS M a = ((getM M a.f0).isSome && decide (a = (getM M a.f0).getD z29)) := by
    unfold stillS
    cases getM M a.f0 with
    | none => simp
    | some c => simp [eq_comm]
  have hlk := (h.m.alloc (.cells #[.int .i64 a.f0, .int .i64 a.f1, .int .i64 a.f2, .int .i64 a.f3, .int .i64 a.f4] 29 (0, 0))).drew.look a.f0
  have hps := h.alloc (.cells #[.int .i64 a.f0, .int .i64 a.f1, .int .i64 a.f2, .int .i64 a.f3, .int .i64 a.f4] 29 (0, 0))
  have hc0 := (blk_cell hps.g 0).trans (by rfl : _ = some (.pointer (some ⟨p, 0, none⟩)))
  have hc1 := (blk_cell hps.p 0).trans (by rfl : _ = some (.map (some m)))
  have hlk2 := fun o => ((h.m.alloc (.cells #[.int .i64 a.f0, .int .i64 a.f1, .int .i64 a.f2, .int .i64 a.f3, .int .i64 a.f4] 29 (0, 0))).drew.alloc o).look a.f0
  have hn := blk_new W (.cells #[.int .i64 a.f0, .int .i64 a.f1, .int .i64 a.f2, .int .i64 a.f3, .int .i64 a.f4] 29 (0, 0))
  have hd0 := (blk_cell hn 0).trans (by rfl : _ = some (.int .i64 a.f0))
  generalize hgc : (getM M a.f0).getD z29 = c at hst hlk hlk2
  generalize hgi : (getM M a.f0).isSome = is at hst hlk hlk2
  clear hgc hgi
  unfold apeV at hlk hlk2
  replace hps := Aside0.mk hps
  replace hn := Aside0.mk hn
  replace hst := Aside0.mk hst
  clear h
  unfold apeV
  go_enter Try.func21, Try.ntmps21
  go_wp2_with fail
  refine start_ (n := 13) (S := fun w' => w'.cell? ⟨g, 0, none⟩ = some (.pointer (some ⟨p, 0, none⟩)) ∧ w'.cell? ⟨p, 0, none⟩ = some (.map (some m)) ∧ w'.cell? ⟨W.heap.size, 0, none⟩ = some (.int .i64 a.f0) ∧ (Instr.lookup 39 (.map (some m)) (.int .i64 a.f0) true).run Try.prog w' = .ok (.tuple #[.agg #[.int .i64 c.f0, .int .i64 c.f1, .int .i64 c.f2, .int .i64 c.f3, .int .i64 c.f4], .bool is]) w') (ds := [11]) #[false, false, false, false, false, false, false, false, false, false, false, false, false] (by kernel_rfl) rfl rfl ⟨hc0, hc1, hd0, hlk⟩ (fun hHeld => ?_)
  refine pure_ (i := 4) (N := some 11) (v := ?_) (a' := ?_) #[false, false, false, false, true, false, false, false, false, false, false, false, false] rfl rfl (by kernel_rfl) (fun _ _ _ h => h) (Or.inl ⟨by rfl, ?_⟩) ?_ ?_
  rotate_left
  · intro w'
    go_simp
    with_reducible rfl
  rotate_left
  · simp only [Act.put, List.setIfInBounds_toArray, List.set_cons_zero, List.set_cons_succ, i64_w, i32_w]
    rfl
  refine take_ (i := 0) (N := some 7) (v := ?_) (a' := ?_) #[true, false, false, false, true, false, false, false, false, false, false, false, false] rfl rfl (by kernel_rfl) (fun _ _ _ h => h) (Or.inl ⟨by rfl, ?_⟩) hHeld ?_ ?_
  rotate_left
  · rintro w' ⟨s0, s1, s2, s3⟩
    go_simp
    with_reducible rfl
  rotate_left
  · simp only [Act.put, List.setIfInBounds_toArray, List.set_cons_zero, List.set_cons_succ, i64_w, i32_w]
    rfl
  refine pure_ (i := 1) (N := some 8) (v := ?_) (a' := ?_) #[true, true, false, false, true, false, false, false, false, false, false, false, false] rfl rfl (by kernel_rfl) (fun _ _ _ h => h) (Or.inl ⟨by rfl, ?_⟩) ?_ ?_
  rotate_left
  · intro w'
    go_simp
    with_reducible rfl
  rotate_left
  · simp only [Act.put, List.setIfInBounds_toArray, List.set_cons_zero, List.set_cons_succ, i64_w, i32_w]
    rfl
  refine pure_ (i := 2) (N := some 9) (v := ?_) (a' := ?_) #[true, true, true, false, true, false, false, false, false, false, false, false, false] rfl rfl (by kernel_rfl) (fun _ _ _ h => h) (Or.inl ⟨by rfl, ?_⟩) ?_ ?_
  rotate_left
  · intro w'
    go_simp
    with_reducible rfl
  rotate_left
  · simp only [Act.put, List.setIfInBounds_toArray, List.set_cons_zero, List.set_cons_succ, i64_w, i32_w]
    rfl
  refine take_ (i := 3) (N := some 10) (v := ?_) (a' := ?_) #[true, true, true, true, true, false, false, false, false, false, false, false, false] rfl rfl (by kernel_rfl) (fun _ _ _ h => h) (Or.inl ⟨by rfl, ?_⟩) hHeld ?_ ?_
  rotate_left
  · rintro w' ⟨s0, s1, s2, s3⟩
    go_simp
    with_reducible rfl
  rotate_left
  · simp only [Act.put, List.setIfInBounds_toArray, List.set_cons_zero, List.set_cons_succ, i64_w, i32_w]
    rfl
  refine take_ (i := 5) (N := some 12) (v := ?_) (a' := ?_) #[true, true, true, true, true, true, false, false, false, false, false, false, false] rfl rfl (by kernel_rfl) (fun _ _ _ h => h) (Or.inl ⟨by rfl, ?_⟩) hHeld ?_ ?_
  rotate_left
  · rintro w' ⟨s0, s1, s2, s3⟩
    go_simp
    with_reducible rfl
  rotate_left
  · simp only [Act.put, List.setIfInBounds_toArray, List.set_cons_zero, List.set_cons_succ, i64_w, i32_w]
    rfl
  refine take_ (i := 6) (N := some 13) (v := ?_) (a' := ?_) #[true, true, true, true, true, true, true, false, false, false, false, false, false] rfl rfl (by kernel_rfl) (fun _ _ _ h => h) (Or.inl ⟨by rfl, ?_⟩) hHeld ?_ ?_
  rotate_left
  · rintro w' ⟨s0, s1, s2, s3⟩
    go_simp
    with_reducible rfl
  rotate_left
  · simp only [Act.put, List.setIfInBounds_toArray, List.set_cons_zero, List.set_cons_succ, i64_w, i32_w]
    rfl
  refine pure_ (i := 7) (N := some 6) (v := ?_) (a' := ?_) #[true, true, true, true, true, true, true, true, false, false, false, false, false] rfl rfl (by kernel_rfl) (fun _ _ _ h => h) (Or.inl ⟨by rfl, ?_⟩) ?_ ?_
  rotate_left
  · intro w'
    go_simp
    with_reducible rfl
  rotate_left
  · simp only [Act.put, List.setIfInBounds_toArray, List.set_cons_zero, List.set_cons_succ, i64_w, i32_w]
    rfl
  refine pure_ (i := 8) (N := some 14) (v := ?_) (a' := ?_) #[true, true, true, true, true, true, true, true, true, false, false, false, false] rfl rfl (by kernel_rfl) (fun _ _ _ h => h) (Or.inl ⟨by rfl, ?_⟩) ?_ ?_
  rotate_left
  · intro w'
    go_simp
    with_reducible rfl
  rotate_left
  · simp only [Act.put, List.setIfInBounds_toArray, List.set_cons_zero, List.set_cons_succ, i64_w, i32_w]
    rfl
  refine pure_ (i := 9) (N := some 15) (v := ?_) (a' := ?_) #[true, true, true, true, true, true, true, true, true, true, false, false, false] rfl rfl (by kernel_rfl) (fun _ _ _ h => h) (Or.inl ⟨by rfl, ?_⟩) ?_ ?_
  rotate_left
  · intro w'
    go_simp
    with_reducible rfl
  rotate_left
  · simp only [Act.put, List.setIfInBounds_toArray, List.set_cons_zero, List.set_cons_succ, i64_w, i32_w]
    rfl
  refine one_ (i := 10) (N := some 4) #[true, true, true, true, true, true, true, true, true, true, true, false, false] rfl rfl (by kernel_rfl) (by decide) (fun K hK => ?_)
  refine value_ (w1 := ?_) (v := ?_) (by rfl) rfl ?_ ?_
  rotate_left 2
  · go_simp
    constructor
    · rfl
    · rfl
  refine hK.out _ _ ⟨((blk_cell (blk_alloc (blk_drew hps.out.g) _) 0).trans rfl), ((blk_cell (blk_alloc (blk_drew hps.out.p) _) 0).trans rfl), ((blk_cell (blk_alloc (blk_drew hn.out) _) 0).trans rfl), (hlk2 _)⟩ (fun hHeld => ?_)
  clear hK K
  refine norm_ (a' := ?_) ?_ ?_
  rotate_left
  · show Act.put _ (some 4) _ = _
    simp only [Act.put, List.setIfInBounds_toArray, List.set_cons_zero, List.set_cons_succ, i64_w, i32_w]
    rfl
  refine last_ (i := 11) (N := none) #[true, true, true, true, true, true, true, true, true, true, true, true, false] rfl rfl (by kernel_rfl) (by decide) (fun K hK => ?_)
  refine skip_ (w1 := ?_) (by rfl) rfl ?_ ?_
  rotate_left
  · go_simp
    rfl
  refine hK.out _ _ ?_
  clear hK K
  refine pure_ (i := 12) (N := some 5) (v := ?_) (a' := ?_) #[true, true, true, true, true, true, true, true, true, true, true, true, true] rfl rfl (by kernel_rfl) (fun _ _ _ h => h) (Or.inl ⟨by rfl, ?_⟩) ?_ ?_
  rotate_left
  · intro w'
    go_simp
    with_reducible rfl
  rotate_left
  · simp only [Act.put, List.setIfInBounds_toArray, List.set_cons_zero, List.set_cons_succ, i64_w, i32_w]
    rfl
  refine done_ (by kernel_rfl) ?_

  have hbb := Aside0.mk (below_drew1 (below_alloc (below_alloc (Below.refl W.heap.size W) (.cells #[.int .i64 a.f0, .int .i64 a.f1, .int .i64 a.f2, .int .i64 a.f3, .int .i64 a.f4] 29 (0, 0))) (.cells #[.int .i64 c.f0, .int .i64 c.f1, .int .i64 c.f2, .int .i64 c.f3, .int .i64 c.f4] 29 (0, 0))))
  cases is with
  | false =>
    rw [Bool.false_and] at hst
    go_wp2_with fail
    go_ret
    exact ⟨by rw [hst.out]; rfl, hbb.out⟩
  | true =>
    rw [Bool.true_and, decide_S29] at hst
    go_wp2_with fail
    all_goals go_ret
    all_goals refine ⟨?_, below_drew1 (below_alloc (below_alloc (Below.refl _ _) _) _)⟩
    all_goals (rw [hst.out]; show Ending.returned (Value.bool _) = _; congr 2)
    all_goals first | (simp_all; done) | skip
set_option maxHeartbeats 8000000 in
set_option maxRecDepth 100000 in
theorem hand_beaten {W : World} {g p m : Nat} {gv : Value} {cur : Int} {M : List S29} (h : PS W g p m gv cur M) (a : S29) :
    Calls Try.prog 23 #[.pointer (some ⟨p, 0, none⟩), apeV a] W fun e w' => e = .returned (.bool (beatenS M cur a)) ∧ Below W.heap.size W w' := by
  have hu29 := Try.underlying29
  have hu43 := Try.underlying43
  have hu3 := Try.underlying3
  have hst : beatenS M cur a = (!(getM M cur).isSome || beatsS a.f3 ((getM M cur).getD z29).f3) := by
    unfold beatenS
    cases getM M cur with
    | none => simp
    | some c => simp
  have hlk := (h.m.alloc (.cells #[.int .i64 a.f0, .int .i64 a.f1, .int .i64 a.f2, .int .i64 a.f3, .int .i64 a.f4] 29 (0, 0))).drew.look cur
  have hlk2 := fun o => ((h.m.alloc (.cells #[.int .i64 a.f0, .int .i64 a.f1, .int .i64 a.f2, .int .i64 a.f3, .int .i64 a.f4] 29 (0, 0))).drew.alloc o).look cur
  have hps := h.alloc (.cells #[.int .i64 a.f0, .int .i64 a.f1, .int .i64 a.f2, .int .i64 a.f3, .int .i64 a.f4] 29 (0, 0))
  have hc0 := (blk_cell hps.p 0).trans (by rfl : _ = some (.map (some m)))
  have hc2 := (blk_cell hps.p 2).trans (by rfl : _ = some (.int .i64 cur))
  generalize hgc : (getM M cur).getD z29 = c at hst hlk hlk2
  generalize hgi : (getM M cur).isSome = is at hst hlk hlk2
  clear hgc hgi
  unfold apeV at hlk hlk2
  replace hps := Aside0.mk hps
  replace hst := Aside0.mk hst
  clear h
  unfold apeV
  go_enter Try.func23, Try.ntmps23
  go_wp2_with fail
  refine start_ (n := 15) (S := fun w' => w'.cell? ⟨p, 0, none⟩ = some (.map (some m)) ∧ w'.cell? ⟨p, 2, none⟩ = some (.int .i64 cur) ∧ (Instr.lookup 39 (.map (some m)) (.int .i64 cur) true).run Try.prog w' = .ok (.tuple #[.agg #[.int .i64 c.f0, .int .i64 c.f1, .int .i64 c.f2, .int .i64 c.f3, .int .i64 c.f4], .bool is]) w') (ds := [13]) #[false, false, false, false, false, false, false, false, false, false, false, false, false, false, false] (by kernel_rfl) rfl rfl ⟨hc0, hc2, hlk⟩ (fun hHeld => ?_)
  refine pure_ (i := 0) (N := some 8) (v := ?_) (a' := ?_) #[true, false, false, false, false, false, false, false, false, false, false, false, false, false, false] rfl rfl (by kernel_rfl) (fun _ _ _ h => h) (Or.inl ⟨by rfl, ?_⟩) ?_ ?_
  rotate_left
  · intro w'
    go_simp
    with_reducible rfl
  rotate_left
  · simp only [Act.put, List.setIfInBounds_toArray, List.set_cons_zero, List.set_cons_succ, i64_w, i32_w]
    rfl
  refine pure_ (i := 1) (N := some 9) (v := ?_) (a' := ?_) #[true, true, false, false, false, false, false, false, false, false, false, false, false, false, false] rfl rfl (by kernel_rfl) (fun _ _ _ h => h) (Or.inl ⟨by rfl, ?_⟩) ?_ ?_
  rotate_left
  · intro w'
    go_simp
    with_reducible rfl
  rotate_left
  · simp only [Act.put, List.setIfInBounds_toArray, List.set_cons_zero, List.set_cons_succ, i64_w, i32_w]
    rfl
  refine pure_ (i := 2) (N := some 10) (v := ?_) (a' := ?_) #[true, true, true, false, false, false, false, false, false, false, false, false, false, false, false] rfl rfl (by kernel_rfl) (fun _ _ _ h => h) (Or.inl ⟨by rfl, ?_⟩) ?_ ?_
  rotate_left
  · intro w'
    go_simp
    with_reducible rfl
  rotate_left
  · simp only [Act.put, List.setIfInBounds_toArray, List.set_cons_zero, List.set_cons_succ, i64_w, i32_w]
    rfl
  refine pure_ (i := 4) (N := some 12) (v := ?_) (a' := ?_) #[true, true, true, false, true, false, false, false, false, false, false, false, false, false, false] rfl rfl (by kernel_rfl) (fun _ _ _ h => h) (Or.inl ⟨by rfl, ?_⟩) ?_ ?_
  rotate_left
  · intro w'
    go_simp
    with_reducible rfl
  rotate_left
  · simp only [Act.put, List.setIfInBounds_toArray, List.set_cons_zero, List.set_cons_succ, i64_w, i32_w]
    rfl
  refine pure_ (i := 5) (N := some 13) (v := ?_) (a' := ?_) #[true, true, true, false, true, true, false, false, false, false, false, false, false, false, false] rfl rfl (by kernel_rfl) (fun _ _ _ h => h) (Or.inl ⟨by rfl, ?_⟩) ?_ ?_
  rotate_left
  · intro w'
    go_simp
    with_reducible rfl
  rotate_left
  · simp only [Act.put, List.setIfInBounds_toArray, List.set_cons_zero, List.set_cons_succ, i64_w, i32_w]
    rfl
  refine pure_ (i := 6) (N := some 14) (v := ?_) (a' := ?_) #[true, true, true, false, true, true, true, false, false, false, false, false, false, false, false] rfl rfl (by kernel_rfl) (fun _ _ _ h => h) (Or.inl ⟨by rfl, ?_⟩) ?_ ?_
  rotate_left
  · intro w'
    go_simp
    with_reducible rfl
  rotate_left
  · simp only [Act.put, List.setIfInBounds_toArray, List.set_cons_zero, List.set_cons_succ, i64_w, i32_w]
    rfl
  refine take_ (i := 3) (N := some 11) (v := ?_) (a' := ?_) #[true, true, true, true, true, true, true, false, false, false, false, false, false, false, false] rfl rfl (by kernel_rfl) (fun _ _ _ h => h) (Or.inl ⟨by rfl, ?_⟩) hHeld ?_ ?_
  rotate_left
  · rintro w' ⟨s0, s1, s2⟩
    go_simp
    with_reducible rfl
  rotate_left
  · simp only [Act.put, List.setIfInBounds_toArray, List.set_cons_zero, List.set_cons_succ, i64_w, i32_w]
    rfl
  refine take_ (i := 7) (N := some 15) (v := ?_) (a' := ?_) #[true, true, true, true, true, true, true, true, false, false, false, false, false, false, false] rfl rfl (by kernel_rfl) (fun _ _ _ h => h) (Or.inl ⟨by rfl, ?_⟩) hHeld ?_ ?_
  rotate_left
  · rintro w' ⟨s0, s1, s2⟩
    go_simp
    with_reducible rfl
  rotate_left
  · simp only [Act.put, List.setIfInBounds_toArray, List.set_cons_zero, List.set_cons_succ, i64_w, i32_w]
    rfl
  refine take_ (i := 8) (N := some 16) (v := ?_) (a' := ?_) #[true, true, true, true, true, true, true, true, true, false, false, false, false, false, false] rfl rfl (by kernel_rfl) (fun _ _ _ h => h) (Or.inl ⟨by rfl, ?_⟩) hHeld ?_ ?_
  rotate_left
  · rintro w' ⟨s0, s1, s2⟩
    go_simp
    with_reducible rfl
  rotate_left
  · simp only [Act.put, List.setIfInBounds_toArray, List.set_cons_zero, List.set_cons_succ, i64_w, i32_w]
    rfl
  refine pure_ (i := 9) (N := some 7) (v := ?_) (a' := ?_) #[true, true, true, true, true, true, true, true, true, true, false, false, false, false, false] rfl rfl (by kernel_rfl) (fun _ _ _ h => h) (Or.inl ⟨by rfl, ?_⟩) ?_ ?_
  rotate_left
  · intro w'
    go_simp
    with_reducible rfl
  rotate_left
  · simp only [Act.put, List.setIfInBounds_toArray, List.set_cons_zero, List.set_cons_succ, i64_w, i32_w]
    rfl
  refine pure_ (i := 10) (N := some 17) (v := ?_) (a' := ?_) #[true, true, true, true, true, true, true, true, true, true, true, false, false, false, false] rfl rfl (by kernel_rfl) (fun _ _ _ h => h) (Or.inl ⟨by rfl, ?_⟩) ?_ ?_
  rotate_left
  · intro w'
    go_simp
    with_reducible rfl
  rotate_left
  · simp only [Act.put, List.setIfInBounds_toArray, List.set_cons_zero, List.set_cons_succ, i64_w, i32_w]
    rfl
  refine pure_ (i := 11) (N := some 18) (v := ?_) (a' := ?_) #[true, true, true, true, true, true, true, true, true, true, true, true, false, false, false] rfl rfl (by kernel_rfl) (fun _ _ _ h => h) (Or.inl ⟨by rfl, ?_⟩) ?_ ?_
  rotate_left
  · intro w'
    go_simp
    with_reducible rfl
  rotate_left
  · simp only [Act.put, List.setIfInBounds_toArray, List.set_cons_zero, List.set_cons_succ, i64_w, i32_w]
    rfl
  refine one_ (i := 12) (N := some 5) #[true, true, true, true, true, true, true, true, true, true, true, true, true, false, false] rfl rfl (by kernel_rfl) (by decide) (fun K hK => ?_)
  refine value_ (w1 := ?_) (v := ?_) (by rfl) rfl ?_ ?_
  rotate_left 2
  · go_simp
    constructor
    · rfl
    · rfl
  refine hK.out _ _ ⟨((blk_cell (blk_alloc (blk_drew hps.out.p) _) 0).trans rfl), ((blk_cell (blk_alloc (blk_drew hps.out.p) _) 2).trans rfl), (hlk2 _)⟩ (fun hHeld => ?_)
  clear hK K
  refine norm_ (a' := ?_) ?_ ?_
  rotate_left
  · show Act.put _ (some 5) _ = _
    simp only [Act.put, List.setIfInBounds_toArray, List.set_cons_zero, List.set_cons_succ, i64_w, i32_w]
    rfl
  refine last_ (i := 13) (N := none) #[true, true, true, true, true, true, true, true, true, true, true, true, true, true, false] rfl rfl (by kernel_rfl) (by decide) (fun K hK => ?_)
  refine skip_ (w1 := ?_) (by rfl) rfl ?_ ?_
  rotate_left
  · go_simp
    rfl
  refine hK.out _ _ ?_
  clear hK K
  refine pure_ (i := 14) (N := some 6) (v := ?_) (a' := ?_) #[true, true, true, true, true, true, true, true, true, true, true, true, true, true, true] rfl rfl (by kernel_rfl) (fun _ _ _ h => h) (Or.inl ⟨by rfl, ?_⟩) ?_ ?_
  rotate_left
  · intro w'
    go_simp
    with_reducible rfl
  rotate_left
  · simp only [Act.put, List.setIfInBounds_toArray, List.set_cons_zero, List.set_cons_succ, i64_w, i32_w]
    rfl
  refine done_ (by kernel_rfl) ?_

  have hbb := Aside0.mk (below_drew1 (below_alloc (below_alloc (Below.refl W.heap.size W) (.cells #[.int .i64 a.f0, .int .i64 a.f1, .int .i64 a.f2, .int .i64 a.f3, .int .i64 a.f4] 29 (0, 0))) (.cells #[.int .i64 c.f0, .int .i64 c.f1, .int .i64 c.f2, .int .i64 c.f3, .int .i64 c.f4] 29 (0, 0))))
  cases is with
  | false =>
    go_wp2_with fail
    go_ret
    exact ⟨by rw [hst.out]; rfl, hbb.out⟩
  | true =>
    go_wp2_with fail
    refine (frac_Beats.calls _ _ _ _ _ (beats_f a.f3 c.f3)).mono ?_
    rintro e w2 ⟨rfl, hb2⟩
    go_wp2_with fail
    go_ret
    exact ⟨by rw [hst.out]; rfl, below_step hbb.out (by first | exact hb2 | exact Drawn0.below hb2)⟩
theorem R_map {α : Type} {d : Kd α} {e base m : Nat} {ok : Nat → Prop} {W w1 : World} {v : Value} {xs : List α} {M : List S29} (h : d.R e W base ok v xs) (hm : MapAt W m M) (hg : W.grownBy w1 (some m)) : d.R e w1 base ok v xs :=
  Kd.R_mono (Kd.R_step (Kd.R_bound h) (fun k hk hlt => hg.block k hlt (fun e => by
    obtain ⟨_, _, _, q, _, cells, hc⟩ := hk
    obtain ⟨es, clock, hb, _⟩ := hm
    injection e with e
    rw [← e, hc] at hb
    cases hb))) (fun k hk => hk.1)
theorem PS.map {W w1 : World} {g p m : Nat} {gv : Value} {cur : Int} {M M' : List S29} (h : PS W g p m gv cur M) (hM : MapAt w1 m M') (hg : W.grownBy w1 (some m)) : PS w1 g p m gv cur M' := by
  obtain ⟨es, clock, hb, _⟩ := h.m
  refine ⟨(hg.block g (Array.getElem?_eq_some_iff.1 h.g).1 (fun e => ?_)).trans h.g, (hg.block p (Array.getElem?_eq_some_iff.1 h.p).1 (fun e => ?_)).trans h.p, hM⟩
  · injection e with e
    have := h.g
    rw [e, hb] at this
    cases this
  · injection e with e
    have := h.p
    rw [e, hb] at this
    cases this
theorem PS.grown {W w1 : World} {base g p m : Nat} {gv u : Value} {cur : Int} {M : List S29} {α : Type} {d : Kd α} {e : Nat} {ok : Nat → Prop} {xs : List α} (h : PS W g p m gv cur M) (hu : d.R e W base ok u xs) (h1 : e ≠ 41) (h2 : e ≠ 43) (hg : W.grownBy w1 u.ownBlock) : PS w1 g p m gv cur M := by
  refine ⟨(hg.block g (Array.getElem?_eq_some_iff.1 h.g).1 (Kd.R_ne hu h.g h1)).trans h.g, (hg.block p (Array.getElem?_eq_some_iff.1 h.p).1 (Kd.R_ne hu h.p h2)).trans h.p, h.m.kept hg (fun e => ?_)⟩
  obtain ⟨cells, hc⟩ := Kd.R_typed hu m e.symm
  obtain ⟨es, clock, hb, _⟩ := h.m
  rw [hc] at hb
  cases hb
/-- No block of jobs has turned. -/
def Keep29 (W W' : World) : Prop := ∀ (k : Nat) (cells : Array Value), W.heap[k]? = some (Obj.cells cells 29 (0, 0)) → W'.heap[k]? = some (Obj.cells cells 29 (0, 0))
theorem Keep29.trans {a b c : World} (h : Keep29 a b) (k : Keep29 b c) : Keep29 a c := fun i cs hi => k i cs (h i cs hi)
theorem Keep29.below {W W' : World} (h : Below W.heap.size W W') : Keep29 W W' := fun k cells hk => blk_below hk h
theorem Keep29.map {W W' : World} {m : Nat} {M : List S29} (hm : MapAt W m M) (h : W.grownBy W' (some m)) : Keep29 W W' := fun k cells hk => (h.block k (Array.getElem?_eq_some_iff.1 hk).1 (fun e => by
  injection e with e
  obtain ⟨es, clock, hb, _⟩ := hm
  rw [← e, hk] at hb
  cases hb)).trans hk
theorem Keep29.set {W : World} {p t j : Nat} {cells : Array Value} {u : Value} (hp : W.heap[p]? = some (.cells cells t (0, 0))) (ht : t ≠ 29) : Keep29 W (W.setCell ⟨p, j, none⟩ u) := fun k cs hk => (Below.heap_setCell W ⟨p, j, none⟩ u k (fun e => by
  rw [show k = p from e, hp] at hk
  injection hk with hk
  injection hk with _ hk
  exact ht hk)).trans hk
theorem Keep29.row {W W' : World} {α : Type} {d : Kd α} {e base : Nat} {ok : Nat → Prop} {v : Value} {xs : List α} (h : d.R e W base ok v xs) (ht : e ≠ 29) (hg : W.grownBy W' v.ownBlock) : Keep29 W W' := fun k cs hk => (hg.block k (Array.getElem?_eq_some_iff.1 hk).1 (Kd.R_ne h hk ht)).trans hk
theorem Keep29.R {W W' : World} {base : Nat} {ok : Nat → Prop} {v : Value} {xs : List S29} (hk : Keep29 W W') (h : Kd.R k29 29 W base ok v xs) : Kd.R k29 29 W' base ok v xs :=
  Kd.R_mono (Kd.R_move (Kd.R_bound h) (fun k ho => by
    obtain ⟨_, _, _, q, hq, cells, hc⟩ := ho
    have : q = 29 := by simpa [k29, Kd.iso, Kd.pair, Kd.int, Kd.scalar] using hq
    subst this
    rw [hc]
    exact hk k cells hc)) (fun k ho => ho.1)
set_option maxHeartbeats 8000000 in
set_option maxRecDepth 100000 in
theorem hand_go1 {W : World} {base g p m : Nat} {gv : Value} {cur : Int} {M : List S29} {G : List Int} (h : PS W g p m gv cur M) (hG : Kd.R (Kd.int .i64) 3 W base (fun _ => True) gv G) (hp : base ≤ p) (hm : base ≤ m) (hb : base ≤ W.heap.size) (hGl : G.length ≤ 1000) (id : Int) :
    Calls Try.prog 20 #[.pointer (some ⟨p, 0, none⟩), .int .i64 id] W fun e w' => e = .returned (.tuple #[]) ∧ ∃ gv', PS w' g p m gv' cur (delM M id) ∧ Kd.R (Kd.int .i64) 3 w' base (fun _ => True) gv' (G ++ [id]) ∧ Below base W w' ∧ Keep29 W w' := by
  have hu43 := Try.underlying43
  have hu3 := Try.underlying3
  have hu25 := Try.underlying25
  have hc0 := (blk_cell h.p 0).trans (by rfl : _ = some (.map (some m)))
  obtain ⟨w1, hrun, hM1, hg1⟩ := h.m.drop id 0
  have hP1 := h.map hM1 hg1
  have hG1 := R_map hG h.m hg1
  have hk1 := Keep29.map h.m hg1
  replace hk1 := Aside0.mk hk1
  have hB1 := below_grown (Below.refl base W) hg1 hm hb
  have hc1 := (blk_cell hP1.p 1).trans (by rfl : _ = some gv)
  have hS1 : base ≤ w1.heap.size := Nat.le_trans hb hg1.size
  clear h hG hg1 hM1
  replace hP1 := Aside0.mk hP1
  replace hG1 := Aside0.mk hG1
  replace hB1 := Aside0.mk hB1
  replace hS1 := Aside0.mk hS1
  replace hGl := Aside0.mk hGl
  go_enter Try.func20, Try.ntmps20
  go_wp2_with ((with_reducible refine gate_builtin (b := .append) (xs := #[.tmp 13, .tmp 15]) rfl ?_); at_builtin; go_loud (refine Kd.R_append (Kd.int .i64) (w0 := W) (W := w1) base rfl (.tmp 13) (.tmp 15) 25 3 (.int .i64 0) 8 rfl Try.underlying25 info3 rfl (by decide) (by omega) gv G id [.int .i64 id] (fun _ => True) (fun _ => False) rfl rfl ?aP (fun _ hk => hk.elim) ?aF ?aO ?aB ?aS ?aL ?_); (case aP => exact rfl); (case aF => exact fun _ _ => trivial); (case aO => exact hG1.out); (case aB => exact hB1.out); (case aS => exact hS1.out); (case aL => have := hGl.out; omega); intro v1 w3 ho hb3 hg hat; clear hat; obtain ⟨Av, cv, rfl⟩ := Kd.R_slice ho; have hk3 := Aside0.mk (hk1.out.trans (Keep29.row hG1.out (by decide) hg)); have hP3 := Aside0.mk (hP1.out.grown hG1.out (by decide) (by decide) hg); replace ho := Aside0.mk ho; replace hb3 := Aside0.mk hb3; clear hg; have hf3 := blk_frozen hP3.out.p 1; have hc3 := (blk_cell hP3.out.p 1).trans (by rfl : _ = some gv))
  have hP4 : PS (w3.setCell ⟨p, 1, none⟩ (.slice Av (G ++ [id]).length cv)) g p m (.slice Av (G ++ [id]).length cv) cur (delM M id) :=
    ⟨blk_far hP3.out.g (p := ⟨p, 1, none⟩) hP3.out.ne _, blk_put hP3.out.p 1 _ rfl, hP3.out.m.setCell _ _ (fun e => by
      obtain ⟨es, clock, hb, _⟩ := hP3.out.m
      have h43 := hP3.out.p
      rw [show p = m from e, hb] at h43
      cases h43)⟩
  have ho4 := ho.out
  rw [List.length_append, List.length_singleton] at hP4 ho4
  exact bodyPost_end (results_none rfl _ _ _) rfl ⟨rfl, _, hP4, Kd.R_set ho4 hP3.out.p (fun q hq => by simp [Kd.int, Kd.scalar] at hq; omega) 1 _, hb3.out.trans (below_grown (Below.refl _ _) (grown_setCell w3 ⟨p, 1, none⟩ _) hp (Nat.le_trans hb hb3.out.size)), hk3.out.trans (Keep29.set hP3.out.p (by decide))⟩
set_option maxHeartbeats 8000000 in
set_option maxRecDepth 100000 in
theorem hand_index {W : World} {g p m : Nat} {gv : Value} {cur : Int} {M : List S29} {A : Option Addr} {c : Nat} {T : List S29} (h : PS W g p m gv cur M) (hr : Kd.C k29 W A T.length T) :
    Calls Try.prog 24 #[.slice A T.length c, .func (.func 21) #[] #[.pointer (some ⟨g, 0, none⟩)]] W fun e w' => ∃ r : Int, e = .returned (.int .i64 r) ∧ ((r = -1 ∧ ∀ i, i < T.length → stillS M (at_ T i) = false) ∨ ∃ j, j < T.length ∧ r = (j : Int) ∧ stillS M (at_ T j) = true ∧ ∀ i, i < j → stillS M (at_ T i) = false) ∧ Below W.heap.size W w' := by
  have hu22 := Try.underlying22
  have hu29 := Try.underlying29
  have hlen : (T.length : Int) ≤ 9223372036854775807 := by
    have := hr.2.1
    omega
  replace hr := Aside0.mk hr
  replace h := Aside0.mk h
  go_enter Try.func24, Try.ntmps24
  go_wp2_with fail
  go_loopw [8] (fun v wr => ∃ (j : Nat), v = .int .i64 (j : Int) ∧ j ≤ T.length ∧ Aside0 (∀ i, i < j → stillS M (at_ T i) = false) ∧ Aside0 (Below W.heap.size W wr)) (fun v _ => T.length - (intOf v).toNat)
  case atStart => exact ⟨0, rfl, by omega, ⟨fun i hi => absurd hi (Nat.not_lt_zero _)⟩, ⟨Below.refl _ _⟩⟩
  case round =>
    obtain ⟨j, rfl, hj, hn, hb⟩ := hrel
    by_cases h1 : j < T.length
    · have d1 : decide ((j : Int) < (T.length : Int)) = true := decide_eq_true (by omega)
      have hC := Kd.C_below hr.out hb.out
      obtain ⟨ad, rfl, hc0, hc1, hc2, hc3, hc4⟩ := at_T29 hC (j : Int) (by omega) (by omega)
      rw [Int.toNat_natCast] at hc0 hc1 hc2 hc3 hc4
      rw [rd_at] at hc0 hc1 hc2 hc3 hc4
      have hj0 : (0 : Int) ≤ j := by omega
      have hj1 : (j : Int) < (T.length : Int) := by omega
      have hps := Aside0.mk (h.out.below hb.out)
      clear hC
      go_wp2_with fail
      refine (hand_still hps.out (at_ T j)).mono ?_
      rintro e w1 ⟨rfl, hb1⟩
      have hb2 := Aside0.mk (below_step hb.out hb1)
      clear hb1
      cases h2 : stillS M (at_ T j) with
      | true =>
        go_wp2_with fail
        go_ret
        exact ⟨j, rfl, .inr ⟨j, h1, rfl, h2, hn.out⟩, hb2.out⟩
      | false =>
        have hn2 : Aside0 (∀ i, i < j + 1 → stillS M (at_ T i) = false) := ⟨fun i hi => by
          rcases Nat.lt_or_ge i j with h | h
          · exact hn.out i h
          · rw [show i = j from by omega]
            exact h2⟩
        go_wp2_with fail
        go_roundw
        case rel => exact ⟨j + 1, rfl, by omega, hn2, hb2⟩
        case measure => simp [intOf] <;> omega
    · have d1 : decide ((j : Int) < (T.length : Int)) = false := decide_eq_false (by omega)
      have hjT : j = T.length := by omega
      go_wp2_with fail
      go_ret
      exact ⟨-1, rfl, .inl ⟨rfl, fun i hi => hn.out i (by omega)⟩, hb.out⟩
end Go.Proofs.Ytmknoiiflciclaa.PA
