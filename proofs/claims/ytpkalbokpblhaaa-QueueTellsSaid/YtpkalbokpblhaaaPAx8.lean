-- Written for this claim by a program (the kit's print over a changed input, then joined with texts by hand).
import Derived.Test.YtpkalbokpblhaaaPAx0
namespace Go.Proofs.Ytpkalbokpblhaaa.PA
open Go.RowKit Go.Proofs.YtpkalbokpblhaaaW.PrintWords Go.Proofs.YtpkalbokpblhaaaW.PrintLast Go.Proofs.YtpkalbokpblhaaaW.PrintMore
attribute [local go_sem] max2_int min2_int max_two min_two max_three min_three max_four min_four   -- for this text's walks alone
set_option linter.unusedVariables false
set_option linter.unusedSimpArgs false

/-! ### queue_at: function 27 -/
def queue_at.l0 : Nat → List (S24) → Int → Int → Option (Int)
  | 0, _, _, _ => none
  | k + 1, x0, x1, x5 => if x5 < (x0.length : Int) then (if 0 ≤ x5 then (if ((rd_T24 x0 x5).f1) = x1 then (some x5) else (queue_at.l0 k x0 x1 (wrap64 (x5 + 1)))) else (none)) else (some (-1))
def queue_at.f (k : Nat) (l0 : List (S24)) (a1 : Int) : Option (Int) := queue_at.l0 k l0 a1 0
theorem queue_at.mono_l : ∀ k, (∀ y0 y1 y2, LeO (queue_at.l0 k y0 y1 y2) (queue_at.l0 (k + 1) y0 y1 y2))
  | 0 => fun _ _ _ r h => by simp [queue_at.l0] at h
  | k + 1 => by
    have ih0 := queue_at.mono_l k
    · intro y0 y1 y2
      unfold queue_at.l0
      repeat' first
      | (with_reducible exact ih0 _ _ _)
      | (with_reducible exact LeO.refl _)
      | (with_reducible exact LeO.none _)
      | (with_reducible refine LeO.ite ?_ ?_)
      | (with_reducible refine LeO.bind ?_ (fun _ => ?_))
      | exact ih0 _ _ _
      | exact LeO.none _
      | refine LeO.ite ?_ ?_
      | refine LeO.bind ?_ (fun _ => ?_)
theorem queue_at.mono : ∀ a0 a1 k, LeO (queue_at.f k a0 a1) (queue_at.f (k + 1) a0 a1) := by
  intro a0 a1 k
  have ih0 := queue_at.mono_l k
  unfold queue_at.f
  repeat' first
      | (with_reducible exact ih0 _ _ _)
      | (with_reducible exact LeO.refl _)
      | (with_reducible exact LeO.none _)
      | (with_reducible refine LeO.ite ?_ ?_)
      | (with_reducible refine LeO.bind ?_ (fun _ => ?_))
      | exact ih0 _ _ _
      | exact LeO.none _
      | refine LeO.ite ?_ ?_
      | refine LeO.bind ?_ (fun _ => ?_)
set_option maxHeartbeats 4000000 in
set_option maxRecDepth 100000 in
theorem hand_at1 {W : World} {g : Nat} {id : Int} (x : S24) (hg : W.heap[g]? = some (.cells #[.int .i64 id] 3 (0, 0))) :
    Calls Try.prog 38 #[.agg #[.int .i64 x.f0, .int .i64 x.f1], .pointer (some ⟨g, 0, none⟩)] W fun e w' => e = .returned (.bool (decide (x.f1 = id))) ∧ Below W.heap.size W w' := by
  have hu24 := Try.underlying24
  have hu3 := Try.underlying3
  have hb0 := below_alloc (Below.refl W.heap.size W) (.cells #[.int .i64 x.f0, .int .i64 x.f1] 24 (0, 0))
  have hc : (W.alloc (.cells #[.int .i64 x.f0, .int .i64 x.f1] 24 (0, 0))).cell? ⟨g, 0, none⟩ = some (.int .i64 id) := (blk_cell (blk_alloc hg _) 0).trans rfl
  have hn := blk_new W (.cells #[.int .i64 x.f0, .int .i64 x.f1] 24 (0, 0))
  have hd0 := (blk_cell hn 0).trans (by rfl : _ = some (.int .i64 x.f0))
  have hd1 := (blk_cell hn 1).trans (by rfl : _ = some (.int .i64 x.f1))
  clear hn
  replace hb0 := Aside0.mk hb0
  go_enter Try.func38, Try.ntmps38
  go_wp2_with fail
  go_ret
  refine ⟨?_, hb0.out⟩
  by_cases h : x.f1 = id
  · simp [h]
  · simp [h]
set_option maxHeartbeats 4000000 in
set_option maxRecDepth 100000 in
theorem hand_IndexFunc {W : World} {g k : Nat} {id r : Int} {A : Option Addr} {c : Nat} {l0 : List S24} (hr : Kd.C k24 W A l0.length l0) (hg : W.heap[g]? = some (.cells #[.int .i64 id] 3 (0, 0))) (h : queue_at.l0 k l0 id 0 = some r) :
    Calls Try.prog 37 #[.slice A l0.length c, .func (.func 38) #[] #[.pointer (some ⟨g, 0, none⟩)]] W fun e w' => e = .returned (.int .i64 r) ∧ Below W.heap.size W w' := by
  have hu22 := Try.underlying22
  have hu24 := Try.underlying24
  have hlen : (l0.length : Int) ≤ 9223372036854775807 := by
    have := hr.2.1
    omega
  replace hr := Aside0.mk hr
  replace hg := Aside0.mk hg
  replace h := Aside0.mk h
  go_enter Try.func37, Try.ntmps37
  go_wp2_with fail
  go_loopw [8] (fun v wr => ∃ (j k : Nat), v = .int .i64 (j : Int) ∧ j ≤ l0.length ∧ Aside0 (queue_at.l0 k l0 id (j : Int) = some r) ∧ Aside0 (Below W.heap.size W wr)) (fun v _ => l0.length - (intOf v).toNat)
  case atStart => exact ⟨0, k, rfl, by omega, h, ⟨Below.refl _ _⟩⟩
  case round =>
    clear h
    obtain ⟨j, k, rfl, hj, h, hb⟩ := hrel
    cases k with
    | zero => exact absurd h.out (by simp [queue_at.l0])
    | succ k =>
      have h := h.out
      unfold queue_at.l0 at h
      by_cases h1 : j < l0.length
      · have d1 : decide ((j : Int) < (l0.length : Int)) = true := decide_eq_true (by omega)
        have e1 : wrap64 ((j : Int) + 1) = (j : Int) + 1 := by unfold wrap64; omega
        rw [if_pos (by omega), if_pos (by omega)] at h
        have hC := Kd.C_below hr.out hb.out
        obtain ⟨ad, rfl, hc0, hc1⟩ := at_T24 hC (j : Int) (by omega) (by omega)
        rw [Int.toNat_natCast] at hc0 hc1
        have hj0 : (0 : Int) ≤ j := by omega
        have hj1 : (j : Int) < (l0.length : Int) := by omega
        have hg2 := blk_below hg.out hb.out
        clear hC
        replace hg2 := Aside0.mk hg2
        replace h := Aside0.mk h
        go_wp2_with fail
        refine (hand_at1 (rd_T24 l0 (j : Int)) hg2.out).mono ?_
        rintro e w1 ⟨rfl, hb1⟩
        have hb2 := Aside0.mk (below_step hb.out hb1)
        clear hb1
        by_cases h2 : (rd_T24 l0 (j : Int)).f1 = id
        · have h3 := h.out
          rw [if_pos h2] at h3
          obtain rfl := Option.some.inj h3
          rw [decide_eq_true h2]
          go_wp2_with fail
          go_ret
          exact ⟨rfl, hb2.out⟩
        · have h3 := h.out
          rw [if_neg h2, e1] at h3
          replace h3 := Aside0.mk h3
          rw [decide_eq_false h2]
          go_wp2_with fail
          go_roundw
          case rel => exact ⟨j + 1, k, rfl, by omega, h3, hb2⟩
          case measure => simp [intOf] <;> omega
      · have d1 : decide ((j : Int) < (l0.length : Int)) = false := decide_eq_false (by omega)
        rw [if_neg (by omega)] at h
        obtain rfl := Option.some.inj h
        go_wp2_with fail
        go_ret
        exact ⟨rfl, hb.out⟩
set_option maxHeartbeats 8000000 in
set_option maxRecDepth 100000 in
theorem queue_at.calls (k : Nat) (A0 : Option Addr) (c0 : Nat) (l0 : List (S24)) (a1 : Int) (r : Int) (w : World) (hr0 : Kd.C k24 w A0 l0.length l0) (hc0 : l0.length ≤ c0) (h : queue_at.f k l0 a1 = some r) :
    Calls Try.prog 27 #[.slice A0 l0.length c0, .int .i64 a1] w fun e w' => e = .returned (.int .i64 r) ∧ Below w.heap.size w w' := by
  unfold queue_at.f at h
  have hl1 := blk_new w (.cells #[.int .i64 a1] 3 (0, 0))
  have hr1 := Kd.C_below hr0 (below_alloc (Below.refl w.heap.size w) (.cells #[.int .i64 a1] 3 (0, 0)))
  replace hl1 := Aside0.mk hl1
  replace hr1 := Aside0.mk hr1
  replace h := Aside0.mk h
  clear hr0
  go_enter Try.func27, Try.ntmps27
  go_wp2_with fail
  refine (hand_IndexFunc hr1.out hl1.out h.out).mono ?_
  rintro e w1 ⟨rfl, hb⟩
  go_wp2_with fail
  go_ret
  exact ⟨rfl, below_step (below_alloc (Below.refl _ _) _) hb⟩

end Go.Proofs.Ytpkalbokpblhaaa.PA
