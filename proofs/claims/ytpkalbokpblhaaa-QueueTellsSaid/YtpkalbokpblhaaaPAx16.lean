-- Written for this claim by a program (the kit's print over a changed input, then joined with texts by hand).
import Derived.Test.YtpkalbokpblhaaaPAx0
import Derived.Test.YtpkalbokpblhaaaPAx4
import Derived.Test.YtpkalbokpblhaaaPAx8
import Derived.Test.YtpkalbokpblhaaaPAx9
import Derived.Test.YtpkalbokpblhaaaPAx15
import Derived.Test.YtpkalbokpblhaaaPileF
import Derived.Test.YtpkalbokpblhaaaSortPure
import Derived.Laws.CopyOwn
import Derived.Deep.RegionWith
import Derived.BigRegion
namespace Go.Proofs.Ytpkalbokpblhaaa.PA
open Go.RowKit Go.Proofs.YtpkalbokpblhaaaW.PrintWords Go.Proofs.YtpkalbokpblhaaaW.PrintLast Go.Proofs.YtpkalbokpblhaaaW.PrintMore
attribute [local go_sem] max2_int min2_int max_two min_two max_three min_three max_four min_four   -- for this text's walks alone
set_option linter.unusedVariables false
set_option linter.unusedSimpArgs false

/-! ### queue_Push: function 15 -/
def queue_Push.j0 : Nat → List (S24) → Bool → Int → Int → Option ((List (S24)) × Bool)
  | 0, _, _, _, _ => none
  | k + 1, x0, x20, x242000, x242001 => if x20 = true then ((api_Item.f x0).bind fun t244 => (some (t244, false))) else (if ([] : List (S24)).length + x0.length < 8796093022208 then ((some (([] : List (S24)) ++ x0 : List (S24))).bind fun y247 => ((some (([(⟨x242000, x242001⟩ : S24)] : List (S24)) : List (S24))).bind fun y250 => (if y247.length + y250.length < 8796093022208 then ((fuseeref04_Sort.f k (y247 ++ y250)).bind fun t256 => (some (t256, true))) else (none)))) else (none))
def queue_Push.f (k : Nat) (l0 : List (S24)) (a1_0 : Int) (a1_1 : Int) : Option ((List (S24)) × Bool) := (queue_May.f k l0).bind fun t242 => (if t242 = true then (if (l0.length : Int) = 40 then (queue_Push.j0 k l0 true a1_0 a1_1) else ((queue_at.f k l0 a1_1).bind fun t243 => (queue_Push.j0 k l0 (decide (t243 ≥ 0)) a1_0 a1_1))) else (queue_Push.j0 k l0 true a1_0 a1_1))
theorem queue_Push.mono_l : ∀ k, (∀ y0 y1 y2 y3, LeO (queue_Push.j0 k y0 y1 y2 y3) (queue_Push.j0 (k + 1) y0 y1 y2 y3))
  | 0 => fun _ _ _ _ r h => by simp [queue_Push.j0] at h
  | k + 1 => by
    have ih0 := queue_Push.mono_l k
    · intro y0 y1 y2 y3
      unfold queue_Push.j0
      repeat' first
      | (with_reducible exact ih0 _ _ _ _)
      | (with_reducible exact fuseeref04_Sort.mono _ _)
      | (with_reducible exact queue_May.mono _ _)
      | (with_reducible exact queue_at.mono _ _ _)
      | (with_reducible exact LeO.refl _)
      | (with_reducible exact LeO.none _)
      | (with_reducible refine LeO.ite ?_ ?_)
      | (with_reducible refine LeO.bind ?_ (fun _ => ?_))
      | exact ih0 _ _ _ _
      | exact fuseeref04_Sort.mono _ _
      | exact queue_May.mono _ _
      | exact queue_at.mono _ _ _
      | exact LeO.none _
      | refine LeO.ite ?_ ?_
      | refine LeO.bind ?_ (fun _ => ?_)
theorem queue_Push.mono : ∀ a0 a1 a2 k, LeO (queue_Push.f k a0 a1 a2) (queue_Push.f (k + 1) a0 a1 a2) := by
  intro a0 a1 a2 k
  have ih0 := queue_Push.mono_l k
  unfold queue_Push.f
  repeat' first
      | (with_reducible exact ih0 _ _ _ _)
      | (with_reducible exact fuseeref04_Sort.mono _ _)
      | (with_reducible exact queue_May.mono _ _)
      | (with_reducible exact queue_at.mono _ _ _)
      | (with_reducible exact LeO.refl _)
      | (with_reducible exact LeO.none _)
      | (with_reducible refine LeO.ite ?_ ?_)
      | (with_reducible refine LeO.bind ?_ (fun _ => ?_))
      | exact ih0 _ _ _ _
      | exact fuseeref04_Sort.mono _ _
      | exact queue_May.mono _ _
      | exact queue_at.mono _ _ _
      | exact LeO.none _
      | refine LeO.ite ?_ ?_
      | refine LeO.bind ?_ (fun _ => ?_)
def queue_Push.T3 : Bool × List (List Nat × List Nat) := (true, [([], []), ([0], [0]), ([], []), ([2], [2]), ([1, 3, 1], [1, 3]), ([4, 4], [4]), ([5, 5, 0, 1, 2, 3, 4, 5], [5]), ([6, 0, 1, 2, 3, 4, 5, 6], [])])
def queue_Push.B3 : List Nat := [0, 1, 0, 4, 15, 31, 63, 127]
set_option maxHeartbeats 4000000 in
set_option maxRecDepth 100000 in
theorem hand_Push_no (A0 : Option Addr) (c0 : Nat) (l0 : List S24) (x : S24) (w : World) (hr0 : Kd.C k24 w A0 l0.length l0) (hc0 : l0.length ≤ c0) (hl : l0.length < 8796093022208)
    (hMay : ∀ W, Kd.C k24 W A0 l0.length l0 → Calls Try.prog 14 #[.slice A0 l0.length c0] W fun e w' => e = .returned (.bool false) ∧ Below W.heap.size W w') :
    Calls Try.prog 15 #[.slice A0 l0.length c0, .agg #[.int .i64 x.f0, .int .i64 x.f1]] w fun e w' => ∃ v0_ : Value, e = .returned (.tuple #[v0_, .bool false]) ∧ Kd.R k24 24 w' w.heap.size (fun _ => True) v0_ l0 ∧ Below w.heap.size w w' := by
  have hu24 := Try.underlying24
  have hb0 := below_alloc (Below.refl w.heap.size w) (.cells #[.int .i64 x.f0, .int .i64 x.f1] 24 (0, 0))
  have hr1 := Aside0.mk (Kd.C_below hr0 hb0)
  replace hb0 := Aside0.mk hb0
  replace hMay := Aside0.mk hMay
  clear hr0
  go_enter Try.func15, Try.ntmps15
  go_wp2_with fail
  refine (hMay.out _ hr1.out).mono ?_
  rintro e w1 ⟨rfl, hb1⟩
  have hr2 := Aside0.mk (Kd.C_below hr1.out hb1)
  have hb2 := Aside0.mk (below_step hb0.out hb1)
  clear hb1 hr1 hb0
  go_wp2_with fail
  refine (hand_Clone A0 c0 l0 _ hr2.out hc0 hl).mono ?_
  rintro e w2 ⟨v0, rfl, hR, hB⟩
  have hR2 := Aside0.mk (Kd.R_lower hR hb2.out.size)
  have hb3 := Aside0.mk (below_step hb2.out hB)
  clear hR hB
  go_wp2_with fail
  go_ret2
  exact ⟨_, rfl, hR2.out, hb3.out⟩
set_option maxHeartbeats 4000000 in
set_option maxRecDepth 100000 in
theorem hand_Push_full (A0 : Option Addr) (c0 : Nat) (l0 : List S24) (x : S24) (w : World) (hr0 : Kd.C k24 w A0 l0.length l0) (hc0 : l0.length ≤ c0) (hl : l0.length = 40)
    (hMay : ∀ W, Kd.C k24 W A0 l0.length l0 → Calls Try.prog 14 #[.slice A0 l0.length c0] W fun e w' => e = .returned (.bool true) ∧ Below W.heap.size W w') :
    Calls Try.prog 15 #[.slice A0 l0.length c0, .agg #[.int .i64 x.f0, .int .i64 x.f1]] w fun e w' => ∃ v0_ : Value, e = .returned (.tuple #[v0_, .bool false]) ∧ Kd.R k24 24 w' w.heap.size (fun _ => True) v0_ l0 ∧ Below w.heap.size w w' := by
  have hu24 := Try.underlying24
  have hb0 := below_alloc (Below.refl w.heap.size w) (.cells #[.int .i64 x.f0, .int .i64 x.f1] 24 (0, 0))
  have hr1 := Aside0.mk (Kd.C_below hr0 hb0)
  have d1 : ((l0.length : Int) == 40) = true := by rw [beq_iff_eq]; omega
  replace hb0 := Aside0.mk hb0
  replace hMay := Aside0.mk hMay
  replace hl := Aside0.mk hl
  clear hr0
  go_enter Try.func15, Try.ntmps15
  go_wp2_with fail
  refine (hMay.out _ hr1.out).mono ?_
  rintro e w1 ⟨rfl, hb1⟩
  have hr2 := Aside0.mk (Kd.C_below hr1.out hb1)
  have hb2 := Aside0.mk (below_step hb0.out hb1)
  clear hb1 hr1 hb0
  go_wp2_with fail
  refine (hand_Clone A0 c0 l0 _ hr2.out hc0 (by have := hl.out; omega)).mono ?_
  rintro e w2 ⟨v0, rfl, hR, hB⟩
  have hR2 := Aside0.mk (Kd.R_lower hR hb2.out.size)
  have hb3 := Aside0.mk (below_step hb2.out hB)
  clear hR hB
  go_wp2_with fail
  go_ret2
  exact ⟨_, rfl, hR2.out, hb3.out⟩
set_option maxHeartbeats 4000000 in
set_option maxRecDepth 100000 in
theorem hand_Push_has (A0 : Option Addr) (c0 : Nat) (l0 : List S24) (x : S24) (t : Int) (w : World) (hr0 : Kd.C k24 w A0 l0.length l0) (hc0 : l0.length ≤ c0) (hl : l0.length ≠ 40) (hl2 : l0.length < 8796093022208) (ht : 0 ≤ t)
    (hMay : ∀ W, Kd.C k24 W A0 l0.length l0 → Calls Try.prog 14 #[.slice A0 l0.length c0] W fun e w' => e = .returned (.bool true) ∧ Below W.heap.size W w')
    (hAt : ∀ W, Kd.C k24 W A0 l0.length l0 → Calls Try.prog 27 #[.slice A0 l0.length c0, .int .i64 x.f1] W fun e w' => e = .returned (.int .i64 t) ∧ Below W.heap.size W w') :
    Calls Try.prog 15 #[.slice A0 l0.length c0, .agg #[.int .i64 x.f0, .int .i64 x.f1]] w fun e w' => ∃ v0_ : Value, e = .returned (.tuple #[v0_, .bool false]) ∧ Kd.R k24 24 w' w.heap.size (fun _ => True) v0_ l0 ∧ Below w.heap.size w w' := by
  have hu24 := Try.underlying24
  have hu3 := Try.underlying3
  have hb0 := below_alloc (Below.refl w.heap.size w) (.cells #[.int .i64 x.f0, .int .i64 x.f1] 24 (0, 0))
  have hr1 := Aside0.mk (Kd.C_below hr0 hb0)
  have hx1 := Aside0.mk (blk_new w (.cells #[.int .i64 x.f0, .int .i64 x.f1] 24 (0, 0)))
  have d1 : ((l0.length : Int) == 40) = false := by rw [beq_eq_false_iff_ne]; omega
  have d2 : decide (t ≥ 0) = true := decide_eq_true (by omega)
  have d2' : decide (0 ≤ t) = true := decide_eq_true (by omega)
  replace hb0 := Aside0.mk hb0
  replace hMay := Aside0.mk hMay
  replace hAt := Aside0.mk hAt
  replace hl := Aside0.mk hl
  clear hr0
  go_enter Try.func15, Try.ntmps15
  go_wp2_with fail
  refine (hMay.out _ hr1.out).mono ?_
  rintro e w1 ⟨rfl, hb1⟩
  have hr2 := Aside0.mk (Kd.C_below hr1.out hb1)
  have hx2 := Aside0.mk (blk_below hx1.out hb1)
  have hb2 := Aside0.mk (below_step hb0.out hb1)
  clear hb1 hr1 hb0 hx1
  have hc1 : w1.cell? ⟨w.heap.size, 1, none⟩ = some (.int .i64 x.f1) := (blk_cell hx2.out 1).trans rfl
  go_wp2_with fail
  refine (hAt.out _ hr2.out).mono ?_
  rintro e w2 ⟨rfl, hb1⟩
  have hr3 := Aside0.mk (Kd.C_below hr2.out hb1)
  have hb3 := Aside0.mk (below_step hb2.out hb1)
  clear hb1 hr2 hb2 hx2 hc1
  go_wp2_with fail
  refine (hand_Clone A0 c0 l0 _ hr3.out hc0 hl2).mono ?_
  rintro e w3 ⟨v0, rfl, hR, hB⟩
  have hR4 := Aside0.mk (Kd.R_lower hR hb3.out.size)
  have hb4 := Aside0.mk (below_step hb3.out hB)
  clear hR hB
  go_wp2_with fail
  go_ret2
  exact ⟨_, rfl, hR4.out, hb4.out⟩
set_option maxHeartbeats 4000000 in
set_option maxRecDepth 100000 in
theorem hand_Push_yes (A0 : Option Addr) (c0 : Nat) (l0 : List S24) (x : S24) (t : Int) (w : World) (hr0 : Kd.C k24 w A0 l0.length l0) (hc0 : l0.length ≤ c0) (hl : l0.length ≠ 40) (hl2 : l0.length < 8796093022207) (ht : t < 0)
    (hMay : ∀ W, Kd.C k24 W A0 l0.length l0 → Calls Try.prog 14 #[.slice A0 l0.length c0] W fun e w' => e = .returned (.bool true) ∧ Below W.heap.size W w')
    (hAt : ∀ W, Kd.C k24 W A0 l0.length l0 → Calls Try.prog 27 #[.slice A0 l0.length c0, .int .i64 x.f1] W fun e w' => e = .returned (.int .i64 t) ∧ Below W.heap.size W w') :
    Calls Try.prog 15 #[.slice A0 l0.length c0, .agg #[.int .i64 x.f0, .int .i64 x.f1]] w fun e w' => ∃ (v0_ : Value) (out : List S24), e = .returned (.tuple #[v0_, .bool true]) ∧ Kd.R k24 24 w' w.heap.size (fun _ => True) v0_ out ∧ Below w.heap.size w w' ∧ Sorted out ∧ out.Perm (x :: l0) := by
  have hu24 := Try.underlying24
  have hu3 := Try.underlying3
  obtain ⟨hh0, hpm⟩ := hpf_all (n := l0.length) (l0.length / 2) l0 (Nat.le_refl _) (hp_half _ _)
  have hh : Hp 0 (hpf l0.length (l0.length / 2) l0).length (hpf l0.length (l0.length / 2) l0) := by
    rw [hpm.length_eq]
    exact hh0
  clear hh0
  obtain ⟨hu1, hu2⟩ := push_pure x hh
  have hll := hpm.length_eq
  replace hh := Aside0.mk hh
  replace hpm := Aside0.mk hpm
  replace hll := Aside0.mk hll
  replace hu1 := Aside0.mk hu1
  replace hu2 := Aside0.mk hu2
  have hb0 := below_alloc (Below.refl w.heap.size w) (.cells #[.int .i64 x.f0, .int .i64 x.f1] 24 (0, 0))
  have hr1 := Aside0.mk (Kd.C_below hr0 hb0)
  have hx1 := Aside0.mk (blk_new w (.cells #[.int .i64 x.f0, .int .i64 x.f1] 24 (0, 0)))
  have d1 : ((l0.length : Int) == 40) = false := by rw [beq_eq_false_iff_ne]; omega
  have d2 : decide (t ≥ 0) = false := decide_eq_false (by omega)
  have d2' : decide (0 ≤ t) = false := decide_eq_false (by omega)
  replace hb0 := Aside0.mk hb0
  replace hMay := Aside0.mk hMay
  replace hAt := Aside0.mk hAt
  replace hl := Aside0.mk hl
  clear hr0
  go_enter Try.func15, Try.ntmps15
  go_wp2_with fail
  refine (hMay.out _ hr1.out).mono ?_
  rintro e w1 ⟨rfl, hb1⟩
  have hr2 := Aside0.mk (Kd.C_below hr1.out hb1)
  have hx2 := Aside0.mk (blk_below hx1.out hb1)
  have hb2 := Aside0.mk (below_step hb0.out hb1)
  clear hb1 hr1 hb0 hx1
  have hc1 : w1.cell? ⟨w.heap.size, 1, none⟩ = some (.int .i64 x.f1) := (blk_cell hx2.out 1).trans rfl
  go_wp2_with fail
  refine (hAt.out _ hr2.out).mono ?_
  rintro e w2 ⟨rfl, hb1⟩
  have hr3 := Aside0.mk (Kd.C_below hr2.out hb1)
  have hx3 := Aside0.mk (blk_below hx2.out hb1)
  have hb3 := Aside0.mk (below_step hb2.out hb1)
  clear hb1 hr2 hb2 hx2 hc1
  go_wp2_with fail
  refine (hand_of A0 c0 l0 _ hr3.out hc0 (by omega)).mono ?_
  rintro e w3 ⟨G, rfl, hof⟩
  obtain ⟨hg, hb, v, hpv⟩ := hof
  have hx4 := blk_below hx3.out hb
  have hc0' : w3.cell? ⟨w.heap.size, 0, none⟩ = some (.int .i64 x.f0) := (blk_cell hx4 0).trans rfl
  have hc1' : w3.cell? ⟨w.heap.size, 1, none⟩ = some (.int .i64 x.f1) := (blk_cell hx4 1).trans rfl
  have hb4 := Aside0.mk (below_step hb3.out hb)
  have hg2 : Aside0 (w.heap.size ≤ w2.heap.size) := ⟨hb3.out.size⟩
  replace hg := Aside0.mk hg
  replace hpv := Aside0.mk hpv
  clear hb3 hx3 hx4 hb hr3
  go_wp2_with fail
  refine (hand_HPush (x := x) hpv.out (by have := hll.out; omega) hg.out).mono ?_
  rintro e w4 ⟨rfl, B, cap, hB, hpile, hbel⟩
  have hs4 := Aside0.mk (And.intro hpile (hb4.out.trans (hbel.mono hg2.out)))
  have hBB := Aside0.mk hB
  have hsz := Aside0.mk (Nat.le_trans hpv.out.b hbel.size)
  clear hpile hbel hB hb4 hc0' hc1' hpv
  go_wp2_with fail
  have hln : (upw (hpf l0.length (l0.length / 2) l0 ++ [x]) (hpf l0.length (l0.length / 2) l0).length).length ≤ 8796093022207 := by
    rw [hu2.out.length_eq, List.length_cons, hll.out]
    omega
  refine (hand_all hs4.out.1 hu1.out hg.out hBB.out hsz.out hln).mono ?_
  clear hln
  rintro e w5 ⟨v0, out, rfl, hR, hB, hs, hp⟩
  have hR5 := Aside0.mk (Kd.R_lower hR hg2.out)
  have hb5 := Aside0.mk (hs4.out.2.trans (hB.mono hg2.out))
  replace hs := Aside0.mk hs
  replace hp := Aside0.mk hp
  clear hR hB hs4
  go_wp2_with fail
  go_ret2
  exact ⟨_, out, rfl, hR5.out, hb5.out, hs.out, (hp.out.trans hu2.out).trans (List.Perm.cons _ hpm.out)⟩
theorem item_pure {l0 t : List S24} (h : api_Item.f l0 = some t) : l0.length < 8796093022208 ∧ t = l0 := by
  unfold api_Item.f at h
  split at h
  · rename_i hl
    exact ⟨by simpa using hl, (Option.some.inj h).symm⟩
  · cases h
theorem push_clone {k : Nat} {l0 r1 : List S24} {a b : Int} {r2 : Bool} (h : queue_Push.j0 k l0 true a b = some (r1, r2)) : l0.length < 8796093022208 ∧ r1 = l0 ∧ r2 = false := by
  cases k with
  | zero => simp [queue_Push.j0] at h
  | succ k =>
    unfold queue_Push.j0 at h
    dsimp only at h
    rw [if_pos rfl] at h
    obtain ⟨t, ht, h9⟩ := Option.bind_eq_some_iff.mp h
    obtain ⟨h1, e1⟩ := item_pure ht
    injection h9 with h9
    injection h9 with h2 h3
    exact ⟨h1, h2.symm.trans e1, h3.symm⟩
theorem push_put {k : Nat} {l0 r1 : List S24} {a b : Int} {r2 : Bool} (h : queue_Push.j0 k l0 false a b = some (r1, r2)) : l0.length < 8796093022207 ∧ r2 = true ∧ ∃ k, fuseeref04_Sort.f k (l0 ++ [⟨a, b⟩]) = some r1 := by
  cases k with
  | zero => simp [queue_Push.j0] at h
  | succ k =>
    unfold queue_Push.j0 at h
    dsimp only at h
    rw [if_neg (by simp)] at h
    simp only [Option.bind_some, List.nil_append] at h
    split at h
    · split at h
      · rename_i h1 h2
        obtain ⟨t, ht, h9⟩ := Option.bind_eq_some_iff.mp h
        injection h9 with h9
        injection h9 with h3 h4
        subst h3
        refine ⟨?_, h4.symm, k, ht⟩
        simp at h2
        omega
      · cases h
    · cases h
set_option maxHeartbeats 8000000 in
set_option maxRecDepth 100000 in
theorem queue_Push.calls (k : Nat) (A0 : Option Addr) (c0 : Nat) (l0 : List (S24)) (a1_0 : Int) (a1_1 : Int) (r1 : List (S24)) (r2 : Bool) (w : World) (hr0 : Kd.C k24 w A0 l0.length l0) (hc0 : l0.length ≤ c0) (h : queue_Push.f k l0 a1_0 a1_1 = some (r1, r2)) :
    Calls Try.prog 15 #[.slice A0 l0.length c0, .agg #[.int .i64 a1_0, .int .i64 a1_1]] w fun e w' => ∃ v0_ : Value, e = .returned (.tuple #[v0_, .bool r2]) ∧ Kd.R k24 24 w' w.heap.size (fun _ => True) v0_ r1 ∧ Below w.heap.size w w' := by
  unfold queue_Push.f at h
  obtain ⟨b, hm, h⟩ := Option.bind_eq_some_iff.mp h
  have hMay : ∀ W, Kd.C k24 W A0 l0.length l0 → Calls Try.prog 14 #[.slice A0 l0.length c0] W fun e w' => e = .returned (.bool b) ∧ Below W.heap.size W w' := fun W hC => queue_May.calls k A0 c0 l0 b W hC hc0 hm
  cases b with
  | false =>
    rw [if_neg (by simp)] at h
    obtain ⟨h1, e1, rfl⟩ := push_clone h
    rw [e1]
    exact hand_Push_no A0 c0 l0 ⟨a1_0, a1_1⟩ w hr0 hc0 h1 hMay
  | true =>
    rw [if_pos rfl] at h
    by_cases h40 : (l0.length : Int) = 40
    · rw [if_pos h40] at h
      obtain ⟨h1, e1, rfl⟩ := push_clone h
      rw [e1]
      exact hand_Push_full A0 c0 l0 ⟨a1_0, a1_1⟩ w hr0 hc0 (by omega) hMay
    · rw [if_neg h40] at h
      obtain ⟨t, ht, h⟩ := Option.bind_eq_some_iff.mp h
      have hAt : ∀ W, Kd.C k24 W A0 l0.length l0 → Calls Try.prog 27 #[.slice A0 l0.length c0, .int .i64 a1_1] W fun e w' => e = .returned (.int .i64 t) ∧ Below W.heap.size W w' := fun W hC => queue_at.calls k A0 c0 l0 a1_1 t W hC hc0 ht
      by_cases h0 : t ≥ 0
      · rw [decide_eq_true h0] at h
        obtain ⟨h1, e1, rfl⟩ := push_clone h
        rw [e1]
        exact hand_Push_has A0 c0 l0 ⟨a1_0, a1_1⟩ t w hr0 hc0 (by omega) h1 h0 hMay hAt
      · rw [decide_eq_false h0] at h
        obtain ⟨h1, rfl, k2, hs⟩ := push_put h
        obtain ⟨e1, e2, e3⟩ := sort_pure (by simp; omega) hs
        refine (hand_Push_yes A0 c0 l0 ⟨a1_0, a1_1⟩ t w hr0 hc0 (by omega) h1 (by omega) hMay hAt).mono ?_
        rintro e w' ⟨v0, out, rfl, hR, hB, hso, hp⟩
        have he : out = r1 := sorted_unique hso e1 (hp.trans ((List.perm_append_singleton _ _).symm.trans e2.symm))
        subst he
        exact ⟨v0, rfl, hR, hB⟩

end Go.Proofs.Ytpkalbokpblhaaa.PA
