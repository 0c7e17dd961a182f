/- The law QueueTells, walked. -/
import Derived.Test.YtpkalbokpblhaaaMayPure
import Derived.Test.YtpkalbokpblhaaaMayTotal
import Derived.Test.YtpkalbokpblhaaaPAx0
import Derived.Test.YtpkalbokpblhaaaPAx10
import Derived.Test.YtpkalbokpblhaaaPAx11
import Derived.Test.YtpkalbokpblhaaaPAx15
import Derived.Test.YtpkalbokpblhaaaPAx16
import Derived.Test.YtpkalbokpblhaaaPAx17
import Derived.Test.YtpkalbokpblhaaaPAx20
import Derived.Test.YtpkalbokpblhaaaPAx22
import Derived.Test.YtpkalbokpblhaaaPAx23
import Derived.Test.YtpkalbokpblhaaaPAx24
import Derived.Test.YtpkalbokpblhaaaPAx25
import Derived.Test.YtpkalbokpblhaaaPAx3
import Derived.Test.YtpkalbokpblhaaaPAx4
import Derived.Test.YtpkalbokpblhaaaPAx5
import Derived.Test.YtpkalbokpblhaaaPAx6
import Derived.Test.YtpkalbokpblhaaaPAx8
import Derived.Test.YtpkalbokpblhaaaPAx9
import Derived.Test.YtpkalbokpblhaaaPileC
import Derived.Test.YtpkalbokpblhaaaQueueVal
import Derived.Test.YtpkalbokpblhaaaSortPure
import Derived.Test.YtpkalbokpblhaaaSortTotal
import Derived.Test.YtpkalbokpblhaaaQueueVal
import Derived.Test.YtpkalbokpblhaaaPAx22
import Derived.Test.YtpkalbokpblhaaaPAx23
import Derived.Test.YtpkalbokpblhaaaPAx24
import Derived.Test.YtpkalbokpblhaaaPAx25
import Derived.Laws.CopyOwn
import Derived.Laws.EntriesVeiled
import Derived.Deep.RegionWith
import Derived.BigRegion
import Derived.Carry
namespace Go.Proofs.Ytpkalbokpblhaaa.PA
open Go.RowKit Go.Proofs.YtpkalbokpblhaaaW.PrintWords Go.Proofs.YtpkalbokpblhaaaW.PrintLast Go.Proofs.YtpkalbokpblhaaaW.PrintMore
attribute [local go_sem] max2_int min2_int max_two min_two max_three min_three max_four min_four
set_option linter.unusedVariables false
set_option linter.unusedSimpArgs false
set_option maxHeartbeats 8000000 in
set_option maxRecDepth 100000 in
theorem hand_rPush (k : Nat) (A0 : Option Addr) (c0 : Nat) (l0 : List S24) (x : S24) (r1 : List S24) (r2 : Bool) (w : World) (hr0 : Kd.C k24 w A0 l0.length l0) (hc0 : l0.length ≤ c0) (h : fuseeref04_Push.f k l0 x.f0 x.f1 = some (r1, r2)) :
    Calls Try.prog 18 #[.slice A0 l0.length c0, .agg #[.int .i64 x.f0, .int .i64 x.f1]] w fun e w' => ∃ A c, e = .returned (.tuple #[.slice A r1.length c, .bool r2]) ∧ r1.length ≤ c ∧ Kd.C k24 w' A r1.length r1 ∧ Below w.heap.size w w' := by
  have hu24 := Try.underlying24
  have hu22 := Try.underlying22
  unfold fuseeref04_Push.f at h
  obtain ⟨t, ht, h⟩ := Option.bind_eq_some_iff.mp h
  have hn := blk_new w (.cells #[.int .i64 x.f0, .int .i64 x.f1] 24 (0, 0))
  have hb0 := below_alloc (Below.refl w.heap.size w) (.cells #[.int .i64 x.f0, .int .i64 x.f1] 24 (0, 0))
  have hlen : (l0.length : Int) ≤ 9223372036854775807 := by
    have := hr0.2.1
    omega
  replace hr0 := Aside0.mk hr0
  replace hn := Aside0.mk hn
  replace hb0 := Aside0.mk hb0
  replace h := Aside0.mk h
  replace ht := Aside0.mk ht
  go_enter Try.func18, Try.ntmps18
  go_wp2_with fail
  refine (fuseeref04_May.calls k A0 c0 l0 t _ (Kd.C_below hr0.out hb0.out) hc0 ht.out).mono ?_
  rintro e w1 ⟨rfl, hb1⟩
  have hB1 := Aside0.mk (below_step hb0.out hb1)
  have hn1 := Aside0.mk (blk_below hn.out hb1)
  clear hb1 hn hb0
  have h' := h.out
  clear h
  cases t with
  | false =>
    rw [if_neg (by simp)] at h'
    obtain ⟨rfl, rfl⟩ := Prod.mk.inj (Option.some.inj h')
    go_wp2_with fail
    go_ret2
    exact ⟨A0, c0, rfl, hc0, Kd.C_below hr0.out hB1.out, hB1.out⟩
  | true =>
    rw [if_pos rfl] at h'
    by_cases h1 : (l0.length : Int) ≥ 40
    · rw [if_pos h1] at h'
      obtain ⟨rfl, rfl⟩ := Prod.mk.inj (Option.some.inj h')
      have d1 : decide ((40 : Int) ≤ (l0.length : Int)) = true := decide_eq_true h1
      go_wp2_with fail
      go_ret2
      exact ⟨A0, c0, rfl, hc0, Kd.C_below hr0.out hB1.out, hB1.out⟩
    · rw [if_neg h1] at h'
      have d1 : decide ((40 : Int) ≤ (l0.length : Int)) = false := decide_eq_false h1
      obtain ⟨q, hq, h'⟩ := Option.bind_eq_some_iff.mp h'
      have q1 := (blk_cell hn1.out 1).trans (by rfl : _ = some (.int .i64 x.f1))
      replace h' := Aside0.mk h'
      replace hq := Aside0.mk hq
      go_wp2_with fail
      refine (fuseeref04_at.calls k A0 c0 l0 x.f1 q _ (Kd.C_below hr0.out hB1.out) hc0 hq.out).mono ?_
      rintro e w2 ⟨rfl, hb2⟩
      have hb2' := Drawn0.below hb2
      have hB2 := Aside0.mk (below_step hB1.out hb2')
      have hn2 := blk_below hn1.out hb2'
      have q2 := (blk_cell hn2 0).trans (by rfl : _ = some (.int .i64 x.f0))
      have q3 := (blk_cell hn2 1).trans (by rfl : _ = some (.int .i64 x.f1))
      clear hb2 hb2' hn2 q1 hB1 hn1
      have h'' := h'.out
      clear h'
      by_cases h2 : q ≥ 0
      · rw [if_pos h2] at h''
        obtain ⟨rfl, rfl⟩ := Prod.mk.inj (Option.some.inj h'')
        have d2 : decide ((0 : Int) ≤ q) = true := decide_eq_true h2
        go_wp2_with fail
        go_ret2
        exact ⟨A0, c0, rfl, hc0, Kd.C_below hr0.out hB2.out, hB2.out⟩
      · rw [if_neg h2] at h''
        obtain ⟨pt, hpt, h''⟩ := Option.bind_eq_some_iff.mp h''
        obtain ⟨rfl, rfl⟩ := Prod.mk.inj (Option.some.inj h'')
        have d2 : decide ((0 : Int) ≤ q) = false := decide_eq_false h2
        replace hpt := Aside0.mk hpt
        go_wp2_with fail
        refine (fuseeref04_put.calls k A0 c0 l0 x.f0 x.f1 pt _ (Kd.C_below hr0.out hB2.out) hc0 hpt.out).mono ?_
        rintro e w3 ⟨v, rfl, hR, hb3⟩
        obtain ⟨A, c, rfl⟩ := Kd.R_slice hR
        have hRc := Kd.R_reads' hR
        have hB3 := Aside0.mk (below_step hB2.out hb3)
        clear hb3 hR
        go_wp2_with fail
        go_ret2
        exact ⟨A, c, rfl, hRc.2.1, hRc.2.2, hB3.out⟩
set_option maxHeartbeats 8000000 in
set_option maxRecDepth 100000 in
theorem hand_rPop (k : Nat) (A0 : Option Addr) (c0 : Nat) (l0 : List S24) (t1 t2 : Int) (t3 : Bool) (w : World) (hr0 : Kd.C k24 w A0 l0.length l0) (hc0 : l0.length ≤ c0) (ht : fuseeref04_Min.f k l0 = some (t1, t2, t3)) (hp : t3 = true → 0 < l0.length) (r : List S24) (hr : r = (if t3 = true then l0.drop 1 else l0)) :
    Calls Try.prog 19 #[.slice A0 l0.length c0] w fun e w' => ∃ A c, e = .returned (.tuple #[.slice A r.length c, .agg #[.int .i64 t1, .int .i64 t2], .bool t3]) ∧ r.length ≤ c ∧ Kd.C k24 w' A r.length r ∧ Below w.heap.size w w' := by
  have hu24 := Try.underlying24
  have hu22 := Try.underlying22
  have hn := blk_new w (.cells #[.int .i64 0, .int .i64 0] 24 (0, 0))
  have hb0 := below_alloc (Below.refl w.heap.size w) (.cells #[.int .i64 0, .int .i64 0] 24 (0, 0))
  have hlen : (l0.length : Int) ≤ 9223372036854775807 := by
    have := hr0.2.1
    omega
  replace hr0 := Aside0.mk hr0
  replace hn := Aside0.mk hn
  replace hb0 := Aside0.mk hb0
  replace ht := Aside0.mk ht
  replace hr := Aside0.mk hr
  go_enter Try.func19, Try.ntmps19
  go_wp2_with fail
  refine (fuseeref04_Min.calls k A0 c0 l0 t1 t2 t3 _ (Kd.C_below hr0.out hb0.out) hc0 ht.out).mono ?_
  rintro e w1 ⟨rfl, hb1⟩
  have hB1 := Aside0.mk (below_step hb0.out hb1)
  have hn1 := blk_below hn.out hb1
  clear hb1 hn hb0
  have hm := blk_alloc hn1 (.cells #[.int .i64 t1, .int .i64 t2] 24 (0, 0))
  have hx := blk_new w1 (.cells #[.int .i64 t1, .int .i64 t2] 24 (0, 0))
  have hne : w.heap.size ≠ w1.heap.size := Nat.ne_of_lt (blk_lt hn1)
  have hne' : w1.heap.size ≠ w.heap.size := fun e => hne e.symm
  have m0 := (blk_cell hm 0).trans (by rfl : _ = some (.int .i64 0))
  have m1 := (blk_cell hm 1).trans (by rfl : _ = some (.int .i64 0))
  have f0 := blk_frozen hm 0
  have f1 := blk_frozen hm 1
  have x0 := (blk_cell hx 0).trans (by rfl : _ = some (.int .i64 t1))
  have x1 := (blk_cell hx 1).trans (by rfl : _ = some (.int .i64 t2))
  have hB2 := Aside0.mk (below_alloc hB1.out (.cells #[.int .i64 t1, .int .i64 t2] 24 (0, 0)))
  replace hm := Aside0.mk hm
  replace hx := Aside0.mk hx
  replace hn1 := Aside0.mk hn1
  cases t3 with
  | false =>
    have hr2 := hr.out
    rw [if_neg (by simp)] at hr2
    subst hr2
    go_wp2_with fail
    refine start_ (n := 5) (S := fun w' => w'.cell? ⟨w1.heap.size, 0, none⟩ = some (.int .i64 t1) ∧ w'.cell? ⟨w1.heap.size, 1, none⟩ = some (.int .i64 t2)) (ds := [3]) #[false, false, false, false, false] (by kernel_rfl) rfl rfl ⟨x0, x1⟩ (fun hHeld => ?_)
    refine pure_ (i := 0) (N := some 14) (v := ?_) (a' := ?_) #[true, false, false, false, false] rfl rfl (by kernel_rfl) (fun _ _ _ h => h) (Or.inl ⟨by rfl, ?_⟩) ?_ ?_
    rotate_left
    · intro w'
      go_simp
      with_reducible rfl
    rotate_left
    · simp only [Act.put, List.setIfInBounds_toArray, List.set_cons_zero, List.set_cons_succ, i64_w, i32_w]
      rfl
    refine pure_ (i := 2) (N := some 2) (v := ?_) (a' := ?_) #[true, false, true, false, false] rfl rfl (by kernel_rfl) (fun _ _ _ h => h) (Or.inl ⟨by rfl, ?_⟩) ?_ ?_
    rotate_left
    · intro w'
      go_simp
      with_reducible rfl
    rotate_left
    · simp only [Act.put, List.setIfInBounds_toArray, List.set_cons_zero, List.set_cons_succ, i64_w, i32_w]
      rfl
    refine take_ (i := 1) (N := some 15) (v := ?_) (a' := ?_) #[true, true, true, false, false] rfl rfl (by kernel_rfl) (fun _ _ _ h => h) (Or.inl ⟨by rfl, ?_⟩) hHeld ?_ ?_
    rotate_left
    · rintro w' ⟨s0, s1⟩
      go_simp
      with_reducible rfl
    rotate_left
    · simp only [Act.put, List.setIfInBounds_toArray, List.set_cons_zero, List.set_cons_succ, i64_w, i32_w]
      rfl
    refine last_ (i := 3) (N := none) #[true, true, true, true, false] rfl rfl (by kernel_rfl) (by decide) (fun K hK => ?_)
    refine skip_ (w1 := ?_) (by rfl) rfl ?_ ?_
    rotate_left
    · go_simp
      rfl
    refine hK.out _ _ ?_
    clear hK K
    refine pure_ (i := 4) (N := some 4) (v := ?_) (a' := ?_) #[true, true, true, true, true] rfl rfl (by kernel_rfl) (fun _ _ _ h => h) (Or.inl ⟨by rfl, ?_⟩) ?_ ?_
    rotate_left
    · intro w'
      go_simp
      with_reducible rfl
    rotate_left
    · simp only [Act.put, List.setIfInBounds_toArray, List.set_cons_zero, List.set_cons_succ, i64_w, i32_w]
      rfl
    refine done_ (by kernel_rfl) ?_

    go_wp2_with fail
    refine bodyPost_ret (results_list (rs := [.tmp 2, .cell 3 24, .tmp 4]) rfl (by simp) (.tmp (.cell w.heap.size 24 #[.int .i64 t1, .int .i64 t2] (0, 0) _ rfl (by (with_reducible repeat (first | refine blk_drewN ?_ _ | refine blk_drew ?_ | refine blk_alloc ?_ _)); refine blk_put (cs := #[.int .i64 t1, .int .i64 0]) ?_ 1 _ rfl; (with_reducible repeat (first | refine blk_drewN ?_ _ | refine blk_drew ?_ | refine blk_alloc ?_ _)); refine blk_put (cs := #[.int .i64 0, .int .i64 0]) ?_ 0 _ rfl; (with_reducible repeat (first | refine blk_drewN ?_ _ | refine blk_drew ?_ | refine blk_alloc ?_ _)); exact hn1.out) Try.underlying24 rfl (by kernel_rfl) (.tmp .nil)))) rfl ?_
    have hB3 := below_drew1 (below_set (j := 1) (v := .int .i64 t2) (below_set (j := 0) (v := .int .i64 t1) hB2.out (Nat.le_refl w.heap.size)) (Nat.le_refl w.heap.size))
    exact ⟨A0, c0, rfl, hc0, Kd.C_below hr0.out hB3, hB3⟩
  | true =>
    have h0 := hp rfl
    obtain ⟨i0, hi, _, hsz, _⟩ := info_parts info24
    have hcut := cut_from (P := Try.prog) 22 24 .i64 Try.underlying22 hi 2 hsz A0 l0.length c0 1 (by omega) (by omega)
    have hcd := Kd.C_drop (m := 1) hr0.out (by omega) hc0
    obtain ⟨A1, hA1⟩ : ∃ A1, A1 = (if c0 = (1 : Int).toNat then A0 else (A0 : Option Addr).map (·.add ((1 : Int).toNat * 2))) := ⟨_, rfl⟩
    have hr2 := hr.out
    rw [if_pos rfl] at hr2
    have hcd' : Kd.C k24 w A1 r.length r := by
      rw [hA1, hr2]
      exact hcd
    have hld : r.length = l0.length - (1 : Int).toNat := by
      rw [hr2, List.length_drop]
      rfl
    rw [← hA1, ← hld] at hcut
    have hc1 : r.length ≤ c0 - (1 : Int).toNat := by
      rw [hld]
      omega
    obtain ⟨c1, hc1e⟩ : ∃ c1, c1 = c0 - (1 : Int).toNat := ⟨_, rfl⟩
    rw [← hc1e] at hcut hc1
    replace hcd' := Aside0.mk hcd'
    replace hc1 := Aside0.mk hc1
    replace hr2 := Aside0.mk hr2
    clear hcd hA1 hld hc1e hi hsz
    go_wp2_with fail
    refine start_ (n := 6) (S := fun w' => w'.cell? ⟨w1.heap.size, 0, none⟩ = some (.int .i64 t1) ∧ w'.cell? ⟨w1.heap.size, 1, none⟩ = some (.int .i64 t2)) (ds := [4]) #[false, false, false, false, false, false] (by kernel_rfl) rfl rfl ⟨x0, x1⟩ (fun hHeld => ?_)
    refine pure_ (i := 0) (N := some 16) (v := ?_) (a' := ?_) #[true, false, false, false, false, false] rfl rfl (by kernel_rfl) (fun _ _ _ h => h) (Or.inl ⟨by rfl, ?_⟩) ?_ ?_
    rotate_left
    · intro w'
      go_simp
      with_reducible rfl
    rotate_left
    · simp only [Act.put, List.setIfInBounds_toArray, List.set_cons_zero, List.set_cons_succ, i64_w, i32_w]
      rfl
    refine pure_ (i := 1) (N := some 17) (v := ?_) (a' := ?_) #[true, true, false, false, false, false] rfl rfl (by kernel_rfl) (fun _ _ _ h => h) (Or.inl ⟨by rfl, ?_⟩) ?_ ?_
    rotate_left
    · intro w'
      go_simp
      with_reducible rfl
    rotate_left
    · simp only [Act.put, List.setIfInBounds_toArray, List.set_cons_zero, List.set_cons_succ, i64_w, i32_w]
      rfl
    refine pure_ (i := 3) (N := some 2) (v := ?_) (a' := ?_) #[true, true, false, true, false, false] rfl rfl (by kernel_rfl) (fun _ _ _ h => h) (Or.inl ⟨by rfl, ?_⟩) ?_ ?_
    rotate_left
    · intro w'
      go_simp
      with_reducible rfl
    rotate_left
    · simp only [Act.put, List.setIfInBounds_toArray, List.set_cons_zero, List.set_cons_succ, i64_w, i32_w]
      rfl
    refine take_ (i := 2) (N := some 18) (v := ?_) (a' := ?_) #[true, true, true, true, false, false] rfl rfl (by kernel_rfl) (fun _ _ _ h => h) (Or.inl ⟨by rfl, ?_⟩) hHeld ?_ ?_
    rotate_left
    · rintro w' ⟨s0, s1⟩
      go_simp
      with_reducible rfl
    rotate_left
    · simp only [Act.put, List.setIfInBounds_toArray, List.set_cons_zero, List.set_cons_succ, i64_w, i32_w]
      rfl
    refine last_ (i := 4) (N := none) #[true, true, true, true, true, false] rfl rfl (by kernel_rfl) (by decide) (fun K hK => ?_)
    refine skip_ (w1 := ?_) (by rfl) rfl ?_ ?_
    rotate_left
    · go_simp
      rfl
    refine hK.out _ _ ?_
    clear hK K
    refine pure_ (i := 5) (N := some 4) (v := ?_) (a' := ?_) #[true, true, true, true, true, true] rfl rfl (by kernel_rfl) (fun _ _ _ h => h) (Or.inl ⟨by rfl, ?_⟩) ?_ ?_
    rotate_left
    · intro w'
      go_simp
      with_reducible rfl
    rotate_left
    · simp only [Act.put, List.setIfInBounds_toArray, List.set_cons_zero, List.set_cons_succ, i64_w, i32_w]
      rfl
    refine done_ (by kernel_rfl) ?_

    go_wp2_with fail
    refine bodyPost_ret (results_list (rs := [.tmp 2, .cell 3 24, .tmp 4]) rfl (by simp) (.tmp (.cell w.heap.size 24 #[.int .i64 t1, .int .i64 t2] (0, 0) _ rfl (by (with_reducible repeat (first | refine blk_drewN ?_ _ | refine blk_drew ?_ | refine blk_alloc ?_ _)); refine blk_put (cs := #[.int .i64 t1, .int .i64 0]) ?_ 1 _ rfl; (with_reducible repeat (first | refine blk_drewN ?_ _ | refine blk_drew ?_ | refine blk_alloc ?_ _)); refine blk_put (cs := #[.int .i64 0, .int .i64 0]) ?_ 0 _ rfl; (with_reducible repeat (first | refine blk_drewN ?_ _ | refine blk_drew ?_ | refine blk_alloc ?_ _)); exact hn1.out) Try.underlying24 rfl (by kernel_rfl) (.tmp .nil)))) rfl ?_
    have hB3 := below_drew1 (below_set (j := 1) (v := .int .i64 t2) (below_set (j := 0) (v := .int .i64 t1) hB2.out (Nat.le_refl w.heap.size)) (Nat.le_refl w.heap.size))
    exact ⟨A1, c1, rfl, hc1.out, Kd.C_below hcd'.out hB3, hB3⟩
set_option maxHeartbeats 8000000 in
set_option maxRecDepth 100000 in
theorem hand_rDrop_no (k : Nat) (A0 : Option Addr) (c0 : Nat) (l0 : List S24) (id : Int) (t : Bool) (q : Int) (w : World) (hr0 : Kd.C k24 w A0 l0.length l0) (hc0 : l0.length ≤ c0) (ht : fuseeref04_May.f k l0 = some t) (hq : fuseeref04_at.f k l0 id = some q) (hno : t = false ∨ q < 0) :
    Calls Try.prog 20 #[.slice A0 l0.length c0, .int .i64 id] w fun e w' => e = .returned (.tuple #[.slice A0 l0.length c0, .bool false]) ∧ Below w.heap.size w w' := by
  have hu24 := Try.underlying24
  have hu22 := Try.underlying22
  replace hr0 := Aside0.mk hr0
  replace ht := Aside0.mk ht
  replace hq := Aside0.mk hq
  go_enter Try.func20, Try.ntmps20
  go_wp2_with fail
  refine (fuseeref04_May.calls k A0 c0 l0 t _ hr0.out hc0 ht.out).mono ?_
  rintro e w1 ⟨rfl, hb1⟩
  replace hb1 := Aside0.mk hb1
  go_wp2_with fail
  refine (fuseeref04_at.calls k A0 c0 l0 id q _ (Kd.C_below hr0.out hb1.out) hc0 hq.out).mono ?_
  rintro e w2 ⟨rfl, hb2⟩
  have hB2 := Aside0.mk (below_step hb1.out (Drawn0.below hb2))
  clear hb1 hb2
  cases t with
  | false =>
    go_wp2_with fail
    go_ret2
    exact ⟨rfl, hB2.out⟩
  | true =>
    have h : q < 0 := by
      rcases hno with h | h
      · cases h
      · exact h
    have d2 : decide (q < 0) = true := decide_eq_true h
    go_wp2_with fail
    go_ret2
    exact ⟨rfl, hB2.out⟩
set_option maxHeartbeats 8000000 in
set_option maxRecDepth 100000 in
theorem hand_rDrop_yes (k : Nat) (A0 : Option Addr) (c0 : Nat) (l0 : List S24) (id : Int) (i : Nat) (w : World) (hr0 : Kd.C k24 w A0 l0.length l0) (hc0 : l0.length ≤ c0) (ht : fuseeref04_May.f k l0 = some true) (hq : fuseeref04_at.f k l0 id = some (i : Int)) (hi : i < l0.length) (hl : l0.length ≤ 100) :
    Calls Try.prog 20 #[.slice A0 l0.length c0, .int .i64 id] w fun e w' => ∃ v, e = .returned (.tuple #[v, .bool true]) ∧ Kd.R k24 24 w' w.heap.size (fun _ => True) v (l0.take i ++ l0.drop (i + 1)) ∧ Below w.heap.size w w' := by
  have hu24 := Try.underlying24
  have hu22 := Try.underlying22
  replace hr0 := Aside0.mk hr0
  replace ht := Aside0.mk ht
  replace hq := Aside0.mk hq
  go_enter Try.func20, Try.ntmps20
  go_wp2_with fail
  refine (fuseeref04_May.calls k A0 c0 l0 true _ hr0.out hc0 ht.out).mono ?_
  rintro e w1 ⟨rfl, hb1⟩
  replace hb1 := Aside0.mk hb1
  go_wp2_with fail
  refine (fuseeref04_at.calls k A0 c0 l0 id (i : Int) _ (Kd.C_below hr0.out hb1.out) hc0 hq.out).mono ?_
  rintro e w2 ⟨rfl, hb2⟩
  have hB2 := Aside0.mk (below_step hb1.out (Drawn0.below hb2))
  clear hb1 hb2
  have d2 : decide ((i : Int) < 0) = false := decide_eq_false (by omega)
  go_wp2_with fail
  obtain ⟨i0, hii, _, hsz, _⟩ := info_parts info24
  have hC2 := Kd.C_below hr0.out hB2.out
  have hcutA := cut_to (P := Try.prog) 22 24 .i64 Try.underlying22 hii A0 l0.length c0 (i : Int) (by omega) (by omega) hc0
  have hCA := Kd.C_take (m := i) hC2 (by omega)
  have hyA : (l0.take i).length = i := by
    rw [List.length_take]
    omega
  rw [Int.toNat_natCast] at hcutA
  have hw : wrap64 ((i : Int) + 1) = ((i + 1 : Nat) : Int) := by
    rw [show wrap64 ((i : Int) + 1) = (i : Int) + 1 from by unfold wrap64; omega]
    omega
  have hcutB := cut_from (P := Try.prog) 22 24 .i64 Try.underlying22 hii 2 hsz A0 l0.length c0 ((i : Int) + 1) (by omega) (by omega)
  have hCB := Kd.C_drop (m := i + 1) (c := c0) hC2 (by omega) hc0
  obtain ⟨A1, hA1⟩ : ∃ A1, A1 = (if c0 = ((i : Int) + 1).toNat then A0 else (A0 : Option Addr).map (·.add (((i : Int) + 1).toNat * 2))) := ⟨_, rfl⟩
  have hi1 : ((i : Int) + 1).toNat = i + 1 := by omega
  have hA2 : A1 = (if c0 = i + 1 then A0 else (A0 : Option Addr).map (·.add ((i + 1) * k24.sz))) := by
    rw [hA1, hi1]
    rfl
  rw [← hA2] at hCB
  have hyB : (l0.drop (i + 1)).length = l0.length - ((i : Int) + 1).toNat := by
    rw [List.length_drop, hi1]
  rw [← hA1, ← hyB] at hcutB
  obtain ⟨tk, htk⟩ : ∃ tk, tk = l0.take i := ⟨_, rfl⟩
  obtain ⟨dp, hdp⟩ : ∃ dp, dp = l0.drop (i + 1) := ⟨_, rfl⟩
  have hCBw : Kd.C k24 w A1 dp.length dp := by
    rw [hdp, hA2]
    exact Kd.C_drop (m := i + 1) (c := c0) hr0.out (by omega) hc0
  rw [← hdp] at hcutB
  rw [← htk] at hCA hyA
  obtain ⟨c1, hc1⟩ : ∃ c1, c1 = c0 - ((i : Int) + 1).toNat := ⟨_, rfl⟩
  rw [← hc1] at hcutB
  have hcutA' : ∀ W : World, (Instr.slice 22 (.slice A0 l0.length c0) none (some (.int .i64 (i : Int))) none).run Try.prog W = .ok (.slice A0 tk.length c0) W := by
    rw [hyA]
    exact hcutA
  have hltk : tk.length ≤ 100 := by omega
  have hldp : dp.length ≤ 100 := by
    rw [hdp, List.length_drop]
    omega
  clear hcutA hCB hyB hA1 hA2 hC2 hc1 hii hsz hi1
  replace hCA := Aside0.mk hCA
  replace hCBw := Aside0.mk hCBw
  replace hyA := Aside0.mk hyA
  replace htk := Aside0.mk htk
  replace hdp := Aside0.mk hdp
  refine start_ (n := 11) (S := fun w' => True) (ds := []) #[false, false, false, false, false, false, false, false, false, false, false] (by kernel_rfl) rfl rfl trivial (fun hHeld => ?_)
  refine pure_ (i := 0) (N := some 20) (v := ?_) (a' := ?_) #[true, false, false, false, false, false, false, false, false, false, false] rfl rfl (by kernel_rfl) (fun _ _ _ h => h) (Or.inl ⟨by rfl, ?_⟩) ?_ ?_
  rotate_left
  · intro w'
    go_simp
    with_reducible rfl
  rotate_left
  · simp only [Act.put, List.setIfInBounds_toArray, List.set_cons_zero, List.set_cons_succ, i64_w, i32_w]
    rfl
  refine pure_ (i := 1) (N := some 21) (v := ?_) (a' := ?_) #[true, true, false, false, false, false, false, false, false, false, false] rfl rfl (by kernel_rfl) (fun _ _ _ h => h) (Or.inl ⟨by rfl, ?_⟩) ?_ ?_
  rotate_left
  · intro w'
    go_simp
    with_reducible rfl
  rotate_left
  · simp only [Act.put, List.setIfInBounds_toArray, List.set_cons_zero, List.set_cons_succ, i64_w, i32_w]
    rfl
  refine pure_ (i := 2) (N := some 22) (v := ?_) (a' := ?_) #[true, true, true, false, false, false, false, false, false, false, false] rfl rfl (by kernel_rfl) (fun _ _ _ h => h) (Or.inl ⟨by rfl, ?_⟩) ?_ ?_
  rotate_left
  · intro w'
    go_simp
    with_reducible rfl
  rotate_left
  · simp only [Act.put, List.setIfInBounds_toArray, List.set_cons_zero, List.set_cons_succ, i64_w, i32_w]
    rfl
  refine pure_ (i := 4) (N := some 24) (v := ?_) (a' := ?_) #[true, true, true, false, true, false, false, false, false, false, false] rfl rfl (by kernel_rfl) (fun _ _ _ h => h) (Or.inl ⟨by rfl, ?_⟩) ?_ ?_
  rotate_left
  · intro w'
    go_simp
    with_reducible rfl
  rotate_left
  · simp only [Act.put, List.setIfInBounds_toArray, List.set_cons_zero, List.set_cons_succ, i64_w, i32_w]
    rfl
  refine pure_ (i := 5) (N := some 25) (v := ?_) (a' := ?_) #[true, true, true, false, true, true, false, false, false, false, false] rfl rfl (by kernel_rfl) (fun _ _ _ h => h) (Or.inl ⟨by rfl, ?_⟩) ?_ ?_
  rotate_left
  · intro w'
    go_simp
    with_reducible rfl
  rotate_left
  · simp only [Act.put, List.setIfInBounds_toArray, List.set_cons_zero, List.set_cons_succ, i64_w, i32_w]
    rfl
  refine pure_ (i := 6) (N := some 26) (v := ?_) (a' := ?_) #[true, true, true, false, true, true, true, false, false, false, false] rfl rfl (by kernel_rfl) (fun _ _ _ h => h) (Or.inl ⟨by rfl, ?_⟩) ?_ ?_
  rotate_left
  · intro w'
    go_simp
    with_reducible rfl
  rotate_left
  · simp only [Act.put, List.setIfInBounds_toArray, List.set_cons_zero, List.set_cons_succ, i64_w, i32_w]
    rfl
  refine pure_ (i := 7) (N := some 27) (v := ?_) (a' := ?_) #[true, true, true, false, true, true, true, true, false, false, false] rfl rfl (by kernel_rfl) (fun _ _ _ h => h) (Or.inl ⟨by rfl, ?_⟩) ?_ ?_
  rotate_left
  · intro w'
    go_simp
    with_reducible rfl
  rotate_left
  · simp only [Act.put, List.setIfInBounds_toArray, List.set_cons_zero, List.set_cons_succ, i64_w, i32_w]
    rfl
  refine one_ (i := 3) (N := some 23) #[true, true, true, true, true, true, true, true, false, false, false] rfl rfl (by kernel_rfl) (by decide) (fun K hK => ?_)
  refine Kd.R_append_rows_step k24 (w0 := w) w.heap.size (by rfl) (.const (.slice none 0 0)) (.tmp 22) 22 24 (.agg #[(.int .i64 0), (.int .i64 0)]) 16 rfl Try.underlying22 info24 rfl (by decide) (by omega) (.slice none 0 0) ([] : List S24) tk _ _ _ (fun _ => True) (fun _ => False) rfl rfl ?aO ?aR (fun _ _ h => h) (fun _ h => h.elim) ?aF ?aB ?aS ?aL ?_
  (case aR => exact Kd.C_below hCA.out (below_drew1 (Below.refl _ _)))
  (case aB => exact below_drew1 hB2.out)
  (case aF => exact fun _ _ => trivial)
  (case aO => exact Kd.R_nil _ _ _ _ _)
  (case aS => exact (below_drew1 hB2.out).size)
  (case aL => simp; omega)
  intro v1 w4 ho hb4 hg hat
  rw [List.nil_append] at ho
  replace ho := Aside0.mk ho
  replace hb4 := Aside0.mk hb4
  clear hg hat
  refine hK.out _ _ trivial (fun hHeld => ?_)
  clear hK K
  refine norm_ (a' := ?_) ?_ ?_
  rotate_left
  · show Act.put _ (some 23) _ = _
    simp only [Act.put, List.setIfInBounds_toArray, List.set_cons_zero, List.set_cons_succ, i64_w, i32_w]
    rfl
  refine one_ (i := 8) (N := some 28) #[true, true, true, true, true, true, true, true, true, false, false] rfl rfl (by kernel_rfl) (by decide) (fun K hK => ?_)
  refine Kd.R_append_rows_step k24 (w0 := w) w.heap.size (by rfl) (.tmp 23) (.tmp 27) 22 24 (.agg #[(.int .i64 0), (.int .i64 0)]) 16 rfl Try.underlying22 info24 rfl (by decide) (by omega) v1 tk dp _ _ _ (fun _ => True) (fun _ => False) rfl rfl ?aO ?aR (fun _ _ h => h) (fun _ h => h.elim) ?aF ?aB ?aS ?aL ?_
  (case aR => exact Kd.C_below hCBw.out hb4.out)
  (case aB => exact hb4.out)
  (case aF => exact fun _ _ => trivial)
  (case aO => exact ho.out)
  (case aS => exact hb4.out.size)
  (case aL => omega)
  intro v2 w5 ho5 hb5 hg hat
  replace ho5 := Aside0.mk ho5
  replace hb5 := Aside0.mk hb5
  clear hg hat
  refine hK.out _ _ trivial (fun hHeld => ?_)
  clear hK K
  refine norm_ (a' := ?_) ?_ ?_
  rotate_left
  · show Act.put _ (some 28) _ = _
    simp only [Act.put, List.setIfInBounds_toArray, List.set_cons_zero, List.set_cons_succ, i64_w, i32_w]
    rfl
  refine pure_ (i := 9) (N := some 4) (v := ?_) (a' := ?_) #[true, true, true, true, true, true, true, true, true, true, false] rfl rfl (by kernel_rfl) (fun _ _ _ h => h) (Or.inl ⟨by rfl, ?_⟩) ?_ ?_
  rotate_left
  · intro w'
    go_simp
    with_reducible rfl
  rotate_left
  · simp only [Act.put, List.setIfInBounds_toArray, List.set_cons_zero, List.set_cons_succ, i64_w, i32_w]
    rfl
  refine pure_ (i := 10) (N := some 5) (v := ?_) (a' := ?_) #[true, true, true, true, true, true, true, true, true, true, true] rfl rfl (by kernel_rfl) (fun _ _ _ h => h) (Or.inl ⟨by rfl, ?_⟩) ?_ ?_
  rotate_left
  · intro w'
    go_simp
    with_reducible rfl
  rotate_left
  · simp only [Act.put, List.setIfInBounds_toArray, List.set_cons_zero, List.set_cons_succ, i64_w, i32_w]
    rfl
  refine done_ (by kernel_rfl) ?_

  go_wp2_with fail
  go_ret2
  refine ⟨_, rfl, ?_, hb5.out⟩
  rw [← htk.out, ← hdp.out]
  exact ho5.out
theorem hand_rDrop (k : Nat) (A0 : Option Addr) (c0 : Nat) (l0 : List S24) (id : Int) (t : Bool) (q : Int) (dr : List S24) (db : Bool) (w : World) (hr0 : Kd.C k24 w A0 l0.length l0) (hc0 : l0.length ≤ c0) (ht : fuseeref04_May.f k l0 = some t) (hq : fuseeref04_at.f k l0 id = some q) (hl : l0.length ≤ 100)
    (hcase : ((t = false ∨ q < 0) ∧ dr = l0 ∧ db = false) ∨ ∃ i : Nat, t = true ∧ q = (i : Int) ∧ i < l0.length ∧ dr = l0.take i ++ l0.drop (i + 1) ∧ db = true) :
    Calls Try.prog 20 #[.slice A0 l0.length c0, .int .i64 id] w fun e w' => ∃ A c, e = .returned (.tuple #[.slice A dr.length c, .bool db]) ∧ dr.length ≤ c ∧ Kd.C k24 w' A dr.length dr ∧ Below w.heap.size w w' := by
  rcases hcase with ⟨hno, rfl, rfl⟩ | ⟨i, rfl, rfl, hi, rfl, rfl⟩
  · refine (hand_rDrop_no k A0 c0 dr id t q w hr0 hc0 ht hq hno).mono ?_
    rintro e w' ⟨rfl, hb⟩
    exact ⟨A0, c0, rfl, hc0, Kd.C_below hr0 hb, hb⟩
  · refine (hand_rDrop_yes k A0 c0 l0 id i w hr0 hc0 ht hq hi hl).mono ?_
    rintro e w' ⟨v, rfl, hR, hb⟩
    obtain ⟨A, c, rfl⟩ := Kd.R_slice hR
    have h2 := Kd.R_reads' hR
    exact ⟨A, c, rfl, h2.2.1, h2.2.2, hb⟩
theorem vrd_at (l : List S24) (i : Nat) : rd_T24 l (i : Int) = at_ l i := by
  unfold rd_T24 at_
  rw [Int.toNat_natCast]
theorem vsucc {i : Nat} (h : i < 1000000) : wrap64 ((i : Int) + 1) = ((i + 1 : Nat) : Int) := by
  rw [show wrap64 ((i : Int) + 1) = (i : Int) + 1 from by unfold wrap64; omega]
  omega
theorem rat_eq (l : List S24) (id : Int) : ∀ (k : Nat) (j : Int), fuseeref04_at.l0 k l id j = queue_at.l0 k l id j
  | 0, _ => rfl
  | k + 1, j => by
    rw [fuseeref04_at.l0, queue_at.l0, rat_eq l id k]
/-- The first ones are as a queue's. -/
def Good (l : List S24) (i : Nat) : Prop := ∀ j, j < i → (∀ c, c < j → (at_ l c).f1 ≠ (at_ l j).f1) ∧ (0 < j → Le (at_ l (j - 1)) (at_ l j))
theorem Good_of_Qu {l : List S24} (h : Qu l) : Good l l.length := fun j hj => ⟨fun c hc e => by
  have := h.ap c j (by omega) hj e
  omega, fun h0 => by
  rw [at_get (by omega), at_get (by omega)]
  exact (List.pairwise_iff_getElem.1 h.so) (j - 1) j (by omega) (by omega) (by omega)⟩
theorem Good.mono {l : List S24} {i j : Nat} (h : Good l i) (hj : j ≤ i) : Good l j := fun c hc => h c (by omega)
theorem Qu_of_Good {l : List S24} (h : Good l l.length) (hl : l.length ≤ 40) : Qu l := by
  refine ⟨adj_sorted (fun c h0 hc => (h c hc).2 h0), hl, fun i j hi hj e => ?_⟩
  rcases Nat.lt_trichotomy i j with h1 | h1 | h1
  · exact absurd e ((h j hj).1 i h1)
  · exact h1
  · exact absurd e.symm ((h i hi).1 j h1)
theorem rmay_l1 (l : List S24) (hl : l.length ≤ 100) (i : Nat) (hi : i < l.length) : ∀ (m k c : Nat), m + c = i → (∀ c', c' < c → (at_ l c').f1 ≠ (at_ l i).f1) →
    (¬ Good l (i + 1) ∧ fuseeref04_May.l1 (k + m + 1) l (i : Int) (c : Int) = some false) ∨ ((∀ c', c' < i → (at_ l c').f1 ≠ (at_ l i).f1) ∧ (0 < i → Le (at_ l (i - 1)) (at_ l i)) ∧ fuseeref04_May.l1 (k + m + 1) l (i : Int) (c : Int) = fuseeref04_May.l0 k l ((i + 1 : Nat) : Int))
  | 0, k, c, hm, hn => by
    have hci : c = i := by omega
    subst hci
    rw [fuseeref04_May.l1, if_neg (by omega)]
    by_cases h0 : (c : Int) > 0
    · have hw : wrap64 ((c : Int) - 1) = ((c - 1 : Nat) : Int) := by
        rw [show wrap64 ((c : Int) - 1) = (c : Int) - 1 from by unfold wrap64; omega]
        omega
      rw [if_pos h0, hw, if_pos (by omega), if_pos (by omega), if_pos (by omega), if_pos (by omega), vrd_at, vrd_at, ref_ahead_ah, Option.bind_some]
      cases ha : ah (at_ l c) (at_ l (c - 1)) with
      | true =>
        refine .inl ⟨fun hg => ?_, by rw [if_pos rfl]⟩
        have h1 : ah (at_ l c) (at_ l (c - 1)) = false := (hg c (by omega)).2 (by omega)
        rw [ha] at h1
        cases h1
      | false => exact .inr ⟨hn, fun _ => ha, by rw [if_neg (by simp), vsucc (by omega)]⟩
    · exact .inr ⟨hn, fun h => by omega, by rw [if_neg h0, vsucc (by omega)]⟩
  | m + 1, k, c, hm, hn => by
    by_cases he : (at_ l c).f1 = (at_ l i).f1
    · refine .inl ⟨fun hg => (hg i (by omega)).1 c (by omega) he, ?_⟩
      rw [fuseeref04_May.l1, if_pos (by omega), if_pos (by omega), if_pos (by omega), if_pos (by omega), if_pos (by omega), vrd_at, vrd_at, if_pos he]
    · have hs : fuseeref04_May.l1 (k + (m + 1) + 1) l (i : Int) (c : Int) = fuseeref04_May.l1 (k + m + 1) l (i : Int) ((c + 1 : Nat) : Int) := by
        rw [fuseeref04_May.l1, if_pos (by omega), if_pos (by omega), if_pos (by omega), if_pos (by omega), if_pos (by omega), vrd_at, vrd_at, if_neg he, vsucc (by omega)]
        rfl
      rw [hs]
      exact rmay_l1 l hl i hi m k (c + 1) (by omega) (fun c' hc' => by
        rcases Nat.lt_or_ge c' c with h1 | h1
        · exact hn c' h1
        · rw [show c' = c from by omega]
          exact he)
theorem rmay_l0 (l : List S24) (hl : l.length ≤ 100) : ∀ (m k i : Nat), m + i = l.length → Good l i → ∃ b, fuseeref04_May.l0 (k + m * (l.length + 2) + 1) l (i : Int) = some b ∧ (b = true ↔ Qu l)
  | 0, k, i, hm, hg => by
    have hil : i = l.length := by omega
    subst hil
    refine ⟨decide ((l.length : Int) ≤ 40), by rw [fuseeref04_May.l0, if_neg (by omega)], ?_⟩
    rw [decide_eq_true_iff]
    exact ⟨fun h => Qu_of_Good hg (by omega), fun h => by have := h.le; omega⟩
  | m + 1, k, i, hm, hg => by
    have hi : i < l.length := by omega
    obtain ⟨K, hK⟩ : ∃ K, k + (m + 1) * (l.length + 2) = K + i + 1 ∧ K = k + m * (l.length + 2) + 1 + (l.length - i) := ⟨k + m * (l.length + 2) + 1 + (l.length - i), by rw [Nat.add_mul]; omega, rfl⟩
    rw [fuseeref04_May.l0, if_pos (by omega), hK.1]
    have h1 := rmay_l1 l hl i hi i K 0 (by omega) (fun c hc => absurd hc (Nat.not_lt_zero _))
    rw [show ((0 : Nat) : Int) = 0 from rfl] at h1
    rcases h1 with ⟨h2, h3⟩ | ⟨h2, h3, h4⟩
    · exact ⟨false, h3, ⟨fun h => (by cases h), fun h => absurd ((Good_of_Qu h).mono (by omega)) h2⟩⟩
    · rw [h4, hK.2, show k + m * (l.length + 2) + 1 + (l.length - i) = (k + (l.length - i)) + m * (l.length + 2) + 1 from by omega]
      exact rmay_l0 l hl m _ (i + 1) (by omega) (fun j hj => by
        rcases Nat.lt_or_ge j i with h5 | h5
        · exact hg j h5
        · rw [show j = i from by omega]
          exact ⟨h2, h3⟩)
theorem rmay_f {l : List S24} {k : Nat} (hl : l.length ≤ 100) (hk : 20000 < k) : ∃ b, fuseeref04_May.f k l = some b ∧ (b = true ↔ Qu l) := by
  have hm : l.length * (l.length + 2) ≤ 100 * 102 := Nat.mul_le_mul hl (by omega)
  obtain ⟨b, h1, h2⟩ := rmay_l0 l hl l.length (k - l.length * (l.length + 2) - 1) 0 (by omega) (fun j hj => absurd hj (Nat.not_lt_zero _))
  rw [show k - l.length * (l.length + 2) - 1 + l.length * (l.length + 2) + 1 = k from by omega] at h1
  exact ⟨b, h1, h2⟩
/-- All that the law holds against one another. -/
structure Vals (k : Nat) (l0 : List S24) (x : S24) (id : Int) (s1 : List S24) (b1 : Bool) (t1 t2 : Int) (t3 : Bool) (d : List S24) (t : Bool) (q : Int) (dr : List S24) (db : Bool) (srt : List S24) : Prop where
  hP : queue_Push.f k l0 x.f0 x.f1 = some (s1, b1)
  hP' : fuseeref04_Push.f k l0 x.f0 x.f1 = some (s1, b1)
  hs1 : s1.length ≤ 200
  hM : queue_Min.f k l0 = some (t1, t2, t3)
  hM' : fuseeref04_Min.f k l0 = some (t1, t2, t3)
  hp : t3 = true → 0 < l0.length
  hd : d = (if t3 = true then l0.drop 1 else l0)
  hO : queue_Pop.f k l0 = some (d, t1, t2, t3)
  hdl : d.length ≤ 200
  hD : queue_Drop.f k l0 id = some (dr, db)
  hY' : fuseeref04_May.f k l0 = some t
  hq : fuseeref04_at.f k l0 id = some q
  hdr : dr.length ≤ 200
  hcase : ((t = false ∨ q < 0) ∧ dr = l0 ∧ db = false) ∨ ∃ i : Nat, t = true ∧ q = (i : Int) ∧ i < l0.length ∧ dr = l0.take i ++ l0.drop (i + 1) ∧ db = true
  hS : queue_Sort.f k l0 = some srt
  hS' : fuseeref04_Sort.f k l0 = some srt
  hsl : srt.length ≤ 200
  hY : queue_May.f k l0 = some t
theorem vals (k : Nat) (hk : 30000 < k) (l0 : List S24) (x : S24) (id : Int) (hl : l0.length ≤ 100) : ∃ s1 b1 t1 t2 t3 d t q dr db srt, Vals k l0 x id s1 b1 t1 t2 t3 d t q dr db srt := by
  obtain ⟨t, hY', hYq⟩ := rmay_f (l := l0) (k := k) hl (by omega)
  obtain ⟨t', hY⟩ := may_total (k := k) (l0 := l0) (by omega) (by omega)
  have htt : t' = t := by
    rw [Bool.eq_iff_iff, hYq]
    constructor
    · rintro rfl
      exact Qu_of_may (by omega) hY
    · intro h
      have := may_of_Qu (k := k) h (by omega)
      rw [this] at hY
      exact (Option.some.inj hY).symm
  subst htt
  obtain ⟨srt, hS, hS', hso, hsp⟩ := sort_total (k := k) (x0 := l0) (by omega) (by omega)
  have hsl : srt.length ≤ 200 := by
    rw [hsp.length_eq]
    omega
  have hat : ∃ q, fuseeref04_at.f k l0 id = some q ∧ queue_at.f k l0 id = some q ∧ ((q = -1 ∧ id ∉ l0.map (·.f1)) ∨ ∃ i, i < l0.length ∧ q = (i : Int) ∧ (at_ l0 i).f1 = id) := by
    rcases at_first (l := l0) (id := id) (k := k) (by omega) (by omega) with ⟨i, h1, h2, _, h4⟩ | ⟨h1, h2⟩
    · exact ⟨(i : Int), (rat_eq l0 id k 0).trans h4, h4, .inr ⟨i, h1, rfl, h2⟩⟩
    · exact ⟨-1, (rat_eq l0 id k 0).trans h2, h2, .inl ⟨rfl, at_none.1 h1⟩⟩
  have hatx : ∃ q, fuseeref04_at.f k l0 x.f1 = some q ∧ queue_at.f k l0 x.f1 = some q ∧ ((q = -1 ∧ x.f1 ∉ l0.map (·.f1)) ∨ ∃ i, i < l0.length ∧ q = (i : Int) ∧ (at_ l0 i).f1 = x.f1) := by
    rcases at_first (l := l0) (id := x.f1) (k := k) (by omega) (by omega) with ⟨i, h1, h2, _, h4⟩ | ⟨h1, h2⟩
    · exact ⟨(i : Int), (rat_eq l0 x.f1 k 0).trans h4, h4, .inr ⟨i, h1, rfl, h2⟩⟩
    · exact ⟨-1, (rat_eq l0 x.f1 k 0).trans h2, h2, .inl ⟨rfl, at_none.1 h1⟩⟩
  obtain ⟨q, hq, hq2, hqc⟩ := hat
  obtain ⟨qx, hqx, hqx2, hqxc⟩ := hatx
  cases t' with
  | false =>
    have hitem : api_Item.f l0 = some l0 := item_val (by omega)
    have hj : queue_Push.j0 k l0 true x.f0 x.f1 = some (l0, false) := by
      obtain ⟨k', rfl⟩ : ∃ k', k = k' + 1 := ⟨k - 1, by omega⟩
      rw [queue_Push.j0, if_pos rfl, hitem]
      rfl
    have hMn : queue_Min.f k l0 = some (0, 0, false) := by
      rw [queue_Min.f, hY, Option.bind_some, if_neg (by simp)]
    refine ⟨l0, false, 0, 0, false, l0, false, q, l0, false, srt, ?_, ?_, by omega, hMn, ?_, fun h => by (cases h), by simp, ?_, by omega, ?_, hY', hq, by omega, .inl ⟨.inl rfl, rfl, rfl⟩, hS, hS', hsl, hY⟩
    · rw [queue_Push.f, hY, Option.bind_some, if_neg (by simp), hj]
    · rw [fuseeref04_Push.f, hY', Option.bind_some, if_neg (by simp)]
    · rw [fuseeref04_Min.f, hY', Option.bind_some, if_neg (by simp)]
    · rw [queue_Pop.f, hMn, Option.bind_some]
      simp only [Bool.false_eq_true, if_false]
      rw [hitem]
      rfl
    · rw [queue_Drop.f, hq2, Option.bind_some, hY, Option.bind_some, if_neg (by simp), hitem]
      rfl
  | true =>
    have hQ : Qu l0 := hYq.1 rfl
    have hle := hQ.le
    have hMM : ∃ t1 t2 t3 d, queue_Min.f k l0 = some (t1, t2, t3) ∧ fuseeref04_Min.f k l0 = some (t1, t2, t3) ∧ (t3 = true → 0 < l0.length) ∧ d = (if t3 = true then l0.drop 1 else l0) ∧ queue_Pop.f k l0 = some (d, t1, t2, t3) ∧ d.length ≤ 200 := by
      cases l0 with
      | nil =>
        refine ⟨0, 0, false, [], ?_, ?_, fun h => by (cases h), by simp, pop_nil (by omega), by simp⟩
        · rw [queue_Min.f, hY, Option.bind_some, if_pos rfl, if_pos (by simp)]
        · rw [fuseeref04_Min.f, hY', Option.bind_some, if_pos rfl, if_pos (by simp)]
      | cons m r =>
        rw [List.length_cons] at hle
        refine ⟨m.f0, m.f1, true, r, ?_, ?_, fun _ => by simp, by simp, pop_cons hQ (by omega), by omega⟩
        · rw [queue_Min.f, hY, Option.bind_some, if_pos rfl, if_neg (by rw [List.length_cons]; omega), if_pos (by rw [List.length_cons]; omega)]
          rfl
        · rw [fuseeref04_Min.f, hY', Option.bind_some, if_pos rfl, if_neg (by rw [List.length_cons]; omega), if_pos (by rw [List.length_cons]; omega)]
          rfl
    obtain ⟨t1, t2, t3, d, hM, hM', hp, hd, hO, hdl⟩ := hMM
    have hDD : ∃ dr db, queue_Drop.f k l0 id = some (dr, db) ∧ dr.length ≤ 200 ∧ (((true = false ∨ q < 0) ∧ dr = l0 ∧ db = false) ∨ ∃ i : Nat, true = true ∧ q = (i : Int) ∧ i < l0.length ∧ dr = l0.take i ++ l0.drop (i + 1) ∧ db = true) := by
      rcases hqc with ⟨rfl, hn⟩ | ⟨i, hi, rfl, he⟩
      · exact ⟨l0, false, drop_no hQ hn (by omega), by omega, .inl ⟨.inr (by omega), rfl, rfl⟩⟩
      · refine ⟨out_ l0 i, true, ?_, ?_, .inr ⟨i, rfl, rfl, hi, rfl, rfl⟩⟩
        · rw [← he]
          exact drop_val hQ hi (by omega)
        · have := out_sub (l := l0) (i := i)
          have := this.length_le
          omega
    obtain ⟨dr, db, hD, hdr, hcase⟩ := hDD
    have hPP : ∃ s1 b1, queue_Push.f k l0 x.f0 x.f1 = some (s1, b1) ∧ fuseeref04_Push.f k l0 x.f0 x.f1 = some (s1, b1) ∧ s1.length ≤ 200 := by
      by_cases c1 : l0.length = 40
      · refine ⟨l0, false, push_no hQ (.inl c1) (by omega), ?_, by omega⟩
        rw [fuseeref04_Push.f, hY', Option.bind_some, if_pos rfl, if_pos (by omega)]
      · rcases hqxc with ⟨rfl, hn⟩ | ⟨i, hi, rfl, he⟩
        · obtain ⟨s, hs, hsp2, hsq⟩ := push_val (k := k) hQ (by omega) hn (by omega)
          obtain ⟨r, hr⟩ := put_total l0.length k l0 x (by omega) (Nat.le_refl _) (by omega)
          obtain ⟨hr1, hr2, _⟩ := put_pure k l0 l0.length x r (Nat.le_refl _) (by omega) hQ.so (fun c h1 h2 => by omega) hr
          have hrs : r = s := sorted_unique hr1 hsq.so (hr2.trans hsp2.symm)
          subst hrs
          refine ⟨r, true, hs, ?_, ?_⟩
          · rw [fuseeref04_Push.f, hY', Option.bind_some, if_pos rfl, if_neg (by omega), hqx, Option.bind_some, if_neg (by omega), show fuseeref04_put.f k l0 x.f0 x.f1 = some r from hr]
            rfl
          · rw [hsp2.length_eq, List.length_cons]
            omega
        · refine ⟨l0, false, push_no hQ (.inr (List.mem_map.2 ⟨at_ l0 i, by rw [at_get hi]; exact List.getElem_mem _, he⟩)) (by omega), ?_, by omega⟩
          rw [fuseeref04_Push.f, hY', Option.bind_some, if_pos rfl, if_neg (by omega), hqx, Option.bind_some, if_pos (by omega)]
    obtain ⟨s1, b1, hP, hP', hs1⟩ := hPP
    exact ⟨s1, b1, t1, t2, t3, d, true, q, dr, db, srt, hP, hP', hs1, hM, hM', hp, hd, hO, hdl, hD, hY', hq, hdr, hcase, hS, hS', hsl, hY⟩
/-- What holds on the way: the lists that are read, and the blocks of single items. -/
structure TS (w W : World) (its : List (Option Addr × Nat × List S24)) (bks : List (Nat × S24)) : Prop where
  b : Below w.heap.size w W
  it : ∀ p ∈ its, p.2.2.length ≤ p.2.1 ∧ Kd.C k24 W p.1 p.2.2.length p.2.2
  bk : ∀ q ∈ bks, W.heap[q.1]? = some (.cells #[.int .i64 q.2.f0, .int .i64 q.2.f1] 24 (0, 0))
theorem TS.move {w W W' : World} {its : List (Option Addr × Nat × List S24)} {bks : List (Nat × S24)} (h : TS w W its bks) (hb : Below W.heap.size W W') : TS w W' its bks :=
  ⟨below_step h.b hb, fun p hp => ⟨(h.it p hp).1, Kd.C_below (h.it p hp).2 hb⟩, fun q hq => blk_below (h.bk q hq) hb⟩
theorem TS.add {w W : World} {its : List (Option Addr × Nat × List S24)} {bks : List (Nat × S24)} (h : TS w W its bks) {A : Option Addr} {c : Nat} {xs : List S24} (hc : xs.length ≤ c) (hC : Kd.C k24 W A xs.length xs) : TS w W ((A, c, xs) :: its) bks :=
  ⟨h.b, fun p hp => by
    rcases List.mem_cons.1 hp with rfl | hp
    · exact ⟨hc, hC⟩
    · exact h.it p hp, h.bk⟩
theorem TS.addb {w W : World} {its : List (Option Addr × Nat × List S24)} {bks : List (Nat × S24)} (h : TS w W its bks) (x : S24) : TS w (W.alloc (.cells #[.int .i64 x.f0, .int .i64 x.f1] 24 (0, 0))) its ((W.heap.size, x) :: bks) := by
  have h2 := h.move (below_alloc (Below.refl W.heap.size W) (.cells #[.int .i64 x.f0, .int .i64 x.f1] 24 (0, 0)))
  refine ⟨h2.b, h2.it, fun q hq => ?_⟩
  rcases List.mem_cons.1 hq with rfl | hq
  · exact blk_new W _
  · exact h2.bk q hq
theorem TS.rd {w W : World} {its : List (Option Addr × Nat × List S24)} {bks : List (Nat × S24)} (h : TS w W its bks) {A : Option Addr} {c : Nat} {xs : List S24} (hm : (A, c, xs) ∈ its) : xs.length ≤ c ∧ Kd.C k24 W A xs.length xs := h.it _ hm
theorem TS.cell {w W : World} {its : List (Option Addr × Nat × List S24)} {bks : List (Nat × S24)} (h : TS w W its bks) {g : Nat} {x : S24} (hm : (g, x) ∈ bks) : W.cell? ⟨g, 0, none⟩ = some (.int .i64 x.f0) ∧ W.cell? ⟨g, 1, none⟩ = some (.int .i64 x.f1) := by
  have hb := h.bk _ hm
  exact ⟨(blk_cell hb 0).trans rfl, (blk_cell hb 1).trans rfl⟩
set_option maxHeartbeats 16000000 in
set_option maxRecDepth 100000 in
theorem tells_walk (k : Nat) (A0 : Option Addr) (c0 : Nat) (l0 : List S24) (x : S24) (id : Int) (w : World) (hr0 : Kd.C k24 w A0 l0.length l0) (hc0 : l0.length ≤ c0) (haw : fuseelaw04_awake.f k = some true) (hl : l0.length ≤ 100)
    (s1 : List S24) (b1 : Bool) (hP : queue_Push.f k l0 x.f0 x.f1 = some (s1, b1)) (hP' : fuseeref04_Push.f k l0 x.f0 x.f1 = some (s1, b1)) (hs1 : s1.length ≤ 200)
    (t1 t2 : Int) (t3 : Bool) (hM : queue_Min.f k l0 = some (t1, t2, t3)) (hM' : fuseeref04_Min.f k l0 = some (t1, t2, t3)) (hp : t3 = true → 0 < l0.length)
    (d : List S24) (hd : d = (if t3 = true then l0.drop 1 else l0)) (hO : queue_Pop.f k l0 = some (d, t1, t2, t3)) (hdl : d.length ≤ 200)
    (t : Bool) (q : Int) (dr : List S24) (db : Bool) (hD : queue_Drop.f k l0 id = some (dr, db)) (hY' : fuseeref04_May.f k l0 = some t) (hq : fuseeref04_at.f k l0 id = some q) (hdr : dr.length ≤ 200)
    (hcase : ((t = false ∨ q < 0) ∧ dr = l0 ∧ db = false) ∨ ∃ i : Nat, t = true ∧ q = (i : Int) ∧ i < l0.length ∧ dr = l0.take i ++ l0.drop (i + 1) ∧ db = true)
    (srt : List S24) (hS : queue_Sort.f k l0 = some srt) (hS' : fuseeref04_Sort.f k l0 = some srt) (hsl : srt.length ≤ 200) (hY : queue_May.f k l0 = some t) (same : ∀ z : List S24, z.length ≤ 200 → fuseeref04_Same.f k z z = some true) :
    Calls Try.prog 9 #[.slice A0 l0.length c0, .agg #[.int .i64 x.f0, .int .i64 x.f1], .int .i64 id] w fun e w' => e = .returned (.bool true) ∧ Below w.heap.size w w' := by
  have hu24 := Try.underlying24
  have hu22 := Try.underlying22
  have hlen : (l0.length : Int) ≤ 100 := by omega
  have d1 : decide ((100 : Int) < (l0.length : Int)) = false := decide_eq_false (by omega)
  have hT : TS w (w.alloc (.cells #[.int .i64 x.f0, .int .i64 x.f1] 24 (0, 0))) [(A0, c0, l0)] [(w.heap.size, x)] := TS.addb ⟨Below.refl _ _, fun p hp => by
    simp at hp
    subst hp
    exact ⟨hc0, hr0⟩, fun q hq => by simp at hq⟩ x
  replace hT := Aside0.mk hT
  clear hr0
  replace haw := Aside0.mk haw
  replace hP := Aside0.mk hP
  replace hP' := Aside0.mk hP'
  replace hM := Aside0.mk hM
  replace hM' := Aside0.mk hM'
  replace hp := Aside0.mk hp
  replace hd := Aside0.mk hd
  replace hO := Aside0.mk hO
  replace hD := Aside0.mk hD
  replace hY' := Aside0.mk hY'
  replace hq := Aside0.mk hq
  replace hcase := Aside0.mk hcase
  replace hS := Aside0.mk hS
  replace hS' := Aside0.mk hS'
  replace hY := Aside0.mk hY
  replace same := Aside0.mk same
  replace hs1 := Aside0.mk hs1
  replace hdl := Aside0.mk hdl
  replace hdr := Aside0.mk hdr
  replace hsl := Aside0.mk hsl
  replace hc0 := Aside0.mk hc0
  go_enter Try.func9, Try.ntmps9
  go_wp2_with fail
  refine (fuseelaw04_awake.calls k true _ haw.out).mono ?_
  rintro e w1 ⟨rfl, hb⟩
  replace hT := Aside0.mk (hT.out.move hb)
  clear hb
  go_wp2_with ((with_reducible refine gate_builtin (b := .append) (xs := #[.const (.slice none 0 0), .tmp 37]) rfl ?_); at_builtin; go_loud (refine Kd.R_append_rows k24 (w0 := w1) w1.heap.size rfl (.const (.slice none 0 0)) (.tmp 37) 22 24 (.agg #[(.int .i64 0), (.int .i64 0)]) 16 rfl Try.underlying22 info24 rfl (by decide) (by omega) (.slice none 0 0) ([] : List S24) l0 A0 l0.length c0 (fun _ => True) (fun _ => False) rfl rfl ?aO ?aR (fun _ _ h => h) (fun _ h => h.elim) ?aF ?aB ?aS ?aL ?_); (case aO => exact Kd.R_nil _ _ _ _ _); (case aR => exact (hT.out.rd (A := A0) (c := c0) (xs := l0) (by simp)).2); (case aF => exact fun _ _ => trivial); (case aB => exact Below.refl _ _); (case aS => exact Nat.le_refl _); (case aL => simp; omega); intro vw w2 ho hb hg hat; clear hg hat; replace hT := Aside0.mk (hT.out.move hb); clear hb; rw [List.nil_append] at ho; obtain ⟨Aw, cw, rfl⟩ := Kd.R_slice ho; replace hT := Aside0.mk (hT.out.add (Kd.R_reads' ho).2.1 (Kd.R_reads' ho).2.2); clear ho; have hx := hT.out.cell (g := w.heap.size) (x := x) (by simp); have hx0 := hx.1; have hx1 := hx.2; clear hx)
  refine (queue_Push.calls k A0 c0 l0 x.f0 x.f1 s1 b1 _ (hT.out.rd (A := A0) (c := c0) (xs := l0) (by simp)).2 hc0.out hP.out).mono ?_
  rintro e w3 ⟨v, rfl, ho, hb⟩
  replace hT := Aside0.mk (hT.out.move hb)
  clear hx0 hx1
  obtain ⟨Aa, ca, rfl⟩ := Kd.R_slice ho
  replace hT := Aside0.mk (hT.out.add (Kd.R_reads' ho).2.1 (Kd.R_reads' ho).2.2)
  clear ho
  have hx := hT.out.cell (g := w.heap.size) (x := x) (by simp)
  have hx0 := hx.1
  have hx1 := hx.2
  clear hx
  clear hb
  go_wp2_with fail
  refine (hand_rPush k A0 c0 l0 x s1 b1 _ (hT.out.rd (A := A0) (c := c0) (xs := l0) (by simp)).2 hc0.out hP'.out).mono ?_
  rintro e w4 ⟨Ab, cb, rfl, hcb, hCb, hb⟩
  replace hT := Aside0.mk (hT.out.move hb)
  clear hx0 hx1
  replace hT := Aside0.mk (hT.out.add hcb hCb)
  clear hcb hCb
  clear hb
  go_wp2_with fail
  refine (queue_Pop.calls k A0 c0 l0 d t1 t2 t3 _ (hT.out.rd (A := A0) (c := c0) (xs := l0) (by simp)).2 hc0.out hO.out).mono ?_
  rintro e w5 ⟨v, rfl, ho, hb⟩
  replace hT := Aside0.mk (hT.out.move hb)
  obtain ⟨Ac, cc, rfl⟩ := Kd.R_slice ho
  replace hT := Aside0.mk (hT.out.add (Kd.R_reads' ho).2.1 (Kd.R_reads' ho).2.2)
  clear ho
  clear hb
  replace hT := Aside0.mk (hT.out.addb ⟨t1, t2⟩)
  go_wp2_with fail
  refine (hand_rPop k A0 c0 l0 t1 t2 t3 _ (hT.out.rd (A := A0) (c := c0) (xs := l0) (by simp)).2 hc0.out hM'.out hp.out d hd.out).mono ?_
  rintro e w6 ⟨Ad, cd, rfl, hcd, hCd, hb⟩
  replace hT := Aside0.mk (hT.out.move hb)
  replace hT := Aside0.mk (hT.out.add hcd hCd)
  clear hcd hCd
  clear hb
  replace hT := Aside0.mk (hT.out.addb ⟨t1, t2⟩)
  go_wp2_with fail
  refine (queue_Drop.calls k A0 c0 l0 id dr db _ (hT.out.rd (A := A0) (c := c0) (xs := l0) (by simp)).2 hc0.out hD.out).mono ?_
  rintro e w7 ⟨v, rfl, ho, hb⟩
  replace hT := Aside0.mk (hT.out.move hb)
  obtain ⟨Ae, ce, rfl⟩ := Kd.R_slice ho
  replace hT := Aside0.mk (hT.out.add (Kd.R_reads' ho).2.1 (Kd.R_reads' ho).2.2)
  clear ho
  clear hb
  go_wp2_with fail
  refine (hand_rDrop k A0 c0 l0 id t q dr db _ (hT.out.rd (A := A0) (c := c0) (xs := l0) (by simp)).2 hc0.out hY'.out hq.out hl hcase.out).mono ?_
  rintro e w8 ⟨Af, cf, rfl, hcf, hCf, hb⟩
  replace hT := Aside0.mk (hT.out.move hb)
  replace hT := Aside0.mk (hT.out.add hcf hCf)
  clear hcf hCf
  clear hb
  go_wp2_with fail
  refine (queue_Min.calls k A0 c0 l0 t1 t2 t3 _ (hT.out.rd (A := A0) (c := c0) (xs := l0) (by simp)).2 hc0.out hM.out).mono ?_
  rintro e w9 ⟨rfl, hb⟩
  replace hT := Aside0.mk (hT.out.move hb)
  clear hb
  replace hT := Aside0.mk (hT.out.addb ⟨t1, t2⟩)
  go_wp2_with fail
  refine (fuseeref04_Min.calls k A0 c0 l0 t1 t2 t3 _ (hT.out.rd (A := A0) (c := c0) (xs := l0) (by simp)).2 hc0.out hM'.out).mono ?_
  rintro e w10 ⟨rfl, hb⟩
  replace hT := Aside0.mk (hT.out.move hb)
  clear hb
  replace hT := Aside0.mk (hT.out.addb ⟨t1, t2⟩)
  go_wp2_with fail
  refine (fuseeref04_Same.calls k Aa ca s1 Ab cb s1 true _ (hT.out.rd (A := Aa) (c := ca) (xs := s1) (by simp)).2 (hT.out.rd (A := Aa) (c := ca) (xs := s1) (by simp)).1 (hT.out.rd (A := Ab) (c := cb) (xs := s1) (by simp)).2 (hT.out.rd (A := Ab) (c := cb) (xs := s1) (by simp)).1 (same.out s1 hs1.out)).mono ?_
  rintro e w11 ⟨rfl, hb'⟩
  have hb := Drawn0.below hb'
  clear hb'
  replace hT := Aside0.mk (hT.out.move hb)
  clear hb
  go_wp2_with fail
  refine (fuseeref04_Same.calls k Ac cc d Ad cd d true _ (hT.out.rd (A := Ac) (c := cc) (xs := d) (by simp)).2 (hT.out.rd (A := Ac) (c := cc) (xs := d) (by simp)).1 (hT.out.rd (A := Ad) (c := cd) (xs := d) (by simp)).2 (hT.out.rd (A := Ad) (c := cd) (xs := d) (by simp)).1 (same.out d hdl.out)).mono ?_
  rintro e w12 ⟨rfl, hb'⟩
  have hb := Drawn0.below hb'
  clear hb'
  replace hT := Aside0.mk (hT.out.move hb)
  have hy := hT.out.cell (g := w5.heap.size) (x := ⟨t1, t2⟩) (by simp)
  have y0 := hy.1
  have y1 := hy.2
  clear hy
  have hz := hT.out.cell (g := w6.heap.size) (x := ⟨t1, t2⟩) (by simp)
  have z0 := hz.1
  have z1 := hz.2
  clear hz
  clear hb
  go_wp2_with fail
  refine (fuseeref04_Same.calls k Ae ce dr Af cf dr true _ (hT.out.rd (A := Ae) (c := ce) (xs := dr) (by simp)).2 (hT.out.rd (A := Ae) (c := ce) (xs := dr) (by simp)).1 (hT.out.rd (A := Af) (c := cf) (xs := dr) (by simp)).2 (hT.out.rd (A := Af) (c := cf) (xs := dr) (by simp)).1 (same.out dr hdr.out)).mono ?_
  rintro e w13 ⟨rfl, hb'⟩
  have hb := Drawn0.below hb'
  clear hb'
  replace hT := Aside0.mk (hT.out.move hb)
  clear y0 y1 z0 z1
  have hy := hT.out.cell (g := w9.heap.size) (x := ⟨t1, t2⟩) (by simp)
  have y0 := hy.1
  have y1 := hy.2
  clear hy
  have hz := hT.out.cell (g := w10.heap.size) (x := ⟨t1, t2⟩) (by simp)
  have z0 := hz.1
  have z1 := hz.2
  clear hz
  clear hb
  go_wp2_with fail
  clear y0 y1 z0 z1
  refine (queue_Sort.calls k A0 c0 l0 srt _ (hT.out.rd (A := A0) (c := c0) (xs := l0) (by simp)).2 hc0.out hS.out).mono ?_
  rintro e w14 ⟨v, rfl, ho, hb⟩
  replace hT := Aside0.mk (hT.out.move hb)
  obtain ⟨Ag, cg, rfl⟩ := Kd.R_slice ho
  replace hT := Aside0.mk (hT.out.add (Kd.R_reads' ho).2.1 (Kd.R_reads' ho).2.2)
  clear ho
  clear hb
  go_wp2_with fail
  refine (fuseeref04_Sort.calls k A0 c0 l0 srt _ (hT.out.rd (A := A0) (c := c0) (xs := l0) (by simp)).2 hc0.out hS'.out).mono ?_
  rintro e w15 ⟨v, rfl, ho, hb⟩
  replace hT := Aside0.mk (hT.out.move hb)
  obtain ⟨Ah, ch, rfl⟩ := Kd.R_slice ho
  replace hT := Aside0.mk (hT.out.add (Kd.R_reads' ho).2.1 (Kd.R_reads' ho).2.2)
  clear ho
  clear hb
  go_wp2_with fail
  refine (fuseeref04_Same.calls k Ag cg srt Ah ch srt true _ (hT.out.rd (A := Ag) (c := cg) (xs := srt) (by simp)).2 (hT.out.rd (A := Ag) (c := cg) (xs := srt) (by simp)).1 (hT.out.rd (A := Ah) (c := ch) (xs := srt) (by simp)).2 (hT.out.rd (A := Ah) (c := ch) (xs := srt) (by simp)).1 (same.out srt hsl.out)).mono ?_
  rintro e w16 ⟨rfl, hb'⟩
  have hb := Drawn0.below hb'
  clear hb'
  replace hT := Aside0.mk (hT.out.move hb)
  clear hb
  go_wp2_with fail
  refine (queue_May.calls k A0 c0 l0 t _ (hT.out.rd (A := A0) (c := c0) (xs := l0) (by simp)).2 hc0.out hY.out).mono ?_
  rintro e w17 ⟨rfl, hb⟩
  replace hT := Aside0.mk (hT.out.move hb)
  clear hb
  go_wp2_with fail
  refine (fuseeref04_May.calls k A0 c0 l0 t _ (hT.out.rd (A := A0) (c := c0) (xs := l0) (by simp)).2 hc0.out hY'.out).mono ?_
  rintro e w18 ⟨rfl, hb⟩
  replace hT := Aside0.mk (hT.out.move hb)
  clear hb
  go_wp2_with fail
  refine (fuseeref04_Same.calls k A0 c0 l0 Aw cw l0 true _ (hT.out.rd (A := A0) (c := c0) (xs := l0) (by simp)).2 (hT.out.rd (A := A0) (c := c0) (xs := l0) (by simp)).1 (hT.out.rd (A := Aw) (c := cw) (xs := l0) (by simp)).2 (hT.out.rd (A := Aw) (c := cw) (xs := l0) (by simp)).1 (same.out l0 (by omega))).mono ?_
  rintro e w19 ⟨rfl, hb'⟩
  have hb := Drawn0.below hb'
  clear hb'
  replace hT := Aside0.mk (hT.out.move hb)
  clear hb
  go_wp2_with fail
  go_ret
  exact ⟨rfl, hT.out.b⟩
set_option maxHeartbeats 8000000 in
set_option maxRecDepth 100000 in
theorem tells_long (A0 : Option Addr) (c0 : Nat) (l0 : List S24) (x : S24) (id : Int) (w : World) (k : Nat) (haw : fuseelaw04_awake.f k = some true) (hl : 100 < l0.length) (hm : (l0.length : Int) ≤ 9223372036854775807) :
    Calls Try.prog 9 #[.slice A0 l0.length c0, .agg #[.int .i64 x.f0, .int .i64 x.f1], .int .i64 id] w fun e w' => e = .returned (.bool true) ∧ Below w.heap.size w w' := by
  have hu24 := Try.underlying24
  have hu22 := Try.underlying22
  have d1 : decide ((100 : Int) < (l0.length : Int)) = true := decide_eq_true (by omega)
  have d2 : decide (100 < l0.length) = true := decide_eq_true hl
  have hb0 := Aside0.mk (below_alloc (Below.refl w.heap.size w) (.cells #[.int .i64 x.f0, .int .i64 x.f1] 24 (0, 0)))
  replace haw := Aside0.mk haw
  go_enter Try.func9, Try.ntmps9
  go_wp2_with fail
  refine (fuseelaw04_awake.calls k true _ haw.out).mono ?_
  rintro e w1 ⟨rfl, hb⟩
  have hB := Aside0.mk (below_step hb0.out hb)
  clear hb
  go_wp2_with fail
  go_ret
  exact ⟨rfl, hB.out⟩
theorem tells_row (A0 : Option Addr) (c0 : Nat) (l0 : List S24) (a1_0 a1_1 a2 : Int) (w : World) (hr0 : Kd.C k24 w A0 l0.length l0) (hc0 : l0.length ≤ c0) (hw0 : ∀ x ∈ l0, (Lit.int .i64 x.f0).wf = true ∧ (Lit.int .i64 x.f1).wf = true) (w1_0 : (Lit.int .i64 a1_0).wf = true) (w1_1 : (Lit.int .i64 a1_1).wf = true) (w2 : (Lit.int .i64 a2).wf = true) :
    Calls Try.prog 9 #[.slice A0 l0.length c0, .agg #[.int .i64 a1_0, .int .i64 a1_1], .int .i64 a2] w fun e w' => e = .returned (.bool true) ∧ Below w.heap.size w w' := by
  have haw : fuseelaw04_awake.f 30001 = some true := awake_true 29971
  rcases Nat.lt_or_ge 100 l0.length with hl | hl
  · exact tells_long A0 c0 l0 ⟨a1_0, a1_1⟩ a2 w 30001 haw hl (by have := hr0.2.1; omega)
  · obtain ⟨s1, b1, t1, t2, t3, d, t, q, dr, db, srt, h⟩ := vals 30001 (by omega) l0 ⟨a1_0, a1_1⟩ a2 hl
    exact tells_walk 30001 A0 c0 l0 ⟨a1_0, a1_1⟩ a2 w hr0 hc0 haw hl s1 b1 h.hP h.hP' h.hs1 t1 t2 t3 h.hM h.hM' h.hp d h.hd h.hO h.hdl t q dr db h.hD h.hY' h.hq h.hdr h.hcase srt h.hS h.hS' h.hsl h.hY (fun z hz => same_self (by omega) (by omega))
end Go.Proofs.Ytpkalbokpblhaaa.PA
