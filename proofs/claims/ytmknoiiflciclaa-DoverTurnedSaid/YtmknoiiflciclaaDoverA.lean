import Derived.Test.YtmknoiiflciclaaDoverMap
import Derived.Test.YtmknoiiflciclaaDoverSpec
import Derived.Test.YtmknoiiflciclaaPAx0
import Derived.Test.YtmknoiiflciclaaPAx1
import Derived.Test.YtmknoiiflciclaaPAx2
import Derived.Test.YtmknoiiflciclaaDoverMap
import Derived.Laws.CopyOwn
import Derived.Laws.EntriesVeiled
import Derived.Deep.RegionWith
import Derived.BigRegion
import Derived.Carry
namespace Go.Proofs.Ytmknoiiflciclaa.PA
open Go.RowKit Go.Proofs.YtmknoiiflciclaaW.PrintWords Go.Proofs.YtmknoiiflciclaaW.PrintLast Go.Proofs.YtmknoiiflciclaaW.PrintMore
attribute [local go_sem] max2_int min2_int max_two min_two max_three min_three max_four min_four
set_option linter.unusedVariables false
set_option linter.unusedSimpArgs false
theorem below_grown {base b : Nat} {w W W' : World} (hb : Below base w W) (h : W.grownBy W' (some b)) (h1 : base ≤ b) (h2 : base ≤ W.heap.size) : Below base w W' :=
  hb.trans ⟨h.os, h.tape, h.output, h.size, fun k hk => h.block k (Nat.lt_of_lt_of_le hk h2) (fun e => by injection e; omega)⟩
theorem in_f (n lo hi : Int) : dover_in.f n lo hi = some (decide (lo ≤ n ∧ n ≤ hi)) := by
  unfold dover_in.f
  split
  · congr 1
    simp
    omega
  · congr 1
    simp
    omega
theorem may_f (a : S29) : dover_may.f a.f0 a.f1 a.f2 a.f3 a.f4 = some (ok1 a) := by
  unfold dover_may.f ok1
  simp only [in_f, Option.bind_some]
  by_cases h0 : 0 ≤ a.f0 ∧ a.f0 ≤ 549755813888
  · rw [if_pos (decide_eq_true h0)]
    by_cases h1 : 1 ≤ a.f1 ∧ a.f1 ≤ 1099511627776
    · rw [if_pos (decide_eq_true h1)]
      by_cases h2 : 1 ≤ a.f2 ∧ a.f2 ≤ 40
      · rw [if_pos (decide_eq_true h2)]
        by_cases h3 : 1 ≤ a.f3 ∧ a.f3 ≤ 1000
        · rw [if_pos (decide_eq_true h3)]
          congr 1
          simp [h0, h1, h2, h3]
        · rw [if_neg (by simpa using h3)]
          congr 1
          simp
          omega
      · rw [if_neg (by simpa using h2)]
        congr 1
        simp
        omega
    · rw [if_neg (by simpa using h1)]
      congr 1
      simp
      omega
  · rw [if_neg (by simpa using h0)]
    congr 1
    simp
    omega
set_option maxHeartbeats 4000000 in
set_option maxRecDepth 100000 in
theorem hand_May (A0 : Option Addr) (c0 : Nat) (l0 : List (S29)) (a1 : Int) (w : World) (hr0 : Kd.C k29 w A0 l0.length l0) (hc0 : l0.length ≤ c0) :
    Calls Try.prog 10 #[.slice A0 l0.length c0, .int .i64 a1] w fun e w' => e = .returned (.bool (mayS l0 a1)) ∧ Below w.heap.size w w' := by
  have hu29 := Try.underlying29
  have hu39 := Try.underlying39
  have hmm := @run_makeMap Try.prog
  have hlen : (l0.length : Int) ≤ 9223372036854775807 := by
    have := hr0.2.1
    omega
  have HR0 := Aside0.mk hr0
  have HC0 := Aside0.mk hc0
  clear hr0 hc0
  go_enter Try.func10, Try.ntmps10
  go_wp2_with fail
  go_loopw [11] (fun v wr => ∃ (j : Nat), v = .int .i64 (j : Int) ∧ j ≤ l0.length ∧ (l0.take j).all ok1 = true ∧ Aside0 (MapAt wr w.heap.size ((l0.take j).foldl putM [])) ∧ Aside0 (Below w.heap.size w wr)) (fun v _ => l0.length - (intOf v).toNat)
  case atStart => exact ⟨0, rfl, by omega, rfl, ⟨MapAt.made w⟩, ⟨below_alloc (Below.refl _ _) _⟩⟩
  case round =>
    obtain ⟨j, rfl, hj, hall, hM, hB⟩ := hrel
    by_cases h1 : j < l0.length
    · have d1 : decide ((j : Int) < (l0.length : Int)) = true := decide_eq_true (by omega)
      have e1 : wrap64 ((j : Int) + 1) = ((j + 1 : Nat) : Int) := by
        rw [show wrap64 ((j : Int) + 1) = (j : Int) + 1 from by unfold wrap64; omega]
        omega
      have hC := Kd.C_below HR0.out hB.out
      obtain ⟨ad, rfl, hc0, hc1, hc2, hc3, hc4⟩ := at_T29 hC (j : Int) (by omega) (by omega)
      rw [Int.toNat_natCast] at hc0 hc1 hc2 hc3 hc4
      rw [rd_at] at hc0 hc1 hc2 hc3 hc4
      have hj0 : (0 : Int) ≤ j := by omega
      have hj1 : (j : Int) < (l0.length : Int) := by omega
      have etk : (l0.take (j + 1)).foldl putM [] = putM ((l0.take j).foldl putM []) (at_ l0 j) := by
        rw [List.take_succ_eq_append_getElem h1, List.foldl_append, at_get h1]
        rfl
      have eall : (l0.take (j + 1)).all ok1 = ok1 (at_ l0 j) := by
        rw [List.take_succ_eq_append_getElem h1, List.all_append, hall, at_get h1]
        simp
      clear hC
      replace etk := Aside0.mk etk
      replace eall := Aside0.mk eall
      replace e1 := Aside0.mk e1
      have hMa := hM.out.alloc (.cells #[.int .i64 (at_ l0 j).f0, .int .i64 (at_ l0 j).f1, .int .i64 (at_ l0 j).f2, .int .i64 (at_ l0 j).f3, .int .i64 (at_ l0 j).f4] 29 (0, 0))
      obtain ⟨w1, hrun, hM1, hg1⟩ := hMa.store (at_ l0 j)
      have hsz := hB.out.size
      have hnb : (wr.alloc (.cells #[.int .i64 (at_ l0 j).f0, .int .i64 (at_ l0 j).f1, .int .i64 (at_ l0 j).f2, .int .i64 (at_ l0 j).f3, .int .i64 (at_ l0 j).f4] 29 (0, 0))).heap[wr.heap.size]? = some (.cells #[.int .i64 (at_ l0 j).f0, .int .i64 (at_ l0 j).f1, .int .i64 (at_ l0 j).f2, .int .i64 (at_ l0 j).f3, .int .i64 (at_ l0 j).f4] 29 (0, 0)) := blk_new wr _
      have hne : some wr.heap.size ≠ some w.heap.size := fun e => by
        have := hM.out.lt
        injection e
        omega
      have hnb1 := (hg1.block wr.heap.size (Array.getElem?_eq_some_iff.1 hnb).1 hne).trans hnb
      have hd0 := (blk_cell hnb1 0).trans (by rfl : _ = some (.int .i64 (at_ l0 j).f0))
      have hd1 := (blk_cell hnb1 1).trans (by rfl : _ = some (.int .i64 (at_ l0 j).f1))
      have hd2 := (blk_cell hnb1 2).trans (by rfl : _ = some (.int .i64 (at_ l0 j).f2))
      have hd3 := (blk_cell hnb1 3).trans (by rfl : _ = some (.int .i64 (at_ l0 j).f3))
      have hd4 := (blk_cell hnb1 4).trans (by rfl : _ = some (.int .i64 (at_ l0 j).f4))
      have hB1 := Aside0.mk (below_grown (below_alloc hB.out _) hg1 (Nat.le_refl _) (below_size (below_alloc hB.out _)))
      replace hM1 := Aside0.mk hM1
      clear hMa hg1 hnb hnb1 hne hsz
      unfold apeV at hrun
      go_wp2_with fail
      refine (dover_may.calls _ _ _ _ _ _ _ (may_f (at_ l0 j))).mono ?_
      rintro e w2 ⟨rfl, hb2⟩
      have hB2 := Aside0.mk (below_step hB1.out hb2)
      have hM2 := Aside0.mk (hM1.out.below hb2)
      clear hb2
      by_cases h2 : ok1 (at_ l0 j) = true
      · rw [h2]
        go_wp2_with fail
        go_roundw
        case rel => exact ⟨j + 1, rfl, by omega, eall.out.trans h2, ⟨by rw [etk.out]; exact hM2.out⟩, hB2⟩
        case measure => simp [intOf] <;> omega
      · replace h2 := Bool.eq_false_iff.mpr h2
        rw [h2]
        go_wp2_with fail
        go_ret
        refine ⟨?_, hB2.out⟩
        have : l0.all ok1 = false := by
          have hs : l0 = l0.take (j + 1) ++ l0.drop (j + 1) := (List.take_append_drop _ _).symm
          rw [hs, List.all_append, eall.out, h2]
          rfl
        unfold mayS
        rw [this]
        rfl
    · have d1 : decide ((j : Int) < (l0.length : Int)) = false := decide_eq_false (by omega)
      have hjl : j = l0.length := by omega
      subst hjl
      rw [List.take_length] at hall hM
      have hM' := hM.out
      have hin := in_f a1 0 549755813888
      have hrun := fun ty => hM'.len_run ty
      clear hM'
      generalize hn : (l0.foldl putM []).length = n at hrun
      have fin : mayS l0 a1 = ((n == l0.length) && (decide (l0.length ≤ 4) && decide (0 ≤ a1 ∧ a1 ≤ 549755813888))) := by
        unfold mayS
        rw [hall, hn, Bool.true_and]
      replace fin := Aside0.mk fin
      replace hn := Aside0.mk hn
      by_cases h2 : n = l0.length
      · subst h2
        by_cases h3 : (l0.length : Int) ≤ 4
        · have e3 : decide ((l0.length : Int) ≤ 4) = true := decide_eq_true h3
          go_wp2_with fail
          refine (dover_in.calls _ _ _ _ _ hin).mono ?_
          rintro e w2 ⟨rfl, hb2⟩
          go_wp2_with fail
          go_ret
          refine ⟨?_, below_step hB.out (Drawn0.below hb2)⟩
          rw [fin.out]
          show Ending.returned (Value.bool _) = _
          congr 2
          simp
          omega
        · have e3 : decide ((l0.length : Int) ≤ 4) = false := decide_eq_false h3
          go_wp2_with fail
          go_ret
          refine ⟨?_, hB.out⟩
          rw [fin.out]
          show Ending.returned (Value.bool _) = _
          congr 2
          have h3' : ¬ l0.length ≤ 4 := by omega
          simp [h3']
      · have e2 : decide ((n : Int) = (l0.length : Int)) = false := decide_eq_false (by omega)
        go_wp2_with fail
        go_ret
        refine ⟨?_, hB.out⟩
        rw [fin.out]
        show Ending.returned (Value.bool _) = _
        congr 2
        simp [h2]
end Go.Proofs.Ytmknoiiflciclaa.PA
