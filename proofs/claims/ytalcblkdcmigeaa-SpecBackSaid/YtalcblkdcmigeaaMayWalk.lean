/- The walk of spec.May: what it answers of six numbers. -/
import Derived.Test.YtalcblkdcmigeaaPAx0
import Derived.Test.YtalcblkdcmigeaaPAx2
import Derived.Test.YtalcblkdcmigeaaPartsWalk
import Derived.Laws.CopyOwn
import Derived.Laws.EntriesVeiled
namespace Go.Proofs.Ytalcblkdcmigeaa.PA
open Go.RowKit Go.Proofs.YtalcblkdcmigeaaW.PrintWords Go.Proofs.YtalcblkdcmigeaaW.PrintLast Go.Proofs.YtalcblkdcmigeaaW.PrintMore
attribute [local go_sem] max2_int min2_int max_two min_two max_three min_three max_four min_four
set_option linter.unusedVariables false
set_option linter.unusedSimpArgs false

set_option maxHeartbeats 8000000 in
set_option maxRecDepth 100000 in
theorem hand_May (c t x m k e : Int) (r : Bool) (hr : (r = true) ↔ mayP c t x m k e) (b : Bool) (hpm : pat_May.f m k = some b) (hb : b = true ↔ 1 ≤ m ∧ m ≤ k ∧ k ≤ 6) (w : World) :
    Calls Try.prog 9 #[.agg #[.int .i64 c, .int .i64 t, .int .i64 x, .int .i64 m, .int .i64 k, .int .i64 e]] w fun q w' => q = .returned (.bool r) ∧ Below w.heap.size w w' := by
  have hu43 := Try.underlying43
  have hu42 := Try.underlying42
  have hu23 := Try.underlying23
  have HR := Aside0.mk hr
  have HPM := Aside0.mk hpm
  have HPB := Aside0.mk hb
  clear hr hpm hb
  go_enter Try.func9, Try.ntmps9
  go_wp2_with fail
  refine (hand_parts' _).mono ?_
  rintro q w1 ⟨g0, g1, g2, g3, g4, g5, g6, g7, g8, rfl, hp, hbb⟩
  have hs := Aside0.mk (PS.mk (blk_below (blk_new w (.cells #[.int .i64 c, .int .i64 t, .int .i64 x, .int .i64 m, .int .i64 k, .int .i64 e] 23 (0, 0))) hbb) hp (below_step (below_alloc (Below.refl w.heap.size w) _) hbb))
  clear hp hbb
  go_wp2_with fail
  go_loopw [7] (fun i wr => ∃ j : Int, 0 ≤ j ∧ j ≤ 6 ∧ i = .int .i64 j ∧ Aside0 (okTo j c t x m k e) ∧ Aside0 (PS wr w.heap.size c t x m k e w g0 g1 g2 g3 g4 g5 g6 g7 g8)) (fun i _ => 6 - (intOf i).toNat)
  case atStart => exact ⟨0, by omega, by omega, rfl, ⟨⟨fun h => by omega, fun h => by omega, fun h => by omega, fun h => by omega, fun h => by omega, fun h => by omega⟩⟩, hs⟩
  case round =>
    clear hs
    obtain ⟨j, hj0, hj6, rfl, OK, hs⟩ := hrel
    have hj : j = 0 ∨ j = 1 ∨ j = 2 ∨ j = 3 ∨ j = 4 ∨ j = 5 ∨ j = 6 := by omega
    clear hj0 hj6
    rcases hj with rfl | rfl | rfl | rfl | rfl | rfl | rfl
    · have hix := idx0 g0 g1 g2 g3 g4 g5 g6 g7 g8
      unfold TO FN at hix
      have HK := Aside0.mk (blk_new wr (.cells #[.func (.func 22) #[] #[], .func (.func 32) #[] #[.pointer (some ⟨g0, 0, none⟩)], .func (.func 32) #[] #[.pointer (some ⟨g1, 0, none⟩)]] 42 (0, 0)))
      have hs2 := Aside0.mk (hs.out.below (below_alloc (Below.refl wr.heap.size wr) (.cells #[.func (.func 22) #[] #[], .func (.func 32) #[] #[.pointer (some ⟨g0, 0, none⟩)], .func (.func 32) #[] #[.pointer (some ⟨g1, 0, none⟩)]] 42 (0, 0))))
      clear hs
      have q0 : (wr.alloc (.cells #[.func (.func 22) #[] #[], .func (.func 32) #[] #[.pointer (some ⟨g0, 0, none⟩)], .func (.func 32) #[] #[.pointer (some ⟨g1, 0, none⟩)]] 42 (0, 0))).cell? ⟨w.heap.size, 0, none⟩ = some (.int .i64 c) := blk_cell hs2.out.s 0
      have q1 : (wr.alloc (.cells #[.func (.func 22) #[] #[], .func (.func 32) #[] #[.pointer (some ⟨g0, 0, none⟩)], .func (.func 32) #[] #[.pointer (some ⟨g1, 0, none⟩)]] 42 (0, 0))).cell? ⟨w.heap.size, 1, none⟩ = some (.int .i64 t) := blk_cell hs2.out.s 1
      have q2 : (wr.alloc (.cells #[.func (.func 22) #[] #[], .func (.func 32) #[] #[.pointer (some ⟨g0, 0, none⟩)], .func (.func 32) #[] #[.pointer (some ⟨g1, 0, none⟩)]] 42 (0, 0))).cell? ⟨w.heap.size, 2, none⟩ = some (.int .i64 x) := blk_cell hs2.out.s 2
      have q3 : (wr.alloc (.cells #[.func (.func 22) #[] #[], .func (.func 32) #[] #[.pointer (some ⟨g0, 0, none⟩)], .func (.func 32) #[] #[.pointer (some ⟨g1, 0, none⟩)]] 42 (0, 0))).cell? ⟨w.heap.size, 3, none⟩ = some (.int .i64 m) := blk_cell hs2.out.s 3
      have q4 : (wr.alloc (.cells #[.func (.func 22) #[] #[], .func (.func 32) #[] #[.pointer (some ⟨g0, 0, none⟩)], .func (.func 32) #[] #[.pointer (some ⟨g1, 0, none⟩)]] 42 (0, 0))).cell? ⟨w.heap.size, 4, none⟩ = some (.int .i64 k) := blk_cell hs2.out.s 4
      have q5 : (wr.alloc (.cells #[.func (.func 22) #[] #[], .func (.func 32) #[] #[.pointer (some ⟨g0, 0, none⟩)], .func (.func 32) #[] #[.pointer (some ⟨g1, 0, none⟩)]] 42 (0, 0))).cell? ⟨w.heap.size, 5, none⟩ = some (.int .i64 e) := blk_cell hs2.out.s 5
      by_cases c1 : c < 1
      · go_wp2_with fail
        refine (hand_at0 _ _).mono ?_
        rintro q w2 ⟨rfl, rfl⟩
        go_wp2_with fail
        refine (hand_low 0 g0 1 _ _ _ _ _ _ _ hs2.out.p.b0).mono ?_
        rintro q w3 ⟨rfl, hb3⟩
        have HK3 := Aside0.mk (blk_below HK.out hb3)
        have hs3 := Aside0.mk (hs2.out.below hb3)
        clear q0 q1 q2 q3 q4 q5 hb3
        go_wp2_with fail
        go_ret
        have hf : r = false := by
          rw [← Bool.not_eq_true, HR.out]; unfold mayP; omega
        rw [hf]
        exact ⟨rfl, hs3.out.b⟩
      · by_cases c2 : 6 < c
        · go_wp2_with fail
          refine (hand_at0 _ _).mono ?_
          rintro q w2 ⟨rfl, rfl⟩
          go_wp2_with fail
          refine (hand_low 0 g0 1 _ _ _ _ _ _ _ hs2.out.p.b0).mono ?_
          rintro q w3 ⟨rfl, hb3⟩
          have HK3 := Aside0.mk (blk_below HK.out hb3)
          have hs3 := Aside0.mk (hs2.out.below hb3)
          clear q0 q1 q2 q3 q4 q5 hb3
          have q0 : w3.cell? ⟨w.heap.size, 0, none⟩ = some (.int .i64 c) := blk_cell hs3.out.s 0
          have q1 : w3.cell? ⟨w.heap.size, 1, none⟩ = some (.int .i64 t) := blk_cell hs3.out.s 1
          have q2 : w3.cell? ⟨w.heap.size, 2, none⟩ = some (.int .i64 x) := blk_cell hs3.out.s 2
          have q3 : w3.cell? ⟨w.heap.size, 3, none⟩ = some (.int .i64 m) := blk_cell hs3.out.s 3
          have q4 : w3.cell? ⟨w.heap.size, 4, none⟩ = some (.int .i64 k) := blk_cell hs3.out.s 4
          have q5 : w3.cell? ⟨w.heap.size, 5, none⟩ = some (.int .i64 e) := blk_cell hs3.out.s 5
          have z0 : w3.cell? ⟨wr.heap.size, 0, none⟩ = some (.func (.func 22) #[] #[]) := blk_cell HK3.out 0
          have z1 : w3.cell? ⟨wr.heap.size, 1, none⟩ = some (.func (.func 32) #[] #[.pointer (some ⟨g0, 0, none⟩)]) := blk_cell HK3.out 1
          have z2 : w3.cell? ⟨wr.heap.size, 2, none⟩ = some (.func (.func 32) #[] #[.pointer (some ⟨g1, 0, none⟩)]) := blk_cell HK3.out 2
          go_wp2_with fail
          refine (hand_low 0 g1 6 _ _ _ _ _ _ _ hs3.out.p.b1).mono ?_
          rintro q w4 ⟨rfl, hb4⟩
          have hs4 := Aside0.mk (hs3.out.below hb4)
          clear q0 q1 q2 q3 q4 q5 z0 z1 z2 hb4
          go_wp2_with fail
          go_ret
          have hf : r = false := by
            rw [← Bool.not_eq_true, HR.out]; unfold mayP; omega
          rw [hf]
          exact ⟨rfl, hs4.out.b⟩
        · go_wp2_with fail
          refine (hand_at0 _ _).mono ?_
          rintro q w2 ⟨rfl, rfl⟩
          go_wp2_with fail
          refine (hand_low 0 g0 1 _ _ _ _ _ _ _ hs2.out.p.b0).mono ?_
          rintro q w3 ⟨rfl, hb3⟩
          have HK3 := Aside0.mk (blk_below HK.out hb3)
          have hs3 := Aside0.mk (hs2.out.below hb3)
          clear q0 q1 q2 q3 q4 q5 hb3
          have q0 : w3.cell? ⟨w.heap.size, 0, none⟩ = some (.int .i64 c) := blk_cell hs3.out.s 0
          have q1 : w3.cell? ⟨w.heap.size, 1, none⟩ = some (.int .i64 t) := blk_cell hs3.out.s 1
          have q2 : w3.cell? ⟨w.heap.size, 2, none⟩ = some (.int .i64 x) := blk_cell hs3.out.s 2
          have q3 : w3.cell? ⟨w.heap.size, 3, none⟩ = some (.int .i64 m) := blk_cell hs3.out.s 3
          have q4 : w3.cell? ⟨w.heap.size, 4, none⟩ = some (.int .i64 k) := blk_cell hs3.out.s 4
          have q5 : w3.cell? ⟨w.heap.size, 5, none⟩ = some (.int .i64 e) := blk_cell hs3.out.s 5
          have z0 : w3.cell? ⟨wr.heap.size, 0, none⟩ = some (.func (.func 22) #[] #[]) := blk_cell HK3.out 0
          have z1 : w3.cell? ⟨wr.heap.size, 1, none⟩ = some (.func (.func 32) #[] #[.pointer (some ⟨g0, 0, none⟩)]) := blk_cell HK3.out 1
          have z2 : w3.cell? ⟨wr.heap.size, 2, none⟩ = some (.func (.func 32) #[] #[.pointer (some ⟨g1, 0, none⟩)]) := blk_cell HK3.out 2
          go_wp2_with fail
          refine (hand_low 0 g1 6 _ _ _ _ _ _ _ hs3.out.p.b1).mono ?_
          rintro q w4 ⟨rfl, hb4⟩
          have hs4 := Aside0.mk (hs3.out.below hb4)
          clear q0 q1 q2 q3 q4 q5 z0 z1 z2 hb4
          go_wp2_with fail
          go_roundw
          case rel => exact ⟨1, by omega, by omega, rfl, ⟨by have h := OK.out; unfold okTo at h ⊢; omega⟩, hs4⟩
          case measure => simp [intOf]
    · have hix := idx1 g0 g1 g2 g3 g4 g5 g6 g7 g8
      unfold TO FN at hix
      have HK := Aside0.mk (blk_new wr (.cells #[.func (.func 24) #[] #[], .func (.func 25) #[] #[], .func (.func 26) #[] #[]] 42 (0, 0)))
      have hs2 := Aside0.mk (hs.out.below (below_alloc (Below.refl wr.heap.size wr) (.cells #[.func (.func 24) #[] #[], .func (.func 25) #[] #[], .func (.func 26) #[] #[]] 42 (0, 0))))
      clear hs
      have q0 : (wr.alloc (.cells #[.func (.func 24) #[] #[], .func (.func 25) #[] #[], .func (.func 26) #[] #[]] 42 (0, 0))).cell? ⟨w.heap.size, 0, none⟩ = some (.int .i64 c) := blk_cell hs2.out.s 0
      have q1 : (wr.alloc (.cells #[.func (.func 24) #[] #[], .func (.func 25) #[] #[], .func (.func 26) #[] #[]] 42 (0, 0))).cell? ⟨w.heap.size, 1, none⟩ = some (.int .i64 t) := blk_cell hs2.out.s 1
      have q2 : (wr.alloc (.cells #[.func (.func 24) #[] #[], .func (.func 25) #[] #[], .func (.func 26) #[] #[]] 42 (0, 0))).cell? ⟨w.heap.size, 2, none⟩ = some (.int .i64 x) := blk_cell hs2.out.s 2
      have q3 : (wr.alloc (.cells #[.func (.func 24) #[] #[], .func (.func 25) #[] #[], .func (.func 26) #[] #[]] 42 (0, 0))).cell? ⟨w.heap.size, 3, none⟩ = some (.int .i64 m) := blk_cell hs2.out.s 3
      have q4 : (wr.alloc (.cells #[.func (.func 24) #[] #[], .func (.func 25) #[] #[], .func (.func 26) #[] #[]] 42 (0, 0))).cell? ⟨w.heap.size, 4, none⟩ = some (.int .i64 k) := blk_cell hs2.out.s 4
      have q5 : (wr.alloc (.cells #[.func (.func 24) #[] #[], .func (.func 25) #[] #[], .func (.func 26) #[] #[]] 42 (0, 0))).cell? ⟨w.heap.size, 5, none⟩ = some (.int .i64 e) := blk_cell hs2.out.s 5
      by_cases c1 : t < c
      · go_wp2_with fail
        refine (hand_at1 _ _).mono ?_
        rintro q w2 ⟨rfl, rfl⟩
        go_wp2_with fail
        refine (hand_f25 _ _ _ _ _ _ _).mono ?_
        rintro q w3 ⟨rfl, hb3⟩
        have HK3 := Aside0.mk (blk_below HK.out hb3)
        have hs3 := Aside0.mk (hs2.out.below hb3)
        clear q0 q1 q2 q3 q4 q5 hb3
        go_wp2_with fail
        go_ret
        have hf : r = false := by
          rw [← Bool.not_eq_true, HR.out]; unfold mayP; omega
        rw [hf]
        exact ⟨rfl, hs3.out.b⟩
      · by_cases c2 : x < t
        · go_wp2_with fail
          refine (hand_at1 _ _).mono ?_
          rintro q w2 ⟨rfl, rfl⟩
          go_wp2_with fail
          refine (hand_f25 _ _ _ _ _ _ _).mono ?_
          rintro q w3 ⟨rfl, hb3⟩
          have HK3 := Aside0.mk (blk_below HK.out hb3)
          have hs3 := Aside0.mk (hs2.out.below hb3)
          clear q0 q1 q2 q3 q4 q5 hb3
          have q0 : w3.cell? ⟨w.heap.size, 0, none⟩ = some (.int .i64 c) := blk_cell hs3.out.s 0
          have q1 : w3.cell? ⟨w.heap.size, 1, none⟩ = some (.int .i64 t) := blk_cell hs3.out.s 1
          have q2 : w3.cell? ⟨w.heap.size, 2, none⟩ = some (.int .i64 x) := blk_cell hs3.out.s 2
          have q3 : w3.cell? ⟨w.heap.size, 3, none⟩ = some (.int .i64 m) := blk_cell hs3.out.s 3
          have q4 : w3.cell? ⟨w.heap.size, 4, none⟩ = some (.int .i64 k) := blk_cell hs3.out.s 4
          have q5 : w3.cell? ⟨w.heap.size, 5, none⟩ = some (.int .i64 e) := blk_cell hs3.out.s 5
          have z0 : w3.cell? ⟨wr.heap.size, 0, none⟩ = some (.func (.func 24) #[] #[]) := blk_cell HK3.out 0
          have z1 : w3.cell? ⟨wr.heap.size, 1, none⟩ = some (.func (.func 25) #[] #[]) := blk_cell HK3.out 1
          have z2 : w3.cell? ⟨wr.heap.size, 2, none⟩ = some (.func (.func 26) #[] #[]) := blk_cell HK3.out 2
          go_wp2_with fail
          refine (hand_f26 _ _ _ _ _ _ _).mono ?_
          rintro q w4 ⟨rfl, hb4⟩
          have hs4 := Aside0.mk (hs3.out.below hb4)
          clear q0 q1 q2 q3 q4 q5 z0 z1 z2 hb4
          go_wp2_with fail
          go_ret
          have hf : r = false := by
            rw [← Bool.not_eq_true, HR.out]; unfold mayP; omega
          rw [hf]
          exact ⟨rfl, hs4.out.b⟩
        · go_wp2_with fail
          refine (hand_at1 _ _).mono ?_
          rintro q w2 ⟨rfl, rfl⟩
          go_wp2_with fail
          refine (hand_f25 _ _ _ _ _ _ _).mono ?_
          rintro q w3 ⟨rfl, hb3⟩
          have HK3 := Aside0.mk (blk_below HK.out hb3)
          have hs3 := Aside0.mk (hs2.out.below hb3)
          clear q0 q1 q2 q3 q4 q5 hb3
          have q0 : w3.cell? ⟨w.heap.size, 0, none⟩ = some (.int .i64 c) := blk_cell hs3.out.s 0
          have q1 : w3.cell? ⟨w.heap.size, 1, none⟩ = some (.int .i64 t) := blk_cell hs3.out.s 1
          have q2 : w3.cell? ⟨w.heap.size, 2, none⟩ = some (.int .i64 x) := blk_cell hs3.out.s 2
          have q3 : w3.cell? ⟨w.heap.size, 3, none⟩ = some (.int .i64 m) := blk_cell hs3.out.s 3
          have q4 : w3.cell? ⟨w.heap.size, 4, none⟩ = some (.int .i64 k) := blk_cell hs3.out.s 4
          have q5 : w3.cell? ⟨w.heap.size, 5, none⟩ = some (.int .i64 e) := blk_cell hs3.out.s 5
          have z0 : w3.cell? ⟨wr.heap.size, 0, none⟩ = some (.func (.func 24) #[] #[]) := blk_cell HK3.out 0
          have z1 : w3.cell? ⟨wr.heap.size, 1, none⟩ = some (.func (.func 25) #[] #[]) := blk_cell HK3.out 1
          have z2 : w3.cell? ⟨wr.heap.size, 2, none⟩ = some (.func (.func 26) #[] #[]) := blk_cell HK3.out 2
          go_wp2_with fail
          refine (hand_f26 _ _ _ _ _ _ _).mono ?_
          rintro q w4 ⟨rfl, hb4⟩
          have hs4 := Aside0.mk (hs3.out.below hb4)
          clear q0 q1 q2 q3 q4 q5 z0 z1 z2 hb4
          go_wp2_with fail
          go_roundw
          case rel => exact ⟨2, by omega, by omega, rfl, ⟨by have h := OK.out; unfold okTo at h ⊢; omega⟩, hs4⟩
          case measure => simp [intOf]
    · have hix := idx2 g0 g1 g2 g3 g4 g5 g6 g7 g8
      unfold TO FN at hix
      have HK := Aside0.mk (blk_new wr (.cells #[.func (.func 27) #[] #[], .func (.func 32) #[] #[.pointer (some ⟨g2, 0, none⟩)], .func (.func 32) #[] #[.pointer (some ⟨g3, 0, none⟩)]] 42 (0, 0)))
      have hs2 := Aside0.mk (hs.out.below (below_alloc (Below.refl wr.heap.size wr) (.cells #[.func (.func 27) #[] #[], .func (.func 32) #[] #[.pointer (some ⟨g2, 0, none⟩)], .func (.func 32) #[] #[.pointer (some ⟨g3, 0, none⟩)]] 42 (0, 0))))
      clear hs
      have q0 : (wr.alloc (.cells #[.func (.func 27) #[] #[], .func (.func 32) #[] #[.pointer (some ⟨g2, 0, none⟩)], .func (.func 32) #[] #[.pointer (some ⟨g3, 0, none⟩)]] 42 (0, 0))).cell? ⟨w.heap.size, 0, none⟩ = some (.int .i64 c) := blk_cell hs2.out.s 0
      have q1 : (wr.alloc (.cells #[.func (.func 27) #[] #[], .func (.func 32) #[] #[.pointer (some ⟨g2, 0, none⟩)], .func (.func 32) #[] #[.pointer (some ⟨g3, 0, none⟩)]] 42 (0, 0))).cell? ⟨w.heap.size, 1, none⟩ = some (.int .i64 t) := blk_cell hs2.out.s 1
      have q2 : (wr.alloc (.cells #[.func (.func 27) #[] #[], .func (.func 32) #[] #[.pointer (some ⟨g2, 0, none⟩)], .func (.func 32) #[] #[.pointer (some ⟨g3, 0, none⟩)]] 42 (0, 0))).cell? ⟨w.heap.size, 2, none⟩ = some (.int .i64 x) := blk_cell hs2.out.s 2
      have q3 : (wr.alloc (.cells #[.func (.func 27) #[] #[], .func (.func 32) #[] #[.pointer (some ⟨g2, 0, none⟩)], .func (.func 32) #[] #[.pointer (some ⟨g3, 0, none⟩)]] 42 (0, 0))).cell? ⟨w.heap.size, 3, none⟩ = some (.int .i64 m) := blk_cell hs2.out.s 3
      have q4 : (wr.alloc (.cells #[.func (.func 27) #[] #[], .func (.func 32) #[] #[.pointer (some ⟨g2, 0, none⟩)], .func (.func 32) #[] #[.pointer (some ⟨g3, 0, none⟩)]] 42 (0, 0))).cell? ⟨w.heap.size, 4, none⟩ = some (.int .i64 k) := blk_cell hs2.out.s 4
      have q5 : (wr.alloc (.cells #[.func (.func 27) #[] #[], .func (.func 32) #[] #[.pointer (some ⟨g2, 0, none⟩)], .func (.func 32) #[] #[.pointer (some ⟨g3, 0, none⟩)]] 42 (0, 0))).cell? ⟨w.heap.size, 5, none⟩ = some (.int .i64 e) := blk_cell hs2.out.s 5
      by_cases c1 : x < 1
      · go_wp2_with fail
        refine (hand_at2 _ _).mono ?_
        rintro q w2 ⟨rfl, rfl⟩
        go_wp2_with fail
        refine (hand_low 0 g2 1 _ _ _ _ _ _ _ hs2.out.p.b2).mono ?_
        rintro q w3 ⟨rfl, hb3⟩
        have HK3 := Aside0.mk (blk_below HK.out hb3)
        have hs3 := Aside0.mk (hs2.out.below hb3)
        clear q0 q1 q2 q3 q4 q5 hb3
        go_wp2_with fail
        go_ret
        have hf : r = false := by
          rw [← Bool.not_eq_true, HR.out]; unfold mayP; omega
        rw [hf]
        exact ⟨rfl, hs3.out.b⟩
      · by_cases c2 : 48 < x
        · go_wp2_with fail
          refine (hand_at2 _ _).mono ?_
          rintro q w2 ⟨rfl, rfl⟩
          go_wp2_with fail
          refine (hand_low 0 g2 1 _ _ _ _ _ _ _ hs2.out.p.b2).mono ?_
          rintro q w3 ⟨rfl, hb3⟩
          have HK3 := Aside0.mk (blk_below HK.out hb3)
          have hs3 := Aside0.mk (hs2.out.below hb3)
          clear q0 q1 q2 q3 q4 q5 hb3
          have q0 : w3.cell? ⟨w.heap.size, 0, none⟩ = some (.int .i64 c) := blk_cell hs3.out.s 0
          have q1 : w3.cell? ⟨w.heap.size, 1, none⟩ = some (.int .i64 t) := blk_cell hs3.out.s 1
          have q2 : w3.cell? ⟨w.heap.size, 2, none⟩ = some (.int .i64 x) := blk_cell hs3.out.s 2
          have q3 : w3.cell? ⟨w.heap.size, 3, none⟩ = some (.int .i64 m) := blk_cell hs3.out.s 3
          have q4 : w3.cell? ⟨w.heap.size, 4, none⟩ = some (.int .i64 k) := blk_cell hs3.out.s 4
          have q5 : w3.cell? ⟨w.heap.size, 5, none⟩ = some (.int .i64 e) := blk_cell hs3.out.s 5
          have z0 : w3.cell? ⟨wr.heap.size, 0, none⟩ = some (.func (.func 27) #[] #[]) := blk_cell HK3.out 0
          have z1 : w3.cell? ⟨wr.heap.size, 1, none⟩ = some (.func (.func 32) #[] #[.pointer (some ⟨g2, 0, none⟩)]) := blk_cell HK3.out 1
          have z2 : w3.cell? ⟨wr.heap.size, 2, none⟩ = some (.func (.func 32) #[] #[.pointer (some ⟨g3, 0, none⟩)]) := blk_cell HK3.out 2
          go_wp2_with fail
          refine (hand_low 0 g3 48 _ _ _ _ _ _ _ hs3.out.p.b3).mono ?_
          rintro q w4 ⟨rfl, hb4⟩
          have hs4 := Aside0.mk (hs3.out.below hb4)
          clear q0 q1 q2 q3 q4 q5 z0 z1 z2 hb4
          go_wp2_with fail
          go_ret
          have hf : r = false := by
            rw [← Bool.not_eq_true, HR.out]; unfold mayP; omega
          rw [hf]
          exact ⟨rfl, hs4.out.b⟩
        · go_wp2_with fail
          refine (hand_at2 _ _).mono ?_
          rintro q w2 ⟨rfl, rfl⟩
          go_wp2_with fail
          refine (hand_low 0 g2 1 _ _ _ _ _ _ _ hs2.out.p.b2).mono ?_
          rintro q w3 ⟨rfl, hb3⟩
          have HK3 := Aside0.mk (blk_below HK.out hb3)
          have hs3 := Aside0.mk (hs2.out.below hb3)
          clear q0 q1 q2 q3 q4 q5 hb3
          have q0 : w3.cell? ⟨w.heap.size, 0, none⟩ = some (.int .i64 c) := blk_cell hs3.out.s 0
          have q1 : w3.cell? ⟨w.heap.size, 1, none⟩ = some (.int .i64 t) := blk_cell hs3.out.s 1
          have q2 : w3.cell? ⟨w.heap.size, 2, none⟩ = some (.int .i64 x) := blk_cell hs3.out.s 2
          have q3 : w3.cell? ⟨w.heap.size, 3, none⟩ = some (.int .i64 m) := blk_cell hs3.out.s 3
          have q4 : w3.cell? ⟨w.heap.size, 4, none⟩ = some (.int .i64 k) := blk_cell hs3.out.s 4
          have q5 : w3.cell? ⟨w.heap.size, 5, none⟩ = some (.int .i64 e) := blk_cell hs3.out.s 5
          have z0 : w3.cell? ⟨wr.heap.size, 0, none⟩ = some (.func (.func 27) #[] #[]) := blk_cell HK3.out 0
          have z1 : w3.cell? ⟨wr.heap.size, 1, none⟩ = some (.func (.func 32) #[] #[.pointer (some ⟨g2, 0, none⟩)]) := blk_cell HK3.out 1
          have z2 : w3.cell? ⟨wr.heap.size, 2, none⟩ = some (.func (.func 32) #[] #[.pointer (some ⟨g3, 0, none⟩)]) := blk_cell HK3.out 2
          go_wp2_with fail
          refine (hand_low 0 g3 48 _ _ _ _ _ _ _ hs3.out.p.b3).mono ?_
          rintro q w4 ⟨rfl, hb4⟩
          have hs4 := Aside0.mk (hs3.out.below hb4)
          clear q0 q1 q2 q3 q4 q5 z0 z1 z2 hb4
          go_wp2_with fail
          go_roundw
          case rel => exact ⟨3, by omega, by omega, rfl, ⟨by have h := OK.out; unfold okTo at h ⊢; omega⟩, hs4⟩
          case measure => simp [intOf]
    · have hix := idx3 g0 g1 g2 g3 g4 g5 g6 g7 g8
      unfold TO FN at hix
      have HK := Aside0.mk (blk_new wr (.cells #[.func (.func 28) #[] #[], .func (.func 32) #[] #[.pointer (some ⟨g4, 0, none⟩)], .func (.func 29) #[] #[]] 42 (0, 0)))
      have hs2 := Aside0.mk (hs.out.below (below_alloc (Below.refl wr.heap.size wr) (.cells #[.func (.func 28) #[] #[], .func (.func 32) #[] #[.pointer (some ⟨g4, 0, none⟩)], .func (.func 29) #[] #[]] 42 (0, 0))))
      clear hs
      have q0 : (wr.alloc (.cells #[.func (.func 28) #[] #[], .func (.func 32) #[] #[.pointer (some ⟨g4, 0, none⟩)], .func (.func 29) #[] #[]] 42 (0, 0))).cell? ⟨w.heap.size, 0, none⟩ = some (.int .i64 c) := blk_cell hs2.out.s 0
      have q1 : (wr.alloc (.cells #[.func (.func 28) #[] #[], .func (.func 32) #[] #[.pointer (some ⟨g4, 0, none⟩)], .func (.func 29) #[] #[]] 42 (0, 0))).cell? ⟨w.heap.size, 1, none⟩ = some (.int .i64 t) := blk_cell hs2.out.s 1
      have q2 : (wr.alloc (.cells #[.func (.func 28) #[] #[], .func (.func 32) #[] #[.pointer (some ⟨g4, 0, none⟩)], .func (.func 29) #[] #[]] 42 (0, 0))).cell? ⟨w.heap.size, 2, none⟩ = some (.int .i64 x) := blk_cell hs2.out.s 2
      have q3 : (wr.alloc (.cells #[.func (.func 28) #[] #[], .func (.func 32) #[] #[.pointer (some ⟨g4, 0, none⟩)], .func (.func 29) #[] #[]] 42 (0, 0))).cell? ⟨w.heap.size, 3, none⟩ = some (.int .i64 m) := blk_cell hs2.out.s 3
      have q4 : (wr.alloc (.cells #[.func (.func 28) #[] #[], .func (.func 32) #[] #[.pointer (some ⟨g4, 0, none⟩)], .func (.func 29) #[] #[]] 42 (0, 0))).cell? ⟨w.heap.size, 4, none⟩ = some (.int .i64 k) := blk_cell hs2.out.s 4
      have q5 : (wr.alloc (.cells #[.func (.func 28) #[] #[], .func (.func 32) #[] #[.pointer (some ⟨g4, 0, none⟩)], .func (.func 29) #[] #[]] 42 (0, 0))).cell? ⟨w.heap.size, 5, none⟩ = some (.int .i64 e) := blk_cell hs2.out.s 5
      by_cases c1 : m < 1
      · go_wp2_with fail
        refine (hand_at3 _ _).mono ?_
        rintro q w2 ⟨rfl, rfl⟩
        go_wp2_with fail
        refine (hand_low 0 g4 1 _ _ _ _ _ _ _ hs2.out.p.b4).mono ?_
        rintro q w3 ⟨rfl, hb3⟩
        have HK3 := Aside0.mk (blk_below HK.out hb3)
        have hs3 := Aside0.mk (hs2.out.below hb3)
        clear q0 q1 q2 q3 q4 q5 hb3
        go_wp2_with fail
        go_ret
        have hf : r = false := by
          rw [← Bool.not_eq_true, HR.out]; unfold mayP; omega
        rw [hf]
        exact ⟨rfl, hs3.out.b⟩
      · by_cases c2 : k < m
        · go_wp2_with fail
          refine (hand_at3 _ _).mono ?_
          rintro q w2 ⟨rfl, rfl⟩
          go_wp2_with fail
          refine (hand_low 0 g4 1 _ _ _ _ _ _ _ hs2.out.p.b4).mono ?_
          rintro q w3 ⟨rfl, hb3⟩
          have HK3 := Aside0.mk (blk_below HK.out hb3)
          have hs3 := Aside0.mk (hs2.out.below hb3)
          clear q0 q1 q2 q3 q4 q5 hb3
          have q0 : w3.cell? ⟨w.heap.size, 0, none⟩ = some (.int .i64 c) := blk_cell hs3.out.s 0
          have q1 : w3.cell? ⟨w.heap.size, 1, none⟩ = some (.int .i64 t) := blk_cell hs3.out.s 1
          have q2 : w3.cell? ⟨w.heap.size, 2, none⟩ = some (.int .i64 x) := blk_cell hs3.out.s 2
          have q3 : w3.cell? ⟨w.heap.size, 3, none⟩ = some (.int .i64 m) := blk_cell hs3.out.s 3
          have q4 : w3.cell? ⟨w.heap.size, 4, none⟩ = some (.int .i64 k) := blk_cell hs3.out.s 4
          have q5 : w3.cell? ⟨w.heap.size, 5, none⟩ = some (.int .i64 e) := blk_cell hs3.out.s 5
          have z0 : w3.cell? ⟨wr.heap.size, 0, none⟩ = some (.func (.func 28) #[] #[]) := blk_cell HK3.out 0
          have z1 : w3.cell? ⟨wr.heap.size, 1, none⟩ = some (.func (.func 32) #[] #[.pointer (some ⟨g4, 0, none⟩)]) := blk_cell HK3.out 1
          have z2 : w3.cell? ⟨wr.heap.size, 2, none⟩ = some (.func (.func 29) #[] #[]) := blk_cell HK3.out 2
          go_wp2_with fail
          refine (hand_f29 _ _ _ _ _ _ _).mono ?_
          rintro q w4 ⟨rfl, hb4⟩
          have hs4 := Aside0.mk (hs3.out.below hb4)
          clear q0 q1 q2 q3 q4 q5 z0 z1 z2 hb4
          go_wp2_with fail
          go_ret
          have hf : r = false := by
            rw [← Bool.not_eq_true, HR.out]; unfold mayP; omega
          rw [hf]
          exact ⟨rfl, hs4.out.b⟩
        · go_wp2_with fail
          refine (hand_at3 _ _).mono ?_
          rintro q w2 ⟨rfl, rfl⟩
          go_wp2_with fail
          refine (hand_low 0 g4 1 _ _ _ _ _ _ _ hs2.out.p.b4).mono ?_
          rintro q w3 ⟨rfl, hb3⟩
          have HK3 := Aside0.mk (blk_below HK.out hb3)
          have hs3 := Aside0.mk (hs2.out.below hb3)
          clear q0 q1 q2 q3 q4 q5 hb3
          have q0 : w3.cell? ⟨w.heap.size, 0, none⟩ = some (.int .i64 c) := blk_cell hs3.out.s 0
          have q1 : w3.cell? ⟨w.heap.size, 1, none⟩ = some (.int .i64 t) := blk_cell hs3.out.s 1
          have q2 : w3.cell? ⟨w.heap.size, 2, none⟩ = some (.int .i64 x) := blk_cell hs3.out.s 2
          have q3 : w3.cell? ⟨w.heap.size, 3, none⟩ = some (.int .i64 m) := blk_cell hs3.out.s 3
          have q4 : w3.cell? ⟨w.heap.size, 4, none⟩ = some (.int .i64 k) := blk_cell hs3.out.s 4
          have q5 : w3.cell? ⟨w.heap.size, 5, none⟩ = some (.int .i64 e) := blk_cell hs3.out.s 5
          have z0 : w3.cell? ⟨wr.heap.size, 0, none⟩ = some (.func (.func 28) #[] #[]) := blk_cell HK3.out 0
          have z1 : w3.cell? ⟨wr.heap.size, 1, none⟩ = some (.func (.func 32) #[] #[.pointer (some ⟨g4, 0, none⟩)]) := blk_cell HK3.out 1
          have z2 : w3.cell? ⟨wr.heap.size, 2, none⟩ = some (.func (.func 29) #[] #[]) := blk_cell HK3.out 2
          go_wp2_with fail
          refine (hand_f29 _ _ _ _ _ _ _).mono ?_
          rintro q w4 ⟨rfl, hb4⟩
          have hs4 := Aside0.mk (hs3.out.below hb4)
          clear q0 q1 q2 q3 q4 q5 z0 z1 z2 hb4
          go_wp2_with fail
          go_roundw
          case rel => exact ⟨4, by omega, by omega, rfl, ⟨by have h := OK.out; unfold okTo at h ⊢; omega⟩, hs4⟩
          case measure => simp [intOf]
    · have hix := idx4 g0 g1 g2 g3 g4 g5 g6 g7 g8
      unfold TO FN at hix
      have HK := Aside0.mk (blk_new wr (.cells #[.func (.func 30) #[] #[], .func (.func 32) #[] #[.pointer (some ⟨g5, 0, none⟩)], .func (.func 32) #[] #[.pointer (some ⟨g6, 0, none⟩)]] 42 (0, 0)))
      have hs2 := Aside0.mk (hs.out.below (below_alloc (Below.refl wr.heap.size wr) (.cells #[.func (.func 30) #[] #[], .func (.func 32) #[] #[.pointer (some ⟨g5, 0, none⟩)], .func (.func 32) #[] #[.pointer (some ⟨g6, 0, none⟩)]] 42 (0, 0))))
      clear hs
      have q0 : (wr.alloc (.cells #[.func (.func 30) #[] #[], .func (.func 32) #[] #[.pointer (some ⟨g5, 0, none⟩)], .func (.func 32) #[] #[.pointer (some ⟨g6, 0, none⟩)]] 42 (0, 0))).cell? ⟨w.heap.size, 0, none⟩ = some (.int .i64 c) := blk_cell hs2.out.s 0
      have q1 : (wr.alloc (.cells #[.func (.func 30) #[] #[], .func (.func 32) #[] #[.pointer (some ⟨g5, 0, none⟩)], .func (.func 32) #[] #[.pointer (some ⟨g6, 0, none⟩)]] 42 (0, 0))).cell? ⟨w.heap.size, 1, none⟩ = some (.int .i64 t) := blk_cell hs2.out.s 1
      have q2 : (wr.alloc (.cells #[.func (.func 30) #[] #[], .func (.func 32) #[] #[.pointer (some ⟨g5, 0, none⟩)], .func (.func 32) #[] #[.pointer (some ⟨g6, 0, none⟩)]] 42 (0, 0))).cell? ⟨w.heap.size, 2, none⟩ = some (.int .i64 x) := blk_cell hs2.out.s 2
      have q3 : (wr.alloc (.cells #[.func (.func 30) #[] #[], .func (.func 32) #[] #[.pointer (some ⟨g5, 0, none⟩)], .func (.func 32) #[] #[.pointer (some ⟨g6, 0, none⟩)]] 42 (0, 0))).cell? ⟨w.heap.size, 3, none⟩ = some (.int .i64 m) := blk_cell hs2.out.s 3
      have q4 : (wr.alloc (.cells #[.func (.func 30) #[] #[], .func (.func 32) #[] #[.pointer (some ⟨g5, 0, none⟩)], .func (.func 32) #[] #[.pointer (some ⟨g6, 0, none⟩)]] 42 (0, 0))).cell? ⟨w.heap.size, 4, none⟩ = some (.int .i64 k) := blk_cell hs2.out.s 4
      have q5 : (wr.alloc (.cells #[.func (.func 30) #[] #[], .func (.func 32) #[] #[.pointer (some ⟨g5, 0, none⟩)], .func (.func 32) #[] #[.pointer (some ⟨g6, 0, none⟩)]] 42 (0, 0))).cell? ⟨w.heap.size, 5, none⟩ = some (.int .i64 e) := blk_cell hs2.out.s 5
      by_cases c1 : k < 1
      · go_wp2_with fail
        refine (hand_at4 _ _).mono ?_
        rintro q w2 ⟨rfl, rfl⟩
        go_wp2_with fail
        refine (hand_low 0 g5 1 _ _ _ _ _ _ _ hs2.out.p.b5).mono ?_
        rintro q w3 ⟨rfl, hb3⟩
        have HK3 := Aside0.mk (blk_below HK.out hb3)
        have hs3 := Aside0.mk (hs2.out.below hb3)
        clear q0 q1 q2 q3 q4 q5 hb3
        go_wp2_with fail
        go_ret
        have hf : r = false := by
          rw [← Bool.not_eq_true, HR.out]; unfold mayP; omega
        rw [hf]
        exact ⟨rfl, hs3.out.b⟩
      · by_cases c2 : 6 < k
        · go_wp2_with fail
          refine (hand_at4 _ _).mono ?_
          rintro q w2 ⟨rfl, rfl⟩
          go_wp2_with fail
          refine (hand_low 0 g5 1 _ _ _ _ _ _ _ hs2.out.p.b5).mono ?_
          rintro q w3 ⟨rfl, hb3⟩
          have HK3 := Aside0.mk (blk_below HK.out hb3)
          have hs3 := Aside0.mk (hs2.out.below hb3)
          clear q0 q1 q2 q3 q4 q5 hb3
          have q0 : w3.cell? ⟨w.heap.size, 0, none⟩ = some (.int .i64 c) := blk_cell hs3.out.s 0
          have q1 : w3.cell? ⟨w.heap.size, 1, none⟩ = some (.int .i64 t) := blk_cell hs3.out.s 1
          have q2 : w3.cell? ⟨w.heap.size, 2, none⟩ = some (.int .i64 x) := blk_cell hs3.out.s 2
          have q3 : w3.cell? ⟨w.heap.size, 3, none⟩ = some (.int .i64 m) := blk_cell hs3.out.s 3
          have q4 : w3.cell? ⟨w.heap.size, 4, none⟩ = some (.int .i64 k) := blk_cell hs3.out.s 4
          have q5 : w3.cell? ⟨w.heap.size, 5, none⟩ = some (.int .i64 e) := blk_cell hs3.out.s 5
          have z0 : w3.cell? ⟨wr.heap.size, 0, none⟩ = some (.func (.func 30) #[] #[]) := blk_cell HK3.out 0
          have z1 : w3.cell? ⟨wr.heap.size, 1, none⟩ = some (.func (.func 32) #[] #[.pointer (some ⟨g5, 0, none⟩)]) := blk_cell HK3.out 1
          have z2 : w3.cell? ⟨wr.heap.size, 2, none⟩ = some (.func (.func 32) #[] #[.pointer (some ⟨g6, 0, none⟩)]) := blk_cell HK3.out 2
          go_wp2_with fail
          refine (hand_low 0 g6 6 _ _ _ _ _ _ _ hs3.out.p.b6).mono ?_
          rintro q w4 ⟨rfl, hb4⟩
          have hs4 := Aside0.mk (hs3.out.below hb4)
          clear q0 q1 q2 q3 q4 q5 z0 z1 z2 hb4
          go_wp2_with fail
          go_ret
          have hf : r = false := by
            rw [← Bool.not_eq_true, HR.out]; unfold mayP; omega
          rw [hf]
          exact ⟨rfl, hs4.out.b⟩
        · go_wp2_with fail
          refine (hand_at4 _ _).mono ?_
          rintro q w2 ⟨rfl, rfl⟩
          go_wp2_with fail
          refine (hand_low 0 g5 1 _ _ _ _ _ _ _ hs2.out.p.b5).mono ?_
          rintro q w3 ⟨rfl, hb3⟩
          have HK3 := Aside0.mk (blk_below HK.out hb3)
          have hs3 := Aside0.mk (hs2.out.below hb3)
          clear q0 q1 q2 q3 q4 q5 hb3
          have q0 : w3.cell? ⟨w.heap.size, 0, none⟩ = some (.int .i64 c) := blk_cell hs3.out.s 0
          have q1 : w3.cell? ⟨w.heap.size, 1, none⟩ = some (.int .i64 t) := blk_cell hs3.out.s 1
          have q2 : w3.cell? ⟨w.heap.size, 2, none⟩ = some (.int .i64 x) := blk_cell hs3.out.s 2
          have q3 : w3.cell? ⟨w.heap.size, 3, none⟩ = some (.int .i64 m) := blk_cell hs3.out.s 3
          have q4 : w3.cell? ⟨w.heap.size, 4, none⟩ = some (.int .i64 k) := blk_cell hs3.out.s 4
          have q5 : w3.cell? ⟨w.heap.size, 5, none⟩ = some (.int .i64 e) := blk_cell hs3.out.s 5
          have z0 : w3.cell? ⟨wr.heap.size, 0, none⟩ = some (.func (.func 30) #[] #[]) := blk_cell HK3.out 0
          have z1 : w3.cell? ⟨wr.heap.size, 1, none⟩ = some (.func (.func 32) #[] #[.pointer (some ⟨g5, 0, none⟩)]) := blk_cell HK3.out 1
          have z2 : w3.cell? ⟨wr.heap.size, 2, none⟩ = some (.func (.func 32) #[] #[.pointer (some ⟨g6, 0, none⟩)]) := blk_cell HK3.out 2
          go_wp2_with fail
          refine (hand_low 0 g6 6 _ _ _ _ _ _ _ hs3.out.p.b6).mono ?_
          rintro q w4 ⟨rfl, hb4⟩
          have hs4 := Aside0.mk (hs3.out.below hb4)
          clear q0 q1 q2 q3 q4 q5 z0 z1 z2 hb4
          go_wp2_with fail
          go_roundw
          case rel => exact ⟨5, by omega, by omega, rfl, ⟨by have h := OK.out; unfold okTo at h ⊢; omega⟩, hs4⟩
          case measure => simp [intOf]
    · have hix := idx5 g0 g1 g2 g3 g4 g5 g6 g7 g8
      unfold TO FN at hix
      have HK := Aside0.mk (blk_new wr (.cells #[.func (.func 31) #[] #[], .func (.func 32) #[] #[.pointer (some ⟨g7, 0, none⟩)], .func (.func 32) #[] #[.pointer (some ⟨g8, 0, none⟩)]] 42 (0, 0)))
      have hs2 := Aside0.mk (hs.out.below (below_alloc (Below.refl wr.heap.size wr) (.cells #[.func (.func 31) #[] #[], .func (.func 32) #[] #[.pointer (some ⟨g7, 0, none⟩)], .func (.func 32) #[] #[.pointer (some ⟨g8, 0, none⟩)]] 42 (0, 0))))
      clear hs
      have q0 : (wr.alloc (.cells #[.func (.func 31) #[] #[], .func (.func 32) #[] #[.pointer (some ⟨g7, 0, none⟩)], .func (.func 32) #[] #[.pointer (some ⟨g8, 0, none⟩)]] 42 (0, 0))).cell? ⟨w.heap.size, 0, none⟩ = some (.int .i64 c) := blk_cell hs2.out.s 0
      have q1 : (wr.alloc (.cells #[.func (.func 31) #[] #[], .func (.func 32) #[] #[.pointer (some ⟨g7, 0, none⟩)], .func (.func 32) #[] #[.pointer (some ⟨g8, 0, none⟩)]] 42 (0, 0))).cell? ⟨w.heap.size, 1, none⟩ = some (.int .i64 t) := blk_cell hs2.out.s 1
      have q2 : (wr.alloc (.cells #[.func (.func 31) #[] #[], .func (.func 32) #[] #[.pointer (some ⟨g7, 0, none⟩)], .func (.func 32) #[] #[.pointer (some ⟨g8, 0, none⟩)]] 42 (0, 0))).cell? ⟨w.heap.size, 2, none⟩ = some (.int .i64 x) := blk_cell hs2.out.s 2
      have q3 : (wr.alloc (.cells #[.func (.func 31) #[] #[], .func (.func 32) #[] #[.pointer (some ⟨g7, 0, none⟩)], .func (.func 32) #[] #[.pointer (some ⟨g8, 0, none⟩)]] 42 (0, 0))).cell? ⟨w.heap.size, 3, none⟩ = some (.int .i64 m) := blk_cell hs2.out.s 3
      have q4 : (wr.alloc (.cells #[.func (.func 31) #[] #[], .func (.func 32) #[] #[.pointer (some ⟨g7, 0, none⟩)], .func (.func 32) #[] #[.pointer (some ⟨g8, 0, none⟩)]] 42 (0, 0))).cell? ⟨w.heap.size, 4, none⟩ = some (.int .i64 k) := blk_cell hs2.out.s 4
      have q5 : (wr.alloc (.cells #[.func (.func 31) #[] #[], .func (.func 32) #[] #[.pointer (some ⟨g7, 0, none⟩)], .func (.func 32) #[] #[.pointer (some ⟨g8, 0, none⟩)]] 42 (0, 0))).cell? ⟨w.heap.size, 5, none⟩ = some (.int .i64 e) := blk_cell hs2.out.s 5
      by_cases c1 : e < 0
      · go_wp2_with fail
        refine (hand_at5 _ _).mono ?_
        rintro q w2 ⟨rfl, rfl⟩
        go_wp2_with fail
        refine (hand_low 0 g7 0 _ _ _ _ _ _ _ hs2.out.p.b7).mono ?_
        rintro q w3 ⟨rfl, hb3⟩
        have HK3 := Aside0.mk (blk_below HK.out hb3)
        have hs3 := Aside0.mk (hs2.out.below hb3)
        clear q0 q1 q2 q3 q4 q5 hb3
        go_wp2_with fail
        go_ret
        have hf : r = false := by
          rw [← Bool.not_eq_true, HR.out]; unfold mayP; omega
        rw [hf]
        exact ⟨rfl, hs3.out.b⟩
      · by_cases c2 : 8 < e
        · go_wp2_with fail
          refine (hand_at5 _ _).mono ?_
          rintro q w2 ⟨rfl, rfl⟩
          go_wp2_with fail
          refine (hand_low 0 g7 0 _ _ _ _ _ _ _ hs2.out.p.b7).mono ?_
          rintro q w3 ⟨rfl, hb3⟩
          have HK3 := Aside0.mk (blk_below HK.out hb3)
          have hs3 := Aside0.mk (hs2.out.below hb3)
          clear q0 q1 q2 q3 q4 q5 hb3
          have q0 : w3.cell? ⟨w.heap.size, 0, none⟩ = some (.int .i64 c) := blk_cell hs3.out.s 0
          have q1 : w3.cell? ⟨w.heap.size, 1, none⟩ = some (.int .i64 t) := blk_cell hs3.out.s 1
          have q2 : w3.cell? ⟨w.heap.size, 2, none⟩ = some (.int .i64 x) := blk_cell hs3.out.s 2
          have q3 : w3.cell? ⟨w.heap.size, 3, none⟩ = some (.int .i64 m) := blk_cell hs3.out.s 3
          have q4 : w3.cell? ⟨w.heap.size, 4, none⟩ = some (.int .i64 k) := blk_cell hs3.out.s 4
          have q5 : w3.cell? ⟨w.heap.size, 5, none⟩ = some (.int .i64 e) := blk_cell hs3.out.s 5
          have z0 : w3.cell? ⟨wr.heap.size, 0, none⟩ = some (.func (.func 31) #[] #[]) := blk_cell HK3.out 0
          have z1 : w3.cell? ⟨wr.heap.size, 1, none⟩ = some (.func (.func 32) #[] #[.pointer (some ⟨g7, 0, none⟩)]) := blk_cell HK3.out 1
          have z2 : w3.cell? ⟨wr.heap.size, 2, none⟩ = some (.func (.func 32) #[] #[.pointer (some ⟨g8, 0, none⟩)]) := blk_cell HK3.out 2
          go_wp2_with fail
          refine (hand_low 0 g8 8 _ _ _ _ _ _ _ hs3.out.p.b8).mono ?_
          rintro q w4 ⟨rfl, hb4⟩
          have hs4 := Aside0.mk (hs3.out.below hb4)
          clear q0 q1 q2 q3 q4 q5 z0 z1 z2 hb4
          go_wp2_with fail
          go_ret
          have hf : r = false := by
            rw [← Bool.not_eq_true, HR.out]; unfold mayP; omega
          rw [hf]
          exact ⟨rfl, hs4.out.b⟩
        · go_wp2_with fail
          refine (hand_at5 _ _).mono ?_
          rintro q w2 ⟨rfl, rfl⟩
          go_wp2_with fail
          refine (hand_low 0 g7 0 _ _ _ _ _ _ _ hs2.out.p.b7).mono ?_
          rintro q w3 ⟨rfl, hb3⟩
          have HK3 := Aside0.mk (blk_below HK.out hb3)
          have hs3 := Aside0.mk (hs2.out.below hb3)
          clear q0 q1 q2 q3 q4 q5 hb3
          have q0 : w3.cell? ⟨w.heap.size, 0, none⟩ = some (.int .i64 c) := blk_cell hs3.out.s 0
          have q1 : w3.cell? ⟨w.heap.size, 1, none⟩ = some (.int .i64 t) := blk_cell hs3.out.s 1
          have q2 : w3.cell? ⟨w.heap.size, 2, none⟩ = some (.int .i64 x) := blk_cell hs3.out.s 2
          have q3 : w3.cell? ⟨w.heap.size, 3, none⟩ = some (.int .i64 m) := blk_cell hs3.out.s 3
          have q4 : w3.cell? ⟨w.heap.size, 4, none⟩ = some (.int .i64 k) := blk_cell hs3.out.s 4
          have q5 : w3.cell? ⟨w.heap.size, 5, none⟩ = some (.int .i64 e) := blk_cell hs3.out.s 5
          have z0 : w3.cell? ⟨wr.heap.size, 0, none⟩ = some (.func (.func 31) #[] #[]) := blk_cell HK3.out 0
          have z1 : w3.cell? ⟨wr.heap.size, 1, none⟩ = some (.func (.func 32) #[] #[.pointer (some ⟨g7, 0, none⟩)]) := blk_cell HK3.out 1
          have z2 : w3.cell? ⟨wr.heap.size, 2, none⟩ = some (.func (.func 32) #[] #[.pointer (some ⟨g8, 0, none⟩)]) := blk_cell HK3.out 2
          go_wp2_with fail
          refine (hand_low 0 g8 8 _ _ _ _ _ _ _ hs3.out.p.b8).mono ?_
          rintro q w4 ⟨rfl, hb4⟩
          have hs4 := Aside0.mk (hs3.out.below hb4)
          clear q0 q1 q2 q3 q4 q5 z0 z1 z2 hb4
          go_wp2_with fail
          go_roundw
          case rel => exact ⟨6, by omega, by omega, rfl, ⟨by have h := OK.out; unfold okTo at h ⊢; omega⟩, hs4⟩
          case measure => simp [intOf]
    · have h := OK.out
      unfold okTo at h
      have q0 : wr.cell? ⟨w.heap.size, 0, none⟩ = some (.int .i64 c) := blk_cell hs.out.s 0
      have q1 : wr.cell? ⟨w.heap.size, 1, none⟩ = some (.int .i64 t) := blk_cell hs.out.s 1
      have q2 : wr.cell? ⟨w.heap.size, 2, none⟩ = some (.int .i64 x) := blk_cell hs.out.s 2
      have q3 : wr.cell? ⟨w.heap.size, 3, none⟩ = some (.int .i64 m) := blk_cell hs.out.s 3
      have q4 : wr.cell? ⟨w.heap.size, 4, none⟩ = some (.int .i64 k) := blk_cell hs.out.s 4
      have q5 : wr.cell? ⟨w.heap.size, 5, none⟩ = some (.int .i64 e) := blk_cell hs.out.s 5
      have HH := Aside0.mk h
      clear h
      have fin1 : b = false → r = false := by
        intro hb
        rw [← Bool.not_eq_true, HR.out]
        intro hm
        have := HPB.out.2 ⟨hm.2.2.2.1.1, hm.2.2.2.1.2, hm.2.2.2.2.1.2⟩
        rw [hb] at this
        exact absurd this (by simp)
      have fin2 : b = true → 0 < e → r = true := by
        intro hb he
        have h := HH.out
        rw [HR.out]; unfold mayP; omega
      have fin3 : b = true → ¬ 0 < e → t = x → r = true := by
        intro hb he ht
        have h := HH.out
        rw [HR.out]; unfold mayP; omega
      have fin4 : b = true → ¬ 0 < e → ¬ t = x → r = false := by
        intro hb he ht
        rw [← Bool.not_eq_true, HR.out]; unfold mayP; omega
      have F1 := Aside0.mk fin1
      have F2 := Aside0.mk fin2
      have F3 := Aside0.mk fin3
      have F4 := Aside0.mk fin4
      clear fin1 fin2 fin3 fin4
      cases b with
      | false =>
        go_wp2_with fail
        refine (pat_May.calls _ _ _ _ HPM.out).mono ?_
        rintro q w2 ⟨rfl, ⟨nd, rfl⟩⟩
        go_wp2_with fail
        go_ret
        rw [F1.out (by trivial)]
        exact ⟨rfl, pw_below_drewN hs.out.b nd⟩
      | true =>
        by_cases he : 0 < e
        · have hed : decide (0 < e) = true := by simpa using he
          go_wp2_with fail
          refine (pat_May.calls _ _ _ _ HPM.out).mono ?_
          rintro q w2 ⟨rfl, ⟨nd, rfl⟩⟩
          go_wp2_with fail
          go_ret
          rw [F2.out (by trivial) he]
          exact ⟨rfl, pw_below_drewN hs.out.b nd⟩
        · have hed : decide (0 < e) = false := by simpa using he
          by_cases ht : t = x
          · have htb : (t == x) = true := by simpa using ht
            have HT := Aside0.mk ht
            clear ht
            go_wp2_with fail
            refine (pat_May.calls _ _ _ _ HPM.out).mono ?_
            rintro q w2 ⟨rfl, ⟨nd, rfl⟩⟩
            go_wp2_with fail
            go_ret
            rw [F3.out (by trivial) he HT.out]
            exact ⟨by first | rfl | simp [htb], pw_below_drewN hs.out.b nd⟩
          · have htb : (t == x) = false := by simpa using ht
            go_wp2_with fail
            refine (pat_May.calls _ _ _ _ HPM.out).mono ?_
            rintro q w2 ⟨rfl, ⟨nd, rfl⟩⟩
            go_wp2_with fail
            go_ret
            rw [F4.out (by trivial) he ht]
            exact ⟨by first | rfl | simp [htb], pw_below_drewN hs.out.b nd⟩


end Go.Proofs.Ytalcblkdcmigeaa.PA
