/- The walk of spec.parts: the table of the six numbers, with their bounds as closures. -/
import Derived.Test.YtalcblkdcmigeaaPAx0
import Derived.Laws.CopyOwn
import Derived.Laws.EntriesVeiled
namespace Go.Proofs.Ytalcblkdcmigeaa.PA
open Go.RowKit Go.Proofs.YtalcblkdcmigeaaW.PrintWords Go.Proofs.YtalcblkdcmigeaaW.PrintLast Go.Proofs.YtalcblkdcmigeaaW.PrintMore
attribute [local go_sem] max2_int min2_int max_two min_two max_three min_three max_four min_four
set_option linter.unusedVariables false
set_option linter.unusedSimpArgs false

set_option maxHeartbeats 1000000 in
set_option maxRecDepth 100000 in
theorem hand_to (n : Int) (w : World) :
    Calls Try.prog 23 #[.int .i64 n] w fun e w' => ∃ g, e = .returned (.func (.func 32) #[] #[.pointer (some ⟨g, 0, none⟩)]) ∧ w'.heap[g]? = some (.cells #[.int .i64 n] 3 (0, 0)) ∧ w.heap.size ≤ g ∧ Below w.heap.size w w' := by
  have hmf : ∀ (fn : Fn) (first cap : Array Value) (w : World), (Instr.makeFunc fn first cap).run Try.prog w = .ok (.func fn first cap) w := fun _ _ _ _ => rfl
  go_enter Try.func23, Try.ntmps23
  go_wp2_with fail
  go_ret
  exact ⟨_, rfl, blk_new _ _, Nat.le_refl _, below_alloc (Below.refl _ _) _⟩
def TO (g : Nat) : Value := .func (.func 32) #[] #[.pointer (some ⟨g, 0, none⟩)]
def FN (f : Nat) : Value := .func (.func f) #[] #[]
def partsV (g0 g1 g2 g3 g4 g5 g6 g7 g8 : Nat) : Array Value :=
  #[FN 22, TO g0, TO g1, FN 24, FN 25, FN 26, FN 27, TO g2, TO g3, FN 28, TO g4, FN 29, FN 30, TO g5, TO g6, FN 31, TO g7, TO g8]
theorem parts_one (g0 g1 g2 g3 g4 g5 g6 g7 g8 : Nat) : (partsV g0 g1 g2 g3 g4 g5 g6 g7 g8).all (·.oneCell') = true := by simp [partsV, TO, FN, Value.oneCell']
set_option maxHeartbeats 4000000 in
set_option maxRecDepth 100000 in
theorem hand_parts (w : World) :
    Calls Try.prog 19 #[] w fun e w' => ∃ g0 g1 g2 g3 g4 g5 g6 g7 g8 : Nat, e = .returned (.agg (partsV g0 g1 g2 g3 g4 g5 g6 g7 g8)) ∧
      w'.heap[g0]? = some (.cells #[.int .i64 1] 3 (0, 0)) ∧ w'.heap[g1]? = some (.cells #[.int .i64 6] 3 (0, 0)) ∧ w'.heap[g2]? = some (.cells #[.int .i64 1] 3 (0, 0)) ∧ w'.heap[g3]? = some (.cells #[.int .i64 48] 3 (0, 0)) ∧
      w'.heap[g4]? = some (.cells #[.int .i64 1] 3 (0, 0)) ∧ w'.heap[g5]? = some (.cells #[.int .i64 1] 3 (0, 0)) ∧ w'.heap[g6]? = some (.cells #[.int .i64 6] 3 (0, 0)) ∧ w'.heap[g7]? = some (.cells #[.int .i64 0] 3 (0, 0)) ∧
      w'.heap[g8]? = some (.cells #[.int .i64 8] 3 (0, 0)) ∧ Below w.heap.size w w' := by
  have hu43 := Try.underlying43
  have hu42 := Try.underlying42
  go_enter Try.func19, Try.ntmps19
  go_wp2_with fail
  have HZ := Aside0.mk (blk_new w (.cells #[.nilFunc, .nilFunc, .nilFunc, .nilFunc, .nilFunc, .nilFunc, .nilFunc, .nilFunc, .nilFunc, .nilFunc, .nilFunc, .nilFunc, .nilFunc, .nilFunc, .nilFunc, .nilFunc, .nilFunc, .nilFunc] 43 (0, 0)))
  have HB := Aside0.mk (below_alloc (Below.refl w.heap.size w) (.cells #[.nilFunc, .nilFunc, .nilFunc, .nilFunc, .nilFunc, .nilFunc, .nilFunc, .nilFunc, .nilFunc, .nilFunc, .nilFunc, .nilFunc, .nilFunc, .nilFunc, .nilFunc, .nilFunc, .nilFunc, .nilFunc] 43 (0, 0)))
  refine (hand_to _ _).mono ?_
  rintro e w1 ⟨g0, rfl, hg0, hl0, hb⟩
  have HZ' := Aside0.mk (blk_below HZ.out hb)
  have HB' := Aside0.mk (below_step HB.out hb)
  have HL0 := Aside0.mk (Nat.lt_of_lt_of_le (blk_lt HZ.out) hl0)
  replace hg0 := Aside0.mk hg0
  clear hl0 hb HZ HB
  have HZ := HZ'
  have HB := HB'
  clear HZ' HB'
  go_wp2_with fail
  refine (hand_to _ _).mono ?_
  rintro e w2 ⟨g1, rfl, hg1, hl1, hb⟩
  have HZ' := Aside0.mk (blk_below HZ.out hb)
  have HB' := Aside0.mk (below_step HB.out hb)
  have HL1 := Aside0.mk (Nat.lt_of_lt_of_le (blk_lt HZ.out) hl1)
  replace hg0 := Aside0.mk (blk_below hg0.out hb)
  replace hg1 := Aside0.mk hg1
  clear hl1 hb HZ HB
  have HZ := HZ'
  have HB := HB'
  clear HZ' HB'
  go_wp2_with fail
  refine (hand_to _ _).mono ?_
  rintro e w3 ⟨g2, rfl, hg2, hl2, hb⟩
  have HZ' := Aside0.mk (blk_below HZ.out hb)
  have HB' := Aside0.mk (below_step HB.out hb)
  have HL2 := Aside0.mk (Nat.lt_of_lt_of_le (blk_lt HZ.out) hl2)
  replace hg0 := Aside0.mk (blk_below hg0.out hb)
  replace hg1 := Aside0.mk (blk_below hg1.out hb)
  replace hg2 := Aside0.mk hg2
  clear hl2 hb HZ HB
  have HZ := HZ'
  have HB := HB'
  clear HZ' HB'
  go_wp2_with fail
  refine (hand_to _ _).mono ?_
  rintro e w4 ⟨g3, rfl, hg3, hl3, hb⟩
  have HZ' := Aside0.mk (blk_below HZ.out hb)
  have HB' := Aside0.mk (below_step HB.out hb)
  have HL3 := Aside0.mk (Nat.lt_of_lt_of_le (blk_lt HZ.out) hl3)
  replace hg0 := Aside0.mk (blk_below hg0.out hb)
  replace hg1 := Aside0.mk (blk_below hg1.out hb)
  replace hg2 := Aside0.mk (blk_below hg2.out hb)
  replace hg3 := Aside0.mk hg3
  clear hl3 hb HZ HB
  have HZ := HZ'
  have HB := HB'
  clear HZ' HB'
  go_wp2_with fail
  refine (hand_to _ _).mono ?_
  rintro e w5 ⟨g4, rfl, hg4, hl4, hb⟩
  have HZ' := Aside0.mk (blk_below HZ.out hb)
  have HB' := Aside0.mk (below_step HB.out hb)
  have HL4 := Aside0.mk (Nat.lt_of_lt_of_le (blk_lt HZ.out) hl4)
  replace hg0 := Aside0.mk (blk_below hg0.out hb)
  replace hg1 := Aside0.mk (blk_below hg1.out hb)
  replace hg2 := Aside0.mk (blk_below hg2.out hb)
  replace hg3 := Aside0.mk (blk_below hg3.out hb)
  replace hg4 := Aside0.mk hg4
  clear hl4 hb HZ HB
  have HZ := HZ'
  have HB := HB'
  clear HZ' HB'
  go_wp2_with fail
  refine (hand_to _ _).mono ?_
  rintro e w6 ⟨g5, rfl, hg5, hl5, hb⟩
  have HZ' := Aside0.mk (blk_below HZ.out hb)
  have HB' := Aside0.mk (below_step HB.out hb)
  have HL5 := Aside0.mk (Nat.lt_of_lt_of_le (blk_lt HZ.out) hl5)
  replace hg0 := Aside0.mk (blk_below hg0.out hb)
  replace hg1 := Aside0.mk (blk_below hg1.out hb)
  replace hg2 := Aside0.mk (blk_below hg2.out hb)
  replace hg3 := Aside0.mk (blk_below hg3.out hb)
  replace hg4 := Aside0.mk (blk_below hg4.out hb)
  replace hg5 := Aside0.mk hg5
  clear hl5 hb HZ HB
  have HZ := HZ'
  have HB := HB'
  clear HZ' HB'
  go_wp2_with fail
  refine (hand_to _ _).mono ?_
  rintro e w7 ⟨g6, rfl, hg6, hl6, hb⟩
  have HZ' := Aside0.mk (blk_below HZ.out hb)
  have HB' := Aside0.mk (below_step HB.out hb)
  have HL6 := Aside0.mk (Nat.lt_of_lt_of_le (blk_lt HZ.out) hl6)
  replace hg0 := Aside0.mk (blk_below hg0.out hb)
  replace hg1 := Aside0.mk (blk_below hg1.out hb)
  replace hg2 := Aside0.mk (blk_below hg2.out hb)
  replace hg3 := Aside0.mk (blk_below hg3.out hb)
  replace hg4 := Aside0.mk (blk_below hg4.out hb)
  replace hg5 := Aside0.mk (blk_below hg5.out hb)
  replace hg6 := Aside0.mk hg6
  clear hl6 hb HZ HB
  have HZ := HZ'
  have HB := HB'
  clear HZ' HB'
  go_wp2_with fail
  refine (hand_to _ _).mono ?_
  rintro e w8 ⟨g7, rfl, hg7, hl7, hb⟩
  have HZ' := Aside0.mk (blk_below HZ.out hb)
  have HB' := Aside0.mk (below_step HB.out hb)
  have HL7 := Aside0.mk (Nat.lt_of_lt_of_le (blk_lt HZ.out) hl7)
  replace hg0 := Aside0.mk (blk_below hg0.out hb)
  replace hg1 := Aside0.mk (blk_below hg1.out hb)
  replace hg2 := Aside0.mk (blk_below hg2.out hb)
  replace hg3 := Aside0.mk (blk_below hg3.out hb)
  replace hg4 := Aside0.mk (blk_below hg4.out hb)
  replace hg5 := Aside0.mk (blk_below hg5.out hb)
  replace hg6 := Aside0.mk (blk_below hg6.out hb)
  replace hg7 := Aside0.mk hg7
  clear hl7 hb HZ HB
  have HZ := HZ'
  have HB := HB'
  clear HZ' HB'
  go_wp2_with fail
  refine (hand_to _ _).mono ?_
  rintro e w9 ⟨g8, rfl, hg8, hl8, hb⟩
  have HZ' := Aside0.mk (blk_below HZ.out hb)
  have HB' := Aside0.mk (below_step HB.out hb)
  have HL8 := Aside0.mk (Nat.lt_of_lt_of_le (blk_lt HZ.out) hl8)
  replace hg0 := Aside0.mk (blk_below hg0.out hb)
  replace hg1 := Aside0.mk (blk_below hg1.out hb)
  replace hg2 := Aside0.mk (blk_below hg2.out hb)
  replace hg3 := Aside0.mk (blk_below hg3.out hb)
  replace hg4 := Aside0.mk (blk_below hg4.out hb)
  replace hg5 := Aside0.mk (blk_below hg5.out hb)
  replace hg6 := Aside0.mk (blk_below hg6.out hb)
  replace hg7 := Aside0.mk (blk_below hg7.out hb)
  replace hg8 := Aside0.mk hg8
  clear hl8 hb HZ HB
  have HZ := HZ'
  have HB := HB'
  clear HZ' HB'
  go_wp2_with ((with_reducible refine gate_store (t := 43) (p := 0) (v := .tmp 16) rfl ?_); refine wpList_store_row rfl 43 (.tmp 0) (.tmp 16) rfl w.heap.size (partsV g0 g1 g2 g3 g4 g5 g6 g7 g8) rfl rfl 43 _ HZ.out (by kernel_rfl) rfl (parts_one _ _ _ _ _ _ _ _ _) ?_)
  refine bodyPost_ret (v := .agg (partsV g0 g1 g2 g3 g4 g5 g6 g7 g8)) (results_cell_row rfl _ _ w.heap.size 43 _ (0, 0) _ rfl (setRow_heap _ _ _ _ _ _ HZ.out) hu43 rfl (by kernel_rfl)) rfl ⟨g0, g1, g2, g3, g4, g5, g6, g7, g8, rfl, ?_⟩
  refine ⟨?_, ?_, ?_, ?_, ?_, ?_, ?_, ?_, ?_, ?_⟩
  · exact (setRow_other _ _ _ _ (Nat.ne_of_gt HL0.out)).trans hg0.out
  · exact (setRow_other _ _ _ _ (Nat.ne_of_gt HL1.out)).trans hg1.out
  · exact (setRow_other _ _ _ _ (Nat.ne_of_gt HL2.out)).trans hg2.out
  · exact (setRow_other _ _ _ _ (Nat.ne_of_gt HL3.out)).trans hg3.out
  · exact (setRow_other _ _ _ _ (Nat.ne_of_gt HL4.out)).trans hg4.out
  · exact (setRow_other _ _ _ _ (Nat.ne_of_gt HL5.out)).trans hg5.out
  · exact (setRow_other _ _ _ _ (Nat.ne_of_gt HL6.out)).trans hg6.out
  · exact (setRow_other _ _ _ _ (Nat.ne_of_gt HL7.out)).trans hg7.out
  · exact (setRow_other _ _ _ _ (Nat.ne_of_gt HL8.out)).trans hg8.out
  · exact below_setRow HB.out (Nat.le_refl _) _

def mayP (c t x m k e : Int) : Prop := (1 ≤ c ∧ c ≤ 6) ∧ (c ≤ t ∧ t ≤ x) ∧ (1 ≤ x ∧ x ≤ 48) ∧ (1 ≤ m ∧ m ≤ k) ∧ (1 ≤ k ∧ k ≤ 6) ∧ (0 ≤ e ∧ e ≤ 8) ∧ (0 < e ∨ t = x)
instance (c t x m k e : Int) : Decidable (mayP c t x m k e) := by unfold mayP; infer_instance
theorem idx0 (g0 g1 g2 g3 g4 g5 g6 g7 g8 : Nat) (w : World) : (Instr.index 43 (.agg (partsV g0 g1 g2 g3 g4 g5 g6 g7 g8)) (.int .i64 0)).run Try.prog w = .ok (.agg #[FN 22, TO g0, TO g1]) w := by kernel_rfl
theorem idx1 (g0 g1 g2 g3 g4 g5 g6 g7 g8 : Nat) (w : World) : (Instr.index 43 (.agg (partsV g0 g1 g2 g3 g4 g5 g6 g7 g8)) (.int .i64 1)).run Try.prog w = .ok (.agg #[FN 24, FN 25, FN 26]) w := by kernel_rfl
theorem idx2 (g0 g1 g2 g3 g4 g5 g6 g7 g8 : Nat) (w : World) : (Instr.index 43 (.agg (partsV g0 g1 g2 g3 g4 g5 g6 g7 g8)) (.int .i64 2)).run Try.prog w = .ok (.agg #[FN 27, TO g2, TO g3]) w := by kernel_rfl
theorem idx3 (g0 g1 g2 g3 g4 g5 g6 g7 g8 : Nat) (w : World) : (Instr.index 43 (.agg (partsV g0 g1 g2 g3 g4 g5 g6 g7 g8)) (.int .i64 3)).run Try.prog w = .ok (.agg #[FN 28, TO g4, FN 29]) w := by kernel_rfl
theorem idx4 (g0 g1 g2 g3 g4 g5 g6 g7 g8 : Nat) (w : World) : (Instr.index 43 (.agg (partsV g0 g1 g2 g3 g4 g5 g6 g7 g8)) (.int .i64 4)).run Try.prog w = .ok (.agg #[FN 30, TO g5, TO g6]) w := by kernel_rfl
theorem idx5 (g0 g1 g2 g3 g4 g5 g6 g7 g8 : Nat) (w : World) : (Instr.index 43 (.agg (partsV g0 g1 g2 g3 g4 g5 g6 g7 g8)) (.int .i64 5)).run Try.prog w = .ok (.agg #[FN 31, TO g7, TO g8]) w := by kernel_rfl
/-- The blocks of the parts' numbers. -/
structure PB (W : World) (g0 g1 g2 g3 g4 g5 g6 g7 g8 : Nat) : Prop where
  b0 : W.heap[g0]? = some (.cells #[.int .i64 1] 3 (0, 0))
  b1 : W.heap[g1]? = some (.cells #[.int .i64 6] 3 (0, 0))
  b2 : W.heap[g2]? = some (.cells #[.int .i64 1] 3 (0, 0))
  b3 : W.heap[g3]? = some (.cells #[.int .i64 48] 3 (0, 0))
  b4 : W.heap[g4]? = some (.cells #[.int .i64 1] 3 (0, 0))
  b5 : W.heap[g5]? = some (.cells #[.int .i64 1] 3 (0, 0))
  b6 : W.heap[g6]? = some (.cells #[.int .i64 6] 3 (0, 0))
  b7 : W.heap[g7]? = some (.cells #[.int .i64 0] 3 (0, 0))
  b8 : W.heap[g8]? = some (.cells #[.int .i64 8] 3 (0, 0))
theorem PB.below {W W' : World} {g0 g1 g2 g3 g4 g5 g6 g7 g8 : Nat} (h : PB W g0 g1 g2 g3 g4 g5 g6 g7 g8) (hb : Below W.heap.size W W') : PB W' g0 g1 g2 g3 g4 g5 g6 g7 g8 :=
  ⟨blk_below h.b0 hb, blk_below h.b1 hb, blk_below h.b2 hb, blk_below h.b3 hb, blk_below h.b4 hb, blk_below h.b5 hb, blk_below h.b6 hb, blk_below h.b7 hb, blk_below h.b8 hb⟩
theorem hand_parts' (w : World) :
    Calls Try.prog 19 #[] w fun e w' => ∃ g0 g1 g2 g3 g4 g5 g6 g7 g8 : Nat, e = .returned (.agg (partsV g0 g1 g2 g3 g4 g5 g6 g7 g8)) ∧ PB w' g0 g1 g2 g3 g4 g5 g6 g7 g8 ∧ Below w.heap.size w w' :=
  (hand_parts w).mono fun e w' ⟨g0, g1, g2, g3, g4, g5, g6, g7, g8, he, h0, h1, h2, h3, h4, h5, h6, h7, h8, hb⟩ => ⟨g0, g1, g2, g3, g4, g5, g6, g7, g8, he, ⟨h0, h1, h2, h3, h4, h5, h6, h7, h8⟩, hb⟩
/-- 'low' and 'high' of one number: the closure of to. -/
theorem hand_low (f g : Nat) (n : Int) (c t x m k e : Int) (w : World) (hg : w.heap[g]? = some (.cells #[.int .i64 n] 3 (0, 0))) :
    Calls Try.prog 32 #[.agg #[.int .i64 c, .int .i64 t, .int .i64 x, .int .i64 m, .int .i64 k, .int .i64 e], .pointer (some ⟨g, 0, none⟩)] w fun r w' => r = .returned (.int .i64 n) ∧ Below w.heap.size w w' := by
  have hu23 := Try.underlying23
  have hc : (w.alloc (.cells #[.int .i64 c, .int .i64 t, .int .i64 x, .int .i64 m, .int .i64 k, .int .i64 e] 23 (0, 0))).cell? ⟨g, 0, none⟩ = some (.int .i64 n) := blk_cell (blk_alloc hg _) 0
  go_enter Try.func32, Try.ntmps32
  go_wp2_with fail
  go_ret
  exact ⟨rfl, below_alloc (Below.refl _ _) _⟩

/-- The addresses of the fields. -/
theorem hand_at0 (g : Nat) (w : World) : Calls Try.prog 22 #[.pointer (some ⟨g, 0, none⟩)] w fun r w' => r = .returned (.pointer (some ⟨g, 0, none⟩)) ∧ w = w' := by
  have hu23 := Try.underlying23
  go_enter Try.func22, Try.ntmps22
  go_wp2_with fail
  go_ret
  exact ⟨rfl, rfl⟩
theorem hand_at1 (g : Nat) (w : World) : Calls Try.prog 24 #[.pointer (some ⟨g, 0, none⟩)] w fun r w' => r = .returned (.pointer (some ⟨g, 1, none⟩)) ∧ w = w' := by
  have hu23 := Try.underlying23
  go_enter Try.func24, Try.ntmps24
  go_wp2_with fail
  go_ret
  exact ⟨rfl, rfl⟩
theorem hand_at2 (g : Nat) (w : World) : Calls Try.prog 27 #[.pointer (some ⟨g, 0, none⟩)] w fun r w' => r = .returned (.pointer (some ⟨g, 2, none⟩)) ∧ w = w' := by
  have hu23 := Try.underlying23
  go_enter Try.func27, Try.ntmps27
  go_wp2_with fail
  go_ret
  exact ⟨rfl, rfl⟩
theorem hand_at3 (g : Nat) (w : World) : Calls Try.prog 28 #[.pointer (some ⟨g, 0, none⟩)] w fun r w' => r = .returned (.pointer (some ⟨g, 3, none⟩)) ∧ w = w' := by
  have hu23 := Try.underlying23
  go_enter Try.func28, Try.ntmps28
  go_wp2_with fail
  go_ret
  exact ⟨rfl, rfl⟩
theorem hand_at4 (g : Nat) (w : World) : Calls Try.prog 30 #[.pointer (some ⟨g, 0, none⟩)] w fun r w' => r = .returned (.pointer (some ⟨g, 4, none⟩)) ∧ w = w' := by
  have hu23 := Try.underlying23
  go_enter Try.func30, Try.ntmps30
  go_wp2_with fail
  go_ret
  exact ⟨rfl, rfl⟩
theorem hand_at5 (g : Nat) (w : World) : Calls Try.prog 31 #[.pointer (some ⟨g, 0, none⟩)] w fun r w' => r = .returned (.pointer (some ⟨g, 5, none⟩)) ∧ w = w' := by
  have hu23 := Try.underlying23
  go_enter Try.func31, Try.ntmps31
  go_wp2_with fail
  go_ret
  exact ⟨rfl, rfl⟩
theorem hand_f25 (c t x m k e : Int) (w : World) : Calls Try.prog 25 #[.agg #[.int .i64 c, .int .i64 t, .int .i64 x, .int .i64 m, .int .i64 k, .int .i64 e]] w fun r w' => r = .returned (.int .i64 c) ∧ Below w.heap.size w w' := by
  have hu23 := Try.underlying23
  go_enter Try.func25, Try.ntmps25
  go_wp2_with fail
  go_ret
  exact ⟨rfl, below_alloc (Below.refl _ _) _⟩
theorem hand_f26 (c t x m k e : Int) (w : World) : Calls Try.prog 26 #[.agg #[.int .i64 c, .int .i64 t, .int .i64 x, .int .i64 m, .int .i64 k, .int .i64 e]] w fun r w' => r = .returned (.int .i64 x) ∧ Below w.heap.size w w' := by
  have hu23 := Try.underlying23
  go_enter Try.func26, Try.ntmps26
  go_wp2_with fail
  go_ret
  exact ⟨rfl, below_alloc (Below.refl _ _) _⟩
theorem hand_f29 (c t x m k e : Int) (w : World) : Calls Try.prog 29 #[.agg #[.int .i64 c, .int .i64 t, .int .i64 x, .int .i64 m, .int .i64 k, .int .i64 e]] w fun r w' => r = .returned (.int .i64 k) ∧ Below w.heap.size w w' := by
  have hu23 := Try.underlying23
  go_enter Try.func29, Try.ntmps29
  go_wp2_with fail
  go_ret
  exact ⟨rfl, below_alloc (Below.refl _ _) _⟩
def okTo (j c t x m k e : Int) : Prop := (0 < j → 1 ≤ c ∧ c ≤ 6) ∧ (1 < j → c ≤ t ∧ t ≤ x) ∧ (2 < j → 1 ≤ x ∧ x ≤ 48) ∧ (3 < j → 1 ≤ m ∧ m ≤ k) ∧ (4 < j → 1 ≤ k ∧ k ≤ 6) ∧ (5 < j → 0 ≤ e ∧ e ≤ 8)
structure PS (W : World) (B : Nat) (c t x m k e : Int) (w : World) (g0 g1 g2 g3 g4 g5 g6 g7 g8 : Nat) : Prop where
  s : W.heap[B]? = some (.cells #[.int .i64 c, .int .i64 t, .int .i64 x, .int .i64 m, .int .i64 k, .int .i64 e] 23 (0, 0))
  p : PB W g0 g1 g2 g3 g4 g5 g6 g7 g8
  b : Below w.heap.size w W
theorem PS.below {W W' : World} {B : Nat} {c t x m k e : Int} {w : World} {g0 g1 g2 g3 g4 g5 g6 g7 g8 : Nat} (h : PS W B c t x m k e w g0 g1 g2 g3 g4 g5 g6 g7 g8) (hb : Below W.heap.size W W') : PS W' B c t x m k e w g0 g1 g2 g3 g4 g5 g6 g7 g8 :=
  ⟨blk_below h.s hb, h.p.below hb, below_step h.b hb⟩

end Go.Proofs.Ytalcblkdcmigeaa.PA
