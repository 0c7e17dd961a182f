-- Written for this claim by a program (the kit's print over a changed input, then joined with texts by hand).
import Derived.Test.YtndeaifggijlaaaPAx0
import Derived.Test.YtndeaifggijlaaaPAx1
import Derived.Test.YtndeaifggijlaaaPAx2
import Derived.Test.YtndeaifggijlaaaPAx6
import Derived.Deep.RegionWith
import Derived.Test.YtndeaifggijlaaaPAx4
import Derived.Test.YtndeaifggijlaaaPAx5
namespace Go.Proofs.Ytndeaifggijlaaa.PA
open Go.RowKit Go.Proofs.YtndeaifggijlaaaW.PrintWords Go.Proofs.YtndeaifggijlaaaW.PrintLast Go.Proofs.YtndeaifggijlaaaW.PrintMore
attribute [local go_sem] max2_int min2_int max_two min_two max_three min_three max_four min_four   -- for this text's walks alone
set_option linter.unusedVariables false
set_option linter.unusedSimpArgs false

/-! ### pat_On: function 12 -/
def pat_On.j0 : Nat → Int → Int → Int → Bool → Option (Bool)
  | 0, _, _, _, _ => none
  | k + 1, x0, x1, x2, x20 => if x20 = true then (some false) else (if x1 = 0 then (none) else ((frac_Ceil.f (wrap64 ((Int.tmod x2 x1) * x0)) x1).bind fun bt109 => ((frac_Ceil.f (wrap64 ((wrap64 ((Int.tmod x2 x1) + 1)) * x0)) x1).bind fun bt111 => (some (decide (bt111.1 > bt109.1))))))
def pat_On.f (k : Nat) (a0 : Int) (a1 : Int) (a2 : Int) : Option (Bool) := (pat_May.f a0 a1).bind fun t107 => (if t107 = true then ((pat_in.f a2).bind fun t108 => (pat_On.j0 k a0 a1 a2 (!t108))) else (pat_On.j0 k a0 a1 a2 true))
theorem pat_On.mono_l : ∀ k, (∀ y0 y1 y2 y3, LeO (pat_On.j0 k y0 y1 y2 y3) (pat_On.j0 (k + 1) y0 y1 y2 y3))
  | 0 => fun _ _ _ _ r h => by simp [pat_On.j0] at h
  | k + 1 => by
    have ih0 := pat_On.mono_l k
    · intro y0 y1 y2 y3
      unfold pat_On.j0
      repeat' first
      | (with_reducible exact ih0 _ _ _ _)
      | (with_reducible exact LeO.refl _)
      | (with_reducible exact LeO.none _)
      | (with_reducible refine LeO.ite ?_ ?_)
      | (with_reducible refine LeO.bind ?_ (fun _ => ?_))
      | exact ih0 _ _ _ _
      | exact LeO.none _
      | refine LeO.ite ?_ ?_
      | refine LeO.bind ?_ (fun _ => ?_)
theorem pat_On.mono : ∀ a0 a1 a2 k, LeO (pat_On.f k a0 a1 a2) (pat_On.f (k + 1) a0 a1 a2) := by
  intro a0 a1 a2 k
  have ih0 := pat_On.mono_l k
  unfold pat_On.f
  repeat' first
      | (with_reducible exact ih0 _ _ _ _)
      | (with_reducible exact LeO.refl _)
      | (with_reducible exact LeO.none _)
      | (with_reducible refine LeO.ite ?_ ?_)
      | (with_reducible refine LeO.bind ?_ (fun _ => ?_))
      | exact ih0 _ _ _ _
      | exact LeO.none _
      | refine LeO.ite ?_ ?_
      | refine LeO.bind ?_ (fun _ => ?_)
def ceilv (a b : Int) : Int := wrap64 (wrap64 (Int.tdiv a b) + mn (Int.tmod a b) 1)
theorem ceil_f (a b : Int) (h0 : 0 ≤ a) (h1 : a ≤ 1000) (h2 : 1 ≤ b) (h3 : b ≤ 1000) : frac_Ceil.f a b = some (ceilv a b, true) := by
  unfold frac_Ceil.f frac_ratio_may.f frac_in.f
  have g1 : a ≥ 0 := h0
  have g2 : a ≤ 4611686018427387904 := by omega
  have g3 : b ≥ 1 := h2
  have g4 : b ≤ 4611686018427387904 := by omega
  have g5 : b ≠ 0 := by omega
  simp [g1, g2, g3, g4, g5, ceilv]
def ofB (m k : Int) (i : Nat) : Bool := decide (ceilv ((i : Int) * m) k < ceilv (((i : Int) + 1) * m) k)
def ofCells (m k : Int) (j : Nat) : Array Value := ((List.range 6).map fun i => Value.bool (decide (i < j) && ofB m k i)).toArray
theorem ofCells_zero (m k : Int) : ofCells m k 0 = #[.bool false, .bool false, .bool false, .bool false, .bool false, .bool false] := by
  simp [ofCells, List.range, List.range.loop]
theorem ofCells_succ (m k : Int) (j : Nat) (hj : j < 6) : (ofCells m k j).setIfInBounds j (.bool (ofB m k j)) = ofCells m k (j + 1) := by
  unfold ofCells
  apply Array.ext
  · simp
  · intro i h1 h2
    rw [Array.getElem_setIfInBounds]
    · simp only [List.getElem_toArray, List.getElem_map, List.getElem_range]
      by_cases e : j = i
      · subst e; simp
      · rw [if_neg e]
        have e2 : decide (i < j + 1) = decide (i < j) := by rw [decide_eq_decide]; omega
        rw [e2, List.getElem_toArray, List.getElem_map, List.getElem_range]
    · simpa using h1
theorem ofCells_get (m k : Int) (j i : Nat) (hi : i < 6) : (ofCells m k j)[i]? = some (.bool (decide (i < j) && ofB m k i)) := by
  unfold ofCells; simp [hi]
theorem hand_results {fn : Func} {p : Tmp} {ty : TypeId} (h : fn.results = #[.cell p ty]) (tmps : Array Value) (w : World) (g : Nat) (t : TypeId) (cs : Array Value) (fr : Nat × Nat) (n : Nat) (e : TypeId)
    (hp : tmps.getD p undef = .pointer (some ⟨g, 0, none⟩)) (hg : w.heap[g]? = some (.cells cs t fr))
    (hu : Try.prog.underlying ty = some (.array n e)) (hi : (Try.prog.info? ty).map (·.size) = some cs.size) :
    (results fn tmps).run Try.prog w = .ok (.agg cs) w := by
  have hp' : tmps[p]?.getD undef = .pointer (some ⟨g, 0, none⟩) := by simpa using hp
  simp [results, h, hp', asAddr, run_loadVar_row w g t ty cs fr _ hg hu rfl hi]
theorem blk_new2 (w : World) (o o' : Obj) : ((w.alloc o).alloc o').heap[w.heap.size + 1]? = some o' := by
  have h := blk_new (w.alloc o) o'
  rwa [show (w.alloc o).heap.size = w.heap.size + 1 from by simp] at h
theorem hand_mul (j : Nat) (m : Int) (h1 : 1 ≤ m) (h2 : m ≤ 6) (h3 : (j : Int) ≤ 7) : 0 ≤ (j : Int) * m ∧ (j : Int) * m ≤ 1000 := by
  have a := Int.mul_nonneg (show (0 : Int) ≤ j by omega) (show (0 : Int) ≤ m by omega)
  have b := Int.mul_le_mul (a := (j : Int)) (b := m) (c := 7) (d := 6) h3 h2 (by omega) (by omega)
  omega

set_option maxHeartbeats 1000000 in
set_option maxRecDepth 100000 in
theorem hand_of (m k : Int) (w : World) (h1 : 1 ≤ m) (h2 : m ≤ k) (h3 : k ≤ 6) :
    Calls Try.prog 23 #[.int .i64 m, .int .i64 k] w fun e w' => e = .returned (.agg (ofCells m k k.toNat)) ∧ Below w.heap.size w w' := by
  have hu34 := Try.underlying34
  go_enter Try.func23, Try.ntmps23
  go_wp2_with fail
  go_loopw [12] (fun i wr => ∃ j : Nat, (j : Int) ≤ k ∧ i = .int .i64 (j : Int) ∧ wr.heap[w.heap.size]? = some (.cells (ofCells m k 0) 34 (0, 0)) ∧ wr.heap[w.heap.size + 1]? = some (.cells (ofCells m k j) 34 (0, 0)) ∧ Below w.heap.size w wr) (fun i _ => k.toNat - (intOf i).toNat)
  case atStart => exact ⟨0, by omega, rfl, by rw [ofCells_zero]; exact blk_alloc (blk_new _ _) _, by rw [ofCells_zero]; exact blk_new2 _ _ _, below_alloc (below_alloc (Below.refl _ _) _) _⟩
  case round =>
    obtain ⟨j, hj, rfl, hb0, hb1, hbel⟩ := hrel
    by_cases hlt : (j : Int) < k
    · have hm1 := hand_mul j m h1 (by omega) (by omega)
      have hm2 := hand_mul (j + 1) m h1 (by omega) (by omega)
      rw [show (((j + 1 : Nat)) : Int) = (j : Int) + 1 from by omega] at hm2
      have A1 := Aside0.mk (ceil_f ((j : Int) * m) k hm1.1 hm1.2 (by omega) (by omega))
      have A2 := Aside0.mk (ceil_f (((j : Int) + 1) * m) k hm2.1 hm2.2 (by omega) (by omega))
      obtain ⟨c1, hc1⟩ : ∃ c, c = ceilv ((j : Int) * m) k := ⟨_, rfl⟩
      obtain ⟨c2, hc2⟩ : ∃ c, c = ceilv (((j : Int) + 1) * m) k := ⟨_, rfl⟩
      rw [← hc1] at A1
      rw [← hc2] at A2
      have C1 := Aside0.mk hc1
      have C2 := Aside0.mk hc2
      have B0 := Aside0.mk hb0
      have B1 := Aside0.mk hb1
      clear hc1 hc2 hb0 hb1
      obtain ⟨hm11, hm12⟩ := hm1
      obtain ⟨hm21, hm22⟩ := hm2
      go_wp2_with fail
      refine (frac_Ceil.calls _ _ _ _ _ A1.out).mono ?_
      rintro e w1 ⟨rfl, hbb1⟩
      go_wp2_with fail
      refine (frac_Ceil.calls _ _ _ _ _ A2.out).mono ?_
      rintro e w2 ⟨rfl, hbb2⟩
      have B0' := Aside0.mk (blk_below (blk_below B0.out hbb1) hbb2)
      have B1' := Aside0.mk (blk_below (blk_below B1.out hbb1) hbb2)
      have HB := Aside0.mk (below_step (below_step hbel hbb1) hbb2)
      clear B0 B1 hbel hbb1 hbb2
      have hcell : w2.cell? ⟨w.heap.size + 1, j, none⟩ = some (.bool false) := by rw [blk_cell B1'.out, ofCells_get _ _ _ _ (by omega)]; simp
      have hfr : w2.frozen? ⟨w.heap.size + 1, j, none⟩ = false := blk_frozen B1'.out j
      go_wp2_with fail
      go_roundw
      case rel =>
        refine ⟨j + 1, by omega, by go_num, ?_, ?_, ?_⟩
        · exact blk_far B0'.out (by simp) _
        · have e := blk_set B1'.out j (.bool (decide (c1 < c2)))
          rw [C1.out, C2.out] at e ⊢
          rw [← ofCells_succ m k j (by omega)]
          exact e
        · exact HB.out.setCell (by simp) _
      case measure => simp [intOf]; omega
    · obtain rfl : (j : Int) = k := by omega
      obtain ⟨b0, hbb0⟩ : ∃ b : Nat → Bool, b = fun i => (decide (i < j) && ofB m j i) := ⟨_, rfl⟩
      have hcs : ∀ i, i < 6 → wr.cell? ⟨w.heap.size + 1, i, none⟩ = some (.bool (b0 i)) := fun i hi => by rw [blk_cell hb1, ofCells_get _ _ _ _ hi, hbb0]
      have hzs : ∀ i, i < 6 → wr.cell? ⟨w.heap.size, i, none⟩ = some (.bool false) := fun i hi => by rw [blk_cell hb0, ofCells_get _ _ _ _ hi]; simp
      have hfin : (#[.bool (b0 0), .bool (b0 1), .bool (b0 2), .bool (b0 3), .bool (b0 4), .bool (b0 5)] : Array Value) = ofCells m j j := by
        subst hbb0; simp [ofCells, List.range, List.range.loop]
      have c0 := hcs 0 (by omega)
      have c1 := hcs 1 (by omega)
      have c2 := hcs 2 (by omega)
      have c3 := hcs 3 (by omega)
      have c4 := hcs 4 (by omega)
      have c5 := hcs 5 (by omega)
      have z0 := hzs 0 (by omega)
      have z1 := hzs 1 (by omega)
      have z2 := hzs 2 (by omega)
      have z3 := hzs 3 (by omega)
      have z4 := hzs 4 (by omega)
      have z5 := hzs 5 (by omega)
      have f0 : wr.frozen? ⟨w.heap.size, 0, none⟩ = false := blk_frozen hb0 0
      have f1 : wr.frozen? ⟨w.heap.size, 1, none⟩ = false := blk_frozen hb0 1
      have f2 : wr.frozen? ⟨w.heap.size, 2, none⟩ = false := blk_frozen hb0 2
      have f3 : wr.frozen? ⟨w.heap.size, 3, none⟩ = false := blk_frozen hb0 3
      have f4 : wr.frozen? ⟨w.heap.size, 4, none⟩ = false := blk_frozen hb0 4
      have f5 : wr.frozen? ⟨w.heap.size, 5, none⟩ = false := blk_frozen hb0 5
      have HF := Aside0.mk hfin
      clear hcs hzs hfin hbb0
      have HZ := Aside0.mk (blk_set (blk_set (blk_set (blk_set (blk_set (blk_set hb0 0 (.bool (b0 0))) 1 (.bool (b0 1))) 2 (.bool (b0 2))) 3 (.bool (b0 3))) 4 (.bool (b0 4))) 5 (.bool (b0 5)))
      rw [ofCells_zero] at HZ
      simp only [List.setIfInBounds_toArray, List.set_cons_zero, List.set_cons_succ] at HZ
      clear hb0 hb1
      go_wp2_with fail
      refine bodyPost_ret (v := .agg #[.bool (b0 0), .bool (b0 1), .bool (b0 2), .bool (b0 3), .bool (b0 4), .bool (b0 5)]) (hand_results rfl _ _ w.heap.size 34 _ (0, 0) _ _ rfl HZ.out hu34 (by kernel_rfl)) rfl ⟨?_, ?_⟩
      · rw [HF.out]
      · exact (((((hbel.setCell (Nat.le_refl _) _).setCell (Nat.le_refl _) _).setCell (Nat.le_refl _) _).setCell (Nat.le_refl _) _).setCell (Nat.le_refl _) _).setCell (Nat.le_refl _) _
theorem may_true (m k : Int) (h : pat_May.f m k = some true) : 1 ≤ m ∧ m ≤ k ∧ k ≤ 6 := by
  unfold pat_May.f at h
  by_cases h1 : m ≥ 1
  · rw [if_pos h1] at h
    by_cases h2 : m ≤ k
    · rw [if_pos h2] at h
      simp at h
      omega
    · rw [if_neg h2] at h; simp at h
  · rw [if_neg h1] at h; simp at h
theorem may_mk (m k : Int) (h1 : 1 ≤ m) (h2 : m ≤ k) (h3 : k ≤ 6) : pat_May.f m k = some true := by
  unfold pat_May.f
  rw [if_pos (show m ≥ 1 by omega), if_pos h2]; simp [h3]
theorem in_true (j : Int) (h : pat_in.f j = some true) : 0 ≤ j ∧ j ≤ 1099511627776 := by
  unfold pat_in.f at h
  by_cases h1 : j ≥ 0
  · rw [if_pos h1] at h
    simp at h
    omega
  · rw [if_neg h1] at h; simp at h
theorem in_mk (j : Int) (h1 : 0 ≤ j) (h2 : j ≤ 1099511627776) : pat_in.f j = some true := by
  unfold pat_in.f
  rw [if_pos (show j ≥ 0 by omega)]; simp [h2]
theorem mul_le (i m : Int) (a : 0 ≤ i) (b : i ≤ 7) (c : 1 ≤ m) (d : m ≤ 6) : 0 ≤ i * m ∧ i * m ≤ 1000 := by
  obtain ⟨n, rfl⟩ := Int.eq_ofNat_of_zero_le a
  exact hand_mul n m c d b
theorem hw_small (x : Int) (a : -1000000000000000 ≤ x) (b : x ≤ 1000000000000000) : wrap64 x = x := IntWalk.wrap64_in _ (by omega)
theorem on_j0 (k : Nat) (m kk j : Int) (hm1 : 1 ≤ m) (hm2 : m ≤ kk) (hm3 : kk ≤ 6) (hj : 0 ≤ j) : pat_On.j0 (k + 1) m kk j false = some (ofB m kk (j.tmod kk).toNat) := by
  have ht0 : 0 ≤ j.tmod kk := Int.tmod_nonneg _ hj
  have ht1 : j.tmod kk < kk := Int.tmod_lt_of_pos _ (by omega)
  have p1 := mul_le (j.tmod kk) m ht0 (by omega) hm1 (by omega)
  have p2 := mul_le (j.tmod kk + 1) m (by omega) (by omega) hm1 (by omega)
  simp only [pat_On.j0]
  rw [if_neg (by simp), if_neg (by omega), hw_small (j.tmod kk + 1) (by omega) (by omega), hw_small _ (by omega) (by omega), hw_small _ (by omega) (by omega),
    ceil_f _ _ p1.1 p1.2 (by omega) (by omega), ceil_f _ _ p2.1 p2.2 (by omega) (by omega)]
  simp only [Option.bind_some, ofB]
  rw [Int.toNat_of_nonneg ht0]
theorem on_f (k : Nat) (m kk j : Int) (hm1 : 1 ≤ m) (hm2 : m ≤ kk) (hm3 : kk ≤ 6) (hj : 0 ≤ j) (hj2 : j ≤ 1099511627776) : pat_On.f (k + 1) m kk j = some (ofB m kk (j.tmod kk).toNat) := by
  unfold pat_On.f
  rw [may_mk m kk hm1 hm2 hm3, in_mk j hj hj2]
  simp only [Option.bind_some, if_true]
  exact on_j0 k m kk j hm1 hm2 hm3 hj
set_option maxHeartbeats 4000000 in
set_option maxRecDepth 100000 in
theorem hand_on_no1 (m k j : Int) (w : World) (h : pat_May.f m k = some false) :
    Calls Try.prog 12 #[.int .i64 m, .int .i64 k, .int .i64 j] w fun e w' => e = .returned (.bool false) ∧ Below w.heap.size w w' := by
  have H1 := Aside0.mk h
  clear h
  go_enter Try.func12, Try.ntmps12
  go_wp2_with fail
  refine start_ (n := 17) (S := fun w' => True) (ds := []) #[false, false, false, false, false, false, false, false, false, false, false, false, false, false, false, false, false] (by kernel_rfl) rfl rfl trivial (fun hHeld => ?_)
  refine pure_ (i := 0) (N := some 7) (v := ?_) (a' := ?_) #[true, false, false, false, false, false, false, false, false, false, false, false, false, false, false, false, false] rfl rfl (by kernel_rfl) (fun _ _ _ h => h) (Or.inl ⟨by rfl, ?_⟩) ?_ ?_
  rotate_left
  · intro w'
    go_simp
    with_reducible rfl
  rotate_left
  · simp only [Act.put, List.setIfInBounds_toArray, List.set_cons_zero, List.set_cons_succ, i64_w, i32_w]
    rfl
  refine pure_ (i := 1) (N := some 8) (v := ?_) (a' := ?_) #[true, true, false, false, false, false, false, false, false, false, false, false, false, false, false, false, false] rfl rfl (by kernel_rfl) (fun _ _ _ h => h) (Or.inl ⟨by rfl, ?_⟩) ?_ ?_
  rotate_left
  · intro w'
    go_simp
    with_reducible rfl
  rotate_left
  · simp only [Act.put, List.setIfInBounds_toArray, List.set_cons_zero, List.set_cons_succ, i64_w, i32_w]
    rfl
  refine one_ (i := 2) (N := some 9) #[true, true, true, false, false, false, false, false, false, false, false, false, false, false, false, false, false] rfl rfl (by kernel_rfl) (by decide) (fun K hK => ?_)
  refine goes_ Try.func11 (by kernel_rfl) rfl #[.int .i64 m, .int .i64 k] (by rfl) rfl rfl (by simp only [List.map_toArray, List.map_cons, List.map_nil]; rfl) ?_
  with_reducible refine (pat_May.calls m k _ _ H1.out).mono ?_
  rintro e w1 ⟨rfl, ⟨nd, rfl⟩⟩
  refine ⟨_, rfl, ?_⟩
  refine hK.out _ _ trivial (fun hHeld => ?_)
  clear hK K
  refine norm_ (a' := ?_) ?_ ?_
  rotate_left
  · show Act.put _ (some 9) _ = _
    simp only [Act.put, List.setIfInBounds_toArray, List.set_cons_zero, List.set_cons_succ, i64_w, i32_w]
    rfl
  refine pure_ (i := 3) (N := some 10) (v := ?_) (a' := ?_) #[true, true, true, true, false, false, false, false, false, false, false, false, false, false, false, false, false] rfl rfl (by kernel_rfl) (fun _ _ _ h => h) (Or.inl ⟨by rfl, ?_⟩) ?_ ?_
  rotate_left
  · intro w'
    go_simp
    with_reducible rfl
  rotate_left
  · simp only [Act.put, List.setIfInBounds_toArray, List.set_cons_zero, List.set_cons_succ, i64_w, i32_w]
    rfl
  refine pure_ (i := 4) (N := some 11) (v := undef) (a' := ?_) #[true, true, true, true, true, false, false, false, false, false, false, false, false, false, false, false, false] rfl rfl (by kernel_rfl) (fun _ _ _ h => h) (Or.inr ⟨by rfl, rfl⟩) ?_ ?_
  rotate_left
  · simp only [Act.put, List.setIfInBounds_toArray, List.set_cons_zero, List.set_cons_succ, i64_w, i32_w]
    rfl
  refine pure_ (i := 5) (N := some 12) (v := undef) (a' := ?_) #[true, true, true, true, true, true, false, false, false, false, false, false, false, false, false, false, false] rfl rfl (by kernel_rfl) (fun _ _ _ h => h) (Or.inr ⟨by rfl, rfl⟩) ?_ ?_
  rotate_left
  · simp only [Act.put, List.setIfInBounds_toArray, List.set_cons_zero, List.set_cons_succ, i64_w, i32_w]
    rfl
  refine pure_ (i := 6) (N := some 13) (v := ?_) (a' := ?_) #[true, true, true, true, true, true, true, false, false, false, false, false, false, false, false, false, false] rfl rfl (by kernel_rfl) (fun _ _ _ h => h) (Or.inl ⟨by rfl, ?_⟩) ?_ ?_
  rotate_left
  · intro w'
    go_simp
    with_reducible rfl
  rotate_left
  · simp only [Act.put, List.setIfInBounds_toArray, List.set_cons_zero, List.set_cons_succ, i64_w, i32_w]
    rfl
  refine pure_ (i := 7) (N := some 14) (v := ?_) (a' := ?_) #[true, true, true, true, true, true, true, true, false, false, false, false, false, false, false, false, false] rfl rfl (by kernel_rfl) (fun _ _ _ h => h) (Or.inl ⟨by rfl, ?_⟩) ?_ ?_
  rotate_left
  · intro w'
    go_simp
    with_reducible rfl
  rotate_left
  · simp only [Act.put, List.setIfInBounds_toArray, List.set_cons_zero, List.set_cons_succ, i64_w, i32_w]
    rfl
  refine pure_ (i := 8) (N := some 15) (v := undef) (a' := ?_) #[true, true, true, true, true, true, true, true, true, false, false, false, false, false, false, false, false] rfl rfl (by kernel_rfl) (fun _ _ _ h => h) (Or.inr ⟨by rfl, rfl⟩) ?_ ?_
  rotate_left
  · simp only [Act.put, List.setIfInBounds_toArray, List.set_cons_zero, List.set_cons_succ, i64_w, i32_w]
    rfl
  refine pure_ (i := 9) (N := some 16) (v := undef) (a' := ?_) #[true, true, true, true, true, true, true, true, true, true, false, false, false, false, false, false, false] rfl rfl (by kernel_rfl) (fun _ _ _ h => h) (Or.inr ⟨by rfl, rfl⟩) ?_ ?_
  rotate_left
  · simp only [Act.put, List.setIfInBounds_toArray, List.set_cons_zero, List.set_cons_succ, i64_w, i32_w]
    rfl
  refine pure_ (i := 10) (N := some 17) (v := undef) (a' := ?_) #[true, true, true, true, true, true, true, true, true, true, true, false, false, false, false, false, false] rfl rfl (by kernel_rfl) (fun _ _ _ h => h) (Or.inr ⟨by rfl, rfl⟩) ?_ ?_
  rotate_left
  · simp only [Act.put, List.setIfInBounds_toArray, List.set_cons_zero, List.set_cons_succ, i64_w, i32_w]
    rfl
  refine pure_ (i := 11) (N := some 18) (v := undef) (a' := ?_) #[true, true, true, true, true, true, true, true, true, true, true, true, false, false, false, false, false] rfl rfl (by kernel_rfl) (fun _ _ _ h => h) (Or.inr ⟨by rfl, rfl⟩) ?_ ?_
  rotate_left
  · simp only [Act.put, List.setIfInBounds_toArray, List.set_cons_zero, List.set_cons_succ, i64_w, i32_w]
    rfl
  refine pure_ (i := 12) (N := some 19) (v := undef) (a' := ?_) #[true, true, true, true, true, true, true, true, true, true, true, true, true, false, false, false, false] rfl rfl (by kernel_rfl) (fun _ _ _ h => h) (Or.inr ⟨by rfl, rfl⟩) ?_ ?_
  rotate_left
  · simp only [Act.put, List.setIfInBounds_toArray, List.set_cons_zero, List.set_cons_succ, i64_w, i32_w]
    rfl
  refine pure_ (i := 13) (N := some 20) (v := undef) (a' := ?_) #[true, true, true, true, true, true, true, true, true, true, true, true, true, true, false, false, false] rfl rfl (by kernel_rfl) (fun _ _ _ h => h) (Or.inr ⟨by rfl, rfl⟩) ?_ ?_
  rotate_left
  · simp only [Act.put, List.setIfInBounds_toArray, List.set_cons_zero, List.set_cons_succ, i64_w, i32_w]
    rfl
  refine pure_ (i := 14) (N := some 21) (v := undef) (a' := ?_) #[true, true, true, true, true, true, true, true, true, true, true, true, true, true, true, false, false] rfl rfl (by kernel_rfl) (fun _ _ _ h => h) (Or.inr ⟨by rfl, rfl⟩) ?_ ?_
  rotate_left
  · simp only [Act.put, List.setIfInBounds_toArray, List.set_cons_zero, List.set_cons_succ, i64_w, i32_w]
    rfl
  refine pure_ (i := 15) (N := some 22) (v := ?_) (a' := ?_) #[true, true, true, true, true, true, true, true, true, true, true, true, true, true, true, true, false] rfl rfl (by kernel_rfl) (fun _ _ _ h => h) (Or.inl ⟨by rfl, ?_⟩) ?_ ?_
  rotate_left
  · intro w'
    go_simp
    with_reducible rfl
  rotate_left
  · simp only [Act.put, List.setIfInBounds_toArray, List.set_cons_zero, List.set_cons_succ, i64_w, i32_w]
    rfl
  refine pure_ (i := 16) (N := some 6) (v := ?_) (a' := ?_) #[true, true, true, true, true, true, true, true, true, true, true, true, true, true, true, true, true] rfl rfl (by kernel_rfl) (fun _ _ _ h => h) (Or.inl ⟨by rfl, ?_⟩) ?_ ?_
  rotate_left
  · intro w'
    go_simp
    with_reducible rfl
  rotate_left
  · simp only [Act.put, List.setIfInBounds_toArray, List.set_cons_zero, List.set_cons_succ, i64_w, i32_w]
    rfl
  refine done_ (by kernel_rfl) ?_

  go_wp2_with fail
  go_ret
  exact ⟨rfl, by repeat (first | exact Below.refl _ _ | apply pw_below_drewN | apply below_drew1)⟩

set_option maxHeartbeats 4000000 in
set_option maxRecDepth 100000 in
theorem hand_on_no2 (m k j : Int) (w : World) (h : pat_May.f m k = some true) (h2 : pat_in.f j = some false) :
    Calls Try.prog 12 #[.int .i64 m, .int .i64 k, .int .i64 j] w fun e w' => e = .returned (.bool false) ∧ Below w.heap.size w w' := by
  have H1 := Aside0.mk h
  have H2 := Aside0.mk h2
  clear h h2
  go_enter Try.func12, Try.ntmps12
  go_wp2_with fail
  refine start_ (n := 17) (S := fun w' => True) (ds := []) #[false, false, false, false, false, false, false, false, false, false, false, false, false, false, false, false, false] (by kernel_rfl) rfl rfl trivial (fun hHeld => ?_)
  refine pure_ (i := 0) (N := some 7) (v := ?_) (a' := ?_) #[true, false, false, false, false, false, false, false, false, false, false, false, false, false, false, false, false] rfl rfl (by kernel_rfl) (fun _ _ _ h => h) (Or.inl ⟨by rfl, ?_⟩) ?_ ?_
  rotate_left
  · intro w'
    go_simp
    with_reducible rfl
  rotate_left
  · simp only [Act.put, List.setIfInBounds_toArray, List.set_cons_zero, List.set_cons_succ, i64_w, i32_w]
    rfl
  refine pure_ (i := 1) (N := some 8) (v := ?_) (a' := ?_) #[true, true, false, false, false, false, false, false, false, false, false, false, false, false, false, false, false] rfl rfl (by kernel_rfl) (fun _ _ _ h => h) (Or.inl ⟨by rfl, ?_⟩) ?_ ?_
  rotate_left
  · intro w'
    go_simp
    with_reducible rfl
  rotate_left
  · simp only [Act.put, List.setIfInBounds_toArray, List.set_cons_zero, List.set_cons_succ, i64_w, i32_w]
    rfl
  refine one_ (i := 2) (N := some 9) #[true, true, true, false, false, false, false, false, false, false, false, false, false, false, false, false, false] rfl rfl (by kernel_rfl) (by decide) (fun K hK => ?_)
  refine goes_ Try.func11 (by kernel_rfl) rfl #[.int .i64 m, .int .i64 k] (by rfl) rfl rfl (by simp only [List.map_toArray, List.map_cons, List.map_nil]; rfl) ?_
  with_reducible refine (pat_May.calls m k _ _ H1.out).mono ?_
  rintro e w1 ⟨rfl, ⟨nd, rfl⟩⟩
  refine ⟨_, rfl, ?_⟩
  refine hK.out _ _ trivial (fun hHeld => ?_)
  clear hK K
  refine norm_ (a' := ?_) ?_ ?_
  rotate_left
  · show Act.put _ (some 9) _ = _
    simp only [Act.put, List.setIfInBounds_toArray, List.set_cons_zero, List.set_cons_succ, i64_w, i32_w]
    rfl
  refine pure_ (i := 3) (N := some 10) (v := ?_) (a' := ?_) #[true, true, true, true, false, false, false, false, false, false, false, false, false, false, false, false, false] rfl rfl (by kernel_rfl) (fun _ _ _ h => h) (Or.inl ⟨by rfl, ?_⟩) ?_ ?_
  rotate_left
  · intro w'
    go_simp
    with_reducible rfl
  rotate_left
  · simp only [Act.put, List.setIfInBounds_toArray, List.set_cons_zero, List.set_cons_succ, i64_w, i32_w]
    rfl
  refine pure_ (i := 4) (N := some 11) (v := ?_) (a' := ?_) #[true, true, true, true, true, false, false, false, false, false, false, false, false, false, false, false, false] rfl rfl (by kernel_rfl) (fun _ _ _ h => h) (Or.inl ⟨by rfl, ?_⟩) ?_ ?_
  rotate_left
  · intro w'
    go_simp
    with_reducible rfl
  rotate_left
  · simp only [Act.put, List.setIfInBounds_toArray, List.set_cons_zero, List.set_cons_succ, i64_w, i32_w]
    rfl
  refine one_ (i := 5) (N := some 12) #[true, true, true, true, true, true, false, false, false, false, false, false, false, false, false, false, false] rfl rfl (by kernel_rfl) (by decide) (fun K hK => ?_)
  refine goes_ Try.func22 (by kernel_rfl) rfl #[.int .i64 j] (by rfl) rfl rfl (by simp only [List.map_toArray, List.map_cons, List.map_nil]; rfl) ?_
  with_reducible refine (pat_in.calls j _ _ H2.out).mono ?_
  rintro e w2 ⟨rfl, ⟨nd2, rfl⟩⟩
  refine ⟨_, rfl, ?_⟩
  refine hK.out _ _ trivial (fun hHeld => ?_)
  clear hK K
  refine norm_ (a' := ?_) ?_ ?_
  rotate_left
  · show Act.put _ (some 12) _ = _
    simp only [Act.put, List.setIfInBounds_toArray, List.set_cons_zero, List.set_cons_succ, i64_w, i32_w]
    rfl
  refine pure_ (i := 6) (N := some 13) (v := ?_) (a' := ?_) #[true, true, true, true, true, true, true, false, false, false, false, false, false, false, false, false, false] rfl rfl (by kernel_rfl) (fun _ _ _ h => h) (Or.inl ⟨by rfl, ?_⟩) ?_ ?_
  rotate_left
  · intro w'
    go_simp
    with_reducible rfl
  rotate_left
  · simp only [Act.put, List.setIfInBounds_toArray, List.set_cons_zero, List.set_cons_succ, i64_w, i32_w]
    rfl
  refine pure_ (i := 7) (N := some 14) (v := ?_) (a' := ?_) #[true, true, true, true, true, true, true, true, false, false, false, false, false, false, false, false, false] rfl rfl (by kernel_rfl) (fun _ _ _ h => h) (Or.inl ⟨by rfl, ?_⟩) ?_ ?_
  rotate_left
  · intro w'
    go_simp
    with_reducible rfl
  rotate_left
  · simp only [Act.put, List.setIfInBounds_toArray, List.set_cons_zero, List.set_cons_succ, i64_w, i32_w]
    rfl
  refine pure_ (i := 8) (N := some 15) (v := undef) (a' := ?_) #[true, true, true, true, true, true, true, true, true, false, false, false, false, false, false, false, false] rfl rfl (by kernel_rfl) (fun _ _ _ h => h) (Or.inr ⟨by rfl, rfl⟩) ?_ ?_
  rotate_left
  · simp only [Act.put, List.setIfInBounds_toArray, List.set_cons_zero, List.set_cons_succ, i64_w, i32_w]
    rfl
  refine pure_ (i := 9) (N := some 16) (v := undef) (a' := ?_) #[true, true, true, true, true, true, true, true, true, true, false, false, false, false, false, false, false] rfl rfl (by kernel_rfl) (fun _ _ _ h => h) (Or.inr ⟨by rfl, rfl⟩) ?_ ?_
  rotate_left
  · simp only [Act.put, List.setIfInBounds_toArray, List.set_cons_zero, List.set_cons_succ, i64_w, i32_w]
    rfl
  refine pure_ (i := 10) (N := some 17) (v := undef) (a' := ?_) #[true, true, true, true, true, true, true, true, true, true, true, false, false, false, false, false, false] rfl rfl (by kernel_rfl) (fun _ _ _ h => h) (Or.inr ⟨by rfl, rfl⟩) ?_ ?_
  rotate_left
  · simp only [Act.put, List.setIfInBounds_toArray, List.set_cons_zero, List.set_cons_succ, i64_w, i32_w]
    rfl
  refine pure_ (i := 11) (N := some 18) (v := undef) (a' := ?_) #[true, true, true, true, true, true, true, true, true, true, true, true, false, false, false, false, false] rfl rfl (by kernel_rfl) (fun _ _ _ h => h) (Or.inr ⟨by rfl, rfl⟩) ?_ ?_
  rotate_left
  · simp only [Act.put, List.setIfInBounds_toArray, List.set_cons_zero, List.set_cons_succ, i64_w, i32_w]
    rfl
  refine pure_ (i := 12) (N := some 19) (v := undef) (a' := ?_) #[true, true, true, true, true, true, true, true, true, true, true, true, true, false, false, false, false] rfl rfl (by kernel_rfl) (fun _ _ _ h => h) (Or.inr ⟨by rfl, rfl⟩) ?_ ?_
  rotate_left
  · simp only [Act.put, List.setIfInBounds_toArray, List.set_cons_zero, List.set_cons_succ, i64_w, i32_w]
    rfl
  refine pure_ (i := 13) (N := some 20) (v := undef) (a' := ?_) #[true, true, true, true, true, true, true, true, true, true, true, true, true, true, false, false, false] rfl rfl (by kernel_rfl) (fun _ _ _ h => h) (Or.inr ⟨by rfl, rfl⟩) ?_ ?_
  rotate_left
  · simp only [Act.put, List.setIfInBounds_toArray, List.set_cons_zero, List.set_cons_succ, i64_w, i32_w]
    rfl
  refine pure_ (i := 14) (N := some 21) (v := undef) (a' := ?_) #[true, true, true, true, true, true, true, true, true, true, true, true, true, true, true, false, false] rfl rfl (by kernel_rfl) (fun _ _ _ h => h) (Or.inr ⟨by rfl, rfl⟩) ?_ ?_
  rotate_left
  · simp only [Act.put, List.setIfInBounds_toArray, List.set_cons_zero, List.set_cons_succ, i64_w, i32_w]
    rfl
  refine pure_ (i := 15) (N := some 22) (v := ?_) (a' := ?_) #[true, true, true, true, true, true, true, true, true, true, true, true, true, true, true, true, false] rfl rfl (by kernel_rfl) (fun _ _ _ h => h) (Or.inl ⟨by rfl, ?_⟩) ?_ ?_
  rotate_left
  · intro w'
    go_simp
    with_reducible rfl
  rotate_left
  · simp only [Act.put, List.setIfInBounds_toArray, List.set_cons_zero, List.set_cons_succ, i64_w, i32_w]
    rfl
  refine pure_ (i := 16) (N := some 6) (v := ?_) (a' := ?_) #[true, true, true, true, true, true, true, true, true, true, true, true, true, true, true, true, true] rfl rfl (by kernel_rfl) (fun _ _ _ h => h) (Or.inl ⟨by rfl, ?_⟩) ?_ ?_
  rotate_left
  · intro w'
    go_simp
    with_reducible rfl
  rotate_left
  · simp only [Act.put, List.setIfInBounds_toArray, List.set_cons_zero, List.set_cons_succ, i64_w, i32_w]
    rfl
  refine done_ (by kernel_rfl) ?_

  go_wp2_with fail
  go_ret
  exact ⟨rfl, by repeat (first | exact Below.refl _ _ | apply pw_below_drewN | apply below_drew1)⟩

theorem hand_of' (m k : Int) (b : Nat → Bool) (hb : ofCells m k k.toNat = #[.bool (b 0), .bool (b 1), .bool (b 2), .bool (b 3), .bool (b 4), .bool (b 5)]) (w : World) (h1 : 1 ≤ m) (h2 : m ≤ k) (h3 : k ≤ 6) :
    Calls Try.prog 23 #[.int .i64 m, .int .i64 k] w fun e w' => e = .returned (.agg #[.bool (b 0), .bool (b 1), .bool (b 2), .bool (b 3), .bool (b 4), .bool (b 5)]) ∧ Below w.heap.size w w' := by
  rw [← hb]; exact hand_of m k w h1 h2 h3
theorem hand_bits (m k : Int) : ∃ b : Nat → Bool, (b = fun i => (decide (i < k.toNat) && ofB m k i)) ∧ ofCells m k k.toNat = #[.bool (b 0), .bool (b 1), .bool (b 2), .bool (b 3), .bool (b 4), .bool (b 5)] :=
  ⟨_, rfl, by simp [ofCells, List.range, List.range.loop]⟩
theorem hand_idx0 (b : Nat → Bool) (w : World) : (Instr.index 34 (.agg #[.bool (b 0), .bool (b 1), .bool (b 2), .bool (b 3), .bool (b 4), .bool (b 5)]) (.int .i64 0)).run Try.prog w = .ok (.bool (b 0)) w := by kernel_rfl
theorem hand_idx1 (b : Nat → Bool) (w : World) : (Instr.index 34 (.agg #[.bool (b 0), .bool (b 1), .bool (b 2), .bool (b 3), .bool (b 4), .bool (b 5)]) (.int .i64 1)).run Try.prog w = .ok (.bool (b 1)) w := by kernel_rfl
theorem hand_idx2 (b : Nat → Bool) (w : World) : (Instr.index 34 (.agg #[.bool (b 0), .bool (b 1), .bool (b 2), .bool (b 3), .bool (b 4), .bool (b 5)]) (.int .i64 2)).run Try.prog w = .ok (.bool (b 2)) w := by kernel_rfl
theorem hand_idx3 (b : Nat → Bool) (w : World) : (Instr.index 34 (.agg #[.bool (b 0), .bool (b 1), .bool (b 2), .bool (b 3), .bool (b 4), .bool (b 5)]) (.int .i64 3)).run Try.prog w = .ok (.bool (b 3)) w := by kernel_rfl
theorem hand_idx4 (b : Nat → Bool) (w : World) : (Instr.index 34 (.agg #[.bool (b 0), .bool (b 1), .bool (b 2), .bool (b 3), .bool (b 4), .bool (b 5)]) (.int .i64 4)).run Try.prog w = .ok (.bool (b 4)) w := by kernel_rfl
theorem hand_idx5 (b : Nat → Bool) (w : World) : (Instr.index 34 (.agg #[.bool (b 0), .bool (b 1), .bool (b 2), .bool (b 3), .bool (b 4), .bool (b 5)]) (.int .i64 5)).run Try.prog w = .ok (.bool (b 5)) w := by kernel_rfl
theorem hand_idx (b : Nat → Bool) (i : Int) (h0 : 0 ≤ i) (h6 : i < 6) (w : World) :
    (Instr.index 34 (.agg #[.bool (b 0), .bool (b 1), .bool (b 2), .bool (b 3), .bool (b 4), .bool (b 5)]) (.int .i64 i)).run Try.prog w = .ok (.bool (b i.toNat)) w := by
  have : i = 0 ∨ i = 1 ∨ i = 2 ∨ i = 3 ∨ i = 4 ∨ i = 5 := by omega
  rcases this with rfl | rfl | rfl | rfl | rfl | rfl
  · exact hand_idx0 b w
  · exact hand_idx1 b w
  · exact hand_idx2 b w
  · exact hand_idx3 b w
  · exact hand_idx4 b w
  · exact hand_idx5 b w

set_option maxHeartbeats 4000000 in
set_option maxRecDepth 100000 in
theorem hand_on_yes (m k j : Int) (w : World) (h : pat_May.f m k = some true) (h2 : pat_in.f j = some true) (hm1 : 1 ≤ m) (hm2 : m ≤ k) (hm3 : k ≤ 6) (hj : 0 ≤ j) :
    Calls Try.prog 12 #[.int .i64 m, .int .i64 k, .int .i64 j] w fun e w' => e = .returned (.bool (ofB m k (j.tmod k).toNat)) ∧ Below w.heap.size w w' := by
  have H1 := Aside0.mk h
  have H2 := Aside0.mk h2
  clear h h2
  obtain ⟨b, hb0, hbb⟩ := hand_bits m k
  have ht0 : 0 ≤ j.tmod k := Int.tmod_nonneg _ hj
  have ht1 : j.tmod k < k := Int.tmod_lt_of_pos _ (by omega)
  have hfin : b (j.tmod k).toNat = ofB m k (j.tmod k).toNat := by
    rw [hb0]; simp; omega
  have HF := Aside0.mk hfin
  have hbb := Aside0.mk hbb
  have hk0 : ¬ k = 0 := by omega
  have hk1 : (k == 0) = false := by simp [hk0]
  have hkm1 : (k == -1) = false := by simp; omega
  have hidx := hand_idx b (j.tmod k) ht0 (by omega)
  have htm : IntKind.i64.wrap (j.tmod k) = j.tmod k := IntWalk.i64_in _ (by omega)
  have htm' : wrap64 (j.tmod k) = j.tmod k := IntWalk.wrap64_in _ (by omega)
  clear hfin hb0
  go_enter Try.func12, Try.ntmps12
  go_wp2_with fail
  refine start_ (n := 17) (S := fun w' => True) (ds := []) #[false, false, false, false, false, false, false, false, false, false, false, false, false, false, false, false, false] (by kernel_rfl) rfl rfl trivial (fun hHeld => ?_)
  refine pure_ (i := 0) (N := some 7) (v := ?_) (a' := ?_) #[true, false, false, false, false, false, false, false, false, false, false, false, false, false, false, false, false] rfl rfl (by kernel_rfl) (fun _ _ _ h => h) (Or.inl ⟨by rfl, ?_⟩) ?_ ?_
  rotate_left
  · intro w'
    go_simp
    with_reducible rfl
  rotate_left
  · simp only [Act.put, List.setIfInBounds_toArray, List.set_cons_zero, List.set_cons_succ, i64_w, i32_w]
    rfl
  refine pure_ (i := 1) (N := some 8) (v := ?_) (a' := ?_) #[true, true, false, false, false, false, false, false, false, false, false, false, false, false, false, false, false] rfl rfl (by kernel_rfl) (fun _ _ _ h => h) (Or.inl ⟨by rfl, ?_⟩) ?_ ?_
  rotate_left
  · intro w'
    go_simp
    with_reducible rfl
  rotate_left
  · simp only [Act.put, List.setIfInBounds_toArray, List.set_cons_zero, List.set_cons_succ, i64_w, i32_w]
    rfl
  refine one_ (i := 2) (N := some 9) #[true, true, true, false, false, false, false, false, false, false, false, false, false, false, false, false, false] rfl rfl (by kernel_rfl) (by decide) (fun K hK => ?_)
  refine goes_ Try.func11 (by kernel_rfl) rfl #[.int .i64 m, .int .i64 k] (by rfl) rfl rfl (by simp only [List.map_toArray, List.map_cons, List.map_nil]; rfl) ?_
  with_reducible refine (pat_May.calls m k _ _ H1.out).mono ?_
  rintro e w1 ⟨rfl, ⟨nd, rfl⟩⟩
  refine ⟨_, rfl, ?_⟩
  refine hK.out _ _ trivial (fun hHeld => ?_)
  clear hK K
  refine norm_ (a' := ?_) ?_ ?_
  rotate_left
  · show Act.put _ (some 9) _ = _
    simp only [Act.put, List.setIfInBounds_toArray, List.set_cons_zero, List.set_cons_succ, i64_w, i32_w]
    rfl
  refine pure_ (i := 3) (N := some 10) (v := ?_) (a' := ?_) #[true, true, true, true, false, false, false, false, false, false, false, false, false, false, false, false, false] rfl rfl (by kernel_rfl) (fun _ _ _ h => h) (Or.inl ⟨by rfl, ?_⟩) ?_ ?_
  rotate_left
  · intro w'
    go_simp
    with_reducible rfl
  rotate_left
  · simp only [Act.put, List.setIfInBounds_toArray, List.set_cons_zero, List.set_cons_succ, i64_w, i32_w]
    rfl
  refine pure_ (i := 4) (N := some 11) (v := ?_) (a' := ?_) #[true, true, true, true, true, false, false, false, false, false, false, false, false, false, false, false, false] rfl rfl (by kernel_rfl) (fun _ _ _ h => h) (Or.inl ⟨by rfl, ?_⟩) ?_ ?_
  rotate_left
  · intro w'
    go_simp
    with_reducible rfl
  rotate_left
  · simp only [Act.put, List.setIfInBounds_toArray, List.set_cons_zero, List.set_cons_succ, i64_w, i32_w]
    rfl
  refine one_ (i := 5) (N := some 12) #[true, true, true, true, true, true, false, false, false, false, false, false, false, false, false, false, false] rfl rfl (by kernel_rfl) (by decide) (fun K hK => ?_)
  refine goes_ Try.func22 (by kernel_rfl) rfl #[.int .i64 j] (by rfl) rfl rfl (by simp only [List.map_toArray, List.map_cons, List.map_nil]; rfl) ?_
  with_reducible refine (pat_in.calls j _ _ H2.out).mono ?_
  rintro e w2 ⟨rfl, ⟨nd2, rfl⟩⟩
  refine ⟨_, rfl, ?_⟩
  refine hK.out _ _ trivial (fun hHeld => ?_)
  clear hK K
  refine norm_ (a' := ?_) ?_ ?_
  rotate_left
  · show Act.put _ (some 12) _ = _
    simp only [Act.put, List.setIfInBounds_toArray, List.set_cons_zero, List.set_cons_succ, i64_w, i32_w]
    rfl
  refine pure_ (i := 6) (N := some 13) (v := ?_) (a' := ?_) #[true, true, true, true, true, true, true, false, false, false, false, false, false, false, false, false, false] rfl rfl (by kernel_rfl) (fun _ _ _ h => h) (Or.inl ⟨by rfl, ?_⟩) ?_ ?_
  rotate_left
  · intro w'
    go_simp
    with_reducible rfl
  rotate_left
  · simp only [Act.put, List.setIfInBounds_toArray, List.set_cons_zero, List.set_cons_succ, i64_w, i32_w]
    rfl
  refine pure_ (i := 7) (N := some 14) (v := ?_) (a' := ?_) #[true, true, true, true, true, true, true, true, false, false, false, false, false, false, false, false, false] rfl rfl (by kernel_rfl) (fun _ _ _ h => h) (Or.inl ⟨by rfl, ?_⟩) ?_ ?_
  rotate_left
  · intro w'
    go_simp
    with_reducible rfl
  rotate_left
  · simp only [Act.put, List.setIfInBounds_toArray, List.set_cons_zero, List.set_cons_succ, i64_w, i32_w]
    rfl
  refine pure_ (i := 8) (N := some 15) (v := ?_) (a' := ?_) #[true, true, true, true, true, true, true, true, true, false, false, false, false, false, false, false, false] rfl rfl (by kernel_rfl) (fun _ _ _ h => h) (Or.inl ⟨by rfl, ?_⟩) ?_ ?_
  rotate_left
  · intro w'
    go_simp
    with_reducible rfl
  rotate_left
  · simp only [Act.put, List.setIfInBounds_toArray, List.set_cons_zero, List.set_cons_succ, i64_w, i32_w]
    rfl
  refine pure_ (i := 9) (N := some 16) (v := ?_) (a' := ?_) #[true, true, true, true, true, true, true, true, true, true, false, false, false, false, false, false, false] rfl rfl (by kernel_rfl) (fun _ _ _ h => h) (Or.inl ⟨by rfl, ?_⟩) ?_ ?_
  rotate_left
  · intro w'
    go_simp
    with_reducible rfl
  rotate_left
  · simp only [Act.put, List.setIfInBounds_toArray, List.set_cons_zero, List.set_cons_succ, i64_w, i32_w]
    rfl
  refine pure_ (i := 11) (N := some 18) (v := ?_) (a' := ?_) #[true, true, true, true, true, true, true, true, true, true, false, true, false, false, false, false, false] rfl rfl (by kernel_rfl) (fun _ _ _ h => h) (Or.inl ⟨by rfl, ?_⟩) ?_ ?_
  rotate_left
  · intro w'
    go_simp
    with_reducible rfl
  rotate_left
  · simp only [Act.put, List.setIfInBounds_toArray, List.set_cons_zero, List.set_cons_succ, i64_w, i32_w]
    rfl
  refine pure_ (i := 12) (N := some 19) (v := ?_) (a' := ?_) #[true, true, true, true, true, true, true, true, true, true, false, true, true, false, false, false, false] rfl rfl (by kernel_rfl) (fun _ _ _ h => h) (Or.inl ⟨by rfl, ?_⟩) ?_ ?_
  rotate_left
  · intro w'
    go_simp
    with_reducible rfl
  rotate_left
  · simp only [Act.put, List.setIfInBounds_toArray, List.set_cons_zero, List.set_cons_succ, i64_w, i32_w]
    rfl
  refine pure_ (i := 13) (N := some 20) (v := ?_) (a' := ?_) #[true, true, true, true, true, true, true, true, true, true, false, true, true, true, false, false, false] rfl rfl (by kernel_rfl) (fun _ _ _ h => h) (Or.inl ⟨by rfl, ?_⟩) ?_ ?_
  rotate_left
  · intro w'
    go_simp
    with_reducible rfl
  rotate_left
  · simp only [Act.put, List.setIfInBounds_toArray, List.set_cons_zero, List.set_cons_succ, i64_w, i32_w]
    rfl
  refine one_ (i := 10) (N := some 17) #[true, true, true, true, true, true, true, true, true, true, true, true, true, true, false, false, false] rfl rfl (by kernel_rfl) (by decide) (fun K hK => ?_)
  refine goes_ Try.func23 (by kernel_rfl) rfl #[.int .i64 m, .int .i64 k] (by rfl) rfl rfl (by simp only [List.map_toArray, List.map_cons, List.map_nil]; rfl) ?_
  with_reducible refine (hand_of' m k b hbb.out _ hm1 hm2 hm3).mono ?_
  rintro e w3 ⟨rfl, hb⟩
  refine ⟨_, rfl, ?_⟩
  refine hK.out _ _ trivial (fun hHeld => ?_)
  clear hK K
  refine norm_ (a' := ?_) ?_ ?_
  rotate_left
  · show Act.put _ (some 17) _ = _
    simp only [Act.put, List.setIfInBounds_toArray, List.set_cons_zero, List.set_cons_succ, i64_w, i32_w]
    rfl
  refine take_ (i := 14) (N := some 21) (v := ?_) (a' := ?_) #[true, true, true, true, true, true, true, true, true, true, true, true, true, true, true, false, false] rfl rfl (by kernel_rfl) (fun _ _ _ h => h) (Or.inl ⟨by rfl, ?_⟩) hHeld ?_ ?_
  rotate_left
  · intro w' _
    go_simp
    with_reducible rfl
  rotate_left
  · simp only [Act.put, List.setIfInBounds_toArray, List.set_cons_zero, List.set_cons_succ, i64_w, i32_w]
    rfl
  refine pure_ (i := 15) (N := some 22) (v := ?_) (a' := ?_) #[true, true, true, true, true, true, true, true, true, true, true, true, true, true, true, true, false] rfl rfl (by kernel_rfl) (fun _ _ _ h => h) (Or.inl ⟨by rfl, ?_⟩) ?_ ?_
  rotate_left
  · intro w'
    go_simp
    with_reducible rfl
  rotate_left
  · simp only [Act.put, List.setIfInBounds_toArray, List.set_cons_zero, List.set_cons_succ, i64_w, i32_w]
    rfl
  refine pure_ (i := 16) (N := some 6) (v := ?_) (a' := ?_) #[true, true, true, true, true, true, true, true, true, true, true, true, true, true, true, true, true] rfl rfl (by kernel_rfl) (fun _ _ _ h => h) (Or.inl ⟨by rfl, ?_⟩) ?_ ?_
  rotate_left
  · intro w'
    go_simp
    with_reducible rfl
  rotate_left
  · simp only [Act.put, List.setIfInBounds_toArray, List.set_cons_zero, List.set_cons_succ, i64_w, i32_w]
    rfl
  refine done_ (by kernel_rfl) ?_

  go_wp2_with fail
  go_ret
  rw [HF.out]
  exact ⟨rfl, below_step (by repeat (first | exact Below.refl _ _ | apply pw_below_drewN | apply below_drew1)) hb⟩

set_option maxHeartbeats 8000000 in
set_option maxRecDepth 100000 in
theorem pat_On.calls (k : Nat) (a0 : Int) (a1 : Int) (a2 : Int) (r : Bool) (w : World) (h : pat_On.f k a0 a1 a2 = some r) :
    Calls Try.prog 12 #[.int .i64 a0, .int .i64 a1, .int .i64 a2] w fun e w' => e = .returned (.bool r) ∧ Below w.heap.size w w' := by
  unfold pat_On.f at h
  obtain ⟨t, h1, h2⟩ := Option.bind_eq_some_iff.mp h
  clear h
  cases t with
  | false =>
    simp only [Bool.false_eq_true, if_false] at h2
    cases k with
    | zero => simp [pat_On.j0] at h2
    | succ k =>
      simp [pat_On.j0] at h2
      subst h2
      exact hand_on_no1 _ _ _ _ h1
  | true =>
    simp only [if_true] at h2
    obtain ⟨t2, h3, h4⟩ := Option.bind_eq_some_iff.mp h2
    clear h2
    cases k with
    | zero => simp [pat_On.j0] at h4
    | succ k =>
      cases t2 with
      | false =>
        simp [pat_On.j0] at h4
        subst h4
        exact hand_on_no2 _ _ _ _ h1 h3
      | true =>
        obtain ⟨m1, m2, m3⟩ := may_true _ _ h1
        obtain ⟨j1, j2⟩ := in_true _ h3
        rw [show (!true) = false from rfl, on_j0 k _ _ _ m1 m2 m3 j1] at h4
        obtain rfl := Option.some.inj h4
        exact hand_on_yes _ _ _ _ h1 h3 m1 m2 m3 j1

end Go.Proofs.Ytndeaifggijlaaa.PA
