import Derived.Test.YtpkalbokpblhaaaPAx0
import Derived.Test.YtpkalbokpblhaaaPAx1
import Derived.Test.YtpkalbokpblhaaaPAx7
import Derived.Test.YtpkalbokpblhaaaHeapPure
import Derived.Test.YtpkalbokpblhaaaPileA
import Derived.Laws.CopyOwn
import Derived.Laws.EntriesVeiled
import Derived.Deep.RegionWith
import Derived.BigRegion
namespace Go.Proofs.Ytpkalbokpblhaaa.PA
open Go.RowKit Go.Proofs.YtpkalbokpblhaaaW.PrintWords Go.Proofs.YtpkalbokpblhaaaW.PrintLast Go.Proofs.YtpkalbokpblhaaaW.PrintMore
attribute [local go_sem] max2_int min2_int max_two min_two max_three min_three max_four min_four
set_option linter.unusedVariables false
set_option linter.unusedSimpArgs false
theorem wrap_in (n : Int) (h : -9223372036854775808 ≤ n ∧ n ≤ 9223372036854775807) : wrap64 n = n := by unfold wrap64; omega
/-- The last one is taken. -/
theorem Pile.take {W : World} {G B cap : Nat} {xs : List S24} {x : S24} (h : Pile W G B cap (xs ++ [x])) :
    Pile (W.setCell ⟨G, 0, none⟩ (.slice (some ⟨B, 0, none⟩) xs.length cap)) G B cap xs ∧ KP W (W.setCell ⟨G, 0, none⟩ (.slice (some ⟨B, 0, none⟩) xs.length cap)) G B := by
  obtain ⟨cs, h1, h2, h3⟩ := h.row
  have hne := h.ne
  have hl : (xs ++ [x]).length = xs.length + 1 := by simp
  have hle := h.le
  have hlen := h.len
  refine ⟨⟨blk_put h.g 0 _ rfl, ⟨cs, blk_far (p := ⟨G, 0, none⟩) h1 (Ne.symm hne) _, h2, fun i hi => ?_⟩, by omega, h.sm, by omega⟩, ⟨rfl, rfl, rfl, ?_, ?_⟩⟩
  · have := h3 i (by omega)
    rwa [List.getElem_append_left hi] at this
  · rw [heap_setCell_size]
    exact Nat.le_refl _
  · intro k _ hkG _
    exact Below.heap_setCell _ ⟨G, 0, none⟩ _ k hkG
set_option maxHeartbeats 4000000 in
set_option maxRecDepth 100000 in
theorem hand_PilePop {W : World} {G B cap : Nat} {xs : List S24} {x : S24} (hp : Pile W G B cap (xs ++ [x])) :
    Calls Try.prog 58 #[.pointer (some ⟨G, 0, none⟩)] W fun e w' => e = .returned (.iface 24 (.agg #[.int .i64 x.f0, .int .i64 x.f1])) ∧ Pile w' G B cap xs ∧ KP W w' G B := by
  have hl : (xs ++ [x]).length = xs.length + 1 := by simp
  have hc : W.cell? ⟨G, 0, none⟩ = some (.slice (some ⟨B, 0, none⟩) (xs.length + 1) cap) := hl ▸ blk_cell hp.g 0
  have hu52 := Try.underlying52
  have hu24 := Try.underlying24
  have hle := hp.le
  have hlen := hp.len
  have hi : xs.length < (xs ++ [x]).length := by omega
  obtain ⟨hci, hci'⟩ := hp.cell xs.length hi
  have hx : (xs ++ [x])[xs.length] = x := by simp
  rw [hx] at hci hci'
  have hw : wrap64 (((xs.length + 1 : Nat) : Int) - 1) = (xs.length : Int) := by
    rw [wrap_in _ (by omega)]
    omega
  have hi0 : (0 : Int) ≤ xs.length := by omega
  have hi1 : (xs.length : Int) < ((xs.length + 1 : Nat) : Int) := by omega
  have hi2 : (xs.length : Int) ≤ (cap : Int) := by omega
  have hfz := blk_frozen hp.g 0
  have hb0 := below_alloc (Below.refl W.heap.size W) (.cells #[.int .i64 x.f0, .int .i64 x.f1] 24 (0, 0))
  have hp2 := hp.below hb0
  have ht := hp2.take
  have hca : (W.alloc (.cells #[.int .i64 x.f0, .int .i64 x.f1] 24 (0, 0))).cell? ⟨G, 0, none⟩ = some (.slice (some ⟨B, 0, none⟩) (xs.length + 1) cap) := hl ▸ blk_cell hp2.g 0
  have hfa := blk_frozen hp2.g 0
  have hnG : W.heap.size ≠ G := by
    have := blk_lt hp.g
    omega
  have hn := blk_far (p := ⟨G, 0, none⟩) (blk_new W (.cells #[.int .i64 x.f0, .int .i64 x.f1] 24 (0, 0))) hnG (.slice (some ⟨B, 0, none⟩) xs.length cap)
  have hd0 := (blk_cell hn 0).trans (by rfl : _ = some (.int .i64 x.f0))
  have hd1 := (blk_cell hn 1).trans (by rfl : _ = some (.int .i64 x.f1))
  have hK := (KP.of_below hb0 G B).trans ht.2
  have hP := ht.1
  clear hn ht
  replace hp := Aside0.mk hp
  replace hp2 := Aside0.mk hp2
  replace hb0 := Aside0.mk hb0
  replace hK := Aside0.mk hK
  replace hP := Aside0.mk hP
  go_enter Try.func58, Try.ntmps58
  go_wp2_with fail
  go_ret
  exact ⟨rfl, hP.out, hK.out⟩

theorem meth_Len (G : Nat) (w : World) : (method 180 43 (.pointer (some ⟨G, 0, none⟩)) "Len").run Try.prog w = .ok (34, .pointer (some ⟨G, 0, none⟩)) w := by kernel_rfl
theorem meth_Less (G : Nat) (w : World) : (method 180 43 (.pointer (some ⟨G, 0, none⟩)) "Less").run Try.prog w = .ok (57, .pointer (some ⟨G, 0, none⟩)) w := by kernel_rfl
theorem meth_Swap (G : Nat) (w : World) : (method 180 43 (.pointer (some ⟨G, 0, none⟩)) "Swap").run Try.prog w = .ok (60, .pointer (some ⟨G, 0, none⟩)) w := by kernel_rfl
theorem meth_Push (G : Nat) (w : World) : (method 180 43 (.pointer (some ⟨G, 0, none⟩)) "Push").run Try.prog w = .ok (59, .pointer (some ⟨G, 0, none⟩)) w := by kernel_rfl
theorem meth_Pop (G : Nat) (w : World) : (method 180 43 (.pointer (some ⟨G, 0, none⟩)) "Pop").run Try.prog w = .ok (58, .pointer (some ⟨G, 0, none⟩)) w := by kernel_rfl
theorem hand_LessI {W : World} {G B cap : Nat} {xs : List S24} (hp : Pile W G B cap xs) (i j : Int) (hi : 0 ≤ i ∧ i < xs.length) (hj : 0 ≤ j ∧ j < xs.length) :
    Calls Try.prog 57 #[.pointer (some ⟨G, 0, none⟩), .int .i64 i, .int .i64 j] W fun e w' => e = .returned (.bool (ah (at_ xs i.toNat) (at_ xs j.toNat))) ∧ Below W.heap.size W w' := by
  have h := hand_Less hp i.toNat j.toNat (by omega) (by omega)
  rw [Int.toNat_of_nonneg hi.1, Int.toNat_of_nonneg hj.1, ← at_get, ← at_get] at h
  exact h
theorem hand_SwapI {W : World} {G B cap : Nat} {xs : List S24} (hp : Pile W G B cap xs) (i j : Int) (hi : 0 ≤ i ∧ i < xs.length) (hj : 0 ≤ j ∧ j < xs.length) :
    Calls Try.prog 60 #[.pointer (some ⟨G, 0, none⟩), .int .i64 i, .int .i64 j] W fun e w' => e = .returned (.tuple #[]) ∧ Pile w' G B cap (swp xs i.toNat j.toNat) ∧ KP W w' G B := by
  by_cases hij : i = j
  · subst hij
    have h := hand_Swap_same hp i.toNat (by omega)
    rw [Int.toNat_of_nonneg hi.1] at h
    rw [swp_self (by omega)]
    exact h
  · have h := hand_Swap hp i.toNat j.toNat (by omega) (by omega) (by omega)
    rw [Int.toNat_of_nonneg hi.1, Int.toNat_of_nonneg hj.1, ← at_get, ← at_get] at h
    exact h
/-- What holds while a pile is turned. -/
structure PS (W wr : World) (G B cap : Nat) (xs ys : List S24) : Prop where
  p : Pile wr G B cap ys
  k : KP W wr G B
  l : ys.length = xs.length
theorem PS.below {W wr w' : World} {G B cap : Nat} {xs ys : List S24} (h : PS W wr G B cap xs ys) (hb : Below wr.heap.size wr w') : PS W w' G B cap xs ys := ⟨h.p.below hb, h.k.trans (.of_below hb G B), h.l⟩

theorem hand_LessJ {W : World} {G B cap : Nat} {xs : List S24} (hp : Pile W G B cap xs) (i j : Int) (i' j' : Nat) (hi : i = i') (hj : j = j') (b : Bool) (hb : ah (at_ xs i') (at_ xs j') = b) (hi1 : i' < xs.length) (hj1 : j' < xs.length) :
    Calls Try.prog 57 #[.pointer (some ⟨G, 0, none⟩), .int .i64 i, .int .i64 j] W fun e w' => e = .returned (.bool b) ∧ Below W.heap.size W w' := by
  subst hi hj hb
  exact hand_LessI hp i' j' ⟨by omega, by omega⟩ ⟨by omega, by omega⟩
theorem hand_SwapJ {W : World} {G B cap : Nat} {xs : List S24} (hp : Pile W G B cap xs) (i j : Int) (i' j' : Nat) (hi : i = i') (hj : j = j') (hi1 : i' < xs.length) (hj1 : j' < xs.length) :
    Calls Try.prog 60 #[.pointer (some ⟨G, 0, none⟩), .int .i64 i, .int .i64 j] W fun e w' => e = .returned (.tuple #[]) ∧ Pile w' G B cap (swp xs i' j') ∧ KP W w' G B := by
  subst hi hj
  exact hand_SwapI hp i' j' ⟨by omega, by omega⟩ ⟨by omega, by omega⟩
theorem PS.swap {W wr w' : World} {G B cap : Nat} {xs ys : List S24} {i j : Nat} (h : PS W wr G B cap xs ys) (hp : Pile w' G B cap (swp ys i j)) (hk : KP wr w' G B) : PS W w' G B cap xs (swp ys i j) := ⟨hp, h.k.trans hk, (swp_length ys i j).trans h.l⟩

set_option maxHeartbeats 4000000 in
set_option maxRecDepth 100000 in
theorem hand_down {W : World} {G B cap : Nat} {xs : List S24} (hp : Pile W G B cap xs) (i n : Nat) (hn : n ≤ xs.length) (hi : i ≤ 20000000000000) :
    Calls Try.prog 40 #[.iface 43 (.pointer (some ⟨G, 0, none⟩)), .int .i64 (i : Int), .int .i64 (n : Int)] W fun e w' => e = .returned (.bool (decide ((dn n xs i).2 > i))) ∧ Pile w' G B cap (dn n xs i).1 ∧ KP W w' G B := by
  have hm1 := meth_Less G
  have hm2 := meth_Swap G
  have hs := Aside0.mk (PS.mk hp (KP.refl W G B) (rfl : xs.length = xs.length))
  have hlen := hp.len
  clear hp
  go_enter Try.func40, Try.ntmps40
  go_wp2_with fail
  go_loopw [7] (fun v wr => ∃ (ys : List S24) (a : Nat), v = .int .i64 (a : Int) ∧ a ≤ 20000000000000 ∧ Aside0 (PS W wr G B cap xs ys) ∧ Aside0 (dn n xs i = dn n ys a)) (fun v _ => n - (intOf v).toNat)
  case atStart => exact ⟨xs, i, rfl, hi, hs, ⟨rfl⟩⟩
  case round =>
    clear hs
    obtain ⟨ys, a, rfl, ha, hs, hd⟩ := hrel
    have e1 : wrap64 (2 * (a : Int)) = 2 * (a : Int) := wrap_in _ (by omega)
    have e2 : wrap64 (2 * (a : Int) + 1) = 2 * (a : Int) + 1 := wrap_in _ (by omega)
    have e3 : wrap64 (2 * (a : Int) + 1 + 1) = 2 * (a : Int) + 1 + 1 := wrap_in _ (by omega)
    have hlt0 : decide (2 * (a : Int) + 1 < 0) = false := decide_eq_false (by omega)
    by_cases h1 : 2 * a + 1 < n
    · have d1 : decide ((n : Int) ≤ 2 * (a : Int) + 1) = false := decide_eq_false (by omega)
      have d1' : decide (2 * (a : Int) + 1 ≥ (n : Int)) = false := decide_eq_false (by omega)
      by_cases h2 : 2 * a + 2 < n
      · have d2 : decide (2 * (a : Int) + 1 + 1 < (n : Int)) = true := decide_eq_true (by omega)
        have d2' : decide ((n : Int) > 2 * (a : Int) + 1 + 1) = true := decide_eq_true (by omega)
        cases h3 : ah (at_ ys (2 * a + 2)) (at_ ys (2 * a + 1)) <;> (cases h4 : ah (at_ ys (ch n ys a)) (at_ ys a))
        · have hch : ch n ys a = 2 * a + 1 := by
            unfold ch
            rw [if_pos h2, h3]
            rfl
          go_wp2_with fail
          refine (hand_LessJ hs.out.p (2 * (a : Int) + 1 + 1) (2 * (a : Int) + 1) (2 * a + 2) (2 * a + 1) (by omega) (by omega) _ h3 (by rw [hs.out.l]; omega) (by rw [hs.out.l]; omega)).mono ?_
          rintro e w1 ⟨rfl, hb1⟩
          have hs1 := Aside0.mk (hs.out.below hb1)
          clear hs hb1
          go_wp2_with fail
          have h4t := h4
          have hch2 : ch n ys a = 2 * a + 1 := hch
          rw [hch2] at h4t
          refine (hand_LessJ hs1.out.p (2 * (a : Int) + 1) (a : Int) (2 * a + 1) a (by omega) rfl _ h4t (by rw [hs1.out.l]; omega) (by rw [hs1.out.l]; omega)).mono ?_
          rintro e w2 ⟨rfl, hb2⟩
          have hs2 := Aside0.mk (hs1.out.below hb2)
          clear hs1 hb2
          go_wp2_with fail
          go_ret
          rw [hd.out, dn_stop h1 h4]
          exact ⟨by simp <;> omega, hs2.out.p, hs2.out.k⟩
        · have hch : ch n ys a = 2 * a + 1 := by
            unfold ch
            rw [if_pos h2, h3]
            rfl
          go_wp2_with fail
          refine (hand_LessJ hs.out.p (2 * (a : Int) + 1 + 1) (2 * (a : Int) + 1) (2 * a + 2) (2 * a + 1) (by omega) (by omega) _ h3 (by rw [hs.out.l]; omega) (by rw [hs.out.l]; omega)).mono ?_
          rintro e w1 ⟨rfl, hb1⟩
          have hs1 := Aside0.mk (hs.out.below hb1)
          clear hs hb1
          go_wp2_with fail
          have h4t := h4
          have hch2 : ch n ys a = 2 * a + 1 := hch
          rw [hch2] at h4t
          refine (hand_LessJ hs1.out.p (2 * (a : Int) + 1) (a : Int) (2 * a + 1) a (by omega) rfl _ h4t (by rw [hs1.out.l]; omega) (by rw [hs1.out.l]; omega)).mono ?_
          rintro e w2 ⟨rfl, hb2⟩
          have hs2 := Aside0.mk (hs1.out.below hb2)
          clear hs1 hb2
          go_wp2_with fail
          refine (hand_SwapJ hs2.out.p (a : Int) (2 * (a : Int) + 1) a (2 * a + 1) rfl (by omega) (by rw [hs2.out.l]; omega) (by rw [hs2.out.l]; omega)).mono ?_
          rintro e w3 ⟨rfl, hp3, hk3⟩
          have hs3 := Aside0.mk (hs2.out.swap hp3 hk3)
          clear hs2 hp3 hk3
          go_wp2_with fail
          go_roundw
          case rel => exact ⟨swp ys a (2 * a + 1), 2 * a + 1, by simp <;> omega, by omega, hs3, ⟨by rw [hd.out, dn_go h1 h4, hch]⟩⟩
          case measure => simp [intOf] <;> omega
        · have hch : ch n ys a = 2 * a + 2 := by
            unfold ch
            rw [if_pos h2, h3]
            rfl
          go_wp2_with fail
          refine (hand_LessJ hs.out.p (2 * (a : Int) + 1 + 1) (2 * (a : Int) + 1) (2 * a + 2) (2 * a + 1) (by omega) (by omega) _ h3 (by rw [hs.out.l]; omega) (by rw [hs.out.l]; omega)).mono ?_
          rintro e w1 ⟨rfl, hb1⟩
          have hs1 := Aside0.mk (hs.out.below hb1)
          clear hs hb1
          go_wp2_with fail
          have h4t := h4
          have hch2 : ch n ys a = 2 * a + 2 := hch
          rw [hch2] at h4t
          refine (hand_LessJ hs1.out.p (2 * (a : Int) + 1 + 1) (a : Int) (2 * a + 2) a (by omega) rfl _ h4t (by rw [hs1.out.l]; omega) (by rw [hs1.out.l]; omega)).mono ?_
          rintro e w2 ⟨rfl, hb2⟩
          have hs2 := Aside0.mk (hs1.out.below hb2)
          clear hs1 hb2
          go_wp2_with fail
          go_ret
          rw [hd.out, dn_stop h1 h4]
          exact ⟨by simp <;> omega, hs2.out.p, hs2.out.k⟩
        · have hch : ch n ys a = 2 * a + 2 := by
            unfold ch
            rw [if_pos h2, h3]
            rfl
          go_wp2_with fail
          refine (hand_LessJ hs.out.p (2 * (a : Int) + 1 + 1) (2 * (a : Int) + 1) (2 * a + 2) (2 * a + 1) (by omega) (by omega) _ h3 (by rw [hs.out.l]; omega) (by rw [hs.out.l]; omega)).mono ?_
          rintro e w1 ⟨rfl, hb1⟩
          have hs1 := Aside0.mk (hs.out.below hb1)
          clear hs hb1
          go_wp2_with fail
          have h4t := h4
          have hch2 : ch n ys a = 2 * a + 2 := hch
          rw [hch2] at h4t
          refine (hand_LessJ hs1.out.p (2 * (a : Int) + 1 + 1) (a : Int) (2 * a + 2) a (by omega) rfl _ h4t (by rw [hs1.out.l]; omega) (by rw [hs1.out.l]; omega)).mono ?_
          rintro e w2 ⟨rfl, hb2⟩
          have hs2 := Aside0.mk (hs1.out.below hb2)
          clear hs1 hb2
          go_wp2_with fail
          refine (hand_SwapJ hs2.out.p (a : Int) (2 * (a : Int) + 1 + 1) a (2 * a + 2) rfl (by omega) (by rw [hs2.out.l]; omega) (by rw [hs2.out.l]; omega)).mono ?_
          rintro e w3 ⟨rfl, hp3, hk3⟩
          have hs3 := Aside0.mk (hs2.out.swap hp3 hk3)
          clear hs2 hp3 hk3
          go_wp2_with fail
          go_roundw
          case rel => exact ⟨swp ys a (2 * a + 2), 2 * a + 2, by simp <;> omega, by omega, hs3, ⟨by rw [hd.out, dn_go h1 h4, hch]⟩⟩
          case measure => simp [intOf] <;> omega
      · have d2 : decide (2 * (a : Int) + 1 + 1 < (n : Int)) = false := decide_eq_false (by omega)
        have d2' : decide ((n : Int) > 2 * (a : Int) + 1 + 1) = false := decide_eq_false (by omega)
        have hch : ch n ys a = 2 * a + 1 := by
          unfold ch
          rw [if_neg h2]
        cases h4 : ah (at_ ys (ch n ys a)) (at_ ys a)
        · go_wp2_with fail
          have h4t := h4
          have hch2 : ch n ys a = 2 * a + 1 := hch
          rw [hch2] at h4t
          refine (hand_LessJ hs.out.p (2 * (a : Int) + 1) (a : Int) (2 * a + 1) a (by omega) rfl _ h4t (by rw [hs.out.l]; omega) (by rw [hs.out.l]; omega)).mono ?_
          rintro e w2 ⟨rfl, hb2⟩
          have hs2 := Aside0.mk (hs.out.below hb2)
          clear hs hb2
          go_wp2_with fail
          go_ret
          rw [hd.out, dn_stop h1 h4]
          exact ⟨by simp <;> omega, hs2.out.p, hs2.out.k⟩
        · go_wp2_with fail
          have h4t := h4
          have hch2 : ch n ys a = 2 * a + 1 := hch
          rw [hch2] at h4t
          refine (hand_LessJ hs.out.p (2 * (a : Int) + 1) (a : Int) (2 * a + 1) a (by omega) rfl _ h4t (by rw [hs.out.l]; omega) (by rw [hs.out.l]; omega)).mono ?_
          rintro e w2 ⟨rfl, hb2⟩
          have hs2 := Aside0.mk (hs.out.below hb2)
          clear hs hb2
          go_wp2_with fail
          refine (hand_SwapJ hs2.out.p (a : Int) (2 * (a : Int) + 1) a (2 * a + 1) rfl (by omega) (by rw [hs2.out.l]; omega) (by rw [hs2.out.l]; omega)).mono ?_
          rintro e w3 ⟨rfl, hp3, hk3⟩
          have hs3 := Aside0.mk (hs2.out.swap hp3 hk3)
          clear hs2 hp3 hk3
          go_wp2_with fail
          go_roundw
          case rel => exact ⟨swp ys a (2 * a + 1), 2 * a + 1, by simp <;> omega, by omega, hs3, ⟨by rw [hd.out, dn_go h1 h4, hch]⟩⟩
          case measure => simp [intOf] <;> omega
    · have d1 : decide ((n : Int) ≤ 2 * (a : Int) + 1) = true := decide_eq_true (by omega)
      have d1' : decide (2 * (a : Int) + 1 ≥ (n : Int)) = true := decide_eq_true (by omega)
      go_wp2_with fail
      go_ret
      rw [hd.out, dn_end h1]
      exact ⟨by simp <;> omega, hs.out.p, hs.out.k⟩


end Go.Proofs.Ytpkalbokpblhaaa.PA
