/- The walks of spec.Put and spec.Get, given what spec.May answers. -/
import Derived.Test.YtalcblkdcmigeaaPAx0
import Derived.Test.YtalcblkdcmigeaaPartsWalk
import Derived.Laws.CopyOwn
import Derived.Laws.EntriesVeiled
namespace Go.Proofs.Ytalcblkdcmigeaa.PA
open Go.RowKit Go.Proofs.YtalcblkdcmigeaaW.PrintWords Go.Proofs.YtalcblkdcmigeaaW.PrintLast Go.Proofs.YtalcblkdcmigeaaW.PrintMore
attribute [local go_sem] max2_int min2_int max_two min_two max_three min_three max_four min_four
set_option linter.unusedVariables false
set_option linter.unusedSimpArgs false

set_option maxHeartbeats 4000000 in
set_option maxRecDepth 100000 in
theorem hand_Put_no (c t x m k e : Int) (hMay : ∀ w, Calls Try.prog 9 #[.agg #[.int .i64 c, .int .i64 t, .int .i64 x, .int .i64 m, .int .i64 k, .int .i64 e]] w fun q w' => q = .returned (.bool false) ∧ Below w.heap.size w w') (w : World) :
    Calls Try.prog 11 #[.agg #[.int .i64 c, .int .i64 t, .int .i64 x, .int .i64 m, .int .i64 k, .int .i64 e]] w fun q w' => ∃ v0_ : Value, q = .returned (.tuple #[v0_, .bool false]) ∧ Kd.R (Kd.int .u8) 5 w' w.heap.size (fun _ => True) v0_ [] ∧ Below w.heap.size w w' := by
  have hu23 := Try.underlying23
  replace hMay := Aside0.mk hMay
  go_enter Try.func11, Try.ntmps11
  go_wp2_with fail
  refine (hMay.out _).mono ?_
  rintro q w1 ⟨rfl, hb⟩
  go_wp2_with fail
  go_ret2
  exact ⟨_, rfl, Kd.R_nil _ _ _ _ _, below_step (below_alloc (Below.refl _ _) _) hb⟩
theorem PS.grown {W W' : World} {B : Nat} {c t x m k e : Int} {w : World} {g0 g1 g2 g3 g4 g5 g6 g7 g8 : Nat} (h : PS W B c t x m k e w g0 g1 g2 g3 g4 g5 g6 g7 g8) {base : Nat} {ok : Nat → Prop} {v : Value} {xs : List Int} (hr : Kd.R (Kd.int .u8) 5 W base ok v xs) (hg : W.grownBy W' v.ownBlock) (hb : Below w.heap.size w W') : PS W' B c t x m k e w g0 g1 g2 g3 g4 g5 g6 g7 g8 :=
  ⟨blk_grown h.s hg (Kd.R_ne hr h.s (by decide)), ⟨blk_grown h.p.b0 hg (Kd.R_ne hr h.p.b0 (by decide)), blk_grown h.p.b1 hg (Kd.R_ne hr h.p.b1 (by decide)), blk_grown h.p.b2 hg (Kd.R_ne hr h.p.b2 (by decide)), blk_grown h.p.b3 hg (Kd.R_ne hr h.p.b3 (by decide)), blk_grown h.p.b4 hg (Kd.R_ne hr h.p.b4 (by decide)), blk_grown h.p.b5 hg (Kd.R_ne hr h.p.b5 (by decide)), blk_grown h.p.b6 hg (Kd.R_ne hr h.p.b6 (by decide)), blk_grown h.p.b7 hg (Kd.R_ne hr h.p.b7 (by decide)), blk_grown h.p.b8 hg (Kd.R_ne hr h.p.b8 (by decide))⟩, hb⟩
def bytes6 (c t x m k e : Int) (j : Nat) : List Int := [c % 256, t % 256, x % 256, m % 256, k % 256, e % 256].take j
set_option maxHeartbeats 8000000 in
set_option maxRecDepth 100000 in
theorem hand_Put_yes (c t x m k e : Int) (hMay : ∀ w, Calls Try.prog 9 #[.agg #[.int .i64 c, .int .i64 t, .int .i64 x, .int .i64 m, .int .i64 k, .int .i64 e]] w fun q w' => q = .returned (.bool true) ∧ Below w.heap.size w w') (w : World) :
    Calls Try.prog 11 #[.agg #[.int .i64 c, .int .i64 t, .int .i64 x, .int .i64 m, .int .i64 k, .int .i64 e]] w fun q w' => ∃ v0_ : Value, q = .returned (.tuple #[v0_, .bool true]) ∧ Kd.R (Kd.int .u8) 5 w' w.heap.size (fun _ => True) v0_ [c % 256, t % 256, x % 256, m % 256, k % 256, e % 256] ∧ Below w.heap.size w w' := by
  have hu43 := Try.underlying43
  have hu42 := Try.underlying42
  have hu23 := Try.underlying23
  replace hMay := Aside0.mk hMay
  go_enter Try.func11, Try.ntmps11
  go_wp2_with fail
  refine (hMay.out _).mono ?_
  rintro q w1 ⟨rfl, hb⟩
  have HS := Aside0.mk (blk_below (blk_new w (.cells #[.int .i64 c, .int .i64 t, .int .i64 x, .int .i64 m, .int .i64 k, .int .i64 e] 23 (0, 0))) hb)
  have HB := Aside0.mk (below_step (below_alloc (Below.refl w.heap.size w) _) hb)
  clear hb
  go_wp2_with fail
  refine (hand_parts' _).mono ?_
  rintro q w2 ⟨g0, g1, g2, g3, g4, g5, g6, g7, g8, rfl, hp, hbb⟩
  have hs := Aside0.mk (PS.mk (blk_below HS.out hbb) hp (below_step HB.out hbb))
  clear hp hbb HS HB
  go_wp2_with fail
  go_loopw [4, 11] (fun v i wr => ∃ j : Int, 0 ≤ j ∧ j ≤ 6 ∧ i = .int .i64 j ∧ Aside0 (Kd.R (Kd.int .u8) 5 wr w.heap.size (fun k => k ≠ w.heap.size) v (bytes6 c t x m k e j.toNat)) ∧ Aside0 (PS wr w.heap.size c t x m k e w g0 g1 g2 g3 g4 g5 g6 g7 g8)) (fun _ i _ => 6 - (intOf i).toNat)
  case atStart => exact ⟨0, by omega, by omega, rfl, ⟨Kd.R_nil _ _ _ _ _⟩, hs⟩
  case round =>
    clear hs
    rename_i v
    obtain ⟨j, hj0, hj6, rfl, HR, hs⟩ := hrel
    have hj : j = 0 ∨ j = 1 ∨ j = 2 ∨ j = 3 ∨ j = 4 ∨ j = 5 ∨ j = 6 := by omega
    clear hj0 hj6
    rcases hj with rfl | rfl | rfl | rfl | rfl | rfl | rfl
    · have hix := idx0 g0 g1 g2 g3 g4 g5 g6 g7 g8
      unfold TO FN at hix
      have hs2 := Aside0.mk (hs.out.below (below_alloc (Below.refl wr.heap.size wr) (.cells #[.func (.func 22) #[] #[], .func (.func 32) #[] #[.pointer (some ⟨g0, 0, none⟩)], .func (.func 32) #[] #[.pointer (some ⟨g1, 0, none⟩)]] 42 (0, 0))))
      have HR2 := Aside0.mk (Kd.R_below HR.out (below_alloc (Below.refl wr.heap.size wr) (.cells #[.func (.func 22) #[] #[], .func (.func 32) #[] #[.pointer (some ⟨g0, 0, none⟩)], .func (.func 32) #[] #[.pointer (some ⟨g1, 0, none⟩)]] 42 (0, 0))))
      have hq : (wr.alloc (.cells #[.func (.func 22) #[] #[], .func (.func 32) #[] #[.pointer (some ⟨g0, 0, none⟩)], .func (.func 32) #[] #[.pointer (some ⟨g1, 0, none⟩)]] 42 (0, 0))).cell? ⟨w.heap.size, 0, none⟩ = some (.int .i64 c) := blk_cell hs2.out.s 0
      clear hs HR
      go_wp2_with fail
      refine (hand_at0 _ _).mono ?_
      rintro q w3 ⟨rfl, hw⟩
      have hs3 := Aside0.mk (hw ▸ hs2.out)
      have HR3 := Aside0.mk (hw ▸ HR2.out)
      have hq3 : w3.cell? ⟨w.heap.size, 0, none⟩ = some (.int .i64 c) := blk_cell hs3.out.s 0
      clear hw hq hs2 HR2
      go_wp2_with ((with_reducible refine gate_builtin (b := .append) (xs := #[.tmp 14, .tmp 21]) rfl ?_); at_builtin; (refine Kd.R_append (Kd.int .u8) (w0 := w) w.heap.size rfl (.tmp 14) (.tmp 21) 30 5 (.int .u8 0) 1 rfl Try.underlying30 info5 rfl (by decide) (by omega) u4 (bytes6 c t x m k e 0) (c % 256) [.int .u8 (c % 256)] (fun k => k ≠ w.heap.size) (fun _ => False) rfl rfl ?aP (fun _ hk => hk.elim) ?aF ?aO ?aB ?aS ?aL ?_); (case aP => exact rfl); (case aF => exact fun k hk => Nat.ne_of_gt (Nat.lt_of_lt_of_le (blk_lt hs3.out.s) hk)); (case aO => exact HR3.out); (case aB => exact hs3.out.b); (case aS => exact hs3.out.b.size); (case aL => simp [bytes6]); intro v1 w4 hr4 hb4 hg4 hat4; have hs4 := Aside0.mk (PS.grown hs3.out HR3.out hg4 hb4); have HR4 := Aside0.mk hr4; clear hr4 hb4 hg4 hat4 hs3 HR3 hq3)
      go_roundw
      case rel => exact ⟨1, by omega, by omega, rfl, HR4, hs4⟩
      case measure => simp [intOf]
    · have hix := idx1 g0 g1 g2 g3 g4 g5 g6 g7 g8
      unfold TO FN at hix
      have hs2 := Aside0.mk (hs.out.below (below_alloc (Below.refl wr.heap.size wr) (.cells #[.func (.func 24) #[] #[], .func (.func 25) #[] #[], .func (.func 26) #[] #[]] 42 (0, 0))))
      have HR2 := Aside0.mk (Kd.R_below HR.out (below_alloc (Below.refl wr.heap.size wr) (.cells #[.func (.func 24) #[] #[], .func (.func 25) #[] #[], .func (.func 26) #[] #[]] 42 (0, 0))))
      have hq : (wr.alloc (.cells #[.func (.func 24) #[] #[], .func (.func 25) #[] #[], .func (.func 26) #[] #[]] 42 (0, 0))).cell? ⟨w.heap.size, 1, none⟩ = some (.int .i64 t) := blk_cell hs2.out.s 1
      clear hs HR
      go_wp2_with fail
      refine (hand_at1 _ _).mono ?_
      rintro q w3 ⟨rfl, hw⟩
      have hs3 := Aside0.mk (hw ▸ hs2.out)
      have HR3 := Aside0.mk (hw ▸ HR2.out)
      have hq3 : w3.cell? ⟨w.heap.size, 1, none⟩ = some (.int .i64 t) := blk_cell hs3.out.s 1
      clear hw hq hs2 HR2
      go_wp2_with ((with_reducible refine gate_builtin (b := .append) (xs := #[.tmp 14, .tmp 21]) rfl ?_); at_builtin; (refine Kd.R_append (Kd.int .u8) (w0 := w) w.heap.size rfl (.tmp 14) (.tmp 21) 30 5 (.int .u8 0) 1 rfl Try.underlying30 info5 rfl (by decide) (by omega) u4 (bytes6 c t x m k e 1) (t % 256) [.int .u8 (t % 256)] (fun k => k ≠ w.heap.size) (fun _ => False) rfl rfl ?aP (fun _ hk => hk.elim) ?aF ?aO ?aB ?aS ?aL ?_); (case aP => exact rfl); (case aF => exact fun k hk => Nat.ne_of_gt (Nat.lt_of_lt_of_le (blk_lt hs3.out.s) hk)); (case aO => exact HR3.out); (case aB => exact hs3.out.b); (case aS => exact hs3.out.b.size); (case aL => simp [bytes6]); intro v1 w4 hr4 hb4 hg4 hat4; have hs4 := Aside0.mk (PS.grown hs3.out HR3.out hg4 hb4); have HR4 := Aside0.mk hr4; clear hr4 hb4 hg4 hat4 hs3 HR3 hq3)
      go_roundw
      case rel => exact ⟨2, by omega, by omega, rfl, HR4, hs4⟩
      case measure => simp [intOf]
    · have hix := idx2 g0 g1 g2 g3 g4 g5 g6 g7 g8
      unfold TO FN at hix
      have hs2 := Aside0.mk (hs.out.below (below_alloc (Below.refl wr.heap.size wr) (.cells #[.func (.func 27) #[] #[], .func (.func 32) #[] #[.pointer (some ⟨g2, 0, none⟩)], .func (.func 32) #[] #[.pointer (some ⟨g3, 0, none⟩)]] 42 (0, 0))))
      have HR2 := Aside0.mk (Kd.R_below HR.out (below_alloc (Below.refl wr.heap.size wr) (.cells #[.func (.func 27) #[] #[], .func (.func 32) #[] #[.pointer (some ⟨g2, 0, none⟩)], .func (.func 32) #[] #[.pointer (some ⟨g3, 0, none⟩)]] 42 (0, 0))))
      have hq : (wr.alloc (.cells #[.func (.func 27) #[] #[], .func (.func 32) #[] #[.pointer (some ⟨g2, 0, none⟩)], .func (.func 32) #[] #[.pointer (some ⟨g3, 0, none⟩)]] 42 (0, 0))).cell? ⟨w.heap.size, 2, none⟩ = some (.int .i64 x) := blk_cell hs2.out.s 2
      clear hs HR
      go_wp2_with fail
      refine (hand_at2 _ _).mono ?_
      rintro q w3 ⟨rfl, hw⟩
      have hs3 := Aside0.mk (hw ▸ hs2.out)
      have HR3 := Aside0.mk (hw ▸ HR2.out)
      have hq3 : w3.cell? ⟨w.heap.size, 2, none⟩ = some (.int .i64 x) := blk_cell hs3.out.s 2
      clear hw hq hs2 HR2
      go_wp2_with ((with_reducible refine gate_builtin (b := .append) (xs := #[.tmp 14, .tmp 21]) rfl ?_); at_builtin; (refine Kd.R_append (Kd.int .u8) (w0 := w) w.heap.size rfl (.tmp 14) (.tmp 21) 30 5 (.int .u8 0) 1 rfl Try.underlying30 info5 rfl (by decide) (by omega) u4 (bytes6 c t x m k e 2) (x % 256) [.int .u8 (x % 256)] (fun k => k ≠ w.heap.size) (fun _ => False) rfl rfl ?aP (fun _ hk => hk.elim) ?aF ?aO ?aB ?aS ?aL ?_); (case aP => exact rfl); (case aF => exact fun k hk => Nat.ne_of_gt (Nat.lt_of_lt_of_le (blk_lt hs3.out.s) hk)); (case aO => exact HR3.out); (case aB => exact hs3.out.b); (case aS => exact hs3.out.b.size); (case aL => simp [bytes6]); intro v1 w4 hr4 hb4 hg4 hat4; have hs4 := Aside0.mk (PS.grown hs3.out HR3.out hg4 hb4); have HR4 := Aside0.mk hr4; clear hr4 hb4 hg4 hat4 hs3 HR3 hq3)
      go_roundw
      case rel => exact ⟨3, by omega, by omega, rfl, HR4, hs4⟩
      case measure => simp [intOf]
    · have hix := idx3 g0 g1 g2 g3 g4 g5 g6 g7 g8
      unfold TO FN at hix
      have hs2 := Aside0.mk (hs.out.below (below_alloc (Below.refl wr.heap.size wr) (.cells #[.func (.func 28) #[] #[], .func (.func 32) #[] #[.pointer (some ⟨g4, 0, none⟩)], .func (.func 29) #[] #[]] 42 (0, 0))))
      have HR2 := Aside0.mk (Kd.R_below HR.out (below_alloc (Below.refl wr.heap.size wr) (.cells #[.func (.func 28) #[] #[], .func (.func 32) #[] #[.pointer (some ⟨g4, 0, none⟩)], .func (.func 29) #[] #[]] 42 (0, 0))))
      have hq : (wr.alloc (.cells #[.func (.func 28) #[] #[], .func (.func 32) #[] #[.pointer (some ⟨g4, 0, none⟩)], .func (.func 29) #[] #[]] 42 (0, 0))).cell? ⟨w.heap.size, 3, none⟩ = some (.int .i64 m) := blk_cell hs2.out.s 3
      clear hs HR
      go_wp2_with fail
      refine (hand_at3 _ _).mono ?_
      rintro q w3 ⟨rfl, hw⟩
      have hs3 := Aside0.mk (hw ▸ hs2.out)
      have HR3 := Aside0.mk (hw ▸ HR2.out)
      have hq3 : w3.cell? ⟨w.heap.size, 3, none⟩ = some (.int .i64 m) := blk_cell hs3.out.s 3
      clear hw hq hs2 HR2
      go_wp2_with ((with_reducible refine gate_builtin (b := .append) (xs := #[.tmp 14, .tmp 21]) rfl ?_); at_builtin; (refine Kd.R_append (Kd.int .u8) (w0 := w) w.heap.size rfl (.tmp 14) (.tmp 21) 30 5 (.int .u8 0) 1 rfl Try.underlying30 info5 rfl (by decide) (by omega) u4 (bytes6 c t x m k e 3) (m % 256) [.int .u8 (m % 256)] (fun k => k ≠ w.heap.size) (fun _ => False) rfl rfl ?aP (fun _ hk => hk.elim) ?aF ?aO ?aB ?aS ?aL ?_); (case aP => exact rfl); (case aF => exact fun k hk => Nat.ne_of_gt (Nat.lt_of_lt_of_le (blk_lt hs3.out.s) hk)); (case aO => exact HR3.out); (case aB => exact hs3.out.b); (case aS => exact hs3.out.b.size); (case aL => simp [bytes6]); intro v1 w4 hr4 hb4 hg4 hat4; have hs4 := Aside0.mk (PS.grown hs3.out HR3.out hg4 hb4); have HR4 := Aside0.mk hr4; clear hr4 hb4 hg4 hat4 hs3 HR3 hq3)
      go_roundw
      case rel => exact ⟨4, by omega, by omega, rfl, HR4, hs4⟩
      case measure => simp [intOf]
    · have hix := idx4 g0 g1 g2 g3 g4 g5 g6 g7 g8
      unfold TO FN at hix
      have hs2 := Aside0.mk (hs.out.below (below_alloc (Below.refl wr.heap.size wr) (.cells #[.func (.func 30) #[] #[], .func (.func 32) #[] #[.pointer (some ⟨g5, 0, none⟩)], .func (.func 32) #[] #[.pointer (some ⟨g6, 0, none⟩)]] 42 (0, 0))))
      have HR2 := Aside0.mk (Kd.R_below HR.out (below_alloc (Below.refl wr.heap.size wr) (.cells #[.func (.func 30) #[] #[], .func (.func 32) #[] #[.pointer (some ⟨g5, 0, none⟩)], .func (.func 32) #[] #[.pointer (some ⟨g6, 0, none⟩)]] 42 (0, 0))))
      have hq : (wr.alloc (.cells #[.func (.func 30) #[] #[], .func (.func 32) #[] #[.pointer (some ⟨g5, 0, none⟩)], .func (.func 32) #[] #[.pointer (some ⟨g6, 0, none⟩)]] 42 (0, 0))).cell? ⟨w.heap.size, 4, none⟩ = some (.int .i64 k) := blk_cell hs2.out.s 4
      clear hs HR
      go_wp2_with fail
      refine (hand_at4 _ _).mono ?_
      rintro q w3 ⟨rfl, hw⟩
      have hs3 := Aside0.mk (hw ▸ hs2.out)
      have HR3 := Aside0.mk (hw ▸ HR2.out)
      have hq3 : w3.cell? ⟨w.heap.size, 4, none⟩ = some (.int .i64 k) := blk_cell hs3.out.s 4
      clear hw hq hs2 HR2
      go_wp2_with ((with_reducible refine gate_builtin (b := .append) (xs := #[.tmp 14, .tmp 21]) rfl ?_); at_builtin; (refine Kd.R_append (Kd.int .u8) (w0 := w) w.heap.size rfl (.tmp 14) (.tmp 21) 30 5 (.int .u8 0) 1 rfl Try.underlying30 info5 rfl (by decide) (by omega) u4 (bytes6 c t x m k e 4) (k % 256) [.int .u8 (k % 256)] (fun k => k ≠ w.heap.size) (fun _ => False) rfl rfl ?aP (fun _ hk => hk.elim) ?aF ?aO ?aB ?aS ?aL ?_); (case aP => exact rfl); (case aF => exact fun k hk => Nat.ne_of_gt (Nat.lt_of_lt_of_le (blk_lt hs3.out.s) hk)); (case aO => exact HR3.out); (case aB => exact hs3.out.b); (case aS => exact hs3.out.b.size); (case aL => simp [bytes6]); intro v1 w4 hr4 hb4 hg4 hat4; have hs4 := Aside0.mk (PS.grown hs3.out HR3.out hg4 hb4); have HR4 := Aside0.mk hr4; clear hr4 hb4 hg4 hat4 hs3 HR3 hq3)
      go_roundw
      case rel => exact ⟨5, by omega, by omega, rfl, HR4, hs4⟩
      case measure => simp [intOf]
    · have hix := idx5 g0 g1 g2 g3 g4 g5 g6 g7 g8
      unfold TO FN at hix
      have hs2 := Aside0.mk (hs.out.below (below_alloc (Below.refl wr.heap.size wr) (.cells #[.func (.func 31) #[] #[], .func (.func 32) #[] #[.pointer (some ⟨g7, 0, none⟩)], .func (.func 32) #[] #[.pointer (some ⟨g8, 0, none⟩)]] 42 (0, 0))))
      have HR2 := Aside0.mk (Kd.R_below HR.out (below_alloc (Below.refl wr.heap.size wr) (.cells #[.func (.func 31) #[] #[], .func (.func 32) #[] #[.pointer (some ⟨g7, 0, none⟩)], .func (.func 32) #[] #[.pointer (some ⟨g8, 0, none⟩)]] 42 (0, 0))))
      have hq : (wr.alloc (.cells #[.func (.func 31) #[] #[], .func (.func 32) #[] #[.pointer (some ⟨g7, 0, none⟩)], .func (.func 32) #[] #[.pointer (some ⟨g8, 0, none⟩)]] 42 (0, 0))).cell? ⟨w.heap.size, 5, none⟩ = some (.int .i64 e) := blk_cell hs2.out.s 5
      clear hs HR
      go_wp2_with fail
      refine (hand_at5 _ _).mono ?_
      rintro q w3 ⟨rfl, hw⟩
      have hs3 := Aside0.mk (hw ▸ hs2.out)
      have HR3 := Aside0.mk (hw ▸ HR2.out)
      have hq3 : w3.cell? ⟨w.heap.size, 5, none⟩ = some (.int .i64 e) := blk_cell hs3.out.s 5
      clear hw hq hs2 HR2
      go_wp2_with ((with_reducible refine gate_builtin (b := .append) (xs := #[.tmp 14, .tmp 21]) rfl ?_); at_builtin; (refine Kd.R_append (Kd.int .u8) (w0 := w) w.heap.size rfl (.tmp 14) (.tmp 21) 30 5 (.int .u8 0) 1 rfl Try.underlying30 info5 rfl (by decide) (by omega) u4 (bytes6 c t x m k e 5) (e % 256) [.int .u8 (e % 256)] (fun k => k ≠ w.heap.size) (fun _ => False) rfl rfl ?aP (fun _ hk => hk.elim) ?aF ?aO ?aB ?aS ?aL ?_); (case aP => exact rfl); (case aF => exact fun k hk => Nat.ne_of_gt (Nat.lt_of_lt_of_le (blk_lt hs3.out.s) hk)); (case aO => exact HR3.out); (case aB => exact hs3.out.b); (case aS => exact hs3.out.b.size); (case aL => simp [bytes6]); intro v1 w4 hr4 hb4 hg4 hat4; have hs4 := Aside0.mk (PS.grown hs3.out HR3.out hg4 hb4); have HR4 := Aside0.mk hr4; clear hr4 hb4 hg4 hat4 hs3 HR3 hq3)
      go_roundw
      case rel => exact ⟨6, by omega, by omega, rfl, HR4, hs4⟩
      case measure => simp [intOf]
    · go_wp2_with fail
      go_ret2
      exact ⟨_, rfl, Kd.R_mono HR.out (fun _ _ => trivial), hs.out.b⟩


theorem blk_new2 (w : World) (o o' : Obj) : ((w.alloc o).alloc o').heap[w.heap.size + 1]? = some o' := by
  have h := blk_new (w.alloc o) o'
  rwa [show (w.alloc o).heap.size = w.heap.size + 1 from by simp] at h

structure GS (W : World) (B : Nat) (cs : Array Value) (w : World) (g0 g1 g2 g3 g4 g5 g6 g7 g8 : Nat) : Prop where
  s : W.heap[B + 1]? = some (.cells cs 23 (0, 0))
  z : W.heap[B]? = some (.cells #[.int .i64 0, .int .i64 0, .int .i64 0, .int .i64 0, .int .i64 0, .int .i64 0] 23 (0, 0))
  p : PB W g0 g1 g2 g3 g4 g5 g6 g7 g8
  b : Below w.heap.size w W
theorem GS.below {W W' : World} {B : Nat} {cs : Array Value} {w : World} {g0 g1 g2 g3 g4 g5 g6 g7 g8 : Nat} (h : GS W B cs w g0 g1 g2 g3 g4 g5 g6 g7 g8) (hb : Below W.heap.size W W') : GS W' B cs w g0 g1 g2 g3 g4 g5 g6 g7 g8 :=
  ⟨blk_below h.s hb, blk_below h.z hb, h.p.below hb, below_step h.b hb⟩
theorem GS.store {W : World} {B : Nat} {cs : Array Value} {w : World} {g0 g1 g2 g3 g4 g5 g6 g7 g8 : Nat} (h : GS W B cs w g0 g1 g2 g3 g4 g5 g6 g7 g8) (hB : w.heap.size ≤ B) (i : Nat) (u : Value) : GS (W.setCell ⟨B + 1, i, none⟩ u).drew B (cs.setIfInBounds i u) w g0 g1 g2 g3 g4 g5 g6 g7 g8 :=
  ⟨blk_drew (blk_set h.s i u), blk_drew (blk_far h.z (show B ≠ B + 1 by omega) u),
   ⟨blk_drew (blk_far h.p.b0 (blk_ne h.p.b0 h.s (by decide)) u), blk_drew (blk_far h.p.b1 (blk_ne h.p.b1 h.s (by decide)) u), blk_drew (blk_far h.p.b2 (blk_ne h.p.b2 h.s (by decide)) u), blk_drew (blk_far h.p.b3 (blk_ne h.p.b3 h.s (by decide)) u), blk_drew (blk_far h.p.b4 (blk_ne h.p.b4 h.s (by decide)) u), blk_drew (blk_far h.p.b5 (blk_ne h.p.b5 h.s (by decide)) u), blk_drew (blk_far h.p.b6 (blk_ne h.p.b6 h.s (by decide)) u), blk_drew (blk_far h.p.b7 (blk_ne h.p.b7 h.s (by decide)) u), blk_drew (blk_far h.p.b8 (blk_ne h.p.b8 h.s (by decide)) u)⟩,
   below_drew1 (h.b.setCell (show w.heap.size ≤ B + 1 by omega) u)⟩
def zeros6 : Array Value := #[.int .i64 0, .int .i64 0, .int .i64 0, .int .i64 0, .int .i64 0, .int .i64 0]
def got (l : List Int) (j : Nat) : Array Value := ((List.range 6).map fun i => Value.int .i64 (if i < j then wrap64 (rd l i) else 0)).toArray
theorem got_succ (l : List Int) (j : Nat) (hj : j < 6) : (got l j).setIfInBounds j (.int .i64 (wrap64 (rd l j))) = got l (j + 1) := by
  have : j = 0 ∨ j = 1 ∨ j = 2 ∨ j = 3 ∨ j = 4 ∨ j = 5 := by omega
  rcases this with rfl | rfl | rfl | rfl | rfl | rfl <;> simp [got, List.range, List.range.loop]
theorem got_zero (l : List Int) : got l 0 = zeros6 := by simp [got, zeros6, List.range, List.range.loop]
theorem got_one (l : List Int) (j : Nat) : (got l j).all (·.oneCell') = true := by simp [got, List.range, List.range.loop, Value.oneCell']
set_option maxHeartbeats 8000000 in
set_option maxRecDepth 100000 in
theorem hand_Get_6 (A0 : Option Addr) (c0 : Nat) (l0 : List Int) (hl : l0.length = 6) (r : Bool) (w : World) (hr0 : Kd.C (Kd.int .u8) w A0 6 l0)
    (hMay : ∀ w, Calls Try.prog 9 #[.agg (got l0 6)] w fun q w' => q = .returned (.bool r) ∧ Below w.heap.size w w') :
    Calls Try.prog 13 #[.slice A0 6 c0] w fun q w' => q = .returned (.tuple #[.agg (if r = true then got l0 6 else zeros6), .bool r]) ∧ Below w.heap.size w w' := by
  have hu43 := Try.underlying43
  have hu42 := Try.underlying42
  have hu23 := Try.underlying23
  replace hMay := Aside0.mk hMay
  obtain ⟨ad, rfl⟩ : ∃ ad, A0 = some ad := by
    obtain ⟨ad, e, _⟩ := hr0.2.2 (by omega)
    exact ⟨ad, e⟩
  replace hr0 := Aside0.mk hr0
  go_enter Try.func13, Try.ntmps13
  go_wp2_with fail
  refine (hand_parts' _).mono ?_
  rintro q w2 ⟨g0, g1, g2, g3, g4, g5, g6, g7, g8, rfl, hp, hbb⟩
  have hs := Aside0.mk (GS.mk (B := w.heap.size) (cs := got l0 0) (blk_below (blk_new2 w _ _) hbb) (blk_below (blk_alloc (blk_new w _) _) hbb) hp (below_step (below_alloc (below_alloc (Below.refl w.heap.size w) _) _) hbb))
  clear hp hbb
  go_wp2_with fail
  go_loopw [12] (fun i wr => ∃ j : Int, 0 ≤ j ∧ j ≤ 6 ∧ i = .int .i64 j ∧ Aside0 (GS wr w.heap.size (got l0 j.toNat) w g0 g1 g2 g3 g4 g5 g6 g7 g8)) (fun i _ => 6 - (intOf i).toNat)
  case atStart => exact ⟨0, by omega, by omega, rfl, hs⟩
  case round =>
    clear hs
    obtain ⟨j, hj0, hj6, rfl, hs⟩ := hrel
    have hj : j = 0 ∨ j = 1 ∨ j = 2 ∨ j = 3 ∨ j = 4 ∨ j = 5 ∨ j = 6 := by omega
    clear hj0 hj6
    rcases hj with rfl | rfl | rfl | rfl | rfl | rfl | rfl
    · have hix := idx0 g0 g1 g2 g3 g4 g5 g6 g7 g8
      unfold TO FN at hix
      have hs2 := Aside0.mk (hs.out.below (below_alloc (Below.refl wr.heap.size wr) (.cells #[.func (.func 22) #[] #[], .func (.func 32) #[] #[.pointer (some ⟨g0, 0, none⟩)], .func (.func 32) #[] #[.pointer (some ⟨g1, 0, none⟩)]] 42 (0, 0))))
      have HK := Aside0.mk (blk_new wr (.cells #[.func (.func 22) #[] #[], .func (.func 32) #[] #[.pointer (some ⟨g0, 0, none⟩)], .func (.func 32) #[] #[.pointer (some ⟨g1, 0, none⟩)]] 42 (0, 0)))
      go_wp2_with fail
      have k0 : (wr.alloc (.cells #[.func (.func 22) #[] #[], .func (.func 32) #[] #[.pointer (some ⟨g0, 0, none⟩)], .func (.func 32) #[] #[.pointer (some ⟨g1, 0, none⟩)]] 42 (0, 0))).cell? ⟨wr.heap.size, 0, none⟩ = some (.func (.func 22) #[] #[]) := blk_cell HK.out 0
      have hbyte : (wr.alloc (.cells #[.func (.func 22) #[] #[], .func (.func 32) #[] #[.pointer (some ⟨g0, 0, none⟩)], .func (.func 32) #[] #[.pointer (some ⟨g1, 0, none⟩)]] 42 (0, 0))).cell? (ad.add 0) = some (.int .u8 (rd l0 0)) := by
        obtain ⟨ad', e, h⟩ := Kd.at_int (Kd.C_below hr0.out hs2.out.b) 0 (by omega) (by omega)
        cases e; exact h
      have hbyte0 : (wr.alloc (.cells #[.func (.func 22) #[] #[], .func (.func 32) #[] #[.pointer (some ⟨g0, 0, none⟩)], .func (.func 32) #[] #[.pointer (some ⟨g1, 0, none⟩)]] 42 (0, 0))).cell? ad = some (.int .u8 (rd l0 0)) := by simpa [Addr.add] using hbyte
      have hst : (wr.alloc (.cells #[.func (.func 22) #[] #[], .func (.func 32) #[] #[.pointer (some ⟨g0, 0, none⟩)], .func (.func 32) #[] #[.pointer (some ⟨g1, 0, none⟩)]] 42 (0, 0))).cell? ⟨w.heap.size + 1, 0, none⟩ = some (.int .i64 0) := by
        rw [blk_cell hs2.out.s]; simp [got, List.range, List.range.loop]
      have hfr : (wr.alloc (.cells #[.func (.func 22) #[] #[], .func (.func 32) #[] #[.pointer (some ⟨g0, 0, none⟩)], .func (.func 32) #[] #[.pointer (some ⟨g1, 0, none⟩)]] 42 (0, 0))).frozen? ⟨w.heap.size + 1, 0, none⟩ = false := blk_frozen hs2.out.s _
      generalize wr.alloc (.cells #[.func (.func 22) #[] #[], .func (.func 32) #[] #[.pointer (some ⟨g0, 0, none⟩)], .func (.func 32) #[] #[.pointer (some ⟨g1, 0, none⟩)]] 42 (0, 0)) = W5 at *
      go_region_with ((go_at_call 22; refine (hand_at0 _ _).mono ?_; rintro q w3 ⟨rfl, rfl⟩))
      all_goals
        go_wp2_with fail
        go_roundw
        case rel => exact ⟨1, by omega, by omega, rfl, ⟨got_succ l0 0 (by omega) ▸ hs2.out.store (Nat.le_refl _) 0 _⟩⟩
        case measure => simp [intOf]
    · have hix := idx1 g0 g1 g2 g3 g4 g5 g6 g7 g8
      unfold TO FN at hix
      have hs2 := Aside0.mk (hs.out.below (below_alloc (Below.refl wr.heap.size wr) (.cells #[.func (.func 24) #[] #[], .func (.func 25) #[] #[], .func (.func 26) #[] #[]] 42 (0, 0))))
      have HK := Aside0.mk (blk_new wr (.cells #[.func (.func 24) #[] #[], .func (.func 25) #[] #[], .func (.func 26) #[] #[]] 42 (0, 0)))
      go_wp2_with fail
      have k0 : (wr.alloc (.cells #[.func (.func 24) #[] #[], .func (.func 25) #[] #[], .func (.func 26) #[] #[]] 42 (0, 0))).cell? ⟨wr.heap.size, 0, none⟩ = some (.func (.func 24) #[] #[]) := blk_cell HK.out 0
      have hbyte : (wr.alloc (.cells #[.func (.func 24) #[] #[], .func (.func 25) #[] #[], .func (.func 26) #[] #[]] 42 (0, 0))).cell? (ad.add 1) = some (.int .u8 (rd l0 1)) := by
        obtain ⟨ad', e, h⟩ := Kd.at_int (Kd.C_below hr0.out hs2.out.b) 1 (by omega) (by omega)
        cases e; exact h
      have hbyte0 : (wr.alloc (.cells #[.func (.func 24) #[] #[], .func (.func 25) #[] #[], .func (.func 26) #[] #[]] 42 (0, 0))).cell? ⟨ad.block, ad.off + 1, none⟩ = some (.int .u8 (rd l0 1)) := by simpa [Addr.add] using hbyte
      have hst : (wr.alloc (.cells #[.func (.func 24) #[] #[], .func (.func 25) #[] #[], .func (.func 26) #[] #[]] 42 (0, 0))).cell? ⟨w.heap.size + 1, 1, none⟩ = some (.int .i64 0) := by
        rw [blk_cell hs2.out.s]; simp [got, List.range, List.range.loop]
      have hfr : (wr.alloc (.cells #[.func (.func 24) #[] #[], .func (.func 25) #[] #[], .func (.func 26) #[] #[]] 42 (0, 0))).frozen? ⟨w.heap.size + 1, 1, none⟩ = false := blk_frozen hs2.out.s _
      generalize wr.alloc (.cells #[.func (.func 24) #[] #[], .func (.func 25) #[] #[], .func (.func 26) #[] #[]] 42 (0, 0)) = W5 at *
      go_region_with ((go_at_call 24; refine (hand_at1 _ _).mono ?_; rintro q w3 ⟨rfl, rfl⟩))
      all_goals
        go_wp2_with fail
        go_roundw
        case rel => exact ⟨2, by omega, by omega, rfl, ⟨got_succ l0 1 (by omega) ▸ hs2.out.store (Nat.le_refl _) 1 _⟩⟩
        case measure => simp [intOf]
    · have hix := idx2 g0 g1 g2 g3 g4 g5 g6 g7 g8
      unfold TO FN at hix
      have hs2 := Aside0.mk (hs.out.below (below_alloc (Below.refl wr.heap.size wr) (.cells #[.func (.func 27) #[] #[], .func (.func 32) #[] #[.pointer (some ⟨g2, 0, none⟩)], .func (.func 32) #[] #[.pointer (some ⟨g3, 0, none⟩)]] 42 (0, 0))))
      have HK := Aside0.mk (blk_new wr (.cells #[.func (.func 27) #[] #[], .func (.func 32) #[] #[.pointer (some ⟨g2, 0, none⟩)], .func (.func 32) #[] #[.pointer (some ⟨g3, 0, none⟩)]] 42 (0, 0)))
      go_wp2_with fail
      have k0 : (wr.alloc (.cells #[.func (.func 27) #[] #[], .func (.func 32) #[] #[.pointer (some ⟨g2, 0, none⟩)], .func (.func 32) #[] #[.pointer (some ⟨g3, 0, none⟩)]] 42 (0, 0))).cell? ⟨wr.heap.size, 0, none⟩ = some (.func (.func 27) #[] #[]) := blk_cell HK.out 0
      have hbyte : (wr.alloc (.cells #[.func (.func 27) #[] #[], .func (.func 32) #[] #[.pointer (some ⟨g2, 0, none⟩)], .func (.func 32) #[] #[.pointer (some ⟨g3, 0, none⟩)]] 42 (0, 0))).cell? (ad.add 2) = some (.int .u8 (rd l0 2)) := by
        obtain ⟨ad', e, h⟩ := Kd.at_int (Kd.C_below hr0.out hs2.out.b) 2 (by omega) (by omega)
        cases e; exact h
      have hbyte0 : (wr.alloc (.cells #[.func (.func 27) #[] #[], .func (.func 32) #[] #[.pointer (some ⟨g2, 0, none⟩)], .func (.func 32) #[] #[.pointer (some ⟨g3, 0, none⟩)]] 42 (0, 0))).cell? ⟨ad.block, ad.off + 2, none⟩ = some (.int .u8 (rd l0 2)) := by simpa [Addr.add] using hbyte
      have hst : (wr.alloc (.cells #[.func (.func 27) #[] #[], .func (.func 32) #[] #[.pointer (some ⟨g2, 0, none⟩)], .func (.func 32) #[] #[.pointer (some ⟨g3, 0, none⟩)]] 42 (0, 0))).cell? ⟨w.heap.size + 1, 2, none⟩ = some (.int .i64 0) := by
        rw [blk_cell hs2.out.s]; simp [got, List.range, List.range.loop]
      have hfr : (wr.alloc (.cells #[.func (.func 27) #[] #[], .func (.func 32) #[] #[.pointer (some ⟨g2, 0, none⟩)], .func (.func 32) #[] #[.pointer (some ⟨g3, 0, none⟩)]] 42 (0, 0))).frozen? ⟨w.heap.size + 1, 2, none⟩ = false := blk_frozen hs2.out.s _
      generalize wr.alloc (.cells #[.func (.func 27) #[] #[], .func (.func 32) #[] #[.pointer (some ⟨g2, 0, none⟩)], .func (.func 32) #[] #[.pointer (some ⟨g3, 0, none⟩)]] 42 (0, 0)) = W5 at *
      go_region_with ((go_at_call 27; refine (hand_at2 _ _).mono ?_; rintro q w3 ⟨rfl, rfl⟩))
      all_goals
        go_wp2_with fail
        go_roundw
        case rel => exact ⟨3, by omega, by omega, rfl, ⟨got_succ l0 2 (by omega) ▸ hs2.out.store (Nat.le_refl _) 2 _⟩⟩
        case measure => simp [intOf]
    · have hix := idx3 g0 g1 g2 g3 g4 g5 g6 g7 g8
      unfold TO FN at hix
      have hs2 := Aside0.mk (hs.out.below (below_alloc (Below.refl wr.heap.size wr) (.cells #[.func (.func 28) #[] #[], .func (.func 32) #[] #[.pointer (some ⟨g4, 0, none⟩)], .func (.func 29) #[] #[]] 42 (0, 0))))
      have HK := Aside0.mk (blk_new wr (.cells #[.func (.func 28) #[] #[], .func (.func 32) #[] #[.pointer (some ⟨g4, 0, none⟩)], .func (.func 29) #[] #[]] 42 (0, 0)))
      go_wp2_with fail
      have k0 : (wr.alloc (.cells #[.func (.func 28) #[] #[], .func (.func 32) #[] #[.pointer (some ⟨g4, 0, none⟩)], .func (.func 29) #[] #[]] 42 (0, 0))).cell? ⟨wr.heap.size, 0, none⟩ = some (.func (.func 28) #[] #[]) := blk_cell HK.out 0
      have hbyte : (wr.alloc (.cells #[.func (.func 28) #[] #[], .func (.func 32) #[] #[.pointer (some ⟨g4, 0, none⟩)], .func (.func 29) #[] #[]] 42 (0, 0))).cell? (ad.add 3) = some (.int .u8 (rd l0 3)) := by
        obtain ⟨ad', e, h⟩ := Kd.at_int (Kd.C_below hr0.out hs2.out.b) 3 (by omega) (by omega)
        cases e; exact h
      have hbyte0 : (wr.alloc (.cells #[.func (.func 28) #[] #[], .func (.func 32) #[] #[.pointer (some ⟨g4, 0, none⟩)], .func (.func 29) #[] #[]] 42 (0, 0))).cell? ⟨ad.block, ad.off + 3, none⟩ = some (.int .u8 (rd l0 3)) := by simpa [Addr.add] using hbyte
      have hst : (wr.alloc (.cells #[.func (.func 28) #[] #[], .func (.func 32) #[] #[.pointer (some ⟨g4, 0, none⟩)], .func (.func 29) #[] #[]] 42 (0, 0))).cell? ⟨w.heap.size + 1, 3, none⟩ = some (.int .i64 0) := by
        rw [blk_cell hs2.out.s]; simp [got, List.range, List.range.loop]
      have hfr : (wr.alloc (.cells #[.func (.func 28) #[] #[], .func (.func 32) #[] #[.pointer (some ⟨g4, 0, none⟩)], .func (.func 29) #[] #[]] 42 (0, 0))).frozen? ⟨w.heap.size + 1, 3, none⟩ = false := blk_frozen hs2.out.s _
      generalize wr.alloc (.cells #[.func (.func 28) #[] #[], .func (.func 32) #[] #[.pointer (some ⟨g4, 0, none⟩)], .func (.func 29) #[] #[]] 42 (0, 0)) = W5 at *
      go_region_with ((go_at_call 28; refine (hand_at3 _ _).mono ?_; rintro q w3 ⟨rfl, rfl⟩))
      all_goals
        go_wp2_with fail
        go_roundw
        case rel => exact ⟨4, by omega, by omega, rfl, ⟨got_succ l0 3 (by omega) ▸ hs2.out.store (Nat.le_refl _) 3 _⟩⟩
        case measure => simp [intOf]
    · have hix := idx4 g0 g1 g2 g3 g4 g5 g6 g7 g8
      unfold TO FN at hix
      have hs2 := Aside0.mk (hs.out.below (below_alloc (Below.refl wr.heap.size wr) (.cells #[.func (.func 30) #[] #[], .func (.func 32) #[] #[.pointer (some ⟨g5, 0, none⟩)], .func (.func 32) #[] #[.pointer (some ⟨g6, 0, none⟩)]] 42 (0, 0))))
      have HK := Aside0.mk (blk_new wr (.cells #[.func (.func 30) #[] #[], .func (.func 32) #[] #[.pointer (some ⟨g5, 0, none⟩)], .func (.func 32) #[] #[.pointer (some ⟨g6, 0, none⟩)]] 42 (0, 0)))
      go_wp2_with fail
      have k0 : (wr.alloc (.cells #[.func (.func 30) #[] #[], .func (.func 32) #[] #[.pointer (some ⟨g5, 0, none⟩)], .func (.func 32) #[] #[.pointer (some ⟨g6, 0, none⟩)]] 42 (0, 0))).cell? ⟨wr.heap.size, 0, none⟩ = some (.func (.func 30) #[] #[]) := blk_cell HK.out 0
      have hbyte : (wr.alloc (.cells #[.func (.func 30) #[] #[], .func (.func 32) #[] #[.pointer (some ⟨g5, 0, none⟩)], .func (.func 32) #[] #[.pointer (some ⟨g6, 0, none⟩)]] 42 (0, 0))).cell? (ad.add 4) = some (.int .u8 (rd l0 4)) := by
        obtain ⟨ad', e, h⟩ := Kd.at_int (Kd.C_below hr0.out hs2.out.b) 4 (by omega) (by omega)
        cases e; exact h
      have hbyte0 : (wr.alloc (.cells #[.func (.func 30) #[] #[], .func (.func 32) #[] #[.pointer (some ⟨g5, 0, none⟩)], .func (.func 32) #[] #[.pointer (some ⟨g6, 0, none⟩)]] 42 (0, 0))).cell? ⟨ad.block, ad.off + 4, none⟩ = some (.int .u8 (rd l0 4)) := by simpa [Addr.add] using hbyte
      have hst : (wr.alloc (.cells #[.func (.func 30) #[] #[], .func (.func 32) #[] #[.pointer (some ⟨g5, 0, none⟩)], .func (.func 32) #[] #[.pointer (some ⟨g6, 0, none⟩)]] 42 (0, 0))).cell? ⟨w.heap.size + 1, 4, none⟩ = some (.int .i64 0) := by
        rw [blk_cell hs2.out.s]; simp [got, List.range, List.range.loop]
      have hfr : (wr.alloc (.cells #[.func (.func 30) #[] #[], .func (.func 32) #[] #[.pointer (some ⟨g5, 0, none⟩)], .func (.func 32) #[] #[.pointer (some ⟨g6, 0, none⟩)]] 42 (0, 0))).frozen? ⟨w.heap.size + 1, 4, none⟩ = false := blk_frozen hs2.out.s _
      generalize wr.alloc (.cells #[.func (.func 30) #[] #[], .func (.func 32) #[] #[.pointer (some ⟨g5, 0, none⟩)], .func (.func 32) #[] #[.pointer (some ⟨g6, 0, none⟩)]] 42 (0, 0)) = W5 at *
      go_region_with ((go_at_call 30; refine (hand_at4 _ _).mono ?_; rintro q w3 ⟨rfl, rfl⟩))
      all_goals
        go_wp2_with fail
        go_roundw
        case rel => exact ⟨5, by omega, by omega, rfl, ⟨got_succ l0 4 (by omega) ▸ hs2.out.store (Nat.le_refl _) 4 _⟩⟩
        case measure => simp [intOf]
    · have hix := idx5 g0 g1 g2 g3 g4 g5 g6 g7 g8
      unfold TO FN at hix
      have hs2 := Aside0.mk (hs.out.below (below_alloc (Below.refl wr.heap.size wr) (.cells #[.func (.func 31) #[] #[], .func (.func 32) #[] #[.pointer (some ⟨g7, 0, none⟩)], .func (.func 32) #[] #[.pointer (some ⟨g8, 0, none⟩)]] 42 (0, 0))))
      have HK := Aside0.mk (blk_new wr (.cells #[.func (.func 31) #[] #[], .func (.func 32) #[] #[.pointer (some ⟨g7, 0, none⟩)], .func (.func 32) #[] #[.pointer (some ⟨g8, 0, none⟩)]] 42 (0, 0)))
      go_wp2_with fail
      have k0 : (wr.alloc (.cells #[.func (.func 31) #[] #[], .func (.func 32) #[] #[.pointer (some ⟨g7, 0, none⟩)], .func (.func 32) #[] #[.pointer (some ⟨g8, 0, none⟩)]] 42 (0, 0))).cell? ⟨wr.heap.size, 0, none⟩ = some (.func (.func 31) #[] #[]) := blk_cell HK.out 0
      have hbyte : (wr.alloc (.cells #[.func (.func 31) #[] #[], .func (.func 32) #[] #[.pointer (some ⟨g7, 0, none⟩)], .func (.func 32) #[] #[.pointer (some ⟨g8, 0, none⟩)]] 42 (0, 0))).cell? (ad.add 5) = some (.int .u8 (rd l0 5)) := by
        obtain ⟨ad', e, h⟩ := Kd.at_int (Kd.C_below hr0.out hs2.out.b) 5 (by omega) (by omega)
        cases e; exact h
      have hbyte0 : (wr.alloc (.cells #[.func (.func 31) #[] #[], .func (.func 32) #[] #[.pointer (some ⟨g7, 0, none⟩)], .func (.func 32) #[] #[.pointer (some ⟨g8, 0, none⟩)]] 42 (0, 0))).cell? ⟨ad.block, ad.off + 5, none⟩ = some (.int .u8 (rd l0 5)) := by simpa [Addr.add] using hbyte
      have hst : (wr.alloc (.cells #[.func (.func 31) #[] #[], .func (.func 32) #[] #[.pointer (some ⟨g7, 0, none⟩)], .func (.func 32) #[] #[.pointer (some ⟨g8, 0, none⟩)]] 42 (0, 0))).cell? ⟨w.heap.size + 1, 5, none⟩ = some (.int .i64 0) := by
        rw [blk_cell hs2.out.s]; simp [got, List.range, List.range.loop]
      have hfr : (wr.alloc (.cells #[.func (.func 31) #[] #[], .func (.func 32) #[] #[.pointer (some ⟨g7, 0, none⟩)], .func (.func 32) #[] #[.pointer (some ⟨g8, 0, none⟩)]] 42 (0, 0))).frozen? ⟨w.heap.size + 1, 5, none⟩ = false := blk_frozen hs2.out.s _
      generalize wr.alloc (.cells #[.func (.func 31) #[] #[], .func (.func 32) #[] #[.pointer (some ⟨g7, 0, none⟩)], .func (.func 32) #[] #[.pointer (some ⟨g8, 0, none⟩)]] 42 (0, 0)) = W5 at *
      go_region_with ((go_at_call 31; refine (hand_at5 _ _).mono ?_; rintro q w3 ⟨rfl, rfl⟩))
      all_goals
        go_wp2_with fail
        go_roundw
        case rel => exact ⟨6, by omega, by omega, rfl, ⟨got_succ l0 5 (by omega) ▸ hs2.out.store (Nat.le_refl _) 5 _⟩⟩
        case measure => simp [intOf]
    · have HS := Aside0.mk hs.out.s
      have HZ := Aside0.mk hs.out.z
      go_wp2_with ((with_reducible refine gate_dst (N := 26) rfl ?_); refine wpList_load_row rfl 23 (.tmp 4) rfl (w.heap.size + 1) rfl 23 _ (0, 0) _ HS.out hu23 rfl (by kernel_rfl) ?_)
      refine (hMay.out _).mono ?_
      rintro q w3 ⟨rfl, hb3⟩
      have HS3 := Aside0.mk (blk_below HS.out hb3)
      have HZ3 := Aside0.mk (blk_below HZ.out hb3)
      have HB3 := Aside0.mk (below_step hs.out.b hb3)
      clear HS HZ hb3 hs
      cases r with
      | true =>
        go_wp2_with (first | ((with_reducible refine gate_dst (N := 30) rfl ?_); refine wpList_load_row rfl 23 (.tmp 4) rfl (w.heap.size + 1) rfl 23 _ (0, 0) _ HS3.out hu23 rfl (by kernel_rfl) ?_) | ((with_reducible refine gate_store (t := 23) (p := 2) (v := .tmp 30) rfl ?_); refine wpList_store_row rfl 23 (.tmp 2) (.tmp 30) rfl w.heap.size (got l0 6) rfl rfl 23 _ HZ3.out (by kernel_rfl) rfl (got_one _ _) ?_))
        refine bodyPost_ret (results_ct rfl _ _ w.heap.size 23 _ (0, 0) _ rfl (setRow_heap _ _ _ _ _ _ HZ3.out) hu23 rfl (by kernel_rfl)) rfl ⟨rfl, below_setRow HB3.out (Nat.le_refl _) _⟩
      | false =>
        go_wp2_with ((with_reducible refine gate_store (t := 23) (p := 2) (v := .tmp 29) rfl ?_); refine wpList_store_row rfl 23 (.tmp 2) (.tmp 29) rfl w.heap.size zeros6 rfl rfl 23 _ HZ3.out (by kernel_rfl) rfl (by kernel_rfl) ?_)
        refine bodyPost_ret (results_ct rfl _ _ w.heap.size 23 _ (0, 0) _ rfl (setRow_heap _ _ _ _ _ _ HZ3.out) hu23 rfl (by kernel_rfl)) rfl ⟨rfl, below_setRow HB3.out (Nat.le_refl _) _⟩
set_option maxHeartbeats 4000000 in
set_option maxRecDepth 100000 in
theorem hand_Get_no (A0 : Option Addr) (n c0 : Nat) (hl : ¬ (n : Int) = 6) (w : World) :
    Calls Try.prog 13 #[.slice A0 n c0] w fun q w' => q = .returned (.tuple #[.agg zeros6, .bool false]) ∧ Below w.heap.size w w' := by
  have hu23 := Try.underlying23
  have hl2 : ((n : Int) != 6) = true := by simpa using hl
  have HS := Aside0.mk (blk_new2 w (.cells #[.int .i64 0, .int .i64 0, .int .i64 0, .int .i64 0, .int .i64 0, .int .i64 0] 23 (0, 0)) (.cells #[.int .i64 0, .int .i64 0, .int .i64 0, .int .i64 0, .int .i64 0, .int .i64 0] 23 (0, 0)))
  have HZ := Aside0.mk (blk_alloc (blk_new w (.cells #[.int .i64 0, .int .i64 0, .int .i64 0, .int .i64 0, .int .i64 0, .int .i64 0] 23 (0, 0))) (.cells #[.int .i64 0, .int .i64 0, .int .i64 0, .int .i64 0, .int .i64 0, .int .i64 0] 23 (0, 0)))
  go_enter Try.func13, Try.ntmps13
  go_wp2_with (first | ((with_reducible refine gate_dst (N := 10) rfl ?_); refine wpList_load_row rfl 23 (.tmp 4) rfl (w.heap.size + 1) rfl 23 _ (0, 0) _ HS.out hu23 rfl (by kernel_rfl) ?_) | ((with_reducible refine gate_store (t := 23) (p := 2) (v := .tmp 10) rfl ?_); refine wpList_store_row rfl 23 (.tmp 2) (.tmp 10) rfl w.heap.size zeros6 rfl rfl 23 _ HZ.out (by kernel_rfl) rfl (by kernel_rfl) ?_))
  refine bodyPost_ret (results_ct rfl _ _ w.heap.size 23 _ (0, 0) _ rfl (setRow_heap _ _ _ _ _ _ HZ.out) hu23 rfl (by kernel_rfl)) rfl ⟨rfl, below_setRow (below_alloc (below_alloc (Below.refl _ _) _) _) (Nat.le_refl _) _⟩


end Go.Proofs.Ytalcblkdcmigeaa.PA
