/- The walk of the law SpecBack, and the law: what is put is got, what is got is put as the same bytes. -/
import Derived.Test.YtalcblkdcmigeaaPAx0
import Derived.Test.YtalcblkdcmigeaaPAx1
import Derived.Test.YtalcblkdcmigeaaPAx12
import Derived.Test.YtalcblkdcmigeaaPAx3
import Derived.Test.YtalcblkdcmigeaaPAx4
import Derived.Test.YtalcblkdcmigeaaPAx5
import Derived.Test.YtalcblkdcmigeaaPAx7
import Derived.Test.YtalcblkdcmigeaaPartsWalk
import Derived.Test.YtalcblkdcmigeaaPutGetWalk
import Derived.Test.YtalcblkdcmigeaaSpecLib
namespace Go.Proofs.Ytalcblkdcmigeaa.PA
open Go.RowKit Go.Proofs.YtalcblkdcmigeaaW.PrintWords Go.Proofs.YtalcblkdcmigeaaW.PrintLast Go.Proofs.YtalcblkdcmigeaaW.PrintMore
attribute [local go_sem] max2_int min2_int max_two min_two max_three min_three max_four min_four
attribute [local go_sem high] eqA23
set_option linter.unusedVariables false
set_option linter.unusedSimpArgs false

set_option maxHeartbeats 4000000 in
set_option maxRecDepth 100000 in
theorem hand_Back_long (c t x m k e : Int) (A1 : Option Addr) (c1 : Nat) (l1 : List Int) (w : World) (ha : fuseelaw05_awake.f 20 = some true) (hl : 100 < l1.length) :
    Calls Try.prog 6 #[.agg #[.int .i64 c, .int .i64 t, .int .i64 x, .int .i64 m, .int .i64 k, .int .i64 e], .slice A1 l1.length c1] w fun q w' => q = .returned (.bool true) ∧ Below w.heap.size w w' := by
  have hu23 := Try.underlying23
  have HA := Aside0.mk ha
  clear ha
  have hl2 : decide ((100 : Int) < (l1.length : Int)) = true := by simp; omega
  go_enter Try.func6, Try.ntmps6
  go_wp2_with fail
  refine (fuseelaw05_awake.calls 20 true _ HA.out).mono ?_
  rintro q w1 ⟨rfl, hb1⟩
  go_wp2_with fail
  go_ret
  exact ⟨rfl, below_step (below_alloc (Below.refl _ _) _) hb1⟩

set_option maxHeartbeats 8000000 in
set_option maxRecDepth 100000 in
theorem hand_Back_yes_has (c t x m k e : Int) (A1 : Option Addr) (c1 : Nat) (l1 : List Int) (w : World) (ha : fuseelaw05_awake.f 20 = some true) (hl : ¬ 100 < l1.length) (hr1 : Kd.C (Kd.int .u8) w A1 l1.length l1) (hc1 : l1.length ≤ c1) (hm : spec_May.f c t x m k e = some true) (p : List Int) (hp : spec_Put.f c t x m k e = some (p, true)) (hp6 : p.length = 6) (hg : spec_Get.f p = some (c, t, x, m, k, e, true)) (hg7 : spec_Get.f (([] : List Int) ++ p ++ [0]) = some (0, 0, 0, 0, 0, 0, false)) (y0 y1 y2 y3 y4 y5 : Int) (hy : spec_Get.f l1 = some (y0, y1, y2, y3, y4, y5, true)) (z : List Int) (zb : Bool) (hz : spec_Put.f y0 y1 y2 y3 y4 y5 = some (z, zb)) (hzb : zb = true) (hzl : fuseeref05_Bytes.f 20 z l1 = some true) :
    Calls Try.prog 6 #[.agg #[.int .i64 c, .int .i64 t, .int .i64 x, .int .i64 m, .int .i64 k, .int .i64 e], .slice A1 l1.length c1] w fun q w' => q = .returned (.bool true) ∧ Below w.heap.size w w' := by
  have hu23 := Try.underlying23
  subst hzb
  replace ha := Aside0.mk ha
  replace hm := Aside0.mk hm
  replace hp := Aside0.mk hp
  replace hp6 := Aside0.mk hp6
  replace hg := Aside0.mk hg
  replace hg7 := Aside0.mk hg7
  replace hy := Aside0.mk hy
  replace hz := Aside0.mk hz
  replace hr1 := Aside0.mk hr1
  replace hc1 := Aside0.mk hc1
  replace hzl := Aside0.mk hzl
  have hl2 : decide ((100 : Int) < (l1.length : Int)) = false := by simp; omega
  have HS := Aside0.mk (blk_new w (.cells #[.int .i64 c, .int .i64 t, .int .i64 x, .int .i64 m, .int .i64 k, .int .i64 e] 23 (0, 0)))
  have HB := Aside0.mk (below_alloc (Below.refl w.heap.size w) (.cells #[.int .i64 c, .int .i64 t, .int .i64 x, .int .i64 m, .int .i64 k, .int .i64 e] 23 (0, 0)))
  go_enter Try.func6, Try.ntmps6
  go_wp2_with fail
  refine (fuseelaw05_awake.calls 20 true _ ha.out).mono ?_
  rintro q w1 ⟨rfl, hb⟩
  replace HS := Aside0.mk (blk_below HS.out hb)
  replace HB := Aside0.mk (below_step HB.out hb)
  clear hb
  go_wp2_with ((with_reducible refine gate_dst (N := 26) rfl ?_); refine wpList_load_row rfl 23 (.tmp 2) rfl w.heap.size rfl 23 _ (0, 0) _ HS.out hu23 rfl (by kernel_rfl) ?_)
  refine (spec_Put.calls _ _ _ _ _ _ _ _ _ hp.out).mono ?_
  rintro q w2 ⟨v, rfl, hR, hb⟩
  replace HS := Aside0.mk (blk_below HS.out hb)
  replace HB := Aside0.mk (below_step HB.out hb)
  replace hR := Aside0.mk hR
  clear hb
  go_wp2_with ((with_reducible refine gate_dst (N := 31) rfl ?_); refine wpList_load_row rfl 23 (.tmp 2) rfl w.heap.size rfl 23 _ (0, 0) _ HS.out hu23 rfl (by kernel_rfl) ?_)
  refine (spec_May.calls _ _ _ _ _ _ _ _ hm.out).mono ?_
  rintro q w3 ⟨rfl, hb⟩
  replace HS := Aside0.mk (blk_below HS.out hb)
  replace HB := Aside0.mk (below_step HB.out hb)
  replace hR := Aside0.mk (Kd.R_below hR.out hb)
  clear hb
  obtain ⟨Ap, cp, rfl, hle, hC⟩ := Kd.R_reads hR.out
  replace hC := Aside0.mk hC
  replace hle := Aside0.mk hle
  go_wp2_with fail
  refine (spec_Get.calls Ap cp p _ _ _ _ _ _ _ _ hC.out hle.out hg.out).mono ?_
  rintro q w4 ⟨rfl, hb⟩
  replace HS := Aside0.mk (blk_below HS.out hb)
  replace HB := Aside0.mk (below_step HB.out hb)
  replace hC := Aside0.mk (Kd.C_below hC.out hb)
  clear hb hR
  have HX := Aside0.mk (blk_new w4 (.cells #[.int .i64 c, .int .i64 t, .int .i64 x, .int .i64 m, .int .i64 k, .int .i64 e] 23 (0, 0)))
  replace HS := Aside0.mk (blk_alloc HS.out (.cells #[.int .i64 c, .int .i64 t, .int .i64 x, .int .i64 m, .int .i64 k, .int .i64 e] 23 (0, 0)))
  replace HB := Aside0.mk (below_alloc HB.out (.cells #[.int .i64 c, .int .i64 t, .int .i64 x, .int .i64 m, .int .i64 k, .int .i64 e] 23 (0, 0)))
  replace hC := Aside0.mk (Kd.C_below hC.out (below_alloc (Below.refl w4.heap.size w4) (.cells #[.int .i64 c, .int .i64 t, .int .i64 x, .int .i64 m, .int .i64 k, .int .i64 e] 23 (0, 0))))
  go_wp2_with (first | ((with_reducible refine gate_builtin (b := .append) (xs := #[.const (.slice none 0 0), .tmp 41]) rfl ?_); at_builtin; refine Kd.R_append_row (Value.int .u8) 0 (h1 := fun _ => rfl) (w0 := w) w.heap.size rfl (.const (.slice none 0 0)) (.tmp 41) 30 5 (.int .u8 0) 1 rfl Try.underlying30 info5 rfl (by decide) (.slice none 0 0) [] p Ap p.length cp (fun k => k ≠ w.heap.size ∧ k ≠ w4.heap.size) rfl rfl ?aF (Kd.R_nil _ _ _ _ _) ?aR ?aB ?aS ?aL ?_; (case aR => exact hC.out); (case aB => exact HB.out); (case aS => exact HB.out.size); (case aL => have := hp6.out; simp; omega); (case aF => exact fun k hk => ⟨Nat.ne_of_gt (Nat.lt_of_lt_of_le (blk_lt HS.out) hk), Nat.ne_of_gt (Nat.lt_of_lt_of_le (blk_lt HX.out) hk)⟩); intro v6 w6 hr6 hb6 hg6 _; have HS6 := Aside0.mk (blk_grown HS.out hg6 (by simp [Value.ownBlock])); have HX6 := Aside0.mk (blk_grown HX.out hg6 (by simp [Value.ownBlock])); have HR6 := Aside0.mk hr6; have HB6 := Aside0.mk hb6; clear hr6 hb6 hg6 HS HX HB) | ((with_reducible refine gate_builtin (b := .append) (xs := #[.tmp 42, .tmp 43]) rfl ?_); at_builtin; refine Kd.R_append (Kd.int .u8) (w0 := w) w.heap.size rfl (.tmp 42) (.tmp 43) 30 5 (.int .u8 0) 1 rfl Try.underlying30 info5 rfl (by decide) (by omega) v6 ([] ++ p) 0 [.int .u8 0] (fun k => k ≠ w.heap.size ∧ k ≠ w4.heap.size) (fun _ => False) rfl rfl rfl (fun _ hk => hk.elim) ?bF HR6.out HB6.out HB6.out.size ?bL ?_; (case bL => have := hp6.out; simp; omega); (case bF => exact fun k hk => ⟨Nat.ne_of_gt (Nat.lt_of_lt_of_le (blk_lt HS6.out) hk), Nat.ne_of_gt (Nat.lt_of_lt_of_le (blk_lt HX6.out) hk)⟩); intro v7 w7 hr7 hb7 hg7 _; have HS := Aside0.mk (blk_grown HS6.out hg7 (fun e => (HR6.out.1 _ e.symm).1 rfl)); have HX := Aside0.mk (blk_grown HX6.out hg7 (fun e => (HR6.out.1 _ e.symm).2 rfl)); have HR := Aside0.mk hr7; have HB := Aside0.mk hb7; clear hr7 hb7 hg7 HS6 HX6 HB6 HR6))
  obtain ⟨Aq, cq, rfl, hle2, hC2⟩ := Kd.R_reads HR.out
  replace hC2 := Aside0.mk hC2
  replace hle2 := Aside0.mk hle2
  refine (spec_Get.calls Aq cq ([] ++ p ++ [0]) _ _ _ _ _ _ _ _ hC2.out hle2.out hg7.out).mono ?_
  rintro q w8 ⟨rfl, hb⟩
  replace HS := Aside0.mk (blk_below HS.out hb)
  replace HX := Aside0.mk (blk_below HX.out hb)
  replace HB := Aside0.mk (below_step HB.out hb)
  clear hb HR hC hC2
  have hp6' : ((p.length : Int) != 6) = false := by have := hp6.out; simp; omega
  go_wp2_with (first | ((with_reducible refine gate_dst (N := 51) rfl ?_); (refine gate_guard (by rfl) ?_; dsimp only); refine wpList_load_row rfl 23 (.tmp 8) rfl w4.heap.size rfl 23 _ (0, 0) _ (blk_alloc HX.out _) hu23 rfl (by kernel_rfl) ?_) | ((with_reducible refine gate_dst (N := 52) rfl ?_); (refine gate_guard (by rfl) ?_; dsimp only); refine wpList_load_row rfl 23 (.tmp 2) rfl w.heap.size rfl 23 _ (0, 0) _ (blk_alloc HS.out _) hu23 rfl (by kernel_rfl) ?_))
  replace HB := Aside0.mk (below_alloc HB.out (.cells #[.int .i64 0, .int .i64 0, .int .i64 0, .int .i64 0, .int .i64 0, .int .i64 0] 23 (0, 0)))
  refine (spec_Get.calls A1 c1 l1 _ _ _ _ _ _ _ _ (Kd.C_below hr1.out HB.out) hc1.out hy.out).mono ?_
  rintro q w9 ⟨rfl, hb⟩
  replace HB := Aside0.mk (below_step HB.out hb)
  replace HS := Aside0.mk (blk_new w9 (.cells #[.int .i64 y0, .int .i64 y1, .int .i64 y2, .int .i64 y3, .int .i64 y4, .int .i64 y5] 23 (0, 0)))
  have HB9 := Aside0.mk (below_alloc HB.out (.cells #[.int .i64 y0, .int .i64 y1, .int .i64 y2, .int .i64 y3, .int .i64 y4, .int .i64 y5] 23 (0, 0)))
  clear hb
  go_wp2_with ((with_reducible refine gate_dst (N := 69) rfl ?_); refine wpList_load_row rfl 23 (.tmp 12) rfl w9.heap.size rfl 23 _ (0, 0) _ HS.out hu23 rfl (by kernel_rfl) ?_)
  refine (spec_Put.calls _ _ _ _ _ _ _ _ _ hz.out).mono ?_
  rintro q w10 ⟨vz, rfl, hR, hb⟩
  replace HB9 := Aside0.mk (below_step HB9.out hb)
  clear hb
  obtain ⟨Az, cz, rfl, hlz, hCz⟩ := Kd.R_reads hR
  go_wp2_with fail
  refine (fuseeref05_Bytes.calls 20 Az cz z A1 c1 l1 true _ hCz hlz (Kd.C_below hr1.out HB9.out) hc1.out hzl.out).mono ?_
  rintro q w11 ⟨rfl, ⟨nd, rfl⟩⟩
  go_wp2_with fail
  go_ret
  exact ⟨by first | rfl | simp, pw_below_drewN HB9.out nd⟩

set_option maxHeartbeats 8000000 in
set_option maxRecDepth 100000 in
theorem hand_Back_yes_not (c t x m k e : Int) (A1 : Option Addr) (c1 : Nat) (l1 : List Int) (w : World) (ha : fuseelaw05_awake.f 20 = some true) (hl : ¬ 100 < l1.length) (hr1 : Kd.C (Kd.int .u8) w A1 l1.length l1) (hc1 : l1.length ≤ c1) (hm : spec_May.f c t x m k e = some true) (p : List Int) (hp : spec_Put.f c t x m k e = some (p, true)) (hp6 : p.length = 6) (hg : spec_Get.f p = some (c, t, x, m, k, e, true)) (hg7 : spec_Get.f (([] : List Int) ++ p ++ [0]) = some (0, 0, 0, 0, 0, 0, false)) (y0 y1 y2 y3 y4 y5 : Int) (hy : spec_Get.f l1 = some (y0, y1, y2, y3, y4, y5, false)) (z : List Int) (zb : Bool) (hz : spec_Put.f y0 y1 y2 y3 y4 y5 = some (z, zb)) :
    Calls Try.prog 6 #[.agg #[.int .i64 c, .int .i64 t, .int .i64 x, .int .i64 m, .int .i64 k, .int .i64 e], .slice A1 l1.length c1] w fun q w' => q = .returned (.bool true) ∧ Below w.heap.size w w' := by
  have hu23 := Try.underlying23
  replace ha := Aside0.mk ha
  replace hm := Aside0.mk hm
  replace hp := Aside0.mk hp
  replace hp6 := Aside0.mk hp6
  replace hg := Aside0.mk hg
  replace hg7 := Aside0.mk hg7
  replace hy := Aside0.mk hy
  replace hz := Aside0.mk hz
  replace hr1 := Aside0.mk hr1
  replace hc1 := Aside0.mk hc1
  have hl2 : decide ((100 : Int) < (l1.length : Int)) = false := by simp; omega
  have HS := Aside0.mk (blk_new w (.cells #[.int .i64 c, .int .i64 t, .int .i64 x, .int .i64 m, .int .i64 k, .int .i64 e] 23 (0, 0)))
  have HB := Aside0.mk (below_alloc (Below.refl w.heap.size w) (.cells #[.int .i64 c, .int .i64 t, .int .i64 x, .int .i64 m, .int .i64 k, .int .i64 e] 23 (0, 0)))
  go_enter Try.func6, Try.ntmps6
  go_wp2_with fail
  refine (fuseelaw05_awake.calls 20 true _ ha.out).mono ?_
  rintro q w1 ⟨rfl, hb⟩
  replace HS := Aside0.mk (blk_below HS.out hb)
  replace HB := Aside0.mk (below_step HB.out hb)
  clear hb
  go_wp2_with ((with_reducible refine gate_dst (N := 26) rfl ?_); refine wpList_load_row rfl 23 (.tmp 2) rfl w.heap.size rfl 23 _ (0, 0) _ HS.out hu23 rfl (by kernel_rfl) ?_)
  refine (spec_Put.calls _ _ _ _ _ _ _ _ _ hp.out).mono ?_
  rintro q w2 ⟨v, rfl, hR, hb⟩
  replace HS := Aside0.mk (blk_below HS.out hb)
  replace HB := Aside0.mk (below_step HB.out hb)
  replace hR := Aside0.mk hR
  clear hb
  go_wp2_with ((with_reducible refine gate_dst (N := 31) rfl ?_); refine wpList_load_row rfl 23 (.tmp 2) rfl w.heap.size rfl 23 _ (0, 0) _ HS.out hu23 rfl (by kernel_rfl) ?_)
  refine (spec_May.calls _ _ _ _ _ _ _ _ hm.out).mono ?_
  rintro q w3 ⟨rfl, hb⟩
  replace HS := Aside0.mk (blk_below HS.out hb)
  replace HB := Aside0.mk (below_step HB.out hb)
  replace hR := Aside0.mk (Kd.R_below hR.out hb)
  clear hb
  obtain ⟨Ap, cp, rfl, hle, hC⟩ := Kd.R_reads hR.out
  replace hC := Aside0.mk hC
  replace hle := Aside0.mk hle
  go_wp2_with fail
  refine (spec_Get.calls Ap cp p _ _ _ _ _ _ _ _ hC.out hle.out hg.out).mono ?_
  rintro q w4 ⟨rfl, hb⟩
  replace HS := Aside0.mk (blk_below HS.out hb)
  replace HB := Aside0.mk (below_step HB.out hb)
  replace hC := Aside0.mk (Kd.C_below hC.out hb)
  clear hb hR
  have HX := Aside0.mk (blk_new w4 (.cells #[.int .i64 c, .int .i64 t, .int .i64 x, .int .i64 m, .int .i64 k, .int .i64 e] 23 (0, 0)))
  replace HS := Aside0.mk (blk_alloc HS.out (.cells #[.int .i64 c, .int .i64 t, .int .i64 x, .int .i64 m, .int .i64 k, .int .i64 e] 23 (0, 0)))
  replace HB := Aside0.mk (below_alloc HB.out (.cells #[.int .i64 c, .int .i64 t, .int .i64 x, .int .i64 m, .int .i64 k, .int .i64 e] 23 (0, 0)))
  replace hC := Aside0.mk (Kd.C_below hC.out (below_alloc (Below.refl w4.heap.size w4) (.cells #[.int .i64 c, .int .i64 t, .int .i64 x, .int .i64 m, .int .i64 k, .int .i64 e] 23 (0, 0))))
  go_wp2_with (first | ((with_reducible refine gate_builtin (b := .append) (xs := #[.const (.slice none 0 0), .tmp 41]) rfl ?_); at_builtin; refine Kd.R_append_row (Value.int .u8) 0 (h1 := fun _ => rfl) (w0 := w) w.heap.size rfl (.const (.slice none 0 0)) (.tmp 41) 30 5 (.int .u8 0) 1 rfl Try.underlying30 info5 rfl (by decide) (.slice none 0 0) [] p Ap p.length cp (fun k => k ≠ w.heap.size ∧ k ≠ w4.heap.size) rfl rfl ?aF (Kd.R_nil _ _ _ _ _) ?aR ?aB ?aS ?aL ?_; (case aR => exact hC.out); (case aB => exact HB.out); (case aS => exact HB.out.size); (case aL => have := hp6.out; simp; omega); (case aF => exact fun k hk => ⟨Nat.ne_of_gt (Nat.lt_of_lt_of_le (blk_lt HS.out) hk), Nat.ne_of_gt (Nat.lt_of_lt_of_le (blk_lt HX.out) hk)⟩); intro v6 w6 hr6 hb6 hg6 _; have HS6 := Aside0.mk (blk_grown HS.out hg6 (by simp [Value.ownBlock])); have HX6 := Aside0.mk (blk_grown HX.out hg6 (by simp [Value.ownBlock])); have HR6 := Aside0.mk hr6; have HB6 := Aside0.mk hb6; clear hr6 hb6 hg6 HS HX HB) | ((with_reducible refine gate_builtin (b := .append) (xs := #[.tmp 42, .tmp 43]) rfl ?_); at_builtin; refine Kd.R_append (Kd.int .u8) (w0 := w) w.heap.size rfl (.tmp 42) (.tmp 43) 30 5 (.int .u8 0) 1 rfl Try.underlying30 info5 rfl (by decide) (by omega) v6 ([] ++ p) 0 [.int .u8 0] (fun k => k ≠ w.heap.size ∧ k ≠ w4.heap.size) (fun _ => False) rfl rfl rfl (fun _ hk => hk.elim) ?bF HR6.out HB6.out HB6.out.size ?bL ?_; (case bL => have := hp6.out; simp; omega); (case bF => exact fun k hk => ⟨Nat.ne_of_gt (Nat.lt_of_lt_of_le (blk_lt HS6.out) hk), Nat.ne_of_gt (Nat.lt_of_lt_of_le (blk_lt HX6.out) hk)⟩); intro v7 w7 hr7 hb7 hg7 _; have HS := Aside0.mk (blk_grown HS6.out hg7 (fun e => (HR6.out.1 _ e.symm).1 rfl)); have HX := Aside0.mk (blk_grown HX6.out hg7 (fun e => (HR6.out.1 _ e.symm).2 rfl)); have HR := Aside0.mk hr7; have HB := Aside0.mk hb7; clear hr7 hb7 hg7 HS6 HX6 HB6 HR6))
  obtain ⟨Aq, cq, rfl, hle2, hC2⟩ := Kd.R_reads HR.out
  replace hC2 := Aside0.mk hC2
  replace hle2 := Aside0.mk hle2
  refine (spec_Get.calls Aq cq ([] ++ p ++ [0]) _ _ _ _ _ _ _ _ hC2.out hle2.out hg7.out).mono ?_
  rintro q w8 ⟨rfl, hb⟩
  replace HS := Aside0.mk (blk_below HS.out hb)
  replace HX := Aside0.mk (blk_below HX.out hb)
  replace HB := Aside0.mk (below_step HB.out hb)
  clear hb HR hC hC2
  have hp6' : ((p.length : Int) != 6) = false := by have := hp6.out; simp; omega
  go_wp2_with (first | ((with_reducible refine gate_dst (N := 51) rfl ?_); (refine gate_guard (by rfl) ?_; dsimp only); refine wpList_load_row rfl 23 (.tmp 8) rfl w4.heap.size rfl 23 _ (0, 0) _ (blk_alloc HX.out _) hu23 rfl (by kernel_rfl) ?_) | ((with_reducible refine gate_dst (N := 52) rfl ?_); (refine gate_guard (by rfl) ?_; dsimp only); refine wpList_load_row rfl 23 (.tmp 2) rfl w.heap.size rfl 23 _ (0, 0) _ (blk_alloc HS.out _) hu23 rfl (by kernel_rfl) ?_))
  replace HB := Aside0.mk (below_alloc HB.out (.cells #[.int .i64 0, .int .i64 0, .int .i64 0, .int .i64 0, .int .i64 0, .int .i64 0] 23 (0, 0)))
  refine (spec_Get.calls A1 c1 l1 _ _ _ _ _ _ _ _ (Kd.C_below hr1.out HB.out) hc1.out hy.out).mono ?_
  rintro q w9 ⟨rfl, hb⟩
  replace HB := Aside0.mk (below_step HB.out hb)
  replace HS := Aside0.mk (blk_new w9 (.cells #[.int .i64 y0, .int .i64 y1, .int .i64 y2, .int .i64 y3, .int .i64 y4, .int .i64 y5] 23 (0, 0)))
  have HB9 := Aside0.mk (below_alloc HB.out (.cells #[.int .i64 y0, .int .i64 y1, .int .i64 y2, .int .i64 y3, .int .i64 y4, .int .i64 y5] 23 (0, 0)))
  clear hb
  go_wp2_with ((with_reducible refine gate_dst (N := 69) rfl ?_); refine wpList_load_row rfl 23 (.tmp 12) rfl w9.heap.size rfl 23 _ (0, 0) _ HS.out hu23 rfl (by kernel_rfl) ?_)
  refine (spec_Put.calls _ _ _ _ _ _ _ _ _ hz.out).mono ?_
  rintro q w10 ⟨vz, rfl, hR, hb⟩
  replace HB9 := Aside0.mk (below_step HB9.out hb)
  clear hb
  go_wp2_with fail
  go_ret
  exact ⟨by first | rfl | simp, HB9.out⟩

set_option maxHeartbeats 8000000 in
set_option maxRecDepth 100000 in
theorem hand_Back_no_has (c t x m k e : Int) (A1 : Option Addr) (c1 : Nat) (l1 : List Int) (w : World) (ha : fuseelaw05_awake.f 20 = some true) (hl : ¬ 100 < l1.length) (hr1 : Kd.C (Kd.int .u8) w A1 l1.length l1) (hc1 : l1.length ≤ c1) (hm : spec_May.f c t x m k e = some false) (p : List Int) (hp : spec_Put.f c t x m k e = some (p, false)) (y0 y1 y2 y3 y4 y5 : Int) (hy : spec_Get.f l1 = some (y0, y1, y2, y3, y4, y5, true)) (z : List Int) (zb : Bool) (hz : spec_Put.f y0 y1 y2 y3 y4 y5 = some (z, zb)) (hzb : zb = true) (hzl : fuseeref05_Bytes.f 20 z l1 = some true) :
    Calls Try.prog 6 #[.agg #[.int .i64 c, .int .i64 t, .int .i64 x, .int .i64 m, .int .i64 k, .int .i64 e], .slice A1 l1.length c1] w fun q w' => q = .returned (.bool true) ∧ Below w.heap.size w w' := by
  have hu23 := Try.underlying23
  subst hzb
  replace ha := Aside0.mk ha
  replace hm := Aside0.mk hm
  replace hp := Aside0.mk hp
  replace hy := Aside0.mk hy
  replace hz := Aside0.mk hz
  replace hr1 := Aside0.mk hr1
  replace hc1 := Aside0.mk hc1
  replace hzl := Aside0.mk hzl
  have hl2 : decide ((100 : Int) < (l1.length : Int)) = false := by simp; omega
  have HS := Aside0.mk (blk_new w (.cells #[.int .i64 c, .int .i64 t, .int .i64 x, .int .i64 m, .int .i64 k, .int .i64 e] 23 (0, 0)))
  have HB := Aside0.mk (below_alloc (Below.refl w.heap.size w) (.cells #[.int .i64 c, .int .i64 t, .int .i64 x, .int .i64 m, .int .i64 k, .int .i64 e] 23 (0, 0)))
  go_enter Try.func6, Try.ntmps6
  go_wp2_with fail
  refine (fuseelaw05_awake.calls 20 true _ ha.out).mono ?_
  rintro q w1 ⟨rfl, hb⟩
  replace HS := Aside0.mk (blk_below HS.out hb)
  replace HB := Aside0.mk (below_step HB.out hb)
  clear hb
  go_wp2_with ((with_reducible refine gate_dst (N := 26) rfl ?_); refine wpList_load_row rfl 23 (.tmp 2) rfl w.heap.size rfl 23 _ (0, 0) _ HS.out hu23 rfl (by kernel_rfl) ?_)
  refine (spec_Put.calls _ _ _ _ _ _ _ _ _ hp.out).mono ?_
  rintro q w2 ⟨v, rfl, hR, hb⟩
  replace HS := Aside0.mk (blk_below HS.out hb)
  replace HB := Aside0.mk (below_step HB.out hb)
  replace hR := Aside0.mk hR
  clear hb
  go_wp2_with ((with_reducible refine gate_dst (N := 31) rfl ?_); refine wpList_load_row rfl 23 (.tmp 2) rfl w.heap.size rfl 23 _ (0, 0) _ HS.out hu23 rfl (by kernel_rfl) ?_)
  refine (spec_May.calls _ _ _ _ _ _ _ _ hm.out).mono ?_
  rintro q w3 ⟨rfl, hb⟩
  replace HS := Aside0.mk (blk_below HS.out hb)
  replace HB := Aside0.mk (below_step HB.out hb)
  replace hR := Aside0.mk (Kd.R_below hR.out hb)
  clear hb
  go_wp2_with fail
  refine (spec_Get.calls A1 c1 l1 _ _ _ _ _ _ _ _ (Kd.C_below hr1.out HB.out) hc1.out hy.out).mono ?_
  rintro q w9 ⟨rfl, hb⟩
  replace HB := Aside0.mk (below_step HB.out hb)
  replace HS := Aside0.mk (blk_new w9 (.cells #[.int .i64 y0, .int .i64 y1, .int .i64 y2, .int .i64 y3, .int .i64 y4, .int .i64 y5] 23 (0, 0)))
  have HB9 := Aside0.mk (below_alloc HB.out (.cells #[.int .i64 y0, .int .i64 y1, .int .i64 y2, .int .i64 y3, .int .i64 y4, .int .i64 y5] 23 (0, 0)))
  clear hb
  go_wp2_with ((with_reducible refine gate_dst (N := 69) rfl ?_); refine wpList_load_row rfl 23 (.tmp 12) rfl w9.heap.size rfl 23 _ (0, 0) _ HS.out hu23 rfl (by kernel_rfl) ?_)
  refine (spec_Put.calls _ _ _ _ _ _ _ _ _ hz.out).mono ?_
  rintro q w10 ⟨vz, rfl, hR, hb⟩
  replace HB9 := Aside0.mk (below_step HB9.out hb)
  clear hb
  obtain ⟨Az, cz, rfl, hlz, hCz⟩ := Kd.R_reads hR
  go_wp2_with fail
  refine (fuseeref05_Bytes.calls 20 Az cz z A1 c1 l1 true _ hCz hlz (Kd.C_below hr1.out HB9.out) hc1.out hzl.out).mono ?_
  rintro q w11 ⟨rfl, ⟨nd, rfl⟩⟩
  go_wp2_with fail
  go_ret
  exact ⟨by first | rfl | simp, pw_below_drewN HB9.out nd⟩

set_option maxHeartbeats 8000000 in
set_option maxRecDepth 100000 in
theorem hand_Back_no_not (c t x m k e : Int) (A1 : Option Addr) (c1 : Nat) (l1 : List Int) (w : World) (ha : fuseelaw05_awake.f 20 = some true) (hl : ¬ 100 < l1.length) (hr1 : Kd.C (Kd.int .u8) w A1 l1.length l1) (hc1 : l1.length ≤ c1) (hm : spec_May.f c t x m k e = some false) (p : List Int) (hp : spec_Put.f c t x m k e = some (p, false)) (y0 y1 y2 y3 y4 y5 : Int) (hy : spec_Get.f l1 = some (y0, y1, y2, y3, y4, y5, false)) (z : List Int) (zb : Bool) (hz : spec_Put.f y0 y1 y2 y3 y4 y5 = some (z, zb)) :
    Calls Try.prog 6 #[.agg #[.int .i64 c, .int .i64 t, .int .i64 x, .int .i64 m, .int .i64 k, .int .i64 e], .slice A1 l1.length c1] w fun q w' => q = .returned (.bool true) ∧ Below w.heap.size w w' := by
  have hu23 := Try.underlying23
  replace ha := Aside0.mk ha
  replace hm := Aside0.mk hm
  replace hp := Aside0.mk hp
  replace hy := Aside0.mk hy
  replace hz := Aside0.mk hz
  replace hr1 := Aside0.mk hr1
  replace hc1 := Aside0.mk hc1
  have hl2 : decide ((100 : Int) < (l1.length : Int)) = false := by simp; omega
  have HS := Aside0.mk (blk_new w (.cells #[.int .i64 c, .int .i64 t, .int .i64 x, .int .i64 m, .int .i64 k, .int .i64 e] 23 (0, 0)))
  have HB := Aside0.mk (below_alloc (Below.refl w.heap.size w) (.cells #[.int .i64 c, .int .i64 t, .int .i64 x, .int .i64 m, .int .i64 k, .int .i64 e] 23 (0, 0)))
  go_enter Try.func6, Try.ntmps6
  go_wp2_with fail
  refine (fuseelaw05_awake.calls 20 true _ ha.out).mono ?_
  rintro q w1 ⟨rfl, hb⟩
  replace HS := Aside0.mk (blk_below HS.out hb)
  replace HB := Aside0.mk (below_step HB.out hb)
  clear hb
  go_wp2_with ((with_reducible refine gate_dst (N := 26) rfl ?_); refine wpList_load_row rfl 23 (.tmp 2) rfl w.heap.size rfl 23 _ (0, 0) _ HS.out hu23 rfl (by kernel_rfl) ?_)
  refine (spec_Put.calls _ _ _ _ _ _ _ _ _ hp.out).mono ?_
  rintro q w2 ⟨v, rfl, hR, hb⟩
  replace HS := Aside0.mk (blk_below HS.out hb)
  replace HB := Aside0.mk (below_step HB.out hb)
  replace hR := Aside0.mk hR
  clear hb
  go_wp2_with ((with_reducible refine gate_dst (N := 31) rfl ?_); refine wpList_load_row rfl 23 (.tmp 2) rfl w.heap.size rfl 23 _ (0, 0) _ HS.out hu23 rfl (by kernel_rfl) ?_)
  refine (spec_May.calls _ _ _ _ _ _ _ _ hm.out).mono ?_
  rintro q w3 ⟨rfl, hb⟩
  replace HS := Aside0.mk (blk_below HS.out hb)
  replace HB := Aside0.mk (below_step HB.out hb)
  replace hR := Aside0.mk (Kd.R_below hR.out hb)
  clear hb
  go_wp2_with fail
  refine (spec_Get.calls A1 c1 l1 _ _ _ _ _ _ _ _ (Kd.C_below hr1.out HB.out) hc1.out hy.out).mono ?_
  rintro q w9 ⟨rfl, hb⟩
  replace HB := Aside0.mk (below_step HB.out hb)
  replace HS := Aside0.mk (blk_new w9 (.cells #[.int .i64 y0, .int .i64 y1, .int .i64 y2, .int .i64 y3, .int .i64 y4, .int .i64 y5] 23 (0, 0)))
  have HB9 := Aside0.mk (below_alloc HB.out (.cells #[.int .i64 y0, .int .i64 y1, .int .i64 y2, .int .i64 y3, .int .i64 y4, .int .i64 y5] 23 (0, 0)))
  clear hb
  go_wp2_with ((with_reducible refine gate_dst (N := 69) rfl ?_); refine wpList_load_row rfl 23 (.tmp 12) rfl w9.heap.size rfl 23 _ (0, 0) _ HS.out hu23 rfl (by kernel_rfl) ?_)
  refine (spec_Put.calls _ _ _ _ _ _ _ _ _ hz.out).mono ?_
  rintro q w10 ⟨vz, rfl, hR, hb⟩
  replace HB9 := Aside0.mk (below_step HB9.out hb)
  clear hb
  go_wp2_with fail
  go_ret
  exact ⟨by first | rfl | simp, HB9.out⟩



theorem get_of (l : List Int) (hl : l.length = 6) (hw : ∀ x ∈ l, (Lit.int .u8 x).wf = true) : ∃ y0 y1 y2 y3 y4 y5 : Int, l = [y0, y1, y2, y3, y4, y5] ∧ (0 ≤ y0 ∧ y0 ≤ 255) ∧ (0 ≤ y1 ∧ y1 ≤ 255) ∧ (0 ≤ y2 ∧ y2 ≤ 255) ∧ (0 ≤ y3 ∧ y3 ≤ 255) ∧ (0 ≤ y4 ∧ y4 ≤ 255) ∧ (0 ≤ y5 ∧ y5 ≤ 255) := by
  match l, hl with
  | [y0, y1, y2, y3, y4, y5], _ =>
    exact ⟨y0, y1, y2, y3, y4, y5, rfl, wf_byte (hw _ (by simp)), wf_byte (hw _ (by simp)), wf_byte (hw _ (by simp)), wf_byte (hw _ (by simp)), wf_byte (hw _ (by simp)), wf_byte (hw _ (by simp))⟩
theorem get_six (y0 y1 y2 y3 y4 y5 : Int) (h0 : 0 ≤ y0 ∧ y0 ≤ 255) (h1 : 0 ≤ y1 ∧ y1 ≤ 255) (h2 : 0 ≤ y2 ∧ y2 ≤ 255) (h3 : 0 ≤ y3 ∧ y3 ≤ 255) (h4 : 0 ≤ y4 ∧ y4 ≤ 255) (h5 : 0 ≤ y5 ∧ y5 ≤ 255) :
    spec_Get.f [y0, y1, y2, y3, y4, y5] = some (if mayP y0 y1 y2 y3 y4 y5 then (y0, y1, y2, y3, y4, y5, true) else (0, 0, 0, 0, 0, 0, false)) := by
  have e0 : rd [y0, y1, y2, y3, y4, y5] 0 = y0 := rfl
  have e1 : rd [y0, y1, y2, y3, y4, y5] 1 = y1 := rfl
  have e2 : rd [y0, y1, y2, y3, y4, y5] 2 = y2 := rfl
  have e3 : rd [y0, y1, y2, y3, y4, y5] 3 = y3 := rfl
  have e4 : rd [y0, y1, y2, y3, y4, y5] 4 = y4 := rfl
  have e5 : rd [y0, y1, y2, y3, y4, y5] 5 = y5 := rfl
  unfold spec_Get.f
  rw [if_pos (by simp), if_pos (by simp), if_pos (by simp), if_pos (by simp), if_pos (by simp), if_pos (by simp), if_pos (by simp), e0, e1, e2, e3, e4, e5,
    hw_in y0 (by omega) (by omega), hw_in y1 (by omega) (by omega), hw_in y2 (by omega) (by omega), hw_in y3 (by omega) (by omega), hw_in y4 (by omega) (by omega), hw_in y5 (by omega) (by omega), may_f]
  by_cases h : mayP y0 y1 y2 y3 y4 y5 <;> simp [h]
theorem get_other (l : List Int) (hl : ¬ (l.length : Int) = 6) : spec_Get.f l = some (0, 0, 0, 0, 0, 0, false) := by
  unfold spec_Get.f; rw [if_neg hl]
/-- What is got, and what that is put as. -/
theorem got_put (l : List Int) (hw : ∀ x ∈ l, (Lit.int .u8 x).wf = true) : (∃ y0 y1 y2 y3 y4 y5 : Int, spec_Get.f l = some (y0, y1, y2, y3, y4, y5, true) ∧ spec_Put.f y0 y1 y2 y3 y4 y5 = some (l, true) ∧ fuseeref05_Bytes.f 20 l l = some true) ∨
    (spec_Get.f l = some (0, 0, 0, 0, 0, 0, false) ∧ spec_Put.f 0 0 0 0 0 0 = some ([], false)) := by
  have hz : spec_Put.f 0 0 0 0 0 0 = some ([], false) := by rw [put_f, if_neg (by unfold mayP; omega)]
  by_cases hl : l.length = 6
  · obtain ⟨y0, y1, y2, y3, y4, y5, rfl, h0, h1, h2, h3, h4, h5⟩ := get_of l hl hw
    have hg := get_six y0 y1 y2 y3 y4 y5 h0 h1 h2 h3 h4 h5
    by_cases h : mayP y0 y1 y2 y3 y4 y5
    · rw [if_pos h] at hg
      refine Or.inl ⟨_, _, _, _, _, _, hg, ?_, ?_⟩
      · obtain ⟨b1, b2, b3, b4, b5, b6⟩ := may_mod h
        rw [put_f, if_pos h, b1, b2, b3, b4, b5, b6]
      · rw [bytes_f _ _ 20 (by simp) (by simp)]; simp
    · rw [if_neg h] at hg
      exact Or.inr ⟨hg, hz⟩
  · exact Or.inr ⟨get_other l (by omega), hz⟩
theorem hand_SpecBack (c t x m k e : Int) (A1 : Option Addr) (c1 : Nat) (l1 : List Int) (w : World) (_ : (Lit.int .i64 c).wf = true) (_ : (Lit.int .i64 t).wf = true) (_ : (Lit.int .i64 x).wf = true) (_ : (Lit.int .i64 m).wf = true) (_ : (Lit.int .i64 k).wf = true) (_ : (Lit.int .i64 e).wf = true)
    (hr : ReadsInt w .u8 A1 l1.length l1) (hc : l1.length ≤ c1) (hw : ∀ x ∈ l1, (Lit.int .u8 x).wf = true) (_ : l1.length * 1 ≤ 140737488351232) :
    Calls Try.prog 6 #[.agg #[.int .i64 c, .int .i64 t, .int .i64 x, .int .i64 m, .int .i64 k, .int .i64 e], .slice A1 l1.length c1] w fun q w' => q = .returned (.bool true) ∧ Below w.heap.size w w' := by
  have ha := awake_f 20 (by omega)
  have hC : Kd.C (Kd.int .u8) w A1 l1.length l1 := Kd.C_of_reads (d := (0 : Int)) (h1 := fun _ => rfl) hr
  by_cases hl : 100 < l1.length
  · exact hand_Back_long c t x m k e A1 c1 l1 w ha hl
  · by_cases hm : mayP c t x m k e
    · have hmf : spec_May.f c t x m k e = some true := by rw [may_f]; simp [hm]
      obtain ⟨b1, b2, b3, b4, b5, b6⟩ := may_mod hm
      have hp : spec_Put.f c t x m k e = some ([c, t, x, m, k, e], true) := by rw [put_f, if_pos hm, b1, b2, b3, b4, b5, b6]
      have hm' := hm
      unfold mayP at hm'
      have hg := get_six c t x m k e (by omega) (by omega) (by omega) (by omega) (by omega) (by omega)
      rw [if_pos hm] at hg
      have hg7 : spec_Get.f (([] : List Int) ++ [c, t, x, m, k, e] ++ [0]) = some (0, 0, 0, 0, 0, 0, false) := get_other _ (by simp)
      rcases got_put l1 hw with ⟨y0, y1, y2, y3, y4, y5, q1, q2, q3⟩ | ⟨q1, q2⟩
      · exact hand_Back_yes_has c t x m k e A1 c1 l1 w ha hl hC hc hmf _ hp (by simp) hg hg7 y0 y1 y2 y3 y4 y5 q1 l1 true q2 rfl q3
      · exact hand_Back_yes_not c t x m k e A1 c1 l1 w ha hl hC hc hmf _ hp (by simp) hg hg7 0 0 0 0 0 0 q1 [] false q2
    · have hmf : spec_May.f c t x m k e = some false := by rw [may_f]; simp [hm]
      have hp : spec_Put.f c t x m k e = some ([], false) := by rw [put_f, if_neg hm]
      rcases got_put l1 hw with ⟨y0, y1, y2, y3, y4, y5, q1, q2, q3⟩ | ⟨q1, q2⟩
      · exact hand_Back_no_has c t x m k e A1 c1 l1 w ha hl hC hc hmf _ hp y0 y1 y2 y3 y4 y5 q1 l1 true q2 rfl q3
      · exact hand_Back_no_not c t x m k e A1 c1 l1 w ha hl hC hc hmf _ hp 0 0 0 0 0 0 q1 [] false q2
end Go.Proofs.Ytalcblkdcmigeaa.PA
