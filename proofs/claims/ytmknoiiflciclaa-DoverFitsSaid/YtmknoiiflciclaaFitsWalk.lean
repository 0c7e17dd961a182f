/- The law DoverFits, walked. -/
import Derived.Test.YtmknoiiflciclaaDoverE
import Derived.Test.YtmknoiiflciclaaDoverFit
import Derived.Test.YtmknoiiflciclaaDoverFitsA
import Derived.Test.YtmknoiiflciclaaDoverOrder
import Derived.Test.YtmknoiiflciclaaDoverSpec
import Derived.Test.YtmknoiiflciclaaDoverVal
import Derived.Test.YtmknoiiflciclaaPAx0
import Derived.Test.YtmknoiiflciclaaPAx20
import Derived.Test.YtmknoiiflciclaaPAx3
import Derived.Test.YtmknoiiflciclaaPAx4
import Derived.Test.YtmknoiiflciclaaPAx8
import Derived.Test.YtmknoiiflciclaaPAx9
import Derived.Test.YtmknoiiflciclaaDoverE
import Derived.Test.YtmknoiiflciclaaDoverFitsA
import Derived.Test.YtmknoiiflciclaaDoverOrder
import Derived.Laws.CopyOwn
import Derived.Laws.EntriesVeiled
import Derived.Deep.RegionWith
import Derived.BigRegion
import Derived.Carry
namespace Go.Proofs.Ytmknoiiflciclaa.PA
open Go.RowKit Go.Proofs.YtmknoiiflciclaaW.PrintWords Go.Proofs.YtmknoiiflciclaaW.PrintLast Go.Proofs.YtmknoiiflciclaaW.PrintMore
attribute [local go_sem] max2_int min2_int max_two min_two max_three min_three max_four min_four
set_option linter.unusedVariables false
set_option linter.unusedSimpArgs false
theorem fw_awake : fuseelaw13_awake.f 60 = some true := by kernel_rfl
theorem fw_order {L : List S29} {a : S29} {s : List S29} (hs : isort L = a :: s) (hl : L.length ≤ 100) : dover_Order.f 500 L = some (a.f0 :: s.map (·.f0)) := by
  rw [order_f hl (by omega)]
  exact congrArg some (order_head hs)
set_option maxHeartbeats 16000000 in
set_option maxRecDepth 100000 in
theorem fits_walk (A0 : Option Addr) (c0 : Nat) (l0 : List (S29)) (cur now : Int) (w : World) (hr0 : Kd.C k29 w A0 l0.length l0) (hc0 : l0.length ≤ c0) :
    Calls Try.prog 7 #[.slice A0 l0.length c0, .int .i64 cur, .int .i64 now] w fun e w' => e = .returned (.bool true) ∧ Below w.heap.size w w' := by
  have hu29 := Try.underlying29
  have hu22 := Try.underlying22
  have hu25 := Try.underlying25
  have hu3 := Try.underlying3
  replace hr0 := Aside0.mk hr0
  replace hc0 := Aside0.mk hc0
  go_enter Try.func7, Try.ntmps7
  go_wp2_with fail
  refine (fuseelaw13_awake.calls 60 true w fw_awake).mono ?_
  rintro e w1 ⟨rfl, hb1⟩
  replace hb1 := Aside0.mk hb1
  cases hmay : mayS l0 now with
  | false =>
    go_wp2_with fail
    refine (dover_May.calls A0 c0 l0 now false w1 (Kd.C_below hr0.out hb1.out) hc0.out (by unfold dover_May.f; rw [hmay])).mono ?_
    rintro e w2 ⟨rfl, hb2⟩
    go_wp2_with fail
    go_ret
    exact ⟨rfl, below_step hb1.out hb2⟩
  | true =>
    have hM := (mayS_iff l0 now).1 hmay
    have hn0 := hM.n0
    have hn1 := hM.n1
    have hle := hM.le
    replace hM := Aside0.mk hM
    go_wp2_with fail
    refine (dover_May.calls A0 c0 l0 now true w1 (Kd.C_below hr0.out hb1.out) hc0.out (by unfold dover_May.f; rw [hmay])).mono ?_
    rintro e w2 ⟨rfl, hb2⟩
    have hB2 := Aside0.mk (below_step hb1.out hb2)
    clear hb2 hb1
    by_cases hn : now > 274877906944
    · have d1 : decide (now > 274877906944) = true := decide_eq_true hn
      have d2 : decide ((274877906944 : Int) < now) = true := d1
      go_wp2_with fail
      go_ret
      exact ⟨rfl, hB2.out⟩
    · have d1 : decide (now > 274877906944) = false := decide_eq_false hn
      have d2 : decide ((274877906944 : Int) < now) = false := d1
      go_wp2_with fail
      refine (dover_Fits.calls 60 A0 c0 l0 now (fitsS l0 now) w2 (Kd.C_below hr0.out hB2.out) hc0.out (fits_f (by omega) (by omega))).mono ?_
      rintro e w3 ⟨rfl, hb3⟩
      have hB3 := Aside0.mk (below_step hB2.out hb3)
      clear hb3 hB2
      cases hft : fitsS l0 now with
      | false =>
        go_wp2_with fail
        go_ret
        exact ⟨rfl, hB3.out⟩
      | true =>
        have htot := tot_le l0 (fun x hx => by have := hM.out.ok x hx; omega)
        have hC3 := Aside0.mk (Kd.C_below hr0.out hB3.out)
        replace hft := Aside0.mk hft
        go_wp2_with fail
        go_loopw [0, 1, 2, 8] (fun v0 v1 v2 v8 wr => ∃ (t : Nat) (A : Option Addr) (c : Nat) (L : List S29) (cr nw : Int), v8 = .int .i64 (t : Int) ∧ v0 = .slice A L.length c ∧ v1 = .int .i64 cr ∧ v2 = .int .i64 nw ∧ nw = now + (t : Int) ∧ Aside0 (MayP L nw) ∧ Aside0 (fitsS L nw = true) ∧ (t : Int) + tot L ≤ 160 ∧ L.length ≤ c ∧ Aside0 (Kd.C k29 wr A L.length L) ∧ Aside0 (Below w.heap.size w wr)) (fun _ _ _ v8 _ => 200 - (intOf v8).toNat)
        case atStart => exact ⟨0, A0, c0, l0, cur, now, rfl, rfl, rfl, rfl, by simp, hM, hft, by have := hM.out.le; simp; omega, hc0.out, hC3, hB3⟩
        case round =>
          clear hC3 hB3 hft hM htot hmay
          obtain ⟨t, A, c, L, cr, nw, rfl, rfl, rfl, rfl, hnw, hM, hft, htt, hLc, hC, hB⟩ := hrel
          have hLl := hM.out.le
          have htp := tot_pos L (fun x hx => by have := hM.out.ok x hx; omega)
          have hnw0 : nw + 1 ≤ 549755813888 := by omega
          have hnw1 : 0 ≤ nw := by omega
          have hLl2 : (L.length : Int) ≤ 4 := by omega
          have ht3 : (t : Int) ≤ 160 := by omega
          have ht4 : t ≤ 160 := by omega
          replace hnw := Aside0.mk hnw
          replace htt := Aside0.mk htt
          have d3 : decide ((t : Int) < 200) = true := decide_eq_true (by have := htt.out; omega)
          rcases Nat.eq_zero_or_pos L.length with h0 | h0
          · have hL : L = [] := List.eq_nil_of_length_eq_zero h0
            subst hL
            go_wp2_with fail
            go_ret
            exact ⟨rfl, hB.out⟩
          · obtain ⟨a, s, hst⟩ := step_of (cur := cr) hM.out hnw0 hft.out h0
            have d4 : decide (0 < L.length) = true := decide_eq_true h0
            have d5 : decide ((0 : Int) < (L.length : Int)) = true := decide_eq_true (by omega)
            have hsl : s.length + 1 = L.length := by
              have := (isort_perm L).length_eq
              rw [hst.srt] at this
              simpa using this
            replace hst := Aside0.mk hst
            replace hsl := Aside0.mk hsl
            go_wp2_with fail
            refine (dover_Pick.calls A c L cr nw a.f0 [] wr hC.out hLc (by unfold dover_Pick.f; rw [hst.out.pick])).mono ?_
            rintro e w4 ⟨gv, rfl, hg4, hb4⟩
            obtain ⟨Ag, cg, rfl⟩ := Kd.R_slice hg4
            have hB4 := Aside0.mk (below_step hB.out hb4)
            have hC4 := Aside0.mk (Kd.C_below hC.out hb4)
            clear hg4 hb4 hB hC
            go_wp2_with fail
            refine (dover_Order.calls 500 A c L (a.f0 :: s.map (·.f0)) w4 hC4.out hLc (fw_order hst.out.srt (by omega))).mono ?_
            rintro e w5 ⟨ov, rfl, ho5, hb5⟩
            obtain ⟨og, oc, rfl, _, _, _, _⟩ := Kd.R_form ho5 (by simp)
            have hcell := (Kd.R_cell (d := (0 : Int)) ho5 0 (by omega) (by simp)).1
            have hol : (a.f0 :: s.map (·.f0)).length = L.length := by
              rw [List.length_cons, List.length_map]
              exact hsl.out
            have hcell' : w5.cell? ⟨og, 0, none⟩ = some (.int .i64 a.f0) := hcell
            rw [hol]
            have hB5 := Aside0.mk (below_step hB4.out hb5)
            have hC5 := Aside0.mk (Kd.C_below hC4.out hb5)
            clear ho5 hb5 hB4 hC4 hcell hol
            have hR0 := Aside0.mk (Kd.R_nil k29 29 w5 w5.heap.size (fun _ => True))
            go_wp2_with fail
            go_loopw [12, 13] (fun v12 v13 wr2 => ∃ (j : Nat), v13 = .int .i64 (j : Int) ∧ j ≤ L.length ∧ Aside0 (Kd.R k29 29 wr2 w5.heap.size (fun _ => True) v12 (rest1 a.f0 (L.take j))) ∧ Aside0 (Below w5.heap.size w5 wr2)) (fun _ v13 _ => L.length - (intOf v13).toNat)
            case atStart => exact ⟨0, rfl, by omega, hR0, ⟨Below.refl _ _⟩⟩
            case round =>
              clear hR0
              obtain ⟨j, rfl, hj, hR, hB6⟩ := hrel
              by_cases h1 : j < L.length
              · have e1 : decide ((j : Int) < (L.length : Int)) = true := decide_eq_true (by omega)
                have hC' := Kd.C_below hC5.out hB6.out
                obtain ⟨ad, rfl, hc0, hc1, hc2, hc3, hc4⟩ := at_T29 hC' (j : Int) (by omega) (by omega)
                rw [Int.toNat_natCast] at hc0 hc1 hc2 hc3 hc4
                rw [rd_at] at hc0 hc1 hc2 hc3 hc4
                have hj0 : (0 : Int) ≤ j := by omega
                have hj1 : (j : Int) < (L.length : Int) := by omega
                have hsn := rest1_snoc a.f0 (L.take j) (at_ L j)
                have htk : L.take j ++ [at_ L j] = L.take (j + 1) := by
                  rw [List.take_succ_eq_append_getElem h1, at_get h1]
                rw [htk] at hsn
                have hmem : at_ L j ∈ L := by
                  rw [at_get h1]
                  exact List.getElem_mem _
                have hend := hst.out.ok (at_ L j) hmem
                have hok := hM.out.ok (at_ L j) hmem
                have hrl : (rest1 a.f0 (L.take j)).length ≤ 4 := by
                  have := rest1_len a.f0 (L.take j)
                  have := List.length_take_le j L
                  omega
                clear hC' htk
                generalize at_ L j = x at hc0 hc1 hc2 hc3 hc4 hsn hend hmem hok
                replace hsn := Aside0.mk hsn
                replace hend := Aside0.mk hend
                have hf4 : x.f4 + 1 ≤ 40 := by omega
                have hf40 : 0 ≤ x.f4 := by omega
                replace hok := Aside0.mk hok
                by_cases hid : x.f0 = a.f0
                · have e2 : (x.f0 == a.f0) = true := beq_iff_eq.mpr hid
                  go_upto_region 18 with fail
                  have hna := blk_new wr (.cells #[.int .i64 a.f0, .int .i64 x.f1, .int .i64 x.f2, .int .i64 x.f3, .int .i64 (x.f4 + 1)] 29 (0, 0))
                  have hBa := below_alloc hB6.out (.cells #[.int .i64 a.f0, .int .i64 x.f1, .int .i64 x.f2, .int .i64 x.f3, .int .i64 (x.f4 + 1)] 29 (0, 0))
                  have hRa := Kd.R_alloc hR.out (.cells #[.int .i64 a.f0, .int .i64 x.f1, .int .i64 x.f2, .int .i64 x.f3, .int .i64 (x.f4 + 1)] 29 (0, 0))
                  generalize wr.alloc (.cells #[.int .i64 a.f0, .int .i64 x.f1, .int .i64 x.f2, .int .i64 x.f3, .int .i64 (x.f4 + 1)] 29 (0, 0)) = W6 at hna hBa hRa ⊢
                  have r0 := (blk_cell hna 0).trans (by rfl : _ = some (.int .i64 a.f0))
                  have r1 := (blk_cell hna 1).trans (by rfl : _ = some (.int .i64 x.f1))
                  have r2 := (blk_cell hna 2).trans (by rfl : _ = some (.int .i64 x.f2))
                  have r3 := (blk_cell hna 3).trans (by rfl : _ = some (.int .i64 x.f3))
                  have r4 := (blk_cell hna 4).trans (by rfl : _ = some (.int .i64 (x.f4 + 1)))
                  clear hna hB6 hR
                  have hSa := Aside0.mk hBa.size
                  replace hBa := Aside0.mk hBa
                  replace hRa := Aside0.mk hRa
                  have hrun : run1 a.f0 x = ⟨a.f0, x.f1, x.f2, x.f3, (x.f4 + 1)⟩ := by
                    unfold run1
                    rw [if_pos hid, hid, w64 (by omega)]
                  have hsn2 := hsn.out
                  have hend2 := hend.out
                  rw [hrun] at hsn2 hend2
                  simp only [] at hsn2 hend2
                  replace hend2 := Aside0.mk hend2
                  clear hrun hsn hend
                  by_cases hlt : (x.f4 + 1) < x.f2
                  · have e3 : decide (x.f4 + 1 < x.f2) = true := decide_eq_true hlt
                    rw [if_pos hlt] at hsn2
                    replace hsn2 := Aside0.mk hsn2
                    go_wp2_with ((with_reducible refine gate_builtin (b := .append) (xs := #[.tmp 93, .tmp 95]) rfl ?_); at_builtin; go_loud (refine Kd.R_append k29 (w0 := w5) (W := W6) w5.heap.size rfl (.tmp 93) (.tmp 95) 22 29 (.agg #[(.int .i64 0), (.int .i64 0), (.int .i64 0), (.int .i64 0), (.int .i64 0)]) 40 rfl Try.underlying22 info29 rfl (by decide) (by omega) u12 (rest1 a.f0 (L.take j)) ⟨a.f0, x.f1, x.f2, x.f3, (x.f4 + 1)⟩ [.int .i64 a.f0, .int .i64 x.f1, .int .i64 x.f2, .int .i64 x.f3, .int .i64 (x.f4 + 1)] (fun _ => True) (fun _ => False) rfl rfl ?aP (fun _ hk => hk.elim) ?aF ?aO ?aB ?aS ?aL ?_); (case aP => exact k29_mkM _ _ _ ⟨a.f0, x.f1, x.f2, x.f3, (x.f4 + 1)⟩); (case aF => exact fun _ _ => trivial); (case aO => exact hRa.out); (case aB => exact hBa.out); (case aS => exact hSa.out); (case aL => omega); intro vq w7 ho hb7 hg hat; clear hat hg; replace ho := Aside0.mk ho; replace hb7 := Aside0.mk hb7)
                    go_roundw
                    case rel => exact ⟨j + 1, rfl, by omega, ⟨by rw [hsn2.out]; exact ho.out⟩, hb7⟩
                    case measure => simp [intOf] <;> omega
                  · have e3 : decide (x.f4 + 1 < x.f2) = false := decide_eq_false hlt
                    rw [if_neg hlt, List.append_nil] at hsn2
                    have e4 : decide (x.f1 < nw + 1) = false := decide_eq_false (by have := hend2.out hlt; omega)
                    replace hsn2 := Aside0.mk hsn2
                    go_wp2_with fail
                    go_roundw
                    case rel => exact ⟨j + 1, rfl, by omega, ⟨by rw [hsn2.out]; exact hRa.out⟩, hBa⟩
                    case measure => simp [intOf] <;> omega
                · have e2 : (x.f0 == a.f0) = false := by
                    rw [beq_eq_false_iff_ne]
                    exact hid
                  go_upto_region 18 with fail
                  have hna := blk_new wr (.cells #[.int .i64 x.f0, .int .i64 x.f1, .int .i64 x.f2, .int .i64 x.f3, .int .i64 x.f4] 29 (0, 0))
                  have hBa := below_alloc hB6.out (.cells #[.int .i64 x.f0, .int .i64 x.f1, .int .i64 x.f2, .int .i64 x.f3, .int .i64 x.f4] 29 (0, 0))
                  have hRa := Kd.R_alloc hR.out (.cells #[.int .i64 x.f0, .int .i64 x.f1, .int .i64 x.f2, .int .i64 x.f3, .int .i64 x.f4] 29 (0, 0))
                  generalize wr.alloc (.cells #[.int .i64 x.f0, .int .i64 x.f1, .int .i64 x.f2, .int .i64 x.f3, .int .i64 x.f4] 29 (0, 0)) = W6 at hna hBa hRa ⊢
                  have r0 := (blk_cell hna 0).trans (by rfl : _ = some (.int .i64 x.f0))
                  have r1 := (blk_cell hna 1).trans (by rfl : _ = some (.int .i64 x.f1))
                  have r2 := (blk_cell hna 2).trans (by rfl : _ = some (.int .i64 x.f2))
                  have r3 := (blk_cell hna 3).trans (by rfl : _ = some (.int .i64 x.f3))
                  have r4 := (blk_cell hna 4).trans (by rfl : _ = some (.int .i64 (x.f4)))
                  clear hna hB6 hR
                  have hSa := Aside0.mk hBa.size
                  replace hBa := Aside0.mk hBa
                  replace hRa := Aside0.mk hRa
                  have hrun : run1 a.f0 x = ⟨x.f0, x.f1, x.f2, x.f3, x.f4⟩ := by
                    unfold run1
                    rw [if_neg hid]
                  have hsn2 := hsn.out
                  have hend2 := hend.out
                  rw [hrun] at hsn2 hend2
                  simp only [] at hsn2 hend2
                  replace hend2 := Aside0.mk hend2
                  clear hrun hsn hend
                  by_cases hlt : x.f4 < x.f2
                  · have e3 : decide (x.f4 < x.f2) = true := decide_eq_true hlt
                    rw [if_pos hlt] at hsn2
                    replace hsn2 := Aside0.mk hsn2
                    go_wp2_with ((with_reducible refine gate_builtin (b := .append) (xs := #[.tmp 93, .tmp 95]) rfl ?_); at_builtin; go_loud (refine Kd.R_append k29 (w0 := w5) (W := W6) w5.heap.size rfl (.tmp 93) (.tmp 95) 22 29 (.agg #[(.int .i64 0), (.int .i64 0), (.int .i64 0), (.int .i64 0), (.int .i64 0)]) 40 rfl Try.underlying22 info29 rfl (by decide) (by omega) u12 (rest1 a.f0 (L.take j)) ⟨x.f0, x.f1, x.f2, x.f3, x.f4⟩ [.int .i64 x.f0, .int .i64 x.f1, .int .i64 x.f2, .int .i64 x.f3, .int .i64 (x.f4)] (fun _ => True) (fun _ => False) rfl rfl ?aP (fun _ hk => hk.elim) ?aF ?aO ?aB ?aS ?aL ?_); (case aP => exact k29_mkM _ _ _ ⟨x.f0, x.f1, x.f2, x.f3, x.f4⟩); (case aF => exact fun _ _ => trivial); (case aO => exact hRa.out); (case aB => exact hBa.out); (case aS => exact hSa.out); (case aL => omega); intro vq w7 ho hb7 hg hat; clear hat hg; replace ho := Aside0.mk ho; replace hb7 := Aside0.mk hb7)
                    go_roundw
                    case rel => exact ⟨j + 1, rfl, by omega, ⟨by rw [hsn2.out]; exact ho.out⟩, hb7⟩
                    case measure => simp [intOf] <;> omega
                  · have e3 : decide (x.f4 < x.f2) = false := decide_eq_false hlt
                    rw [if_neg hlt, List.append_nil] at hsn2
                    have e4 : decide (x.f1 < nw + 1) = false := decide_eq_false (by have := hend2.out hlt; omega)
                    replace hsn2 := Aside0.mk hsn2
                    go_wp2_with fail
                    go_roundw
                    case rel => exact ⟨j + 1, rfl, by omega, ⟨by rw [hsn2.out]; exact hRa.out⟩, hBa⟩
                    case measure => simp [intOf] <;> omega
              · have e1 : decide ((j : Int) < (L.length : Int)) = false := decide_eq_false (by omega)
                have hjL : j = L.length := by omega
                subst hjL
                have hR2 := hR.out
                rw [List.take_length] at hR2
                have hR3 := Kd.R_lower hR2 (by have := hB5.out.size; exact this)
                obtain ⟨Ar, cr2, rfl⟩ := Kd.R_slice hR3
                have hCr := Aside0.mk (Kd.R_reads' hR3).2.2
                have hcr := (Kd.R_reads' hR3).2.1
                have hB7 := Aside0.mk (below_step hB5.out hB6.out)
                have hrl := (hst.out.may).le
                clear hR hR2 hR3 hB6
                go_wp2_with fail
                refine (dover_Fits.calls 60 Ar cr2 (rest1 a.f0 L) (nw + 1) true _ hCr.out hcr (by rw [fits_f (by omega) (by omega), hst.out.fit])).mono ?_
                rintro e w9 ⟨rfl, hb9⟩
                have hB9 := Aside0.mk (below_step hB7.out hb9)
                have hC9 := Aside0.mk (Kd.C_below hCr.out hb9)
                clear hb9 hB7 hCr
                go_wp2_with fail
                go_roundw
                case rel => exact ⟨t + 1, Ar, cr2, rest1 a.f0 L, a.f0, nw + 1, rfl, rfl, rfl, rfl, by rw [hnw.out]; omega, ⟨hst.out.may⟩, ⟨hst.out.fit⟩, by have := htt.out; have := hst.out.left; omega, hcr, hC9, hB9⟩
                case measure => have := htt.out; simp [intOf] <;> omega
theorem fits_row (A0 : Option Addr) (c0 : Nat) (l0 : List (S29)) (cur now : Int) (w : World) (hr0 : Kd.C k29 w A0 l0.length l0) (hc0 : l0.length ≤ c0) (hw0 : ∀ x ∈ l0, (Lit.int .i64 x.f0).wf = true ∧ (Lit.int .i64 x.f1).wf = true ∧ (Lit.int .i64 x.f2).wf = true ∧ (Lit.int .i64 x.f3).wf = true ∧ (Lit.int .i64 x.f4).wf = true) (w1 : (Lit.int .i64 cur).wf = true) (w2 : (Lit.int .i64 now).wf = true) :
    Calls Try.prog 7 #[.slice A0 l0.length c0, .int .i64 cur, .int .i64 now] w fun e w' => e = .returned (.bool true) ∧ Below w.heap.size w w' := fits_walk A0 c0 l0 cur now w hr0 hc0
end Go.Proofs.Ytmknoiiflciclaa.PA
