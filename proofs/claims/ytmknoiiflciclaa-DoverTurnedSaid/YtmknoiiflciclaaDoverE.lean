import Derived.Test.YtmknoiiflciclaaDoverA
import Derived.Test.YtmknoiiflciclaaDoverB
import Derived.Test.YtmknoiiflciclaaDoverC
import Derived.Test.YtmknoiiflciclaaDoverD
import Derived.Test.YtmknoiiflciclaaDoverMap
import Derived.Test.YtmknoiiflciclaaDoverSpec
import Derived.Test.YtmknoiiflciclaaPAx0
import Derived.Test.YtmknoiiflciclaaPAx5
import Derived.Test.YtmknoiiflciclaaPAx6
import Derived.Test.YtmknoiiflciclaaPAx7
import Derived.Test.YtmknoiiflciclaaPAx8
import Derived.Test.YtmknoiiflciclaaDoverD
import Derived.Laws.CopyOwn
import Derived.Laws.EntriesVeiled
import Derived.Deep.RegionWith
import Derived.BigRegion
import Derived.Carry
namespace Go.Proofs.Ytmknoiiflciclaa.PA
open Go.RowKit Go.Proofs.YtmknoiiflciclaaW.PrintWords Go.Proofs.YtmknoiiflciclaaW.PrintLast Go.Proofs.YtmknoiiflciclaaW.PrintMore
attribute [local go_sem] max2_int min2_int max_two min_two max_three min_three max_four min_four
set_option linter.unusedVariables false
set_option linter.unusedSimpArgs false
theorem find_at_none {T : List S29} {q : S29 → Bool} (h : ∀ i, i < T.length → q (at_ T i) = false) : T.find? q = none := by
  rw [List.find?_eq_none]
  intro x hx
  obtain ⟨i, hi, rfl⟩ := List.mem_iff_getElem.1 hx
  have := h i hi
  rw [at_get hi] at this
  simp [this]
theorem find_at_some {q : S29 → Bool} : ∀ {T : List S29} {j : Nat}, j < T.length → q (at_ T j) = true → (∀ i, i < j → q (at_ T i) = false) → T.find? q = some (at_ T j)
  | [], j, hj, _, _ => absurd hj (Nat.not_lt_zero _)
  | x :: T, 0, _, hq, _ => by
    have hq' : q x = true := hq
    rw [List.find?_cons_of_pos hq']
    rfl
  | x :: T, j + 1, hj, hq, hn => by
    have h0 : ¬ q x = true := by
      have := hn 0 (by omega)
      rw [show at_ (x :: T) 0 = x from rfl] at this
      rw [this]
      simp
    rw [List.find?_cons_of_neg h0, find_at_some (T := T) (j := j) (by simpa using hj) hq (fun i hi => hn (i + 1) (by omega))]
    rfl
/-- Who runs, of those that are there. -/
def pickT (T M : List S29) (G : List Int) (cur now : Int) : Int × List Int :=
  match T with
  | [] => (-1, G)
  | a :: _ => if fitsS T now = true then (a.f0, G) else lastS T (picks T now M G cur).1 (picks T now M G cur).2.1 (picks T now M G cur).2.2
theorem pickS_eq {l : List S29} {cur now : Int} {M : List S29} {G : List Int} (hm : mayS l now = true) (hs : (M, G) = struck l now [] []) :
    pickS l cur now = pickT ((isort l).filter (stillS M)) M G cur now := by
  unfold pickS
  rw [if_pos hm, ← hs]
  rfl
theorem pickT_pos {T M : List S29} {G : List Int} {cur now : Int} (h : 0 < T.length) : pickT T M G cur now = if fitsS T now = true then ((at_ T 0).f0, G) else lastS T (picks T now M G cur).1 (picks T now M G cur).2.1 (picks T now M G cur).2.2 := by
  cases T with
  | nil => exact absurd h (Nat.lt_irrefl 0)
  | cons a T => rfl
theorem fits_l0 (s : List S29) (hs : s.length ≤ 100) : ∀ (m k j : Nat) (now : Int), m + j = s.length → m < k → dover_Fits.l0 k now s (s.length : Int) (j : Int) = some (fitsL (s.drop j) now)
  | 0, k, j, now, hm, hk => by
    obtain ⟨k, rfl⟩ : ∃ k', k = k' + 1 := ⟨k - 1, by omega⟩
    rw [dover_Fits.l0, if_neg (by omega), List.drop_eq_nil_of_le (by omega)]
    rfl
  | m + 1, k, j, now, hm, hk => by
    obtain ⟨k, rfl⟩ : ∃ k', k = k' + 1 := ⟨k - 1, by omega⟩
    have hw : wrap64 ((j : Int) + 1) = ((j + 1 : Nat) : Int) := by
      rw [show wrap64 ((j : Int) + 1) = (j : Int) + 1 from by unfold wrap64; omega]
      omega
    have hd : s.drop j = at_ s j :: s.drop (j + 1) := by
      rw [List.drop_eq_getElem_cons (by omega), ← at_get (by omega)]
    have hl : ∀ a : S29, dover_left.f a.f0 a.f1 a.f2 a.f3 a.f4 = some (leftS a) := fun a => rfl
    rw [dover_Fits.l0, if_pos (by omega), if_pos (by omega), if_pos (by omega), rd_at, hl, Option.bind_some, hw, fits_l0 s hs m k (j + 1) _ (by omega) (by omega), hd, fitsL]
    split <;> rfl
theorem fits_f {k : Nat} {T : List S29} {now : Int} (hT : T.length ≤ 10) (hk : 20 < k) : dover_Fits.f k T now = some (fitsS T now) := by
  have hl : (isort T).length ≤ 10 := by
    rw [isort_len]
    exact hT
  unfold dover_Fits.f dover_sorted.f
  rw [if_pos hT, Option.bind_some]
  exact fits_l0 (isort T) (by omega) (isort T).length k 0 now (by omega) (by omega)
theorem grown_undrew {W w : World} {row : Option Nat} (h : W.drew.grownBy w row) : W.grownBy w row := ⟨h.os, h.tape, h.output, h.size, h.block⟩
theorem lax_f (a : S29) (now : Int) : dover_Lax.f a.f0 a.f1 a.f2 a.f3 a.f4 now = some (laxS a now) := rfl
theorem mayS_len {l : List S29} {now : Int} (h : mayS l now = true) : l.length ≤ 4 := by
  unfold mayS at h
  simp at h
  omega
set_option maxHeartbeats 16000000 in
set_option maxRecDepth 100000 in
theorem hand_Pick (A0 : Option Addr) (c0 : Nat) (l0 : List (S29)) (cur now : Int) (w : World) (hr0 : Kd.C k29 w A0 l0.length l0) (hc0 : l0.length ≤ c0) :
    Calls Try.prog 11 #[.slice A0 l0.length c0, .int .i64 cur, .int .i64 now] w fun e w' => ∃ v1_ : Value, e = .returned (.tuple #[.int .i64 (pickS l0 cur now).1, v1_]) ∧ Kd.R (Kd.int .i64) 3 w' w.heap.size (fun _ => True) v1_ (pickS l0 cur now).2 ∧ Below w.heap.size w w' := by
  have hu29 := Try.underlying29
  have hu22 := Try.underlying22
  have hu43 := Try.underlying43
  have hu3 := Try.underlying3
  have hmm := @run_makeMap Try.prog
  have HM := Aside0.mk (hand_May A0 c0 l0 now w hr0 hc0)
  replace hr0 := Aside0.mk hr0
  replace hc0 := Aside0.mk hc0
  go_enter Try.func11, Try.ntmps11
  go_wp2_with fail
  refine HM.out.mono ?_
  rintro e w1 ⟨rfl, hb1⟩
  clear HM
  replace hb1 := Aside0.mk hb1
  cases hmay : mayS l0 now with
  | false =>
    go_wp2_with fail
    go_ret2
    have hpk : pickS l0 cur now = (-1, []) := by
      unfold pickS
      rw [hmay, if_neg (by simp)]
    rw [hpk]
    exact ⟨_, rfl, Kd.R_nil _ _ _ _ _, hb1.out⟩
  | true =>
    have hl4 := mayS_len hmay
    replace hmay := Aside0.mk hmay
    go_wp2_with fail
    have hm0 := (MapAt.made w1).alloc (.cells #[.map (some w1.heap.size), .slice none 0 0, .int .i64 cur] 43 (0, 0))
    have hp0 := blk_new (w1.alloc (.map #[] 0)) (.cells #[.map (some w1.heap.size), .slice none 0 0, .int .i64 cur] 43 (0, 0))
    have hg0 := blk_new ((w1.alloc (.map #[] 0)).alloc (.cells #[.map (some w1.heap.size), .slice none 0 0, .int .i64 cur] 43 (0, 0))) (.cells #[.pointer (some ⟨w1.heap.size + 1, 0, none⟩)] 41 (0, 0))
    have hz1 : (w1.alloc (.map #[] 0)).heap.size = w1.heap.size + 1 := by simp
    have hz2 : ((w1.alloc (.map #[] 0)).alloc (.cells #[.map (some w1.heap.size), .slice none 0 0, .int .i64 cur] 43 (0, 0))).heap.size = w1.heap.size + 1 + 1 := by simp
    rw [hz1] at hp0
    rw [hz2] at hg0
    have hPS := PS.mk hg0 (blk_alloc hp0 _) (hm0.alloc _)
    have hB2 := below_alloc (below_alloc (below_alloc hb1.out (.map #[] 0)) (.cells #[.map (some w1.heap.size), .slice none 0 0, .int .i64 cur] 43 (0, 0))) (.cells #[.pointer (some ⟨w1.heap.size + 1, 0, none⟩)] 41 (0, 0))
    have hms : w.heap.size ≤ w1.heap.size := hb1.out.size
    have hps : w.heap.size ≤ w1.heap.size + 1 := by omega
    clear hm0 hp0 hg0 hz1 hz2
    generalize hW2 : (((w1.alloc (.map #[] 0)).alloc (.cells #[.map (some w1.heap.size), .slice none 0 0, .int .i64 cur] 43 (0, 0))).alloc (.cells #[.pointer (some ⟨w1.heap.size + 1, 0, none⟩)] 41 (0, 0))) = W2 at hPS hB2 ⊢
    clear hW2
    generalize w1.heap.size + 1 + 1 = g at hPS hB2 hms hps ⊢
    generalize w1.heap.size + 1 = p at hPS hB2 hms hps ⊢
    generalize w1.heap.size = m at hPS hB2 hms hps ⊢
    clear hb1
    replace hPS := Aside0.mk hPS
    replace hB2 := Aside0.mk hB2
    replace hms := Aside0.mk hms
    replace hps := Aside0.mk hps
    have hrn := Aside0.mk (Kd.R_nil (Kd.int .i64) 3 W2 w.heap.size (fun _ => True))
    go_loopw [30] (fun v wr => ∃ (j : Nat) (gv : Value) (M : List S29) (G : List Int), v = .int .i64 (j : Int) ∧ j ≤ l0.length ∧ G.length ≤ j ∧ Aside0 (struck (l0.drop j) now M G = struck l0 now [] []) ∧ Aside0 (PS wr g p m gv cur M) ∧ Aside0 (Kd.R (Kd.int .i64) 3 wr w.heap.size (fun _ => True) gv G) ∧ Aside0 (Below w.heap.size w wr)) (fun v _ => l0.length - (intOf v).toNat)
    case atStart => exact ⟨0, _, [], [], rfl, by omega, by simp, ⟨rfl⟩, hPS, hrn, hB2⟩
    case round =>
      clear hPS hrn hB2
      obtain ⟨j, gv, M, G, rfl, hj, hGl, hst, hPS, hR, hB⟩ := hrel
      have hlen0 : (l0.length : Int) ≤ 4 := by omega
      by_cases h1 : j < l0.length
      · have d1 : decide ((j : Int) < (l0.length : Int)) = true := decide_eq_true (by omega)
        have hC' := Kd.C_below hr0.out hB.out
        obtain ⟨ad, rfl, hc0, hc1, hc2, hc3, hc4⟩ := at_T29 hC' (j : Int) (by omega) (by omega)
        rw [Int.toNat_natCast] at hc0 hc1 hc2 hc3 hc4
        rw [rd_at] at hc0 hc1 hc2 hc3 hc4
        have hj0 : (0 : Int) ≤ j := by omega
        have hj1 : (j : Int) < (l0.length : Int) := by omega
        have hst' := hst.out
        rw [List.drop_eq_getElem_cons h1, ← at_get h1] at hst'
        generalize at_ l0 j = a at hc0 hc1 hc2 hc3 hc4 hst'
        rw [struck] at hst'
        replace hst' := Aside0.mk hst'
        have hPa := hPS.out.alloc (.cells #[.int .i64 a.f0, .int .i64 a.f1, .int .i64 a.f2, .int .i64 a.f3, .int .i64 a.f4] 29 (0, 0))
        have hna := blk_new wr (.cells #[.int .i64 a.f0, .int .i64 a.f1, .int .i64 a.f2, .int .i64 a.f3, .int .i64 a.f4] 29 (0, 0))
        have hBa := below_alloc hB.out (.cells #[.int .i64 a.f0, .int .i64 a.f1, .int .i64 a.f2, .int .i64 a.f3, .int .i64 a.f4] 29 (0, 0))
        have hRa := Kd.R_alloc hR.out (.cells #[.int .i64 a.f0, .int .i64 a.f1, .int .i64 a.f2, .int .i64 a.f3, .int .i64 a.f4] 29 (0, 0))
        clear hC'
        have q0 := (blk_cell hPa.g 0).trans (by rfl : _ = some (.pointer (some ⟨p, 0, none⟩)))
        have q1 := (blk_cell hPa.p 0).trans (by rfl : _ = some (.map (some m)))
        have q2 := (blk_cell hna 0).trans (by rfl : _ = some (.int .i64 a.f0))
        have q3 := (blk_cell hna 1).trans (by rfl : _ = some (.int .i64 a.f1))
        have q4 := (blk_cell hna 2).trans (by rfl : _ = some (.int .i64 a.f2))
        have q5 := (blk_cell hna 3).trans (by rfl : _ = some (.int .i64 a.f3))
        have q6 := (blk_cell hna 4).trans (by rfl : _ = some (.int .i64 a.f4))
        obtain ⟨w2, hrun, hM2, hg2⟩ := hPa.m.drew.store a
        replace hg2 := grown_undrew hg2
        have hna2 := (Keep29.map hPa.m hg2) _ _ hna
        unfold apeV at hrun
        have hP2 := hPa.map hM2 hg2
        have hR2 := R_map hRa hPa.m hg2
        have hB2 := below_grown hBa hg2 hms.out (below_size hBa)
        have r0 := (blk_cell hP2.g 0).trans (by rfl : _ = some (.pointer (some ⟨p, 0, none⟩)))
        have r1 := (blk_cell hna2 0).trans (by rfl : _ = some (.int .i64 a.f0))
        have r2 := (blk_cell hna2 1).trans (by rfl : _ = some (.int .i64 a.f1))
        have r3 := (blk_cell hna2 2).trans (by rfl : _ = some (.int .i64 a.f2))
        have r4 := (blk_cell hna2 3).trans (by rfl : _ = some (.int .i64 a.f3))
        have r5 := (blk_cell hna2 4).trans (by rfl : _ = some (.int .i64 a.f4))
        have hz2 := Nat.le_trans hms.out (Nat.le_of_lt hP2.m.lt)
        clear hPa hBa hRa hM2 hg2 hna
        replace hP2 := Aside0.mk hP2
        replace hR2 := Aside0.mk hR2
        replace hB2 := Aside0.mk hB2
        replace hna2 := Aside0.mk hna2
        replace hz2 := Aside0.mk hz2
        go_wp2_with fail
        refine start_ (n := 8) (S := fun w' => w'.cell? ⟨g, 0, none⟩ = some (.pointer (some ⟨p, 0, none⟩)) ∧ w'.cell? ⟨p, 0, none⟩ = some (.map (some m)) ∧ w'.cell? ⟨wr.heap.size, 0, none⟩ = some (.int .i64 a.f0) ∧ w'.cell? ⟨wr.heap.size, 1, none⟩ = some (.int .i64 a.f1) ∧ w'.cell? ⟨wr.heap.size, 2, none⟩ = some (.int .i64 a.f2) ∧ w'.cell? ⟨wr.heap.size, 3, none⟩ = some (.int .i64 a.f3) ∧ w'.cell? ⟨wr.heap.size, 4, none⟩ = some (.int .i64 a.f4)) (ds := [7]) #[false, false, false, false, false, false, false, false] (by kernel_rfl) rfl rfl ⟨q0, q1, q2, q3, q4, q5, q6⟩ (fun hHeld => ?_)
        refine pure_ (i := 4) (N := some 38) (v := ?_) (a' := ?_) #[false, false, false, false, true, false, false, false] rfl rfl (by kernel_rfl) (fun _ _ _ h => h) (Or.inl ⟨by rfl, ?_⟩) ?_ ?_
        rotate_left
        · intro w'
          go_simp
          with_reducible rfl
        rotate_left
        · simp only [Act.put, List.setIfInBounds_toArray, List.set_cons_zero, List.set_cons_succ, i64_w, i32_w]
          rfl
        refine take_ (i := 0) (N := some 34) (v := ?_) (a' := ?_) #[true, false, false, false, true, false, false, false] rfl rfl (by kernel_rfl) (fun _ _ _ h => h) (Or.inl ⟨by rfl, ?_⟩) hHeld ?_ ?_
        rotate_left
        · rintro w' ⟨s0, s1, s2, s3, s4, s5, s6⟩
          go_simp
          with_reducible rfl
        rotate_left
        · simp only [Act.put, List.setIfInBounds_toArray, List.set_cons_zero, List.set_cons_succ, i64_w, i32_w]
          rfl
        refine pure_ (i := 1) (N := some 35) (v := ?_) (a' := ?_) #[true, true, false, false, true, false, false, false] rfl rfl (by kernel_rfl) (fun _ _ _ h => h) (Or.inl ⟨by rfl, ?_⟩) ?_ ?_
        rotate_left
        · intro w'
          go_simp
          with_reducible rfl
        rotate_left
        · simp only [Act.put, List.setIfInBounds_toArray, List.set_cons_zero, List.set_cons_succ, i64_w, i32_w]
          rfl
        refine pure_ (i := 2) (N := some 36) (v := ?_) (a' := ?_) #[true, true, true, false, true, false, false, false] rfl rfl (by kernel_rfl) (fun _ _ _ h => h) (Or.inl ⟨by rfl, ?_⟩) ?_ ?_
        rotate_left
        · intro w'
          go_simp
          with_reducible rfl
        rotate_left
        · simp only [Act.put, List.setIfInBounds_toArray, List.set_cons_zero, List.set_cons_succ, i64_w, i32_w]
          rfl
        refine take_ (i := 3) (N := some 37) (v := ?_) (a' := ?_) #[true, true, true, true, true, false, false, false] rfl rfl (by kernel_rfl) (fun _ _ _ h => h) (Or.inl ⟨by rfl, ?_⟩) hHeld ?_ ?_
        rotate_left
        · rintro w' ⟨s0, s1, s2, s3, s4, s5, s6⟩
          go_simp
          with_reducible rfl
        rotate_left
        · simp only [Act.put, List.setIfInBounds_toArray, List.set_cons_zero, List.set_cons_succ, i64_w, i32_w]
          rfl
        refine take_ (i := 5) (N := some 39) (v := ?_) (a' := ?_) #[true, true, true, true, true, true, false, false] rfl rfl (by kernel_rfl) (fun _ _ _ h => h) (Or.inl ⟨by rfl, ?_⟩) hHeld ?_ ?_
        rotate_left
        · rintro w' ⟨s0, s1, s2, s3, s4, s5, s6⟩
          go_simp
          with_reducible rfl
        rotate_left
        · simp only [Act.put, List.setIfInBounds_toArray, List.set_cons_zero, List.set_cons_succ, i64_w, i32_w]
          rfl
        refine take_ (i := 6) (N := some 40) (v := ?_) (a' := ?_) #[true, true, true, true, true, true, true, false] rfl rfl (by kernel_rfl) (fun _ _ _ h => h) (Or.inl ⟨by rfl, ?_⟩) hHeld ?_ ?_
        rotate_left
        · rintro w' ⟨s0, s1, s2, s3, s4, s5, s6⟩
          go_simp
          with_reducible rfl
        rotate_left
        · simp only [Act.put, List.setIfInBounds_toArray, List.set_cons_zero, List.set_cons_succ, i64_w, i32_w]
          rfl
        refine last_ (i := 7) (N := none) #[true, true, true, true, true, true, true, true] rfl rfl (by kernel_rfl) (by decide) (fun K hK => ?_)
        refine skip_ (w1 := ?_) (by rfl) rfl ?_ ?_
        rotate_left
        · go_simp
          rfl
        refine hK.out _ _ ?_
        clear hK K
        refine done_ (by kernel_rfl) ?_

        go_wp2_with fail
        refine (dover_Lax.calls _ _ _ _ _ _ _ _ (lax_f a now)).mono ?_
        rintro e w3 ⟨rfl, hb3⟩
        have hP3 := hP2.out.below hb3
        have hR3 := Kd.R_below hR2.out hb3
        have hB3 := below_step hB2.out hb3
        have hna3 := Aside0.mk (blk_below hna2.out hb3)
        have hz3 := Aside0.mk (Nat.le_trans hz2.out hb3.size)
        have s0 := (blk_cell hP3.g 0).trans (by rfl : _ = some (.pointer (some ⟨p, 0, none⟩)))
        have s1 := (blk_cell hna3.out 0).trans (by rfl : _ = some (.int .i64 a.f0))
        clear hb3 hP2 hR2 hB2 hna2
        replace hP3 := Aside0.mk hP3
        replace hR3 := Aside0.mk hR3
        replace hB3 := Aside0.mk hB3
        by_cases hlx : laxS a now < 0
        · have d2 : decide (laxS a now < 0) = true := decide_eq_true hlx
          have hst2 := hst'.out
          rw [if_pos hlx] at hst2
          replace hst2 := Aside0.mk hst2
          replace hlx := Aside0.mk hlx
          go_wp2_with fail
          refine (hand_go1 hP3.out hR3.out hps.out hms.out hz3.out (by omega) a.f0).mono ?_
          rintro e w4 ⟨rfl, gv4, hP4, hR4, hB4, hk4⟩
          have hB5 := Aside0.mk (hB3.out.trans hB4)
          replace hP4 := Aside0.mk hP4
          replace hR4 := Aside0.mk hR4
          clear hB4 hk4
          go_wp2_with fail
          go_roundw
          case rel => exact ⟨j + 1, gv4, _, _, rfl, by omega, by simp; omega, hst2, hP4, hR4, hB5⟩
          case measure => simp [intOf] <;> omega
        · have d2 : decide (laxS a now < 0) = false := decide_eq_false hlx
          have hst2 := hst'.out
          rw [if_neg hlx] at hst2
          replace hst2 := Aside0.mk hst2
          replace hlx := Aside0.mk hlx
          go_wp2_with fail
          go_roundw
          case rel => exact ⟨j + 1, gv, _, _, rfl, by omega, by omega, hst2, hP3, hR3, hB3⟩
          case measure => simp [intOf] <;> omega
      · have d1 : decide ((j : Int) < (l0.length : Int)) = false := decide_eq_false (by omega)
        have hjl : j = l0.length := by omega
        subst hjl
        have hst2 := hst.out
        rw [List.drop_length, struck] at hst2
        replace hst2 := Aside0.mk hst2
        go_wp2_with fail
        refine (hand_sorted A0 c0 l0 wr (Kd.C_below hr0.out hB.out) hc0.out (by omega)).mono ?_
        rintro e w4 ⟨vs, rfl, hS4, hb4⟩
        obtain ⟨As, cs, rfl⟩ := Kd.R_slice hS4
        have hP4 := hPS.out.below hb4
        have hR4 := Kd.R_below hR.out hb4
        have hB4 := below_step hB.out hb4
        have hz4 : w.heap.size ≤ w4.heap.size := hB4.size
        have hpk := pickS_eq (cur := cur) hmay.out hst2.out
        have hsl : (isort l0).length ≤ 4 := by
          rw [isort_len]
          omega
        generalize isort l0 = s at hS4 hsl hpk ⊢
        clear hb4 hPS hR hB hst hst2 hmay
        replace hP4 := Aside0.mk hP4
        replace hR4 := Aside0.mk hR4
        replace hB4 := Aside0.mk hB4
        replace hS4 := Aside0.mk hS4
        replace hz4 := Aside0.mk hz4
        replace hpk := Aside0.mk hpk
        have hT0 := Aside0.mk (Kd.R_nil k29 29 w4 w4.heap.size (fun _ => True))
        go_wp2_with fail
        go_loopw [9, 54] (fun v9 v wr => ∃ (j : Nat) (T : List S29), v = .int .i64 (j : Int) ∧ j ≤ s.length ∧ T.length ≤ j ∧ Aside0 (T = (s.take j).filter (stillS M)) ∧ Aside0 (Kd.R k29 29 wr w4.heap.size (fun _ => True) v9 T) ∧ Aside0 (Below w4.heap.size w4 wr)) (fun _ v _ => s.length - (intOf v).toNat)
        case atStart => exact ⟨0, [], rfl, by omega, by simp, ⟨rfl⟩, hT0, ⟨Below.refl _ _⟩⟩
        case round =>
          clear hT0
          obtain ⟨j, T, rfl, hj, hTl, hTe, hT, hB5⟩ := hrel
          have hlen1 : (s.length : Int) ≤ 4 := by omega
          by_cases h2 : j < s.length
          · have d1 : decide ((j : Int) < (s.length : Int)) = true := decide_eq_true (by omega)
            have hC' := Kd.C_below (Kd.R_reads' hS4.out).2.2 hB5.out
            obtain ⟨ad, rfl, hc0, hc1, hc2, hc3, hc4⟩ := at_T29 hC' (j : Int) (by omega) (by omega)
            rw [Int.toNat_natCast] at hc0 hc1 hc2 hc3 hc4
            rw [rd_at] at hc0 hc1 hc2 hc3 hc4
            have hj0 : (0 : Int) ≤ j := by omega
            have hj1 : (j : Int) < (s.length : Int) := by omega
            have hTe2 : (s.take (j + 1)).filter (stillS M) = T ++ (if stillS M (at_ s j) = true then [at_ s j] else []) := by
              rw [List.take_succ_eq_append_getElem h2, List.filter_append, ← hTe.out, at_get h2]
              congr 1
              cases hq : stillS M s[j] with
              | true => simp [hq]
              | false => simp [hq]
            generalize at_ s j = a at hc0 hc1 hc2 hc3 hc4 hTe2
            replace hTe2 := Aside0.mk hTe2
            clear hC'
            have hPa := (hP4.out.below hB5.out).alloc (.cells #[.int .i64 a.f0, .int .i64 a.f1, .int .i64 a.f2, .int .i64 a.f3, .int .i64 a.f4] 29 (0, 0))
            have hna := blk_new wr (.cells #[.int .i64 a.f0, .int .i64 a.f1, .int .i64 a.f2, .int .i64 a.f3, .int .i64 a.f4] 29 (0, 0))
            have hBa := below_alloc hB5.out (.cells #[.int .i64 a.f0, .int .i64 a.f1, .int .i64 a.f2, .int .i64 a.f3, .int .i64 a.f4] 29 (0, 0))
            have hTa := Kd.R_alloc hT.out (.cells #[.int .i64 a.f0, .int .i64 a.f1, .int .i64 a.f2, .int .i64 a.f3, .int .i64 a.f4] 29 (0, 0))
            replace hPa := Aside0.mk hPa
            replace hna := Aside0.mk hna
            replace hBa := Aside0.mk hBa
            replace hTa := Aside0.mk hTa
            go_wp2_with fail
            refine (hand_still hPa.out a).mono ?_
            rintro e w5 ⟨rfl, hb5⟩
            have hB6 := Aside0.mk (below_step hBa.out hb5)
            have hT6 := Aside0.mk (Kd.R_below hTa.out hb5)
            have hn6 := blk_below hna.out hb5
            have r1 := (blk_cell hn6 0).trans (by rfl : _ = some (.int .i64 a.f0))
            have r2 := (blk_cell hn6 1).trans (by rfl : _ = some (.int .i64 a.f1))
            have r3 := (blk_cell hn6 2).trans (by rfl : _ = some (.int .i64 a.f2))
            have r4 := (blk_cell hn6 3).trans (by rfl : _ = some (.int .i64 a.f3))
            have r5 := (blk_cell hn6 4).trans (by rfl : _ = some (.int .i64 a.f4))
            have hS6 := Aside0.mk hB6.out.size
            clear hPa hna hBa hTa hb5 hn6 hB5 hT
            cases h3 : stillS M a with
            | true =>
              have hTe3 := hTe2.out
              rw [if_pos h3] at hTe3
              replace hTe3 := Aside0.mk hTe3
              go_wp2_with ((with_reducible refine gate_builtin (b := .append) (xs := #[.tmp 61, .tmp 63]) rfl ?_); at_builtin; go_loud (refine Kd.R_append k29 (w0 := w4) (W := w5) w4.heap.size rfl (.tmp 61) (.tmp 63) 22 29 (.agg #[(.int .i64 0), (.int .i64 0), (.int .i64 0), (.int .i64 0), (.int .i64 0)]) 40 rfl Try.underlying22 info29 rfl (by decide) (by omega) u9 T a [.int .i64 a.f0, .int .i64 a.f1, .int .i64 a.f2, .int .i64 a.f3, .int .i64 a.f4] (fun _ => True) (fun _ => False) rfl rfl ?aP (fun _ hk => hk.elim) ?aF ?aO ?aB ?aS ?aL ?_); (case aP => exact k29_mkM _ _ _ a); (case aF => exact fun _ _ => trivial); (case aO => exact hT6.out); (case aB => exact hB6.out); (case aS => exact hS6.out); (case aL => omega); intro v1 w7 ho hb7 hg hat; clear hat hg; replace ho := Aside0.mk ho; replace hb7 := Aside0.mk hb7)
              go_roundw
              case rel => exact ⟨j + 1, T ++ [a], rfl, by omega, by simp; omega, ⟨hTe3.out.symm⟩, ho, hb7⟩
              case measure => simp [intOf] <;> omega
            | false =>
              have hTe3 := hTe2.out
              rw [if_neg (by simp [h3]), List.append_nil] at hTe3
              replace hTe3 := Aside0.mk hTe3
              go_wp2_with fail
              go_roundw
              case rel => exact ⟨j + 1, T, rfl, by omega, by omega, ⟨hTe3.out.symm⟩, hT6, hB6⟩
              case measure => simp [intOf] <;> omega
          · have d1 : decide ((j : Int) < (s.length : Int)) = false := decide_eq_false (by omega)
            have hjs : j = s.length := by omega
            subst hjs
            have hTe2 := hTe.out
            rw [List.take_length] at hTe2
            have hpk2 := hpk.out
            rw [← hTe2] at hpk2
            have hP5 := hP4.out.below hB5.out
            have hR5 := Kd.R_below hR4.out hB5.out
            have hB6 := below_step hB4.out hB5.out
            have hz5 : w.heap.size ≤ wr.heap.size := hB6.size
            have hT5 := Kd.R_lower hT.out hz4.out
            obtain ⟨At, ct, rfl⟩ := Kd.R_slice hT5
            clear hT hB5 hS4 hP4 hR4 hB4 hpk hTe
            replace hTe2 := Aside0.mk hTe2
            replace hz5 := Aside0.mk hz5
            replace hT5 := Aside0.mk hT5
            replace hB6 := Aside0.mk hB6
            have q0 := (blk_cell hP5.g 0).trans (by rfl : _ = some (.pointer (some ⟨p, 0, none⟩)))
            have q1 := (blk_cell hP5.p 1).trans (by rfl : _ = some gv)
            replace hP5 := Aside0.mk hP5
            replace hR5 := Aside0.mk hR5
            rcases Nat.eq_zero_or_pos T.length with h0 | h0
            · have hTn : T = [] := List.eq_nil_of_length_eq_zero h0
              subst hTn
              go_wp2_with fail
              refine start_ (n := 6) (S := fun w' => w'.cell? ⟨g, 0, none⟩ = some (.pointer (some ⟨p, 0, none⟩)) ∧ w'.cell? ⟨p, 1, none⟩ = some gv) (ds := []) #[false, false, false, false, false, false] (by kernel_rfl) rfl rfl ⟨q0, q1⟩ (fun hHeld => ?_)
              refine pure_ (i := 4) (N := some 6) (v := ?_) (a' := ?_) #[false, false, false, false, true, false] rfl rfl (by kernel_rfl) (fun _ _ _ h => h) (Or.inl ⟨by rfl, ?_⟩) ?_ ?_
              rotate_left
              · intro w'
                go_simp
                with_reducible rfl
              rotate_left
              · simp only [Act.put, List.setIfInBounds_toArray, List.set_cons_zero, List.set_cons_succ, i64_w, i32_w]
                rfl
              refine take_ (i := 0) (N := some 69) (v := ?_) (a' := ?_) #[true, false, false, false, true, false] rfl rfl (by kernel_rfl) (fun _ _ _ h => h) (Or.inl ⟨by rfl, ?_⟩) hHeld ?_ ?_
              rotate_left
              · rintro w' ⟨s0, s1⟩
                go_simp
                with_reducible rfl
              rotate_left
              · simp only [Act.put, List.setIfInBounds_toArray, List.set_cons_zero, List.set_cons_succ, i64_w, i32_w]
                rfl
              refine pure_ (i := 1) (N := some 70) (v := ?_) (a' := ?_) #[true, true, false, false, true, false] rfl rfl (by kernel_rfl) (fun _ _ _ h => h) (Or.inl ⟨by rfl, ?_⟩) ?_ ?_
              rotate_left
              · intro w'
                go_simp
                with_reducible rfl
              rotate_left
              · simp only [Act.put, List.setIfInBounds_toArray, List.set_cons_zero, List.set_cons_succ, i64_w, i32_w]
                rfl
              refine pure_ (i := 2) (N := some 71) (v := ?_) (a' := ?_) #[true, true, true, false, true, false] rfl rfl (by kernel_rfl) (fun _ _ _ h => h) (Or.inl ⟨by rfl, ?_⟩) ?_ ?_
              rotate_left
              · intro w'
                go_simp
                with_reducible rfl
              rotate_left
              · simp only [Act.put, List.setIfInBounds_toArray, List.set_cons_zero, List.set_cons_succ, i64_w, i32_w]
                rfl
              refine take_ (i := 3) (N := some 72) (v := ?_) (a' := ?_) #[true, true, true, true, true, false] rfl rfl (by kernel_rfl) (fun _ _ _ h => h) (Or.inl ⟨by rfl, ?_⟩) hHeld ?_ ?_
              rotate_left
              · rintro w' ⟨s0, s1⟩
                go_simp
                with_reducible rfl
              rotate_left
              · simp only [Act.put, List.setIfInBounds_toArray, List.set_cons_zero, List.set_cons_succ, i64_w, i32_w]
                rfl
              refine pure_ (i := 5) (N := some 7) (v := ?_) (a' := ?_) #[true, true, true, true, true, true] rfl rfl (by kernel_rfl) (fun _ _ _ h => h) (Or.inl ⟨by rfl, ?_⟩) ?_ ?_
              rotate_left
              · intro w'
                go_simp
                with_reducible rfl
              rotate_left
              · simp only [Act.put, List.setIfInBounds_toArray, List.set_cons_zero, List.set_cons_succ, i64_w, i32_w]
                rfl
              refine done_ (by kernel_rfl) ?_

              go_wp2_with fail
              go_ret2
              exact ⟨_, by rw [hpk2]; rfl, by rw [hpk2]; exact Kd.R_drew hR5.out, below_drew1 hB6.out⟩
            · have d3 : ((T.length : Int) == 0) = false := by
                rw [beq_eq_false_iff_ne]
                omega
              rw [pickT_pos h0] at hpk2
              have hT4 : (T.length : Int) ≤ 4 := by omega
              have hCT := (Kd.R_reads' hT5.out).2.2
              have hct := (Kd.R_reads' hT5.out).2.1
              go_wp2_with fail
              refine (dover_Fits.calls 30 At ct T now (fitsS T now) wr hCT hct (fits_f (by omega) (by omega))).mono ?_
              rintro e w6 ⟨rfl, hb6⟩
              have hP6 := hP5.out.below hb6
              have hR6 := Kd.R_below hR5.out hb6
              have hB7 := below_step hB6.out hb6
              have hz7 : w.heap.size ≤ w6.heap.size := hB7.size
              have hT6 := Kd.R_below hT5.out hb6
              clear hb6 hP5 hR5 hB6 hT5 hCT hct q0 q1 hz5
              have q0 := (blk_cell hP6.g 0).trans (by rfl : _ = some (.pointer (some ⟨p, 0, none⟩)))
              have q1 := (blk_cell hP6.p 1).trans (by rfl : _ = some gv)
              replace hP6 := Aside0.mk hP6
              replace hR6 := Aside0.mk hR6
              replace hB7 := Aside0.mk hB7
              replace hz7 := Aside0.mk hz7
              replace hT6 := Aside0.mk hT6
              cases hft : fitsS T now with
              | true =>
                rw [hft, if_pos rfl] at hpk2
                obtain ⟨ad, rfl, hc0, hc1, hc2, hc3, hc4⟩ := at_T29 (Kd.R_reads' hT6.out).2.2 0 (by omega) (by omega)
                rw [show ((0 : Int).toNat * 5) = 0 from rfl, show rd_T29 T 0 = at_ T 0 from rfl] at hc0
                clear hc1 hc2 hc3 hc4
                have hc0' : w6.cell? ad = some (.int .i64 (at_ T 0).f0) := hc0
                clear hc0
                replace hpk2 := Aside0.mk hpk2
                have hj1 : (0 : Int) < (T.length : Int) := by omega
                go_wp2_with fail
                refine start_ (n := 10) (S := fun w' => w'.cell? ⟨g, 0, none⟩ = some (.pointer (some ⟨p, 0, none⟩)) ∧ w'.cell? ⟨p, 1, none⟩ = some gv ∧ w'.cell? ad = some (.int .i64 (at_ T 0).f0)) (ds := []) #[false, false, false, false, false, false, false, false, false, false] (by kernel_rfl) rfl rfl ⟨q0, q1, hc0'⟩ (fun hHeld => ?_)
                refine pure_ (i := 0) (N := some 76) (v := ?_) (a' := ?_) #[true, false, false, false, false, false, false, false, false, false] rfl rfl (by kernel_rfl) (fun _ _ _ h => h) (Or.inl ⟨by rfl, ?_⟩) ?_ ?_
                rotate_left
                · intro w'
                  go_simp
                  with_reducible rfl
                rotate_left
                · simp only [Act.put, List.setIfInBounds_toArray, List.set_cons_zero, List.set_cons_succ, i64_w, i32_w]
                  rfl
                refine pure_ (i := 1) (N := some 77) (v := ?_) (a' := ?_) #[true, true, false, false, false, false, false, false, false, false] rfl rfl (by kernel_rfl) (fun _ _ _ h => h) (Or.inl ⟨by rfl, ?_⟩) ?_ ?_
                rotate_left
                · intro w'
                  go_simp
                  with_reducible rfl
                rotate_left
                · simp only [Act.put, List.setIfInBounds_toArray, List.set_cons_zero, List.set_cons_succ, i64_w, i32_w]
                  rfl
                refine pure_ (i := 2) (N := some 78) (v := ?_) (a' := ?_) #[true, true, true, false, false, false, false, false, false, false] rfl rfl (by kernel_rfl) (fun _ _ _ h => h) (Or.inl ⟨by rfl, ?_⟩) ?_ ?_
                rotate_left
                · intro w'
                  go_simp
                  with_reducible rfl
                rotate_left
                · simp only [Act.put, List.setIfInBounds_toArray, List.set_cons_zero, List.set_cons_succ, i64_w, i32_w]
                  rfl
                refine take_ (i := 3) (N := some 79) (v := ?_) (a' := ?_) #[true, true, true, true, false, false, false, false, false, false] rfl rfl (by kernel_rfl) (fun _ _ _ h => h) (Or.inl ⟨by rfl, ?_⟩) hHeld ?_ ?_
                rotate_left
                · rintro w' ⟨s0, s1, s2⟩
                  go_simp
                  with_reducible rfl
                rotate_left
                · simp only [Act.put, List.setIfInBounds_toArray, List.set_cons_zero, List.set_cons_succ, i64_w, i32_w]
                  rfl
                refine pure_ (i := 8) (N := some 6) (v := ?_) (a' := ?_) #[true, true, true, true, false, false, false, false, true, false] rfl rfl (by kernel_rfl) (fun _ _ _ h => h) (Or.inl ⟨by rfl, ?_⟩) ?_ ?_
                rotate_left
                · intro w'
                  go_simp
                  with_reducible rfl
                rotate_left
                · simp only [Act.put, List.setIfInBounds_toArray, List.set_cons_zero, List.set_cons_succ, i64_w, i32_w]
                  rfl
                refine take_ (i := 4) (N := some 80) (v := ?_) (a' := ?_) #[true, true, true, true, true, false, false, false, true, false] rfl rfl (by kernel_rfl) (fun _ _ _ h => h) (Or.inl ⟨by rfl, ?_⟩) hHeld ?_ ?_
                rotate_left
                · rintro w' ⟨s0, s1, s2⟩
                  go_simp
                  with_reducible rfl
                rotate_left
                · simp only [Act.put, List.setIfInBounds_toArray, List.set_cons_zero, List.set_cons_succ, i64_w, i32_w]
                  rfl
                refine pure_ (i := 5) (N := some 81) (v := ?_) (a' := ?_) #[true, true, true, true, true, true, false, false, true, false] rfl rfl (by kernel_rfl) (fun _ _ _ h => h) (Or.inl ⟨by rfl, ?_⟩) ?_ ?_
                rotate_left
                · intro w'
                  go_simp
                  with_reducible rfl
                rotate_left
                · simp only [Act.put, List.setIfInBounds_toArray, List.set_cons_zero, List.set_cons_succ, i64_w, i32_w]
                  rfl
                refine pure_ (i := 6) (N := some 82) (v := ?_) (a' := ?_) #[true, true, true, true, true, true, true, false, true, false] rfl rfl (by kernel_rfl) (fun _ _ _ h => h) (Or.inl ⟨by rfl, ?_⟩) ?_ ?_
                rotate_left
                · intro w'
                  go_simp
                  with_reducible rfl
                rotate_left
                · simp only [Act.put, List.setIfInBounds_toArray, List.set_cons_zero, List.set_cons_succ, i64_w, i32_w]
                  rfl
                refine take_ (i := 7) (N := some 83) (v := ?_) (a' := ?_) #[true, true, true, true, true, true, true, true, true, false] rfl rfl (by kernel_rfl) (fun _ _ _ h => h) (Or.inl ⟨by rfl, ?_⟩) hHeld ?_ ?_
                rotate_left
                · rintro w' ⟨s0, s1, s2⟩
                  go_simp
                  with_reducible rfl
                rotate_left
                · simp only [Act.put, List.setIfInBounds_toArray, List.set_cons_zero, List.set_cons_succ, i64_w, i32_w]
                  rfl
                refine pure_ (i := 9) (N := some 7) (v := ?_) (a' := ?_) #[true, true, true, true, true, true, true, true, true, true] rfl rfl (by kernel_rfl) (fun _ _ _ h => h) (Or.inl ⟨by rfl, ?_⟩) ?_ ?_
                rotate_left
                · intro w'
                  go_simp
                  with_reducible rfl
                rotate_left
                · simp only [Act.put, List.setIfInBounds_toArray, List.set_cons_zero, List.set_cons_succ, i64_w, i32_w]
                  rfl
                refine done_ (by kernel_rfl) ?_

                go_wp2_with fail
                go_ret2
                exact ⟨_, by rw [hpk2.out]; rfl, by rw [hpk2.out]; exact Kd.R_drew hR6.out, below_drew1 hB7.out⟩
              | false =>
                rw [hft, if_neg (by simp)] at hpk2
                replace hpk2 := Aside0.mk hpk2
                clear q0 q1
                have hG4 : G.length ≤ 4 := by omega
                go_wp2_with fail
                go_loopw [86] (fun v wr => ∃ (j : Nat) (gv' : Value) (M' : List S29) (G' : List Int) (cur' : Int), v = .int .i64 (j : Int) ∧ j ≤ T.length ∧ G'.length ≤ 4 + j ∧ Aside0 (picks (T.drop j) now M' G' cur' = picks T now M G cur) ∧ Aside0 (PS wr g p m gv' cur' M') ∧ Aside0 (Kd.R (Kd.int .i64) 3 wr w.heap.size (fun _ => True) gv' G') ∧ Aside0 (Below w.heap.size w wr) ∧ Aside0 (Kd.R k29 29 wr w.heap.size (fun _ => True) (.slice At T.length ct) T)) (fun v _ => T.length - (intOf v).toNat)
                case atStart => exact ⟨0, gv, M, G, cur, rfl, by omega, by omega, ⟨rfl⟩, hP6, hR6, hB7, hT6⟩
                case round =>
                  clear hP6 hR6 hB7 hT6
                  obtain ⟨j, gv', M', G', cur', rfl, hj', hGl', hpi, hP, hR, hB, hT⟩ := hrel
                  by_cases h3 : j < T.length
                  · have d1 : decide ((j : Int) < (T.length : Int)) = true := decide_eq_true (by omega)
                    obtain ⟨ad, rfl, hc0, hc1, hc2, hc3, hc4⟩ := at_T29 (Kd.R_reads' hT.out).2.2 (j : Int) (by omega) (by omega)
                    rw [Int.toNat_natCast] at hc0 hc1 hc2 hc3 hc4
                    rw [rd_at] at hc0 hc1 hc2 hc3 hc4
                    have hj0 : (0 : Int) ≤ j := by omega
                    have hj1 : (j : Int) < (T.length : Int) := by omega
                    have hpi' := hpi.out
                    rw [List.drop_eq_getElem_cons h3, ← at_get h3] at hpi'
                    generalize at_ T j = a at hc0 hc1 hc2 hc3 hc4 hpi'
                    rw [picks] at hpi'
                    have hPa := hP.out.alloc (.cells #[.int .i64 a.f0, .int .i64 a.f1, .int .i64 a.f2, .int .i64 a.f3, .int .i64 a.f4] 29 (0, 0))
                    have hna := blk_new wr (.cells #[.int .i64 a.f0, .int .i64 a.f1, .int .i64 a.f2, .int .i64 a.f3, .int .i64 a.f4] 29 (0, 0))
                    have hBa := below_alloc hB.out (.cells #[.int .i64 a.f0, .int .i64 a.f1, .int .i64 a.f2, .int .i64 a.f3, .int .i64 a.f4] 29 (0, 0))
                    have hRa := Kd.R_alloc hR.out (.cells #[.int .i64 a.f0, .int .i64 a.f1, .int .i64 a.f2, .int .i64 a.f3, .int .i64 a.f4] 29 (0, 0))
                    have hTa := Kd.R_alloc hT.out (.cells #[.int .i64 a.f0, .int .i64 a.f1, .int .i64 a.f2, .int .i64 a.f3, .int .i64 a.f4] 29 (0, 0))
                    have q0 := (blk_cell hPa.g 0).trans (by rfl : _ = some (.pointer (some ⟨p, 0, none⟩)))
                    have q1 := (blk_cell hPa.p 2).trans (by rfl : _ = some (.int .i64 cur'))
                    have q2 := (blk_cell hna 0).trans (by rfl : _ = some (.int .i64 a.f0))
                    have q3 := (blk_cell hna 1).trans (by rfl : _ = some (.int .i64 a.f1))
                    have q4 := (blk_cell hna 2).trans (by rfl : _ = some (.int .i64 a.f2))
                    have q5 := (blk_cell hna 3).trans (by rfl : _ = some (.int .i64 a.f3))
                    have q6 := (blk_cell hna 4).trans (by rfl : _ = some (.int .i64 a.f4))
                    replace hpi' := Aside0.mk hpi'
                    replace hPa := Aside0.mk hPa
                    replace hna := Aside0.mk hna
                    replace hBa := Aside0.mk hBa
                    replace hRa := Aside0.mk hRa
                    replace hTa := Aside0.mk hTa
                    clear hP hB hR hT hpi
                    by_cases h5 : a.f0 = cur'
                    · have d5 : (a.f0 == cur') = true := beq_iff_eq.mpr h5
                      have hpi2 := hpi'.out
                      rw [if_pos (Or.inl h5)] at hpi2
                      replace hpi2 := Aside0.mk hpi2
                      replace h5 := Aside0.mk h5
                      go_wp2_with fail
                      refine start_ (n := 14) (S := fun w' => w'.cell? ⟨g, 0, none⟩ = some (.pointer (some ⟨p, 0, none⟩)) ∧ w'.cell? ⟨p, 2, none⟩ = some (.int .i64 cur') ∧ w'.cell? ⟨wr.heap.size, 0, none⟩ = some (.int .i64 a.f0) ∧ w'.cell? ⟨wr.heap.size, 1, none⟩ = some (.int .i64 a.f1) ∧ w'.cell? ⟨wr.heap.size, 2, none⟩ = some (.int .i64 a.f2) ∧ w'.cell? ⟨wr.heap.size, 3, none⟩ = some (.int .i64 a.f3) ∧ w'.cell? ⟨wr.heap.size, 4, none⟩ = some (.int .i64 a.f4)) (ds := []) #[false, false, false, false, false, false, false, false, false, false, false, false, false, false] (by kernel_rfl) rfl rfl ⟨q0, q1, q2, q3, q4, q5, q6⟩ (fun hHeld => ?_)
                      refine pure_ (i := 0) (N := some 95) (v := ?_) (a' := ?_) #[true, false, false, false, false, false, false, false, false, false, false, false, false, false] rfl rfl (by kernel_rfl) (fun _ _ _ h => h) (Or.inl ⟨by rfl, ?_⟩) ?_ ?_
                      rotate_left
                      · intro w'
                        go_simp
                        with_reducible rfl
                      rotate_left
                      · simp only [Act.put, List.setIfInBounds_toArray, List.set_cons_zero, List.set_cons_succ, i64_w, i32_w]
                        rfl
                      refine take_ (i := 1) (N := some 96) (v := ?_) (a' := ?_) #[true, true, false, false, false, false, false, false, false, false, false, false, false, false] rfl rfl (by kernel_rfl) (fun _ _ _ h => h) (Or.inl ⟨by rfl, ?_⟩) hHeld ?_ ?_
                      rotate_left
                      · rintro w' ⟨s0, s1, s2, s3, s4, s5, s6⟩
                        go_simp
                        with_reducible rfl
                      rotate_left
                      · simp only [Act.put, List.setIfInBounds_toArray, List.set_cons_zero, List.set_cons_succ, i64_w, i32_w]
                        rfl
                      refine take_ (i := 2) (N := some 97) (v := ?_) (a' := ?_) #[true, true, true, false, false, false, false, false, false, false, false, false, false, false] rfl rfl (by kernel_rfl) (fun _ _ _ h => h) (Or.inl ⟨by rfl, ?_⟩) hHeld ?_ ?_
                      rotate_left
                      · rintro w' ⟨s0, s1, s2, s3, s4, s5, s6⟩
                        go_simp
                        with_reducible rfl
                      rotate_left
                      · simp only [Act.put, List.setIfInBounds_toArray, List.set_cons_zero, List.set_cons_succ, i64_w, i32_w]
                        rfl
                      refine pure_ (i := 3) (N := some 98) (v := ?_) (a' := ?_) #[true, true, true, true, false, false, false, false, false, false, false, false, false, false] rfl rfl (by kernel_rfl) (fun _ _ _ h => h) (Or.inl ⟨by rfl, ?_⟩) ?_ ?_
                      rotate_left
                      · intro w'
                        go_simp
                        with_reducible rfl
                      rotate_left
                      · simp only [Act.put, List.setIfInBounds_toArray, List.set_cons_zero, List.set_cons_succ, i64_w, i32_w]
                        rfl
                      refine pure_ (i := 4) (N := some 99) (v := ?_) (a' := ?_) #[true, true, true, true, true, false, false, false, false, false, false, false, false, false] rfl rfl (by kernel_rfl) (fun _ _ _ h => h) (Or.inl ⟨by rfl, ?_⟩) ?_ ?_
                      rotate_left
                      · intro w'
                        go_simp
                        with_reducible rfl
                      rotate_left
                      · simp only [Act.put, List.setIfInBounds_toArray, List.set_cons_zero, List.set_cons_succ, i64_w, i32_w]
                        rfl
                      refine take_ (i := 5) (N := some 100) (v := ?_) (a' := ?_) #[true, true, true, true, true, true, false, false, false, false, false, false, false, false] rfl rfl (by kernel_rfl) (fun _ _ _ h => h) (Or.inl ⟨by rfl, ?_⟩) hHeld ?_ ?_
                      rotate_left
                      · rintro w' ⟨s0, s1, s2, s3, s4, s5, s6⟩
                        go_simp
                        with_reducible rfl
                      rotate_left
                      · simp only [Act.put, List.setIfInBounds_toArray, List.set_cons_zero, List.set_cons_succ, i64_w, i32_w]
                        rfl
                      refine pure_ (i := 6) (N := some 101) (v := ?_) (a' := ?_) #[true, true, true, true, true, true, true, false, false, false, false, false, false, false] rfl rfl (by kernel_rfl) (fun _ _ _ h => h) (Or.inl ⟨by rfl, ?_⟩) ?_ ?_
                      rotate_left
                      · intro w'
                        go_simp
                        with_reducible rfl
                      rotate_left
                      · simp only [Act.put, List.setIfInBounds_toArray, List.set_cons_zero, List.set_cons_succ, i64_w, i32_w]
                        rfl
                      refine pure_ (i := 7) (N := some 102) (v := ?_) (a' := ?_) #[true, true, true, true, true, true, true, true, false, false, false, false, false, false] rfl rfl (by kernel_rfl) (fun _ _ _ h => h) (Or.inl ⟨by rfl, ?_⟩) ?_ ?_
                      rotate_left
                      · intro w'
                        go_simp
                        with_reducible rfl
                      rotate_left
                      · simp only [Act.put, List.setIfInBounds_toArray, List.set_cons_zero, List.set_cons_succ, i64_w, i32_w]
                        rfl
                      refine pure_ (i := 8) (N := some 103) (v := undef) (a' := ?_) #[true, true, true, true, true, true, true, true, true, false, false, false, false, false] rfl rfl (by kernel_rfl) (fun _ _ _ h => h) (Or.inr ⟨by rfl, rfl⟩) ?_ ?_
                      rotate_left
                      · simp only [Act.put, List.setIfInBounds_toArray, List.set_cons_zero, List.set_cons_succ, i64_w, i32_w]
                        rfl
                      refine pure_ (i := 9) (N := some 104) (v := undef) (a' := ?_) #[true, true, true, true, true, true, true, true, true, true, false, false, false, false] rfl rfl (by kernel_rfl) (fun _ _ _ h => h) (Or.inr ⟨by rfl, rfl⟩) ?_ ?_
                      rotate_left
                      · simp only [Act.put, List.setIfInBounds_toArray, List.set_cons_zero, List.set_cons_succ, i64_w, i32_w]
                        rfl
                      refine pure_ (i := 10) (N := some 105) (v := undef) (a' := ?_) #[true, true, true, true, true, true, true, true, true, true, true, false, false, false] rfl rfl (by kernel_rfl) (fun _ _ _ h => h) (Or.inr ⟨by rfl, rfl⟩) ?_ ?_
                      rotate_left
                      · simp only [Act.put, List.setIfInBounds_toArray, List.set_cons_zero, List.set_cons_succ, i64_w, i32_w]
                        rfl
                      refine pure_ (i := 11) (N := some 106) (v := undef) (a' := ?_) #[true, true, true, true, true, true, true, true, true, true, true, true, false, false] rfl rfl (by kernel_rfl) (fun _ _ _ h => h) (Or.inr ⟨by rfl, rfl⟩) ?_ ?_
                      rotate_left
                      · simp only [Act.put, List.setIfInBounds_toArray, List.set_cons_zero, List.set_cons_succ, i64_w, i32_w]
                        rfl
                      refine pure_ (i := 12) (N := some 107) (v := ?_) (a' := ?_) #[true, true, true, true, true, true, true, true, true, true, true, true, true, false] rfl rfl (by kernel_rfl) (fun _ _ _ h => h) (Or.inl ⟨by rfl, ?_⟩) ?_ ?_
                      rotate_left
                      · intro w'
                        go_simp
                        with_reducible rfl
                      rotate_left
                      · simp only [Act.put, List.setIfInBounds_toArray, List.set_cons_zero, List.set_cons_succ, i64_w, i32_w]
                        rfl
                      refine pure_ (i := 13) (N := some 94) (v := ?_) (a' := ?_) #[true, true, true, true, true, true, true, true, true, true, true, true, true, true] rfl rfl (by kernel_rfl) (fun _ _ _ h => h) (Or.inl ⟨by rfl, ?_⟩) ?_ ?_
                      rotate_left
                      · intro w'
                        go_simp
                        with_reducible rfl
                      rotate_left
                      · simp only [Act.put, List.setIfInBounds_toArray, List.set_cons_zero, List.set_cons_succ, i64_w, i32_w]
                        rfl
                      refine done_ (by kernel_rfl) ?_

                      go_wp2_with fail
                      go_roundw
                      case rel => exact ⟨j + 1, gv', M', G', cur', rfl, by omega, by omega, hpi2, ⟨hPa.out.below (below_drew1 (Below.refl _ _))⟩, ⟨Kd.R_drew hRa.out⟩, ⟨below_drew1 hBa.out⟩, ⟨Kd.R_drew hTa.out⟩⟩
                      case measure => simp [intOf] <;> omega
                    · have d5 : (a.f0 == cur') = false := by
                        rw [beq_eq_false_iff_ne]
                        exact h5
                      replace h5 := Aside0.mk h5
                      by_cases h6 : laxS a now > 0
                      · have d6 : decide (0 < laxS a now) = true := decide_eq_true h6
                        have hpi2 := hpi'.out
                        rw [if_pos (Or.inr h6)] at hpi2
                        replace hpi2 := Aside0.mk hpi2
                        replace h6 := Aside0.mk h6
                        go_wp2_with fail
                        refine start_ (n := 14) (S := fun w' => w'.cell? ⟨g, 0, none⟩ = some (.pointer (some ⟨p, 0, none⟩)) ∧ w'.cell? ⟨p, 2, none⟩ = some (.int .i64 cur') ∧ w'.cell? ⟨wr.heap.size, 0, none⟩ = some (.int .i64 a.f0) ∧ w'.cell? ⟨wr.heap.size, 1, none⟩ = some (.int .i64 a.f1) ∧ w'.cell? ⟨wr.heap.size, 2, none⟩ = some (.int .i64 a.f2) ∧ w'.cell? ⟨wr.heap.size, 3, none⟩ = some (.int .i64 a.f3) ∧ w'.cell? ⟨wr.heap.size, 4, none⟩ = some (.int .i64 a.f4)) (ds := []) #[false, false, false, false, false, false, false, false, false, false, false, false, false, false] (by kernel_rfl) rfl rfl ⟨q0, q1, q2, q3, q4, q5, q6⟩ (fun hHeld => ?_)
                        refine pure_ (i := 0) (N := some 95) (v := ?_) (a' := ?_) #[true, false, false, false, false, false, false, false, false, false, false, false, false, false] rfl rfl (by kernel_rfl) (fun _ _ _ h => h) (Or.inl ⟨by rfl, ?_⟩) ?_ ?_
                        rotate_left
                        · intro w'
                          go_simp
                          with_reducible rfl
                        rotate_left
                        · simp only [Act.put, List.setIfInBounds_toArray, List.set_cons_zero, List.set_cons_succ, i64_w, i32_w]
                          rfl
                        refine take_ (i := 1) (N := some 96) (v := ?_) (a' := ?_) #[true, true, false, false, false, false, false, false, false, false, false, false, false, false] rfl rfl (by kernel_rfl) (fun _ _ _ h => h) (Or.inl ⟨by rfl, ?_⟩) hHeld ?_ ?_
                        rotate_left
                        · rintro w' ⟨s0, s1, s2, s3, s4, s5, s6⟩
                          go_simp
                          with_reducible rfl
                        rotate_left
                        · simp only [Act.put, List.setIfInBounds_toArray, List.set_cons_zero, List.set_cons_succ, i64_w, i32_w]
                          rfl
                        refine take_ (i := 2) (N := some 97) (v := ?_) (a' := ?_) #[true, true, true, false, false, false, false, false, false, false, false, false, false, false] rfl rfl (by kernel_rfl) (fun _ _ _ h => h) (Or.inl ⟨by rfl, ?_⟩) hHeld ?_ ?_
                        rotate_left
                        · rintro w' ⟨s0, s1, s2, s3, s4, s5, s6⟩
                          go_simp
                          with_reducible rfl
                        rotate_left
                        · simp only [Act.put, List.setIfInBounds_toArray, List.set_cons_zero, List.set_cons_succ, i64_w, i32_w]
                          rfl
                        refine pure_ (i := 3) (N := some 98) (v := ?_) (a' := ?_) #[true, true, true, true, false, false, false, false, false, false, false, false, false, false] rfl rfl (by kernel_rfl) (fun _ _ _ h => h) (Or.inl ⟨by rfl, ?_⟩) ?_ ?_
                        rotate_left
                        · intro w'
                          go_simp
                          with_reducible rfl
                        rotate_left
                        · simp only [Act.put, List.setIfInBounds_toArray, List.set_cons_zero, List.set_cons_succ, i64_w, i32_w]
                          rfl
                        refine pure_ (i := 4) (N := some 99) (v := ?_) (a' := ?_) #[true, true, true, true, true, false, false, false, false, false, false, false, false, false] rfl rfl (by kernel_rfl) (fun _ _ _ h => h) (Or.inl ⟨by rfl, ?_⟩) ?_ ?_
                        rotate_left
                        · intro w'
                          go_simp
                          with_reducible rfl
                        rotate_left
                        · simp only [Act.put, List.setIfInBounds_toArray, List.set_cons_zero, List.set_cons_succ, i64_w, i32_w]
                          rfl
                        refine take_ (i := 5) (N := some 100) (v := ?_) (a' := ?_) #[true, true, true, true, true, true, false, false, false, false, false, false, false, false] rfl rfl (by kernel_rfl) (fun _ _ _ h => h) (Or.inl ⟨by rfl, ?_⟩) hHeld ?_ ?_
                        rotate_left
                        · rintro w' ⟨s0, s1, s2, s3, s4, s5, s6⟩
                          go_simp
                          with_reducible rfl
                        rotate_left
                        · simp only [Act.put, List.setIfInBounds_toArray, List.set_cons_zero, List.set_cons_succ, i64_w, i32_w]
                          rfl
                        refine pure_ (i := 6) (N := some 101) (v := ?_) (a' := ?_) #[true, true, true, true, true, true, true, false, false, false, false, false, false, false] rfl rfl (by kernel_rfl) (fun _ _ _ h => h) (Or.inl ⟨by rfl, ?_⟩) ?_ ?_
                        rotate_left
                        · intro w'
                          go_simp
                          with_reducible rfl
                        rotate_left
                        · simp only [Act.put, List.setIfInBounds_toArray, List.set_cons_zero, List.set_cons_succ, i64_w, i32_w]
                          rfl
                        refine pure_ (i := 7) (N := some 102) (v := ?_) (a' := ?_) #[true, true, true, true, true, true, true, true, false, false, false, false, false, false] rfl rfl (by kernel_rfl) (fun _ _ _ h => h) (Or.inl ⟨by rfl, ?_⟩) ?_ ?_
                        rotate_left
                        · intro w'
                          go_simp
                          with_reducible rfl
                        rotate_left
                        · simp only [Act.put, List.setIfInBounds_toArray, List.set_cons_zero, List.set_cons_succ, i64_w, i32_w]
                          rfl
                        refine pure_ (i := 9) (N := some 104) (v := ?_) (a' := ?_) #[true, true, true, true, true, true, true, true, false, true, false, false, false, false] rfl rfl (by kernel_rfl) (fun _ _ _ h => h) (Or.inl ⟨by rfl, ?_⟩) ?_ ?_
                        rotate_left
                        · intro w'
                          go_simp
                          with_reducible rfl
                        rotate_left
                        · simp only [Act.put, List.setIfInBounds_toArray, List.set_cons_zero, List.set_cons_succ, i64_w, i32_w]
                          rfl
                        refine take_ (i := 8) (N := some 103) (v := ?_) (a' := ?_) #[true, true, true, true, true, true, true, true, true, true, false, false, false, false] rfl rfl (by kernel_rfl) (fun _ _ _ h => h) (Or.inl ⟨by rfl, ?_⟩) hHeld ?_ ?_
                        rotate_left
                        · rintro w' ⟨s0, s1, s2, s3, s4, s5, s6⟩
                          go_simp
                          with_reducible rfl
                        rotate_left
                        · simp only [Act.put, List.setIfInBounds_toArray, List.set_cons_zero, List.set_cons_succ, i64_w, i32_w]
                          rfl
                        refine one_ (i := 10) (N := some 105) #[true, true, true, true, true, true, true, true, true, true, true, false, false, false] rfl rfl (by kernel_rfl) (by decide) (fun K hK => ?_)
                        refine goes_ Try.func13 (by kernel_rfl) rfl #[.agg #[.int .i64 a.f0, .int .i64 a.f1, .int .i64 a.f2, .int .i64 a.f3, .int .i64 a.f4], .int .i64 now] (by rfl) rfl rfl (by simp only [List.map_toArray, List.map_cons, List.map_nil]; rfl) ?_
                        with_reducible refine (dover_Lax.calls _ _ _ _ _ _ _ _ (lax_f a now)).mono ?_
                        rintro e w3 ⟨rfl, hb⟩
                        refine ⟨_, rfl, ?_⟩
                        have hB9 := Aside0.mk (below_step (below_drew1 (Below.refl (wr.alloc (.cells #[.int .i64 a.f0, .int .i64 a.f1, .int .i64 a.f2, .int .i64 a.f3, .int .i64 a.f4] 29 (0, 0))).heap.size (wr.alloc (.cells #[.int .i64 a.f0, .int .i64 a.f1, .int .i64 a.f2, .int .i64 a.f3, .int .i64 a.f4] 29 (0, 0))))) hb)
                        have hP3 := Aside0.mk (hPa.out.below hB9.out)
                        have hn3 := Aside0.mk (blk_below hna.out hB9.out)
                        clear hb
                        refine hK.out _ _ ⟨((blk_cell hP3.out.g 0).trans rfl), ((blk_cell hP3.out.p 2).trans rfl), ((blk_cell hn3.out 0).trans rfl), ((blk_cell hn3.out 1).trans rfl), ((blk_cell hn3.out 2).trans rfl), ((blk_cell hn3.out 3).trans rfl), ((blk_cell hn3.out 4).trans rfl)⟩ (fun hHeld => ?_)
                        clear hK K
                        refine norm_ (a' := ?_) ?_ ?_
                        rotate_left
                        · show Act.put _ (some 105) _ = _
                          simp only [Act.put, List.setIfInBounds_toArray, List.set_cons_zero, List.set_cons_succ, i64_w, i32_w]
                          rfl
                        refine pure_ (i := 11) (N := some 106) (v := ?_) (a' := ?_) #[true, true, true, true, true, true, true, true, true, true, true, true, false, false] rfl rfl (by kernel_rfl) (fun _ _ _ h => h) (Or.inl ⟨by rfl, ?_⟩) ?_ ?_
                        rotate_left
                        · intro w'
                          go_simp
                          with_reducible rfl
                        rotate_left
                        · simp only [Act.put, List.setIfInBounds_toArray, List.set_cons_zero, List.set_cons_succ, i64_w, i32_w]
                          rfl
                        refine pure_ (i := 12) (N := some 107) (v := ?_) (a' := ?_) #[true, true, true, true, true, true, true, true, true, true, true, true, true, false] rfl rfl (by kernel_rfl) (fun _ _ _ h => h) (Or.inl ⟨by rfl, ?_⟩) ?_ ?_
                        rotate_left
                        · intro w'
                          go_simp
                          with_reducible rfl
                        rotate_left
                        · simp only [Act.put, List.setIfInBounds_toArray, List.set_cons_zero, List.set_cons_succ, i64_w, i32_w]
                          rfl
                        refine pure_ (i := 13) (N := some 94) (v := ?_) (a' := ?_) #[true, true, true, true, true, true, true, true, true, true, true, true, true, true] rfl rfl (by kernel_rfl) (fun _ _ _ h => h) (Or.inl ⟨by rfl, ?_⟩) ?_ ?_
                        rotate_left
                        · intro w'
                          go_simp
                          with_reducible rfl
                        rotate_left
                        · simp only [Act.put, List.setIfInBounds_toArray, List.set_cons_zero, List.set_cons_succ, i64_w, i32_w]
                          rfl
                        refine done_ (by kernel_rfl) ?_

                        go_wp2_with fail
                        go_roundw
                        case rel => exact ⟨j + 1, gv', M', G', cur', rfl, by omega, by omega, hpi2, hP3, ⟨Kd.R_below hRa.out hB9.out⟩, ⟨below_step hBa.out hB9.out⟩, ⟨Kd.R_below hTa.out hB9.out⟩⟩
                        case measure => simp [intOf] <;> omega
                      · have d6 : decide (0 < laxS a now) = false := decide_eq_false h6
                        have hpi2 := hpi'.out
                        rw [if_neg (fun h => h.elim h5.out h6)] at hpi2
                        replace h6 := Aside0.mk h6
                        replace hpi2 := Aside0.mk hpi2
                        go_wp2_with fail
                        refine start_ (n := 14) (S := fun w' => w'.cell? ⟨g, 0, none⟩ = some (.pointer (some ⟨p, 0, none⟩)) ∧ w'.cell? ⟨p, 2, none⟩ = some (.int .i64 cur') ∧ w'.cell? ⟨wr.heap.size, 0, none⟩ = some (.int .i64 a.f0) ∧ w'.cell? ⟨wr.heap.size, 1, none⟩ = some (.int .i64 a.f1) ∧ w'.cell? ⟨wr.heap.size, 2, none⟩ = some (.int .i64 a.f2) ∧ w'.cell? ⟨wr.heap.size, 3, none⟩ = some (.int .i64 a.f3) ∧ w'.cell? ⟨wr.heap.size, 4, none⟩ = some (.int .i64 a.f4)) (ds := []) #[false, false, false, false, false, false, false, false, false, false, false, false, false, false] (by kernel_rfl) rfl rfl ⟨q0, q1, q2, q3, q4, q5, q6⟩ (fun hHeld => ?_)
                        refine pure_ (i := 0) (N := some 95) (v := ?_) (a' := ?_) #[true, false, false, false, false, false, false, false, false, false, false, false, false, false] rfl rfl (by kernel_rfl) (fun _ _ _ h => h) (Or.inl ⟨by rfl, ?_⟩) ?_ ?_
                        rotate_left
                        · intro w'
                          go_simp
                          with_reducible rfl
                        rotate_left
                        · simp only [Act.put, List.setIfInBounds_toArray, List.set_cons_zero, List.set_cons_succ, i64_w, i32_w]
                          rfl
                        refine take_ (i := 1) (N := some 96) (v := ?_) (a' := ?_) #[true, true, false, false, false, false, false, false, false, false, false, false, false, false] rfl rfl (by kernel_rfl) (fun _ _ _ h => h) (Or.inl ⟨by rfl, ?_⟩) hHeld ?_ ?_
                        rotate_left
                        · rintro w' ⟨s0, s1, s2, s3, s4, s5, s6⟩
                          go_simp
                          with_reducible rfl
                        rotate_left
                        · simp only [Act.put, List.setIfInBounds_toArray, List.set_cons_zero, List.set_cons_succ, i64_w, i32_w]
                          rfl
                        refine take_ (i := 2) (N := some 97) (v := ?_) (a' := ?_) #[true, true, true, false, false, false, false, false, false, false, false, false, false, false] rfl rfl (by kernel_rfl) (fun _ _ _ h => h) (Or.inl ⟨by rfl, ?_⟩) hHeld ?_ ?_
                        rotate_left
                        · rintro w' ⟨s0, s1, s2, s3, s4, s5, s6⟩
                          go_simp
                          with_reducible rfl
                        rotate_left
                        · simp only [Act.put, List.setIfInBounds_toArray, List.set_cons_zero, List.set_cons_succ, i64_w, i32_w]
                          rfl
                        refine pure_ (i := 3) (N := some 98) (v := ?_) (a' := ?_) #[true, true, true, true, false, false, false, false, false, false, false, false, false, false] rfl rfl (by kernel_rfl) (fun _ _ _ h => h) (Or.inl ⟨by rfl, ?_⟩) ?_ ?_
                        rotate_left
                        · intro w'
                          go_simp
                          with_reducible rfl
                        rotate_left
                        · simp only [Act.put, List.setIfInBounds_toArray, List.set_cons_zero, List.set_cons_succ, i64_w, i32_w]
                          rfl
                        refine pure_ (i := 4) (N := some 99) (v := ?_) (a' := ?_) #[true, true, true, true, true, false, false, false, false, false, false, false, false, false] rfl rfl (by kernel_rfl) (fun _ _ _ h => h) (Or.inl ⟨by rfl, ?_⟩) ?_ ?_
                        rotate_left
                        · intro w'
                          go_simp
                          with_reducible rfl
                        rotate_left
                        · simp only [Act.put, List.setIfInBounds_toArray, List.set_cons_zero, List.set_cons_succ, i64_w, i32_w]
                          rfl
                        refine take_ (i := 5) (N := some 100) (v := ?_) (a' := ?_) #[true, true, true, true, true, true, false, false, false, false, false, false, false, false] rfl rfl (by kernel_rfl) (fun _ _ _ h => h) (Or.inl ⟨by rfl, ?_⟩) hHeld ?_ ?_
                        rotate_left
                        · rintro w' ⟨s0, s1, s2, s3, s4, s5, s6⟩
                          go_simp
                          with_reducible rfl
                        rotate_left
                        · simp only [Act.put, List.setIfInBounds_toArray, List.set_cons_zero, List.set_cons_succ, i64_w, i32_w]
                          rfl
                        refine pure_ (i := 6) (N := some 101) (v := ?_) (a' := ?_) #[true, true, true, true, true, true, true, false, false, false, false, false, false, false] rfl rfl (by kernel_rfl) (fun _ _ _ h => h) (Or.inl ⟨by rfl, ?_⟩) ?_ ?_
                        rotate_left
                        · intro w'
                          go_simp
                          with_reducible rfl
                        rotate_left
                        · simp only [Act.put, List.setIfInBounds_toArray, List.set_cons_zero, List.set_cons_succ, i64_w, i32_w]
                          rfl
                        refine pure_ (i := 7) (N := some 102) (v := ?_) (a' := ?_) #[true, true, true, true, true, true, true, true, false, false, false, false, false, false] rfl rfl (by kernel_rfl) (fun _ _ _ h => h) (Or.inl ⟨by rfl, ?_⟩) ?_ ?_
                        rotate_left
                        · intro w'
                          go_simp
                          with_reducible rfl
                        rotate_left
                        · simp only [Act.put, List.setIfInBounds_toArray, List.set_cons_zero, List.set_cons_succ, i64_w, i32_w]
                          rfl
                        refine pure_ (i := 9) (N := some 104) (v := ?_) (a' := ?_) #[true, true, true, true, true, true, true, true, false, true, false, false, false, false] rfl rfl (by kernel_rfl) (fun _ _ _ h => h) (Or.inl ⟨by rfl, ?_⟩) ?_ ?_
                        rotate_left
                        · intro w'
                          go_simp
                          with_reducible rfl
                        rotate_left
                        · simp only [Act.put, List.setIfInBounds_toArray, List.set_cons_zero, List.set_cons_succ, i64_w, i32_w]
                          rfl
                        refine take_ (i := 8) (N := some 103) (v := ?_) (a' := ?_) #[true, true, true, true, true, true, true, true, true, true, false, false, false, false] rfl rfl (by kernel_rfl) (fun _ _ _ h => h) (Or.inl ⟨by rfl, ?_⟩) hHeld ?_ ?_
                        rotate_left
                        · rintro w' ⟨s0, s1, s2, s3, s4, s5, s6⟩
                          go_simp
                          with_reducible rfl
                        rotate_left
                        · simp only [Act.put, List.setIfInBounds_toArray, List.set_cons_zero, List.set_cons_succ, i64_w, i32_w]
                          rfl
                        refine one_ (i := 10) (N := some 105) #[true, true, true, true, true, true, true, true, true, true, true, false, false, false] rfl rfl (by kernel_rfl) (by decide) (fun K hK => ?_)
                        refine goes_ Try.func13 (by kernel_rfl) rfl #[.agg #[.int .i64 a.f0, .int .i64 a.f1, .int .i64 a.f2, .int .i64 a.f3, .int .i64 a.f4], .int .i64 now] (by rfl) rfl rfl (by simp only [List.map_toArray, List.map_cons, List.map_nil]; rfl) ?_
                        with_reducible refine (dover_Lax.calls _ _ _ _ _ _ _ _ (lax_f a now)).mono ?_
                        rintro e w3 ⟨rfl, hb⟩
                        refine ⟨_, rfl, ?_⟩
                        have hB9 := Aside0.mk (below_step (below_drew1 (Below.refl (wr.alloc (.cells #[.int .i64 a.f0, .int .i64 a.f1, .int .i64 a.f2, .int .i64 a.f3, .int .i64 a.f4] 29 (0, 0))).heap.size (wr.alloc (.cells #[.int .i64 a.f0, .int .i64 a.f1, .int .i64 a.f2, .int .i64 a.f3, .int .i64 a.f4] 29 (0, 0))))) hb)
                        have hP3 := Aside0.mk (hPa.out.below hB9.out)
                        have hn3 := Aside0.mk (blk_below hna.out hB9.out)
                        clear hb
                        refine hK.out _ _ ⟨((blk_cell hP3.out.g 0).trans rfl), ((blk_cell hP3.out.p 2).trans rfl), ((blk_cell hn3.out 0).trans rfl), ((blk_cell hn3.out 1).trans rfl), ((blk_cell hn3.out 2).trans rfl), ((blk_cell hn3.out 3).trans rfl), ((blk_cell hn3.out 4).trans rfl)⟩ (fun hHeld => ?_)
                        clear hK K
                        refine norm_ (a' := ?_) ?_ ?_
                        rotate_left
                        · show Act.put _ (some 105) _ = _
                          simp only [Act.put, List.setIfInBounds_toArray, List.set_cons_zero, List.set_cons_succ, i64_w, i32_w]
                          rfl
                        refine pure_ (i := 11) (N := some 106) (v := ?_) (a' := ?_) #[true, true, true, true, true, true, true, true, true, true, true, true, false, false] rfl rfl (by kernel_rfl) (fun _ _ _ h => h) (Or.inl ⟨by rfl, ?_⟩) ?_ ?_
                        rotate_left
                        · intro w'
                          go_simp
                          with_reducible rfl
                        rotate_left
                        · simp only [Act.put, List.setIfInBounds_toArray, List.set_cons_zero, List.set_cons_succ, i64_w, i32_w]
                          rfl
                        refine pure_ (i := 12) (N := some 107) (v := ?_) (a' := ?_) #[true, true, true, true, true, true, true, true, true, true, true, true, true, false] rfl rfl (by kernel_rfl) (fun _ _ _ h => h) (Or.inl ⟨by rfl, ?_⟩) ?_ ?_
                        rotate_left
                        · intro w'
                          go_simp
                          with_reducible rfl
                        rotate_left
                        · simp only [Act.put, List.setIfInBounds_toArray, List.set_cons_zero, List.set_cons_succ, i64_w, i32_w]
                          rfl
                        refine pure_ (i := 13) (N := some 94) (v := ?_) (a' := ?_) #[true, true, true, true, true, true, true, true, true, true, true, true, true, true] rfl rfl (by kernel_rfl) (fun _ _ _ h => h) (Or.inl ⟨by rfl, ?_⟩) ?_ ?_
                        rotate_left
                        · intro w'
                          go_simp
                          with_reducible rfl
                        rotate_left
                        · simp only [Act.put, List.setIfInBounds_toArray, List.set_cons_zero, List.set_cons_succ, i64_w, i32_w]
                          rfl
                        refine done_ (by kernel_rfl) ?_

                        have s0 := (blk_cell hP3.out.g 0).trans (by rfl : _ = some (.pointer (some ⟨p, 0, none⟩)))
                        have s1 := (blk_cell hn3.out 0).trans (by rfl : _ = some (.int .i64 a.f0))
                        go_wp2_with fail
                        refine (hand_beaten hP3.out a).mono ?_
                        rintro e w8 ⟨rfl, hb8⟩
                        have hP8 := Aside0.mk (hP3.out.below hb8)
                        have hn8 := blk_below hn3.out hb8
                        have hB8 := Aside0.mk (below_step (below_step hBa.out hB9.out) hb8)
                        have hR8 := Aside0.mk (Kd.R_below (Kd.R_below hRa.out hB9.out) hb8)
                        have hT8 := Aside0.mk (Kd.R_below (Kd.R_below hTa.out hB9.out) hb8)
                        have s2 := (blk_cell hP8.out.g 0).trans (by rfl : _ = some (.pointer (some ⟨p, 0, none⟩)))
                        have s3 := (blk_cell hn8 0).trans (by rfl : _ = some (.int .i64 a.f0))
                        have s4 := (blk_cell hP8.out.p 2).trans (by rfl : _ = some (.int .i64 cur'))
                        have s5 := blk_frozen hP8.out.p 2
                        have hz8 := Aside0.mk hB8.out.size
                        clear hb8 hn8 hP3 hn3 hBa hRa hTa hB9 s0 s1 hPa hna
                        cases hbt : beatenS M' cur' a with
                        | true =>
                          have hpi3 := hpi2.out
                          rw [if_pos hbt] at hpi3
                          replace hpi3 := Aside0.mk hpi3
                          have hP10 : PS (w8.setCell ⟨p, 2, none⟩ (.int .i64 a.f0)) g p m gv' a.f0 M' :=
                            ⟨blk_far hP8.out.g (p := ⟨p, 2, none⟩) hP8.out.ne _, blk_put hP8.out.p 2 _ rfl, hP8.out.m.setCell _ _ (fun e => by
                              obtain ⟨es, clock, hb, _⟩ := hP8.out.m
                              have h43 := hP8.out.p
                              rw [show p = m from e, hb] at h43
                              cases h43)⟩
                          have hR10 := Kd.R_set hR8.out hP8.out.p (fun q hq => by simp [Kd.int, Kd.scalar] at hq; omega) 2 (.int .i64 a.f0)
                          have hT10 := (Keep29.set (j := 2) (u := .int .i64 a.f0) hP8.out.p (by decide)).R hT8.out
                          have hB10 := hB8.out.trans (below_grown (Below.refl w.heap.size w8) (grown_setCell w8 ⟨p, 2, none⟩ (.int .i64 a.f0)) hps.out hz8.out)
                          replace hP10 := Aside0.mk hP10
                          replace hR10 := Aside0.mk hR10
                          replace hT10 := Aside0.mk hT10
                          replace hB10 := Aside0.mk hB10
                          go_wp2_with fail
                          go_roundw
                          case rel => exact ⟨j + 1, gv', M', G', a.f0, rfl, by omega, by omega, hpi3, hP10, hR10, hB10, hT10⟩
                          case measure => simp [intOf] <;> omega
                        | false =>
                          have hpi3 := hpi2.out
                          rw [if_neg (by simp [hbt])] at hpi3
                          replace hpi3 := Aside0.mk hpi3
                          go_wp2_with fail
                          refine (hand_go1 hP8.out hR8.out hps.out hms.out hz8.out (by omega) a.f0).mono ?_
                          rintro e w10 ⟨rfl, gv10, hP10, hR10, hB10, hk10⟩
                          have hB11 := Aside0.mk (hB8.out.trans hB10)
                          have hT10 := Aside0.mk (hk10.R hT8.out)
                          replace hP10 := Aside0.mk hP10
                          replace hR10 := Aside0.mk hR10
                          clear hB10 hk10
                          go_wp2_with fail
                          go_roundw
                          case rel => exact ⟨j + 1, gv10, _, _, cur', rfl, by omega, by simp; omega, hpi3, hP10, hR10, hB11, hT10⟩
                          case measure => simp [intOf] <;> omega
                  · have d1 : decide ((j : Int) < (T.length : Int)) = false := decide_eq_false (by omega)
                    have hjT : j = T.length := by omega
                    subst hjT
                    have hpi2 := hpi.out
                    rw [List.drop_length, picks] at hpi2
                    have hpk3 := hpk2.out
                    rw [← hpi2] at hpk3
                    replace hpk3 := Aside0.mk hpk3
                    clear hpk2 hpi hpi2
                    have hlk := hP.out.m.drew.look cur'
                    have hlk2 := fun o => (hP.out.m.drew.alloc o).look cur'
                    have q0 := (blk_cell hP.out.g 0).trans (by rfl : _ = some (.pointer (some ⟨p, 0, none⟩)))
                    have q1 := (blk_cell hP.out.p 0).trans (by rfl : _ = some (.map (some m)))
                    have q2 := (blk_cell hP.out.p 2).trans (by rfl : _ = some (.int .i64 cur'))
                    unfold lastS at hpk3
                    generalize hgc : (getM M' cur').getD z29 = c at hlk hlk2
                    generalize hgi : (getM M' cur').isSome = is at hlk hlk2 hpk3
                    clear hgc hgi
                    unfold apeV at hlk hlk2
                    go_wp2_with fail
                    refine start_ (n := 15) (S := fun w' => w'.cell? ⟨g, 0, none⟩ = some (.pointer (some ⟨p, 0, none⟩)) ∧ w'.cell? ⟨p, 0, none⟩ = some (.map (some m)) ∧ w'.cell? ⟨p, 2, none⟩ = some (.int .i64 cur') ∧ (Instr.lookup 39 (.map (some m)) (.int .i64 cur') true).run Try.prog w' = .ok (.tuple #[.agg #[.int .i64 c.f0, .int .i64 c.f1, .int .i64 c.f2, .int .i64 c.f3, .int .i64 c.f4], .bool is]) w') (ds := [13]) #[false, false, false, false, false, false, false, false, false, false, false, false, false, false, false] (by kernel_rfl) rfl rfl ⟨q0, q1, q2, hlk⟩ (fun hHeld => ?_)
                    refine take_ (i := 0) (N := some 119) (v := ?_) (a' := ?_) #[true, false, false, false, false, false, false, false, false, false, false, false, false, false, false] rfl rfl (by kernel_rfl) (fun _ _ _ h => h) (Or.inl ⟨by rfl, ?_⟩) hHeld ?_ ?_
                    rotate_left
                    · rintro w' ⟨s0, s1, s2, s3⟩
                      go_simp
                      with_reducible rfl
                    rotate_left
                    · simp only [Act.put, List.setIfInBounds_toArray, List.set_cons_zero, List.set_cons_succ, i64_w, i32_w]
                      rfl
                    refine pure_ (i := 1) (N := some 120) (v := ?_) (a' := ?_) #[true, true, false, false, false, false, false, false, false, false, false, false, false, false, false] rfl rfl (by kernel_rfl) (fun _ _ _ h => h) (Or.inl ⟨by rfl, ?_⟩) ?_ ?_
                    rotate_left
                    · intro w'
                      go_simp
                      with_reducible rfl
                    rotate_left
                    · simp only [Act.put, List.setIfInBounds_toArray, List.set_cons_zero, List.set_cons_succ, i64_w, i32_w]
                      rfl
                    refine pure_ (i := 2) (N := some 121) (v := ?_) (a' := ?_) #[true, true, true, false, false, false, false, false, false, false, false, false, false, false, false] rfl rfl (by kernel_rfl) (fun _ _ _ h => h) (Or.inl ⟨by rfl, ?_⟩) ?_ ?_
                    rotate_left
                    · intro w'
                      go_simp
                      with_reducible rfl
                    rotate_left
                    · simp only [Act.put, List.setIfInBounds_toArray, List.set_cons_zero, List.set_cons_succ, i64_w, i32_w]
                      rfl
                    refine take_ (i := 3) (N := some 122) (v := ?_) (a' := ?_) #[true, true, true, true, false, false, false, false, false, false, false, false, false, false, false] rfl rfl (by kernel_rfl) (fun _ _ _ h => h) (Or.inl ⟨by rfl, ?_⟩) hHeld ?_ ?_
                    rotate_left
                    · rintro w' ⟨s0, s1, s2, s3⟩
                      go_simp
                      with_reducible rfl
                    rotate_left
                    · simp only [Act.put, List.setIfInBounds_toArray, List.set_cons_zero, List.set_cons_succ, i64_w, i32_w]
                      rfl
                    refine take_ (i := 4) (N := some 123) (v := ?_) (a' := ?_) #[true, true, true, true, true, false, false, false, false, false, false, false, false, false, false] rfl rfl (by kernel_rfl) (fun _ _ _ h => h) (Or.inl ⟨by rfl, ?_⟩) hHeld ?_ ?_
                    rotate_left
                    · rintro w' ⟨s0, s1, s2, s3⟩
                      go_simp
                      with_reducible rfl
                    rotate_left
                    · simp only [Act.put, List.setIfInBounds_toArray, List.set_cons_zero, List.set_cons_succ, i64_w, i32_w]
                      rfl
                    refine pure_ (i := 5) (N := some 124) (v := ?_) (a' := ?_) #[true, true, true, true, true, true, false, false, false, false, false, false, false, false, false] rfl rfl (by kernel_rfl) (fun _ _ _ h => h) (Or.inl ⟨by rfl, ?_⟩) ?_ ?_
                    rotate_left
                    · intro w'
                      go_simp
                      with_reducible rfl
                    rotate_left
                    · simp only [Act.put, List.setIfInBounds_toArray, List.set_cons_zero, List.set_cons_succ, i64_w, i32_w]
                      rfl
                    refine pure_ (i := 6) (N := some 125) (v := ?_) (a' := ?_) #[true, true, true, true, true, true, true, false, false, false, false, false, false, false, false] rfl rfl (by kernel_rfl) (fun _ _ _ h => h) (Or.inl ⟨by rfl, ?_⟩) ?_ ?_
                    rotate_left
                    · intro w'
                      go_simp
                      with_reducible rfl
                    rotate_left
                    · simp only [Act.put, List.setIfInBounds_toArray, List.set_cons_zero, List.set_cons_succ, i64_w, i32_w]
                      rfl
                    refine take_ (i := 7) (N := some 126) (v := ?_) (a' := ?_) #[true, true, true, true, true, true, true, true, false, false, false, false, false, false, false] rfl rfl (by kernel_rfl) (fun _ _ _ h => h) (Or.inl ⟨by rfl, ?_⟩) hHeld ?_ ?_
                    rotate_left
                    · rintro w' ⟨s0, s1, s2, s3⟩
                      go_simp
                      with_reducible rfl
                    rotate_left
                    · simp only [Act.put, List.setIfInBounds_toArray, List.set_cons_zero, List.set_cons_succ, i64_w, i32_w]
                      rfl
                    refine take_ (i := 8) (N := some 127) (v := ?_) (a' := ?_) #[true, true, true, true, true, true, true, true, true, false, false, false, false, false, false] rfl rfl (by kernel_rfl) (fun _ _ _ h => h) (Or.inl ⟨by rfl, ?_⟩) hHeld ?_ ?_
                    rotate_left
                    · rintro w' ⟨s0, s1, s2, s3⟩
                      go_simp
                      with_reducible rfl
                    rotate_left
                    · simp only [Act.put, List.setIfInBounds_toArray, List.set_cons_zero, List.set_cons_succ, i64_w, i32_w]
                      rfl
                    refine pure_ (i := 9) (N := some 118) (v := ?_) (a' := ?_) #[true, true, true, true, true, true, true, true, true, true, false, false, false, false, false] rfl rfl (by kernel_rfl) (fun _ _ _ h => h) (Or.inl ⟨by rfl, ?_⟩) ?_ ?_
                    rotate_left
                    · intro w'
                      go_simp
                      with_reducible rfl
                    rotate_left
                    · simp only [Act.put, List.setIfInBounds_toArray, List.set_cons_zero, List.set_cons_succ, i64_w, i32_w]
                      rfl
                    refine pure_ (i := 10) (N := some 128) (v := ?_) (a' := ?_) #[true, true, true, true, true, true, true, true, true, true, true, false, false, false, false] rfl rfl (by kernel_rfl) (fun _ _ _ h => h) (Or.inl ⟨by rfl, ?_⟩) ?_ ?_
                    rotate_left
                    · intro w'
                      go_simp
                      with_reducible rfl
                    rotate_left
                    · simp only [Act.put, List.setIfInBounds_toArray, List.set_cons_zero, List.set_cons_succ, i64_w, i32_w]
                      rfl
                    refine pure_ (i := 11) (N := some 129) (v := ?_) (a' := ?_) #[true, true, true, true, true, true, true, true, true, true, true, true, false, false, false] rfl rfl (by kernel_rfl) (fun _ _ _ h => h) (Or.inl ⟨by rfl, ?_⟩) ?_ ?_
                    rotate_left
                    · intro w'
                      go_simp
                      with_reducible rfl
                    rotate_left
                    · simp only [Act.put, List.setIfInBounds_toArray, List.set_cons_zero, List.set_cons_succ, i64_w, i32_w]
                      rfl
                    refine one_ (i := 12) (N := some 17) #[true, true, true, true, true, true, true, true, true, true, true, true, true, false, false] rfl rfl (by kernel_rfl) (by decide) (fun K hK => ?_)
                    refine value_ (w1 := ?_) (v := ?_) (by rfl) rfl ?_ ?_
                    rotate_left 2
                    · go_simp
                      constructor
                      · rfl
                      · rfl
                    refine hK.out _ _ ⟨((blk_cell (blk_alloc (blk_drew hP.out.g) _) 0).trans rfl), ((blk_cell (blk_alloc (blk_drew hP.out.p) _) 0).trans rfl), ((blk_cell (blk_alloc (blk_drew hP.out.p) _) 2).trans rfl), (hlk2 _)⟩ (fun hHeld => ?_)
                    clear hK K
                    refine norm_ (a' := ?_) ?_ ?_
                    rotate_left
                    · show Act.put _ (some 17) _ = _
                      simp only [Act.put, List.setIfInBounds_toArray, List.set_cons_zero, List.set_cons_succ, i64_w, i32_w]
                      rfl
                    refine last_ (i := 13) (N := none) #[true, true, true, true, true, true, true, true, true, true, true, true, true, true, false] rfl rfl (by kernel_rfl) (by decide) (fun K hK => ?_)
                    refine skip_ (w1 := ?_) (by rfl) rfl ?_ ?_
                    rotate_left
                    · go_simp
                      rfl
                    refine hK.out _ _ ?_
                    clear hK K
                    refine pure_ (i := 14) (N := some 18) (v := ?_) (a' := ?_) #[true, true, true, true, true, true, true, true, true, true, true, true, true, true, true] rfl rfl (by kernel_rfl) (fun _ _ _ h => h) (Or.inl ⟨by rfl, ?_⟩) ?_ ?_
                    rotate_left
                    · intro w'
                      go_simp
                      with_reducible rfl
                    rotate_left
                    · simp only [Act.put, List.setIfInBounds_toArray, List.set_cons_zero, List.set_cons_succ, i64_w, i32_w]
                      rfl
                    refine done_ (by kernel_rfl) ?_

                    have hP9 := (hP.out.alloc (.cells #[.int .i64 c.f0, .int .i64 c.f1, .int .i64 c.f2, .int .i64 c.f3, .int .i64 c.f4] 29 (0, 0))).below (below_drew1 (Below.refl _ _))
                    have hB9 := below_drew1 (below_alloc hB.out (.cells #[.int .i64 c.f0, .int .i64 c.f1, .int .i64 c.f2, .int .i64 c.f3, .int .i64 c.f4] 29 (0, 0)))
                    have hR9 := Kd.R_drew (Kd.R_alloc hR.out (.cells #[.int .i64 c.f0, .int .i64 c.f1, .int .i64 c.f2, .int .i64 c.f3, .int .i64 c.f4] 29 (0, 0)))
                    have hT9 := Kd.R_drew (Kd.R_alloc hT.out (.cells #[.int .i64 c.f0, .int .i64 c.f1, .int .i64 c.f2, .int .i64 c.f3, .int .i64 c.f4] 29 (0, 0)))
                    clear hP hB hR hT hlk hlk2 q0 q1 q2
                    generalize (wr.alloc (.cells #[.int .i64 c.f0, .int .i64 c.f1, .int .i64 c.f2, .int .i64 c.f3, .int .i64 c.f4] 29 (0, 0))).drew = W9 at hP9 hB9 hR9 hT9 ⊢
                    have q0 := (blk_cell hP9.g 0).trans (by rfl : _ = some (.pointer (some ⟨p, 0, none⟩)))
                    have q1 := (blk_cell hP9.p 1).trans (by rfl : _ = some gv')
                    have q2 := (blk_cell hP9.p 2).trans (by rfl : _ = some (.int .i64 cur'))
                    replace hP9 := Aside0.mk hP9
                    replace hB9 := Aside0.mk hB9
                    replace hR9 := Aside0.mk hR9
                    replace hT9 := Aside0.mk hT9
                    cases is with
                    | true =>
                      have hpk4 := hpk3.out
                      rw [if_pos rfl] at hpk4
                      replace hpk4 := Aside0.mk hpk4
                      clear hpk3
                      go_wp2_with fail
                      refine start_ (n := 10) (S := fun w' => w'.cell? ⟨g, 0, none⟩ = some (.pointer (some ⟨p, 0, none⟩)) ∧ w'.cell? ⟨p, 1, none⟩ = some gv' ∧ w'.cell? ⟨p, 2, none⟩ = some (.int .i64 cur')) (ds := []) #[false, false, false, false, false, false, false, false, false, false] (by kernel_rfl) rfl rfl ⟨q0, q1, q2⟩ (fun hHeld => ?_)
                      refine take_ (i := 0) (N := some 131) (v := ?_) (a' := ?_) #[true, false, false, false, false, false, false, false, false, false] rfl rfl (by kernel_rfl) (fun _ _ _ h => h) (Or.inl ⟨by rfl, ?_⟩) hHeld ?_ ?_
                      rotate_left
                      · rintro w' ⟨s0, s1, s2⟩
                        go_simp
                        with_reducible rfl
                      rotate_left
                      · simp only [Act.put, List.setIfInBounds_toArray, List.set_cons_zero, List.set_cons_succ, i64_w, i32_w]
                        rfl
                      refine pure_ (i := 1) (N := some 132) (v := ?_) (a' := ?_) #[true, true, false, false, false, false, false, false, false, false] rfl rfl (by kernel_rfl) (fun _ _ _ h => h) (Or.inl ⟨by rfl, ?_⟩) ?_ ?_
                      rotate_left
                      · intro w'
                        go_simp
                        with_reducible rfl
                      rotate_left
                      · simp only [Act.put, List.setIfInBounds_toArray, List.set_cons_zero, List.set_cons_succ, i64_w, i32_w]
                        rfl
                      refine pure_ (i := 2) (N := some 133) (v := ?_) (a' := ?_) #[true, true, true, false, false, false, false, false, false, false] rfl rfl (by kernel_rfl) (fun _ _ _ h => h) (Or.inl ⟨by rfl, ?_⟩) ?_ ?_
                      rotate_left
                      · intro w'
                        go_simp
                        with_reducible rfl
                      rotate_left
                      · simp only [Act.put, List.setIfInBounds_toArray, List.set_cons_zero, List.set_cons_succ, i64_w, i32_w]
                        rfl
                      refine take_ (i := 3) (N := some 134) (v := ?_) (a' := ?_) #[true, true, true, true, false, false, false, false, false, false] rfl rfl (by kernel_rfl) (fun _ _ _ h => h) (Or.inl ⟨by rfl, ?_⟩) hHeld ?_ ?_
                      rotate_left
                      · rintro w' ⟨s0, s1, s2⟩
                        go_simp
                        with_reducible rfl
                      rotate_left
                      · simp only [Act.put, List.setIfInBounds_toArray, List.set_cons_zero, List.set_cons_succ, i64_w, i32_w]
                        rfl
                      refine pure_ (i := 8) (N := some 6) (v := ?_) (a' := ?_) #[true, true, true, true, false, false, false, false, true, false] rfl rfl (by kernel_rfl) (fun _ _ _ h => h) (Or.inl ⟨by rfl, ?_⟩) ?_ ?_
                      rotate_left
                      · intro w'
                        go_simp
                        with_reducible rfl
                      rotate_left
                      · simp only [Act.put, List.setIfInBounds_toArray, List.set_cons_zero, List.set_cons_succ, i64_w, i32_w]
                        rfl
                      refine take_ (i := 4) (N := some 135) (v := ?_) (a' := ?_) #[true, true, true, true, true, false, false, false, true, false] rfl rfl (by kernel_rfl) (fun _ _ _ h => h) (Or.inl ⟨by rfl, ?_⟩) hHeld ?_ ?_
                      rotate_left
                      · rintro w' ⟨s0, s1, s2⟩
                        go_simp
                        with_reducible rfl
                      rotate_left
                      · simp only [Act.put, List.setIfInBounds_toArray, List.set_cons_zero, List.set_cons_succ, i64_w, i32_w]
                        rfl
                      refine pure_ (i := 5) (N := some 136) (v := ?_) (a' := ?_) #[true, true, true, true, true, true, false, false, true, false] rfl rfl (by kernel_rfl) (fun _ _ _ h => h) (Or.inl ⟨by rfl, ?_⟩) ?_ ?_
                      rotate_left
                      · intro w'
                        go_simp
                        with_reducible rfl
                      rotate_left
                      · simp only [Act.put, List.setIfInBounds_toArray, List.set_cons_zero, List.set_cons_succ, i64_w, i32_w]
                        rfl
                      refine pure_ (i := 6) (N := some 137) (v := ?_) (a' := ?_) #[true, true, true, true, true, true, true, false, true, false] rfl rfl (by kernel_rfl) (fun _ _ _ h => h) (Or.inl ⟨by rfl, ?_⟩) ?_ ?_
                      rotate_left
                      · intro w'
                        go_simp
                        with_reducible rfl
                      rotate_left
                      · simp only [Act.put, List.setIfInBounds_toArray, List.set_cons_zero, List.set_cons_succ, i64_w, i32_w]
                        rfl
                      refine take_ (i := 7) (N := some 138) (v := ?_) (a' := ?_) #[true, true, true, true, true, true, true, true, true, false] rfl rfl (by kernel_rfl) (fun _ _ _ h => h) (Or.inl ⟨by rfl, ?_⟩) hHeld ?_ ?_
                      rotate_left
                      · rintro w' ⟨s0, s1, s2⟩
                        go_simp
                        with_reducible rfl
                      rotate_left
                      · simp only [Act.put, List.setIfInBounds_toArray, List.set_cons_zero, List.set_cons_succ, i64_w, i32_w]
                        rfl
                      refine pure_ (i := 9) (N := some 7) (v := ?_) (a' := ?_) #[true, true, true, true, true, true, true, true, true, true] rfl rfl (by kernel_rfl) (fun _ _ _ h => h) (Or.inl ⟨by rfl, ?_⟩) ?_ ?_
                      rotate_left
                      · intro w'
                        go_simp
                        with_reducible rfl
                      rotate_left
                      · simp only [Act.put, List.setIfInBounds_toArray, List.set_cons_zero, List.set_cons_succ, i64_w, i32_w]
                        rfl
                      refine done_ (by kernel_rfl) ?_

                      go_wp2_with fail
                      go_ret2
                      exact ⟨_, by rw [hpk4.out]; rfl, by rw [hpk4.out]; exact Kd.R_drew hR9.out, below_drew1 hB9.out⟩
                    | false =>
                      have hpk4 := hpk3.out
                      rw [if_neg (by simp)] at hpk4
                      replace hpk4 := Aside0.mk hpk4
                      clear hpk3 q0 q1 q2
                      go_wp2_with fail
                      refine (hand_index hP9.out (Kd.R_reads' hT9.out).2.2).mono ?_
                      rintro e w11 ⟨r, rfl, hr, hb11⟩
                      have hP11 := hP9.out.below hb11
                      have hB11 := Aside0.mk (below_step hB9.out hb11)
                      have hR11 := Aside0.mk (Kd.R_below hR9.out hb11)
                      have hT11 := Aside0.mk (Kd.R_below hT9.out hb11)
                      have q0 := (blk_cell hP11.g 0).trans (by rfl : _ = some (.pointer (some ⟨p, 0, none⟩)))
                      have q1 := (blk_cell hP11.p 1).trans (by rfl : _ = some gv')
                      clear hb11 hP9 hB9 hR9 hT9 hP11
                      rcases hr with ⟨hr, hn⟩ | ⟨j, hj, hr, hs, hn⟩
                      · subst hr
                        have hpk5 := hpk4.out
                        rw [find_at_none hn] at hpk5
                        clear hn
                        replace hpk5 := Aside0.mk hpk5
                        go_wp2_with fail
                        refine start_ (n := 6) (S := fun w' => w'.cell? ⟨g, 0, none⟩ = some (.pointer (some ⟨p, 0, none⟩)) ∧ w'.cell? ⟨p, 1, none⟩ = some gv') (ds := []) #[false, false, false, false, false, false] (by kernel_rfl) rfl rfl ⟨q0, q1⟩ (fun hHeld => ?_)
                        refine pure_ (i := 4) (N := some 6) (v := ?_) (a' := ?_) #[false, false, false, false, true, false] rfl rfl (by kernel_rfl) (fun _ _ _ h => h) (Or.inl ⟨by rfl, ?_⟩) ?_ ?_
                        rotate_left
                        · intro w'
                          go_simp
                          with_reducible rfl
                        rotate_left
                        · simp only [Act.put, List.setIfInBounds_toArray, List.set_cons_zero, List.set_cons_succ, i64_w, i32_w]
                          rfl
                        refine take_ (i := 0) (N := some 144) (v := ?_) (a' := ?_) #[true, false, false, false, true, false] rfl rfl (by kernel_rfl) (fun _ _ _ h => h) (Or.inl ⟨by rfl, ?_⟩) hHeld ?_ ?_
                        rotate_left
                        · rintro w' ⟨s0, s1⟩
                          go_simp
                          with_reducible rfl
                        rotate_left
                        · simp only [Act.put, List.setIfInBounds_toArray, List.set_cons_zero, List.set_cons_succ, i64_w, i32_w]
                          rfl
                        refine pure_ (i := 1) (N := some 145) (v := ?_) (a' := ?_) #[true, true, false, false, true, false] rfl rfl (by kernel_rfl) (fun _ _ _ h => h) (Or.inl ⟨by rfl, ?_⟩) ?_ ?_
                        rotate_left
                        · intro w'
                          go_simp
                          with_reducible rfl
                        rotate_left
                        · simp only [Act.put, List.setIfInBounds_toArray, List.set_cons_zero, List.set_cons_succ, i64_w, i32_w]
                          rfl
                        refine pure_ (i := 2) (N := some 146) (v := ?_) (a' := ?_) #[true, true, true, false, true, false] rfl rfl (by kernel_rfl) (fun _ _ _ h => h) (Or.inl ⟨by rfl, ?_⟩) ?_ ?_
                        rotate_left
                        · intro w'
                          go_simp
                          with_reducible rfl
                        rotate_left
                        · simp only [Act.put, List.setIfInBounds_toArray, List.set_cons_zero, List.set_cons_succ, i64_w, i32_w]
                          rfl
                        refine take_ (i := 3) (N := some 147) (v := ?_) (a' := ?_) #[true, true, true, true, true, false] rfl rfl (by kernel_rfl) (fun _ _ _ h => h) (Or.inl ⟨by rfl, ?_⟩) hHeld ?_ ?_
                        rotate_left
                        · rintro w' ⟨s0, s1⟩
                          go_simp
                          with_reducible rfl
                        rotate_left
                        · simp only [Act.put, List.setIfInBounds_toArray, List.set_cons_zero, List.set_cons_succ, i64_w, i32_w]
                          rfl
                        refine pure_ (i := 5) (N := some 7) (v := ?_) (a' := ?_) #[true, true, true, true, true, true] rfl rfl (by kernel_rfl) (fun _ _ _ h => h) (Or.inl ⟨by rfl, ?_⟩) ?_ ?_
                        rotate_left
                        · intro w'
                          go_simp
                          with_reducible rfl
                        rotate_left
                        · simp only [Act.put, List.setIfInBounds_toArray, List.set_cons_zero, List.set_cons_succ, i64_w, i32_w]
                          rfl
                        refine done_ (by kernel_rfl) ?_

                        go_wp2_with fail
                        go_ret2
                        exact ⟨_, by rw [hpk5.out]; rfl, by rw [hpk5.out]; exact Kd.R_drew hR11.out, below_drew1 hB11.out⟩
                      · subst hr
                        have hpk5 := hpk4.out
                        rw [find_at_some hj hs hn] at hpk5
                        clear hn hs
                        replace hpk5 := Aside0.mk hpk5
                        have d7 : decide ((j : Int) < 0) = false := decide_eq_false (by omega)
                        obtain ⟨ad, rfl, hc0, hc1, hc2, hc3, hc4⟩ := at_T29 (Kd.R_reads' hT11.out).2.2 (j : Int) (by omega) (by omega)
                        rw [Int.toNat_natCast, rd_at] at hc0
                        clear hc1 hc2 hc3 hc4
                        have hj0 : (0 : Int) ≤ j := by omega
                        have hj1 : (j : Int) < (T.length : Int) := by omega
                        go_wp2_with fail
                        refine start_ (n := 11) (S := fun w' => w'.cell? ⟨g, 0, none⟩ = some (.pointer (some ⟨p, 0, none⟩)) ∧ w'.cell? ⟨p, 1, none⟩ = some gv' ∧ w'.cell? (ad.add (j * 5)) = some (.int .i64 (at_ T j).f0)) (ds := []) #[false, false, false, false, false, false, false, false, false, false, false] (by kernel_rfl) rfl rfl ⟨q0, q1, hc0⟩ (fun hHeld => ?_)
                        refine pure_ (i := 0) (N := some 148) (v := ?_) (a' := ?_) #[true, false, false, false, false, false, false, false, false, false, false] rfl rfl (by kernel_rfl) (fun _ _ _ h => h) (Or.inl ⟨by rfl, ?_⟩) ?_ ?_
                        rotate_left
                        · intro w'
                          go_simp
                          with_reducible rfl
                        rotate_left
                        · simp only [Act.put, List.setIfInBounds_toArray, List.set_cons_zero, List.set_cons_succ, i64_w, i32_w]
                          rfl
                        refine pure_ (i := 1) (N := some 149) (v := ?_) (a' := ?_) #[true, true, false, false, false, false, false, false, false, false, false] rfl rfl (by kernel_rfl) (fun _ _ _ h => h) (Or.inl ⟨by rfl, ?_⟩) ?_ ?_
                        rotate_left
                        · intro w'
                          go_simp
                          with_reducible rfl
                        rotate_left
                        · simp only [Act.put, List.setIfInBounds_toArray, List.set_cons_zero, List.set_cons_succ, i64_w, i32_w]
                          rfl
                        refine pure_ (i := 2) (N := some 150) (v := ?_) (a' := ?_) #[true, true, true, false, false, false, false, false, false, false, false] rfl rfl (by kernel_rfl) (fun _ _ _ h => h) (Or.inl ⟨by rfl, ?_⟩) ?_ ?_
                        rotate_left
                        · intro w'
                          go_simp
                          with_reducible rfl
                        rotate_left
                        · simp only [Act.put, List.setIfInBounds_toArray, List.set_cons_zero, List.set_cons_succ, i64_w, i32_w]
                          rfl
                        refine pure_ (i := 3) (N := some 151) (v := ?_) (a' := ?_) #[true, true, true, true, false, false, false, false, false, false, false] rfl rfl (by kernel_rfl) (fun _ _ _ h => h) (Or.inl ⟨by rfl, ?_⟩) ?_ ?_
                        rotate_left
                        · intro w'
                          go_simp
                          with_reducible rfl
                        rotate_left
                        · simp only [Act.put, List.setIfInBounds_toArray, List.set_cons_zero, List.set_cons_succ, i64_w, i32_w]
                          rfl
                        refine take_ (i := 4) (N := some 152) (v := ?_) (a' := ?_) #[true, true, true, true, true, false, false, false, false, false, false] rfl rfl (by kernel_rfl) (fun _ _ _ h => h) (Or.inl ⟨by rfl, ?_⟩) hHeld ?_ ?_
                        rotate_left
                        · rintro w' ⟨s0, s1, s2⟩
                          go_simp
                          with_reducible rfl
                        rotate_left
                        · simp only [Act.put, List.setIfInBounds_toArray, List.set_cons_zero, List.set_cons_succ, i64_w, i32_w]
                          rfl
                        refine pure_ (i := 9) (N := some 6) (v := ?_) (a' := ?_) #[true, true, true, true, true, false, false, false, false, true, false] rfl rfl (by kernel_rfl) (fun _ _ _ h => h) (Or.inl ⟨by rfl, ?_⟩) ?_ ?_
                        rotate_left
                        · intro w'
                          go_simp
                          with_reducible rfl
                        rotate_left
                        · simp only [Act.put, List.setIfInBounds_toArray, List.set_cons_zero, List.set_cons_succ, i64_w, i32_w]
                          rfl
                        refine take_ (i := 5) (N := some 153) (v := ?_) (a' := ?_) #[true, true, true, true, true, true, false, false, false, true, false] rfl rfl (by kernel_rfl) (fun _ _ _ h => h) (Or.inl ⟨by rfl, ?_⟩) hHeld ?_ ?_
                        rotate_left
                        · rintro w' ⟨s0, s1, s2⟩
                          go_simp
                          with_reducible rfl
                        rotate_left
                        · simp only [Act.put, List.setIfInBounds_toArray, List.set_cons_zero, List.set_cons_succ, i64_w, i32_w]
                          rfl
                        refine pure_ (i := 6) (N := some 154) (v := ?_) (a' := ?_) #[true, true, true, true, true, true, true, false, false, true, false] rfl rfl (by kernel_rfl) (fun _ _ _ h => h) (Or.inl ⟨by rfl, ?_⟩) ?_ ?_
                        rotate_left
                        · intro w'
                          go_simp
                          with_reducible rfl
                        rotate_left
                        · simp only [Act.put, List.setIfInBounds_toArray, List.set_cons_zero, List.set_cons_succ, i64_w, i32_w]
                          rfl
                        refine pure_ (i := 7) (N := some 155) (v := ?_) (a' := ?_) #[true, true, true, true, true, true, true, true, false, true, false] rfl rfl (by kernel_rfl) (fun _ _ _ h => h) (Or.inl ⟨by rfl, ?_⟩) ?_ ?_
                        rotate_left
                        · intro w'
                          go_simp
                          with_reducible rfl
                        rotate_left
                        · simp only [Act.put, List.setIfInBounds_toArray, List.set_cons_zero, List.set_cons_succ, i64_w, i32_w]
                          rfl
                        refine take_ (i := 8) (N := some 156) (v := ?_) (a' := ?_) #[true, true, true, true, true, true, true, true, true, true, false] rfl rfl (by kernel_rfl) (fun _ _ _ h => h) (Or.inl ⟨by rfl, ?_⟩) hHeld ?_ ?_
                        rotate_left
                        · rintro w' ⟨s0, s1, s2⟩
                          go_simp
                          with_reducible rfl
                        rotate_left
                        · simp only [Act.put, List.setIfInBounds_toArray, List.set_cons_zero, List.set_cons_succ, i64_w, i32_w]
                          rfl
                        refine pure_ (i := 10) (N := some 7) (v := ?_) (a' := ?_) #[true, true, true, true, true, true, true, true, true, true, true] rfl rfl (by kernel_rfl) (fun _ _ _ h => h) (Or.inl ⟨by rfl, ?_⟩) ?_ ?_
                        rotate_left
                        · intro w'
                          go_simp
                          with_reducible rfl
                        rotate_left
                        · simp only [Act.put, List.setIfInBounds_toArray, List.set_cons_zero, List.set_cons_succ, i64_w, i32_w]
                          rfl
                        refine done_ (by kernel_rfl) ?_

                        go_wp2_with fail
                        go_ret2
                        exact ⟨_, by rw [hpk5.out]; rfl, by rw [hpk5.out]; exact Kd.R_drew hR11.out, below_drew1 hB11.out⟩
end Go.Proofs.Ytmknoiiflciclaa.PA
