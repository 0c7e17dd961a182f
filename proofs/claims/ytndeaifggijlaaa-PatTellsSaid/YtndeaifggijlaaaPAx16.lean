-- Written for this claim by a program (the kit's print over a changed input, then joined with texts by hand).
import Derived.Test.YtndeaifggijlaaaPAx0
import Derived.Test.YtndeaifggijlaaaPAx1
import Derived.Test.YtndeaifggijlaaaPAx7
namespace Go.Proofs.Ytndeaifggijlaaa.PA
open Go.RowKit Go.Proofs.YtndeaifggijlaaaW.PrintWords Go.Proofs.YtndeaifggijlaaaW.PrintLast Go.Proofs.YtndeaifggijlaaaW.PrintMore
attribute [local go_sem] max2_int min2_int max_two min_two max_three min_three max_four min_four   -- for this text's walks alone
set_option linter.unusedVariables false
set_option linter.unusedSimpArgs false

/-! ### pat_Word: function 15 -/
def pat_Word.l0 : Nat → Int → Int → List Bool → Int → Option (List Bool)
  | 0, _, _, _, _ => none
  | k + 1, x0, x1, x5, x6 => if x6 < x1 then ((pat_On.f k x0 x1 x6).bind fun t163 => (if x5.length < 140737488355328 then (pat_Word.l0 k x0 x1 (x5 ++ [t163]) (wrap64 (x6 + 1))) else (none))) else (some x5)
def pat_Word.f (k : Nat) (a0 : Int) (a1 : Int) : Option (List Bool) := (pat_May.f a0 a1).bind fun t162 => (if t162 = true then (pat_Word.l0 k a0 a1 ([] : List Bool) 0) else (some ([] : List Bool)))
theorem pat_Word.mono_l : ∀ k, (∀ y0 y1 y2 y3, LeO (pat_Word.l0 k y0 y1 y2 y3) (pat_Word.l0 (k + 1) y0 y1 y2 y3))
  | 0 => fun _ _ _ _ r h => by simp [pat_Word.l0] at h
  | k + 1 => by
    have ih0 := pat_Word.mono_l k
    · intro y0 y1 y2 y3
      unfold pat_Word.l0
      repeat' first
      | (with_reducible exact ih0 _ _ _ _)
      | (with_reducible exact pat_On.mono _ _ _ _)
      | (with_reducible exact LeO.refl _)
      | (with_reducible exact LeO.none _)
      | (with_reducible refine LeO.ite ?_ ?_)
      | (with_reducible refine LeO.bind ?_ (fun _ => ?_))
      | exact ih0 _ _ _ _
      | exact pat_On.mono _ _ _ _
      | exact LeO.none _
      | refine LeO.ite ?_ ?_
      | refine LeO.bind ?_ (fun _ => ?_)
theorem pat_Word.mono : ∀ a0 a1 k, LeO (pat_Word.f k a0 a1) (pat_Word.f (k + 1) a0 a1) := by
  intro a0 a1 k
  have ih0 := pat_Word.mono_l k
  unfold pat_Word.f
  repeat' first
      | (with_reducible exact ih0 _ _ _ _)
      | (with_reducible exact pat_On.mono _ _ _ _)
      | (with_reducible exact LeO.refl _)
      | (with_reducible exact LeO.none _)
      | (with_reducible refine LeO.ite ?_ ?_)
      | (with_reducible refine LeO.bind ?_ (fun _ => ?_))
      | exact ih0 _ _ _ _
      | exact pat_On.mono _ _ _ _
      | exact LeO.none _
      | refine LeO.ite ?_ ?_
      | refine LeO.bind ?_ (fun _ => ?_)
set_option maxHeartbeats 4000000 in
set_option maxRecDepth 100000 in
theorem hand_word_no (m k : Int) (w : World) (h : pat_May.f m k = some false) :
    Calls Try.prog 15 #[.int .i64 m, .int .i64 k] w fun e w' => ∃ v0_ : Value, e = .returned (v0_) ∧ Kd.R Kd.bool 4 w' w.heap.size (fun _ => True) v0_ [] ∧ Below w.heap.size w w' := by
  have H1 := Aside0.mk h
  clear h
  have hu34 := Try.underlying34
  go_enter Try.func15, Try.ntmps15
  go_wp2_with fail
  refine (pat_May.calls m k _ _ H1.out).mono ?_
  rintro e w1 ⟨rfl, ⟨nd, rfl⟩⟩
  go_wp2_with fail
  go_ret
  exact ⟨_, rfl, Kd.R_nil _ _ _ _ _, pw_below_drewN (Below.refl _ _) nd⟩
theorem hand_sl1 (g : Nat) (w : World) : (Instr.sliceAt 34 (.pointer (some ⟨g, 0, none⟩)) none (some (.int .i64 1)) none).run Try.prog w = .ok (.slice (some ⟨g, 0, none⟩) 1 6) w := by kernel_rfl
theorem hand_sl2 (g : Nat) (w : World) : (Instr.sliceAt 34 (.pointer (some ⟨g, 0, none⟩)) none (some (.int .i64 2)) none).run Try.prog w = .ok (.slice (some ⟨g, 0, none⟩) 2 6) w := by kernel_rfl
theorem hand_sl3 (g : Nat) (w : World) : (Instr.sliceAt 34 (.pointer (some ⟨g, 0, none⟩)) none (some (.int .i64 3)) none).run Try.prog w = .ok (.slice (some ⟨g, 0, none⟩) 3 6) w := by kernel_rfl
theorem hand_sl4 (g : Nat) (w : World) : (Instr.sliceAt 34 (.pointer (some ⟨g, 0, none⟩)) none (some (.int .i64 4)) none).run Try.prog w = .ok (.slice (some ⟨g, 0, none⟩) 4 6) w := by kernel_rfl
theorem hand_sl5 (g : Nat) (w : World) : (Instr.sliceAt 34 (.pointer (some ⟨g, 0, none⟩)) none (some (.int .i64 5)) none).run Try.prog w = .ok (.slice (some ⟨g, 0, none⟩) 5 6) w := by kernel_rfl
theorem hand_sl6 (g : Nat) (w : World) : (Instr.sliceAt 34 (.pointer (some ⟨g, 0, none⟩)) none (some (.int .i64 6)) none).run Try.prog w = .ok (.slice (some ⟨g, 0, none⟩) 6 6) w := by kernel_rfl
theorem hand_sl (k : Int) (h1 : 1 ≤ k) (h6 : k ≤ 6) (g : Nat) (w : World) : (Instr.sliceAt 34 (.pointer (some ⟨g, 0, none⟩)) none (some (.int .i64 k)) none).run Try.prog w = .ok (.slice (some ⟨g, 0, none⟩) k.toNat 6) w := by
  have : k = 1 ∨ k = 2 ∨ k = 3 ∨ k = 4 ∨ k = 5 ∨ k = 6 := by omega
  rcases this with rfl | rfl | rfl | rfl | rfl | rfl
  · exact hand_sl1 g w
  · exact hand_sl2 g w
  · exact hand_sl3 g w
  · exact hand_sl4 g w
  · exact hand_sl5 g w
  · exact hand_sl6 g w
theorem hand_C (W : World) (g n : Nat) (cs : Array Value) (t : TypeId) (ys : List Bool) (hb : W.heap[g]? = some (.cells cs t (0, 0))) (hl : ys.length = n) (hn : n ≤ 1000) (hc : ∀ i, i < n → cs[i]? = some (.bool (ys.getD i false))) :
    Kd.C Kd.bool W (some ⟨g, 0, none⟩) n ys := by
  refine Kd.C_of_reads (d := false) (h1 := fun _ => rfl) ⟨hl, by omega, fun _ => ⟨_, rfl, fun j hj => ?_⟩⟩
  rw [add_plain, blk_cell hb, hc j hj]
set_option maxHeartbeats 4000000 in
set_option maxRecDepth 100000 in
theorem hand_word_yes (m k : Int) (w : World) (h : pat_May.f m k = some true) (hm1 : 1 ≤ m) (hm2 : m ≤ k) (hm3 : k ≤ 6) :
    Calls Try.prog 15 #[.int .i64 m, .int .i64 k] w fun e w' => ∃ v0_ : Value, e = .returned (v0_) ∧ Kd.R Kd.bool 4 w' w.heap.size (fun _ => True) v0_ ((List.range k.toNat).map (ofB m k)) ∧ Below w.heap.size w w' := by
  have H1 := Aside0.mk h
  clear h
  have hu34 := Try.underlying34
  obtain ⟨b, hb0, hbb⟩ := hand_bits m k
  replace hbb := Aside0.mk hbb
  replace hb0 := Aside0.mk hb0
  have hsl := hand_sl k (by omega) hm3
  go_enter Try.func15, Try.ntmps15
  go_wp2_with fail
  refine (pat_May.calls m k _ _ H1.out).mono ?_
  rintro e w1 ⟨rfl, ⟨nd, rfl⟩⟩
  go_wp2_with fail
  refine (hand_of' m k b hbb.out _ hm1 hm2 hm3).mono ?_
  rintro e w3 ⟨rfl, hb⟩
  go_wp2_with ((with_reducible refine gate_builtin (b := .append) (xs := #[.const (.slice none 0 0), .tmp 14]) rfl ?_); at_builtin; refine Kd.R_append_row Value.bool false (h1 := fun _ => rfl) (w0 := w) w.heap.size rfl (.const (.slice none 0 0)) (.tmp 14) 29 4 (.bool false) 1 rfl Try.underlying29 info4 rfl (by decide) (.slice none 0 0) [] ((List.range k.toNat).map (ofB m k)) (some ⟨w3.heap.size, 0, none⟩) k.toNat 6 (fun _ => True) rfl rfl (fun _ _ => trivial) (Kd.R_nil _ _ _ _ _) ?aR ?aB ?aS ?aL ?_)
  case aR =>
    refine hand_C _ _ _ _ _ _ (blk_new _ _) (by simp) (by omega) ?_
    intro i hi
    have hi6 : i = 0 ∨ i = 1 ∨ i = 2 ∨ i = 3 ∨ i = 4 ∨ i = 5 := by omega
    have e := ofCells_get m k k.toNat i (by omega)
    rw [hbb.out] at e
    rw [e]
    simp [hi]
  case aB => exact below_alloc (below_step (pw_below_drewN (Below.refl _ _) nd) hb) _
  case aS =>
    have := (below_alloc (below_step (pw_below_drewN (Below.refl w.heap.size w) nd) hb) (.cells #[] 0 (0,0))).size
    simp at this ⊢; omega
  case aL => simp; omega
  · intro v1 w4 hr hbl hg hat
    go_wp2_with fail
    go_ret
    exact ⟨_, rfl, hr, hbl⟩
theorem word_l0 (m kk : Int) (hm1 : 1 ≤ m) (hm2 : m ≤ kk) (hm3 : kk ≤ 6) : ∀ (k : Nat) (j : Nat) (r : List Bool), (j : Int) ≤ kk → pat_Word.l0 k m kk ((List.range j).map (ofB m kk)) (j : Int) = some r → r = (List.range kk.toNat).map (ofB m kk)
  | 0, _, _, _, h => by simp [pat_Word.l0] at h
  | k + 1, j, r, hj, h => by
    simp only [pat_Word.l0] at h
    by_cases hlt : (j : Int) < kk
    · rw [if_pos hlt] at h
      obtain ⟨t, h1, h2⟩ := Option.bind_eq_some_iff.mp h
      cases k with
      | zero => 
        by_cases hc : (List.map (ofB m kk) (List.range j)).length < 140737488355328
        · rw [if_pos hc] at h2; simp [pat_Word.l0] at h2
        · rw [if_neg hc] at h2; simp at h2
      | succ k =>
        rw [on_f k m kk j hm1 hm2 hm3 (by omega) (by omega)] at h1
        obtain rfl := Option.some.inj h1
        rw [if_pos (by simp; omega), hw_small _ (by omega) (by omega), Int.tmod_eq_of_lt (by omega) hlt, Int.toNat_natCast] at h2
        have e : (List.range (j + 1)).map (ofB m kk) = (List.range j).map (ofB m kk) ++ [ofB m kk j] := by simp [List.range_succ]
        rw [← e, show ((j : Int) + 1) = ((j + 1 : Nat) : Int) from by omega] at h2
        exact word_l0 m kk hm1 hm2 hm3 (k + 1) (j + 1) r (by omega) h2
    · rw [if_neg hlt] at h
      obtain rfl := Option.some.inj h
      have : j = kk.toNat := by omega
      rw [this]
set_option maxHeartbeats 8000000 in
set_option maxRecDepth 100000 in
theorem pat_Word.calls (k : Nat) (a0 : Int) (a1 : Int) (r : List Bool) (w : World) (h : pat_Word.f k a0 a1 = some r) :
    Calls Try.prog 15 #[.int .i64 a0, .int .i64 a1] w fun e w' => ∃ v0_ : Value, e = .returned (v0_) ∧ Kd.R Kd.bool 4 w' w.heap.size (fun _ => True) v0_ r ∧ Below w.heap.size w w' := by
  unfold pat_Word.f at h
  obtain ⟨t, h1, h2⟩ := Option.bind_eq_some_iff.mp h
  clear h
  cases t with
  | false =>
    simp only [Bool.false_eq_true, if_false, Option.some.injEq] at h2
    subst h2
    exact hand_word_no _ _ _ h1
  | true =>
    simp only [if_true] at h2
    obtain ⟨m1, m2, m3⟩ := may_true _ _ h1
    have e := word_l0 a0 a1 m1 m2 m3 k 0 r (by omega) h2
    subst e
    exact hand_word_yes _ _ _ h1 m1 m2 m3

end Go.Proofs.Ytndeaifggijlaaa.PA
