/- container/heap behind its interface: walked. -/
import Derived.Test.YtpkalbokpblhaaaPAx0
import Derived.Test.YtpkalbokpblhaaaPAx1
import Derived.Test.YtpkalbokpblhaaaPAx7
import Derived.Test.YtpkalbokpblhaaaPileC
import Derived.Laws.CopyOwn
import Derived.Laws.EntriesVeiled
import Derived.Deep.RegionWith
import Derived.BigRegion
namespace Go.Proofs.Ytpkalbokpblhaaa.PA
open Go.RowKit Go.Proofs.YtpkalbokpblhaaaW.PrintWords Go.Proofs.YtpkalbokpblhaaaW.PrintLast Go.Proofs.YtpkalbokpblhaaaW.PrintMore
attribute [local go_sem] max2_int min2_int max_two min_two max_three min_three max_four min_four
set_option linter.unusedVariables false
set_option linter.unusedSimpArgs false
theorem tass (a b : Int) (w : World) : Sem.run Try.prog (Instr.typeAssert (.iface 24 (.agg #[.int .i64 a, .int .i64 b])) 20 24 true) w = .ok (.tuple #[.agg #[.int .i64 a, .int .i64 b], .bool true]) w := by kernel_rfl
theorem below_setG {base G : Nat} {w : World} (h : base ≤ G) (u : Value) : Below base w (w.setCell ⟨G, 0, none⟩ u) := ⟨rfl, rfl, rfl, Nat.le_of_eq (heap_setCell_size _ _ _).symm, fun k hk => Below.heap_setCell _ ⟨G, 0, none⟩ _ k (fun e => by subst e; exact Nat.lt_irrefl _ (Nat.lt_of_lt_of_le hk h))⟩
/-- A pile, its row any. -/
structure PV (W : World) (base G : Nat) (v : Value) (xs : List S24) : Prop where
  g : W.heap[G]? = some (.cells #[v] 52 (0, 0))
  r : k24.R 24 W base (fun k => k ≠ G) v xs
  b : base ≤ W.heap.size
theorem PV.below {W W' : World} {base G : Nat} {v : Value} {xs : List S24} (h : PV W base G v xs) (hb : Below W.heap.size W W') : PV W' base G v xs := ⟨blk_below h.g hb, Kd.R_below h.r hb, Nat.le_trans h.b hb.size⟩
set_option maxHeartbeats 4000000 in
set_option maxRecDepth 100000 in
theorem hand_PilePush {W : World} {base G : Nat} {v : Value} {xs : List S24} {x : S24} (hp : PV W base G v xs) (hlen : xs.length ≤ 8796093022207) :
    Calls Try.prog 59 #[.pointer (some ⟨G, 0, none⟩), .iface 24 (.agg #[.int .i64 x.f0, .int .i64 x.f1])] W fun e w' => e = .returned (.tuple #[]) ∧ ∃ v', PV w' base G v' (xs ++ [x]) ∧ (base ≤ G → Below base W w') := by
  have hu52 := Try.underlying52
  have hu24 := Try.underlying24
  have hta := tass x.f0 x.f1
  go_enter Try.func59, Try.ntmps59
  go_upto_region 2 with fail
  have hb0 := below_alloc (Below.refl W.heap.size W) (.cells #[.int .i64 x.f0, .int .i64 x.f1] 24 (0, 0))
  have hp1 := hp.below hb0
  have hZ1 := Aside0.mk (blk_new W (.cells #[.int .i64 x.f0, .int .i64 x.f1] 24 (0, 0)))
  obtain ⟨W1, hW1⟩ : ∃ W1, W1 = W.alloc (.cells #[.int .i64 x.f0, .int .i64 x.f1] 24 (0, 0)) := ⟨_, rfl⟩
  rw [← hW1] at hb0 hp1 hZ1 ⊢
  obtain ⟨z, hz⟩ : ∃ z, z = W.heap.size := ⟨_, rfl⟩
  rw [← hz] at hZ1 ⊢
  have hG1 := Aside0.mk hp1.g
  have hR1 := Aside0.mk hp1.r
  have hB1 := Aside0.mk (Below.trans (Below.mono hb0 hp.b) (Below.refl base W1) |> below_drew1)
  have hS1 := Aside0.mk hp1.b
  have hF := Aside0.mk (Kd.freshB (w := W1.drew) (g := G) hp1.g)
  have hL : Aside0 ((xs.length + 1) * 16 ≤ 140737488355328) := ⟨by omega⟩
  have hv : Aside0 (some G ≠ v.ownBlock) := ⟨fun h => hp1.r.1 G h.symm rfl⟩
  clear hW1 hz
  replace hp1 := Aside0.mk hp1
  replace hp := Aside0.mk hp
  replace hb0 := Aside0.mk hb0
  refine start_ (n := 9) (S := fun w' => w'.cell? ⟨G, 0, none⟩ = some v ∧ w'.cell? ⟨z, 0, none⟩ = some (.int .i64 x.f0) ∧ w'.cell? ⟨z, 1, none⟩ = some (.int .i64 x.f1)) (ds := [6, 8]) #[false, false, false, false, false, false, false, false, false] (by kernel_rfl) rfl rfl ⟨(blk_cell (blk_drew hG1.out) 0), (blk_cell (blk_drew hZ1.out) 0), (blk_cell (blk_drew hZ1.out) 1)⟩ (fun hHeld => ?_)
  refine pure_ (i := 0) (N := some 12) (v := ?_) (a' := ?_) #[true, false, false, false, false, false, false, false, false] rfl rfl (by kernel_rfl) (fun _ _ _ h => h) (Or.inl ⟨by rfl, ?_⟩) ?_ ?_
  rotate_left
  · intro w'
    go_simp
    with_reducible rfl
  rotate_left
  · simp only [Act.put, List.setIfInBounds_toArray, List.set_cons_zero, List.set_cons_succ, i64_w, i32_w]
    rfl
  refine pure_ (i := 1) (N := some 13) (v := ?_) (a' := ?_) #[true, true, false, false, false, false, false, false, false] rfl rfl (by kernel_rfl) (fun _ _ _ h => h) (Or.inl ⟨by rfl, ?_⟩) ?_ ?_
  rotate_left
  · intro w'
    go_simp
    with_reducible rfl
  rotate_left
  · simp only [Act.put, List.setIfInBounds_toArray, List.set_cons_zero, List.set_cons_succ, i64_w, i32_w]
    rfl
  refine pure_ (i := 2) (N := some 14) (v := ?_) (a' := ?_) #[true, true, true, false, false, false, false, false, false] rfl rfl (by kernel_rfl) (fun _ _ _ h => h) (Or.inl ⟨by rfl, ?_⟩) ?_ ?_
  rotate_left
  · intro w'
    go_simp
    with_reducible rfl
  rotate_left
  · simp only [Act.put, List.setIfInBounds_toArray, List.set_cons_zero, List.set_cons_succ, i64_w, i32_w]
    rfl
  refine take_ (i := 3) (N := some 15) (v := ?_) (a' := ?_) #[true, true, true, true, false, false, false, false, false] rfl rfl (by kernel_rfl) (fun _ _ _ h => h) (Or.inl ⟨by rfl, ?_⟩) hHeld ?_ ?_
  rotate_left
  · rintro w' ⟨s0, s1, s2⟩
    go_simp
    with_reducible rfl
  rotate_left
  · simp only [Act.put, List.setIfInBounds_toArray, List.set_cons_zero, List.set_cons_succ, i64_w, i32_w]
    rfl
  refine take_ (i := 4) (N := some 16) (v := ?_) (a' := ?_) #[true, true, true, true, true, false, false, false, false] rfl rfl (by kernel_rfl) (fun _ _ _ h => h) (Or.inl ⟨by rfl, ?_⟩) hHeld ?_ ?_
  rotate_left
  · rintro w' ⟨s0, s1, s2⟩
    go_simp
    with_reducible rfl
  rotate_left
  · simp only [Act.put, List.setIfInBounds_toArray, List.set_cons_zero, List.set_cons_succ, i64_w, i32_w]
    rfl
  refine one_ (i := 5) (N := some 17) #[true, true, true, true, true, true, false, false, false] rfl rfl (by kernel_rfl) (by decide) (fun K hK => ?_)
  refine value_ (w1 := ?_) (v := ?_) (by rfl) rfl ?_ ?_
  rotate_left 2
  · go_simp
    constructor
    · rfl
    · rfl
  refine hK.out _ _ ⟨(blk_cell (blk_alloc (blk_drew hG1.out) _) 0), (blk_cell (blk_alloc (blk_drew hZ1.out) _) 0), (blk_cell (blk_alloc (blk_drew hZ1.out) _) 1)⟩ (fun hHeld => ?_)
  clear hK K
  refine norm_ (a' := ?_) ?_ ?_
  rotate_left
  · show Act.put _ (some 17) _ = _
    simp only [Act.put, List.setIfInBounds_toArray, List.set_cons_zero, List.set_cons_succ, i64_w, i32_w]
    rfl
  refine last_ (i := 6) (N := some 18) #[true, true, true, true, true, true, true, false, false] rfl rfl (by kernel_rfl) (by decide) (fun K hK => ?_)
  refine Kd.R_append_step k24 (w0 := W) (W := W1.drew) base (by rfl) (.tmp 15) (.tmp 17) 52 24 (.agg #[(.int .i64 0), (.int .i64 0)]) 16 rfl Try.underlying52 info24 rfl (by decide) (by omega) v xs x [.int .i64 x.f0, .int .i64 x.f1] (fun k => k ≠ G) (fun _ => False) rfl rfl ?aP (fun _ hk => hk.elim) ?aF ?aO ?aB ?aS ?aL ?_
  case aP => exact k24_mkM _ _ _ x
  case aF => exact hF.out
  case aO => exact Kd.R_drew hR1.out
  case aB => exact hB1.out
  case aS => exact hS1.out
  case aL => exact hL.out
  intro v1 w1 ho hb hg hat
  have hgc := Aside0.mk (blk_grown (blk_drew hG1.out) hg hv.out)
  obtain ⟨A1, c1, rfl⟩ := Kd.R_slice ho
  have hgcc := (blk_cell hgc.out 0).trans (by rfl : _ = some v)
  have hgcf := blk_frozen hgc.out 0
  clear hat
  replace hb := Aside0.mk hb
  refine hK.out _ _ ?_
  clear hK K
  refine norm_ (a' := ?_) ?_ ?_
  rotate_left
  · show Act.put _ (some 18) _ = _
    simp only [Act.put, List.setIfInBounds_toArray, List.set_cons_zero, List.set_cons_succ, i64_w, i32_w]
    rfl
  refine pure_ (i := 7) (N := some 19) (v := ?_) (a' := ?_) #[true, true, true, true, true, true, true, true, false] rfl rfl (by kernel_rfl) (fun _ _ _ h => h) (Or.inl ⟨by rfl, ?_⟩) ?_ ?_
  rotate_left
  · intro w'
    go_simp
    with_reducible rfl
  rotate_left
  · simp only [Act.put, List.setIfInBounds_toArray, List.set_cons_zero, List.set_cons_succ, i64_w, i32_w]
    rfl
  refine last_ (i := 8) (N := none) #[true, true, true, true, true, true, true, true, true] rfl rfl (by kernel_rfl) (by decide) (fun K hK => ?_)
  refine skip_ (w1 := ?_) (by rfl) rfl ?_ ?_
  rotate_left
  · go_simp
    rfl
  refine hK.out _ _ ?_
  clear hK K
  refine done_ (by kernel_rfl) ?_

  have hl : (xs ++ [x]).length = xs.length + 1 := by simp
  rw [hl] at ho
  refine bodyPost_end (results_none rfl _ _ _) rfl ⟨rfl, _, ⟨blk_put hgc.out 0 _ rfl, Kd.R_far (p := ⟨G, 0, none⟩) ho (fun k hk => hk) _, ?_⟩, fun hbG => hb.out.trans (below_setG hbG _)⟩
  rw [heap_setCell_size]
  exact Nat.le_trans hp.out.b hb.out.size


theorem PV.pile {W : World} {base G : Nat} {v : Value} {xs : List S24} (h : PV W base G v xs) (h0 : 0 < xs.length) (hlen : xs.length ≤ 10000000000000) :
    ∃ B cap, v = .slice (some ⟨B, 0, none⟩) xs.length cap ∧ base ≤ B ∧ Pile W G B cap xs := by
  obtain ⟨hok, inner, hown, hr⟩ := h.r
  rcases hown.2 with ⟨_, hn⟩ | ⟨B, cap, cur, rfl, hb, hh, hc1, hc2, hc3, hc4⟩
  · omega
  · refine ⟨B, cap, rfl, hb, h.g, ⟨cur, hh, hc3, fun i hi => ?_⟩, hc1, hc2, hlen⟩
    have hi2 := k24_openM (hr.2 i xs[i] (List.getElem?_eq_getElem hi))
    have hsz : k24.sz = 2 := rfl
    rw [hsz] at hi2 hc4
    rw [← hc4] at hi2
    have e0 : ((List.take 2 (List.drop (i * 2) (List.take (xs.length * 2) cur.toList)))[0]?) = some (.int .i64 xs[i].f0) := by rw [hi2]; rfl
    have e1 : ((List.take 2 (List.drop (i * 2) (List.take (xs.length * 2) cur.toList)))[1]?) = some (.int .i64 xs[i].f1) := by rw [hi2]; rfl
    rw [List.getElem?_take, if_pos (by omega), List.getElem?_drop, List.getElem?_take, if_pos (by omega)] at e0 e1
    simpa using And.intro e0 e1
set_option maxHeartbeats 4000000 in
set_option maxRecDepth 100000 in
theorem hand_HPush {W : World} {base G : Nat} {v : Value} {xs : List S24} {x : S24} (hp : PV W base G v xs) (hlen : xs.length ≤ 8796093022207) (hG : base ≤ G) :
    Calls Try.prog 29 #[.iface 43 (.pointer (some ⟨G, 0, none⟩)), .iface 24 (.agg #[.int .i64 x.f0, .int .i64 x.f1])] W fun e w' => e = .returned (.tuple #[]) ∧ ∃ B cap, base ≤ B ∧ Pile w' G B cap (upw (xs ++ [x]) xs.length) ∧ Below base W w' := by
  have hm1 := meth_Len G
  have hm2 := meth_Push G
  have hb := hp.b
  have hl : (xs ++ [x]).length = xs.length + 1 := by simp
  replace hp := Aside0.mk hp
  go_enter Try.func29, Try.ntmps29
  go_wp2_with fail
  refine (hand_PilePush hp.out hlen).mono ?_
  rintro e w1 ⟨rfl, v1, hp1, hb1⟩
  obtain ⟨B, cap, hv1, hB, hpile⟩ := hp1.pile (by omega) (by omega)
  have hs := Aside0.mk (And.intro hpile (hb1 hG))
  clear hp1 hb1 hpile hv1 hp
  go_wp2_with fail
  refine (hand_Len hs.out.1).mono ?_
  rintro e w2 ⟨rfl, rfl⟩
  have e2 : wrap64 ((xs.length : Int) + 1 - 1) = (xs.length : Int) := by
    rw [wrap_in _ (by omega)]
    omega
  go_wp2_with fail
  refine (hand_up hs.out.1 xs.length (by omega)).mono ?_
  rintro e w3 ⟨rfl, hp3, hk3⟩
  go_wp2_with fail
  refine bodyPost_end (results_none rfl _ _ _) rfl ⟨rfl, B, cap, hB, hp3, KP.below hs.out.2 hk3 hG hB (Nat.le_trans hb hs.out.2.size)⟩

theorem eqnil_some (ad : Addr) (n c : Nat) (w : World) : Sem.run Try.prog (binOp BinOp.eql 22 (.slice (some ad) n c) (.slice none 0 0)) w = .ok (.bool false) w := by kernel_rfl
theorem eqnil_none (n c : Nat) (w : World) : Sem.run Try.prog (binOp BinOp.eql 22 (.slice none n c) (.slice none 0 0)) w = .ok (.bool true) w := by kernel_rfl
set_option maxHeartbeats 4000000 in
set_option maxRecDepth 100000 in
theorem hand_Clone (A0 : Option Addr) (c0 : Nat) (l0 : List S24) (w : World) (hr0 : Kd.C k24 w A0 l0.length l0) (hc0 : l0.length ≤ c0) (hl : l0.length < 8796093022208) :
    Calls Try.prog 28 #[.slice A0 l0.length c0] w fun e w' => ∃ v0_ : Value, e = .returned (v0_) ∧ Kd.R k24 24 w' w.heap.size (fun _ => True) v0_ l0 ∧ Below w.heap.size w w' := by
  have hu22 := Try.underlying22
  have hu24 := Try.underlying24
  have hen := eqnil_none
  have hes := eqnil_some
  replace hr0 := Aside0.mk hr0
  cases A0 with
  | none =>
    have h0 : l0 = [] := by
      rcases Nat.eq_zero_or_pos l0.length with h | h
      · exact List.eq_nil_of_length_eq_zero h
      · obtain ⟨ad, h, _⟩ := hr0.out.2.2 h
        cases h
    subst h0
    go_enter Try.func28, Try.ntmps28
    go_wp2_with fail
    go_ret
    exact ⟨_, rfl, Kd.R_nil _ _ _ _ _, Below.refl _ _⟩
  | some ad =>
    have hb0 := Aside0.mk (below_alloc (Below.refl w.heap.size w) (.cells #[] 24 (0, 0)))
    have hO : Aside0 (Kd.R k24 24 (w.alloc (.cells #[] 24 (0, 0))) w.heap.size (fun _ => True) (.slice (some ⟨w.heap.size, 0, none⟩) 0 0) ([] : List S24)) :=
      ⟨fun _ _ => trivial, [], ⟨rfl, .inr ⟨w.heap.size, 0, #[], rfl, Nat.le_refl _, blk_new w _, Nat.le_refl _, Nat.zero_le _, rfl, rfl⟩⟩, Reps.none _ _⟩
    go_enter Try.func28, Try.ntmps28
    go_wp2_with ((with_reducible refine gate_builtin (b := .append) (xs := #[.tmp 5, .tmp 6]) rfl ?_); at_builtin; go_loud (refine Kd.R_append_rows k24 (w0 := w) w.heap.size rfl (.tmp 5) (.tmp 6) 22 24 (.agg #[(.int .i64 0), (.int .i64 0)]) 16 rfl Try.underlying22 info24 rfl (by decide) (by omega) (.slice (some ⟨w.heap.size, 0, none⟩) 0 0) ([] : List S24) l0 (some ad) l0.length c0 (fun _ => True) (fun _ => False) rfl rfl ?aO ?aR (fun _ _ h => h) (fun _ h => h.elim) ?aF ?aB ?aS ?aL ?_); (case aO => exact hO.out); (case aR => exact Kd.C_below hr0.out hb0.out); (case aF => exact fun _ _ => trivial); (case aB => exact hb0.out); (case aS => exact below_size hb0.out); (case aL => simp; omega); intro v1 w1 ho hb hg hat; clear hg hat; replace ho := Aside0.mk ho; replace hb := Aside0.mk hb)
    go_ret
    exact ⟨_, rfl, ho.out, hb.out⟩

theorem Pile.pv {W : World} {base G B cap : Nat} {xs : List S24} (h : Pile W G B cap xs) (hB : base ≤ B) (hb : base ≤ W.heap.size) : PV W base G (.slice (some ⟨B, 0, none⟩) xs.length cap) xs := by
  have hne := h.ne
  have hle := h.le
  obtain ⟨cs, h1, h2, h3⟩ := h.row
  refine ⟨h.g, ⟨fun k hk => ?_, cs.toList.take (xs.length * 2), ⟨?_, .inr ⟨B, cap, cs, rfl, hB, h1, h.le, h.sm, h2, rfl⟩⟩, ?_, fun i x hx => ?_⟩, hb⟩
  · simp [Value.ownBlock] at hk
    subst hk
    exact Ne.symm hne
  · have hsz : k24.sz = 2 := rfl
    simp [hsz]
    omega
  · have hsz : k24.sz = 2 := rfl
    simp [hsz]
    omega
  · have hsz : k24.sz = 2 := rfl
    rw [hsz]
    obtain ⟨hi, rfl⟩ := List.getElem?_eq_some_iff.1 hx
    obtain ⟨e0, e1⟩ := h3 i hi
    have : List.take 2 (List.drop (i * 2) (List.take (xs.length * 2) cs.toList)) = [.int .i64 xs[i].f0, .int .i64 xs[i].f1] := by
      apply List.ext_getElem?
      intro j
      rw [List.getElem?_take]
      by_cases hj : j < 2
      · rw [if_pos hj, List.getElem?_drop, List.getElem?_take, if_pos (by omega)]
        have : j = 0 ∨ j = 1 := by omega
        rcases this with rfl | rfl
        · simpa using e0
        · simpa using e1
      · rw [if_neg hj, List.getElem?_eq_none (by simp; omega)]
    rw [this]
    exact k24_mkM _ _ _ _
set_option maxHeartbeats 1000000 in
set_option maxRecDepth 100000 in
theorem hand_LenV {W : World} {G : Nat} {A : Option Addr} {n c : Nat} (hp : W.heap[G]? = some (.cells #[.slice A n c] 52 (0, 0))) :
    Calls Try.prog 34 #[.pointer (some ⟨G, 0, none⟩)] W fun e w' => e = .returned (.int .i64 (n : Int)) ∧ W = w' := by
  have hc : W.cell? ⟨G, 0, none⟩ = some (.slice A n c) := blk_cell hp 0
  have hu52 := Try.underlying52
  go_enter Try.func34, Try.ntmps34
  go_wp2_with fail
  go_ret
  exact ⟨rfl, rfl⟩
set_option maxHeartbeats 4000000 in
set_option maxRecDepth 100000 in
theorem hand_Init0 {W : World} {G : Nat} {A : Option Addr} {c : Nat} (hp : W.heap[G]? = some (.cells #[.slice A 0 c] 52 (0, 0))) :
    Calls Try.prog 36 #[.iface 43 (.pointer (some ⟨G, 0, none⟩))] W fun e w' => e = .returned (.tuple #[]) ∧ W = w' := by
  have hm1 := meth_Len G
  replace hp := Aside0.mk hp
  have e2 : wrap64 (-1) = -1 := wrap_in _ (by omega)
  go_enter Try.func36, Try.ntmps36
  go_wp2_with fail
  refine (hand_LenV hp.out).mono ?_
  rintro e w1 ⟨rfl, rfl⟩
  go_wp2_with fail
  go_loopw [3] (fun v wr => v = .int .i64 (-1) ∧ W = wr) (fun v _ => 0)
  case atStart => exact ⟨rfl, rfl⟩
  case round =>
    obtain ⟨rfl, rfl⟩ := hrel
    go_wp2_with fail
    exact bodyPost_end (results_none rfl _ _ _) rfl ⟨rfl, rfl⟩
/-- What 'of' hands back. -/
structure Of (w w' : World) (G : Nat) (xs : List S24) : Prop where
  g : w.heap.size ≤ G
  b : Below w.heap.size w w'
  p : ∃ v, PV w' w.heap.size G v xs
set_option maxHeartbeats 4000000 in
set_option maxRecDepth 100000 in
theorem hand_of (A0 : Option Addr) (c0 : Nat) (l0 : List S24) (w : World) (hr0 : Kd.C k24 w A0 l0.length l0) (hc0 : l0.length ≤ c0) (hl : l0.length ≤ 8796093022207) :
    Calls Try.prog 25 #[.slice A0 l0.length c0] w fun e w' => ∃ G, e = .returned (.pointer (some ⟨G, 0, none⟩)) ∧ Of w w' G (hpf l0.length (l0.length / 2) l0) := by
  have hu52 := Try.underlying52
  have hu22 := Try.underlying22
  replace hr0 := Aside0.mk hr0
  go_enter Try.func25, Try.ntmps25
  go_wp2_with fail
  refine (hand_Clone A0 c0 l0 w hr0.out hc0 (by omega)).mono ?_
  rintro e w1 ⟨v0, rfl, hR, hB⟩
  obtain ⟨A1, c1, rfl⟩ := Kd.R_slice hR
  have hs1 := hB.size
  have hb1 := below_alloc (Below.refl w1.heap.size w1) (.cells #[.slice A1 l0.length c1] 52 (0, 0))
  have hpv : PV (w1.alloc (.cells #[.slice A1 l0.length c1] 52 (0, 0))) w.heap.size w1.heap.size (.slice A1 l0.length c1) l0 :=
    ⟨blk_new w1 _, Kd.R_mono (Kd.R_bound (Kd.R_below hR hb1)) (fun k hk hkk => by
      obtain ⟨_, _, _, q, hq, cells', hc⟩ := hk
      subst hkk
      have := blk_new w1 (.cells #[.slice A1 l0.length c1] 52 (0, 0))
      rw [hc] at this
      injection this with this
      injection this with _ this
      subst this
      revert hq
      decide), Nat.le_trans hs1 hb1.size⟩
  have hB2 := Aside0.mk (below_step hB hb1)
  replace hpv := Aside0.mk hpv
  clear hR hB hb1
  go_wp2_with fail
  by_cases h0 : 0 < l0.length
  · obtain ⟨B, cap, hv, hBB, hpile⟩ := hpv.out.pile h0 (by omega)
    clear hv
    refine (hand_Init hpile).mono ?_
    clear hpile
    rintro e w2 ⟨rfl, hp2, hk2⟩
    have hsz := hk2.size
    have hs := Aside0.mk (And.intro hp2 hk2)
    clear hp2 hk2
    go_wp2_with fail
    go_ret
    exact ⟨w1.heap.size, rfl, ⟨hs1, KP.below hB2.out hs.out.2 hs1 hBB hpv.out.b, ⟨_, hs.out.1.pv hBB (Nat.le_trans hpv.out.b hsz)⟩⟩⟩
  · have h0 : l0 = [] := List.eq_nil_of_length_eq_zero (by omega)
    subst h0
    refine (hand_Init0 hpv.out.g).mono ?_
    rintro e w2 ⟨rfl, rfl⟩
    go_wp2_with fail
    go_ret
    exact ⟨w1.heap.size, rfl, ⟨hs1, hB2.out, ⟨_, hpv.out⟩⟩⟩

def lenOf : Value → Nat
  | .slice _ n _ => n
  | _ => 0
theorem Pile.grown {W w1 : World} {G B cap : Nat} {xs : List S24} (h : Pile W G B cap xs) {row : Option Nat} (hg : W.grownBy w1 row) (h1 : some G ≠ row) (h2 : some B ≠ row) : Pile w1 G B cap xs := by
  obtain ⟨cs, e1, e2, e3⟩ := h.row
  exact ⟨blk_grown h.g hg h1, ⟨cs, blk_grown e1 hg h2, e2, e3⟩, h.le, h.sm, h.len⟩
/-- Where the taking stands. -/
structure AllS (W wr : World) (base G B cap : Nat) (xs rest : List S24) (v : Value) (out : List S24) : Prop where
  p : Pile wr G B cap rest
  r : Kd.R k24 24 wr W.heap.size (fun _ => True) v out
  b : Below base W wr
  s : W.heap.size ≤ wr.heap.size
  hp : Hp 0 rest.length rest
  so : Sorted out
  le : ∀ a ∈ out, ∀ c ∈ rest, Le a c
  pm : (out ++ rest).Perm xs
theorem AllS.pop {W wr w' : World} {base G B cap : Nat} {xs rest rest' : List S24} {x : S24} {v : Value} {out : List S24} (h : AllS W wr base G B cap xs rest v out) (hp : Pile w' G B cap rest') (hk : KP wr w' G B)
    (hG : base ≤ G) (hB : base ≤ B) (hGW : G < W.heap.size) (hBW : B < W.heap.size) (hb : base ≤ W.heap.size) : Pile w' G B cap rest' ∧ Kd.R k24 24 w' W.heap.size (fun _ => True) v out ∧ Below base W w' ∧ W.heap.size ≤ w'.heap.size :=
  ⟨hp, Kd.R_mono (Kd.R_move (Kd.R_bound h.r) (fun k hk2 => hk.block k hk2.2.2.1 (by have := hk2.2.1; omega) (by have := hk2.2.1; omega))) (fun _ _ => trivial), KP.below h.b hk hG hB (Nat.le_trans hb h.s), Nat.le_trans h.s hk.size⟩
set_option maxHeartbeats 4000000 in
set_option maxRecDepth 100000 in
theorem hand_all {W : World} {base G B cap : Nat} {xs : List S24} (hp : Pile W G B cap xs) (hh : Hp 0 xs.length xs) (hG : base ≤ G) (hB : base ≤ B) (hb : base ≤ W.heap.size) (hlen : xs.length ≤ 8796093022207) :
    Calls Try.prog 24 #[.pointer (some ⟨G, 0, none⟩)] W fun e w' => ∃ v0_ out, e = .returned v0_ ∧ Kd.R k24 24 w' base (fun _ => True) v0_ out ∧ Below base W w' ∧ Sorted out ∧ out.Perm xs := by
  have hu22 := Try.underlying22
  have hu24 := Try.underlying24
  have hta := tass
  have hGW := blk_lt hp.g
  have hBW : B < W.heap.size := by
    obtain ⟨cs, e1, _⟩ := hp.row
    exact blk_lt e1
  have hs : Aside0 (AllS W W base G B cap xs xs (.slice none 0 0) []) := ⟨⟨hp, Kd.R_nil _ _ _ _ _, Below.refl _ _, Nat.le_refl _, hh, List.Pairwise.nil, fun a h => absurd h (by simp), List.Perm.refl _⟩⟩
  clear hp hh
  go_enter Try.func24, Try.ntmps24
  go_wp2_with fail
  go_loopw [3] (fun v wr => ∃ out rest, lenOf v + rest.length = xs.length ∧ Aside0 (AllS W wr base G B cap xs rest v out)) (fun v _ => xs.length - lenOf v)
  case atStart => exact ⟨[], xs, by simp [lenOf], hs⟩
  case round =>
    clear hs
    obtain ⟨out, rest, hn, hs⟩ := hrel
    go_wp2_with fail
    refine (hand_Len hs.out.p).mono ?_
    rintro e w1 ⟨rfl, rfl⟩
    by_cases h0 : 0 < rest.length
    · have d0 : decide ((rest.length : Int) > 0) = true := decide_eq_true (by omega)
      have d0' : decide (0 < (rest.length : Int)) = true := decide_eq_true (by omega)
      obtain ⟨rest', x, hz, hperm, hp', hmin⟩ := pop_pure h0 hs.out.hp
      go_wp2_with fail
      refine (hand_HPop hs.out.p h0 hz).mono ?_
      rintro e w2 ⟨rfl, hp2, hk2⟩
      have hs2 := Aside0.mk (hs.out.pop (x := x) hp2 hk2 hG hB hGW hBW hb)
      have hlx : out.length ≤ 8796093022207 := by
        have h9 := hs.out.pm.length_eq
        rw [List.length_append] at h9
        omega
      have hL : Aside0 ((out.length + 1) * 16 ≤ 140737488355328) := ⟨by omega⟩
      have hGe : Aside0 (∀ k, u3.ownBlock = some k → W.heap.size ≤ k) := ⟨fun k hk => ((Kd.R_bound hs2.out.2.1).1 k hk).2.1⟩
      have hb0 := below_alloc (Below.refl w2.heap.size w2) (.cells #[.int .i64 x.f0, .int .i64 x.f1] 24 (0, 0))
      have hR0 := Aside0.mk (Kd.R_below hs2.out.2.1 hb0)
      have hP0 := Aside0.mk (hs2.out.1.below hb0)
      have hB0 := Aside0.mk (hs2.out.2.2.1.trans (hb0.mono (Nat.le_trans hb hs2.out.2.2.2)))
      have hS0 := Aside0.mk (Nat.le_trans hs2.out.2.2.2 hb0.size)
      clear hb0
      clear hp2 hk2
      go_upto_region 6 with fail
      have hZ0 := blk_new w2 (.cells #[.int .i64 x.f0, .int .i64 x.f1] 24 (0, 0))
      obtain ⟨W0, hW0⟩ : ∃ W0, W0 = w2.alloc (.cells #[.int .i64 x.f0, .int .i64 x.f1] 24 (0, 0)) := ⟨_, rfl⟩
      rw [← hW0] at hR0 hP0 hB0 hS0 hZ0 ⊢
      clear hW0
      obtain ⟨z, hz0⟩ : ∃ z, z = w2.heap.size := ⟨_, rfl⟩
      rw [← hz0] at hZ0 ⊢
      clear hz0
      have hzc0 : W0.cell? ⟨z, 0, none⟩ = some (.int .i64 x.f0) := (blk_cell hZ0 0).trans rfl
      have hzc1 : W0.cell? ⟨z, 1, none⟩ = some (.int .i64 x.f1) := (blk_cell hZ0 1).trans rfl
      clear hZ0
      go_wp2_with ((with_reducible refine gate_builtin (b := .append) (xs := #[.tmp 20, .tmp 22]) rfl ?_); at_builtin; go_loud (refine Kd.R_append k24 (w0 := W0) (W := W0) W.heap.size rfl (.tmp 20) (.tmp 22) 22 24 (.agg #[(.int .i64 0), (.int .i64 0)]) 16 rfl Try.underlying22 info24 rfl (by decide) (by omega) u3 out x [.int .i64 x.f0, .int .i64 x.f1] (fun _ => True) (fun _ => False) rfl rfl ?aP (fun _ hk => hk.elim) ?aF ?aO ?aB ?aS ?aL ?_); (case aP => exact k24_mkM _ _ _ x); (case aF => exact fun _ _ => trivial); (case aO => exact hR0.out); (case aB => exact Below.refl _ _); (case aS => exact hS0.out); (case aL => exact hL.out); intro v1 w3 ho hb3 hg hat; clear hat; replace ho := Aside0.mk ho; replace hb3 := Aside0.mk hb3; replace hg := Aside0.mk hg)
      go_roundw
      case rel =>
        obtain ⟨A1, c1, rfl⟩ := Kd.R_slice ho.out
        have hlr : rest.length = rest'.length + 1 := by
          rw [← hperm.length_eq]
          simp
        have hlo : lenOf u3 = out.length := by
          obtain ⟨A2, c2, e2⟩ := Kd.R_slice hs.out.r
          rw [e2]
          rfl
        refine ⟨out ++ [x], rest', by simp [lenOf]; omega, ⟨⟨?_, ho.out, ?_, ?_, hp', ?_, ?_, ?_⟩⟩⟩
        · exact hP0.out.grown hg.out (fun h => by have := hGe.out G h.symm; omega) (fun h => by have := hGe.out B h.symm; omega)
        · exact hB0.out.trans (hb3.out.mono hb)
        · exact Nat.le_trans hS0.out hb3.out.size
        · refine List.pairwise_append.2 ⟨hs.out.so, by simp, fun a ha c hc => ?_⟩
          rw [List.mem_singleton] at hc
          subst hc
          exact hs.out.le a ha c (hperm.mem_iff.1 List.mem_cons_self)
        · intro a ha c hc
          rcases List.mem_append.1 ha with ha | ha
          · exact hs.out.le a ha c (hperm.mem_iff.1 (List.mem_cons_of_mem _ hc))
          · rw [List.mem_singleton] at ha
            subst ha
            exact hmin c hc
        · rw [List.append_assoc]
          exact (List.Perm.append_left out hperm).trans hs.out.pm
      case measure =>
        obtain ⟨A1, c1, rfl⟩ := Kd.R_slice ho.out
        have hlo : lenOf u3 = out.length := by
          obtain ⟨A2, c2, e2⟩ := Kd.R_slice hs.out.r
          rw [e2]
          rfl
        show xs.length - lenOf (.slice A1 (out ++ [x]).length c1) < xs.length - lenOf u3
        rw [hlo] at hn ⊢
        simp only [lenOf, List.length_append, List.length_singleton]
        omega
    · have d0 : decide ((rest.length : Int) > 0) = false := decide_eq_false (by omega)
      have d0' : decide (0 < (rest.length : Int)) = false := decide_eq_false (by omega)
      go_wp2_with fail
      go_ret
      have hr0 : rest = [] := List.eq_nil_of_length_eq_zero (by omega)
      subst hr0
      have hpm := hs.out.pm
      rw [List.append_nil] at hpm
      exact ⟨_, out, rfl, Kd.R_lower hs.out.r hb, hs.out.b, hs.out.so, hpm⟩

set_option maxHeartbeats 4000000 in
set_option maxRecDepth 100000 in
theorem hand_all0 {W : World} {base G : Nat} {v : Value} (hp : PV W base G v []) :
    Calls Try.prog 24 #[.pointer (some ⟨G, 0, none⟩)] W fun e w' => ∃ v0_, e = .returned v0_ ∧ Kd.R k24 24 w' base (fun _ => True) v0_ ([] : List S24) ∧ Below base W w' := by
  obtain ⟨A, c, rfl⟩ := Kd.R_slice hp.r
  have hg : Aside0 (W.heap[G]? = some (.cells #[.slice A 0 c] 52 (0, 0))) := ⟨hp.g⟩
  clear hp
  go_enter Try.func24, Try.ntmps24
  go_wp2_with fail
  go_loopw [3] (fun v wr => v = .slice none 0 0 ∧ W = wr) (fun v _ => 0)
  case atStart => exact ⟨rfl, rfl⟩
  case round =>
    obtain ⟨rfl, rfl⟩ := hrel
    go_wp2_with fail
    refine (hand_LenV hg.out).mono ?_
    rintro e w1 ⟨rfl, rfl⟩
    go_wp2_with fail
    go_ret
    exact ⟨_, rfl, Kd.R_nil _ _ _ _ _, Below.refl _ _⟩
theorem hand_allPV {W : World} {base G : Nat} {v : Value} {xs : List S24} (hp : PV W base G v xs) (hh : Hp 0 xs.length xs) (hG : base ≤ G) (hlen : xs.length ≤ 8796093022207) :
    Calls Try.prog 24 #[.pointer (some ⟨G, 0, none⟩)] W fun e w' => ∃ v0_ out, e = .returned v0_ ∧ Kd.R k24 24 w' base (fun _ => True) v0_ out ∧ Below base W w' ∧ Sorted out ∧ out.Perm xs := by
  by_cases h0 : 0 < xs.length
  · obtain ⟨B, cap, hv, hB, hpile⟩ := hp.pile h0 (by omega)
    exact hand_all hpile hh hG hB hp.b hlen
  · have h0 : xs = [] := List.eq_nil_of_length_eq_zero (by omega)
    subst h0
    refine (hand_all0 hp).mono ?_
    rintro e w' ⟨v0, rfl, hR, hB⟩
    exact ⟨v0, [], rfl, hR, hB, List.Pairwise.nil, List.Perm.refl _⟩
set_option maxHeartbeats 4000000 in
set_option maxRecDepth 100000 in
theorem hand_Sort (A0 : Option Addr) (c0 : Nat) (l0 : List S24) (w : World) (hr0 : Kd.C k24 w A0 l0.length l0) (hc0 : l0.length ≤ c0) (hl : l0.length ≤ 8796093022207) :
    Calls Try.prog 11 #[.slice A0 l0.length c0] w fun e w' => ∃ v0_ out, e = .returned v0_ ∧ Kd.R k24 24 w' w.heap.size (fun _ => True) v0_ out ∧ Below w.heap.size w w' ∧ Sorted out ∧ out.Perm l0 := by
  obtain ⟨hh0, hpm⟩ := hpf_all (n := l0.length) (l0.length / 2) l0 (Nat.le_refl _) (hp_half _ _)
  have hh : Hp 0 (hpf l0.length (l0.length / 2) l0).length (hpf l0.length (l0.length / 2) l0) := by
    rw [hpm.length_eq]
    exact hh0
  clear hh0
  have hll := hpm.length_eq
  replace hr0 := Aside0.mk hr0
  replace hh := Aside0.mk hh
  replace hpm := Aside0.mk hpm
  replace hll := Aside0.mk hll
  go_enter Try.func11, Try.ntmps11
  go_wp2_with fail
  refine (hand_of A0 c0 l0 w hr0.out hc0 hl).mono ?_
  rintro e w1 ⟨G, rfl, hof⟩
  obtain ⟨hg, hb, v, hpv⟩ := hof
  replace hb := Aside0.mk hb
  replace hpv := Aside0.mk hpv
  go_wp2_with fail
  have hl2 : (hpf l0.length (l0.length / 2) l0).length ≤ 8796093022207 := by rw [hll.out]; exact hl
  have hh2 : Hp 0 (hpf l0.length (l0.length / 2) l0).length (hpf l0.length (l0.length / 2) l0) := hh.out
  refine (hand_allPV hpv.out hh2 hg hl2).mono ?_
  clear hl2 hh2
  rintro e w2 ⟨v0, out, rfl, hR, hB, hs, hp⟩
  replace hR := Aside0.mk hR
  replace hB := Aside0.mk hB
  replace hs := Aside0.mk hs
  replace hp := Aside0.mk hp
  go_wp2_with fail
  go_ret
  exact ⟨_, out, rfl, hR.out, hb.out.trans hB.out, hs.out, hp.out.trans hpm.out⟩

end Go.Proofs.Ytpkalbokpblhaaa.PA
