import Derived.Test.YtmknoiiflciclaaDoverSpec
import Derived.Test.YtmknoiiflciclaaPAx0
import Derived.Test.YtmknoiiflciclaaDoverMap
import Derived.Test.YtmknoiiflciclaaDoverA
import Derived.Laws.CopyOwn
import Derived.Laws.EntriesVeiled
import Derived.Deep.RegionWith
import Derived.BigRegion
import Derived.Carry
namespace Go.Proofs.Ytmknoiiflciclaa.PA
open Go.RowKit Go.Proofs.YtmknoiiflciclaaW.PrintWords Go.Proofs.YtmknoiiflciclaaW.PrintLast Go.Proofs.YtmknoiiflciclaaW.PrintMore
attribute [local go_sem] max2_int min2_int max_two min_two max_three min_three max_four min_four
set_option linter.unusedVariables false
set_option linter.unusedSimpArgs false
/-- How two jobs compare. -/
def cmpS (a b : S29) : Int := if ahd a b = true then -1 else if a.f1 = b.f1 ∧ a.f0 = b.f0 then 0 else 1
theorem cmpS_lt (a b : S29) : decide (cmpS a b < 0) = ahd a b := by
  unfold cmpS
  by_cases h : ahd a b = true
  · rw [if_pos h, h]
    rfl
  · rw [if_neg h, Bool.eq_false_iff.mpr h]
    split <;> rfl
set_option maxHeartbeats 4000000 in
set_option maxRecDepth 100000 in
theorem hand_cmp (a b : S29) (W : World) :
    Calls Try.prog 30 #[apeV a, apeV b] W fun e w' => e = .returned (.int .i64 (cmpS a b)) ∧ Below W.heap.size W w' := by
  have hu29 := Try.underlying29
  have hu3 := Try.underlying3
  have hb0 := below_alloc (below_alloc (Below.refl W.heap.size W) (.cells #[.int .i64 a.f0, .int .i64 a.f1, .int .i64 a.f2, .int .i64 a.f3, .int .i64 a.f4] 29 (0, 0))) (.cells #[.int .i64 b.f0, .int .i64 b.f1, .int .i64 b.f2, .int .i64 b.f3, .int .i64 b.f4] 29 (0, 0))
  replace hb0 := Aside0.mk hb0
  unfold apeV
  go_enter Try.func30, Try.ntmps30
  go_wp2_with fail
  all_goals go_ret
  all_goals refine ⟨?_, below_alloc (below_alloc (Below.refl _ _) _) _⟩
  all_goals (show Ending.returned (Value.int .i64 _) = _; congr 2; unfold cmpS ahd; simp only [decide_eq_true_eq] at *)
  all_goals first | (exfalso; simp_all; done) | (rw [if_pos (by omega)]; done) | (rw [if_neg (by omega), if_pos (by omega)]; done) | (rw [if_neg (by omega), if_neg (by omega)]; done) | skip
/-- A row of jobs. -/
structure Row5 (W : World) (B cap : Nat) (xs : List S29) : Prop where
  row : ∃ cs : Array Value, W.heap[B]? = some (.cells cs 29 (0, 0)) ∧ cs.size = cap * 5 ∧ ∀ i (h : i < xs.length), cs[i * 5]? = some (.int .i64 xs[i].f0) ∧ cs[i * 5 + 1]? = some (.int .i64 xs[i].f1) ∧ cs[i * 5 + 2]? = some (.int .i64 xs[i].f2) ∧ cs[i * 5 + 3]? = some (.int .i64 xs[i].f3) ∧ cs[i * 5 + 4]? = some (.int .i64 xs[i].f4)
  le : xs.length ≤ cap
  sm : cap ≤ maxLen
theorem Row5.cell {W : World} {B cap : Nat} {xs : List S29} (h : Row5 W B cap xs) (i : Nat) (hi : i < xs.length) :
    W.cell? ⟨B, i * 5, none⟩ = some (.int .i64 (at_ xs i).f0) ∧ W.cell? ⟨B, i * 5 + 1, none⟩ = some (.int .i64 (at_ xs i).f1) ∧ W.cell? ⟨B, i * 5 + 2, none⟩ = some (.int .i64 (at_ xs i).f2) ∧ W.cell? ⟨B, i * 5 + 3, none⟩ = some (.int .i64 (at_ xs i).f3) ∧ W.cell? ⟨B, i * 5 + 4, none⟩ = some (.int .i64 (at_ xs i).f4) := by
  obtain ⟨cs, h1, h2, h3⟩ := h.row
  obtain ⟨e0, e1, e2, e3, e4⟩ := h3 i hi
  rw [at_get hi]
  exact ⟨(blk_cell h1 _).trans e0, (blk_cell h1 _).trans e1, (blk_cell h1 _).trans e2, (blk_cell h1 _).trans e3, (blk_cell h1 _).trans e4⟩
theorem Row5.frozen {W : World} {B cap : Nat} {xs : List S29} (h : Row5 W B cap xs) (i : Nat) : W.frozen? ⟨B, i, none⟩ = false := by
  obtain ⟨cs, h1, _⟩ := h.row
  exact blk_frozen h1 i
theorem Row5.below {W W' : World} {B cap : Nat} {xs : List S29} (h : Row5 W B cap xs) (hb : Below W.heap.size W W') : Row5 W' B cap xs := by
  obtain ⟨cs, h1, h2, h3⟩ := h.row
  exact ⟨⟨cs, blk_below h1 hb, h2, h3⟩, h.le, h.sm⟩
theorem heap_setCell_size (w : World) (p : Addr) (u : Value) : (w.setCell p u).heap.size = w.heap.size := by
  unfold World.setCell
  split <;> simp
/-- The world when a job is stored. -/
def put5 (W : World) (B i : Nat) (x : S29) : World :=
  ((((W.setCell ⟨B, i * 5, none⟩ (.int .i64 x.f0)).setCell ⟨B, i * 5 + 1, none⟩ (.int .i64 x.f1)).setCell ⟨B, i * 5 + 2, none⟩ (.int .i64 x.f2)).setCell ⟨B, i * 5 + 3, none⟩ (.int .i64 x.f3)).setCell ⟨B, i * 5 + 4, none⟩ (.int .i64 x.f4)
theorem grown_setCell (W : World) (p : Addr) (v : Value) : W.grownBy (W.setCell p v) (some p.block) :=
  ⟨rfl, rfl, rfl, Nat.le_of_eq (heap_setCell_size W p v).symm, fun k _ hk => Below.heap_setCell W p v k (fun e => hk (by rw [e]))⟩
theorem Row5.put {W : World} {B cap : Nat} {xs : List S29} (h : Row5 W B cap xs) (i : Nat) (hi : i < xs.length) (x : S29) :
    Row5 (put5 W B i x) B cap (xs.set i x) ∧ W.grownBy (put5 W B i x) (some B) := by
  obtain ⟨cs, h1, h2, h3⟩ := h.row
  have hle := h.le
  refine ⟨⟨⟨_, blk_set (blk_set (blk_set (blk_set (blk_set h1 (i * 5) _) (i * 5 + 1) _) (i * 5 + 2) _) (i * 5 + 3) _) (i * 5 + 4) _, by simp [h2], ?_⟩, by simpa using h.le, h.sm⟩, ?_⟩
  · intro k hk
    rw [List.length_set] at hk
    have h3k := h3 k hk
    have hs1 : i * 5 < cs.size := by omega
    have hs2 : i * 5 + 1 < cs.size := by omega
    have hs3 : i * 5 + 2 < cs.size := by omega
    have hs4 : i * 5 + 3 < cs.size := by omega
    have hs5 : i * 5 + 4 < cs.size := by omega
    by_cases hik : i = k
    · subst hik
      simp only [Array.getElem?_setIfInBounds, List.getElem_set]
      refine ⟨?_, ?_, ?_, ?_, ?_⟩
      · rw [if_neg (by omega), if_neg (by omega), if_neg (by omega), if_neg (by omega)]
        simp [hs1]
      · rw [if_neg (by omega), if_neg (by omega), if_neg (by omega)]
        simp [hs2]
      · rw [if_neg (by omega), if_neg (by omega)]
        simp [hs3]
      · rw [if_neg (by omega)]
        simp [hs4]
      · simp [hs5]
    · simp only [Array.getElem?_setIfInBounds, List.getElem_set, if_neg hik]
      refine ⟨?_, ?_, ?_, ?_, ?_⟩
      all_goals rw [if_neg (by omega), if_neg (by omega), if_neg (by omega), if_neg (by omega), if_neg (by omega)]
      · exact h3k.1
      · exact h3k.2.1
      · exact h3k.2.2.1
      · exact h3k.2.2.2.1
      · exact h3k.2.2.2.2
  · exact ((((grown_setCell W ⟨B, i * 5, none⟩ _).trans (grown_setCell _ ⟨B, i * 5 + 1, none⟩ _)).trans (grown_setCell _ ⟨B, i * 5 + 2, none⟩ _)).trans (grown_setCell _ ⟨B, i * 5 + 3, none⟩ _)).trans (grown_setCell _ ⟨B, i * 5 + 4, none⟩ _)
theorem Row5.of_R {W : World} {base c : Nat} {ok : Nat → Prop} {v : Value} {xs : List S29} (h : Kd.R k29 29 W base ok v xs) (hp : 0 < xs.length) : ∃ B cap, v = .slice (some ⟨B, 0, none⟩) xs.length cap ∧ base ≤ B ∧ Row5 W B cap xs := by
  obtain ⟨_, inner, ⟨hl, h2⟩, hlen, hrep⟩ := h
  rcases h2 with h2 | ⟨g, cap, cur, rfl, hg, hh, hle, hsm, hsz, hin⟩
  · omega
  · have hs5 : k29.sz = 5 := rfl
    rw [hs5] at hsz hin hlen hl hrep
    refine ⟨g, cap, rfl, hg, ⟨cur, hh, hsz, fun i hi => ?_⟩, hle, hsm⟩
    have hm := k29_openM (hrep i xs[i] (List.getElem?_eq_getElem hi))
    have key : ∀ j, j < 5 → cur[i * 5 + j]? = ([.int .i64 xs[i].f0, .int .i64 xs[i].f1, .int .i64 xs[i].f2, .int .i64 xs[i].f3, .int .i64 xs[i].f4] : List Value)[j]? := fun j hj => by
      rw [← hm, List.getElem?_take, if_pos hj, List.getElem?_drop, ← hin, List.getElem?_take, if_pos (by omega), Array.getElem?_toList]
    exact ⟨key 0 (by omega), key 1 (by omega), key 2 (by omega), key 3 (by omega), key 4 (by omega)⟩
theorem Row5.to_R {W : World} {base B cap : Nat} {xs : List S29} (h : Row5 W B cap xs) (hB : base ≤ B) : Kd.R k29 29 W base (fun _ => True) (.slice (some ⟨B, 0, none⟩) xs.length cap) xs := by
  have hle := h.le
  obtain ⟨cs, h1, h2, h3⟩ := h.row
  refine ⟨fun k hk => trivial, cs.toList.take (xs.length * 5), ⟨?_, .inr ⟨B, cap, cs, rfl, hB, h1, h.le, h.sm, h2, rfl⟩⟩, ?_, fun i x hx => ?_⟩
  · have hsz : k29.sz = 5 := rfl
    simp [hsz]
    omega
  · have hsz : k29.sz = 5 := rfl
    simp [hsz]
    omega
  · have hsz : k29.sz = 5 := rfl
    rw [hsz]
    obtain ⟨hi, rfl⟩ := List.getElem?_eq_some_iff.1 hx
    obtain ⟨e0, e1, e2, e3, e4⟩ := h3 i hi
    have : List.take 5 (List.drop (i * 5) (List.take (xs.length * 5) cs.toList)) = [.int .i64 xs[i].f0, .int .i64 xs[i].f1, .int .i64 xs[i].f2, .int .i64 xs[i].f3, .int .i64 xs[i].f4] := by
      apply List.ext_getElem?
      intro j
      rw [List.getElem?_take]
      by_cases hj : j < 5
      · rw [if_pos hj, List.getElem?_drop, List.getElem?_take, if_pos (by omega)]
        have : j = 0 ∨ j = 1 ∨ j = 2 ∨ j = 3 ∨ j = 4 := by omega
        rcases this with rfl | rfl | rfl | rfl | rfl
        · simpa using e0
        · simpa using e1
        · simpa using e2
        · simpa using e3
        · simpa using e4
      · rw [if_neg hj, List.getElem?_eq_none (by simp; omega)]
    rw [this]
    exact k29_mkM _ _ _ _
theorem goesV_ {ops : Array Oper} {Q : Exit → Act → World → Prop} {oi : Oper} {N : Option Tmp} {a : Act} {w : World} {K : Act → World → Prop} {f : FuncId} {fn : Func} {as0 : Array Operand} {ts : Array TypeId} (hf : Try.prog.funcs[f]? = some fn) (hname : (fn.name == "runtime.NumGoroutine") = false) (hb : fn.body.isSome = true) (args : Array Value) (fv : Operand) (hcal : a.eval fv = .func (.func f) #[] #[])
    (hw : Region.wanted oi (yielded ops a.tmps) = true) (hN : oi.dst = N) (hop : oi.op = .call { callee := .value fv, args := as0, argTypes := ts }) (hargs : as0.map a.eval = args)
    (h : Calls Try.prog f args w fun e w' => ∃ v, e = .returned v ∧ K (a.put N v) w') : if Region.wanted oi (yielded ops a.tmps) = true then Oper.wp Try.prog oi a w K Q else K (a.put N undef) w := by
  refine call_ f args hw hN ?_ h
  have he := enters_ hf hname hb args w
  unfold execOp
  simp [hop, resolve, Deferred.ofValue, invoke, hcal, hargs, he]
theorem down_len : ∀ (l : List S29) (j : Nat), (down l j).length = l.length
  | l, 0 => rfl
  | l, j + 1 => by
    rw [down]
    split
    · rw [down_len]
      simp
    · rfl
theorem Row5.drew {W : World} {B cap : Nat} {xs : List S29} (h : Row5 W B cap xs) : Row5 W.drew B cap xs := ⟨h.row, h.le, h.sm⟩
theorem grown_drew {W w : World} {row : Option Nat} (h : W.grownBy w row) : W.grownBy w.drew row := ⟨h.os, h.tape, h.output, h.size, h.block⟩
theorem grown_below {W w' : World} {row : Option Nat} (h : Below W.heap.size W w') : W.grownBy w' row := ⟨h.os, h.tape, h.output, h.size, fun k hk _ => h.block k hk⟩
set_option maxHeartbeats 8000000 in
set_option maxRecDepth 100000 in
theorem hand_ins {W : World} {B cap : Nat} {xs : List S29} (hr : Row5 W B cap xs) (hp : 0 < xs.length) (hl : xs.length ≤ 100) :
    Calls Try.prog 38 #[.slice (some ⟨B, 0, none⟩) xs.length cap, .int .i64 0, .int .i64 (xs.length : Int), .func (.func 30) #[] #[]] W fun e w' => e = .returned (.tuple #[]) ∧ Row5 w' B cap (isort xs) ∧ W.grownBy w' (some B) := by
  have hu29 := Try.underlying29
  have hu22 := Try.underlying22
  replace hr := Aside0.mk hr
  generalize hn : xs.length = n at *
  go_enter Try.func38, Try.ntmps38
  go_wp2_with fail
  go_loopw [8] (fun v wr => ∃ (i : Nat) (l : List S29), v = .int .i64 (i : Int) ∧ 1 ≤ i ∧ i ≤ n ∧ l.length = n ∧ Aside0 (downs l i (n - i) = isort xs) ∧ Aside0 (Row5 wr B cap l) ∧ Aside0 (W.grownBy wr (some B))) (fun v _ => n - (intOf v).toNat)
  case atStart => exact ⟨1, xs, rfl, by omega, by omega, hn, ⟨by rw [← hn]; rfl⟩, hr, ⟨World.grownBy.refl _ _⟩⟩
  case round =>
    obtain ⟨i, l, rfl, hi0, hi, hll, hd, hR, hG⟩ := hrel
    by_cases h1 : i < n
    · have d1 : decide ((i : Int) < (n : Int)) = true := decide_eq_true (by omega)
      go_wp2_with fail
      go_loopw [9] (fun v wr => ∃ (j : Nat) (l' : List S29), v = .int .i64 (j : Int) ∧ j ≤ i ∧ l'.length = n ∧ Aside0 (down l' j = down l i) ∧ Aside0 (Row5 wr B cap l') ∧ Aside0 (W.grownBy wr (some B))) (fun v _ => (intOf v).toNat)
      case atStart => exact ⟨i, l, rfl, Nat.le_refl _, hll, ⟨rfl⟩, hR, hG⟩
      case round =>
        clear hR hG
        obtain ⟨q, l', rfl, hj, hll', hd', hR, hG⟩ := hrel
        rcases Nat.eq_zero_or_pos q with h0 | h0
        · subst h0
          have d2 : decide ((((0 : Nat) : Int)) > 0) = false := by decide
          have hd2 := hd'.out
          rw [down] at hd2
          go_wp2_with fail
          refine start_ (n := 17) (S := fun w' => True) (ds := []) #[false, false, false, false, false, false, false, false, false, false, false, false, false, false, false, false, false] (by kernel_rfl) rfl rfl trivial (fun hHeld => ?_)
          refine pure_ (i := 0) (N := some 18) (v := ?_) (a' := ?_) #[true, false, false, false, false, false, false, false, false, false, false, false, false, false, false, false, false] rfl rfl (by kernel_rfl) (fun _ _ _ h => h) (Or.inl ⟨by rfl, ?_⟩) ?_ ?_
          rotate_left
          · intro w'
            go_simp
            with_reducible rfl
          rotate_left
          · simp only [Act.put, List.setIfInBounds_toArray, List.set_cons_zero, List.set_cons_succ, i64_w, i32_w]
            rfl
          refine pure_ (i := 1) (N := some 19) (v := ?_) (a' := ?_) #[true, true, false, false, false, false, false, false, false, false, false, false, false, false, false, false, false] rfl rfl (by kernel_rfl) (fun _ _ _ h => h) (Or.inl ⟨by rfl, ?_⟩) ?_ ?_
          rotate_left
          · intro w'
            go_simp
            with_reducible rfl
          rotate_left
          · simp only [Act.put, List.setIfInBounds_toArray, List.set_cons_zero, List.set_cons_succ, i64_w, i32_w]
            rfl
          refine pure_ (i := 2) (N := some 20) (v := ?_) (a' := ?_) #[true, true, true, false, false, false, false, false, false, false, false, false, false, false, false, false, false] rfl rfl (by kernel_rfl) (fun _ _ _ h => h) (Or.inl ⟨by rfl, ?_⟩) ?_ ?_
          rotate_left
          · intro w'
            go_simp
            with_reducible rfl
          rotate_left
          · simp only [Act.put, List.setIfInBounds_toArray, List.set_cons_zero, List.set_cons_succ, i64_w, i32_w]
            rfl
          refine pure_ (i := 3) (N := some 21) (v := ?_) (a' := ?_) #[true, true, true, true, false, false, false, false, false, false, false, false, false, false, false, false, false] rfl rfl (by kernel_rfl) (fun _ _ _ h => h) (Or.inl ⟨by rfl, ?_⟩) ?_ ?_
          rotate_left
          · intro w'
            go_simp
            with_reducible rfl
          rotate_left
          · simp only [Act.put, List.setIfInBounds_toArray, List.set_cons_zero, List.set_cons_succ, i64_w, i32_w]
            rfl
          refine pure_ (i := 4) (N := some 22) (v := undef) (a' := ?_) #[true, true, true, true, true, false, false, false, false, false, false, false, false, false, false, false, false] rfl rfl (by kernel_rfl) (fun _ _ _ h => h) (Or.inr ⟨by rfl, rfl⟩) ?_ ?_
          rotate_left
          · simp only [Act.put, List.setIfInBounds_toArray, List.set_cons_zero, List.set_cons_succ, i64_w, i32_w]
            rfl
          refine pure_ (i := 5) (N := some 23) (v := undef) (a' := ?_) #[true, true, true, true, true, true, false, false, false, false, false, false, false, false, false, false, false] rfl rfl (by kernel_rfl) (fun _ _ _ h => h) (Or.inr ⟨by rfl, rfl⟩) ?_ ?_
          rotate_left
          · simp only [Act.put, List.setIfInBounds_toArray, List.set_cons_zero, List.set_cons_succ, i64_w, i32_w]
            rfl
          refine pure_ (i := 6) (N := some 24) (v := undef) (a' := ?_) #[true, true, true, true, true, true, true, false, false, false, false, false, false, false, false, false, false] rfl rfl (by kernel_rfl) (fun _ _ _ h => h) (Or.inr ⟨by rfl, rfl⟩) ?_ ?_
          rotate_left
          · simp only [Act.put, List.setIfInBounds_toArray, List.set_cons_zero, List.set_cons_succ, i64_w, i32_w]
            rfl
          refine pure_ (i := 7) (N := some 25) (v := undef) (a' := ?_) #[true, true, true, true, true, true, true, true, false, false, false, false, false, false, false, false, false] rfl rfl (by kernel_rfl) (fun _ _ _ h => h) (Or.inr ⟨by rfl, rfl⟩) ?_ ?_
          rotate_left
          · simp only [Act.put, List.setIfInBounds_toArray, List.set_cons_zero, List.set_cons_succ, i64_w, i32_w]
            rfl
          refine pure_ (i := 8) (N := some 26) (v := undef) (a' := ?_) #[true, true, true, true, true, true, true, true, true, false, false, false, false, false, false, false, false] rfl rfl (by kernel_rfl) (fun _ _ _ h => h) (Or.inr ⟨by rfl, rfl⟩) ?_ ?_
          rotate_left
          · simp only [Act.put, List.setIfInBounds_toArray, List.set_cons_zero, List.set_cons_succ, i64_w, i32_w]
            rfl
          refine pure_ (i := 9) (N := some 27) (v := undef) (a' := ?_) #[true, true, true, true, true, true, true, true, true, true, false, false, false, false, false, false, false] rfl rfl (by kernel_rfl) (fun _ _ _ h => h) (Or.inr ⟨by rfl, rfl⟩) ?_ ?_
          rotate_left
          · simp only [Act.put, List.setIfInBounds_toArray, List.set_cons_zero, List.set_cons_succ, i64_w, i32_w]
            rfl
          refine pure_ (i := 10) (N := some 28) (v := undef) (a' := ?_) #[true, true, true, true, true, true, true, true, true, true, true, false, false, false, false, false, false] rfl rfl (by kernel_rfl) (fun _ _ _ h => h) (Or.inr ⟨by rfl, rfl⟩) ?_ ?_
          rotate_left
          · simp only [Act.put, List.setIfInBounds_toArray, List.set_cons_zero, List.set_cons_succ, i64_w, i32_w]
            rfl
          refine pure_ (i := 11) (N := some 29) (v := undef) (a' := ?_) #[true, true, true, true, true, true, true, true, true, true, true, true, false, false, false, false, false] rfl rfl (by kernel_rfl) (fun _ _ _ h => h) (Or.inr ⟨by rfl, rfl⟩) ?_ ?_
          rotate_left
          · simp only [Act.put, List.setIfInBounds_toArray, List.set_cons_zero, List.set_cons_succ, i64_w, i32_w]
            rfl
          refine pure_ (i := 12) (N := some 30) (v := undef) (a' := ?_) #[true, true, true, true, true, true, true, true, true, true, true, true, true, false, false, false, false] rfl rfl (by kernel_rfl) (fun _ _ _ h => h) (Or.inr ⟨by rfl, rfl⟩) ?_ ?_
          rotate_left
          · simp only [Act.put, List.setIfInBounds_toArray, List.set_cons_zero, List.set_cons_succ, i64_w, i32_w]
            rfl
          refine pure_ (i := 13) (N := some 31) (v := undef) (a' := ?_) #[true, true, true, true, true, true, true, true, true, true, true, true, true, true, false, false, false] rfl rfl (by kernel_rfl) (fun _ _ _ h => h) (Or.inr ⟨by rfl, rfl⟩) ?_ ?_
          rotate_left
          · simp only [Act.put, List.setIfInBounds_toArray, List.set_cons_zero, List.set_cons_succ, i64_w, i32_w]
            rfl
          refine pure_ (i := 14) (N := some 32) (v := undef) (a' := ?_) #[true, true, true, true, true, true, true, true, true, true, true, true, true, true, true, false, false] rfl rfl (by kernel_rfl) (fun _ _ _ h => h) (Or.inr ⟨by rfl, rfl⟩) ?_ ?_
          rotate_left
          · simp only [Act.put, List.setIfInBounds_toArray, List.set_cons_zero, List.set_cons_succ, i64_w, i32_w]
            rfl
          refine pure_ (i := 15) (N := some 33) (v := undef) (a' := ?_) #[true, true, true, true, true, true, true, true, true, true, true, true, true, true, true, true, false] rfl rfl (by kernel_rfl) (fun _ _ _ h => h) (Or.inr ⟨by rfl, rfl⟩) ?_ ?_
          rotate_left
          · simp only [Act.put, List.setIfInBounds_toArray, List.set_cons_zero, List.set_cons_succ, i64_w, i32_w]
            rfl
          refine pure_ (i := 16) (N := some 34) (v := ?_) (a' := ?_) #[true, true, true, true, true, true, true, true, true, true, true, true, true, true, true, true, true] rfl rfl (by kernel_rfl) (fun _ _ _ h => h) (Or.inl ⟨by rfl, ?_⟩) ?_ ?_
          rotate_left
          · intro w'
            go_simp
            with_reducible rfl
          rotate_left
          · simp only [Act.put, List.setIfInBounds_toArray, List.set_cons_zero, List.set_cons_succ, i64_w, i32_w]
            rfl
          refine done_ (by kernel_rfl) ?_

          go_wp2_with fail
          go_roundw
          case rel => exact ⟨i + 1, l', rfl, by omega, by omega, hll', ⟨by rw [hd2, ← hd.out, show n - i = (n - (i + 1)) + 1 from by omega]; rfl⟩, ⟨hR.out.drew⟩, ⟨grown_drew hG.out⟩⟩
          case measure => simp [intOf] <;> omega
        · obtain ⟨p, hq⟩ : ∃ p, q = p + 1 := ⟨q - 1, by omega⟩
          have d2 : decide ((q : Int) > 0) = true := decide_eq_true (by omega)
          have d3 : decide ((0 : Int) < (q : Int)) = true := d2
          have e2 : wrap64 ((q : Int) - 1) = (p : Int) := by
            rw [show (q : Int) - 1 = (p : Int) from by omega]
            unfold wrap64
            omega
          obtain ⟨hq0, hq1, hq2, hq3, hq4⟩ := hR.out.cell q (by omega)
          obtain ⟨hp0, hp1, hp2, hp3, hp4⟩ := hR.out.cell p (by omega)
          have hj0 : (0 : Int) ≤ (q : Int) := by omega
          have hj1 : (q : Int) < (n : Int) := by omega
          have hi0 : (0 : Int) ≤ ((p : Nat) : Int) := by omega
          have hi1 : ((p : Nat) : Int) < (n : Int) := by omega
          replace hq := Aside0.mk hq
          have d4 : decide (0 < q) = true := decide_eq_true h0
          by_cases h4 : ahd (at_ l' q) (at_ l' p) = true
          · have e4 : decide (cmpS (at_ l' q) (at_ l' p) < 0) = true := by rw [cmpS_lt, h4]
            go_wp2_with fail
            refine start_ (n := 17) (S := fun w' => w'.cell? ⟨B, q * 5, none⟩ = some (.int .i64 (at_ l' q).f0) ∧ w'.cell? ⟨B, q * 5 + 1, none⟩ = some (.int .i64 (at_ l' q).f1) ∧ w'.cell? ⟨B, q * 5 + 2, none⟩ = some (.int .i64 (at_ l' q).f2) ∧ w'.cell? ⟨B, q * 5 + 3, none⟩ = some (.int .i64 (at_ l' q).f3) ∧ w'.cell? ⟨B, q * 5 + 4, none⟩ = some (.int .i64 (at_ l' q).f4) ∧ w'.cell? ⟨B, p * 5, none⟩ = some (.int .i64 (at_ l' p).f0) ∧ w'.cell? ⟨B, p * 5 + 1, none⟩ = some (.int .i64 (at_ l' p).f1) ∧ w'.cell? ⟨B, p * 5 + 2, none⟩ = some (.int .i64 (at_ l' p).f2) ∧ w'.cell? ⟨B, p * 5 + 3, none⟩ = some (.int .i64 (at_ l' p).f3) ∧ w'.cell? ⟨B, p * 5 + 4, none⟩ = some (.int .i64 (at_ l' p).f4)) (ds := []) #[false, false, false, false, false, false, false, false, false, false, false, false, false, false, false, false, false] (by kernel_rfl) rfl rfl ⟨hq0, hq1, hq2, hq3, hq4, hp0, hp1, hp2, hp3, hp4⟩ (fun hHeld => ?_)
            refine pure_ (i := 0) (N := some 18) (v := ?_) (a' := ?_) #[true, false, false, false, false, false, false, false, false, false, false, false, false, false, false, false, false] rfl rfl (by kernel_rfl) (fun _ _ _ h => h) (Or.inl ⟨by rfl, ?_⟩) ?_ ?_
            rotate_left
            · intro w'
              go_simp
              with_reducible rfl
            rotate_left
            · simp only [Act.put, List.setIfInBounds_toArray, List.set_cons_zero, List.set_cons_succ, i64_w, i32_w]
              rfl
            refine pure_ (i := 1) (N := some 19) (v := ?_) (a' := ?_) #[true, true, false, false, false, false, false, false, false, false, false, false, false, false, false, false, false] rfl rfl (by kernel_rfl) (fun _ _ _ h => h) (Or.inl ⟨by rfl, ?_⟩) ?_ ?_
            rotate_left
            · intro w'
              go_simp
              with_reducible rfl
            rotate_left
            · simp only [Act.put, List.setIfInBounds_toArray, List.set_cons_zero, List.set_cons_succ, i64_w, i32_w]
              rfl
            refine pure_ (i := 2) (N := some 20) (v := ?_) (a' := ?_) #[true, true, true, false, false, false, false, false, false, false, false, false, false, false, false, false, false] rfl rfl (by kernel_rfl) (fun _ _ _ h => h) (Or.inl ⟨by rfl, ?_⟩) ?_ ?_
            rotate_left
            · intro w'
              go_simp
              with_reducible rfl
            rotate_left
            · simp only [Act.put, List.setIfInBounds_toArray, List.set_cons_zero, List.set_cons_succ, i64_w, i32_w]
              rfl
            refine pure_ (i := 3) (N := some 21) (v := ?_) (a' := ?_) #[true, true, true, true, false, false, false, false, false, false, false, false, false, false, false, false, false] rfl rfl (by kernel_rfl) (fun _ _ _ h => h) (Or.inl ⟨by rfl, ?_⟩) ?_ ?_
            rotate_left
            · intro w'
              go_simp
              with_reducible rfl
            rotate_left
            · simp only [Act.put, List.setIfInBounds_toArray, List.set_cons_zero, List.set_cons_succ, i64_w, i32_w]
              rfl
            refine pure_ (i := 4) (N := some 22) (v := ?_) (a' := ?_) #[true, true, true, true, true, false, false, false, false, false, false, false, false, false, false, false, false] rfl rfl (by kernel_rfl) (fun _ _ _ h => h) (Or.inl ⟨by rfl, ?_⟩) ?_ ?_
            rotate_left
            · intro w'
              go_simp
              with_reducible rfl
            rotate_left
            · simp only [Act.put, List.setIfInBounds_toArray, List.set_cons_zero, List.set_cons_succ, i64_w, i32_w]
              rfl
            refine pure_ (i := 5) (N := some 23) (v := ?_) (a' := ?_) #[true, true, true, true, true, true, false, false, false, false, false, false, false, false, false, false, false] rfl rfl (by kernel_rfl) (fun _ _ _ h => h) (Or.inl ⟨by rfl, ?_⟩) ?_ ?_
            rotate_left
            · intro w'
              go_simp
              with_reducible rfl
            rotate_left
            · simp only [Act.put, List.setIfInBounds_toArray, List.set_cons_zero, List.set_cons_succ, i64_w, i32_w]
              rfl
            refine pure_ (i := 6) (N := some 24) (v := ?_) (a' := ?_) #[true, true, true, true, true, true, true, false, false, false, false, false, false, false, false, false, false] rfl rfl (by kernel_rfl) (fun _ _ _ h => h) (Or.inl ⟨by rfl, ?_⟩) ?_ ?_
            rotate_left
            · intro w'
              go_simp
              with_reducible rfl
            rotate_left
            · simp only [Act.put, List.setIfInBounds_toArray, List.set_cons_zero, List.set_cons_succ, i64_w, i32_w]
              rfl
            refine pure_ (i := 7) (N := some 25) (v := ?_) (a' := ?_) #[true, true, true, true, true, true, true, true, false, false, false, false, false, false, false, false, false] rfl rfl (by kernel_rfl) (fun _ _ _ h => h) (Or.inl ⟨by rfl, ?_⟩) ?_ ?_
            rotate_left
            · intro w'
              go_simp
              with_reducible rfl
            rotate_left
            · simp only [Act.put, List.setIfInBounds_toArray, List.set_cons_zero, List.set_cons_succ, i64_w, i32_w]
              rfl
            refine pure_ (i := 9) (N := some 27) (v := ?_) (a' := ?_) #[true, true, true, true, true, true, true, true, false, true, false, false, false, false, false, false, false] rfl rfl (by kernel_rfl) (fun _ _ _ h => h) (Or.inl ⟨by rfl, ?_⟩) ?_ ?_
            rotate_left
            · intro w'
              go_simp
              with_reducible rfl
            rotate_left
            · simp only [Act.put, List.setIfInBounds_toArray, List.set_cons_zero, List.set_cons_succ, i64_w, i32_w]
              rfl
            refine pure_ (i := 10) (N := some 28) (v := ?_) (a' := ?_) #[true, true, true, true, true, true, true, true, false, true, true, false, false, false, false, false, false] rfl rfl (by kernel_rfl) (fun _ _ _ h => h) (Or.inl ⟨by rfl, ?_⟩) ?_ ?_
            rotate_left
            · intro w'
              go_simp
              with_reducible rfl
            rotate_left
            · simp only [Act.put, List.setIfInBounds_toArray, List.set_cons_zero, List.set_cons_succ, i64_w, i32_w]
              rfl
            refine pure_ (i := 11) (N := some 29) (v := ?_) (a' := ?_) #[true, true, true, true, true, true, true, true, false, true, true, true, false, false, false, false, false] rfl rfl (by kernel_rfl) (fun _ _ _ h => h) (Or.inl ⟨by rfl, ?_⟩) ?_ ?_
            rotate_left
            · intro w'
              go_simp
              with_reducible rfl
            rotate_left
            · simp only [Act.put, List.setIfInBounds_toArray, List.set_cons_zero, List.set_cons_succ, i64_w, i32_w]
              rfl
            refine pure_ (i := 12) (N := some 30) (v := ?_) (a' := ?_) #[true, true, true, true, true, true, true, true, false, true, true, true, true, false, false, false, false] rfl rfl (by kernel_rfl) (fun _ _ _ h => h) (Or.inl ⟨by rfl, ?_⟩) ?_ ?_
            rotate_left
            · intro w'
              go_simp
              with_reducible rfl
            rotate_left
            · simp only [Act.put, List.setIfInBounds_toArray, List.set_cons_zero, List.set_cons_succ, i64_w, i32_w]
              rfl
            refine take_ (i := 8) (N := some 26) (v := ?_) (a' := ?_) #[true, true, true, true, true, true, true, true, true, true, true, true, true, false, false, false, false] rfl rfl (by kernel_rfl) (fun _ _ _ h => h) (Or.inl ⟨by rfl, ?_⟩) hHeld ?_ ?_
            rotate_left
            · rintro w' ⟨s0, s1, s2, s3, s4, s5, s6, s7, s8, s9⟩
              go_simp
              with_reducible rfl
            rotate_left
            · simp only [Act.put, List.setIfInBounds_toArray, List.set_cons_zero, List.set_cons_succ, i64_w, i32_w]
              rfl
            refine take_ (i := 13) (N := some 31) (v := ?_) (a' := ?_) #[true, true, true, true, true, true, true, true, true, true, true, true, true, true, false, false, false] rfl rfl (by kernel_rfl) (fun _ _ _ h => h) (Or.inl ⟨by rfl, ?_⟩) hHeld ?_ ?_
            rotate_left
            · rintro w' ⟨s0, s1, s2, s3, s4, s5, s6, s7, s8, s9⟩
              go_simp
              with_reducible rfl
            rotate_left
            · simp only [Act.put, List.setIfInBounds_toArray, List.set_cons_zero, List.set_cons_succ, i64_w, i32_w]
              rfl
            refine one_ (i := 14) (N := some 32) #[true, true, true, true, true, true, true, true, true, true, true, true, true, true, true, false, false] rfl rfl (by kernel_rfl) (by decide) (fun K hK => ?_)
            refine goesV_ Try.func30 (by kernel_rfl) rfl #[apeV (at_ l' q), apeV (at_ l' p)] (.tmp 22) (by rfl) (by rfl) rfl rfl (by simp only [List.map_toArray, List.map_cons, List.map_nil]; rfl) ?_
            with_reducible refine (hand_cmp (at_ l' q) (at_ l' p) _).mono ?_
            rintro e w3 ⟨rfl, hb⟩
            refine ⟨_, rfl, ?_⟩
            have hB3 := below_step (below_drew1 (Below.refl wr.heap.size wr)) hb
            have hR3 := hR.out.below hB3
            have hc3 := hR3.cell q (by omega)
            have hc4 := hR3.cell p (by omega)
            replace hR3 := Aside0.mk hR3
            have hG3 := Aside0.mk (hG.out.trans (grown_below hB3))
            refine hK.out _ _ ⟨hc3.1, hc3.2.1, hc3.2.2.1, hc3.2.2.2.1, hc3.2.2.2.2, hc4.1, hc4.2.1, hc4.2.2.1, hc4.2.2.2.1, hc4.2.2.2.2⟩ (fun hHeld => ?_)
            clear hK K
            refine norm_ (a' := ?_) ?_ ?_
            rotate_left
            · show Act.put _ (some 32) _ = _
              simp only [Act.put, List.setIfInBounds_toArray, List.set_cons_zero, List.set_cons_succ, i64_w, i32_w]
              rfl
            refine pure_ (i := 15) (N := some 33) (v := ?_) (a' := ?_) #[true, true, true, true, true, true, true, true, true, true, true, true, true, true, true, true, false] rfl rfl (by kernel_rfl) (fun _ _ _ h => h) (Or.inl ⟨by rfl, ?_⟩) ?_ ?_
            rotate_left
            · intro w'
              go_simp
              with_reducible rfl
            rotate_left
            · simp only [Act.put, List.setIfInBounds_toArray, List.set_cons_zero, List.set_cons_succ, i64_w, i32_w]
              rfl
            refine pure_ (i := 16) (N := some 34) (v := ?_) (a' := ?_) #[true, true, true, true, true, true, true, true, true, true, true, true, true, true, true, true, true] rfl rfl (by kernel_rfl) (fun _ _ _ h => h) (Or.inl ⟨by rfl, ?_⟩) ?_ ?_
            rotate_left
            · intro w'
              go_simp
              with_reducible rfl
            rotate_left
            · simp only [Act.put, List.setIfInBounds_toArray, List.set_cons_zero, List.set_cons_succ, i64_w, i32_w]
              rfl
            refine done_ (by kernel_rfl) ?_

            have hfq0 := hR3.out.frozen (q * 5)
            have hfq1 := hR3.out.frozen (q * 5 + 1)
            have hfq2 := hR3.out.frozen (q * 5 + 2)
            have hfq3 := hR3.out.frozen (q * 5 + 3)
            have hfq4 := hR3.out.frozen (q * 5 + 4)
            have hfp0 := hR3.out.frozen (p * 5)
            have hfp1 := hR3.out.frozen (p * 5 + 1)
            have hfp2 := hR3.out.frozen (p * 5 + 2)
            have hfp3 := hR3.out.frozen (p * 5 + 3)
            have hfp4 := hR3.out.frozen (p * 5 + 4)
            have hpqe : q ≠ p := by have := hq.out; omega
            have hpq0 : q * 5 ≠ p * 5 := by have := hq.out; omega
            have hpq1 : q * 5 ≠ p * 5 + 1 := by have := hq.out; omega
            have hpq2 : q * 5 ≠ p * 5 + 2 := by have := hq.out; omega
            have hpq3 : q * 5 ≠ p * 5 + 3 := by have := hq.out; omega
            have hpq4 : q * 5 ≠ p * 5 + 4 := by have := hq.out; omega
            have hpq5 : q * 5 + 1 ≠ p * 5 := by have := hq.out; omega
            have hpq6 : q * 5 + 1 ≠ p * 5 + 1 := by have := hq.out; omega
            have hpq7 : q * 5 + 1 ≠ p * 5 + 2 := by have := hq.out; omega
            have hpq8 : q * 5 + 1 ≠ p * 5 + 3 := by have := hq.out; omega
            have hpq9 : q * 5 + 1 ≠ p * 5 + 4 := by have := hq.out; omega
            have hpq10 : q * 5 + 2 ≠ p * 5 := by have := hq.out; omega
            have hpq11 : q * 5 + 2 ≠ p * 5 + 1 := by have := hq.out; omega
            have hpq12 : q * 5 + 2 ≠ p * 5 + 2 := by have := hq.out; omega
            have hpq13 : q * 5 + 2 ≠ p * 5 + 3 := by have := hq.out; omega
            have hpq14 : q * 5 + 2 ≠ p * 5 + 4 := by have := hq.out; omega
            have hpq15 : q * 5 + 3 ≠ p * 5 := by have := hq.out; omega
            have hpq16 : q * 5 + 3 ≠ p * 5 + 1 := by have := hq.out; omega
            have hpq17 : q * 5 + 3 ≠ p * 5 + 2 := by have := hq.out; omega
            have hpq18 : q * 5 + 3 ≠ p * 5 + 3 := by have := hq.out; omega
            have hpq19 : q * 5 + 3 ≠ p * 5 + 4 := by have := hq.out; omega
            have hpq20 : q * 5 + 4 ≠ p * 5 := by have := hq.out; omega
            have hpq21 : q * 5 + 4 ≠ p * 5 + 1 := by have := hq.out; omega
            have hpq22 : q * 5 + 4 ≠ p * 5 + 2 := by have := hq.out; omega
            have hpq23 : q * 5 + 4 ≠ p * 5 + 3 := by have := hq.out; omega
            have hpq24 : q * 5 + 4 ≠ p * 5 + 4 := by have := hq.out; omega
            go_wp2_with fail
            refine start_ (n := 18) (S := fun w' => w'.cell? ⟨B, q * 5, none⟩ = some (.int .i64 (at_ l' q).f0) ∧ w'.cell? ⟨B, q * 5 + 1, none⟩ = some (.int .i64 (at_ l' q).f1) ∧ w'.cell? ⟨B, q * 5 + 2, none⟩ = some (.int .i64 (at_ l' q).f2) ∧ w'.cell? ⟨B, q * 5 + 3, none⟩ = some (.int .i64 (at_ l' q).f3) ∧ w'.cell? ⟨B, q * 5 + 4, none⟩ = some (.int .i64 (at_ l' q).f4) ∧ w'.cell? ⟨B, p * 5, none⟩ = some (.int .i64 (at_ l' p).f0) ∧ w'.cell? ⟨B, p * 5 + 1, none⟩ = some (.int .i64 (at_ l' p).f1) ∧ w'.cell? ⟨B, p * 5 + 2, none⟩ = some (.int .i64 (at_ l' p).f2) ∧ w'.cell? ⟨B, p * 5 + 3, none⟩ = some (.int .i64 (at_ l' p).f3) ∧ w'.cell? ⟨B, p * 5 + 4, none⟩ = some (.int .i64 (at_ l' p).f4)) (ds := [15, 17]) #[false, false, false, false, false, false, false, false, false, false, false, false, false, false, false, false, false, false] (by kernel_rfl) rfl rfl ⟨hc3.1, hc3.2.1, hc3.2.2.1, hc3.2.2.2.1, hc3.2.2.2.2, hc4.1, hc4.2.1, hc4.2.2.1, hc4.2.2.2.1, hc4.2.2.2.2⟩ (fun hHeld => ?_)
            refine pure_ (i := 0) (N := some 37) (v := ?_) (a' := ?_) #[true, false, false, false, false, false, false, false, false, false, false, false, false, false, false, false, false, false] rfl rfl (by kernel_rfl) (fun _ _ _ h => h) (Or.inl ⟨by rfl, ?_⟩) ?_ ?_
            rotate_left
            · intro w'
              go_simp
              with_reducible rfl
            rotate_left
            · simp only [Act.put, List.setIfInBounds_toArray, List.set_cons_zero, List.set_cons_succ, i64_w, i32_w]
              rfl
            refine pure_ (i := 1) (N := some 38) (v := ?_) (a' := ?_) #[true, true, false, false, false, false, false, false, false, false, false, false, false, false, false, false, false, false] rfl rfl (by kernel_rfl) (fun _ _ _ h => h) (Or.inl ⟨by rfl, ?_⟩) ?_ ?_
            rotate_left
            · intro w'
              go_simp
              with_reducible rfl
            rotate_left
            · simp only [Act.put, List.setIfInBounds_toArray, List.set_cons_zero, List.set_cons_succ, i64_w, i32_w]
              rfl
            refine pure_ (i := 2) (N := some 39) (v := ?_) (a' := ?_) #[true, true, true, false, false, false, false, false, false, false, false, false, false, false, false, false, false, false] rfl rfl (by kernel_rfl) (fun _ _ _ h => h) (Or.inl ⟨by rfl, ?_⟩) ?_ ?_
            rotate_left
            · intro w'
              go_simp
              with_reducible rfl
            rotate_left
            · simp only [Act.put, List.setIfInBounds_toArray, List.set_cons_zero, List.set_cons_succ, i64_w, i32_w]
              rfl
            refine pure_ (i := 3) (N := some 40) (v := ?_) (a' := ?_) #[true, true, true, true, false, false, false, false, false, false, false, false, false, false, false, false, false, false] rfl rfl (by kernel_rfl) (fun _ _ _ h => h) (Or.inl ⟨by rfl, ?_⟩) ?_ ?_
            rotate_left
            · intro w'
              go_simp
              with_reducible rfl
            rotate_left
            · simp only [Act.put, List.setIfInBounds_toArray, List.set_cons_zero, List.set_cons_succ, i64_w, i32_w]
              rfl
            refine pure_ (i := 4) (N := some 41) (v := ?_) (a' := ?_) #[true, true, true, true, true, false, false, false, false, false, false, false, false, false, false, false, false, false] rfl rfl (by kernel_rfl) (fun _ _ _ h => h) (Or.inl ⟨by rfl, ?_⟩) ?_ ?_
            rotate_left
            · intro w'
              go_simp
              with_reducible rfl
            rotate_left
            · simp only [Act.put, List.setIfInBounds_toArray, List.set_cons_zero, List.set_cons_succ, i64_w, i32_w]
              rfl
            refine pure_ (i := 5) (N := some 42) (v := ?_) (a' := ?_) #[true, true, true, true, true, true, false, false, false, false, false, false, false, false, false, false, false, false] rfl rfl (by kernel_rfl) (fun _ _ _ h => h) (Or.inl ⟨by rfl, ?_⟩) ?_ ?_
            rotate_left
            · intro w'
              go_simp
              with_reducible rfl
            rotate_left
            · simp only [Act.put, List.setIfInBounds_toArray, List.set_cons_zero, List.set_cons_succ, i64_w, i32_w]
              rfl
            refine pure_ (i := 6) (N := some 43) (v := ?_) (a' := ?_) #[true, true, true, true, true, true, true, false, false, false, false, false, false, false, false, false, false, false] rfl rfl (by kernel_rfl) (fun _ _ _ h => h) (Or.inl ⟨by rfl, ?_⟩) ?_ ?_
            rotate_left
            · intro w'
              go_simp
              with_reducible rfl
            rotate_left
            · simp only [Act.put, List.setIfInBounds_toArray, List.set_cons_zero, List.set_cons_succ, i64_w, i32_w]
              rfl
            refine pure_ (i := 7) (N := some 44) (v := ?_) (a' := ?_) #[true, true, true, true, true, true, true, true, false, false, false, false, false, false, false, false, false, false] rfl rfl (by kernel_rfl) (fun _ _ _ h => h) (Or.inl ⟨by rfl, ?_⟩) ?_ ?_
            rotate_left
            · intro w'
              go_simp
              with_reducible rfl
            rotate_left
            · simp only [Act.put, List.setIfInBounds_toArray, List.set_cons_zero, List.set_cons_succ, i64_w, i32_w]
              rfl
            refine pure_ (i := 8) (N := some 45) (v := ?_) (a' := ?_) #[true, true, true, true, true, true, true, true, true, false, false, false, false, false, false, false, false, false] rfl rfl (by kernel_rfl) (fun _ _ _ h => h) (Or.inl ⟨by rfl, ?_⟩) ?_ ?_
            rotate_left
            · intro w'
              go_simp
              with_reducible rfl
            rotate_left
            · simp only [Act.put, List.setIfInBounds_toArray, List.set_cons_zero, List.set_cons_succ, i64_w, i32_w]
              rfl
            refine pure_ (i := 10) (N := some 47) (v := ?_) (a' := ?_) #[true, true, true, true, true, true, true, true, true, false, true, false, false, false, false, false, false, false] rfl rfl (by kernel_rfl) (fun _ _ _ h => h) (Or.inl ⟨by rfl, ?_⟩) ?_ ?_
            rotate_left
            · intro w'
              go_simp
              with_reducible rfl
            rotate_left
            · simp only [Act.put, List.setIfInBounds_toArray, List.set_cons_zero, List.set_cons_succ, i64_w, i32_w]
              rfl
            refine pure_ (i := 11) (N := some 48) (v := ?_) (a' := ?_) #[true, true, true, true, true, true, true, true, true, false, true, true, false, false, false, false, false, false] rfl rfl (by kernel_rfl) (fun _ _ _ h => h) (Or.inl ⟨by rfl, ?_⟩) ?_ ?_
            rotate_left
            · intro w'
              go_simp
              with_reducible rfl
            rotate_left
            · simp only [Act.put, List.setIfInBounds_toArray, List.set_cons_zero, List.set_cons_succ, i64_w, i32_w]
              rfl
            refine pure_ (i := 12) (N := some 49) (v := ?_) (a' := ?_) #[true, true, true, true, true, true, true, true, true, false, true, true, true, false, false, false, false, false] rfl rfl (by kernel_rfl) (fun _ _ _ h => h) (Or.inl ⟨by rfl, ?_⟩) ?_ ?_
            rotate_left
            · intro w'
              go_simp
              with_reducible rfl
            rotate_left
            · simp only [Act.put, List.setIfInBounds_toArray, List.set_cons_zero, List.set_cons_succ, i64_w, i32_w]
              rfl
            refine take_ (i := 9) (N := some 46) (v := ?_) (a' := ?_) #[true, true, true, true, true, true, true, true, true, true, true, true, true, false, false, false, false, false] rfl rfl (by kernel_rfl) (fun _ _ _ h => h) (Or.inl ⟨by rfl, ?_⟩) hHeld ?_ ?_
            rotate_left
            · rintro w' ⟨s0, s1, s2, s3, s4, s5, s6, s7, s8, s9⟩
              go_simp
              with_reducible rfl
            rotate_left
            · simp only [Act.put, List.setIfInBounds_toArray, List.set_cons_zero, List.set_cons_succ, i64_w, i32_w]
              rfl
            refine take_ (i := 13) (N := some 50) (v := ?_) (a' := ?_) #[true, true, true, true, true, true, true, true, true, true, true, true, true, true, false, false, false, false] rfl rfl (by kernel_rfl) (fun _ _ _ h => h) (Or.inl ⟨by rfl, ?_⟩) hHeld ?_ ?_
            rotate_left
            · rintro w' ⟨s0, s1, s2, s3, s4, s5, s6, s7, s8, s9⟩
              go_simp
              with_reducible rfl
            rotate_left
            · simp only [Act.put, List.setIfInBounds_toArray, List.set_cons_zero, List.set_cons_succ, i64_w, i32_w]
              rfl
            refine pure_ (i := 14) (N := some 51) (v := ?_) (a' := ?_) #[true, true, true, true, true, true, true, true, true, true, true, true, true, true, true, false, false, false] rfl rfl (by kernel_rfl) (fun _ _ _ h => h) (Or.inl ⟨by rfl, ?_⟩) ?_ ?_
            rotate_left
            · intro w'
              go_simp
              with_reducible rfl
            rotate_left
            · simp only [Act.put, List.setIfInBounds_toArray, List.set_cons_zero, List.set_cons_succ, i64_w, i32_w]
              rfl
            refine last_ (i := 15) (N := none) #[true, true, true, true, true, true, true, true, true, true, true, true, true, true, true, true, false, false] rfl rfl (by kernel_rfl) (by decide) (fun K hK => ?_)
            refine skip_ (w1 := ?_) (by rfl) rfl ?_ ?_
            rotate_left
            · go_simp
              rfl
            refine hK.out _ _ ?_
            clear hK K
            refine pure_ (i := 16) (N := some 52) (v := ?_) (a' := ?_) #[true, true, true, true, true, true, true, true, true, true, true, true, true, true, true, true, true, false] rfl rfl (by kernel_rfl) (fun _ _ _ h => h) (Or.inl ⟨by rfl, ?_⟩) ?_ ?_
            rotate_left
            · intro w'
              go_simp
              with_reducible rfl
            rotate_left
            · simp only [Act.put, List.setIfInBounds_toArray, List.set_cons_zero, List.set_cons_succ, i64_w, i32_w]
              rfl
            refine last_ (i := 17) (N := none) #[true, true, true, true, true, true, true, true, true, true, true, true, true, true, true, true, true, true] rfl rfl (by kernel_rfl) (by decide) (fun K hK => ?_)
            refine skip_ (w1 := ?_) (by rfl) rfl ?_ ?_
            rotate_left
            · go_simp
              rfl
            refine hK.out _ _ ?_
            clear hK K
            refine done_ (by kernel_rfl) ?_

            clear hpq0 hpq1 hpq2 hpq3 hpq4 hpq5 hpq6 hpq7 hpq8 hpq9 hpq10 hpq11 hpq12 hpq13 hpq14 hpq15 hpq16 hpq17 hpq18 hpq19 hpq20 hpq21 hpq22 hpq23 hpq24 hpqe
            have hqe := hq.out
            have h5 := hR3.out.put q (by omega) (at_ l' p)
            have h6 := h5.1.put p (by simp; omega) (at_ l' q)
            have hd6 : down ((l'.set q (at_ l' p)).set p (at_ l' q)) p = down l i := by
              rw [← hd'.out, hqe, down, if_pos (by rw [← hqe]; exact h4)]
            have hG6 := hG3.out.trans (h5.2.trans h6.2)
            replace hd6 := Aside0.mk hd6
            replace hqe := Aside0.mk hqe
            go_wp2_with fail
            go_roundw
            case rel => exact ⟨p, (l'.set q (at_ l' p)).set p (at_ l' q), by congr 1; have := hqe.out; omega, by have := hqe.out; omega, by simp [hll'], hd6, ⟨h6.1.drew⟩, ⟨grown_drew hG6⟩⟩
            case measure => have := hqe.out; simp [intOf] <;> omega
          · have e4 : decide (cmpS (at_ l' q) (at_ l' p) < 0) = false := by rw [cmpS_lt, Bool.eq_false_iff.mpr h4]
            go_wp2_with fail
            refine start_ (n := 17) (S := fun w' => w'.cell? ⟨B, q * 5, none⟩ = some (.int .i64 (at_ l' q).f0) ∧ w'.cell? ⟨B, q * 5 + 1, none⟩ = some (.int .i64 (at_ l' q).f1) ∧ w'.cell? ⟨B, q * 5 + 2, none⟩ = some (.int .i64 (at_ l' q).f2) ∧ w'.cell? ⟨B, q * 5 + 3, none⟩ = some (.int .i64 (at_ l' q).f3) ∧ w'.cell? ⟨B, q * 5 + 4, none⟩ = some (.int .i64 (at_ l' q).f4) ∧ w'.cell? ⟨B, p * 5, none⟩ = some (.int .i64 (at_ l' p).f0) ∧ w'.cell? ⟨B, p * 5 + 1, none⟩ = some (.int .i64 (at_ l' p).f1) ∧ w'.cell? ⟨B, p * 5 + 2, none⟩ = some (.int .i64 (at_ l' p).f2) ∧ w'.cell? ⟨B, p * 5 + 3, none⟩ = some (.int .i64 (at_ l' p).f3) ∧ w'.cell? ⟨B, p * 5 + 4, none⟩ = some (.int .i64 (at_ l' p).f4)) (ds := []) #[false, false, false, false, false, false, false, false, false, false, false, false, false, false, false, false, false] (by kernel_rfl) rfl rfl ⟨hq0, hq1, hq2, hq3, hq4, hp0, hp1, hp2, hp3, hp4⟩ (fun hHeld => ?_)
            refine pure_ (i := 0) (N := some 18) (v := ?_) (a' := ?_) #[true, false, false, false, false, false, false, false, false, false, false, false, false, false, false, false, false] rfl rfl (by kernel_rfl) (fun _ _ _ h => h) (Or.inl ⟨by rfl, ?_⟩) ?_ ?_
            rotate_left
            · intro w'
              go_simp
              with_reducible rfl
            rotate_left
            · simp only [Act.put, List.setIfInBounds_toArray, List.set_cons_zero, List.set_cons_succ, i64_w, i32_w]
              rfl
            refine pure_ (i := 1) (N := some 19) (v := ?_) (a' := ?_) #[true, true, false, false, false, false, false, false, false, false, false, false, false, false, false, false, false] rfl rfl (by kernel_rfl) (fun _ _ _ h => h) (Or.inl ⟨by rfl, ?_⟩) ?_ ?_
            rotate_left
            · intro w'
              go_simp
              with_reducible rfl
            rotate_left
            · simp only [Act.put, List.setIfInBounds_toArray, List.set_cons_zero, List.set_cons_succ, i64_w, i32_w]
              rfl
            refine pure_ (i := 2) (N := some 20) (v := ?_) (a' := ?_) #[true, true, true, false, false, false, false, false, false, false, false, false, false, false, false, false, false] rfl rfl (by kernel_rfl) (fun _ _ _ h => h) (Or.inl ⟨by rfl, ?_⟩) ?_ ?_
            rotate_left
            · intro w'
              go_simp
              with_reducible rfl
            rotate_left
            · simp only [Act.put, List.setIfInBounds_toArray, List.set_cons_zero, List.set_cons_succ, i64_w, i32_w]
              rfl
            refine pure_ (i := 3) (N := some 21) (v := ?_) (a' := ?_) #[true, true, true, true, false, false, false, false, false, false, false, false, false, false, false, false, false] rfl rfl (by kernel_rfl) (fun _ _ _ h => h) (Or.inl ⟨by rfl, ?_⟩) ?_ ?_
            rotate_left
            · intro w'
              go_simp
              with_reducible rfl
            rotate_left
            · simp only [Act.put, List.setIfInBounds_toArray, List.set_cons_zero, List.set_cons_succ, i64_w, i32_w]
              rfl
            refine pure_ (i := 4) (N := some 22) (v := ?_) (a' := ?_) #[true, true, true, true, true, false, false, false, false, false, false, false, false, false, false, false, false] rfl rfl (by kernel_rfl) (fun _ _ _ h => h) (Or.inl ⟨by rfl, ?_⟩) ?_ ?_
            rotate_left
            · intro w'
              go_simp
              with_reducible rfl
            rotate_left
            · simp only [Act.put, List.setIfInBounds_toArray, List.set_cons_zero, List.set_cons_succ, i64_w, i32_w]
              rfl
            refine pure_ (i := 5) (N := some 23) (v := ?_) (a' := ?_) #[true, true, true, true, true, true, false, false, false, false, false, false, false, false, false, false, false] rfl rfl (by kernel_rfl) (fun _ _ _ h => h) (Or.inl ⟨by rfl, ?_⟩) ?_ ?_
            rotate_left
            · intro w'
              go_simp
              with_reducible rfl
            rotate_left
            · simp only [Act.put, List.setIfInBounds_toArray, List.set_cons_zero, List.set_cons_succ, i64_w, i32_w]
              rfl
            refine pure_ (i := 6) (N := some 24) (v := ?_) (a' := ?_) #[true, true, true, true, true, true, true, false, false, false, false, false, false, false, false, false, false] rfl rfl (by kernel_rfl) (fun _ _ _ h => h) (Or.inl ⟨by rfl, ?_⟩) ?_ ?_
            rotate_left
            · intro w'
              go_simp
              with_reducible rfl
            rotate_left
            · simp only [Act.put, List.setIfInBounds_toArray, List.set_cons_zero, List.set_cons_succ, i64_w, i32_w]
              rfl
            refine pure_ (i := 7) (N := some 25) (v := ?_) (a' := ?_) #[true, true, true, true, true, true, true, true, false, false, false, false, false, false, false, false, false] rfl rfl (by kernel_rfl) (fun _ _ _ h => h) (Or.inl ⟨by rfl, ?_⟩) ?_ ?_
            rotate_left
            · intro w'
              go_simp
              with_reducible rfl
            rotate_left
            · simp only [Act.put, List.setIfInBounds_toArray, List.set_cons_zero, List.set_cons_succ, i64_w, i32_w]
              rfl
            refine pure_ (i := 9) (N := some 27) (v := ?_) (a' := ?_) #[true, true, true, true, true, true, true, true, false, true, false, false, false, false, false, false, false] rfl rfl (by kernel_rfl) (fun _ _ _ h => h) (Or.inl ⟨by rfl, ?_⟩) ?_ ?_
            rotate_left
            · intro w'
              go_simp
              with_reducible rfl
            rotate_left
            · simp only [Act.put, List.setIfInBounds_toArray, List.set_cons_zero, List.set_cons_succ, i64_w, i32_w]
              rfl
            refine pure_ (i := 10) (N := some 28) (v := ?_) (a' := ?_) #[true, true, true, true, true, true, true, true, false, true, true, false, false, false, false, false, false] rfl rfl (by kernel_rfl) (fun _ _ _ h => h) (Or.inl ⟨by rfl, ?_⟩) ?_ ?_
            rotate_left
            · intro w'
              go_simp
              with_reducible rfl
            rotate_left
            · simp only [Act.put, List.setIfInBounds_toArray, List.set_cons_zero, List.set_cons_succ, i64_w, i32_w]
              rfl
            refine pure_ (i := 11) (N := some 29) (v := ?_) (a' := ?_) #[true, true, true, true, true, true, true, true, false, true, true, true, false, false, false, false, false] rfl rfl (by kernel_rfl) (fun _ _ _ h => h) (Or.inl ⟨by rfl, ?_⟩) ?_ ?_
            rotate_left
            · intro w'
              go_simp
              with_reducible rfl
            rotate_left
            · simp only [Act.put, List.setIfInBounds_toArray, List.set_cons_zero, List.set_cons_succ, i64_w, i32_w]
              rfl
            refine pure_ (i := 12) (N := some 30) (v := ?_) (a' := ?_) #[true, true, true, true, true, true, true, true, false, true, true, true, true, false, false, false, false] rfl rfl (by kernel_rfl) (fun _ _ _ h => h) (Or.inl ⟨by rfl, ?_⟩) ?_ ?_
            rotate_left
            · intro w'
              go_simp
              with_reducible rfl
            rotate_left
            · simp only [Act.put, List.setIfInBounds_toArray, List.set_cons_zero, List.set_cons_succ, i64_w, i32_w]
              rfl
            refine take_ (i := 8) (N := some 26) (v := ?_) (a' := ?_) #[true, true, true, true, true, true, true, true, true, true, true, true, true, false, false, false, false] rfl rfl (by kernel_rfl) (fun _ _ _ h => h) (Or.inl ⟨by rfl, ?_⟩) hHeld ?_ ?_
            rotate_left
            · rintro w' ⟨s0, s1, s2, s3, s4, s5, s6, s7, s8, s9⟩
              go_simp
              with_reducible rfl
            rotate_left
            · simp only [Act.put, List.setIfInBounds_toArray, List.set_cons_zero, List.set_cons_succ, i64_w, i32_w]
              rfl
            refine take_ (i := 13) (N := some 31) (v := ?_) (a' := ?_) #[true, true, true, true, true, true, true, true, true, true, true, true, true, true, false, false, false] rfl rfl (by kernel_rfl) (fun _ _ _ h => h) (Or.inl ⟨by rfl, ?_⟩) hHeld ?_ ?_
            rotate_left
            · rintro w' ⟨s0, s1, s2, s3, s4, s5, s6, s7, s8, s9⟩
              go_simp
              with_reducible rfl
            rotate_left
            · simp only [Act.put, List.setIfInBounds_toArray, List.set_cons_zero, List.set_cons_succ, i64_w, i32_w]
              rfl
            refine one_ (i := 14) (N := some 32) #[true, true, true, true, true, true, true, true, true, true, true, true, true, true, true, false, false] rfl rfl (by kernel_rfl) (by decide) (fun K hK => ?_)
            refine goesV_ Try.func30 (by kernel_rfl) rfl #[apeV (at_ l' q), apeV (at_ l' p)] (.tmp 22) (by rfl) (by rfl) rfl rfl (by simp only [List.map_toArray, List.map_cons, List.map_nil]; rfl) ?_
            with_reducible refine (hand_cmp (at_ l' q) (at_ l' p) _).mono ?_
            rintro e w3 ⟨rfl, hb⟩
            refine ⟨_, rfl, ?_⟩
            have hB3 := below_step (below_drew1 (Below.refl wr.heap.size wr)) hb
            have hR3 := hR.out.below hB3
            have hc3 := hR3.cell q (by omega)
            have hc4 := hR3.cell p (by omega)
            replace hR3 := Aside0.mk hR3
            have hG3 := Aside0.mk (hG.out.trans (grown_below hB3))
            refine hK.out _ _ ⟨hc3.1, hc3.2.1, hc3.2.2.1, hc3.2.2.2.1, hc3.2.2.2.2, hc4.1, hc4.2.1, hc4.2.2.1, hc4.2.2.2.1, hc4.2.2.2.2⟩ (fun hHeld => ?_)
            clear hK K
            refine norm_ (a' := ?_) ?_ ?_
            rotate_left
            · show Act.put _ (some 32) _ = _
              simp only [Act.put, List.setIfInBounds_toArray, List.set_cons_zero, List.set_cons_succ, i64_w, i32_w]
              rfl
            refine pure_ (i := 15) (N := some 33) (v := ?_) (a' := ?_) #[true, true, true, true, true, true, true, true, true, true, true, true, true, true, true, true, false] rfl rfl (by kernel_rfl) (fun _ _ _ h => h) (Or.inl ⟨by rfl, ?_⟩) ?_ ?_
            rotate_left
            · intro w'
              go_simp
              with_reducible rfl
            rotate_left
            · simp only [Act.put, List.setIfInBounds_toArray, List.set_cons_zero, List.set_cons_succ, i64_w, i32_w]
              rfl
            refine pure_ (i := 16) (N := some 34) (v := ?_) (a' := ?_) #[true, true, true, true, true, true, true, true, true, true, true, true, true, true, true, true, true] rfl rfl (by kernel_rfl) (fun _ _ _ h => h) (Or.inl ⟨by rfl, ?_⟩) ?_ ?_
            rotate_left
            · intro w'
              go_simp
              with_reducible rfl
            rotate_left
            · simp only [Act.put, List.setIfInBounds_toArray, List.set_cons_zero, List.set_cons_succ, i64_w, i32_w]
              rfl
            refine done_ (by kernel_rfl) ?_

            have hd6 : l' = down l i := by
              have hqe := hq.out
              rw [← hd'.out, hqe, down, if_neg (by rw [← hqe]; exact h4)]
            go_wp2_with fail
            go_roundw
            case rel => exact ⟨i + 1, l', rfl, by omega, by omega, hll', ⟨by rw [hd6, ← hd.out, show n - i = (n - (i + 1)) + 1 from by omega]; rfl⟩, hR3, hG3⟩
            case measure => simp [intOf] <;> omega
    · have d1 : decide ((i : Int) < (n : Int)) = false := decide_eq_false (by omega)
      go_wp2_with fail
      refine bodyPost_end (results_none rfl _ _ _) rfl ?_
      have hin : i = n := by omega
      subst hin
      have hd2 := hd.out
      rw [Nat.sub_self] at hd2
      exact ⟨rfl, by rw [← hd2]; exact hR.out, hG.out⟩
theorem downs_len : ∀ (m : Nat) (l : List S29) (i : Nat), (downs l i m).length = l.length
  | 0, l, i => rfl
  | m + 1, l, i => by
    rw [downs, downs_len, down_len]
theorem isort_len (l : List S29) : (isort l).length = l.length := downs_len _ _ _
set_option maxHeartbeats 8000000 in
set_option maxRecDepth 100000 in
theorem hand_stable {W : World} {B cap : Nat} {xs : List S29} (hr : Row5 W B cap xs) (hp : 0 < xs.length) (hl : xs.length ≤ 10) :
    Calls Try.prog 33 #[.slice (some ⟨B, 0, none⟩) xs.length cap, .int .i64 (xs.length : Int), .func (.func 30) #[] #[]] W fun e w' => e = .returned (.tuple #[]) ∧ Row5 w' B cap (isort xs) ∧ W.grownBy w' (some B) := by
  have hu29 := Try.underlying29
  have hu22 := Try.underlying22
  have hc := hand_ins hr hp (by omega)
  replace hr := Aside0.mk hr
  replace hc := Aside0.mk hc
  have d1 : decide ((20 : Int) ≤ (xs.length : Int)) = false := decide_eq_false (by omega)
  have d2 : decide ((20 : Int) < (xs.length : Int)) = false := decide_eq_false (by omega)
  go_enter Try.func33, Try.ntmps33
  go_wp2_with fail
  go_loopw [7, 8] (fun v v8 wr => v = .int .i64 0 ∧ v8 = .int .i64 20 ∧ wr = W) (fun _ _ _ => 0)
  case atStart => exact ⟨rfl, rfl, rfl⟩
  case round =>
    obtain ⟨rfl, rfl, rfl⟩ := hrel
    go_wp2_with fail
    refine hc.out.mono ?_
    rintro e w1 ⟨rfl, hR, hG⟩
    replace hR := Aside0.mk hR
    replace hG := Aside0.mk hG
    go_wp2_with fail
    go_loopw [6] (fun v wr => v = .int .i64 20 ∧ wr = w1) (fun _ _ => 0)
    case atStart => exact ⟨rfl, rfl⟩
    case round =>
      obtain ⟨rfl, rfl⟩ := hrel
      go_wp2_with fail
      exact bodyPost_end (results_none rfl _ _ _) rfl ⟨rfl, hR.out, hG.out⟩
end Go.Proofs.Ytmknoiiflciclaa.PA
