import Derived.Test.YtmknoiiflciclaaDoverA
import Derived.Test.YtmknoiiflciclaaDoverB
import Derived.Test.YtmknoiiflciclaaDoverSpec
import Derived.Test.YtmknoiiflciclaaPAx0
import Derived.Test.YtmknoiiflciclaaDoverMap
import Derived.Test.YtmknoiiflciclaaDoverB
import Derived.Laws.CopyOwn
import Derived.Laws.EntriesVeiled
import Derived.Deep.RegionWith
import Derived.BigRegion
import Derived.Carry
namespace Go.Proofs.Ytmknoiiflciclaa.PA
open Go.RowKit Go.Proofs.YtmknoiiflciclaaW.PrintWords Go.Proofs.YtmknoiiflciclaaW.PrintLast Go.Proofs.YtmknoiiflciclaaW.PrintMore
attribute [local go_sem] max2_int min2_int max_two min_two max_three min_three max_four min_four
set_option linter.unusedVariables false
set_option linter.unusedSimpArgs false
theorem eqnil_some (ad : Addr) (n c : Nat) (w : World) : Sem.run Try.prog (binOp BinOp.eql 22 (.slice (some ad) n c) (.slice none 0 0)) w = .ok (.bool false) w := by kernel_rfl
theorem eqnil_none (n c : Nat) (w : World) : Sem.run Try.prog (binOp BinOp.eql 22 (.slice none n c) (.slice none 0 0)) w = .ok (.bool true) w := by kernel_rfl
set_option maxHeartbeats 4000000 in
set_option maxRecDepth 100000 in
theorem hand_Clone5 (A0 : Option Addr) (c0 : Nat) (l0 : List S29) (w : World) (hr0 : Kd.C k29 w A0 l0.length l0) (hc0 : l0.length ≤ c0) (hl : l0.length < 3518437208883) :
    Calls Try.prog 28 #[.slice A0 l0.length c0] w fun e w' => ∃ v0_ : Value, e = .returned (v0_) ∧ Kd.R k29 29 w' w.heap.size (fun _ => True) v0_ l0 ∧ Below w.heap.size w w' := by
  have hu22 := Try.underlying22
  have hu29 := Try.underlying29
  have hen := eqnil_none
  have hes := eqnil_some
  replace hr0 := Aside0.mk hr0
  cases A0 with
  | none =>
    have h0 : l0 = [] := by
      rcases Nat.eq_zero_or_pos l0.length with h | h
      · exact List.eq_nil_of_length_eq_zero h
      · obtain ⟨ad, h, _⟩ := hr0.out.2.2 h
        cases h
    subst h0
    go_enter Try.func28, Try.ntmps28
    go_wp2_with fail
    go_ret
    exact ⟨_, rfl, Kd.R_nil _ _ _ _ _, Below.refl _ _⟩
  | some ad =>
    have hb0 := Aside0.mk (below_alloc (Below.refl w.heap.size w) (.cells #[] 29 (0, 0)))
    have hO : Aside0 (Kd.R k29 29 (w.alloc (.cells #[] 29 (0, 0))) w.heap.size (fun _ => True) (.slice (some ⟨w.heap.size, 0, none⟩) 0 0) ([] : List S29)) :=
      ⟨fun _ _ => trivial, [], ⟨rfl, .inr ⟨w.heap.size, 0, #[], rfl, Nat.le_refl _, blk_new w _, Nat.le_refl _, Nat.zero_le _, rfl, rfl⟩⟩, Reps.none _ _⟩
    go_enter Try.func28, Try.ntmps28
    go_wp2_with ((with_reducible refine gate_builtin (b := .append) (xs := #[.tmp 5, .tmp 6]) rfl ?_); at_builtin; go_loud (refine Kd.R_append_rows k29 (w0 := w) w.heap.size rfl (.tmp 5) (.tmp 6) 22 29 (.agg #[(.int .i64 0), (.int .i64 0), (.int .i64 0), (.int .i64 0), (.int .i64 0)]) 40 rfl Try.underlying22 info29 rfl (by decide) (by omega) (.slice (some ⟨w.heap.size, 0, none⟩) 0 0) ([] : List S29) l0 (some ad) l0.length c0 (fun _ => True) (fun _ => False) rfl rfl ?aO ?aR (fun _ _ h => h) (fun _ h => h.elim) ?aF ?aB ?aS ?aL ?_); (case aO => exact hO.out); (case aR => exact Kd.C_below hr0.out hb0.out); (case aF => exact fun _ _ => trivial); (case aB => exact hb0.out); (case aS => exact below_size hb0.out); (case aL => simp; omega); intro v1 w1 ho hb hg hat; clear hg hat; replace ho := Aside0.mk ho; replace hb := Aside0.mk hb)
    go_ret
    exact ⟨_, rfl, ho.out, hb.out⟩

set_option maxHeartbeats 4000000 in
set_option maxRecDepth 100000 in
theorem hand_ins0 {W : World} {A : Option Addr} {cap : Nat} :
    Calls Try.prog 38 #[.slice A 0 cap, .int .i64 0, .int .i64 0, .func (.func 30) #[] #[]] W fun e w' => e = .returned (.tuple #[]) ∧ W = w' := by
  have hu29 := Try.underlying29
  have hu22 := Try.underlying22
  go_enter Try.func38, Try.ntmps38
  go_wp2_with fail
  go_loopw [8] (fun v wr => v = .int .i64 1 ∧ wr = W) (fun _ _ => 0)
  case atStart => exact ⟨rfl, rfl⟩
  case round =>
    obtain ⟨rfl, rfl⟩ := hrel
    go_wp2_with fail
    exact bodyPost_end (results_none rfl _ _ _) rfl ⟨rfl, rfl⟩
set_option maxHeartbeats 4000000 in
set_option maxRecDepth 100000 in
theorem hand_stable0 {W : World} {A : Option Addr} {cap : Nat} :
    Calls Try.prog 33 #[.slice A 0 cap, .int .i64 0, .func (.func 30) #[] #[]] W fun e w' => e = .returned (.tuple #[]) ∧ W = w' := by
  have hu29 := Try.underlying29
  have hu22 := Try.underlying22
  go_enter Try.func33, Try.ntmps33
  go_wp2_with fail
  go_loopw [7, 8] (fun v v8 wr => v = .int .i64 0 ∧ v8 = .int .i64 20 ∧ wr = W) (fun _ _ _ => 0)
  case atStart => exact ⟨rfl, rfl, rfl⟩
  case round =>
    obtain ⟨rfl, rfl, rfl⟩ := hrel
    go_wp2_with fail
    refine (hand_ins0 (A := A) (cap := cap)).mono ?_
    rintro e w1 ⟨rfl, hw⟩
    go_wp2_with fail
    go_loopw [6] (fun v w2 => v = .int .i64 20 ∧ w2 = w1) (fun _ _ => 0)
    case atStart => exact ⟨rfl, rfl⟩
    case round =>
      obtain ⟨rfl, rfl⟩ := hrel
      go_wp2_with fail
      exact bodyPost_end (results_none rfl _ _ _) rfl ⟨rfl, hw⟩
set_option maxHeartbeats 4000000 in
set_option maxRecDepth 100000 in
theorem hand_SSF {W : World} {base : Nat} {v : Value} {xs : List S29} (hr : Kd.R k29 29 W base (fun _ => True) v xs) (hb : base ≤ W.heap.size) (hl : xs.length ≤ 10) :
    Calls Try.prog 29 #[v, .func (.func 30) #[] #[]] W fun e w' => e = .returned (.tuple #[]) ∧ Kd.R k29 29 w' base (fun _ => True) v (isort xs) ∧ Below base W w' := by
  have hu29 := Try.underlying29
  have hu22 := Try.underlying22
  rcases Nat.eq_zero_or_pos xs.length with h0 | h0
  · obtain ⟨A, c, rfl⟩ := Kd.R_slice hr
    have hx : xs = [] := List.eq_nil_of_length_eq_zero h0
    subst hx
    replace hr := Aside0.mk hr
    go_enter Try.func29, Try.ntmps29
    go_wp2_with fail
    refine (hand_stable0 (A := A) (cap := c)).mono ?_
    rintro e w1 ⟨rfl, rfl⟩
    go_wp2_with fail
    exact bodyPost_end (results_none rfl _ _ _) rfl ⟨rfl, hr.out, Below.refl _ _⟩
  · obtain ⟨B, cap, rfl, hB, hrow⟩ := Row5.of_R (c := 0) hr h0
    replace hrow := Aside0.mk hrow
    clear hr
    go_enter Try.func29, Try.ntmps29
    go_wp2_with fail
    refine (hand_stable hrow.out h0 hl).mono ?_
    rintro e w1 ⟨rfl, hR, hG⟩
    go_wp2_with fail
    refine bodyPost_end (results_none rfl _ _ _) rfl ⟨rfl, ?_, below_grown (Below.refl _ _) hG hB hb⟩
    have := hR.to_R hB
    rw [isort_len] at this
    exact this
set_option maxHeartbeats 4000000 in
set_option maxRecDepth 100000 in
theorem hand_sorted (A0 : Option Addr) (c0 : Nat) (l0 : List S29) (w : World) (hr0 : Kd.C k29 w A0 l0.length l0) (hc0 : l0.length ≤ c0) (hl : l0.length ≤ 10) :
    Calls Try.prog 22 #[.slice A0 l0.length c0] w fun e w' => ∃ v0_ : Value, e = .returned (v0_) ∧ Kd.R k29 29 w' w.heap.size (fun _ => True) v0_ (isort l0) ∧ Below w.heap.size w w' := by
  replace hr0 := Aside0.mk hr0
  go_enter Try.func22, Try.ntmps22
  go_wp2_with fail
  refine (hand_Clone5 A0 c0 l0 w hr0.out hc0 (by omega)).mono ?_
  rintro e w1 ⟨v1, rfl, h1, hb1⟩
  replace h1 := Aside0.mk h1
  replace hb1 := Aside0.mk hb1
  go_wp2_with fail
  refine (hand_SSF h1.out hb1.out.size hl).mono ?_
  rintro e w2 ⟨rfl, h2, hb2⟩
  go_wp2_with fail
  go_ret
  exact ⟨_, rfl, h2, hb1.out.trans hb2⟩
end Go.Proofs.Ytmknoiiflciclaa.PA
