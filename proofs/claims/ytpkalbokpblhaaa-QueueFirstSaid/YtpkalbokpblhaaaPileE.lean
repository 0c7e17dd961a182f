import Derived.Test.YtpkalbokpblhaaaPAx0
import Derived.Test.YtpkalbokpblhaaaPAx1
import Derived.Test.YtpkalbokpblhaaaPAx7
import Derived.Test.YtpkalbokpblhaaaHeapPure
import Derived.Test.YtpkalbokpblhaaaPileA
import Derived.Test.YtpkalbokpblhaaaPileB
import Derived.Test.YtpkalbokpblhaaaPileC
import Derived.Test.YtpkalbokpblhaaaPileD
import Derived.Laws.CopyOwn
import Derived.Laws.EntriesVeiled
import Derived.Deep.RegionWith
import Derived.BigRegion
namespace Go.Proofs.Ytpkalbokpblhaaa.PA
open Go.RowKit Go.Proofs.YtpkalbokpblhaaaW.PrintWords Go.Proofs.YtpkalbokpblhaaaW.PrintLast Go.Proofs.YtpkalbokpblhaaaW.PrintMore
attribute [local go_sem] max2_int min2_int max_two min_two max_three min_three max_four min_four
set_option linter.unusedVariables false
set_option linter.unusedSimpArgs false
def lenOf : Value → Nat
  | .slice _ n _ => n
  | _ => 0
theorem Pile.grown {W w1 : World} {G B cap : Nat} {xs : List S24} (h : Pile W G B cap xs) {row : Option Nat} (hg : W.grownBy w1 row) (h1 : some G ≠ row) (h2 : some B ≠ row) : Pile w1 G B cap xs := by
  obtain ⟨cs, e1, e2, e3⟩ := h.row
  exact ⟨blk_grown h.g hg h1, ⟨cs, blk_grown e1 hg h2, e2, e3⟩, h.le, h.sm, h.len⟩
/-- Where the taking stands. -/
structure AllS (W wr : World) (base G B cap : Nat) (xs rest : List S24) (v : Value) (out : List S24) : Prop where
  p : Pile wr G B cap rest
  r : Kd.R k24 24 wr W.heap.size (fun _ => True) v out
  b : Below base W wr
  s : W.heap.size ≤ wr.heap.size
  hp : Hp 0 rest.length rest
  so : Sorted out
  le : ∀ a ∈ out, ∀ c ∈ rest, Le a c
  pm : (out ++ rest).Perm xs
theorem AllS.pop {W wr w' : World} {base G B cap : Nat} {xs rest rest' : List S24} {x : S24} {v : Value} {out : List S24} (h : AllS W wr base G B cap xs rest v out) (hp : Pile w' G B cap rest') (hk : KP wr w' G B)
    (hG : base ≤ G) (hB : base ≤ B) (hGW : G < W.heap.size) (hBW : B < W.heap.size) (hb : base ≤ W.heap.size) : Pile w' G B cap rest' ∧ Kd.R k24 24 w' W.heap.size (fun _ => True) v out ∧ Below base W w' ∧ W.heap.size ≤ w'.heap.size :=
  ⟨hp, Kd.R_mono (Kd.R_move (Kd.R_bound h.r) (fun k hk2 => hk.block k hk2.2.2.1 (by have := hk2.2.1; omega) (by have := hk2.2.1; omega))) (fun _ _ => trivial), KP.below h.b hk hG hB (Nat.le_trans hb h.s), Nat.le_trans h.s hk.size⟩
set_option maxHeartbeats 4000000 in
set_option maxRecDepth 100000 in
theorem hand_all {W : World} {base G B cap : Nat} {xs : List S24} (hp : Pile W G B cap xs) (hh : Hp 0 xs.length xs) (hG : base ≤ G) (hB : base ≤ B) (hb : base ≤ W.heap.size) (hlen : xs.length ≤ 8796093022207) :
    Calls Try.prog 24 #[.pointer (some ⟨G, 0, none⟩)] W fun e w' => ∃ v0_ out, e = .returned v0_ ∧ Kd.R k24 24 w' base (fun _ => True) v0_ out ∧ Below base W w' ∧ Sorted out ∧ out.Perm xs := by
  have hu22 := Try.underlying22
  have hu24 := Try.underlying24
  have hta := tass
  have hGW := blk_lt hp.g
  have hBW : B < W.heap.size := by
    obtain ⟨cs, e1, _⟩ := hp.row
    exact blk_lt e1
  have hs : Aside0 (AllS W W base G B cap xs xs (.slice none 0 0) []) := ⟨⟨hp, Kd.R_nil _ _ _ _ _, Below.refl _ _, Nat.le_refl _, hh, List.Pairwise.nil, fun a h => absurd h (by simp), List.Perm.refl _⟩⟩
  clear hp hh
  go_enter Try.func24, Try.ntmps24
  go_wp2_with fail
  go_loopw [3] (fun v wr => ∃ out rest, lenOf v + rest.length = xs.length ∧ Aside0 (AllS W wr base G B cap xs rest v out)) (fun v _ => xs.length - lenOf v)
  case atStart => exact ⟨[], xs, by simp [lenOf], hs⟩
  case round =>
    clear hs
    obtain ⟨out, rest, hn, hs⟩ := hrel
    go_wp2_with fail
    refine (hand_Len hs.out.p).mono ?_
    rintro e w1 ⟨rfl, rfl⟩
    by_cases h0 : 0 < rest.length
    · have d0 : decide ((rest.length : Int) > 0) = true := decide_eq_true (by omega)
      have d0' : decide (0 < (rest.length : Int)) = true := decide_eq_true (by omega)
      obtain ⟨rest', x, hz, hperm, hp', hmin⟩ := pop_pure h0 hs.out.hp
      go_wp2_with fail
      refine (hand_HPop hs.out.p h0 hz).mono ?_
      rintro e w2 ⟨rfl, hp2, hk2⟩
      have hs2 := Aside0.mk (hs.out.pop (x := x) hp2 hk2 hG hB hGW hBW hb)
      have hlx : out.length ≤ 8796093022207 := by
        have h9 := hs.out.pm.length_eq
        rw [List.length_append] at h9
        omega
      have hL : Aside0 ((out.length + 1) * 16 ≤ 140737488355328) := ⟨by omega⟩
      have hGe : Aside0 (∀ k, u3.ownBlock = some k → W.heap.size ≤ k) := ⟨fun k hk => ((Kd.R_bound hs2.out.2.1).1 k hk).2.1⟩
      have hb0 := below_alloc (Below.refl w2.heap.size w2) (.cells #[.int .i64 x.f0, .int .i64 x.f1] 24 (0, 0))
      have hR0 := Aside0.mk (Kd.R_below hs2.out.2.1 hb0)
      have hP0 := Aside0.mk (hs2.out.1.below hb0)
      have hB0 := Aside0.mk (hs2.out.2.2.1.trans (hb0.mono (Nat.le_trans hb hs2.out.2.2.2)))
      have hS0 := Aside0.mk (Nat.le_trans hs2.out.2.2.2 hb0.size)
      clear hb0
      clear hp2 hk2
      go_upto_region 6 with fail
      have hZ0 := blk_new w2 (.cells #[.int .i64 x.f0, .int .i64 x.f1] 24 (0, 0))
      obtain ⟨W0, hW0⟩ : ∃ W0, W0 = w2.alloc (.cells #[.int .i64 x.f0, .int .i64 x.f1] 24 (0, 0)) := ⟨_, rfl⟩
      rw [← hW0] at hR0 hP0 hB0 hS0 hZ0 ⊢
      clear hW0
      obtain ⟨z, hz0⟩ : ∃ z, z = w2.heap.size := ⟨_, rfl⟩
      rw [← hz0] at hZ0 ⊢
      clear hz0
      have hzc0 : W0.cell? ⟨z, 0, none⟩ = some (.int .i64 x.f0) := (blk_cell hZ0 0).trans rfl
      have hzc1 : W0.cell? ⟨z, 1, none⟩ = some (.int .i64 x.f1) := (blk_cell hZ0 1).trans rfl
      clear hZ0
      go_wp2_with ((with_reducible refine gate_builtin (b := .append) (xs := #[.tmp 20, .tmp 22]) rfl ?_); at_builtin; go_loud (refine Kd.R_append k24 (w0 := W0) (W := W0) W.heap.size rfl (.tmp 20) (.tmp 22) 22 24 (.agg #[(.int .i64 0), (.int .i64 0)]) 16 rfl Try.underlying22 info24 rfl (by decide) (by omega) u3 out x [.int .i64 x.f0, .int .i64 x.f1] (fun _ => True) (fun _ => False) rfl rfl ?aP (fun _ hk => hk.elim) ?aF ?aO ?aB ?aS ?aL ?_); (case aP => exact k24_mkM _ _ _ x); (case aF => exact fun _ _ => trivial); (case aO => exact hR0.out); (case aB => exact Below.refl _ _); (case aS => exact hS0.out); (case aL => exact hL.out); intro v1 w3 ho hb3 hg hat; clear hat; replace ho := Aside0.mk ho; replace hb3 := Aside0.mk hb3; replace hg := Aside0.mk hg)
      go_roundw
      case rel =>
        obtain ⟨A1, c1, rfl⟩ := Kd.R_slice ho.out
        have hlr : rest.length = rest'.length + 1 := by
          rw [← hperm.length_eq]
          simp
        have hlo : lenOf u3 = out.length := by
          obtain ⟨A2, c2, e2⟩ := Kd.R_slice hs.out.r
          rw [e2]
          rfl
        refine ⟨out ++ [x], rest', by simp [lenOf]; omega, ⟨⟨?_, ho.out, ?_, ?_, hp', ?_, ?_, ?_⟩⟩⟩
        · exact hP0.out.grown hg.out (fun h => by have := hGe.out G h.symm; omega) (fun h => by have := hGe.out B h.symm; omega)
        · exact hB0.out.trans (hb3.out.mono hb)
        · exact Nat.le_trans hS0.out hb3.out.size
        · refine List.pairwise_append.2 ⟨hs.out.so, by simp, fun a ha c hc => ?_⟩
          rw [List.mem_singleton] at hc
          subst hc
          exact hs.out.le a ha c (hperm.mem_iff.1 List.mem_cons_self)
        · intro a ha c hc
          rcases List.mem_append.1 ha with ha | ha
          · exact hs.out.le a ha c (hperm.mem_iff.1 (List.mem_cons_of_mem _ hc))
          · rw [List.mem_singleton] at ha
            subst ha
            exact hmin c hc
        · rw [List.append_assoc]
          exact (List.Perm.append_left out hperm).trans hs.out.pm
      case measure =>
        obtain ⟨A1, c1, rfl⟩ := Kd.R_slice ho.out
        have hlo : lenOf u3 = out.length := by
          obtain ⟨A2, c2, e2⟩ := Kd.R_slice hs.out.r
          rw [e2]
          rfl
        show xs.length - lenOf (.slice A1 (out ++ [x]).length c1) < xs.length - lenOf u3
        rw [hlo] at hn ⊢
        simp only [lenOf, List.length_append, List.length_singleton]
        omega
    · have d0 : decide ((rest.length : Int) > 0) = false := decide_eq_false (by omega)
      have d0' : decide (0 < (rest.length : Int)) = false := decide_eq_false (by omega)
      go_wp2_with fail
      go_ret
      have hr0 : rest = [] := List.eq_nil_of_length_eq_zero (by omega)
      subst hr0
      have hpm := hs.out.pm
      rw [List.append_nil] at hpm
      exact ⟨_, out, rfl, Kd.R_lower hs.out.r hb, hs.out.b, hs.out.so, hpm⟩

end Go.Proofs.Ytpkalbokpblhaaa.PA
