import Derived.Test.YtpkalbokpblhaaaPAx0
import Derived.Test.YtpkalbokpblhaaaPAx1
import Derived.Test.YtpkalbokpblhaaaPAx7
import Derived.Test.YtpkalbokpblhaaaHeapPure
import Derived.Test.YtpkalbokpblhaaaPileA
import Derived.Test.YtpkalbokpblhaaaPileB
import Derived.Laws.CopyOwn
import Derived.Laws.EntriesVeiled
import Derived.Deep.RegionWith
import Derived.BigRegion
namespace Go.Proofs.Ytpkalbokpblhaaa.PA
open Go.RowKit Go.Proofs.YtpkalbokpblhaaaW.PrintWords Go.Proofs.YtpkalbokpblhaaaW.PrintLast Go.Proofs.YtpkalbokpblhaaaW.PrintMore
attribute [local go_sem] max2_int min2_int max_two min_two max_three min_three max_four min_four
set_option linter.unusedVariables false
set_option linter.unusedSimpArgs false
set_option maxHeartbeats 4000000 in
set_option maxRecDepth 100000 in
theorem hand_up {W : World} {G B cap : Nat} {xs : List S24} (hp : Pile W G B cap xs) (j : Nat) (hj : j < xs.length) :
    Calls Try.prog 39 #[.iface 43 (.pointer (some ⟨G, 0, none⟩)), .int .i64 (j : Int)] W fun e w' => e = .returned (.tuple #[]) ∧ Pile w' G B cap (upw xs j) ∧ KP W w' G B := by
  have hm1 := meth_Less G
  have hm2 := meth_Swap G
  have hs := Aside0.mk (PS.mk hp (KP.refl W G B) (rfl : xs.length = xs.length))
  have hlen := hp.len
  clear hp
  go_enter Try.func39, Try.ntmps39
  go_wp2_with fail
  go_loopw [1] (fun v wr => ∃ (ys : List S24) (a : Nat), v = .int .i64 (a : Int) ∧ a < xs.length ∧ Aside0 (PS W wr G B cap xs ys) ∧ Aside0 (upw xs j = upw ys a)) (fun v _ => (intOf v).toNat)
  case atStart => exact ⟨xs, j, rfl, hj, hs, ⟨rfl⟩⟩
  case round =>
    clear hs
    obtain ⟨ys, a, rfl, ha, hs, hd⟩ := hrel
    have e1 : wrap64 ((a : Int) - 1) = (a : Int) - 1 := wrap_in _ (by omega)
    by_cases h0 : a = 0
    · subst h0
      go_wp2_with fail
      refine bodyPost_end (results_none rfl _ _ _) rfl ?_
      rw [hd.out, upw_zero]
      exact ⟨rfl, hs.out.p, hs.out.k⟩
    · have e2 : Aside0 (((a : Int) - 1) / 2 = (((a - 1) / 2 : Nat) : Int)) := ⟨by omega⟩
      have e3 : (((a : Int) - 1) / 2 == (a : Int)) = false := by
        rw [beq_eq_false_iff_ne]
        omega
      cases h4 : ah (at_ ys a) (at_ ys ((a - 1) / 2))
      · go_wp2_with fail
        refine (hand_LessJ hs.out.p (a : Int) (((a : Int) - 1) / 2) a ((a - 1) / 2) rfl e2.out _ h4 (by rw [hs.out.l]; omega) (by rw [hs.out.l]; omega)).mono ?_
        rintro e w2 ⟨rfl, hb2⟩
        have hs2 := Aside0.mk (hs.out.below hb2)
        clear hs hb2
        go_wp2_with fail
        refine bodyPost_end (results_none rfl _ _ _) rfl ?_
        rw [hd.out, upw_stop h4]
        exact ⟨rfl, hs2.out.p, hs2.out.k⟩
      · go_wp2_with fail
        refine (hand_LessJ hs.out.p (a : Int) (((a : Int) - 1) / 2) a ((a - 1) / 2) rfl e2.out _ h4 (by rw [hs.out.l]; omega) (by rw [hs.out.l]; omega)).mono ?_
        rintro e w2 ⟨rfl, hb2⟩
        have hs2 := Aside0.mk (hs.out.below hb2)
        clear hs hb2
        go_wp2_with fail
        refine (hand_SwapJ hs2.out.p (((a : Int) - 1) / 2) (a : Int) ((a - 1) / 2) a e2.out rfl (by rw [hs2.out.l]; omega) (by rw [hs2.out.l]; omega)).mono ?_
        rintro e w3 ⟨rfl, hp3, hk3⟩
        have hs3 := Aside0.mk (hs2.out.swap hp3 hk3)
        clear hs2 hp3 hk3
        go_wp2_with fail
        go_roundw
        case rel => exact ⟨swp ys ((a - 1) / 2) a, (a - 1) / 2, by rw [e2.out], by omega, hs3, ⟨by rw [hd.out, upw_go h0 h4]⟩⟩
        case measure => simp [intOf] <;> omega


set_option maxHeartbeats 4000000 in
set_option maxRecDepth 100000 in
theorem hand_Init {W : World} {G B cap : Nat} {xs : List S24} (hp : Pile W G B cap xs) :
    Calls Try.prog 36 #[.iface 43 (.pointer (some ⟨G, 0, none⟩))] W fun e w' => e = .returned (.tuple #[]) ∧ Pile w' G B cap (hpf xs.length (xs.length / 2) xs) ∧ KP W w' G B := by
  have hm1 := meth_Len G
  have hs := Aside0.mk (PS.mk hp (KP.refl W G B) (rfl : xs.length = xs.length))
  have hlen := hp.len
  clear hp
  have e2 : wrap64 ((xs.length : Int) / 2 - 1) = (xs.length : Int) / 2 - 1 := wrap_in _ (by omega)
  go_enter Try.func36, Try.ntmps36
  go_wp2_with fail
  refine (hand_Len hs.out.p).mono ?_
  rintro e w1 ⟨rfl, rfl⟩
  go_wp2_with fail
  go_loopw [3] (fun v wr => ∃ (ys : List S24) (k : Nat), v = .int .i64 ((k : Int) - 1) ∧ k ≤ xs.length ∧ Aside0 (PS W wr G B cap xs ys) ∧ Aside0 (hpf xs.length (xs.length / 2) xs = hpf xs.length k ys)) (fun v _ => (intOf v + 1).toNat)
  case atStart => exact ⟨xs, xs.length / 2, by simp, by omega, hs, ⟨rfl⟩⟩
  case round =>
    clear hs
    obtain ⟨ys, k, rfl, hk, hs, hd⟩ := hrel
    cases k with
    | zero =>
      go_wp2_with fail
      refine bodyPost_end (results_none rfl _ _ _) rfl ?_
      rw [hd.out]
      exact ⟨rfl, hs.out.p, hs.out.k⟩
    | succ k =>
      have e1 : wrap64 ((k : Int) - 1) = (k : Int) - 1 := wrap_in _ (by omega)
      have d1 : decide ((k : Int) ≥ 0) = true := decide_eq_true (by omega)
      have d1' : decide (0 ≤ (k : Int)) = true := decide_eq_true (by omega)
      go_wp2_with fail
      have hl := hs.out.l
      have hdn := hand_down hs.out.p k xs.length (by omega) (by omega)
      refine hdn.mono ?_
      rintro e w3 ⟨rfl, hp3, hk3⟩
      have hl3 : (dn xs.length ys k).1.length = xs.length := by rw [dn_len, hl]
      have hs3 := Aside0.mk (PS.mk (xs := xs) hp3 (hs.out.k.trans hk3) hl3)
      clear hs hp3 hk3 hdn
      go_wp2_with fail
      go_roundw
      case rel => exact ⟨_, k, rfl, by omega, hs3, ⟨hd.out⟩⟩
      case measure => simp [intOf] <;> omega

set_option maxHeartbeats 4000000 in
set_option maxRecDepth 100000 in
theorem hand_HPop {W : World} {G B cap : Nat} {xs rest : List S24} {x : S24} (hp : Pile W G B cap xs) (h0 : 0 < xs.length) (hz : (dn (xs.length - 1) (swp xs 0 (xs.length - 1)) 0).1 = rest ++ [x]) :
    Calls Try.prog 35 #[.iface 43 (.pointer (some ⟨G, 0, none⟩))] W fun e w' => e = .returned (.iface 24 (.agg #[.int .i64 x.f0, .int .i64 x.f1])) ∧ Pile w' G B cap rest ∧ KP W w' G B := by
  have hm1 := meth_Len G
  have hm2 := meth_Swap G
  have hm3 := meth_Pop G
  have hs := Aside0.mk (PS.mk hp (KP.refl W G B) (rfl : xs.length = xs.length))
  have hlen := hp.len
  clear hp
  have e2 : wrap64 ((xs.length : Int) - 1) = (xs.length : Int) - 1 := wrap_in _ (by omega)
  replace hz := Aside0.mk hz
  go_enter Try.func35, Try.ntmps35
  go_wp2_with fail
  refine (hand_Len hs.out.p).mono ?_
  rintro e w1 ⟨rfl, rfl⟩
  go_wp2_with fail
  refine (hand_SwapJ hs.out.p 0 ((xs.length : Int) - 1) 0 (xs.length - 1) rfl (by omega) (by omega) (by omega)).mono ?_
  rintro e w2 ⟨rfl, hp2, hk2⟩
  have hs2 := Aside0.mk (hs.out.swap hp2 hk2)
  clear hs hp2 hk2
  go_wp2_with fail
  have hn : ((xs.length : Int) - 1) = ((xs.length - 1 : Nat) : Int) := by omega
  have hdn := hand_down hs2.out.p 0 (xs.length - 1) (by rw [swp_length]; omega) (by omega)
  rw [← hn] at hdn
  refine hdn.mono ?_
  rintro e w3 ⟨rfl, hp3, hk3⟩
  rw [hz.out] at hp3
  have hs3 := Aside0.mk (And.intro hp3 (hs2.out.k.trans hk3))
  clear hs2 hp3 hk3 hdn
  go_wp2_with fail
  refine (hand_PilePop hs3.out.1).mono ?_
  rintro e w4 ⟨rfl, hp4, hk4⟩
  have hs4 := Aside0.mk (And.intro hp4 (hs3.out.2.trans hk4))
  clear hs3 hp4 hk4
  go_wp2_with fail
  go_ret
  exact ⟨rfl, hs4.out.1, hs4.out.2⟩
set_option maxHeartbeats 4000000 in
set_option maxRecDepth 100000 in
theorem hand_Remove {W : World} {G B cap : Nat} {xs rest : List S24} {x : S24} (hp : Pile W G B cap xs) (i : Nat) (hi : i < xs.length) (hm : ¬ (dn (xs.length - 1) (swp xs i (xs.length - 1)) i).2 > i → upw (dn (xs.length - 1) (swp xs i (xs.length - 1)) i).1 i = (dn (xs.length - 1) (swp xs i (xs.length - 1)) i).1)
    (hz : (dn (xs.length - 1) (swp xs i (xs.length - 1)) i).1 = rest ++ [x]) :
    Calls Try.prog 30 #[.iface 43 (.pointer (some ⟨G, 0, none⟩)), .int .i64 (i : Int)] W fun e w' => e = .returned (.iface 24 (.agg #[.int .i64 x.f0, .int .i64 x.f1])) ∧ Pile w' G B cap rest ∧ KP W w' G B := by
  have hm1 := meth_Len G
  have hm2 := meth_Swap G
  have hm3 := meth_Pop G
  have hs := Aside0.mk (PS.mk hp (KP.refl W G B) (rfl : xs.length = xs.length))
  have hlen := hp.len
  clear hp
  have e2 : wrap64 ((xs.length : Int) - 1) = (xs.length : Int) - 1 := wrap_in _ (by omega)
  replace hm := Aside0.mk hm
  by_cases hin : xs.length - 1 = i
  · have d1 : ((xs.length : Int) - 1 != (i : Int)) = false := by
      rw [bne_eq_false_iff_eq]
      omega
    have hz2 : xs = rest ++ [x] := by
      rw [hin, swp_self hi, dn_end (by omega)] at hz
      exact hz
    replace hz2 := Aside0.mk hz2
    replace hz := Aside0.mk hz
    go_enter Try.func30, Try.ntmps30
    go_wp2_with fail
    refine (hand_Len hs.out.p).mono ?_
    rintro e w1 ⟨rfl, rfl⟩
    go_wp2_with fail
    have hs3 := Aside0.mk (And.intro (hz2.out ▸ hs.out.p : Pile W G B cap (rest ++ [x])) hs.out.k)
    refine (hand_PilePop hs3.out.1).mono ?_
    rintro e w4 ⟨rfl, hp4, hk4⟩
    have hs4 := Aside0.mk (And.intro hp4 (hs3.out.2.trans hk4))
    clear hs3 hp4 hk4
    go_wp2_with fail
    go_ret
    exact ⟨rfl, hs4.out.1, hs4.out.2⟩
  · have d1 : ((xs.length : Int) - 1 != (i : Int)) = true := by
      rw [bne_iff_ne]
      omega
    replace hz := Aside0.mk hz
    go_enter Try.func30, Try.ntmps30
    go_wp2_with fail
    refine (hand_Len hs.out.p).mono ?_
    rintro e w1 ⟨rfl, rfl⟩
    go_wp2_with fail
    refine (hand_SwapJ hs.out.p (i : Int) ((xs.length : Int) - 1) i (xs.length - 1) rfl (by omega) (by omega) (by omega)).mono ?_
    rintro e w2 ⟨rfl, hp2, hk2⟩
    have hs2 := Aside0.mk (hs.out.swap hp2 hk2)
    clear hs hp2 hk2
    go_wp2_with fail
    have hn : ((xs.length : Int) - 1) = ((xs.length - 1 : Nat) : Int) := by omega
    have hdn := hand_down hs2.out.p i (xs.length - 1) (by rw [swp_length]; omega) (by omega)
    rw [← hn] at hdn
    refine hdn.mono ?_
    by_cases hmv : (dn (xs.length - 1) (swp xs i (xs.length - 1)) i).2 > i
    · rw [decide_eq_true hmv]
      rintro e w3 ⟨rfl, hp3, hk3⟩
      rw [hz.out] at hp3
      have hs3 := Aside0.mk (And.intro hp3 (hs2.out.k.trans hk3))
      clear hs2 hp3 hk3 hdn
      go_wp2_with fail
      refine (hand_PilePop hs3.out.1).mono ?_
      rintro e w4 ⟨rfl, hp4, hk4⟩
      have hs4 := Aside0.mk (And.intro hp4 (hs3.out.2.trans hk4))
      clear hs3 hp4 hk4
      go_wp2_with fail
      go_ret
      exact ⟨rfl, hs4.out.1, hs4.out.2⟩
    · rw [decide_eq_false hmv]
      rintro e w3 ⟨rfl, hp3, hk3⟩
      have hs3 := Aside0.mk (And.intro hp3 (hs2.out.k.trans hk3))
      clear hs2 hp3 hk3 hdn
      go_wp2_with fail
      have hup := hand_up hs3.out.1 i (by rw [dn_len, swp_length]; exact hi)
      rw [hm.out hmv, hz.out] at hup
      refine hup.mono ?_
      rintro e w4 ⟨rfl, hp4, hk4⟩
      have hs4 := Aside0.mk (And.intro hp4 (hs3.out.2.trans hk4))
      clear hs3 hp4 hk4 hup
      go_wp2_with fail
      refine (hand_PilePop hs4.out.1).mono ?_
      rintro e w5 ⟨rfl, hp5, hk5⟩
      have hs5 := Aside0.mk (And.intro hp5 (hs4.out.2.trans hk5))
      clear hs4 hp5 hk5
      go_wp2_with fail
      go_ret
      exact ⟨rfl, hs5.out.1, hs5.out.2⟩

end Go.Proofs.Ytpkalbokpblhaaa.PA
