import Derived.Test.YtpkalbokpblhaaaPAx0
import Derived.Test.YtpkalbokpblhaaaPAx1
import Derived.Test.YtpkalbokpblhaaaPAx7
import Derived.Test.YtpkalbokpblhaaaHeapPure
import Derived.Test.YtpkalbokpblhaaaPileA
import Derived.Test.YtpkalbokpblhaaaPileB
import Derived.Test.YtpkalbokpblhaaaPileC
import Derived.Test.YtpkalbokpblhaaaPileD
import Derived.Test.YtpkalbokpblhaaaPileE
import Derived.Laws.CopyOwn
import Derived.Laws.EntriesVeiled
import Derived.Deep.RegionWith
import Derived.BigRegion
namespace Go.Proofs.Ytpkalbokpblhaaa.PA
open Go.RowKit Go.Proofs.YtpkalbokpblhaaaW.PrintWords Go.Proofs.YtpkalbokpblhaaaW.PrintLast Go.Proofs.YtpkalbokpblhaaaW.PrintMore
attribute [local go_sem] max2_int min2_int max_two min_two max_three min_three max_four min_four
set_option linter.unusedVariables false
set_option linter.unusedSimpArgs false
set_option maxHeartbeats 4000000 in
set_option maxRecDepth 100000 in
theorem hand_all0 {W : World} {base G : Nat} {v : Value} (hp : PV W base G v []) :
    Calls Try.prog 24 #[.pointer (some ⟨G, 0, none⟩)] W fun e w' => ∃ v0_, e = .returned v0_ ∧ Kd.R k24 24 w' base (fun _ => True) v0_ ([] : List S24) ∧ Below base W w' := by
  obtain ⟨A, c, rfl⟩ := Kd.R_slice hp.r
  have hg : Aside0 (W.heap[G]? = some (.cells #[.slice A 0 c] 52 (0, 0))) := ⟨hp.g⟩
  clear hp
  go_enter Try.func24, Try.ntmps24
  go_wp2_with fail
  go_loopw [3] (fun v wr => v = .slice none 0 0 ∧ W = wr) (fun v _ => 0)
  case atStart => exact ⟨rfl, rfl⟩
  case round =>
    obtain ⟨rfl, rfl⟩ := hrel
    go_wp2_with fail
    refine (hand_LenV hg.out).mono ?_
    rintro e w1 ⟨rfl, rfl⟩
    go_wp2_with fail
    go_ret
    exact ⟨_, rfl, Kd.R_nil _ _ _ _ _, Below.refl _ _⟩
theorem hand_allPV {W : World} {base G : Nat} {v : Value} {xs : List S24} (hp : PV W base G v xs) (hh : Hp 0 xs.length xs) (hG : base ≤ G) (hlen : xs.length ≤ 8796093022207) :
    Calls Try.prog 24 #[.pointer (some ⟨G, 0, none⟩)] W fun e w' => ∃ v0_ out, e = .returned v0_ ∧ Kd.R k24 24 w' base (fun _ => True) v0_ out ∧ Below base W w' ∧ Sorted out ∧ out.Perm xs := by
  by_cases h0 : 0 < xs.length
  · obtain ⟨B, cap, hv, hB, hpile⟩ := hp.pile h0 (by omega)
    exact hand_all hpile hh hG hB hp.b hlen
  · have h0 : xs = [] := List.eq_nil_of_length_eq_zero (by omega)
    subst h0
    refine (hand_all0 hp).mono ?_
    rintro e w' ⟨v0, rfl, hR, hB⟩
    exact ⟨v0, [], rfl, hR, hB, List.Pairwise.nil, List.Perm.refl _⟩
set_option maxHeartbeats 4000000 in
set_option maxRecDepth 100000 in
theorem hand_Sort (A0 : Option Addr) (c0 : Nat) (l0 : List S24) (w : World) (hr0 : Kd.C k24 w A0 l0.length l0) (hc0 : l0.length ≤ c0) (hl : l0.length ≤ 8796093022207) :
    Calls Try.prog 11 #[.slice A0 l0.length c0] w fun e w' => ∃ v0_ out, e = .returned v0_ ∧ Kd.R k24 24 w' w.heap.size (fun _ => True) v0_ out ∧ Below w.heap.size w w' ∧ Sorted out ∧ out.Perm l0 := by
  obtain ⟨hh0, hpm⟩ := hpf_all (n := l0.length) (l0.length / 2) l0 (Nat.le_refl _) (hp_half _ _)
  have hh : Hp 0 (hpf l0.length (l0.length / 2) l0).length (hpf l0.length (l0.length / 2) l0) := by
    rw [hpm.length_eq]
    exact hh0
  clear hh0
  have hll := hpm.length_eq
  replace hr0 := Aside0.mk hr0
  replace hh := Aside0.mk hh
  replace hpm := Aside0.mk hpm
  replace hll := Aside0.mk hll
  go_enter Try.func11, Try.ntmps11
  go_wp2_with fail
  refine (hand_of A0 c0 l0 w hr0.out hc0 hl).mono ?_
  rintro e w1 ⟨G, rfl, hof⟩
  obtain ⟨hg, hb, v, hpv⟩ := hof
  replace hb := Aside0.mk hb
  replace hpv := Aside0.mk hpv
  go_wp2_with fail
  have hl2 : (hpf l0.length (l0.length / 2) l0).length ≤ 8796093022207 := by rw [hll.out]; exact hl
  have hh2 : Hp 0 (hpf l0.length (l0.length / 2) l0).length (hpf l0.length (l0.length / 2) l0) := hh.out
  refine (hand_allPV hpv.out hh2 hg hl2).mono ?_
  clear hl2 hh2
  rintro e w2 ⟨v0, out, rfl, hR, hB, hs, hp⟩
  replace hR := Aside0.mk hR
  replace hB := Aside0.mk hB
  replace hs := Aside0.mk hs
  replace hp := Aside0.mk hp
  go_wp2_with fail
  go_ret
  exact ⟨_, out, rfl, hR.out, hb.out.trans hB.out, hs.out, hp.out.trans hpm.out⟩

end Go.Proofs.Ytpkalbokpblhaaa.PA
