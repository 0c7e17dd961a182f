/- Own: Functions of the library that the interpreter does not take: a slice once more. -/
import Derived.Test.YtmiajnodoigndaaGreatSt
import Derived.Test.YtmiajnodoigndaaGreatTr7
import Derived.Deep.RegionWith
import Derived.Carry
namespace Go.Abs
open Go.RowKit Go.Proofs
set_option linter.unusedVariables false
set_option maxRecDepth 1000000
set_option maxHeartbeats 4000000
theorem eqnil21 (n c : Nat) (w : World) : Sem.run Tryz.prog (binOp BinOp.eql 24 (.slice none n c) (.slice none 0 0)) w = .ok (.bool true) w := by kernel_rfl
theorem eqnil22 (n c : Nat) (w : World) : Sem.run Tryz.prog (binOp BinOp.eql 25 (.slice none n c) (.slice none 0 0)) w = .ok (.bool true) w := by kernel_rfl
theorem eqnil23 (n c : Nat) (w : World) : Sem.run Tryz.prog (binOp BinOp.eql 28 (.slice none n c) (.slice none 0 0)) w = .ok (.bool true) w := by kernel_rfl
theorem eqnil162 (n c : Nat) (w : World) : Sem.run Tryz.prog (binOp BinOp.eql 115 (.slice none n c) (.slice none 0 0)) w = .ok (.bool true) w := by kernel_rfl
theorem nil21 (cp : Nat) (W : World) : Calls Tryz.prog 21 #[.slice none 0 cp] W fun e W' => e = .returned (.slice none 0 0) ∧ W' = W := by
 have hen := eqnil21
 go_enter Tryz.func21, Tryz.ntmps21
 go_wp2_with fail
 go_ret
 exact ⟨rfl, rfl⟩
theorem nil22 (cp : Nat) (W : World) : Calls Tryz.prog 22 #[.slice none 0 cp] W fun e W' => e = .returned (.slice none 0 0) ∧ W' = W := by
 have hen := eqnil22
 go_enter Tryz.func22, Tryz.ntmps22
 go_wp2_with fail
 go_ret
 exact ⟨rfl, rfl⟩
theorem nil23 (cp : Nat) (W : World) : Calls Tryz.prog 23 #[.slice none 0 cp] W fun e W' => e = .returned (.slice none 0 0) ∧ W' = W := by
 have hen := eqnil23
 go_enter Tryz.func23, Tryz.ntmps23
 go_wp2_with fail
 go_ret
 exact ⟨rfl, rfl⟩
theorem nil162 (cp : Nat) (W : World) : Calls Tryz.prog 162 #[.slice none 0 cp] W fun e W' => e = .returned (.slice none 0 0) ∧ W' = W := by
 have hen := eqnil162
 go_enter Tryz.func162, Tryz.ntmps162
 go_wp2_with fail
 go_ret
 exact ⟨rfl, rfl⟩
theorem cloneB_some {α : Type} {l r : List α} (h : cloneB l = some r) : r = l ∧ l.length ≤ maxRows := by
 unfold cloneB at h
 cases hq : Nat.ble l.length maxRows with
 | false => rw [hq] at h; cases h
 | true =>
  rw [hq] at h
  cases h
  exact ⟨rfl, Nat.le_of_ble_eq_true hq⟩
theorem clone_sound {f : FuncId} {c : TC} {e : TypeId} {l : List (El c)} (h0 : ∀ (cp : Nat) (W : World), Calls P f #[.slice none 0 cp] W fun e W' => e = .returned (.slice none 0 0) ∧ W' = W)
 (h1 : evIn P (ev P KK Orc.none LOrc.none 400) f [.whole 0] [some ⟨false, true, true, 0, .typ c l⟩] pr =
  bif Nat.ble ([] ++ l).length maxRows then some (.whole 2, [some ⟨false, true, true, 0, .typ c l⟩, none, some ⟨true, true, false, e, .typ c ([] ++ l)⟩]) else none)
 (hl : l.length ≤ maxRows) : MeetsW P f ⟨[.cell (.sl c)], [.cell (.own c e)]⟩ (l, ()) l := by
 have hb : Nat.ble l.length maxRows = true := Nat.ble_eq_true_of_le hl
 have h1 := h1.trans (show (bif Nat.ble l.length maxRows then some (AV.whole 2, [some (⟨false, true, true, 0, .typ c l⟩ : Cell), none, some ⟨true, true, false, e, .typ c l⟩]) else none) = _ by rw [hb])
 obtain ⟨v, h', hk, _, hbody, hc⟩ := evFun_sound ground OrcOK.none LOrcOK.none h1
 cases hk
 refine ⟨hbody, fun O ρ W args' H hv => ?_⟩
 have H : HR O W.heap.size W ρ [some ⟨false, true, false, 0, .typ c l⟩] W := H
 have hvs : VRs ρ [.whole 0] args' := hv
 clear hv
 cases hvs with | cons hv hn =>
 cases hn
 obtain ⟨inf, hi, ok⟩ := H.ok 0 ⟨false, true, false, 0, .typ c l⟩ rfl
 obtain ⟨inf', A, n, cp, hi', rfl, hv'⟩ := hv.whole_inv
 rw [hi] at hi'
 cases hi'
 obtain ⟨_, A', cap', k1, k2, k3⟩ := ok.sl rfl
 rw [hv'] at k1
 cases k1
 cases A with
 | none =>
  have hl0 : l = [] := by
   rcases Nat.eq_zero_or_pos l.length with h | h
   · exact List.eq_nil_of_length_eq_zero h
   · cases k3 h
  subst hl0
  refine (h0 cp W).mono fun e W' ⟨he, hW⟩ => ?_
  subst hW
  exact ⟨_, ρ, .nils, [some ⟨false, true, false, 0, .typ c []⟩], [.nils], he, H, .nils, rfl, rfl⟩
 | some a =>
  have H2 : HR O W.heap.size W ρ [some ⟨false, true, true, 0, .typ c l⟩] W := by
   have one : ∀ b d, cellAt [some (⟨false, true, true, 0, .typ c l⟩ : Cell)] b = some d → b = 0 ∧ d = ⟨false, true, true, 0, .typ c l⟩ := fun b d e => cellAt_one e
   refine ⟨fun b d e => ?_, fun b d b' d' i i' e hw => ?_, fun b d i e hw => ?_, fun b d i e hi2 hp => ?_, fun b hb => H.dom b hb, H.fr, H.n0, fun b d l' i e hr => ?_⟩
   · obtain ⟨rfl, rfl⟩ := one b d e
     exact ⟨inf, hi, ok.sz, ok.ph, ok.row, ok.cell, ok.wr, ok.sl, fun _ _ => ⟨a, _, cp, hv'⟩, ok.own, fun l h => by cases h⟩
   · obtain ⟨rfl, rfl⟩ := one b d e
     cases hw
   · obtain ⟨rfl, rfl⟩ := one b d e
     cases hw
   · obtain ⟨rfl, rfl⟩ := one b d e
     exact H.lt 0 ⟨false, true, false, 0, .typ c l⟩ i rfl hi2 hp
   · obtain ⟨rfl, rfl⟩ := one b d e
     cases hr
  refine (hc O _ _ ρ W _ H2 (.cons (.whole hi hv') .nil)).mono fun e W' ⟨v', ρ2, he, H3, _, hv2⟩ => ?_
  refine ⟨v', ρ2, _, _, [.whole 2], he, H3, hv2, rfl, ?_⟩
  simp [tellR, tell1, tellC, cellAt, memB]
theorem me21 (d : DA g21.args) (r : DR g21.res) (h : cloneB d.1 = some r) : MeetsW P 21 g21 d r := by
 obtain ⟨l, ⟨⟩⟩ := d
 obtain ⟨rfl, hl⟩ := cloneB_some h
 exact clone_sound nil21 (by kernel_rfl) hl
theorem me22 (d : DA g22.args) (r : DR g22.res) (h : cloneB d.1 = some r) : MeetsW P 22 g22 d r := by
 obtain ⟨l, ⟨⟩⟩ := d
 obtain ⟨rfl, hl⟩ := cloneB_some h
 exact clone_sound nil22 (by kernel_rfl) hl
theorem me23 (d : DA g23.args) (r : DR g23.res) (h : cloneB d.1 = some r) : MeetsW P 23 g23 d r := by
 obtain ⟨l, ⟨⟩⟩ := d
 obtain ⟨rfl, hl⟩ := cloneB_some h
 exact clone_sound nil23 (by kernel_rfl) hl
theorem me162 (d : DA g162.args) (r : DR g162.res) (h : cloneB d.1 = some r) : MeetsW P 162 g162 d r := by
 obtain ⟨l, ⟨⟩⟩ := d
 obtain ⟨rfl, hl⟩ := cloneB_some h
 exact clone_sound nil162 (by kernel_rfl) hl
theorem ev3C_sound {orc : Orc Bool} {lorc : LOrc Bool} {l : List OpD} {b : Bool} (G : Ground P KK) (hC : OrcOK P orc) (hL : LOrcOK P KK lorc) (h : ev3C orc lorc l = some b) : ∃ v h2, CallOK P 3 [.whole 0] [some ⟨false, true, false, 0, .ops l⟩] v h2 ∧ v = .bool b := by
 unfold ev3C at h
 obtain ⟨v, h', hk, hc⟩ := evFun_sound G hC hL h
 split at hk
 · cases hk
   exact ⟨_, _, hc, rfl⟩
 · cases hk
end Go.Abs
