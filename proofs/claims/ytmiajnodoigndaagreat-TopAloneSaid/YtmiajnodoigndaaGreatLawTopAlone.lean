/- Own: The row of the law TopAlone: whatever the input, the call answers true, and the argument reads behind it as before. -/
import Derived.Test.YtmiajnodoigndaaGreatCh3
import Derived.Test.YtmiajnodoigndaaGreatPm5
import Derived.Test.YtmiajnodoigndaaGreatRo
import Derived.Test.YtmiajnodoigndaaGreatRows
import Derived.WalkKit
import Derived.ProofKit
import Derived.OpenShut
import Derived.ShutString
import Derived.ChangeOld
import Derived.Below
import Derived.SizedLaws
import Derived.Carry
namespace Go.Proofs.YtmiajnodoigndaaGreat.topAlone
open Go.ChangeShapes Go.WideShapes Go.ChangeAt Go.RowKit Go.Deep
set_option linter.unusedVariables false
theorem own : ownKnob Tryz.prog.godebug = none := by kernel_rfl
theorem laidOut : laidOutB Tryz.prog = true := by kernel_rfl
theorem walk (l : List Go.Abs.OpD) (ρ : Go.Abs.Ren) (v : Value) (W : World) (H : Go.Abs.HR (fun _ => False) W.heap.size W ρ [some ⟨false, true, false, 0, .ops l⟩] W) (hv : Go.Abs.VR ρ (.whole 0) v) (hD : ∀ o ∈ l, o.D.length ≤ 9223372036854775807) :
 Calls Tryz.prog 3 #[v] W fun e w' => e = .returned (.bool true) ∧ Below W.heap.size W w' := by
 obtain ⟨u, h2, ⟨_, _, hc⟩, rfl⟩ := Go.Abs.me3 l true (Go.Abs.F3_ok l hD)
 refine (hc _ _ _ ρ W [v] H (.cons hv .nil)).mono fun e W' ⟨v', ρ', he, H', _, hv'⟩ => ?_
 cases hv'
 exact ⟨he, ⟨H'.fr.os, H'.fr.tape, H'.fr.output, H'.fr.size, fun k hk => H'.fr.block k hk fun h => h⟩⟩
set_option maxRecDepth 100000 in
theorem lifted (os : Os) (started : os.Started) (H : Type) (enc : TypeId × Value → H) :
 ReturnsInHanded {} Tryz.checked os 3 .any (Rows.topAloneSpec.pre6 enc Tryz.prog Tryz.f3 Rows.topAloneRow.domain false) (Rows.topAloneSpec.post enc Tryz.prog Tryz.f3 false true false false) := by
 refine returnsInHanded_of_change_sized (C := Tryz.checked) own started (by kernel_rfl) Tryz.func3
  (ChangeSpec.witness6 (enc := enc) (C := Tryz.checked) false ⟨#[], #[.slice none 0 0], []⟩ 8 (by kernel_rfl) (by kernel_rfl) (by kernel_rfl) (by kernel_rfl)) ?_
 intro W base args ds gs before hval0 hW hcnd hsz0 _
 have hval : ∀ (j : Nat) t v, Tryz.f3.params[j]? = some t → args[j]? = some v → Value.okWide Tryz.prog W .any base t v := hval0
 have hW' := hW
 obtain ⟨p, q, hA0, hV, rfl, hfz, hnd⟩ := hW
 have hA : DataW.TrodAll enc Tryz.prog W 0 (fun _ => true) true Tryz.f3.params.toList args.toList ds p := hA0
 rw [Tryz.params3] at hA hval
 obtain ⟨v0, vs0, d0, ds0, p0, q0, hargs, rfl, rfl, h0, r0⟩ := trodAll_cons hA
 obtain ⟨rfl, rfl, rfl⟩ := trodAll_nil r0
 obtain rfl : args = #[v0] := by cases args; simp_all
 obtain ⟨rfl, rfl⟩ := trodVars_none hV
 have k0 := h0
 have lt0 : ∀ x ∈ p0, x.block < W.heap.size := by obtain ⟨m, hm⟩ := k0; exact DataW.trod_lt m _ _ _ hm
 obtain ⟨l, ρ, H0, hv0, hD⟩ := Go.Abs.ops_of (hval 0 22 v0 rfl rfl) h0
 clear hA0 hval0 hsz0
 refine (walk l ρ v0 W H0 hv0 hD).mono fun e W' ⟨he, bel⟩ => ?_
 subst he
 exact ⟨_, rfl, _, _, _, [], _, [], hW', trodAll_mk1 (shut_bool Tryz.underlying4 _), (trodAll_cons_mk (Below.trod laidOut (by kernel_rfl) (of_decide_eq_true (by kernel_rfl)) k0 bel lt0) trodAll_mk0), rfl, bel.frame _, fun h => by cases h⟩
theorem over : Rows.topAloneRow.holds Tryz.pinned (OpenSpec.ofChange Rows.topAloneSpec) :=
 OpenClaim.holds_of_wide 3 Tryz.f3 rfl rfl rfl rfl rfl rfl rfl ⟨rfl, rfl, rfl, rfl, rfl⟩ rfl rfl rfl rfl rfl (by kernel_rfl) Tryz.func3 (by kernel_rfl)
  (of_decide_eq_true (by kernel_rfl)) (by unfold Func.isWrapper; first | (rw [if_pos (by decide +kernel)]; kernel_rfl) | (rw [if_neg (by decide +kernel)]; exact ⟨rfl, rfl⟩))
  (fun os started H enc _ => lifted os started H enc)
theorem proved : Rows.TopAloneSaid := over
#print axioms proved
end Go.Proofs.YtmiajnodoigndaaGreat.topAlone
namespace Go.Proofs.YtmiajnodoigndaaGreat
theorem topAlone_holds : Rows.TopAloneSaid := topAlone.proved
end Go.Proofs.YtmiajnodoigndaaGreat
