-- Written for this claim by a program (the kit's print over a changed input, then joined with texts by hand).
import Derived.Test.YtpkalbokpblhaaaPAx0
import Derived.Test.YtpkalbokpblhaaaPAx4
import Derived.Test.YtpkalbokpblhaaaPileF
import Derived.Test.YtpkalbokpblhaaaSortPure
namespace Go.Proofs.Ytpkalbokpblhaaa.PA
open Go.RowKit Go.Proofs.YtpkalbokpblhaaaW.PrintWords Go.Proofs.YtpkalbokpblhaaaW.PrintLast Go.Proofs.YtpkalbokpblhaaaW.PrintMore
attribute [local go_sem] max2_int min2_int max_two min_two max_three min_three max_four min_four   -- for this text's walks alone
set_option linter.unusedVariables false
set_option linter.unusedSimpArgs false

/-! ### queue_Sort: function 11 -/
def queue_Sort.f (k : Nat) (l0 : List (S24)) : Option ((List (S24))) := (fuseeref04_Sort.f k l0).bind fun t144 => (some t144)
theorem queue_Sort.mono : ∀ a0 k, LeO (queue_Sort.f k a0) (queue_Sort.f (k + 1) a0) := by
  intro a0 k
  unfold queue_Sort.f
  repeat' first
      | (with_reducible exact fuseeref04_Sort.mono _ _)
      | (with_reducible exact LeO.refl _)
      | (with_reducible exact LeO.none _)
      | (with_reducible refine LeO.ite ?_ ?_)
      | (with_reducible refine LeO.bind ?_ (fun _ => ?_))
      | exact fuseeref04_Sort.mono _ _
      | exact LeO.none _
      | refine LeO.ite ?_ ?_
      | refine LeO.bind ?_ (fun _ => ?_)
set_option maxHeartbeats 8000000 in
set_option maxRecDepth 100000 in
theorem queue_Sort.calls (k : Nat) (A0 : Option Addr) (c0 : Nat) (l0 : List (S24)) (r : List (S24)) (w : World) (hr0 : Kd.C k24 w A0 l0.length l0) (hc0 : l0.length ≤ c0) (h : queue_Sort.f k l0 = some r) :
    Calls Try.prog 11 #[.slice A0 l0.length c0] w fun e w' => ∃ v0_ : Value, e = .returned (v0_) ∧ Kd.R k24 24 w' w.heap.size (fun _ => True) v0_ r ∧ Below w.heap.size w w' := by
  unfold queue_Sort.f at h
  obtain ⟨t, ht, h⟩ := Option.bind_eq_some_iff.mp h
  obtain rfl := Option.some.inj h
  obtain ⟨h1, h2, h3⟩ := sort_pure (by have := hr0.2.1; omega) ht
  refine (hand_Sort A0 c0 l0 w hr0 hc0 (by omega)).mono ?_
  rintro e w' ⟨v0, out, rfl, hR, hB, hs, hp⟩
  have he : out = t := sorted_unique hs h1 (hp.trans h2.symm)
  subst he
  exact ⟨v0, rfl, hR, hB⟩

end Go.Proofs.Ytpkalbokpblhaaa.PA
