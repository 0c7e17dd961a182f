/- How a slice of items reads as an argument. -/
import Derived.Test.YtpkalbokpblhaaaPAx0
import Derived.Test.YtpkalbokpblhaaaRowLib
import Derived.WalkKit
import Derived.ProofKit
import Derived.OpenShut
import Derived.ShutString
import Derived.ChangeOld
import Derived.Below
import Derived.SizedLaws
import Derived.Carry
namespace Go.Proofs.Ytpkalbokpblhaaa.PA
open Go.ChangeShapes Go.WideShapes Go.ChangeAt Go.RowKit Go.Deep Go.Joins Go.Proofs.YtpkalbokpblhaaaW.PrintWords
set_option linter.unusedVariables false
theorem list_of {α : Type} {n : Nat} {Q : Nat → α → Prop} (h : ∀ i, i < n → ∃ x, Q i x) : ∃ l : List α, l.length = n ∧ ∀ i x, l[i]? = some x → Q i x := by
  induction n with
  | zero => exact ⟨[], rfl, fun i x h => by simp at h⟩
  | succ n ih =>
    obtain ⟨l, hl, hq⟩ := ih (fun i hi => h i (by omega))
    obtain ⟨x, hx⟩ := h n (by omega)
    refine ⟨l ++ [x], by simp [hl], fun i y hy => ?_⟩
    by_cases hi : i < l.length
    · rw [List.getElem?_append_left hi] at hy
      exact hq i y hy
    · obtain ⟨hi2, _⟩ := List.getElem?_eq_some_iff.1 hy
      simp at hi2
      have : i = n := by omega
      subst this
      rw [← hl] at hy
      simp at hy
      subst hy
      exact hx
theorem items_of {H : Type} {enc : TypeId × Value → H} {W : World} {r : Reach} {b0 base : Nat} {spare : Nat → Bool} {held : Bool} {v : Value} {d : DataW H} {p : List MemPlace}
    (hv : Value.okWide Try.prog W r b0 22 v) (h : DataW.Trod enc Try.prog W base spare held 22 v d p) :
    ∃ (A : Option Addr) (cap : Nat) (l : List S24), v = .slice A l.length cap ∧ l.length ≤ cap ∧ Kd.C k24 W A l.length l ∧ ∀ x ∈ l, (Lit.int .i64 x.f0).wf = true ∧ (Lit.int .i64 x.f1).wf = true := by
  obtain ⟨A, len, cap, rfl⟩ := okWide_slice Try.underlying22 hv
  obtain ⟨fuel, hf⟩ := h
  rcases open_slice_fields Try.underlying22 Try.underlying24 (by kernel_rfl) (by kernel_rfl) hf with ⟨hcs, _⟩ | ⟨a, len', cap', m, D, Pl, hcs, _, hl, hm, hmm, _, hi⟩
  · simp [Value.cells] at hcs
    obtain ⟨rfl, rfl, rfl⟩ := hcs
    exact ⟨none, 0, [], rfl, Nat.le_refl _, ⟨rfl, by simp, fun h => by simp at h⟩, fun x hx => by simp at hx⟩
  · simp [Value.cells] at hcs
    obtain ⟨rfl, rfl, rfl⟩ := hcs
    have hmm2 : len ≤ m := by
      rw [hmm]
      split <;> omega
    obtain ⟨l, hll, hq⟩ := list_of (n := len) (Q := fun i (x : S24) => (W.cell? (a.add (i * 2)) = some (.int .i64 x.f0) ∧ W.cell? (a.add (i * 2 + 1)) = some (.int .i64 x.f1)) ∧ (Lit.int .i64 x.f0).wf = true ∧ (Lit.int .i64 x.f1).wf = true) (fun i hil => by
      obtain ⟨ys, n, _, _, _, hj⟩ := hi i (by omega)
      obtain ⟨v0, y0, hc0, _, ht0⟩ := hj 0 _ rfl
      obtain ⟨v1, y1, hc1, _, ht1⟩ := hj 1 _ rfl
      obtain ⟨z0, e0, _, w0⟩ := DataW.trod_int Try.underlying3 ht0
      obtain ⟨z1, e1, _, w1⟩ := DataW.trod_int Try.underlying3 ht1
      simp at e0 e1
      subst e0 e1
      exact ⟨⟨z0, z1⟩, ⟨hc0, hc1⟩, w0, w1⟩)
    subst hll
    refine ⟨some a, cap, l, rfl, hl, ⟨rfl, by have := hm; simp only [maxLen] at this; omega, fun _ => ⟨a, rfl, fun j x hx => ?_⟩⟩, fun x hx => ?_⟩
    · obtain ⟨⟨h0, h1⟩, _⟩ := hq j x hx
      refine ⟨[.int .i64 x.f0, .int .i64 x.f1], rfl, k24_mk _ _, fun i u hu => ?_⟩
      match i, hu with
      | 0, hu =>
        simp at hu
        subst hu
        exact h0
      | 1, hu =>
        simp at hu
        subst hu
        exact h1
      | i + 2, hu => simp at hu
    · obtain ⟨i, hi, rfl⟩ := List.mem_iff_getElem.1 hx
      exact (hq i _ (List.getElem?_eq_getElem hi)).2
end Go.Proofs.Ytpkalbokpblhaaa.PA
