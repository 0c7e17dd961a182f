/- All can end: facts in plain Lean. -/
import Derived.Test.YtmknoiiflciclaaDoverVal
namespace Go.Proofs.Ytmknoiiflciclaa.PA
open Go.RowKit Go.Proofs.YtmknoiiflciclaaW.PrintWords Go.Proofs.YtmknoiiflciclaaW.PrintLast Go.Proofs.YtmknoiiflciclaaW.PrintMore
set_option linter.unusedVariables false
set_option linter.unusedSimpArgs false
theorem w64 {x : Int} (h : -9223372036854775808 ≤ x ∧ x ≤ 9223372036854775807) : wrap64 x = x := by
  unfold wrap64
  omega
/-- What is left is not much. -/
def Small (l : List S29) : Prop := ∀ x ∈ l, 0 ≤ leftS x ∧ leftS x ≤ 40
theorem MayP.left {l : List S29} {now : Int} (h : MayP l now) {a : S29} (ha : a ∈ l) : leftS a = a.f2 - a.f4 := by
  have := h.ok a ha
  exact w64 (by omega)
theorem MayP.small {l : List S29} {now : Int} (h : MayP l now) : Small l := fun a ha => by
  have := h.ok a ha
  rw [h.left ha]
  omega
theorem MayP.lax {l : List S29} {now : Int} (h : MayP l now) {a : S29} (ha : a ∈ l) : laxS a now = a.f1 - now - (a.f2 - a.f4) := by
  have h1 := h.ok a ha
  have h2 := h.n0
  have h3 := h.n1
  unfold laxS
  rw [h.left ha, w64 (x := a.f1 - now) (by omega), w64 (by omega)]
theorem fitsL_sub : ∀ {s' s : List S29}, s'.Sublist s → ∀ {now now' : Int}, Small s → 0 ≤ now' → now' ≤ now → now + 40 * (s.length : Int) ≤ 1000000000000000 → fitsL s now = true → fitsL s' now' = true
  | _, _, .slnil, _, _, _, _, _, _, h => rfl
  | _, _, .cons a hs, now, now', hB, h0, hn, hm, h => by
    obtain ⟨b0, b1⟩ := hB a (List.mem_cons_self ..)
    rw [List.length_cons] at hm
    rw [fitsL, w64 (x := now + leftS a) (by omega)] at h
    split at h
    · cases h
    · exact fitsL_sub hs (fun x hx => hB x (List.mem_cons_of_mem _ hx)) h0 (by omega) (by omega) h
  | _, _, .cons_cons a hs, now, now', hB, h0, hn, hm, h => by
    obtain ⟨b0, b1⟩ := hB a (List.mem_cons_self ..)
    rw [List.length_cons] at hm
    rw [fitsL, w64 (x := now + leftS a) (by omega)] at h
    split at h
    · cases h
    · rw [fitsL, w64 (x := now' + leftS a) (by omega), if_neg (by omega)]
      exact fitsL_sub hs (fun x hx => hB x (List.mem_cons_of_mem _ hx)) (by omega) (by omega) (by omega) h
theorem fitsL_map (g : S29 → S29) : ∀ (s : List S29) (now now' : Int), Small s → (∀ x ∈ s, (g x).f1 = x.f1 ∧ 0 ≤ leftS (g x) ∧ leftS (g x) ≤ leftS x) → 0 ≤ now' → now' ≤ now → now + 40 * (s.length : Int) ≤ 1000000000000000 → fitsL s now = true → fitsL (s.map g) now' = true
  | [], _, _, _, _, _, _, _, _ => rfl
  | a :: s, now, now', hB, hg, h0, hn, hm, h => by
    obtain ⟨b0, b1⟩ := hB a (List.mem_cons_self ..)
    obtain ⟨g0, g1, g2⟩ := hg a (List.mem_cons_self ..)
    rw [List.length_cons] at hm
    rw [fitsL, w64 (x := now + leftS a) (by omega)] at h
    split at h
    · cases h
    · rw [List.map_cons, fitsL, w64 (x := now' + leftS (g a)) (by omega), g0, if_neg (by omega)]
      exact fitsL_map g s _ _ (fun x hx => hB x (List.mem_cons_of_mem _ hx)) (fun x hx => hg x (List.mem_cons_of_mem _ hx)) (by omega) (by omega) (by omega) h
theorem Small.perm {l l' : List S29} (h : Small l) (p : l'.Perm l) : Small l' := fun x hx => h x (p.mem_iff.1 hx)
/-- One less. -/
theorem isort_less {l : List S29} (hn : Apart l) {i : Nat} (hi : i < l.length) : isort (l.take i ++ l.drop (i + 1)) = (isort l).filter (fun x => decide (x.f0 ≠ (at_ l i).f0)) := by
  have hp : (at_ l i :: (l.take i ++ l.drop (i + 1))).Perm l := by
    have e1 : (l.take i ++ l.drop i) = l := List.take_append_drop i l
    rw [List.drop_eq_getElem_cons hi] at e1
    have e2 : (l[i] :: (l.take i ++ l.drop (i + 1))).Perm (l.take i ++ l[i] :: l.drop (i + 1)) := List.perm_middle.symm
    rw [e1] at e2
    rw [at_get hi]
    exact e2
  obtain ⟨h1, h2⟩ := (hn.perm hp).cons
  have hf : (l.take i ++ l.drop (i + 1)).filter (fun x => decide (x.f0 ≠ (at_ l i).f0)) = l.take i ++ l.drop (i + 1) := List.filter_eq_self.2 fun x hx => by
    rw [decide_eq_true_iff]
    exact fun e => h1 (List.mem_map.2 ⟨x, hx, e⟩)
  refine ord_unique (isort_ord _) ((isort_ord l).sublist List.filter_sublist) ((isort_perm _).trans ?_) (h2.perm (isort_perm _))
  have p1 := (hp.symm.trans (List.Perm.refl _)).filter (fun x => decide (x.f0 ≠ (at_ l i).f0))
  rw [List.filter_cons_of_neg (by simp), hf] at p1
  exact (((isort_perm l).filter _).trans p1).symm
/-- One with another one's numbers. -/
theorem isort_map {l : List S29} (hn : Apart l) (g : S29 → S29) (hg : ∀ x ∈ l, (g x).f0 = x.f0 ∧ (g x).f1 = x.f1) : isort (l.map g) = (isort l).map g := by
  have hn2 : Apart (l.map g) := by
    unfold Apart at hn ⊢
    rw [List.map_map]
    have : l.map ((fun x => x.f0) ∘ g) = l.map (fun x => x.f0) := List.map_congr_left (fun x hx => (hg x hx).1)
    rw [this]
    exact hn
  refine ord_unique (isort_ord _) ?_ ((isort_perm _).trans ((isort_perm l).map g).symm) (hn2.perm (isort_perm _))
  unfold Ord
  rw [List.pairwise_map]
  refine List.Pairwise.imp_of_mem (fun {a b} ha hb h => ?_) (isort_ord l)
  obtain ⟨a0, a1⟩ := hg a ((isort_perm l).mem_iff.1 ha)
  obtain ⟨b0, b1⟩ := hg b ((isort_perm l).mem_iff.1 hb)
  rw [ahd_false] at h ⊢
  rw [a0, a1, b0, b1]
  exact h
theorem set_map {l : List S29} (hn : Apart l) {i : Nat} (hi : i < l.length) (b : S29) : l.set i b = l.map (fun x => if x.f0 = (at_ l i).f0 then b else x) := by
  apply List.ext_getElem
  · simp
  · intro j h1 h2
    rw [List.length_set] at h1
    rw [List.getElem_set, List.getElem_map]
    have hai := at_get hi
    generalize at_ l i = ai at hai h2 ⊢
    subst hai
    by_cases h : i = j
    · subst h
      rw [if_pos rfl, if_pos rfl]
    · rw [if_neg h, if_neg (fun e => h ?_)]
      unfold Apart at hn
      have hp := List.pairwise_iff_getElem.1 hn
      rcases Nat.lt_trichotomy i j with h3 | h3 | h3
      · have := hp i j (by simpa using hi) (by simpa using h1) h3
        rw [List.getElem_map, List.getElem_map] at this
        exact absurd e.symm this
      · exact h3
      · have := hp j i (by simpa using h1) (by simpa using hi) h3
        rw [List.getElem_map, List.getElem_map] at this
        exact absurd e this
end Go.Proofs.Ytmknoiiflciclaa.PA
