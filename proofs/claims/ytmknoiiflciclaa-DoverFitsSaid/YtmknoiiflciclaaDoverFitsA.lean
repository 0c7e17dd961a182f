/- As long as all can end, the first one runs, and then all still can: facts in plain Lean. -/
import Derived.Test.YtmknoiiflciclaaDoverFit
import Derived.Test.YtmknoiiflciclaaDoverCanA
import Derived.Test.YtmknoiiflciclaaQSort
namespace Go.Proofs.Ytmknoiiflciclaa.PA
open Go.RowKit Go.Proofs.YtmknoiiflciclaaW.PrintWords Go.Proofs.YtmknoiiflciclaaW.PrintLast Go.Proofs.YtmknoiiflciclaaW.PrintMore
set_option linter.unusedVariables false
set_option linter.unusedSimpArgs false
/-- One runs. -/
def run1 (id : Int) (x : S29) : S29 := if x.f0 = id then ⟨x.f0, x.f1, x.f2, x.f3, wrap64 (x.f4 + 1)⟩ else x
/-- Those that are not ended. -/
def rest1 (id : Int) (L : List S29) : List S29 := (L.map (run1 id)).filter (fun x => decide (x.f4 < x.f2))
/-- What is left of all. -/
def tot : List S29 → Int
  | [] => 0
  | a :: s => a.f2 - a.f4 + tot s
theorem tot_perm {s s' : List S29} (p : s.Perm s') : tot s = tot s' := by
  induction p with
  | nil => rfl
  | cons a _ ih => rw [tot, tot, ih]
  | swap a b l =>
    rw [tot, tot, tot, tot]
    omega
  | trans _ _ h1 h2 => rw [h1, h2]
theorem tot_pos : ∀ (L : List S29), (∀ x ∈ L, x.f4 ≤ x.f2 - 1) → (L.length : Int) ≤ tot L
  | [], _ => by simp [tot]
  | a :: s, h => by
    have := h a (List.mem_cons_self ..)
    have := tot_pos s (fun x hx => h x (List.mem_cons_of_mem _ hx))
    rw [tot, List.length_cons]
    omega
theorem tot_le : ∀ (L : List S29), (∀ x ∈ L, x.f2 - x.f4 ≤ 40) → tot L ≤ 40 * (L.length : Int)
  | [], _ => by simp [tot]
  | a :: s, h => by
    have := h a (List.mem_cons_self ..)
    have := tot_le s (fun x hx => h x (List.mem_cons_of_mem _ hx))
    rw [tot, List.length_cons]
    omega
theorem rest1_snoc (id : Int) (L : List S29) (x : S29) : rest1 id (L ++ [x]) = rest1 id L ++ (if (run1 id x).f4 < (run1 id x).f2 then [run1 id x] else []) := by
  unfold rest1
  rw [List.map_append, List.filter_append, List.map_cons, List.map_nil]
  congr 1
  by_cases h : (run1 id x).f4 < (run1 id x).f2
  · rw [if_pos h, List.filter_cons_of_pos (by simpa using h), List.filter_nil]
  · rw [if_neg h, List.filter_cons_of_neg (by simpa using h), List.filter_nil]
theorem rest1_len (id : Int) (L : List S29) : (rest1 id L).length ≤ L.length := by
  unfold rest1
  refine Nat.le_trans (List.length_filter_le _ _) ?_
  simp
theorem fitsL_all : ∀ (s : List S29) (now : Int), Small s → 0 ≤ now → now + 40 * (s.length : Int) ≤ 1000000000000000 → fitsL s now = true → ∀ x ∈ s, now + leftS x ≤ x.f1
  | [], _, _, _, _, _, x, hx => by simp at hx
  | a :: s, now, hB, h0, hm, h, x, hx => by
    obtain ⟨b0, b1⟩ := hB a (List.mem_cons_self ..)
    rw [List.length_cons] at hm
    rw [fitsL, w64 (x := now + leftS a) (by omega)] at h
    split at h
    · cases h
    · rcases List.mem_cons.1 hx with rfl | hx
      · omega
      · have := fitsL_all s (now + leftS a) (fun y hy => hB y (List.mem_cons_of_mem _ hy)) (by omega) (by omega) h x hx
        omega
/-- One step of those that all can end. -/
structure Step (L : List S29) (cur now : Int) (a : S29) (s : List S29) : Prop where
  srt : isort L = a :: s
  pick : pickS L cur now = (a.f0, [])
  ok : ∀ x ∈ L, ¬ (run1 a.f0 x).f4 < (run1 a.f0 x).f2 → now + 1 ≤ x.f1
  may : MayP (rest1 a.f0 L) (now + 1)
  fit : fitsS (rest1 a.f0 L) (now + 1) = true
  left : tot (rest1 a.f0 L) + 1 = tot L
theorem run1_key (id : Int) (x : S29) : (run1 id x).f0 = x.f0 ∧ (run1 id x).f1 = x.f1 := by
  unfold run1
  split <;> exact ⟨rfl, rfl⟩
theorem step_of {L : List S29} {cur now : Int} (h : MayP L now) (hn : now + 1 ≤ 549755813888) (hf : fitsS L now = true) (h0 : 0 < L.length) : ∃ a s, Step L cur now a s := by
  have hle := h.le
  have hn0 := h.n0
  have hp := isort_perm L
  have hsl := hp.length_eq
  have hB := h.small
  cases hs : isort L with
  | nil =>
    rw [hs] at hsl
    simp at hsl
    omega
  | cons a s =>
    rw [hs] at hp hsl
    have hBs : Small (a :: s) := hB.perm hp
    have hap : Apart (a :: s) := h.ap.perm hp
    obtain ⟨ha1, ha2⟩ := hap.cons
    have ha : a ∈ L := hp.mem_iff.1 (List.mem_cons_self ..)
    have hok := h.ok a ha
    have hla := h.left ha
    unfold fitsS at hf
    rw [hs] at hf
    have hall := fitsL_all (a :: s) now hBs hn0 (by omega) hf
    have hlax : ∀ x ∈ L, 0 ≤ laxS x now := fun x hx => by
      have h1 := hall x (hp.mem_iff.2 hx)
      have h2 := h.lax hx
      have h3 := h.left hx
      omega
    have ho : Ord (a :: s) := by
      rw [← hs]
      exact isort_ord L
    -- who is not ended
    have hrun : ∀ x ∈ s, run1 a.f0 x = x := fun x hx => by
      unfold run1
      rw [if_neg (fun e => ha1 (List.mem_map.2 ⟨x, hx, e⟩))]
    have hlt : ∀ x ∈ s, x.f4 < x.f2 := fun x hx => by
      have := h.ok x (hp.mem_iff.1 (List.mem_cons_of_mem _ hx))
      omega
    have hra : run1 a.f0 a = ⟨a.f0, a.f1, a.f2, a.f3, a.f4 + 1⟩ := by
      unfold run1
      rw [if_pos rfl, w64 (by omega)]
    have hrs : (s.map (run1 a.f0)).filter (fun x => decide (x.f4 < x.f2)) = s := by
      have : s.map (run1 a.f0) = s := by
        rw [List.map_congr_left (g := id) hrun, List.map_id]
      rw [this]
      exact List.filter_eq_self.2 fun x hx => by simpa using hlt x hx
    have hr : rest1 a.f0 (a :: s) = if a.f4 + 1 < a.f2 then (⟨a.f0, a.f1, a.f2, a.f3, a.f4 + 1⟩ : S29) :: s else s := by
      unfold rest1
      rw [List.map_cons, hra]
      by_cases hc : a.f4 + 1 < a.f2
      · rw [if_pos hc, List.filter_cons_of_pos (by simpa using hc), hrs]
      · rw [if_neg hc, List.filter_cons_of_neg (by simpa using hc), hrs]
    have hpr : (rest1 a.f0 (a :: s)).Perm (rest1 a.f0 L) := by
      unfold rest1
      exact (hp.map _).filter _
    have hor : Ord (rest1 a.f0 (a :: s)) := by
      rw [hr]
      obtain ⟨o1, o2⟩ := List.pairwise_cons.1 ho
      split
      · exact List.pairwise_cons.2 ⟨fun x hx => o1 x hx, o2⟩
      · exact o2
    have har : Apart (rest1 a.f0 (a :: s)) := by
      rw [hr]
      split
      · unfold Apart
        rw [List.map_cons, List.nodup_cons]
        exact ⟨ha1, ha2⟩
      · exact ha2
    have hmr : MayP (rest1 a.f0 (a :: s)) (now + 1) := by
      refine ⟨fun x hx => ?_, har, ?_, by omega, hn⟩
      · rw [hr] at hx
        have hxs : x ∈ s → _ := fun hx => h.ok x (hp.mem_iff.1 (List.mem_cons_of_mem _ hx))
        split at hx
        · rcases List.mem_cons.1 hx with rfl | hx
          · simp only []
            omega
          · exact hxs hx
        · exact hxs hx
      · have := rest1_len a.f0 (a :: s)
        omega
    have hsr : isort (rest1 a.f0 L) = rest1 a.f0 (a :: s) := ord_unique (isort_ord _) hor ((isort_perm _).trans hpr.symm) ((har.perm hpr.symm).perm (isort_perm _))
    refine ⟨a, s, hs, ?_, fun x hx hc => ?_, hmr.perm hpr.symm, ?_, ?_⟩
    · have hst : (L, ([] : List Int)) = struck L now [] [] := by
        rw [struck_eq L now [] [] h.ap (fun a _ => by simp), List.filter_eq_self.2 (fun x hx => by simpa using hlax x hx), List.filter_eq_nil_iff.2 (fun x hx => by have := hlax x hx; simp; omega)]
        rfl
      obtain ⟨_, _, h3, _⟩ := start_there h hst
      have hT : (isort L).filter (stillS L) = a :: s := by
        rw [hs]
        exact List.filter_eq_self.2 fun x hx => (h3 x).2 ⟨hp.mem_iff.1 hx, hlax x (hp.mem_iff.1 hx)⟩
      have hfT : fitsS (a :: s) now = true := by
        unfold fitsS
        rw [isort_perm_eq hp hap, hs]
        exact hf
      unfold pickS
      rw [if_pos ((mayS_iff _ _).2 h), ← hst]
      simp only []
      rw [hT]
      simp only []
      rw [if_pos hfT]
    · have hxs := hp.mem_iff.2 hx
      rcases List.mem_cons.1 hxs with rfl | hxs
      · rw [hra] at hc
        simp only [] at hc
        have := hall x (List.mem_cons_self ..)
        omega
      · rw [hrun x hxs] at hc
        exact absurd (hlt x hxs) hc
    · unfold fitsS
      rw [hsr, hr]
      obtain ⟨b0, b1⟩ := hBs a (List.mem_cons_self ..)
      rw [List.length_cons] at hsl
      rw [fitsL, w64 (x := now + leftS a) (by omega)] at hf
      split at hf
      · cases hf
      · split
        · have hl2 : leftS (⟨a.f0, a.f1, a.f2, a.f3, a.f4 + 1⟩ : S29) = a.f2 - a.f4 - 1 := by
            unfold leftS
            simp only []
            rw [w64 (by omega)]
            omega
          rw [fitsL, hl2, w64 (by omega), if_neg (by simp only []; omega), show now + 1 + (a.f2 - a.f4 - 1) = now + leftS a from by omega]
          exact hf
        · rw [show now + 1 = now + leftS a from by omega]
          exact hf
    · rw [← tot_perm hpr, ← tot_perm hp, hr, tot]
      split
      · rw [tot]
        simp only []
        omega
      · omega
/-- The order's first one. -/
theorem order_head {L : List S29} {a : S29} {s : List S29} (hs : isort L = a :: s) : (isortI (L.map (fun a => (⟨a.f1, a.f0⟩ : S50)))).map (·.f1) = a.f0 :: s.map (·.f0) := by
  have hp := isort_perm L
  have ho := isort_ord L
  rw [hs] at hp ho
  have : isortI (L.map (fun a => (⟨a.f1, a.f0⟩ : S50))) = (a :: s).map (fun a => (⟨a.f1, a.f0⟩ : S50)) := by
    refine isortI_unique ?_ (hp.map _)
    show List.Pairwise _ _
    rw [List.pairwise_map]
    refine ho.imp fun {x y} hxy => ?_
    rw [ahd_false] at hxy
    show Q.ah _ _ = false
    rw [ah_false]
    exact hxy
  rw [this]
  simp
end Go.Proofs.Ytmknoiiflciclaa.PA
