/- What is picked, and what is gone: facts in plain Lean. -/
import Derived.Test.YtmknoiiflciclaaDoverVal
namespace Go.Proofs.Ytmknoiiflciclaa.PA
open Go.RowKit Go.Proofs.YtmknoiiflciclaaW.PrintWords Go.Proofs.YtmknoiiflciclaaW.PrintLast Go.Proofs.YtmknoiiflciclaaW.PrintMore
set_option linter.unusedVariables false
set_option linter.unusedSimpArgs false
/-- The table and who is gone, at any time. -/
structure PI (l T : List S29) (now : Int) (M : List S29) (G : List Int) : Prop where
  mem : ∀ a ∈ M, a ∈ l ∧ 0 ≤ laxS a now ∧ a ∈ T
  ap : Apart M
  gone : ∀ g ∈ G, ∃ a ∈ l, a.f0 = g ∧ laxS a now ≤ 0
  nd : G.Nodup
  dj : ∀ a ∈ M, a.f0 ∉ G
  len : M.length + G.length = l.length
theorem picks_inv {l T : List S29} {now : Int} : ∀ (T' M : List S29) (G : List Int) (cur : Int), Apart T' → (∀ a ∈ T', a ∈ M) → PI l T now M G → PI l T now (picks T' now M G cur).1 (picks T' now M G cur).2.1
  | [], M, G, cur, _, _, h => h
  | a :: T', M, G, cur, hn, hm, h => by
    obtain ⟨h1, h2⟩ := hn.cons
    have hma := hm a (List.mem_cons_self ..)
    have hm' : ∀ b ∈ T', b ∈ M := fun b hb => hm b (List.mem_cons_of_mem _ hb)
    rw [picks]
    by_cases c1 : a.f0 = cur ∨ laxS a now > 0
    · rw [if_pos c1]
      exact picks_inv T' M G cur h2 hm' h
    · rw [if_neg c1]
      by_cases c2 : beatenS M cur a = true
      · rw [if_pos c2]
        exact picks_inv T' M G a.f0 h2 hm' h
      · rw [if_neg c2]
        have hd := delM_eq h.ap hma
        refine picks_inv T' _ _ cur h2 (fun b hb => (hd b).2 ⟨hm' b hb, fun e => h1 (List.mem_map.2 ⟨b, hb, e⟩)⟩) ⟨fun b hb => h.mem b ((hd b).1 hb).1, h.ap.sub (delM_sub M a.f0), fun g hg => ?_, ?_, fun b hb hg => ?_, ?_⟩
        · rcases List.mem_append.1 hg with hg | hg
          · exact h.gone g hg
          · rw [List.mem_singleton] at hg
            exact ⟨a, (h.mem a hma).1, hg.symm, by omega⟩
        · refine List.nodup_append.2 ⟨h.nd, by simp, fun x hx y hy e => ?_⟩
          rw [List.mem_singleton] at hy
          subst e hy
          exact h.dj a hma hx
        · obtain ⟨hb1, hb2⟩ := (hd b).1 hb
          rcases List.mem_append.1 hg with hg | hg
          · exact h.dj b hb1 hg
          · rw [List.mem_singleton] at hg
            exact hb2 hg
        · have := delM_len hma
          have := h.len
          rw [List.length_append, List.length_singleton]
          omega
/-- What the law asks of who is picked. -/
structure PickOk (l : List S29) (now : Int) (id : Int) (G : List Int) : Prop where
  gone : ∀ g ∈ G, ∃ a ∈ l, a.f0 = g ∧ laxS a now ≤ 0
  nd : G.Nodup
  no : id ∉ G
  is : (id = -1 ∧ G.length = l.length) ∨ ∃ a ∈ l, a.f0 = id ∧ 0 ≤ laxS a now ∧ G.length < l.length
theorem PI.ok {l T : List S29} {now : Int} {M : List S29} {G : List Int} (h : PI l T now M G) {a : S29} (ha : a ∈ M) : PickOk l now a.f0 G :=
  ⟨h.gone, h.nd, h.dj a ha, .inr ⟨a, (h.mem a ha).1, rfl, (h.mem a ha).2.1, by
    have := h.len
    have := List.length_pos_of_mem ha
    omega⟩⟩
theorem PI.none {l T : List S29} {now : Int} {G : List Int} (h : PI l T now [] G) (hp : ∀ a ∈ l, 0 ≤ a.f0) : PickOk l now (-1) G :=
  ⟨h.gone, h.nd, fun hg => by
    obtain ⟨a, ha, e, _⟩ := h.gone _ hg
    have := hp a ha
    omega, .inl ⟨rfl, by
    have := h.len
    simpa using this⟩⟩
theorem filter_split {α : Type} (p : α → Bool) : ∀ l : List α, (l.filter p).length + (l.filter (fun a => !p a)).length = l.length
  | [] => rfl
  | a :: l => by
    have := filter_split p l
    cases h : p a with
    | true =>
      rw [List.filter_cons_of_pos h, List.filter_cons_of_neg (by simp [h]), List.length_cons, List.length_cons]
      omega
    | false =>
      rw [List.filter_cons_of_neg (by simp [h]), List.filter_cons_of_pos (by simp [h]), List.length_cons, List.length_cons]
      omega
/-- Those that are there, and the table at the start. -/
theorem start_there {l : List S29} {now : Int} (h : MayP l now) {M : List S29} {G : List Int} (hs : (M, G) = struck l now [] []) :
    M = l.filter (fun a => decide (0 ≤ laxS a now)) ∧ G = (l.filter (fun a => decide (laxS a now < 0))).map (·.f0) ∧ (∀ a, stillS M a = true ↔ a ∈ l ∧ 0 ≤ laxS a now) ∧ Apart M := by
  have he := struck_eq l now [] [] h.ap (fun a _ => by simp)
  rw [he, List.nil_append, List.nil_append, Prod.mk.injEq] at hs
  have hap : Apart M := by
    rw [hs.1]
    exact h.ap.sub List.filter_sublist
  refine ⟨hs.1, hs.2, fun a => ?_, hap⟩
  rw [still_iff hap, hs.1, List.mem_filter, decide_eq_true_iff]
theorem start_PI {l : List S29} {now : Int} (h : MayP l now) {M : List S29} {G : List Int} (hs : (M, G) = struck l now [] []) :
    PI l ((isort l).filter (stillS M)) now M G ∧ ∀ a, a ∈ (isort l).filter (stillS M) ↔ a ∈ M := by
  obtain ⟨h1, h2, h3, h4⟩ := start_there h hs
  have hT : ∀ a, a ∈ (isort l).filter (stillS M) ↔ a ∈ M := fun a => by
    rw [List.mem_filter, (isort_perm l).mem_iff, h3, h1, List.mem_filter, decide_eq_true_iff]
    constructor
    · exact fun ⟨x, y⟩ => y
    · exact fun x => ⟨x.1, x⟩
  refine ⟨⟨fun a ha => ?_, h4, fun g hg => ?_, ?_, fun a ha hg => ?_, ?_⟩, hT⟩
  · have ha2 := ha
    rw [h1, List.mem_filter, decide_eq_true_iff] at ha
    exact ⟨ha.1, ha.2, (hT a).2 ha2⟩
  · rw [h2] at hg
    obtain ⟨a, ha, e⟩ := List.mem_map.1 hg
    rw [List.mem_filter, decide_eq_true_iff] at ha
    exact ⟨a, ha.1, e, by omega⟩
  · rw [h2]
    exact (h.ap.sub List.filter_sublist : Apart _)
  · rw [h2] at hg
    obtain ⟨b, hb, e⟩ := List.mem_map.1 hg
    rw [List.mem_filter, decide_eq_true_iff] at hb
    rw [h1, List.mem_filter, decide_eq_true_iff] at ha
    have := h.ap.inj hb.1 ha.1 e
    subst this
    omega
  · rw [h1, h2, List.length_map]
    have : (fun a => decide (laxS a now < 0)) = fun a => !decide (0 ≤ laxS a now) := by
      funext a
      rw [← decide_not]
      exact decide_eq_decide.mpr (by omega)
    rw [this]
    exact filter_split _ l
theorem pick_ok {l : List S29} {cur now : Int} (h : MayP l now) : PickOk l now (pickS l cur now).1 (pickS l cur now).2 := by
  have hm := (mayS_iff l now).2 h
  obtain ⟨M, G, hs⟩ : ∃ M G, (M, G) = struck l now [] [] := ⟨_, _, rfl⟩
  obtain ⟨hPI, hT⟩ := start_PI h hs
  have hpos : ∀ a ∈ l, 0 ≤ a.f0 := fun a ha => (h.ok a ha).1
  have hTn : Apart ((isort l).filter (stillS M)) := (h.ap.perm (isort_perm l)).sub List.filter_sublist
  unfold pickS
  rw [if_pos hm, ← hs]
  simp only []
  generalize hTe : (isort l).filter (stillS M) = T at hPI hT hTn
  cases T with
  | nil =>
    have hM : M = [] := List.eq_nil_iff_forall_not_mem.2 fun a ha => by
      have := (hT a).2 ha
      simp at this
    subst hM
    exact hPI.none hpos
  | cons a0 T0 =>
    have ha0 : a0 ∈ M := (hT a0).1 (List.mem_cons_self ..)
    simp only []
    by_cases hf : fitsS (a0 :: T0) now = true
    · rw [if_pos hf]
      exact hPI.ok ha0
    · rw [if_neg hf]
      have hi := picks_inv (a0 :: T0) M G cur hTn (fun a ha => (hT a).1 ha) hPI
      obtain ⟨M', G', c', hp⟩ : ∃ M' G' c', picks (a0 :: T0) now M G cur = (M', G', c') := ⟨_, _, _, rfl⟩
      rw [hp] at hi ⊢
      simp only [] at hi ⊢
      unfold lastS
      by_cases hc : (getM M' c').isSome = true
      · rw [if_pos hc]
        obtain ⟨b, hb⟩ := Option.isSome_iff_exists.1 hc
        obtain ⟨hb1, hb2⟩ := getM_mem hb
        rw [← hb2]
        exact hi.ok hb1
      · rw [if_neg hc]
        cases hfi : (a0 :: T0).find? (stillS M') with
        | none =>
          have hM : M' = [] := List.eq_nil_iff_forall_not_mem.2 fun a ha => by
            have := List.find?_eq_none.1 hfi a (hi.mem a ha).2.2
            exact this ((still_iff hi.ap a).2 ha)
          subst hM
          exact hi.none hpos
        | some b =>
          have hb := List.find?_some hfi
          exact hi.ok ((still_iff hi.ap b).1 hb)
end Go.Proofs.Ytmknoiiflciclaa.PA
