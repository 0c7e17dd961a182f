/- What may be, what is in order: facts in plain Lean. -/
import Derived.Test.YtmknoiiflciclaaDoverSpec
namespace Go.Proofs.Ytmknoiiflciclaa.PA
open Go.RowKit Go.Proofs.YtmknoiiflciclaaW.PrintWords Go.Proofs.YtmknoiiflciclaaW.PrintLast Go.Proofs.YtmknoiiflciclaaW.PrintMore
set_option linter.unusedVariables false
set_option linter.unusedSimpArgs false
/-! ### in order -/
theorem ahd_iff (a b : S29) : ahd a b = true ↔ a.f1 < b.f1 ∨ a.f1 = b.f1 ∧ a.f0 < b.f0 := by
  unfold ahd
  rw [decide_eq_true_iff]
theorem ahd_false (a b : S29) : ahd a b = false ↔ b.f1 < a.f1 ∨ b.f1 = a.f1 ∧ b.f0 ≤ a.f0 := by
  unfold ahd
  rw [decide_eq_false_iff_not]
  omega
/-- None behind is ahead. -/
def Ord (l : List S29) : Prop := l.Pairwise fun a b => ahd b a = false
def insRev : List S29 → S29 → List S29
  | [], x => [x]
  | y :: ys, x => if ahd x y = true then y :: insRev ys x else x :: y :: ys
theorem at_append {A R : List S29} {x : S29} : at_ (A ++ x :: R) A.length = x := by
  unfold at_
  simp
theorem set_append_self {A R : List S29} {x y : S29} : (A ++ x :: R).set A.length y = A ++ y :: R := by
  simp
theorem down_ins : ∀ (ys : List S29) (x : S29) (R : List S29), down (ys.reverse ++ x :: R) ys.length = (insRev ys x).reverse ++ R
  | [], x, R => rfl
  | y :: ys, x, R => by
    have e1 : (y :: ys).reverse ++ x :: R = ys.reverse ++ y :: (x :: R) := by simp
    have e2 : ys.length = ys.reverse.length := by simp
    have hx : at_ ((y :: ys).reverse ++ x :: R) (ys.length + 1) = x := by
      have : ys.length + 1 = (y :: ys).reverse.length := by simp
      rw [this]
      exact at_append
    have hy : at_ ((y :: ys).reverse ++ x :: R) ys.length = y := by
      rw [e1, e2]
      exact at_append
    rw [List.length_cons, down, hx, hy, insRev]
    by_cases h : ahd x y = true
    · rw [if_pos h, if_pos h]
      have s1 : ((y :: ys).reverse ++ x :: R).set (ys.length + 1) y = (y :: ys).reverse ++ y :: R := by
        have : ys.length + 1 = (y :: ys).reverse.length := by simp
        rw [this]
        exact set_append_self
      have s2 : ((y :: ys).reverse ++ y :: R).set ys.length x = ys.reverse ++ x :: (y :: R) := by
        rw [show (y :: ys).reverse ++ y :: R = ys.reverse ++ y :: (y :: R) from by simp, e2]
        exact set_append_self
      rw [s1, s2, down_ins ys x (y :: R)]
      simp
    · rw [if_neg h, if_neg h]
      simp
theorem insRev_len : ∀ (ys : List S29) (x : S29), (insRev ys x).length = ys.length + 1
  | [], x => rfl
  | y :: ys, x => by
    rw [insRev]
    split
    · rw [List.length_cons, insRev_len]
      rfl
    · rfl
theorem downs_ins : ∀ (R ys : List S29), downs (ys.reverse ++ R) ys.length R.length = (R.foldl insRev ys).reverse
  | [], ys => by simp [downs]
  | x :: R, ys => by
    rw [List.length_cons, downs, down_ins, ← insRev_len ys x, downs_ins R (insRev ys x), List.foldl_cons]
theorem isort_fold (l : List S29) : isort l = (l.foldl insRev []).reverse := by
  cases l with
  | nil => rfl
  | cons x R =>
    have := downs_ins R [x]
    unfold isort
    rw [List.foldl_cons]
    simpa [insRev] using this
theorem insRev_perm : ∀ (ys : List S29) (x : S29), (insRev ys x).Perm (x :: ys)
  | [], x => List.Perm.refl _
  | y :: ys, x => by
    rw [insRev]
    split
    · exact ((insRev_perm ys x).cons y).trans (List.Perm.swap x y ys)
    · exact List.Perm.refl _
theorem fold_perm : ∀ (R ys : List S29), (R.foldl insRev ys).Perm (R ++ ys)
  | [], ys => List.Perm.refl _
  | x :: R, ys => by
    rw [List.foldl_cons]
    exact (fold_perm R (insRev ys x)).trans (((insRev_perm ys x).append_left R).trans List.perm_middle)
theorem isort_perm (l : List S29) : (isort l).Perm l := by
  rw [isort_fold]
  have := fold_perm l []
  rw [List.append_nil] at this
  exact (List.reverse_perm _).trans this
theorem insRev_ord : ∀ (ys : List S29) (x : S29), ys.Pairwise (fun a b => ahd a b = false) → (insRev ys x).Pairwise (fun a b => ahd a b = false)
  | [], x, _ => by simp [insRev]
  | y :: ys, x, h => by
    obtain ⟨h1, h2⟩ := List.pairwise_cons.1 h
    rw [insRev]
    split
    · rename_i hx
      refine List.pairwise_cons.2 ⟨fun z hz => ?_, insRev_ord ys x h2⟩
      rcases List.mem_cons.1 ((insRev_perm ys x).mem_iff.1 hz) with rfl | hz
      · rw [ahd_iff] at hx
        rw [ahd_false]
        omega
      · exact h1 z hz
    · rename_i hx
      have hx := Bool.eq_false_iff.mpr hx
      refine List.pairwise_cons.2 ⟨fun z hz => ?_, h⟩
      rcases List.mem_cons.1 hz with rfl | hz
      · exact hx
      · have := h1 z hz
        rw [ahd_false] at this hx ⊢
        omega
theorem fold_ord : ∀ (R ys : List S29), ys.Pairwise (fun a b => ahd a b = false) → (R.foldl insRev ys).Pairwise (fun a b => ahd a b = false)
  | [], ys, h => h
  | x :: R, ys, h => fold_ord R _ (insRev_ord ys x h)
theorem isort_ord (l : List S29) : Ord (isort l) := by
  rw [isort_fold]
  exact List.pairwise_reverse.2 (fold_ord l [] List.Pairwise.nil)
/-- No ID twice. -/
def Apart (l : List S29) : Prop := (l.map (·.f0)).Nodup
theorem Apart.inj {l : List S29} (h : Apart l) {a b : S29} (ha : a ∈ l) (hb : b ∈ l) (e : a.f0 = b.f0) : a = b := by
  obtain ⟨i, hi, rfl⟩ := List.mem_iff_getElem.1 ha
  obtain ⟨j, hj, rfl⟩ := List.mem_iff_getElem.1 hb
  unfold Apart at h
  rcases Nat.lt_trichotomy i j with h1 | h1 | h1
  · exact absurd (by rw [List.getElem_map, List.getElem_map]; exact e) ((List.pairwise_iff_getElem.1 h) i j (by simpa using hi) (by simpa using hj) h1)
  · subst h1
    rfl
  · exact absurd (by rw [List.getElem_map, List.getElem_map]; exact e.symm) ((List.pairwise_iff_getElem.1 h) j i (by simpa using hj) (by simpa using hi) h1)
theorem Apart.perm {l l' : List S29} (h : Apart l) (p : l'.Perm l) : Apart l' := by
  unfold Apart at h ⊢
  exact (p.map (·.f0)).nodup_iff.2 h
theorem Apart.sub {l l' : List S29} (h : Apart l) (p : l'.Sublist l) : Apart l' := List.Nodup.sublist (p.map _) h
theorem Apart.cons {a : S29} {l : List S29} (h : Apart (a :: l)) : a.f0 ∉ l.map (·.f0) ∧ Apart l := by
  unfold Apart at h
  rw [List.map_cons, List.nodup_cons] at h
  exact h
theorem ord_unique {l l' : List S29} (ha : Ord l) (hb : Ord l') (p : l.Perm l') (hn : Apart l) : l = l' :=
  List.Perm.eq_of_pairwise (le := fun a b => ahd b a = false) (fun x y hx hy h1 h2 => by
    rw [ahd_false] at h1 h2
    exact hn.inj hx (p.mem_iff.2 hy) (by omega)) ha hb p
theorem isort_perm_eq {l l' : List S29} (p : l.Perm l') (hn : Apart l) : isort l = isort l' :=
  ord_unique (isort_ord l) (isort_ord l') ((isort_perm l).trans (p.trans (isort_perm l').symm)) (hn.perm (isort_perm l))
/-! ### may be -/
theorem put_len (M : List S29) (a : S29) : (putM M a).length = M.length + (if a.f0 ∈ M.map (·.f0) then 0 else 1) ∧ (∀ k, k ∈ (putM M a).map (·.f0) ↔ k = a.f0 ∨ k ∈ M.map (·.f0)) := by
  induction M with
  | nil => simp [putM]
  | cons b M ih =>
    rw [putM]
    by_cases h : b.f0 = a.f0
    · rw [if_pos h]
      constructor
      · simp [h]
      · intro k
        simp [h]
    · rw [if_neg h]
      obtain ⟨h1, h2⟩ := ih
      constructor
      · rw [List.length_cons, h1, List.length_cons]
        have : (a.f0 ∈ (b :: M).map (·.f0)) ↔ a.f0 ∈ M.map (·.f0) := by
          rw [List.map_cons, List.mem_cons]
          constructor
          · rintro (e | e)
            · exact absurd e.symm h
            · exact e
          · exact Or.inr
        by_cases hm : a.f0 ∈ M.map (·.f0)
        · rw [if_pos hm, if_pos (this.2 hm)]
        · rw [if_neg hm, if_neg (fun e => hm (this.1 e))]
      · intro k
        rw [List.map_cons, List.mem_cons, h2 k, List.map_cons, List.mem_cons]
        constructor
        · rintro (h | h | h)
          · exact .inr (.inl h)
          · exact .inl h
          · exact .inr (.inr h)
        · rintro (h | h | h)
          · exact .inr (.inl h)
          · exact .inl h
          · exact .inr (.inr h)
theorem fold_len : ∀ (l M : List S29), (l.foldl putM M).length ≤ M.length + l.length ∧ ((l.foldl putM M).length = M.length + l.length ↔ Apart l ∧ ∀ a ∈ l, a.f0 ∉ M.map (·.f0))
  | [], M => by simp [Apart]
  | a :: l, M => by
    obtain ⟨h1, h2⟩ := put_len M a
    obtain ⟨i1, i2⟩ := fold_len l (putM M a)
    rw [List.foldl_cons, List.length_cons]
    by_cases hm : a.f0 ∈ M.map (·.f0)
    · rw [if_pos hm] at h1
      refine ⟨by omega, ⟨fun e => by omega, fun ⟨_, h⟩ => absurd hm (h a (List.mem_cons_self ..))⟩⟩
    · rw [if_neg hm] at h1
      refine ⟨by omega, ?_⟩
      rw [show M.length + (l.length + 1) = (putM M a).length + l.length from by omega, i2]
      unfold Apart
      rw [List.map_cons, List.nodup_cons]
      constructor
      · rintro ⟨ha, hd⟩
        refine ⟨⟨fun e => ?_, ha⟩, fun b hb => ?_⟩
        · obtain ⟨b, hb, e⟩ := List.mem_map.1 e
          exact hd b hb ((h2 _).2 (.inl e))
        · rcases List.mem_cons.1 hb with rfl | hb
          · exact hm
          · exact fun e => hd b hb ((h2 _).2 (.inr e))
      · rintro ⟨⟨hn, ha⟩, hd⟩
        refine ⟨ha, fun b hb e => ?_⟩
        rcases (h2 _).1 e with e | e
        · exact hn (List.mem_map.2 ⟨b, hb, e⟩)
        · exact hd b (List.mem_cons_of_mem _ hb) e
/-- What may be. -/
structure MayP (l : List S29) (now : Int) : Prop where
  ok : ∀ a ∈ l, 0 ≤ a.f0 ∧ a.f0 ≤ 549755813888 ∧ 1 ≤ a.f1 ∧ a.f1 ≤ 1099511627776 ∧ 1 ≤ a.f2 ∧ a.f2 ≤ 40 ∧ 1 ≤ a.f3 ∧ a.f3 ≤ 1000 ∧ 0 ≤ a.f4 ∧ a.f4 ≤ a.f2 - 1
  ap : Apart l
  le : l.length ≤ 4
  n0 : 0 ≤ now
  n1 : now ≤ 549755813888
theorem ok1_iff (a : S29) : ok1 a = true ↔ 0 ≤ a.f0 ∧ a.f0 ≤ 549755813888 ∧ 1 ≤ a.f1 ∧ a.f1 ≤ 1099511627776 ∧ 1 ≤ a.f2 ∧ a.f2 ≤ 40 ∧ 1 ≤ a.f3 ∧ a.f3 ≤ 1000 ∧ 0 ≤ a.f4 ∧ a.f4 ≤ a.f2 - 1 := by
  unfold ok1
  rw [decide_eq_true_iff]
  unfold wrap64
  omega
theorem mayS_iff (l : List S29) (now : Int) : mayS l now = true ↔ MayP l now := by
  have hf := (fold_len l []).2
  rw [List.length_nil, Nat.zero_add] at hf
  unfold mayS
  simp only [Bool.and_eq_true, List.all_eq_true, beq_iff_eq, decide_eq_true_eq]
  rw [hf]
  constructor
  · rintro ⟨h1, ⟨h2, _⟩, h3, h4, h5⟩
    exact ⟨fun a ha => (ok1_iff a).1 (h1 a ha), h2, h3, h4, h5⟩
  · intro h
    exact ⟨fun a ha => (ok1_iff a).2 (h.ok a ha), ⟨h.ap, fun a _ => by simp⟩, h.le, h.n0, h.n1⟩
theorem MayP.perm {l l' : List S29} {now : Int} (h : MayP l now) (p : l'.Perm l) : MayP l' now :=
  ⟨fun a ha => h.ok a (p.mem_iff.1 ha), h.ap.perm p, by rw [p.length_eq]; exact h.le, h.n0, h.n1⟩
/-! ### the table -/
theorem getM_none {M : List S29} {k : Int} : getM M k = none ↔ k ∉ M.map (·.f0) := by
  induction M with
  | nil => simp [getM]
  | cons a M ih =>
    rw [getM, List.map_cons, List.mem_cons]
    by_cases h : a.f0 = k
    · rw [if_pos h]
      simp [h]
    · rw [if_neg h, ih]
      constructor
      · rintro h1 (h2 | h2)
        · exact h h2.symm
        · exact h1 h2
      · exact fun h1 h2 => h1 (.inr h2)
theorem getM_mem {M : List S29} {k : Int} {a : S29} (h : getM M k = some a) : a ∈ M ∧ a.f0 = k := by
  induction M with
  | nil => simp [getM] at h
  | cons b M ih =>
    rw [getM] at h
    by_cases hb : b.f0 = k
    · rw [if_pos hb] at h
      obtain rfl := Option.some.inj h
      exact ⟨List.mem_cons_self .., hb⟩
    · rw [if_neg hb] at h
      obtain ⟨h1, h2⟩ := ih h
      exact ⟨List.mem_cons_of_mem _ h1, h2⟩
theorem getM_of {M : List S29} (hn : Apart M) {a : S29} (ha : a ∈ M) : getM M a.f0 = some a := by
  cases h : getM M a.f0 with
  | none => exact absurd (List.mem_map.2 ⟨a, ha, rfl⟩) (getM_none.1 h)
  | some b =>
    obtain ⟨h1, h2⟩ := getM_mem h
    rw [hn.inj h1 ha h2]
theorem still_iff {M : List S29} (hn : Apart M) (a : S29) : stillS M a = true ↔ a ∈ M := by
  unfold stillS
  rw [decide_eq_true_iff]
  exact ⟨fun h => (getM_mem h).1, getM_of hn⟩
theorem putM_new {M : List S29} {a : S29} (h : a.f0 ∉ M.map (·.f0)) : putM M a = M ++ [a] := by
  induction M with
  | nil => rfl
  | cons b M ih =>
    rw [List.map_cons, List.mem_cons] at h
    rw [putM, if_neg (fun e => h (.inl e.symm)), ih (fun e => h (.inr e))]
    rfl
theorem delM_last {M : List S29} {a : S29} (h : a.f0 ∉ M.map (·.f0)) : delM (M ++ [a]) a.f0 = M := by
  induction M with
  | nil => simp [delM]
  | cons b M ih =>
    rw [List.map_cons, List.mem_cons] at h
    rw [List.cons_append, delM, if_neg (fun e => h (.inl e.symm)), ih (fun e => h (.inr e))]
theorem delM_eq {M : List S29} {a : S29} (hn : Apart M) (ha : a ∈ M) : ∀ b, b ∈ delM M a.f0 ↔ b ∈ M ∧ b.f0 ≠ a.f0 := by
  induction M with
  | nil => simp at ha
  | cons c M ih =>
    intro b
    obtain ⟨h1, h2⟩ := hn.cons
    rw [delM]
    by_cases h : c.f0 = a.f0
    · rw [if_pos h]
      constructor
      · exact fun hb => ⟨List.mem_cons_of_mem _ hb, fun e => h1 (List.mem_map.2 ⟨b, hb, by rw [e, h]⟩)⟩
      · rintro ⟨hb, hne⟩
        rcases List.mem_cons.1 hb with rfl | hb
        · exact absurd h hne
        · exact hb
    · rw [if_neg h, List.mem_cons, List.mem_cons]
      have hac : a ∈ M := by
        rcases List.mem_cons.1 ha with rfl | ha
        · exact absurd rfl h
        · exact ha
      rw [ih h2 hac b]
      constructor
      · rintro (rfl | ⟨hb, hne⟩)
        · exact ⟨.inl rfl, h⟩
        · exact ⟨.inr hb, hne⟩
      · rintro ⟨rfl | hb, hne⟩
        · exact .inl rfl
        · exact .inr ⟨hb, hne⟩
theorem delM_sub (M : List S29) (k : Int) : (delM M k).Sublist M := by
  induction M with
  | nil => exact List.Sublist.refl _
  | cons a M ih =>
    rw [delM]
    split
    · exact List.sublist_cons_self ..
    · exact ih.cons_cons a
theorem delM_len {M : List S29} {a : S29} (ha : a ∈ M) : (delM M a.f0).length + 1 = M.length := by
  induction M with
  | nil => simp at ha
  | cons c M ih =>
    rw [delM]
    by_cases h : c.f0 = a.f0
    · rw [if_pos h]
      rfl
    · rw [if_neg h, List.length_cons, List.length_cons]
      have hac : a ∈ M := by
        rcases List.mem_cons.1 ha with rfl | ha
        · exact absurd rfl h
        · exact ha
      rw [ih hac]
/-- Those that can still end, and those that can't. -/
theorem struck_eq : ∀ (l : List S29) (now : Int) (M : List S29) (G : List Int), Apart l → (∀ a ∈ l, a.f0 ∉ M.map (·.f0)) →
    struck l now M G = (M ++ l.filter (fun a => decide (0 ≤ laxS a now)), G ++ (l.filter (fun a => decide (laxS a now < 0))).map (·.f0))
  | [], now, M, G, _, _ => by simp [struck]
  | a :: l, now, M, G, hn, hd => by
    obtain ⟨h1, h2⟩ := hn.cons
    have ha := hd a (List.mem_cons_self ..)
    rw [struck, putM_new ha, delM_last ha]
    by_cases h : laxS a now < 0
    · rw [if_pos h, struck_eq l now M _ h2 (fun b hb => hd b (List.mem_cons_of_mem _ hb)), List.filter_cons_of_neg (by simpa using h), List.filter_cons_of_pos (by simpa using h)]
      simp
    · rw [if_neg h, struck_eq l now (M ++ [a]) G h2 (fun b hb e => by
        rw [List.map_append, List.mem_append] at e
        rcases e with e | e
        · exact hd b (List.mem_cons_of_mem _ hb) e
        · simp at e
          exact h1 (List.mem_map.2 ⟨b, hb, e⟩)), List.filter_cons_of_pos (by simp; omega), List.filter_cons_of_neg (by simpa using h)]
      simp
end Go.Proofs.Ytmknoiiflciclaa.PA
