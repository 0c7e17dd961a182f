/- The law DoverBeaten as a statement on numbers. -/
import Derived.Test.YtmknoiiflciclaaDoverCanA
import Derived.Test.YtmknoiiflciclaaDoverD
import Derived.Test.YtmknoiiflciclaaDoverE
import Derived.Test.YtmknoiiflciclaaDoverSpec
import Derived.Test.YtmknoiiflciclaaDoverVal
import Derived.Test.YtmknoiiflciclaaPAx0
import Derived.Test.YtmknoiiflciclaaPAx16
import Derived.Test.YtmknoiiflciclaaPAx17
import Derived.Test.YtmknoiiflciclaaPAx3
import Derived.Test.YtmknoiiflciclaaPAx4
import Derived.Test.YtmknoiiflciclaaPAx6
import Derived.Test.YtmknoiiflciclaaPAx9
import Derived.Test.YtmknoiiflciclaaDoverCanA
namespace Go.Proofs.Ytmknoiiflciclaa.Pure
set_option linter.unusedVariables false
set_option linter.unusedSimpArgs false
open Go.RowKit Go.Proofs.Ytmknoiiflciclaa.PA Go.Proofs.YtmknoiiflciclaaW.PrintWords Go.Proofs.YtmknoiiflciclaaW.PrintLast
theorem beaten_awake : ∀ m, fuseelaw13_awake.f (60 + m) = some true
  | 0 => by kernel_rfl
  | m + 1 => fuseelaw13_awake.mono (60 + m) _ (beaten_awake m)
theorem isort_two (a b : S29) : isort [a, b] = if ahd b a = true then [b, a] else [a, b] := by
  rw [isort_fold]
  simp only [List.foldl_cons, List.foldl_nil, insRev]
  split <;> rfl
theorem getM_two (a b : S29) (k : Int) : getM [a, b] k = if a.f0 = k then some a else if b.f0 = k then some b else none := rfl
theorem pick_beaten {a b : S29} {now : Int} (h : MayP [a, b] now) (hf : ¬ fitsS [a, b] now = true) (ha : 1 ≤ laxS a now) (hb : laxS b now = 0) :
    pickS [a, b] a.f0 now = if beatsS b.f3 a.f3 = true then (b.f0, []) else (a.f0, [b.f0]) := by
  have hne : a.f0 ≠ b.f0 := by
    have := h.ap
    unfold Apart at this
    simpa using this
  have hne' : ¬ b.f0 = a.f0 := fun e => hne e.symm
  have hs : ([a, b], ([] : List Int)) = struck [a, b] now [] [] := by
    rw [struck_eq _ _ _ _ h.ap (fun a _ => by simp), List.filter_cons_of_pos (by simp; omega), List.filter_cons_of_pos (by simp; omega), List.filter_cons_of_neg (by simp; omega), List.filter_cons_of_neg (by simp; omega)]
    rfl
  obtain ⟨h1, h2, h3, h4⟩ := start_there h hs
  have hT : (isort [a, b]).filter (stillS [a, b]) = isort [a, b] := List.filter_eq_self.2 fun x hx => by
    rw [h3]
    have := (isort_perm [a, b]).mem_iff.1 hx
    refine ⟨this, ?_⟩
    simp at this
    rcases this with rfl | rfl <;> omega
  have hfT : ¬ fitsS (isort [a, b]) now = true := by
    unfold fitsS at hf ⊢
    rwa [isort_perm_eq (isort_perm [a, b]) (h.ap.perm (isort_perm _))]
  have hlb : ¬ (b.f0 = a.f0 ∨ laxS b now > 0) := by
    rintro (e | e)
    · exact hne' e
    · omega
  have hbt : beatenS [a, b] a.f0 b = beatsS b.f3 a.f3 := by
    unfold beatenS
    rw [getM_two, if_pos rfl]
  have hdel : delM [a, b] b.f0 = [a] := by
    simp [delM, hne]
  unfold pickS
  rw [if_pos ((mayS_iff _ _).2 h), ← hs]
  simp only []
  rw [hT]
  rw [isort_two] at hfT ⊢
  by_cases ho : ahd b a = true
  · rw [if_pos ho] at hfT ⊢
    simp only []
    rw [if_neg hfT, picks, if_neg hlb, hbt, hdel]
    by_cases hbe : beatsS b.f3 a.f3 = true
    · rw [if_pos hbe, if_pos hbe, picks, if_pos (Or.inr (by omega)), picks]
      simp only [lastS]
      rw [getM_two, if_neg hne, if_pos rfl]
      rfl
    · rw [if_neg hbe, if_neg hbe, picks, if_pos (Or.inl rfl), picks]
      simp only [lastS]
      simp [getM]
  · rw [if_neg ho] at hfT ⊢
    simp only []
    rw [if_neg hfT, picks, if_pos (Or.inl rfl), picks, if_neg hlb, hbt, hdel]
    by_cases hbe : beatsS b.f3 a.f3 = true
    · rw [if_pos hbe, if_pos hbe, picks]
      simp only [lastS]
      rw [getM_two, if_neg hne, if_pos rfl]
      rfl
    · rw [if_neg hbe, if_neg hbe, picks]
      simp only [lastS]
      simp [getM]
theorem ints_l0 (G : List Int) (hG : G.length ≤ 1000) : ∀ (m k i : Nat), m + i = G.length → m < k → fuseeref13_Ints.l0 k G G (i : Int) = some true
  | 0, k, i, hm, hk => by
    obtain ⟨k, rfl⟩ : ∃ k', k = k' + 1 := ⟨k - 1, by omega⟩
    rw [fuseeref13_Ints.l0, if_neg (by omega)]
  | m + 1, k, i, hm, hk => by
    obtain ⟨k, rfl⟩ : ∃ k', k = k' + 1 := ⟨k - 1, by omega⟩
    have hw : wrap64 ((i : Int) + 1) = ((i + 1 : Nat) : Int) := by
      rw [show wrap64 ((i : Int) + 1) = (i : Int) + 1 from by unfold wrap64; omega]
      omega
    rw [fuseeref13_Ints.l0, if_pos (by omega), if_pos (by omega), if_pos (by omega), if_pos rfl, hw, ints_l0 G hG m k (i + 1) (by omega) (by omega)]
theorem ints_self {G : List Int} {k : Nat} (hG : G.length ≤ 1000) (hk : G.length < k) : fuseeref13_Ints.f k G G = some true := by
  rw [fuseeref13_Ints.f, if_pos rfl]
  exact ints_l0 G hG G.length k 0 (by omega) hk
theorem ints_one (x : Int) (k : Nat) : fuseeref13_Ints.f (k + 2) [x] [x] = some true := ints_self (by simp) (by simp)
theorem DoverBeaten : ∀ (a0_0 a0_1 a0_2 a0_3 a0_4 a1_0 a1_1 a1_2 a1_3 a1_4 a2 : Int), (Lit.int .i64 a0_0).wf = true → (Lit.int .i64 a0_1).wf = true → (Lit.int .i64 a0_2).wf = true → (Lit.int .i64 a0_3).wf = true → (Lit.int .i64 a0_4).wf = true → (Lit.int .i64 a1_0).wf = true → (Lit.int .i64 a1_1).wf = true → (Lit.int .i64 a1_2).wf = true → (Lit.int .i64 a1_3).wf = true → (Lit.int .i64 a1_4).wf = true → (Lit.int .i64 a2).wf = true → ∃ k, fuseelaw13_DoverBeaten.f k a0_0 a0_1 a0_2 a0_3 a0_4 a1_0 a1_1 a1_2 a1_3 a1_4 a2 = some true := by
  intro a0 a1 a2 a3 a4 b0 b1 b2 b3 b4 now _ _ _ _ _ _ _ _ _ _ _
  refine ⟨1001, ?_⟩
  obtain ⟨a, ha⟩ : ∃ a : S29, a = ⟨a0, a1, a2, a3, a4⟩ := ⟨_, rfl⟩
  obtain ⟨b, hb⟩ : ∃ b : S29, b = ⟨b0, b1, b2, b3, b4⟩ := ⟨_, rfl⟩
  have hla : dover_Lax.f a0 a1 a2 a3 a4 now = some (laxS a now) := by
    subst ha
    rfl
  have hlb : dover_Lax.f b0 b1 b2 b3 b4 now = some (laxS b now) := by
    subst hb
    rfl
  have full : ∀ y, fuseelaw13_DoverBeaten.j0 1001 now true y true a0 a1 a2 a3 a4 b0 b1 b2 b3 b4 = some true := fun y => by
    rw [fuseelaw13_DoverBeaten.j0, if_pos rfl]
  unfold fuseelaw13_DoverBeaten.f dover_May.f
  rw [show fuseelaw13_awake.f 1001 = some true from beaten_awake 941, Option.bind_some, Option.bind_some, if_pos rfl, Option.bind_some, ← ha, ← hb]
  cases hm : mayS [a, b] now with
  | false => rw [if_neg (by simp), full]
  | true =>
    have h := (mayS_iff _ _).1 hm
    rw [if_pos rfl, fits_f (by simp) (by omega), Option.bind_some]
    by_cases hf : fitsS [a, b] now = true
    · rw [if_pos hf, full]
    · rw [if_neg hf, hla, Option.bind_some]
      by_cases h1 : laxS a now < 1
      · rw [if_pos h1, full]
      · rw [if_neg h1, hlb, Option.bind_some]
        by_cases h2 : laxS b now = 0
        · have hp := pick_beaten h hf (by omega) h2
          have hea : a.f0 = a0 := by rw [ha]
          have hea3 : a.f3 = a3 := by rw [ha]
          have heb : b.f0 = b0 := by rw [hb]
          have heb3 : b.f3 = b3 := by rw [hb]
          rw [hea, heb, hea3, heb3] at hp
          rw [show (laxS b now != 0) = false from by simp [h2], fuseelaw13_DoverBeaten.j0, if_neg (by simp)]
          unfold dover_Pick.f
          rw [hp, beats_f, Option.bind_some, Option.bind_some]
          by_cases hbe : beatsS b3 a3 = true
          · rw [if_pos hbe, if_pos hbe]
            simp
          · rw [if_neg hbe, if_neg hbe]
            simp only [if_true]
            rw [show (1000 : Nat) = 998 + 2 from rfl, ints_one]
            rfl
        · rw [show (laxS b now != 0) = true from by simp [h2], full]
end Go.Proofs.Ytmknoiiflciclaa.Pure
