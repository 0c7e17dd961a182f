/- The law DoverWaits as a statement on rows. -/
import Derived.Test.YtmknoiiflciclaaDoverE
import Derived.Test.YtmknoiiflciclaaDoverFit
import Derived.Test.YtmknoiiflciclaaDoverSpec
import Derived.Test.YtmknoiiflciclaaDoverVal
import Derived.Test.YtmknoiiflciclaaPAx0
import Derived.Test.YtmknoiiflciclaaPAx13
import Derived.Test.YtmknoiiflciclaaPAx3
import Derived.Test.YtmknoiiflciclaaPAx6
import Derived.Test.YtmknoiiflciclaaPAx9
import Derived.Test.YtmknoiiflciclaaDoverFit
namespace Go.Proofs.Ytmknoiiflciclaa.Pure
set_option linter.unusedVariables false
set_option linter.unusedSimpArgs false
open Go.RowKit Go.Proofs.Ytmknoiiflciclaa.PA Go.Proofs.YtmknoiiflciclaaW.PrintWords Go.Proofs.YtmknoiiflciclaaW.PrintLast
theorem waits_awake : ∀ m, fuseelaw13_awake.f (60 + m) = some true
  | 0 => by kernel_rfl
  | m + 1 => fuseelaw13_awake.mono (60 + m) _ (waits_awake m)
theorem DoverWaits : ∀ (l0 : List S29) (a1 a2 : Int), l0.length ≤ 9223372036854775807 → (Lit.int .i64 a1).wf = true → (Lit.int .i64 a2).wf = true → ∃ k, fuseelaw13_DoverWaits.f k l0 a1 a2 = some true := by
  intro l now i2 _ _ _
  refine ⟨1002, ?_⟩
  have full : fuseelaw13_DoverWaits.j0 1002 l now i2 true true = some true := by
    rw [fuseelaw13_DoverWaits.j0, if_pos rfl]
  unfold fuseelaw13_DoverWaits.f dover_May.f
  rw [show fuseelaw13_awake.f 1002 = some true from waits_awake 942, Option.bind_some, if_pos rfl, Option.bind_some]
  cases hm : mayS l now with
  | false => rw [if_neg (by simp), full]
  | true =>
    have h := (mayS_iff l now).1 hm
    rw [if_pos rfl]
    by_cases c1 : i2 < 0
    · rw [if_pos c1, full]
    · rw [if_neg c1]
      by_cases c2 : i2 ≥ (l.length : Int)
      · rw [if_pos c2, full]
      · rw [if_neg c2]
        by_cases c3 : now > 274877906944
        · rw [decide_eq_true c3, full]
        · obtain ⟨i, rfl⟩ : ∃ i : Nat, i2 = (i : Int) := ⟨i2.toNat, by omega⟩
          have hi : i < l.length := by omega
          have hle := h.le
          have ha : at_ l i ∈ l := by
            rw [at_get hi]
            exact List.getElem_mem _
          have hok := h.ok _ ha
          have hn0 := h.n0
          obtain ⟨a, hae⟩ : ∃ a, a = at_ l i := ⟨_, rfl⟩
          rw [← hae] at ha hok
          have hlx : ∀ (x : S29) (n : Int), dover_Lax.f x.f0 x.f1 x.f2 x.f3 x.f4 n = some (laxS x n) := fun x n => rfl
          have hlb : ∀ n : Int, dover_Lax.f a.f0 a.f1 a.f2 a.f3 (wrap64 (a.f4 + 1)) n = some (laxS ⟨a.f0, a.f1, a.f2, a.f3, wrap64 (a.f4 + 1)⟩ n) := fun n => rfl
          have e0 : laxS a now = a.f1 - now - (a.f2 - a.f4) := h.lax ha
          have w1 : wrap64 (now + 1) = now + 1 := w64 (by omega)
          have w2 : wrap64 (a.f4 + 1) = a.f4 + 1 := w64 (by omega)
          have e1 : laxS a (wrap64 (now + 1)) = a.f1 - now - 1 - (a.f2 - a.f4) := by
            rw [w1]
            unfold laxS leftS
            rw [w64 (x := a.f2 - a.f4) (by omega), w64 (x := a.f1 - (now + 1)) (by omega), w64 (by omega)]
            omega
          have e2 : laxS ⟨a.f0, a.f1, a.f2, a.f3, wrap64 (a.f4 + 1)⟩ (wrap64 (now + 1)) = a.f1 - now - (a.f2 - a.f4) := by
            rw [w1]
            unfold laxS leftS
            simp only []
            rw [w2, w64 (x := a.f2 - (a.f4 + 1)) (by omega), w64 (x := a.f1 - (now + 1)) (by omega), w64 (by omega)]
            omega
          have w3 : wrap64 (laxS a now - 1) = laxS a now - 1 := w64 (by omega)
          have hone : fitsS [a] now = decide (laxS a now ≥ 0) := by
            unfold fitsS
            rw [isort_fold]
            simp only [List.foldl_cons, List.foldl_nil, insRev, List.reverse_cons, List.reverse_nil, List.nil_append, fitsL]
            rw [h.left ha, w64 (x := now + (a.f2 - a.f4)) (by omega), e0]
            by_cases c : a.f1 - now - (a.f2 - a.f4) ≥ 0
            · rw [if_neg (by omega), decide_eq_true c]
            · rw [if_pos (by omega), decide_eq_false c]
          have hB := h.small
          rw [decide_eq_false c3, fuseelaw13_DoverWaits.j0, if_neg (by simp), if_pos (by omega), if_pos (by omega), rd_at, ← hae, hlb, Option.bind_some, hlx, Option.bind_some, if_pos (by rw [e2, e0]), hlx, Option.bind_some, Option.bind_some, if_pos (by rw [w3, e1, e0]; omega)]
          rw [fits_f (T := [(⟨a.f0, a.f1, a.f2, a.f3, a.f4⟩ : S29)]) (by simp) (by omega), Option.bind_some, Option.bind_some]
          rw [show fitsS [(⟨a.f0, a.f1, a.f2, a.f3, a.f4⟩ : S29)] now = fitsS [a] now from rfl, hone, show (decide (laxS a now ≥ 0) != decide (laxS a now ≥ 0)) = false from by simp]
          rw [show (1001 : Nat) = 1000 + 1 from rfl, fuseelaw13_DoverWaits.j1, if_neg (by simp), if_pos (by omega), if_pos (by omega), Option.bind_some, if_pos (by simp; omega), Option.bind_some, show wrap64 ((i : Int) + 1) = ((i + 1 : Nat) : Int) from by rw [w64 (by omega)]; omega, if_pos (by omega), if_pos (by omega), Option.bind_some, if_pos (by simp; omega), if_pos (by simp; omega), Option.bind_some, if_pos (by simp; omega)]
          simp only [List.nil_append, Int.toNat_natCast]
          rw [fits_f (T := l) (by omega) (by omega), Option.bind_some]
          by_cases hf : fitsS l now = true
          · rw [if_pos hf]
            have hS : Small (isort l) := hB.perm (isort_perm l)
            have hil : (isort l).length ≤ 4 := by
              rw [(isort_perm l).length_eq]
              exact hle
            have hless : fitsS (l.take i ++ l.drop (i + 1)) now = true := by
              unfold fitsS at hf ⊢
              rw [isort_less h.ap hi]
              exact fitsL_sub List.filter_sublist hS hn0 (Int.le_refl _) (by omega) hf
            have hshort : fitsS (l.set i (⟨a.f0, a.f1, a.f2, a.f3, wrap64 (a.f4 + 1)⟩ : S29)) now = true := by
              unfold fitsS at hf ⊢
              have hg : ∀ x ∈ l, (if x.f0 = (at_ l i).f0 then (⟨a.f0, a.f1, a.f2, a.f3, wrap64 (a.f4 + 1)⟩ : S29) else x).f0 = x.f0 ∧ (if x.f0 = (at_ l i).f0 then (⟨a.f0, a.f1, a.f2, a.f3, wrap64 (a.f4 + 1)⟩ : S29) else x).f1 = x.f1 ∧ 0 ≤ leftS (if x.f0 = (at_ l i).f0 then (⟨a.f0, a.f1, a.f2, a.f3, wrap64 (a.f4 + 1)⟩ : S29) else x) ∧ leftS (if x.f0 = (at_ l i).f0 then (⟨a.f0, a.f1, a.f2, a.f3, wrap64 (a.f4 + 1)⟩ : S29) else x) ≤ leftS x := fun x hx => by
                by_cases hc : x.f0 = (at_ l i).f0
                · rw [if_pos hc]
                  have hxa : x = a := h.ap.inj hx ha (by rw [hc, hae])
                  subst hxa
                  have hlb2 : leftS ⟨x.f0, x.f1, x.f2, x.f3, wrap64 (x.f4 + 1)⟩ = x.f2 - (x.f4 + 1) := by
                    unfold leftS
                    simp only []
                    rw [w2]
                    exact w64 (by omega)
                  rw [h.left hx, hlb2]
                  exact ⟨rfl, rfl, by omega, by omega⟩
                · rw [if_neg hc]
                  have := hB x hx
                  omega
              rw [set_map h.ap hi, isort_map h.ap _ (fun x hx => ⟨(hg x hx).1, (hg x hx).2.1⟩)]
              exact fitsL_map _ _ _ _ hS (fun x hx => (hg x ((isort_perm l).mem_iff.1 hx)).2) hn0 (Int.le_refl _) (by omega) hf
            rw [fits_f (by simp; omega) (by omega), Option.bind_some, if_pos hless, fits_f (by simp; omega) (by omega), Option.bind_some, hshort]
          · rw [if_neg hf]
end Go.Proofs.Ytmknoiiflciclaa.Pure
