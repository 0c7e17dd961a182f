/- The law SpecTells as a statement on numbers and bytes: for every description, bytes and periods it answers true. -/
import Derived.Test.YtalcblkdcmigeaaPAx0
import Derived.Test.YtalcblkdcmigeaaPAx12
import Derived.Test.YtalcblkdcmigeaaPAx15
import Derived.Test.YtalcblkdcmigeaaPAx16
import Derived.Test.YtalcblkdcmigeaaPAx17
import Derived.Test.YtalcblkdcmigeaaPAx18
import Derived.Test.YtalcblkdcmigeaaPAx3
import Derived.Test.YtalcblkdcmigeaaPAx4
import Derived.Test.YtalcblkdcmigeaaPAx5
import Derived.Test.YtalcblkdcmigeaaPAx9
import Derived.Test.YtalcblkdcmigeaaPartsWalk
import Derived.Test.YtalcblkdcmigeaaSpecLib
import Derived.Test.YtalcblkdcmigeaaTellsWalk
namespace Go.Proofs.Ytalcblkdcmigeaa.Pure
open Go.RowKit Go.Proofs.Ytalcblkdcmigeaa.PA Go.Proofs.YtalcblkdcmigeaaW.PrintWords Go.Proofs.YtalcblkdcmigeaaW.PrintLast

theorem put_same (c t x m k e : Int) : fuseeref05_Put.f c t x m k e = spec_Put.f c t x m k e := by
  unfold fuseeref05_Put.f spec_Put.f; rw [rmay_f, may_f]
theorem get_same (l : List Int) : fuseeref05_Get.f l = spec_Get.f l := by
  unfold fuseeref05_Get.f spec_Get.f; rw [rmay_f, may_f]
theorem stretch_same (c t x m k e a b : Int) : fuseeref05_Stretch.f c t x m k e a b = spec_Stretch.f c t x m k e a b := by
  unfold fuseeref05_Stretch.f
  rw [rmay_f, rmay_f, stretch_f]
  by_cases h : mayP c t x m k e <;> by_cases h2 : mayP c a b m k e <;> simp [h, h2]
theorem may_same (c t x m k e : Int) : fuseeref05_May.f c t x m k e = spec_May.f c t x m k e := by rw [rmay_f, may_f]
theorem get_some (l : List Int) : ∃ q, spec_Get.f l = some q := by
  unfold spec_Get.f
  by_cases h : (l.length : Int) = 6
  · rw [if_pos h, if_pos (by omega), if_pos (by omega), if_pos (by omega), if_pos (by omega), if_pos (by omega), if_pos (by omega), may_f]
    simp only [Option.bind_some]
    split <;> exact ⟨_, rfl⟩
  · rw [if_neg h]; exact ⟨_, rfl⟩
theorem put_short (c t x m k e : Int) : ∃ p q, spec_Put.f c t x m k e = some (p, q) ∧ p.length ≤ 6 := by
  rw [put_f]
  split
  · exact ⟨_, _, rfl, by simp⟩
  · exact ⟨_, _, rfl, by simp⟩
theorem bytes_same (c t x m k e : Int) : ∀ n p q, spec_Put.f c t x m k e = some (p, q) → ∀ b, fuseeref05_Bytes.f n p p = some b → b = true := by
  intro n p q hp b hb
  obtain ⟨p', q', e', hl⟩ := put_short c t x m k e
  rw [hp] at e'
  obtain ⟨rfl, rfl⟩ := Prod.mk.inj (Option.some.inj e')
  have h1 := bytes_f p p (n + 10) (by omega) (by omega)
  have h2 := at_rounds (g := fun n => fuseeref05_Bytes.f n p p) (fun j => fuseeref05_Bytes.mono _ _ j) (show n ≤ n + 10 by omega) hb
  replace h2 : fuseeref05_Bytes.f (n + 10) p p = some b := h2
  rw [h1] at h2
  have h3 := Option.some.inj h2
  rw [← h3]; simp
theorem SpecTells : ∀ (c t x m k e : Int) (l : List Int) (a b : Int), (Lit.int .i64 c).wf = true → (Lit.int .i64 t).wf = true → (Lit.int .i64 x).wf = true → (Lit.int .i64 m).wf = true → (Lit.int .i64 k).wf = true → (Lit.int .i64 e).wf = true → (∀ x ∈ l, (Lit.int .u8 x).wf = true) → l.length * 1 ≤ 140737488351232 → (Lit.int .i64 a).wf = true → (Lit.int .i64 b).wf = true → ∃ r, fuseelaw05_SpecTells.f r c t x m k e l a b = some true := by
  intro c t x m k e l a b _ _ _ _ _ _ _ _ _ _
  refine ⟨20, ?_⟩
  unfold fuseelaw05_SpecTells.f
  rw [awake_f 20 (by omega)]
  simp only [Option.bind_some, if_true]
  by_cases h : (l.length : Int) > 100
  · rw [show decide ((l.length : Int) > 100) = true by simpa using h]; simp [fuseelaw05_SpecTells.j0]
  · rw [show decide ((l.length : Int) > 100) = false by simpa using h]
    obtain ⟨q, hq⟩ := get_some l
    obtain ⟨p, q2, hp, hl⟩ := put_short c t x m k e
    rw [fuseelaw05_SpecTells.j0, if_neg (by simp), put_same, get_same, stretch_same, may_same, hq, hp, stretch_f, may_f]
    simp only [Option.bind_some, beq_self_eq_true, if_true, Bool.and_self]
    rw [bytes_f p p 19 (by omega) (by omega)]
    simp

end Go.Proofs.Ytalcblkdcmigeaa.Pure
