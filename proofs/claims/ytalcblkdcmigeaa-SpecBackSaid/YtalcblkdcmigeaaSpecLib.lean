/- Plain laws on descriptions: what the printed functions answer. -/
import Derived.Test.YtalcblkdcmigeaaPAx0
import Derived.Test.YtalcblkdcmigeaaPAx14
import Derived.Test.YtalcblkdcmigeaaPAx15
import Derived.Test.YtalcblkdcmigeaaPAx2
import Derived.Test.YtalcblkdcmigeaaPAx3
import Derived.Test.YtalcblkdcmigeaaPAx4
import Derived.Test.YtalcblkdcmigeaaPAx5
import Derived.Test.YtalcblkdcmigeaaPAx6
import Derived.Test.YtalcblkdcmigeaaPAx7
import Derived.Test.YtalcblkdcmigeaaPAx9
import Derived.Test.YtalcblkdcmigeaaPartsWalk
namespace Go.Proofs.Ytalcblkdcmigeaa.PA
open Go.RowKit Go.Proofs.YtalcblkdcmigeaaW.PrintWords Go.Proofs.YtalcblkdcmigeaaW.PrintLast Go.Proofs.YtalcblkdcmigeaaW.PrintMore
set_option linter.unusedVariables false
set_option linter.unusedSimpArgs false

theorem hw_in (x : Int) (a : -9223372036854775808 ≤ x) (b : x ≤ 9223372036854775807) : wrap64 x = x := IntWalk.wrap64_in _ (by omega)
theorem wf_bounds {a : Int} (h : (Lit.int .i64 a).wf = true) : -9223372036854775808 ≤ a ∧ a ≤ 9223372036854775807 := by
  have hmin : IntKind.i64.min = -9223372036854775808 := rfl
  have hmax : IntKind.i64.max = 9223372036854775807 := rfl
  simp only [Lit.wf, Bool.and_eq_true, decide_eq_true_eq] at h
  omega
theorem wf_byte {a : Int} (h : (Lit.int .u8 a).wf = true) : 0 ≤ a ∧ a ≤ 255 := by
  have hmin : IntKind.u8.min = 0 := rfl
  have hmax : IntKind.u8.max = 255 := rfl
  simp only [Lit.wf, Bool.and_eq_true, decide_eq_true_eq] at h
  omega
theorem may_some (c t x m k e : Int) : ∃ b, spec_May.f c t x m k e = some b := by
  have h : ∃ b, pat_May.f m k = some b := by unfold pat_May.f; repeat' split
                                             all_goals exact ⟨_, rfl⟩
  obtain ⟨b, h⟩ := h
  unfold spec_May.f
  rw [h]
  simp only [Option.bind_some]
  repeat' split
  all_goals exact ⟨_, rfl⟩
theorem may_f (c t x m k e : Int) : spec_May.f c t x m k e = some (decide (mayP c t x m k e)) := by
  obtain ⟨b, h⟩ := may_some c t x m k e
  have h2 := may_mayP _ _ _ _ _ _ _ h
  rw [h]
  congr 1
  cases b with
  | true => exact (decide_eq_true (h2.1 rfl)).symm
  | false => exact (decide_eq_false (fun p => by have := h2.2 p; simp at this)).symm
theorem rmay_f (c t x m k e : Int) : fuseeref05_May.f c t x m k e = some (decide (mayP c t x m k e)) := by
  rw [← may_f]
  unfold fuseeref05_May.f spec_May.f
  have e1 : fuseeref02_May.f m k = pat_May.f m k := by
    unfold fuseeref02_May.f pat_May.f
    rfl
  rw [e1]
theorem put_f (c t x m k e : Int) : spec_Put.f c t x m k e = some (if mayP c t x m k e then ([c % 256, t % 256, x % 256, m % 256, k % 256, e % 256], true) else ([], false)) := by
  unfold spec_Put.f
  rw [may_f]
  by_cases h : mayP c t x m k e <;> simp [h]
theorem stretch_f (c t x m k e t' x' : Int) : spec_Stretch.f c t x m k e t' x' = some (if mayP c t x m k e ∧ mayP c t' x' m k e then (c, t', x', m, k, e, true) else (0, 0, 0, 0, 0, 0, false)) := by
  unfold spec_Stretch.f
  rw [may_f, may_f]
  by_cases h : mayP c t x m k e <;> by_cases h2 : mayP c t' x' m k e <;> simp [h, h2]
theorem bytes_loop (a b : List Int) (hl : a.length = b.length) (hb : a.length ≤ 1000000) : ∀ (d fuel j : Nat), j ≤ a.length → a.length - j = d → d + 1 ≤ fuel → fuseeref05_Bytes.l0 fuel a b (j : Int) = some (decide (a.drop j = b.drop j)) := by
  intro d
  induction d with
  | zero =>
    intro fuel j hj hd hf
    obtain ⟨fuel, rfl⟩ : ∃ x, fuel = x + 1 := ⟨fuel - 1, by omega⟩
    rw [fuseeref05_Bytes.l0, if_neg (by omega), List.drop_of_length_le (by omega), List.drop_of_length_le (by omega)]
    simp
  | succ d ih =>
    intro fuel j hj hd hf
    obtain ⟨fuel, rfl⟩ : ∃ x, fuel = x + 1 := ⟨fuel - 1, by omega⟩
    have ja : j < a.length := by omega
    have jb : j < b.length := by omega
    have ea : rd a (j : Int) = a[j] := by unfold rd; rw [Int.toNat_natCast]; simp [ja]
    have eb : rd b (j : Int) = b[j] := by unfold rd; rw [Int.toNat_natCast]; simp [jb]
    rw [fuseeref05_Bytes.l0, if_pos (by omega), if_pos (by omega), if_pos (by omega), ea, eb, hw_in _ (by omega) (by omega), show ((j : Int) + 1) = ((j + 1 : Nat) : Int) from by omega, ih fuel (j + 1) (by omega) (by omega) (by omega)]
    have da := List.drop_eq_getElem_cons ja
    have db := List.drop_eq_getElem_cons jb
    by_cases e : a[j] = b[j]
    · rw [if_pos e]
      congr 1
      rw [decide_eq_decide, da, db, e]
      exact ⟨fun h => by rw [h], fun h => (List.cons.inj h).2⟩
    · rw [if_neg e]
      congr 1
      symm
      rw [decide_eq_false_iff_not, da, db]
      exact fun h => e (List.cons.inj h).1
theorem bytes_f (a b : List Int) (fuel : Nat) (hb : a.length ≤ 1000000) (hf : a.length + 1 ≤ fuel) : fuseeref05_Bytes.f fuel a b = some (decide (a = b)) := by
  unfold fuseeref05_Bytes.f
  by_cases e : (a.length : Int) = b.length
  · rw [if_pos e]
    have := bytes_loop a b (by omega) hb a.length fuel 0 (by omega) (by omega) hf
    simpa using this
  · rw [if_neg e]
    have : ¬ a = b := fun q => e (by rw [q])
    simp [this]
theorem awake_f (fuel : Nat) (hf : 10 ≤ fuel) : fuseelaw05_awake.f fuel = some true := by
  unfold fuseelaw05_awake.f fuseelaw05_One.f
  simp only [Option.bind_some]
  rw [put_f, may_f, may_f, if_pos (by decide)]
  simp only [Option.bind_some]
  rw [bytes_f _ _ fuel (by simp) (by simp; omega)]
  decide
theorem may_mod {c t x m k e : Int} (h : mayP c t x m k e) : c % 256 = c ∧ t % 256 = t ∧ x % 256 = x ∧ m % 256 = m ∧ k % 256 = k ∧ e % 256 = e := by
  unfold mayP at h
  omega

end Go.Proofs.Ytalcblkdcmigeaa.PA
