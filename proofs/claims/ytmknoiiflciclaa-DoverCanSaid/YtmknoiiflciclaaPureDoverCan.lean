/- The law DoverCan as a statement on rows. -/
import Derived.Test.YtmknoiiflciclaaDoverCanA
import Derived.Test.YtmknoiiflciclaaDoverSpec
import Derived.Test.YtmknoiiflciclaaDoverVal
import Derived.Test.YtmknoiiflciclaaPAx0
import Derived.Test.YtmknoiiflciclaaPAx10
import Derived.Test.YtmknoiiflciclaaPAx11
import Derived.Test.YtmknoiiflciclaaPAx3
import Derived.Test.YtmknoiiflciclaaPAx4
import Derived.Test.YtmknoiiflciclaaPAx6
import Derived.Test.YtmknoiiflciclaaPAx9
import Derived.Test.YtmknoiiflciclaaDoverCanA
namespace Go.Proofs.Ytmknoiiflciclaa.Pure
set_option linter.unusedVariables false
set_option linter.unusedSimpArgs false
open Go.RowKit Go.Proofs.Ytmknoiiflciclaa.PA Go.Proofs.YtmknoiiflciclaaW.PrintWords Go.Proofs.YtmknoiiflciclaaW.PrintLast
theorem can_succ {i : Nat} (h : i < 1000000) : wrap64 ((i : Int) + 1) = ((i + 1 : Nat) : Int) := by
  rw [show wrap64 ((i : Int) + 1) = (i : Int) + 1 from by unfold wrap64; omega]
  omega
theorem can_awake : ∀ m, fuseelaw13_awake.f (60 + m) = some true
  | 0 => by kernel_rfl
  | m + 1 => fuseelaw13_awake.mono (60 + m) _ (can_awake m)
theorem can_find (l : List S29) (id : Int) (hl : l.length ≤ 4) : ∀ (m k i : Nat), m + i = l.length → m < k → (∀ c, c < i → (at_ l c).f0 ≠ id) →
    (∃ a ∈ l, a.f0 = id ∧ fuseelaw13_find.l0 k l id (i : Int) = some (a.f0, a.f1, a.f2, a.f3, a.f4, true)) ∨ (∀ a ∈ l, a.f0 ≠ id) ∧ fuseelaw13_find.l0 k l id (i : Int) = some (0, 0, 0, 0, 0, false)
  | 0, k, i, hm, hk, hn => by
    obtain ⟨k, rfl⟩ : ∃ k', k = k' + 1 := ⟨k - 1, by omega⟩
    refine .inr ⟨fun a ha e => ?_, ?_⟩
    · obtain ⟨c, hc, rfl⟩ := List.mem_iff_getElem.1 ha
      have := hn c (by omega)
      rw [at_get hc] at this
      exact this e
    · rw [fuseelaw13_find.l0, if_neg (by omega)]
  | m + 1, k, i, hm, hk, hn => by
    obtain ⟨k, rfl⟩ : ∃ k', k = k' + 1 := ⟨k - 1, by omega⟩
    rw [fuseelaw13_find.l0, if_pos (by omega), if_pos (by omega), rd_at]
    by_cases h : (at_ l i).f0 = id
    · rw [if_pos h]
      exact .inl ⟨at_ l i, by rw [at_get (by omega)]; exact List.getElem_mem _, h, rfl⟩
    · rw [if_neg h, can_succ (by omega)]
      exact can_find l id hl m k (i + 1) (by omega) (by omega) (fun c hc => by
        rcases Nat.lt_or_ge c i with h1 | h1
        · exact hn c h1
        · rw [show c = i from by omega]
          exact h)
theorem rd_get {G : List Int} {i : Nat} (h : i < G.length) : rd G (i : Int) = G[i] := by
  unfold rd
  rw [Int.toNat_natCast, List.getD_eq_getElem?_getD, List.getElem?_eq_getElem h, Option.getD_some]
theorem can_l1 (l : List S29) (now id : Int) (G : List Int) (hG : G.length ≤ 4) (hn : G.Nodup) (i : Nat) (hi : i < G.length) : ∀ (m k c : Nat), m + c = i →
    fuseelaw13_DoverCan.l1 (k + m + 1) l now id G (i : Int) (c : Int) = fuseelaw13_DoverCan.l0 k l now id G ((i + 1 : Nat) : Int)
  | 0, k, c, hm => by
    rw [fuseelaw13_DoverCan.l1, if_neg (by omega), can_succ (by omega)]
  | m + 1, k, c, hm => by
    have hne : ¬ rd G (c : Int) = rd G (i : Int) := by
      rw [rd_get (by omega), rd_get hi]
      exact (List.pairwise_iff_getElem.1 hn) c i (by omega) hi (by omega)
    rw [fuseelaw13_DoverCan.l1, if_pos (by omega), if_pos (by omega), if_pos (by omega), if_pos (by omega), if_pos (by omega), if_neg hne, can_succ (by omega)]
    exact can_l1 l now id G hG hn i hi m k (c + 1) (by omega)
theorem can_l0 (l : List S29) (now id : Int) (G : List Int) (hl : l.length ≤ 4) (hG : G.length ≤ 4) (hp : ∀ a ∈ l, 0 ≤ a.f0) (hap : Apart l) (ho : PickOk l now id G) : ∀ (m k i : Nat), m + i = G.length → 20 * (m + 1) < k → fuseelaw13_DoverCan.l0 k l now id G (i : Int) = some true
  | 0, k, i, hm, hk => by
    obtain ⟨k, rfl⟩ : ∃ k', k = k' + 1 := ⟨k - 1, by omega⟩
    have hlx : ∀ a : S29, dover_Lax.f a.f0 a.f1 a.f2 a.f3 a.f4 now = some (laxS a now) := fun a => rfl
    rw [fuseelaw13_DoverCan.l0, if_neg (by omega)]
    rcases can_find l id hl l.length k 0 (by omega) (by omega) (fun c hc => absurd hc (Nat.not_lt_zero _)) with ⟨a, ha, e, hf⟩ | ⟨hno, hf⟩
    · rw [show fuseelaw13_find.f k l id = some _ from hf, Option.bind_some]
      simp only []
      rw [if_pos trivial, hlx, Option.bind_some]
      rcases ho.is with ⟨h1, _⟩ | ⟨b, hb, eb, hb2, hb3⟩
      · have := hp a ha
        omega
      · have hlab : 0 ≤ laxS a now := by
          rw [hap.inj ha hb (by rw [e, eb])]
          exact hb2
        rw [if_pos hlab, decide_eq_true (by omega)]
    · rw [show fuseelaw13_find.f k l id = some _ from hf, Option.bind_some]
      simp only [Bool.false_eq_true, if_false]
      rcases ho.is with ⟨h1, h2⟩ | ⟨b, hb, eb, _⟩
      · rw [if_pos h1, h2]
        simp
      · exact absurd eb (hno b hb)
  | m + 1, k, i, hm, hk => by
    obtain ⟨k, rfl⟩ : ∃ k', k = k' + i + 3 := ⟨k - i - 3, by omega⟩
    have hlx : ∀ a : S29, dover_Lax.f a.f0 a.f1 a.f2 a.f3 a.f4 now = some (laxS a now) := fun a => rfl
    have hi : i < G.length := by omega
    obtain ⟨a, ha, e, hax⟩ := ho.gone G[i] (List.getElem_mem _)
    rw [show k + i + 3 = (k + i + 2) + 1 from rfl, fuseelaw13_DoverCan.l0, if_pos (by omega), if_pos (by omega), rd_get hi]
    rcases can_find l G[i] hl l.length (k + i + 2) 0 (by omega) (by omega) (fun c hc => absurd hc (Nat.not_lt_zero _)) with ⟨b, hb, eb, hf⟩ | ⟨hno, hf⟩
    · have hab := hap.inj hb ha (by rw [eb, e])
      subst hab
      rw [show fuseelaw13_find.f (k + i + 2) l G[i] = some _ from hf, Option.bind_some]
      simp only []
      rw [if_pos trivial, if_neg (fun e2 => ho.no (by rw [← e2]; exact List.getElem_mem _)), hlx, Option.bind_some, decide_eq_false (by omega), show k + i + 2 = (k + i + 1) + 1 from rfl, fuseelaw13_DoverCan.j2, if_neg (by simp)]
      have := can_l1 l now id G hG ho.nd i hi i k 0 (by omega)
      rw [show ((0 : Nat) : Int) = 0 from rfl] at this
      rw [this]
      exact can_l0 l now id G hl hG hp hap ho m k (i + 1) (by omega) (by omega)
    · exact absurd e (hno a ha)
theorem pick_len {l : List S29} {now id : Int} {G : List Int} (h : MayP l now) (ho : PickOk l now id G) : G.length ≤ 4 := by
  have := h.le
  rcases ho.is with ⟨_, h2⟩ | ⟨_, _, _, _, h2⟩ <;> omega
theorem DoverCan : ∀ (l0 : List S29) (a1 a2 : Int), l0.length ≤ 9223372036854775807 → (Lit.int .i64 a1).wf = true → (Lit.int .i64 a2).wf = true → ∃ k, fuseelaw13_DoverCan.f k l0 a1 a2 = some true := by
  intro l0 a1 a2 _ _ _
  refine ⟨1001, ?_⟩
  unfold fuseelaw13_DoverCan.f dover_May.f
  rw [show fuseelaw13_awake.f 1001 = some true from can_awake 941, Option.bind_some, if_pos rfl, Option.bind_some]
  cases hm : mayS l0 a2 with
  | false => rw [fuseelaw13_DoverCan.j0, Bool.not_false, if_pos rfl]
  | true =>
    have h := (mayS_iff l0 a2).1 hm
    have ho := pick_ok (cur := a1) h
    rw [fuseelaw13_DoverCan.j0, Bool.not_true, if_neg (by simp)]
    unfold dover_Pick.f
    rw [Option.bind_some]
    exact can_l0 l0 a2 _ _ h.le (pick_len h ho) (fun a ha => (h.ok a ha).1) h.ap ho _ 1000 0 (Nat.add_zero _) (by have := pick_len h ho; omega)
end Go.Proofs.Ytmknoiiflciclaa.Pure
