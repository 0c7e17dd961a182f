-- Written for this claim by a program (the kit's print over a changed input, then joined with texts by hand).
import Derived.Test.YtpkalbokpblhaaaPAx0
import Derived.Test.YtpkalbokpblhaaaPAx8
import Derived.Test.YtpkalbokpblhaaaPAx9
import Derived.Test.YtpkalbokpblhaaaPAx15
import Derived.Test.YtpkalbokpblhaaaPileF
import Derived.Test.YtpkalbokpblhaaaSortPure
import Derived.Test.YtpkalbokpblhaaaMayPure
import Derived.Test.YtpkalbokpblhaaaPAx16
import Derived.Laws.CopyOwn
import Derived.Deep.RegionWith
import Derived.BigRegion
namespace Go.Proofs.Ytpkalbokpblhaaa.PA
open Go.RowKit Go.Proofs.YtpkalbokpblhaaaW.PrintWords Go.Proofs.YtpkalbokpblhaaaW.PrintLast Go.Proofs.YtpkalbokpblhaaaW.PrintMore
attribute [local go_sem] max2_int min2_int max_two min_two max_three min_three max_four min_four   -- for this text's walks alone
set_option linter.unusedVariables false
set_option linter.unusedSimpArgs false

/-! ### queue_Drop: function 17 -/
def queue_Drop.f (k : Nat) (l0 : List (S24)) (a1 : Int) : Option ((List (S24)) × Bool) := (queue_at.f k l0 a1).bind fun t326 => ((queue_May.f k l0).bind fun t327 => (if t327 = true then (if t326 < 0 then ((api_Item.f l0).bind fun t328 => (some (t328, false))) else (if 0 ≤ t326 then (if t326 ≤ (l0.length : Int) then ((some (l0.take (t326 : Int).toNat : List (S24))).bind fun y331 => (if ([] : List (S24)).length + y331.length < 8796093022208 then ((some (([] : List (S24)) ++ y331 : List (S24))).bind fun y335 => (if 0 ≤ (wrap64 (t326 + 1)) then (if (wrap64 (t326 + 1)) ≤ (l0.length : Int) then ((some (l0.drop ((wrap64 (t326 + 1)) : Int).toNat : List (S24))).bind fun y338 => (if y335.length + y338.length < 8796093022208 then (some ((y335 ++ y338), true)) else (none))) else (none)) else (none))) else (none))) else (none)) else (none))) else ((api_Item.f l0).bind fun t345 => (some (t345, false)))))
theorem queue_Drop.mono : ∀ a0 a1 k, LeO (queue_Drop.f k a0 a1) (queue_Drop.f (k + 1) a0 a1) := by
  intro a0 a1 k
  unfold queue_Drop.f
  repeat' first
      | (with_reducible exact queue_May.mono _ _)
      | (with_reducible exact queue_at.mono _ _ _)
      | (with_reducible exact LeO.refl _)
      | (with_reducible exact LeO.none _)
      | (with_reducible refine LeO.ite ?_ ?_)
      | (with_reducible refine LeO.bind ?_ (fun _ => ?_))
      | exact queue_May.mono _ _
      | exact queue_at.mono _ _ _
      | exact LeO.none _
      | refine LeO.ite ?_ ?_
      | refine LeO.bind ?_ (fun _ => ?_)
def queue_Drop.T4 : Bool × List (List Nat × List Nat) := (true, [([], []), ([], []), ([0, 1], [0, 1]), ([2], [2]), ([], []), ([], []), ([5], [5]), ([4, 6], [4, 6]), ([3, 7, 3], [3, 7]), ([8, 8, 0, 1, 2, 3, 4, 5, 6, 7, 8], [8]), ([9, 0, 1, 2, 3, 4, 5, 6, 7, 8, 9], [])])
def queue_Drop.B4 : List Nat := [0, 0, 3, 7, 0, 0, 32, 112, 255, 511, 1023]
set_option maxHeartbeats 4000000 in
set_option maxRecDepth 100000 in
theorem hand_Drop_no (A0 : Option Addr) (c0 : Nat) (l0 : List S24) (id t : Int) (b : Bool) (w : World) (hr0 : Kd.C k24 w A0 l0.length l0) (hc0 : l0.length ≤ c0) (hl : l0.length < 8796093022208) (hbt : b = false ∨ t < 0)
    (hMay : ∀ W, Kd.C k24 W A0 l0.length l0 → Calls Try.prog 14 #[.slice A0 l0.length c0] W fun e w' => e = .returned (.bool b) ∧ Below W.heap.size W w')
    (hAt : ∀ W, Kd.C k24 W A0 l0.length l0 → Calls Try.prog 27 #[.slice A0 l0.length c0, .int .i64 id] W fun e w' => e = .returned (.int .i64 t) ∧ Below W.heap.size W w') :
    Calls Try.prog 17 #[.slice A0 l0.length c0, .int .i64 id] w fun e w' => ∃ v0_ : Value, e = .returned (.tuple #[v0_, .bool false]) ∧ Kd.R k24 24 w' w.heap.size (fun _ => True) v0_ l0 ∧ Below w.heap.size w w' := by
  have hr1 := Aside0.mk hr0
  replace hMay := Aside0.mk hMay
  replace hAt := Aside0.mk hAt
  replace hbt := Aside0.mk hbt
  clear hr0
  go_enter Try.func17, Try.ntmps17
  go_wp2_with fail
  refine (hAt.out _ hr1.out).mono ?_
  rintro e w1 ⟨rfl, hb1⟩
  have hr2 := Aside0.mk (Kd.C_below hr1.out hb1)
  have hb2 := Aside0.mk hb1
  clear hb1 hr1
  go_wp2_with fail
  refine (hMay.out _ hr2.out).mono ?_
  rintro e w2 ⟨rfl, hb1⟩
  have hr3 := Aside0.mk (Kd.C_below hr2.out hb1)
  have hb3 := Aside0.mk (below_step hb2.out hb1)
  clear hb1 hr2 hb2
  have hc : b = false ∨ (b = true ∧ decide (t < 0) = true) := by
    rcases hbt.out with h | h
    · exact .inl h
    · cases b
      · exact .inl rfl
      · exact .inr ⟨rfl, decide_eq_true h⟩
  rcases hc with rfl | ⟨rfl, d1⟩
  all_goals
    go_wp2_with fail
    refine (hand_Clone A0 c0 l0 _ hr3.out hc0 hl).mono ?_
    rintro e w3 ⟨v0, rfl, hR, hB⟩
    have hR4 := Aside0.mk (Kd.R_lower hR hb3.out.size)
    have hb4 := Aside0.mk (below_step hb3.out hB)
    clear hR hB
    go_wp2_with fail
    go_ret2
    exact ⟨_, rfl, hR4.out, hb4.out⟩
set_option maxHeartbeats 4000000 in
set_option maxRecDepth 100000 in
theorem hand_Drop_yes (A0 : Option Addr) (c0 : Nat) (l0 : List S24) (id : Int) (i : Nat) (hi : i < l0.length) (w : World) (hr0 : Kd.C k24 w A0 l0.length l0) (hc0 : l0.length ≤ c0) (hl : l0.length < 8796093022208) (hso : Sorted l0)
    (hMay : ∀ W, Kd.C k24 W A0 l0.length l0 → Calls Try.prog 14 #[.slice A0 l0.length c0] W fun e w' => e = .returned (.bool true) ∧ Below W.heap.size W w')
    (hAt : ∀ W, Kd.C k24 W A0 l0.length l0 → Calls Try.prog 27 #[.slice A0 l0.length c0, .int .i64 id] W fun e w' => e = .returned (.int .i64 (i : Int)) ∧ Below W.heap.size W w') :
    Calls Try.prog 17 #[.slice A0 l0.length c0, .int .i64 id] w fun e w' => ∃ (v0_ : Value) (out : List S24), e = .returned (.tuple #[v0_, .bool true]) ∧ Kd.R k24 24 w' w.heap.size (fun _ => True) v0_ out ∧ Below w.heap.size w w' ∧ Sorted out ∧ (l0[i] :: out).Perm l0 := by
  obtain ⟨hm, rest, hz, hpm, hhp⟩ := drop_pure hi hso
  have hst := hpf_still (n := l0.length) (l0.length / 2) l0 (hp_sorted hso)
  have d1 : decide ((i : Int) < 0) = false := decide_eq_false (by omega)
  have hrl : Aside0 (rest.length ≤ 8796093022207) := ⟨by
    have := hpm.length_eq
    rw [List.length_cons] at this
    omega⟩
  replace hm := Aside0.mk hm
  replace hz := Aside0.mk hz
  replace hpm := Aside0.mk hpm
  replace hhp := Aside0.mk hhp
  replace hst := Aside0.mk hst
  have hr1 := Aside0.mk hr0
  replace hMay := Aside0.mk hMay
  replace hAt := Aside0.mk hAt
  clear hr0
  go_enter Try.func17, Try.ntmps17
  go_wp2_with fail
  refine (hAt.out _ hr1.out).mono ?_
  rintro e w1 ⟨rfl, hb1⟩
  have hr2 := Aside0.mk (Kd.C_below hr1.out hb1)
  have hb2 := Aside0.mk hb1
  clear hb1 hr1
  go_wp2_with fail
  refine (hMay.out _ hr2.out).mono ?_
  rintro e w2 ⟨rfl, hb1⟩
  have hr3 := Aside0.mk (Kd.C_below hr2.out hb1)
  have hb3 := Aside0.mk (below_step hb2.out hb1)
  clear hb1 hr2 hb2
  go_wp2_with fail
  refine (hand_of A0 c0 l0 _ hr3.out hc0 (by omega)).mono ?_
  rintro e w3 ⟨G, rfl, hof⟩
  obtain ⟨hg, hb, v, hpv⟩ := hof
  rw [hst.out] at hpv
  obtain ⟨B, cap, -, hB, hpile⟩ := hpv.pile (by omega) (by omega)
  have hb4 := Aside0.mk (below_step hb3.out hb)
  have hg2 : Aside0 (w.heap.size ≤ w2.heap.size) := ⟨hb3.out.size⟩
  have hsz : Aside0 (w2.heap.size ≤ w3.heap.size) := ⟨hb.size⟩
  replace hg := Aside0.mk hg
  replace hB := Aside0.mk hB
  replace hpile := Aside0.mk hpile
  clear hb3 hb hr3 hpv
  go_wp2_with fail
  refine (hand_Remove hpile.out i hi hm.out hz.out).mono ?_
  rintro e w4 ⟨rfl, hp4, hk4⟩
  have hs4 := Aside0.mk (And.intro hp4 (KP.below hb4.out hk4 (Nat.le_trans hg2.out hg.out) (Nat.le_trans hg2.out hB.out) (Nat.le_trans hg2.out hsz.out)))
  have hsz4 : Aside0 (w2.heap.size ≤ w4.heap.size) := ⟨Nat.le_trans hsz.out hk4.size⟩
  clear hp4 hk4 hb4 hpile
  go_wp2_with fail
  refine (hand_all hs4.out.1 hhp.out hg.out hB.out hsz4.out hrl.out).mono ?_
  rintro e w5 ⟨v0, out, rfl, hR, hBl, hs, hp⟩
  have hR5 := Aside0.mk (Kd.R_lower hR hg2.out)
  have hb5 := Aside0.mk (hs4.out.2.trans (hBl.mono hg2.out))
  replace hs := Aside0.mk hs
  replace hp := Aside0.mk hp
  clear hR hBl hs4
  go_wp2_with fail
  go_ret2
  exact ⟨_, out, rfl, hR5.out, hb5.out, hs.out, (List.Perm.cons _ hp.out).trans hpm.out⟩
set_option maxHeartbeats 8000000 in
set_option maxRecDepth 100000 in
theorem queue_Drop.calls (k : Nat) (A0 : Option Addr) (c0 : Nat) (l0 : List (S24)) (a1 : Int) (r1 : List (S24)) (r2 : Bool) (w : World) (hr0 : Kd.C k24 w A0 l0.length l0) (hc0 : l0.length ≤ c0) (h : queue_Drop.f k l0 a1 = some (r1, r2)) :
    Calls Try.prog 17 #[.slice A0 l0.length c0, .int .i64 a1] w fun e w' => ∃ v0_ : Value, e = .returned (.tuple #[v0_, .bool r2]) ∧ Kd.R k24 24 w' w.heap.size (fun _ => True) v0_ r1 ∧ Below w.heap.size w w' := by
  have hlen : (l0.length : Int) ≤ 9223372036854775807 := by
    have := hr0.2.1
    omega
  unfold queue_Drop.f at h
  obtain ⟨t, ht, h⟩ := Option.bind_eq_some_iff.mp h
  obtain ⟨b, hm, h⟩ := Option.bind_eq_some_iff.mp h
  have hMay : ∀ W, Kd.C k24 W A0 l0.length l0 → Calls Try.prog 14 #[.slice A0 l0.length c0] W fun e w' => e = .returned (.bool b) ∧ Below W.heap.size W w' := fun W hC => queue_May.calls k A0 c0 l0 b W hC hc0 hm
  have hAt : ∀ W, Kd.C k24 W A0 l0.length l0 → Calls Try.prog 27 #[.slice A0 l0.length c0, .int .i64 a1] W fun e w' => e = .returned (.int .i64 t) ∧ Below W.heap.size W w' := fun W hC => queue_at.calls k A0 c0 l0 a1 t W hC hc0 ht
  have no : (api_Item.f l0).bind (fun t => some (t, false)) = some (r1, r2) → (b = false ∨ t < 0) → Calls Try.prog 17 #[.slice A0 l0.length c0, .int .i64 a1] w fun e w' => ∃ v0_ : Value, e = .returned (.tuple #[v0_, .bool r2]) ∧ Kd.R k24 24 w' w.heap.size (fun _ => True) v0_ r1 ∧ Below w.heap.size w w' := fun h hbt => by
    obtain ⟨t2, ht2, h9⟩ := Option.bind_eq_some_iff.mp h
    obtain ⟨h1, e1⟩ := item_pure ht2
    injection h9 with h9
    injection h9 with h2 h3
    rw [← h2, ← h3, e1]
    exact hand_Drop_no A0 c0 l0 a1 t b w hr0 hc0 h1 hbt hMay hAt
  cases b with
  | false =>
    rw [if_neg (by simp)] at h
    exact no h (.inl rfl)
  | true =>
    rw [if_pos rfl] at h
    by_cases h0 : t < 0
    · rw [if_pos h0] at h
      exact no h (.inr h0)
    · rw [if_neg h0, if_pos (by omega)] at h
      obtain ⟨hso, h40, _⟩ := may_pure hlen hm
      rcases at_pure k 0 t (Nat.zero_le _) hlen ht with ⟨e, _⟩ | ⟨i, e, _, hi, _, _⟩
      · omega
      · subst e
        have hw : wrap64 ((i : Int) + 1) = ((i + 1 : Nat) : Int) := by
          rw [show wrap64 ((i : Int) + 1) = (i : Int) + 1 from by unfold wrap64; omega]
          omega
        rw [if_pos (by omega)] at h
        simp only [Option.bind_some, hw, Int.toNat_natCast, List.nil_append] at h
        rw [if_pos (by simp; omega), if_pos (by omega), if_pos (by omega), if_pos (by simp; omega)] at h
        injection h with h
        injection h with h2 h3
        rw [← h3]
        refine (hand_Drop_yes A0 c0 l0 a1 i hi w hr0 hc0 (by omega) hso hMay hAt).mono ?_
        rintro e w' ⟨v0, out, rfl, hR, hB, hs, hp⟩
        have hsub : (l0.take i ++ l0.drop (i + 1)).Sublist l0 := by
          have e1 : (l0.take i ++ l0.drop (i + 1)).Sublist (l0.take i ++ l0.drop i) := List.Sublist.append_left (List.drop_sublist_drop_left l0 (by omega)) _
          rwa [List.take_append_drop] at e1
        have hperm : (l0[i] :: (l0.take i ++ l0.drop (i + 1))).Perm l0 := by
          have e1 : (l0.take i ++ l0.drop i) = l0 := List.take_append_drop i l0
          rw [List.drop_eq_getElem_cons hi] at e1
          have e2 : (l0[i] :: (l0.take i ++ l0.drop (i + 1))).Perm (l0.take i ++ l0[i] :: l0.drop (i + 1)) := List.perm_middle.symm
          rwa [e1] at e2
        have he : out = l0.take i ++ l0.drop (i + 1) := sorted_unique hs (hso.sublist hsub) ((hp.trans hperm.symm).cons_inv)
        subst he
        rw [← h2]
        exact ⟨v0, rfl, hR, hB⟩

end Go.Proofs.Ytpkalbokpblhaaa.PA
