/- What May, at, Push, Drop and Pop tell of a queue, in plain Lean. -/
import Derived.Test.YtpkalbokpblhaaaPAx16
import Derived.Test.YtpkalbokpblhaaaPAx17
import Derived.Test.YtpkalbokpblhaaaPAx20
import Derived.Test.YtpkalbokpblhaaaSortTotal
import Derived.Test.YtpkalbokpblhaaaMayTotal
namespace Go.Proofs.Ytpkalbokpblhaaa.PA
open Go.RowKit Go.Proofs.YtpkalbokpblhaaaW.PrintWords Go.Proofs.YtpkalbokpblhaaaW.PrintLast Go.Proofs.YtpkalbokpblhaaaW.PrintMore
set_option linter.unusedVariables false
set_option linter.unusedSimpArgs false
/-- No ID twice. -/
def Apart (l : List S24) : Prop := ∀ i j, i < l.length → j < l.length → (at_ l i).f1 = (at_ l j).f1 → i = j
/-- A queue. -/
structure Qu (l : List S24) : Prop where
  so : Sorted l
  le : l.length ≤ 40
  ap : Apart l
theorem at_first {l : List S24} {id : Int} {k : Nat} (hk : l.length < k) (hl : l.length ≤ 1000) : (∃ i, i < l.length ∧ (at_ l i).f1 = id ∧ (∀ c, c < i → (at_ l c).f1 ≠ id) ∧ queue_at.f k l id = some (i : Int)) ∨ ((∀ c, c < l.length → (at_ l c).f1 ≠ id) ∧ queue_at.f k l id = some (-1)) := by
  obtain ⟨r, hr⟩ := at_total (l0 := l) (id := id) k 0 (by omega) (Nat.zero_le _) (by omega)
  have hr2 : queue_at.f k l id = some r := hr
  rcases at_pure k 0 r (Nat.zero_le _) (by omega) hr with ⟨e, h⟩ | ⟨i, e, _, h1, h2, h3⟩
  · subst e
    exact .inr ⟨fun c hc => h c (Nat.zero_le _) hc, hr2⟩
  · subst e
    exact .inl ⟨i, h1, h2, fun c hc => h3 c (Nat.zero_le _) hc, hr2⟩
theorem at_of {l : List S24} {i k : Nat} (h : Apart l) (hi : i < l.length) (hk : l.length < k) (hl : l.length ≤ 1000) : queue_at.f k l (at_ l i).f1 = some (i : Int) := by
  rcases at_first (l := l) (id := (at_ l i).f1) hk hl with ⟨j, h1, h2, _, h4⟩ | ⟨h1, _⟩
  · rw [h j i h1 hi h2] at h4
    exact h4
  · exact absurd rfl (h1 i hi)
theorem may_of_Qu' {l0 : List S24} (hq : Qu l0) : ∀ (k j : Nat), 2 * l0.length - j < k → j ≤ l0.length → queue_May.l0 k l0 l0 (l0.length : Int) (j : Int) = some true
  | 0, _, hk, _ => by omega
  | k + 1, j, hk, hj => by
    have hl := hq.le
    rw [queue_May.l0]
    by_cases h1 : j < l0.length
    · have hrd : ∀ i : Nat, rd_T24 l0 (i : Int) = at_ l0 i := fun i => by
        unfold rd_T24 at_
        rw [Int.toNat_natCast]
      have hw : wrap64 ((j : Int) + 1) = ((j + 1 : Nat) : Int) := by
        rw [show wrap64 ((j : Int) + 1) = (j : Int) + 1 from by unfold wrap64; omega]
        omega
      rw [if_pos (by omega), if_pos (by omega), if_pos (by omega), hw, hrd, at_of hq.ap h1 (by omega) (by omega), Option.bind_some, if_pos rfl, may_of_Qu' hq k (j + 1) (by omega) (by omega)]
      by_cases h0 : (j : Int) > 0
      · have hw2 : wrap64 ((j : Int) - 1) = ((j - 1 : Nat) : Int) := by
          rw [show wrap64 ((j : Int) - 1) = (j : Int) - 1 from by unfold wrap64; omega]
          omega
        have hle : Le (at_ l0 (j - 1)) (at_ l0 j) := by
          rw [at_get (by omega), at_get (by omega)]
          exact (List.pairwise_iff_getElem.1 hq.so) (j - 1) j (by omega) (by omega) (by omega)
        rw [if_pos h0, hw2, if_pos (by omega), if_pos (by omega), hrd, ahead_ah, Option.bind_some, if_neg (by rw [show ah (at_ l0 j) (at_ l0 (j - 1)) = false from hle]; simp)]
      · rw [if_neg h0]
    · rw [if_neg (by omega), decide_eq_true (by omega)]
theorem may_of_Qu {l0 : List S24} {k : Nat} (hq : Qu l0) (hk : 2 * l0.length < k) : queue_May.f k l0 = some true := may_of_Qu' hq k 0 (by omega) (Nat.zero_le _)
theorem Qu_of_may {l0 : List S24} {k : Nat} (hl : (l0.length : Int) ≤ 9223372036854775807) (h : queue_May.f k l0 = some true) : Qu l0 := by
  obtain ⟨h1, h2, h3⟩ := may_pure hl h
  refine ⟨h1, h2, ?_⟩
  have key : ∀ i j, i < l0.length → j < l0.length → (at_ l0 i).f1 = (at_ l0 j).f1 → j ≤ i := fun i j hi hj e => by
    obtain ⟨k2, hk2⟩ := h3 j hj
    rcases at_pure k2 0 (j : Int) (Nat.zero_le _) hl hk2 with ⟨e2, _⟩ | ⟨m, e2, _, _, _, h7⟩
    · omega
    · have : m = j := by omega
      subst this
      by_cases hlt : i < m
      · exact absurd e (h7 i (Nat.zero_le _) hlt)
      · omega
  intro i j hi hj e
  have a := key i j hi hj e
  have b := key j i hj hi e.symm
  omega
/-- Who is in it, is there once. -/
theorem apart_iff {l : List S24} : Apart l ↔ (l.map (·.f1)).Nodup := by
  constructor
  · intro h
    refine List.pairwise_iff_getElem.2 fun i j hi hj hij e => ?_
    simp at hi hj e
    have := h i j hi hj (by rw [at_get hi, at_get hj]; exact e)
    omega
  · intro h i j hi hj e
    rw [at_get hi, at_get hj] at e
    rcases Nat.lt_trichotomy i j with h1 | h1 | h1
    · have hne := (List.pairwise_iff_getElem.1 h) i j (by simpa using hi) (by simpa using hj) h1
      rw [List.getElem_map, List.getElem_map] at hne
      exact absurd e hne
    · exact h1
    · have hne := (List.pairwise_iff_getElem.1 h) j i (by simpa using hj) (by simpa using hi) h1
      rw [List.getElem_map, List.getElem_map] at hne
      exact absurd e.symm hne
theorem at_none {l : List S24} {id : Int} : (∀ c, c < l.length → (at_ l c).f1 ≠ id) ↔ id ∉ l.map (·.f1) := by
  constructor
  · intro h hm
    obtain ⟨y, hy, e⟩ := List.mem_map.1 hm
    obtain ⟨c, hc, rfl⟩ := mem_at hy
    exact h c hc e
  · intro h c hc e
    refine h (List.mem_map.2 ⟨at_ l c, ?_, e⟩)
    rw [at_get hc]
    exact List.getElem_mem _
/-- Put. -/
theorem push_val {l : List S24} {x : S24} {k : Nat} (hq : Qu l) (h40 : l.length < 40) (hx : x.f1 ∉ l.map (·.f1)) (hk : 200 < k) : ∃ s, queue_Push.f k l x.f0 x.f1 = some (s, true) ∧ s.Perm (x :: l) ∧ Qu s := by
  obtain ⟨k, rfl⟩ : ∃ k', k = k' + 1 := ⟨k - 1, by omega⟩
  obtain ⟨s, _, hs, hso, hp⟩ := sort_total (k := k) (x0 := l ++ [x]) (by simp; omega) (by simp; omega)
  have hp2 : s.Perm (x :: l) := hp.trans (List.perm_append_singleton _ _)
  refine ⟨s, ?_, hp2, hso, ?_, ?_⟩
  · rw [queue_Push.f, may_of_Qu hq (by omega), Option.bind_some, if_pos rfl, if_neg (by omega)]
    rcases at_first (l := l) (id := x.f1) (k := k + 1) (by omega) (by omega) with ⟨i, h1, h2, _⟩ | ⟨_, h2⟩
    · exact absurd h2 ((at_none.2 hx) i h1)
    · rw [h2, Option.bind_some, decide_eq_false (by omega), queue_Push.j0, if_neg (by simp), if_pos (by simp; omega)]
      simp only [Option.bind_some, List.nil_append]
      rw [if_pos (by simp; omega), hs]
      rfl
  · rw [hp2.length_eq, List.length_cons]
    omega
  · rw [apart_iff]
    refine (hp2.map (·.f1)).nodup_iff.2 ?_
    rw [List.map_cons, List.nodup_cons]
    exact ⟨hx, apart_iff.1 hq.ap⟩
theorem item_val {l : List S24} (hl : l.length < 8796093022208) : api_Item.f l = some l := by
  rw [api_Item.f, if_pos (by simpa using hl)]
  rfl
/-- Not put. -/
theorem push_no {l : List S24} {x : S24} {k : Nat} (hq : Qu l) (hx : l.length = 40 ∨ x.f1 ∈ l.map (·.f1)) (hk : 200 < k) : queue_Push.f k l x.f0 x.f1 = some (l, false) := by
  have hle := hq.le
  obtain ⟨k, rfl⟩ : ∃ k', k = k' + 1 := ⟨k - 1, by omega⟩
  have full : queue_Push.j0 (k + 1) l true x.f0 x.f1 = some (l, false) := by
    rw [queue_Push.j0, if_pos rfl, item_val (by omega)]
    rfl
  rw [queue_Push.f, may_of_Qu hq (by omega), Option.bind_some, if_pos rfl]
  by_cases h : (l.length : Int) = 40
  · rw [if_pos h, full]
  · rw [if_neg h]
    rcases at_first (l := l) (id := x.f1) (k := k + 1) (by omega) (by omega) with ⟨i, h1, h2, _, h4⟩ | ⟨h1, _⟩
    · rw [h4, Option.bind_some, decide_eq_true (by omega), full]
    · rcases hx with hx | hx
      · omega
      · exact absurd hx (at_none.1 h1)
/-- Taken out. -/
def out_ (l : List S24) (i : Nat) : List S24 := l.take i ++ l.drop (i + 1)
theorem out_perm {l : List S24} {i : Nat} (hi : i < l.length) : (at_ l i :: out_ l i).Perm l := by
  have e1 : (l.take i ++ l.drop i) = l := List.take_append_drop i l
  rw [List.drop_eq_getElem_cons hi] at e1
  have e2 : (l[i] :: (l.take i ++ l.drop (i + 1))).Perm (l.take i ++ l[i] :: l.drop (i + 1)) := List.perm_middle.symm
  rw [e1] at e2
  rw [at_get hi]
  exact e2
theorem out_sub {l : List S24} {i : Nat} : (out_ l i).Sublist l := by
  have e1 : (l.take i ++ l.drop (i + 1)).Sublist (l.take i ++ l.drop i) := List.Sublist.append_left (List.drop_sublist_drop_left l (by omega)) _
  rwa [List.take_append_drop] at e1
theorem Qu.sub {l l' : List S24} (h : Qu l) (hs : l'.Sublist l) : Qu l' :=
  ⟨h.so.sublist hs, Nat.le_trans hs.length_le h.le, apart_iff.2 ((apart_iff.1 h.ap).sublist (hs.map _))⟩
theorem out_not {l : List S24} {i : Nat} (h : Qu l) (hi : i < l.length) : (at_ l i).f1 ∉ (out_ l i).map (·.f1) := by
  have := ((out_perm hi).map (·.f1)).nodup_iff.2 (apart_iff.1 h.ap)
  rw [List.map_cons, List.nodup_cons] at this
  exact this.1
theorem drop_val {l : List S24} {i k : Nat} (hq : Qu l) (hi : i < l.length) (hk : 200 < k) : queue_Drop.f k l (at_ l i).f1 = some (out_ l i, true) := by
  have hle := hq.le
  have hw : wrap64 ((i : Int) + 1) = ((i + 1 : Nat) : Int) := by
    rw [show wrap64 ((i : Int) + 1) = (i : Int) + 1 from by unfold wrap64; omega]
    omega
  rw [queue_Drop.f, at_of hq.ap hi (by omega) (by omega), Option.bind_some, may_of_Qu hq (by omega), Option.bind_some, if_pos rfl, if_neg (by omega), if_pos (by omega), if_pos (by omega)]
  simp only [Option.bind_some, hw, Int.toNat_natCast, List.nil_append]
  rw [if_pos (by simp; omega), if_pos (by omega), if_pos (by omega), if_pos (by simp; omega)]
  rfl
theorem drop_no {l : List S24} {id : Int} {k : Nat} (hq : Qu l) (hi : id ∉ l.map (·.f1)) (hk : 200 < k) : queue_Drop.f k l id = some (l, false) := by
  have hle := hq.le
  rcases at_first (l := l) (id := id) (k := k) (by omega) (by omega) with ⟨i, h1, h2, _⟩ | ⟨_, h2⟩
  · exact absurd h2 ((at_none.2 hi) i h1)
  · rw [queue_Drop.f, h2, Option.bind_some, may_of_Qu hq (by omega), Option.bind_some, if_pos rfl, if_pos (by omega), item_val (by omega)]
    rfl
theorem pop_cons {x : S24} {l : List S24} {k : Nat} (hq : Qu (x :: l)) (hk : 200 < k) : queue_Pop.f k (x :: l) = some (l, x.f0, x.f1, true) := by
  have hle := hq.le
  rw [List.length_cons] at hle
  rw [queue_Pop.f, queue_Min.f, may_of_Qu hq (by rw [List.length_cons]; omega), Option.bind_some, if_pos rfl, if_neg (by rw [List.length_cons]; omega), if_pos (by rw [List.length_cons]; omega), Option.bind_some]
  simp only [if_true]
  rw [if_pos (by rw [List.length_cons]; omega), List.drop_one, List.tail_cons, item_val (by omega)]
  rfl
theorem Qu.nil : Qu [] := ⟨List.Pairwise.nil, by simp, fun i j hi => by simp at hi⟩
theorem pop_nil {k : Nat} (hk : 200 < k) : queue_Pop.f k [] = some ([], 0, 0, false) := by
  rw [queue_Pop.f, queue_Min.f, may_of_Qu Qu.nil (by simp; omega), Option.bind_some, if_pos rfl, if_pos (by simp), Option.bind_some]
  simp only [Bool.false_eq_true, if_false]
  rw [item_val (by simp)]
  rfl
end Go.Proofs.Ytpkalbokpblhaaa.PA
