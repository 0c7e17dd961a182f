/- Own: the plain law, part 4. -/
import Derived.Test.YtmiajnodoigndaaGreatPm3
section
namespace Go.Abs
set_option linter.unusedVariables false
set_option linter.unusedSimpArgs false
structure Left (A : List Ape) (m : List (Int × Ape)) (gone : List Int) : Prop where
 nd : (keysM m).Nodup
 keys : ∀ k ∈ keysM m, (∃ x ∈ A, x.ID = k) ∧ ¬ k ∈ gone
theorem Left.del {A : List Ape} {m : List (Int × Ape)} {gone : List Int} (h : Left A m gone) (k : Int) : Left A (delM m k) (gone ++ [k]) := by
 refine ⟨delM_nodup h.nd, fun k2 hk => ?_⟩
 obtain ⟨h1, h2⟩ := delM_keys h.nd hk
 obtain ⟨h3, h4⟩ := h.keys _ h2
 refine ⟨h3, fun hm => ?_⟩
 rcases List.mem_append.1 hm with hm | hm
 · exact h4 hm
 · exact h1 (List.mem_singleton.1 hm)
theorem Left.put {A : List Ape} {m : List (Int × Ape)} {gone : List Int} (h : Left A m gone) {x : Ape} (hx : x ∈ A) (hg : ¬ x.ID ∈ gone) : Left A (putM m x.ID x) gone := by
 refine ⟨putM_nodup h.nd, fun k2 hk => ?_⟩
 rcases putM_keys hk with rfl | hk
 · exact ⟨⟨x, hx, rfl⟩, hg⟩
 · exact h.keys _ hk
theorem L112_6_ok {A A2 : List Ape} (hA : ApesOK A) {now y7 : Int} : ∀ (k n i : Nat) (m : List (Int × Ape)) (gone : List Int), A.length = i + k → k < n → gone.length ≤ i → Left A m gone → (∀ g ∈ gone, ∃ j, ∃ h : j < A.length, j < i ∧ A[j].ID = g) →
 ∃ m' gone', Left A m' gone' ∧ gone'.length ≤ A.length ∧ ∀ {R : Type} (e0 : List (Int × Ape) → List Int → Option R), L112_6 e0 now (A.length : Int) A y7 A2 n i m gone = e0 m' gone' := by
 intro k
 induction k with
 | zero =>
  intro n i m gone hi hn hg hl hids
  obtain ⟨n, rfl⟩ : ∃ m, n = m + 1 := ⟨n - 1, by omega⟩
  have h1 : ¬ (i : Int) < (A.length : Int) := by omega
  refine ⟨m, gone, hl, by omega, fun e => ?_⟩
  rw [L112_6]
  simp only [S112_6, h1, decide_false, cond_false]
 | succ k ih =>
  intro n i m gone hi hn hg hl hids
  obtain ⟨n, rfl⟩ : ∃ m, n = m + 1 := ⟨n - 1, by omega⟩
  have h1 : (i : Int) < (A.length : Int) := by omega
  have h2 : i < A.length := by omega
  have hlen := hA.len
  have hnew : ¬ A[i].ID ∈ gone := fun hm => by
   obtain ⟨j, hj, hji, e⟩ := hids _ hm
   have := List.pairwise_iff_getElem.1 hA.ids j i hj h2 hji
   omega
  have hp := hl.put (List.getElem_mem h2) hnew
  by_cases hc : F151 A[i] now < 0
  · obtain ⟨m', gone', q1, q2, q3⟩ := ih n (i + 1) (delM (putM m A[i].ID A[i]) A[i].ID) (gone ++ [A[i].ID]) (by omega) (by omega) (by simp; omega) (hp.del _) (fun g hm => by
     rcases List.mem_append.1 hm with hm | hm
     · obtain ⟨j, hj, hji, e⟩ := hids _ hm
       exact ⟨j, hj, by omega, e⟩
     · exact ⟨i, h2, by omega, (List.mem_singleton.1 hm).symm⟩)
    refine ⟨m', gone', q1, q2, fun e => ?_⟩
    rw [L112_6, ← q3 e]
    simp only [S112_6, h1, Int.natCast_nonneg, decide_true, Bool.and_self, cond_true, Int.toNat_natCast, List.getElem?_eq_getElem h2, hc, ble_t (show (gone ++ [A[i].ID]).length ≤ 100000 by simp; omega)]
    rw [wI_succ (by omega)]
  · obtain ⟨m', gone', q1, q2, q3⟩ := ih n (i + 1) (putM m A[i].ID A[i]) gone (by omega) (by omega) (by omega) hp (fun g hm => by
     obtain ⟨j, hj, hji, e⟩ := hids _ hm
     exact ⟨j, hj, by omega, e⟩)
    refine ⟨m', gone', q1, q2, fun e => ?_⟩
    rw [L112_6, ← q3 e]
    simp only [S112_6, h1, Int.natCast_nonneg, decide_true, decide_false, Bool.and_self, cond_true, cond_false, Int.toNat_natCast, List.getElem?_eq_getElem h2, hc]
    rw [wI_succ (by omega)]
theorem L112_14_ok {A S A2 : List Ape} {m : List (Int × Ape)} {y14 y19 : Int} {y20 : List Int} (hS : S.length ≤ 4) : ∀ (k n i : Nat) (Z : List Ape), S.length = i + k → k < n → Z.length ≤ i → (∀ x ∈ Z, x ∈ S ∧ x.ID ∈ keysM m) →
 ∃ Z', Z'.length ≤ 4 ∧ (∀ x ∈ Z', x ∈ S ∧ x.ID ∈ keysM m) ∧ ∀ {R : Type} (e0 : List Ape → Option R), L112_14 e0 y14 (S.length : Int) A2 m y19 y20 S n i Z = e0 Z' := by
 intro k
 induction k with
 | zero =>
  intro n i Z hi hn hz h
  obtain ⟨n, rfl⟩ : ∃ m, n = m + 1 := ⟨n - 1, by omega⟩
  have h1 : ¬ (i : Int) < (S.length : Int) := by omega
  refine ⟨Z, by omega, h, fun e => ?_⟩
  rw [L112_14]
  simp only [S112_14, h1, decide_false, cond_false]
 | succ k ih =>
  intro n i Z hi hn hz h
  obtain ⟨n, rfl⟩ : ∃ m, n = m + 1 := ⟨n - 1, by omega⟩
  have h1 : (i : Int) < (S.length : Int) := by omega
  have h2 : i < S.length := by omega
  have go : ∀ {R : Type} (e : List Ape → Option R), L112_14 e y14 (S.length : Int) A2 m y19 y20 S (n + 1) i Z = bif (getM m S[i].ID).isSome then
   bif (decide (S[i].ID = ((getM m S[i].ID).getD (Ape.mk 0 0 0 0 0)).ID) && (decide (S[i].Due = ((getM m S[i].ID).getD (Ape.mk 0 0 0 0 0)).Due) && (decide (S[i].C = ((getM m S[i].ID).getD (Ape.mk 0 0 0 0 0)).C) && (decide (S[i].V = ((getM m S[i].ID).getD (Ape.mk 0 0 0 0 0)).V) && (decide (S[i].Ran = ((getM m S[i].ID).getD (Ape.mk 0 0 0 0 0)).Ran) && true))))) then
    L112_14 e y14 (S.length : Int) A2 m y19 y20 S n ((i + 1 : Nat) : Int) (Z ++ [S[i]])
   else L112_14 e y14 (S.length : Int) A2 m y19 y20 S n ((i + 1 : Nat) : Int) Z
   else L112_14 e y14 (S.length : Int) A2 m y19 y20 S n ((i + 1 : Nat) : Int) Z := fun e => by
   rw [L112_14]
   simp only [S112_14, h1, Int.natCast_nonneg, decide_true, Bool.and_self, cond_true, Int.toNat_natCast, List.getElem?_eq_getElem h2, ble_t (show (Z ++ [S[i]]).length ≤ 100000 by simp; omega)]
   rw [wI_succ (by omega)]
  obtain ⟨Z1, q1, q2, q3⟩ := ih n (i + 1) Z (by omega) (by omega) (by omega) h
  cases hm : (getM m S[i].ID).isSome with
  | false =>
   refine ⟨Z1, q1, q2, fun e => ?_⟩
   rw [go, hm, cond_false, q3]
  | true =>
   generalize hb : (decide (S[i].ID = ((getM m S[i].ID).getD (Ape.mk 0 0 0 0 0)).ID) && (decide (S[i].Due = ((getM m S[i].ID).getD (Ape.mk 0 0 0 0 0)).Due) && (decide (S[i].C = ((getM m S[i].ID).getD (Ape.mk 0 0 0 0 0)).C) && (decide (S[i].V = ((getM m S[i].ID).getD (Ape.mk 0 0 0 0 0)).V) && (decide (S[i].Ran = ((getM m S[i].ID).getD (Ape.mk 0 0 0 0 0)).Ran) && true))))) = bb at go
   cases bb with
   | false =>
    refine ⟨Z1, q1, q2, fun e => ?_⟩
    rw [go, hm, cond_true, cond_false, q3]
   | true =>
    obtain ⟨Z2, w1, w2, w3⟩ := ih n (i + 1) (Z ++ [S[i]]) (by omega) (by omega) (by simp; omega) (fun x hx => by
     rcases List.mem_append.1 hx with hx | hx
     · exact h x hx
     · rw [List.mem_singleton.1 hx]
       exact ⟨List.getElem_mem h2, getM_keys hm⟩)
    refine ⟨Z2, w1, w2, fun e => ?_⟩
    rw [go, hm, cond_true, cond_true, w3]
theorem L112_24_ok {A Z A2 A3 : List Ape} {y27 : Int} (hZ : Z.length ≤ 4) : ∀ (k n i : Nat) (m : List (Int × Ape)) (best : Int) (gone : List Int), Z.length = i + k → k < n → gone.length ≤ 4 + i → Left A m gone →
 ∃ m' best' gone', Left A m' gone' ∧ gone'.length ≤ 8 ∧ ∀ {R : Type} (e0 : List (Int × Ape) → Int → List Int → Option R), L112_24 e0 y27 (Z.length : Int) A2 A3 Z n i m best gone = e0 m' best' gone' := by
 intro k
 induction k with
 | zero =>
  intro n i m best gone hi hn hg h
  obtain ⟨n, rfl⟩ : ∃ m, n = m + 1 := ⟨n - 1, by omega⟩
  have h1 : ¬ (i : Int) < (Z.length : Int) := by omega
  refine ⟨m, best, gone, h, by omega, fun e => ?_⟩
  rw [L112_24]
  simp only [S112_24, h1, decide_false, cond_false]
 | succ k ih =>
  intro n i m best gone hi hn hg h
  obtain ⟨n, rfl⟩ : ∃ m, n = m + 1 := ⟨n - 1, by omega⟩
  have h1 : (i : Int) < (Z.length : Int) := by omega
  have h2 : i < Z.length := by omega
  have go : ∀ {R : Type} (e : List (Int × Ape) → Int → List Int → Option R), L112_24 e y27 (Z.length : Int) A2 A3 Z (n + 1) i m best gone = bif decide (Z[i].ID = best) then
   L112_24 e y27 (Z.length : Int) A2 A3 Z n ((i + 1 : Nat) : Int) m best gone
   else bif decide (0 < (F151 Z[i] y27)) then
    L112_24 e y27 (Z.length : Int) A2 A3 Z n ((i + 1 : Nat) : Int) m best gone
   else bif (!((getM m best).isSome)) then
    L112_24 e y27 (Z.length : Int) A2 A3 Z n ((i + 1 : Nat) : Int) m Z[i].ID gone
   else bif (F186 Z[i].V (((getM m best).getD (Ape.mk 0 0 0 0 0)).V) 4) then
    L112_24 e y27 (Z.length : Int) A2 A3 Z n ((i + 1 : Nat) : Int) m Z[i].ID gone
   else L112_24 e y27 (Z.length : Int) A2 A3 Z n ((i + 1 : Nat) : Int) (delM m Z[i].ID) best (gone ++ [Z[i].ID]) := fun e => by
   rw [L112_24]
   simp only [S112_24, h1, Int.natCast_nonneg, decide_true, Bool.and_self, cond_true, Int.toNat_natCast, List.getElem?_eq_getElem h2, ble_t (show (gone ++ [Z[i].ID]).length ≤ 100000 by simp; omega)]
   rw [wI_succ (by omega)]
  obtain ⟨m1, b1, g1, q1, q2, q3⟩ := ih n (i + 1) m best gone (by omega) (by omega) (by omega) h
  obtain ⟨m2, b2, g2, w1, w2, w3⟩ := ih n (i + 1) m Z[i].ID gone (by omega) (by omega) (by omega) h
  obtain ⟨m3, b3, g3, v1, v2, v3⟩ := ih n (i + 1) (delM m Z[i].ID) best (gone ++ [Z[i].ID]) (by omega) (by omega) (by simp; omega) (h.del _)
  cases c1 : decide (Z[i].ID = best) with
  | true => exact ⟨m1, b1, g1, q1, q2, fun e => by rw [go, c1, cond_true, q3]⟩
  | false =>
   cases c2 : decide (0 < (F151 Z[i] y27)) with
   | true => exact ⟨m1, b1, g1, q1, q2, fun e => by rw [go, c1, c2, cond_false, cond_true, q3]⟩
   | false =>
    cases c3 : (!((getM m best).isSome)) with
    | true => exact ⟨m2, b2, g2, w1, w2, fun e => by rw [go, c1, c2, c3, cond_false, cond_false, cond_true, w3]⟩
    | false =>
     cases c4 : (F186 Z[i].V (((getM m best).getD (Ape.mk 0 0 0 0 0)).V) 4) with
     | true => exact ⟨m2, b2, g2, w1, w2, fun e => by rw [go, c1, c2, c3, c4, cond_false, cond_false, cond_false, cond_true, w3]⟩
     | false => exact ⟨m3, b3, g3, v1, v2, fun e => by rw [go, c1, c2, c3, c4, cond_false, cond_false, cond_false, cond_false, v3]⟩
theorem L112_60_ok {Z A2 A3 A4 : List Ape} {m : List (Int × Ape)} {y44 : Int} {g : List Int} {y48 y49 y50 y51 y52 : Int} (hZ : Z.length ≤ 4) {y45 : List Ape} {R : Type} {e0 : Int → Option R} {e1 : Option R} {P : Option R → Prop} (h1 : P e1) (h0 : ∀ (i : Nat) (h : i < Z.length), Z[i].ID ∈ keysM m → P (e0 i)) : ∀ (k n i : Nat), Z.length = i + k → k < n →
 P (L112_60_2 e0 e1 (Z.length : Int) A2 m y44 y45 Z g y48 y49 y50 y51 y52 n i) := by
 intro k
 induction k with
 | zero =>
  intro n i hi hn
  obtain ⟨n, rfl⟩ : ∃ m, n = m + 1 := ⟨n - 1, by omega⟩
  have h2 : ¬ (i : Int) < (Z.length : Int) := by omega
  rw [L112_60_2]
  simp only [S112_60_2, h2, decide_false, cond_false]
  exact h1
 | succ k ih =>
  intro n i hi hn
  obtain ⟨n, rfl⟩ : ∃ m, n = m + 1 := ⟨n - 1, by omega⟩
  have h2 : (i : Int) < (Z.length : Int) := by omega
  have h3 : i < Z.length := by omega
  rw [L112_60_2]
  simp only [S112_60_2, h2, Int.natCast_nonneg, decide_true, Bool.and_self, cond_true, Int.toNat_natCast, List.getElem?_eq_getElem h3]
  rw [wI_succ (by omega)]
  have := ih n (i + 1) (by omega) (by omega)
  cases hm : (getM m Z[i].ID).isSome with
  | false => exact this
  | true =>
   rw [cond_true]
   generalize (decide (Z[i].ID = ((getM m Z[i].ID).getD (Ape.mk 0 0 0 0 0)).ID) && (decide (Z[i].Due = ((getM m Z[i].ID).getD (Ape.mk 0 0 0 0 0)).Due) && (decide (Z[i].C = ((getM m Z[i].ID).getD (Ape.mk 0 0 0 0 0)).C) && (decide (Z[i].V = ((getM m Z[i].ID).getD (Ape.mk 0 0 0 0 0)).V) && (decide (Z[i].Ran = ((getM m Z[i].ID).getD (Ape.mk 0 0 0 0 0)).Ran) && true))))) = bb
   cases bb with
   | false => exact this
   | true => exact h0 i h3 (getM_keys hm)
theorem F112_ok {A : List Ape} (hA : ApesOK A) (cur : Int) {now : Int} (h0 : 0 ≤ now ∧ now ≤ 549755813888) : ∃ id gone, F112 fuel A cur now = some (id, gone) ∧ gone.length ≤ 8 ∧ (id = -1 ∨ ((∃ x ∈ A, x.ID = id) ∧ ¬ id ∈ gone)) := by
 unfold F112
 obtain ⟨m, gone, l1, l2, l3⟩ := L112_6_ok hA (A2 := []) (now := now) (y7 := cur) A.length fuel 0 [] [] (by omega) (by have := hA.len; unfold fuel; omega) (Nat.le_refl _) ⟨List.nodup_nil, fun k hk => by cases hk⟩ (fun g hg => by cases hg)
 have l3 : ∀ {R : Type} (e0 : List (Int × Ape) → List Int → Option R), L112_6 e0 now (A.length : Int) A cur [] fuel 0 [] [] = e0 m gone := l3
 obtain ⟨S, eS, hS⟩ := F154_ok hA.len
 have hS4 : S.length ≤ 4 := by rw [hS.1]; exact hA.len
 obtain ⟨Z, z1, z2, z3⟩ := L112_14_ok (A := A) (A2 := A) (m := m) (y14 := now) (y19 := cur) (y20 := gone) hS4 S.length fuel 0 [] (by omega) (by unfold fuel; omega) (Nat.le_refl _) (fun x hx => by cases hx)
 have z3 : ∀ {R : Type} (e0 : List Ape → Option R), L112_14 e0 now (S.length : Int) A m cur gone S fuel 0 [] = e0 Z := z3
 have hlen := hA.len
 rw [F84_ok hA h0]
 simp only [Bool.not_true, cond_false]
 rw [l3, eS]
 simp only
 rw [z3]
 by_cases hz : (Z.length : Int) = 0
 · simp only [hz, decide_true, cond_true]
   exact ⟨-1, gone, rfl, by omega, .inl rfl⟩
 obtain ⟨r, er⟩ := F155_ok z1 now
 have hz2 : 0 < Z.length := by omega
 have hz3 : (0 : Int) < (Z.length : Int) := by omega
 have hin : ∀ (i : Nat) (h : i < Z.length) {m' : List (Int × Ape)} {g' : List Int}, Left A m' g' → Z[i].ID ∈ keysM m' → (∃ x ∈ A, x.ID = Z[i].ID) ∧ ¬ Z[i].ID ∈ g' := fun i h m' g' hl hk => hl.keys _ hk
 simp only [hz, decide_false, cond_false, er]
 cases r with
 | true =>
  simp only [cond_true, hz3, decide_true, List.getElem?_eq_getElem hz2]
  exact ⟨_, gone, rfl, by omega, .inr (l1.keys _ (z2 _ (List.getElem_mem hz2)).2)⟩
 | false =>
  simp only [cond_false]
  obtain ⟨m', best, gone', q1, q2, q3⟩ := L112_24_ok (A := A) (A2 := A) (A3 := S) (y27 := now) z1 Z.length fuel 0 m cur gone (by omega) (by unfold fuel; omega) (by omega) l1
  have q3 : ∀ {R : Type} (e0 : List (Int × Ape) → Int → List Int → Option R), L112_24 e0 now (Z.length : Int) A S Z fuel 0 m cur gone = e0 m' best gone' := q3
  rw [q3]
  cases hb : (getM m' best).isSome with
  | true => exact ⟨best, gone', rfl, q2, .inr (q1.keys _ (getM_keys hb))⟩
  | false =>
   simp only [cond_false]
   refine L112_60_ok (P := fun o => ∃ id g, o = some (id, g) ∧ g.length ≤ 8 ∧ (id = -1 ∨ ((∃ x ∈ A, x.ID = id) ∧ ¬ id ∈ g))) (A3 := A) (A4 := A) z1 ⟨-1, gone', rfl, q2, .inl rfl⟩ (fun i hi hk => ?_) Z.length fuel 0 (by omega) (by unfold fuel; omega)
   have c1 : ¬ (i : Int) < 0 := by omega
   have c2 : (i : Int) < (Z.length : Int) := by omega
   simp only [c1, c2, Int.natCast_nonneg, decide_true, decide_false, Bool.and_self, cond_true, cond_false, Int.toNat_natCast, List.getElem?_eq_getElem hi]
   exact ⟨_, gone', rfl, q2, .inr (q1.keys _ hk)⟩
end Go.Abs
end
section
namespace Go.Abs
set_option linter.unusedVariables false
set_option linter.unusedSimpArgs false
theorem F118_eq {s : List Ape} {i : Nat} (hi : i < s.length) : F118 s i ((i + 1 : Nat) : Int) = some (s.take i ++ s.drop (i + 1)) := by
 have e1 : (s.drop (i + 1)).take (s.length - (i + 1)) = s.drop (i + 1) := List.take_of_length_le (by simp)
 have e2 : (s.drop (i + 1)).length = s.length - (i + 1) := List.length_drop
 have hK : i + (s.length - (i + 1)) = s.length - 1 := by omega
 have hKi : (i : Int) + ((s.length - (i + 1) : Nat) : Int) = ((s.length - 1 : Nat) : Int) := by omega
 have hM : (s.take i ++ (s.drop (i + 1) ++ s.drop (s.length - 1))).length = s.length := by simp; omega
 have c1 : ((i + 1 : Nat) : Int) ≤ (s.length : Int) := by omega
 have c2 : (i : Int) ≤ ((i + 1 : Nat) : Int) := by omega
 have c3 : ¬ (i : Int) = ((i + 1 : Nat) : Int) := by omega
 have c4 : (i : Int) ≤ (s.length : Int) := by omega
 have c5 : ((s.length - 1 : Nat) : Int) ≤ (s.length : Int) := by omega
 have b1 : Nat.ble (i + 1 + (s.length - (i + 1))) s.length = true := ble_t (by omega)
 have b2 : Nat.ble (s.length - 1) s.length = true := ble_t (by omega)
 have b3 : Nat.ble (s.length - 1 + (s.length - (s.length - 1))) s.length = true := ble_t (by omega)
 unfold F118
 simp only [Int.toNat_natCast, Nat.zero_add, Nat.sub_zero, Int.sub_zero, e1, e2, hK, hKi, hM, c1, c2, c3, c4, c5, b1, b2, b3, Int.natCast_nonneg, Int.le_refl, decide_true, decide_false, Bool.and_self, cond_true, cond_false]
 have hb : (s.take i ++ (s.drop (i + 1) ++ s.drop (s.length - 1))).take (s.length - 1) = s.take i ++ s.drop (i + 1) := by
  rw [← List.append_assoc, List.take_append_of_le_length (by simp; omega), List.take_of_length_le (by simp; omega)]
 have ht : (s.take i ++ s.drop (i + 1)).length = s.length - 1 := by simp; omega
 rw [hb]
 have b4 : Nat.ble (s.length - 1) ((s.take i ++ s.drop (i + 1)) ++ (List.replicate (s.length - (s.length - 1)) (Ape.mk 0 0 0 0 0) ++ (s.take i ++ (s.drop (i + 1) ++ s.drop (s.length - 1))).drop (s.length - 1 + (s.length - (s.length - 1))))).length = true := ble_t (by rw [List.length_append, ht]; omega)
 rw [b4, cond_true, List.take_append_of_le_length (by omega), List.take_of_length_le (by omega)]
theorem take_drop_sub {s : List Ape} (i : Nat) : (s.take i ++ s.drop (i + 1)).Sublist s := by
 have h : s = s.take i ++ s.drop i := (List.take_append_drop i s).symm
 have h2 : (s.drop (i + 1)).Sublist (s.drop i) := by
  rw [← List.drop_drop (i := 1)]
  exact List.drop_sublist _ _
 conv => rhs; rw [h]
 exact List.Sublist.append (List.Sublist.refl _) h2
theorem ApesOK.sub {A B : List Ape} (h : ApesOK A) (hs : B.Sublist A) : ApesOK B :=
 ⟨Nat.le_trans hs.length_le h.len, fun a ha => h.each a (hs.subset ha), h.ids.sublist hs⟩
def inG (gone : List Int) (x : Int) : Bool := decide (0 ≤ findI (gone.map fun g => decide (x = g)))
theorem inG_not {gone : List Int} {x : Int} (h : ¬ x ∈ gone) : inG gone x = false := by
 unfold inG
 rcases findI_cases (gone.map fun g => decide (x = g)) with ⟨e, _⟩ | ⟨i, e, h1, _⟩
 · rw [e]
   rfl
 · rw [List.getElem?_map] at h1
   obtain ⟨g, hg, hx⟩ := Option.map_eq_some_iff.1 h1
   simp only [decide_eq_true_eq] at hx
   exact (h (by rw [hx]; exact List.mem_of_getElem? hg)).elim
theorem F114_eq {g : List Int} (hg : g.length ≤ 100000) (x : Int) : F114 fuel g x = some (findI (g.map fun y => decide (x = y))) := by
 unfold F114
 exact index_loop (L := fun n i => L114_2 (fun z6 => some z6) (some (-1)) x (g.length : Int) g n i) (fun y => decide (x = y)) (by omega) (fun n i h => by
  simp only [L114_2, S114_2, h, decide_false, cond_false]) (fun n i h h' => by
  simp only [L114_2, S114_2, h', Int.natCast_nonneg, decide_true, Bool.and_self, cond_true, Int.toNat_natCast, List.getElem?_eq_getElem h]) (by unfold fuel; omega)
theorem F60_79_eq {A : List Ape} (hA : A.length ≤ 100000) {g : List Int} (hg : g.length ≤ 100000) : F60_79 fuel A g = some (findI (A.map fun a => inG g a.ID)) := by
 unfold F60_79
 exact index_loop (L := fun n i => L60_79_2 (fun z7 => some z7) (some (-1)) (A.length : Int) A g n i) (fun a : Ape => inG g a.ID) (by omega) (fun n i h => by
  simp only [L60_79_2, S60_79_2, h, decide_false, cond_false]) (fun n i h h' => by
  simp only [L60_79_2, S60_79_2, h', Int.natCast_nonneg, decide_true, Bool.and_self, cond_true, Int.toNat_natCast, List.getElem?_eq_getElem h, F114_eq hg]
  rfl) (by unfold fuel; omega)
theorem F78_eq {A : List Ape} (hA : A.length ≤ 100000) {g : List Int} (hg : g.length ≤ 100000) : F78_79 fuel A g = some (A.filter fun a => !inG g a.ID) := by
 unfold F78_79
 rw [F60_79_eq hA hg]
 rcases findI_cases (A.map fun a => inG g a.ID) with ⟨h, h2⟩ | ⟨i, h, h1, h2⟩
 · rw [h]
   simp only [decide_true, cond_true, Option.some.injEq]
   rw [List.filter_eq_self.2]
   intro t ht
   have := h2 _ (List.mem_map.2 ⟨t, ht, rfl⟩)
   simp [this]
 · rw [h]
   have hi : i < A.length := by
    have := (List.getElem?_eq_some_iff.1 h1).1
    simpa using this
   have hne : ¬ ((i : Int) = -1) := by omega
   simp only [hne, decide_false, cond_false]
   rw [wI_succ (by omega)]
   have key : ∀ (z : Ape) (lf : Nat), A.length < lf → L78_79_5 (zeroK z) g lf i ((i + 1 : Nat) : Int) A = some (A.filter fun a => !inG g a.ID) := fun z lf hlf => by
    obtain ⟨m, zs, e, k1, k2, k3⟩ := del_loop (xs := A) (fun a : Ape => !inG g a.ID) (L := fun n i j ys => L78_79_5 (zeroK z) g n i j ys) (e0 := zeroK z) (fun n i j ys h => by
     rw [L78_79_5]
     simp only [S78_79_5, h, decide_false, cond_false]) (fun n i j ys hj hj' hi hi' => by
     rw [L78_79_5]
     simp only [S78_79_5, hj', hi', Int.natCast_nonneg, decide_true, Bool.and_self, cond_true, Int.toNat_natCast, List.getElem?_eq_getElem hj, List.getElem?_eq_getElem hi, F114_eq hg]
     rfl) (A.length - (i + 1)) lf i (i + 1) A (by omega) (by omega) (by omega) hA rfl rfl (filter_first h1 h2)
    rw [e, zeroed k2, k1]
   exact key _ fuel (by unfold fuel; omega)
theorem F116_eq {A : List Ape} (hA : A.length ≤ 100000) (id : Int) : F116 A id = some (findI (A.map fun a => decide (a.ID = id))) := by
 unfold F116 F60_157
 have : L60_157_2 (fun z6 => some z6) (some (-1)) (A.length : Int) A id fuel 0 = some (findI (A.map fun a => decide (a.ID = id))) :=
  index_loop (L := fun n i => L60_157_2 (fun z6 => some z6) (some (-1)) (A.length : Int) A id n i) (fun a : Ape => decide (a.ID = id)) (by omega) (fun n i h => by
   simp only [L60_157_2, S60_157_2, h, decide_false, cond_false]) (fun n i h h' => by
   simp only [L60_157_2, S60_157_2, h', Int.natCast_nonneg, decide_true, Bool.and_self, cond_true, Int.toNat_natCast, List.getElem?_eq_getElem h]) (by unfold fuel; omega)
 rw [this]
theorem F59_115_eq {T : List Task} (hT : T.length ≤ 100000) (b id : Int) : F59_115 fuel T b id = some (findI (T.map fun t => decide (t.ID = id))) := by
 unfold F59_115
 exact index_loop (L := fun n i => L59_115_2 (fun z6 => some z6) (some (-1)) (T.length : Int) T b id n i) (fun t : Task => decide (t.ID = id)) (by omega) (fun n i h => by
  simp only [L59_115_2, S59_115_2, h, decide_false, cond_false]) (fun n i h h' => by
  simp only [L59_115_2, S59_115_2, h', Int.natCast_nonneg, decide_true, Bool.and_self, cond_true, Int.toNat_natCast, List.getElem?_eq_getElem h]) (by unfold fuel; omega)
theorem findI_ids {α : Type} {f : α → Int} {T : List α} (h : T.Pairwise fun t u => f t < f u) {i : Nat} (hi : i < T.length) : findI (T.map fun t => decide (f t = f T[i])) = i := by
 rcases findI_cases (T.map fun t => decide (f t = f T[i])) with ⟨_, h2⟩ | ⟨j, e, h1, h2⟩
 · have := h2 _ (List.mem_map.2 ⟨T[i], List.getElem_mem hi, rfl⟩)
   simp at this
 · rw [e]
   have hj : j < T.length := by
    have := (List.getElem?_eq_some_iff.1 h1).1
    simpa using this
   rw [List.getElem?_map, List.getElem?_eq_getElem hj] at h1
   simp only [Option.map_some, Option.some.injEq, decide_eq_true_eq] at h1
   rcases Nat.lt_trichotomy j i with hlt | heq | hgt
   · have := List.pairwise_iff_getElem.1 h j i hj hi hlt
     omega
   · omega
   · have := List.pairwise_iff_getElem.1 h i j hi hj hgt
     omega
theorem ApesOK.run {A : List Ape} (h : ApesOK A) {i : Nat} (hi : i < A.length) (hr : A[i].Ran + 1 < A[i].C) : ApesOK (A.set i ⟨A[i].ID, A[i].Due, A[i].C, A[i].V, A[i].Ran + 1⟩) := by
 refine ⟨by simp; exact h.len, fun a ha => ?_, ?_⟩
 · rcases List.mem_or_eq_of_mem_set ha with ha | rfl
   · exact h.each a ha
   · have k := h.each _ (List.getElem_mem hi)
     exact ⟨k.id, k.due, k.C, k.V, by have := k.ran; show 0 ≤ A[i].Ran + 1; omega, hr⟩
 · rw [List.pairwise_iff_getElem]
   intro j k hj hk hjk
   rw [List.getElem_set, List.getElem_set]
   have hj2 : j < A.length := by simpa using hj
   have hk2 : k < A.length := by simpa using hk
   have := List.pairwise_iff_getElem.1 h.ids j k hj2 hk2 hjk
   split
   · split
     · omega
     · rename_i e _; subst e; exact this
   · split
     · rename_i e; subst e; exact this
     · exact this
end Go.Abs
end
section
namespace Go.Abs
set_option linter.unusedVariables false
set_option linter.unusedSimpArgs false
theorem F241_ok (a b c d e f : Int) : Ok (F241 fuel [a, b, c] [d, e, f]) := by
 unfold F241
 have key : ∀ n, Ok (L241_2 (fun z7 => some z7) (bif decide ((([a, b, c] : List Int).length : Int) < (([d, e, f] : List Int).length : Int)) then some (-1) else some 0) (([a, b, c] : List Int).length : Int) [a, b, c] [d, e, f] (n + 4) 0) := fun n => by
  have w1 : wI (0 + 1) = 1 := wI_eq (by decide) (by decide)
  have w2 : wI (1 + 1) = 2 := wI_eq (by decide) (by decide)
  have w3 : wI (2 + 1) = 3 := wI_eq (by decide) (by decide)
  simp only [L241_2, S241_2, w1, w2, w3]
  refine bif_ok (fun _ => ?_) fun _ => bif_ok (fun _ => .intro _) fun _ => .intro _
  refine bif_ok (fun _ => ?_) fun h => by simp at h
  simp only [show Int.toNat 0 = 0 from rfl, List.getElem?_cons_zero]
  refine bif_ok (fun _ => .intro _) fun _ => bif_ok (fun _ => ?_) fun h => by simp at h
  refine bif_ok (fun _ => .intro _) fun _ => bif_ok (fun _ => ?_) fun _ => bif_ok (fun _ => .intro _) fun _ => .intro _
  refine bif_ok (fun _ => ?_) fun h => by simp at h
  simp only [show Int.toNat 1 = 1 from rfl, List.getElem?_cons_succ, List.getElem?_cons_zero]
  refine bif_ok (fun _ => .intro _) fun _ => bif_ok (fun _ => ?_) fun h => by simp at h
  refine bif_ok (fun _ => .intro _) fun _ => bif_ok (fun _ => ?_) fun _ => bif_ok (fun _ => .intro _) fun _ => .intro _
  refine bif_ok (fun _ => ?_) fun h => by simp at h
  simp only [show Int.toNat 2 = 2 from rfl, List.getElem?_cons_succ, List.getElem?_cons_zero]
  refine bif_ok (fun _ => .intro _) fun _ => bif_ok (fun _ => ?_) fun h => by simp at h
  refine bif_ok (fun _ => .intro _) fun _ => bif_ok (fun h => by simp at h) fun _ => bif_ok (fun _ => .intro _) fun _ => .intro _
 exact key _
theorem F239_ok (a b : Opt) : Ok (F239 a b) := by
 unfold F239
 obtain ⟨r, e⟩ := F241_ok (F240 a).1 (F240 a).2.1 (F240 a).2.2 (F240 b).1 (F240 b).2.1 (F240 b).2.2
 simp only [e]
 exact bif_ok (fun _ => .intro _) fun _ => .intro _
theorem F236_ok {l : List Opt} (hl : l.length ≤ 100000) : ∃ r, F236 fuel l = some r ∧ (r = -1 ∨ ∃ i : Nat, r = i ∧ i < l.length) := by
 unfold F236
 have key : ∀ (k n i : Nat) (b : Int), l.length = i + k → k < n → (b = -1 ∨ ∃ j : Nat, b = j ∧ j < l.length) → ∃ r, L236_3 (fun z8 => some z8) (l.length : Int) l n b i = some r ∧ (r = -1 ∨ ∃ i : Nat, r = i ∧ i < l.length) := by
  intro k
  induction k with
  | zero =>
   intro n i b hi hn hb
   obtain ⟨n, rfl⟩ : ∃ m, n = m + 1 := ⟨n - 1, by omega⟩
   have h1 : ¬ (i : Int) < (l.length : Int) := by omega
   rw [L236_3]
   simp only [S236_3, h1, decide_false, cond_false]
   exact ⟨b, rfl, hb⟩
  | succ k ih =>
   intro n i b hi hn hb
   obtain ⟨n, rfl⟩ : ∃ m, n = m + 1 := ⟨n - 1, by omega⟩
   have h1 : (i : Int) < (l.length : Int) := by omega
   have h2 : i < l.length := by omega
   have new := ih n (i + 1) i (by omega) (by omega) (.inr ⟨i, rfl, h2⟩)
   have old := ih n (i + 1) b (by omega) (by omega) hb
   rw [L236_3]
   simp only [S236_3, h1, Int.natCast_nonneg, decide_true, Bool.and_self, cond_true, Int.toNat_natCast, List.getElem?_eq_getElem h2]
   rw [wI_succ (by omega)]
   rcases hb with rfl | ⟨j, rfl, hj⟩
   · exact new
   · have c1 : ¬ (j : Int) = -1 := by omega
     have c2 : (j : Int) < (l.length : Int) := by omega
     obtain ⟨r, er⟩ := F239_ok l[i] l[j]
     simp only [c1, c2, Int.natCast_nonneg, decide_true, decide_false, Bool.and_self, cond_true, cond_false, Int.toNat_natCast, List.getElem?_eq_getElem hj, er]
     cases r
     · exact old
     · exact new
 exact key l.length fuel 0 (-1) (by omega) (by unfold fuel; omega) (.inl rfl)
theorem F235_ok (t : Task) : ∃ o b, F235 t.ID t.S t.J t.H = some (o, b) ∧ (b = true → o.ID = t.ID ∧ t.J.On = true ∧ t.J.Mand = false) := by
 unfold F235
 obtain ⟨r, e⟩ := F238_ok t.H t.S.M t.S.K
 rw [e]
 cases hon : t.J.On with
 | false => exact ⟨_, false, rfl, fun h => by cases h⟩
 | true =>
  cases hm : t.J.Mand with
  | true => exact ⟨_, false, rfl, fun h => by cases h⟩
  | false =>
   cases decide (F237 t.J = 0) with
   | true => exact ⟨_, false, rfl, fun h => by cases h⟩
   | false => exact ⟨_, true, rfl, fun _ => ⟨rfl, rfl, rfl⟩⟩
theorem F234_ok {T : List Task} (hT : T.length ≤ 4) (now : Int) (A : List Ape) (cur : Int) : ∃ id b, F234 fuel now T A cur = some (id, b) ∧ (b = true → ∃ t ∈ T, t.ID = id ∧ t.J.On = true ∧ t.J.Mand = false) := by
 unfold F234
 have key : ∀ (k n i : Nat) (acc : List Opt), T.length = i + k → k < n → acc.length ≤ i → (∀ o ∈ acc, ∃ t ∈ T, t.ID = o.ID ∧ t.J.On = true ∧ t.J.Mand = false) →
  ∃ acc' : List Opt, acc'.length ≤ 4 ∧ (∀ o ∈ acc', ∃ t ∈ T, t.ID = o.ID ∧ t.J.On = true ∧ t.J.Mand = false) ∧ ∀ {R : Type} (e0 : List Opt → Option R), L234_3 e0 (T.length : Int) T A now cur n i acc = e0 acc' := by
  intro k
  induction k with
  | zero =>
   intro n i acc hi hn ha h
   obtain ⟨n, rfl⟩ : ∃ m, n = m + 1 := ⟨n - 1, by omega⟩
   have h1 : ¬ (i : Int) < (T.length : Int) := by omega
   refine ⟨acc, by omega, h, fun e => ?_⟩
   rw [L234_3]
   simp only [S234_3, h1, decide_false, cond_false]
  | succ k ih =>
   intro n i acc hi hn ha h
   obtain ⟨n, rfl⟩ : ∃ m, n = m + 1 := ⟨n - 1, by omega⟩
   have h1 : (i : Int) < (T.length : Int) := by omega
   have h2 : i < T.length := by omega
   obtain ⟨o, b, e, hb⟩ := F235_ok T[i]
   cases b with
   | false =>
    obtain ⟨acc', q1, q2, q3⟩ := ih n (i + 1) acc (by omega) (by omega) (by omega) h
    refine ⟨acc', q1, q2, fun e0 => ?_⟩
    rw [L234_3, ← q3 e0]
    simp only [S234_3, h1, Int.natCast_nonneg, decide_true, Bool.and_self, cond_true, cond_false, Int.toNat_natCast, List.getElem?_eq_getElem h2, e]
    rw [wI_succ (by omega)]
   | true =>
    obtain ⟨k1, k2, k3⟩ := hb rfl
    obtain ⟨acc', q1, q2, q3⟩ := ih n (i + 1) (acc ++ [o]) (by omega) (by omega) (by simp; omega) (fun x hx => by
     rcases List.mem_append.1 hx with hx | hx
     · exact h x hx
     · rw [List.mem_singleton.1 hx]
       exact ⟨T[i], List.getElem_mem h2, k1.symm, k2, k3⟩)
    refine ⟨acc', q1, q2, fun e0 => ?_⟩
    rw [L234_3, ← q3 e0]
    simp only [S234_3, h1, Int.natCast_nonneg, decide_true, Bool.and_self, cond_true, Int.toNat_natCast, List.getElem?_eq_getElem h2, e, ble_t (show (acc ++ [o]).length ≤ 100000 by simp; omega)]
    rw [wI_succ (by omega)]
 obtain ⟨acc, q1, q2, q3⟩ := key T.length fuel 0 [] (by omega) (by unfold fuel; omega) (Nat.le_refl _) (fun o ho => by cases ho)
 have q3 : ∀ {R : Type} (e0 : List Opt → Option R), L234_3 e0 (T.length : Int) T A now cur fuel 0 [] = e0 acc := q3
 rw [q3]
 obtain ⟨r, er, hr⟩ := F236_ok (l := acc) (by omega)
 rw [er]
 rcases hr with rfl | ⟨i, rfl, hi⟩
 · exact ⟨0, false, rfl, fun h => by cases h⟩
 · have c1 : ¬ (i : Int) = -1 := by omega
   have c2 : (i : Int) < (acc.length : Int) := by omega
   simp only [c1, c2, Int.natCast_nonneg, decide_true, decide_false, Bool.and_self, cond_true, cond_false, Int.toNat_natCast, List.getElem?_eq_getElem hi]
   exact ⟨acc[i].ID, true, rfl, fun _ => q2 _ (List.getElem_mem hi)⟩
theorem F232_ok {T : List Task} (hT : T.length ≤ 4) (now : Int) (A : List Ape) (cur : Int) : (v128 (T.map F91) = -1 ∧ F232 now T A cur = some (0, false)) ∨ ∃ (i : Nat) (h : i < T.length), v128 (T.map F91) = i ∧ F232 now T A cur = some (T[i].ID, true) ∧ T[i].J.On = true ∧ T[i].J.Mand = true := by
 unfold F232
 rw [F57_eq (by omega)]
 simp only
 rw [F128_eq (by rw [List.length_map]; omega)]
 rcases v128_must (l := T.map F91) (by rw [List.length_map]; omega) with h | ⟨i, hi, h, hm⟩
 · rw [h]
   exact .inl ⟨rfl, rfl⟩
 · have hi2 : i < T.length := by simpa using hi
   have c1 : ¬ (i : Int) = -1 := by omega
   have c2 : (i : Int) < (T.length : Int) := by omega
   rw [List.getElem_map, F91_eq, F132_eq] at hm
   refine .inr ⟨i, hi2, h, ?_, ?_⟩
   · rw [h]
     simp only [c1, c2, Int.natCast_nonneg, decide_true, decide_false, Bool.and_self, cond_true, cond_false, Int.toNat_natCast, List.getElem?_eq_getElem hi2]
   · simp only [Bool.and_eq_true] at hm
     cases hon : T[i].J.On with
     | false => rw [hon] at hm; simp only [cond_false, hon] at hm; exact absurd hm.1 (by decide)
     | true => rw [hon] at hm; simp only [cond_true] at hm; exact ⟨rfl, hm.2.1⟩
inductive WhoOK (T : List Task) (A : List Ape) (gone : List Int) : Int → Int → Prop
 | must (i : Nat) (h : i < T.length) : v128 (T.map F91) = i → T[i].J.On = true → T[i].J.Mand = true → WhoOK T A gone 1 T[i].ID
 | ape (id : Int) : v128 (T.map F91) = -1 → (∃ x ∈ A, x.ID = id) → ¬ id ∈ gone → WhoOK T A gone 2 id
 | opt (t : Task) : v128 (T.map F91) = -1 → t ∈ T → t.J.On = true → t.J.Mand = false → WhoOK T A gone 3 t.ID
 | none_ : v128 (T.map F91) = -1 → WhoOK T A gone 0 0
theorem F77_ok {T : List Task} (hT : T.length ≤ 4) {A : List Ape} (hA : ApesOK A) {now : Int} (h0 : 0 ≤ now ∧ now ≤ 549755813888) (cur : Int) : ∃ band id gone, F77 now T A cur = some ((band, id), gone) ∧ gone.length ≤ 8 ∧ WhoOK T A gone band id := by
 unfold F77 F233
 obtain ⟨id, gone, e, hg, hp⟩ := F112_ok hA cur h0
 rw [e]
 rcases F232_ok hT now A cur with ⟨hv, e2⟩ | ⟨i, hi, hv, e2, h1, h2⟩
 · rw [e2]
   simp only [cond_false]
   rcases hp with rfl | ⟨hx, hn⟩
   · simp only [decide_true, Bool.not_true, cond_false]
     obtain ⟨id3, b, e3, hb⟩ := F234_ok hT now A cur
     rw [e3]
     cases b with
     | false => exact ⟨0, 0, gone, rfl, hg, .none_ hv⟩
     | true =>
      obtain ⟨t, ht, rfl, h1, h2⟩ := hb rfl
      exact ⟨3, t.ID, gone, rfl, hg, .opt t hv ht h1 h2⟩
   · obtain ⟨x, hx1, hx2⟩ := hx
     have hpos := (hA.each x hx1).id.1
     have c1 : ¬ id = -1 := by omega
     have c2 : max id 0 = id := by omega
     simp only [c1, c2, decide_false, Bool.not_false, cond_true]
     exact ⟨2, id, gone, rfl, hg, .ape id hv ⟨x, hx1, hx2⟩ hn⟩
 · rw [e2]
   exact ⟨1, T[i].ID, gone, rfl, hg, .must i hi hv h1 h2⟩
end Go.Abs
end
section
namespace Go.Abs
set_option linter.unusedVariables false
set_option linter.unusedSimpArgs false
theorem TaskOK.next {t : Task} {now : Int} (h : TaskOK t now) (hat : ¬ now = t.At) : TaskOK t (now + 1) :=
 ⟨h.id, h.p, h.ring, h.spec, h.per, ⟨by have := h.at_; omega, by have := h.at_; omega⟩, h.n, h.job, fun hon => by
  obtain ⟨k1, k2, k3⟩ := h.on hon
  exact ⟨by omega, k2, k3⟩, h.hn⟩
theorem L76_step {d : List Int} {y3 y4 : Nat} (hd : y3 + y4 ≤ d.length) {C : Int} (hC : 1 ≤ C ∧ C ≤ 20) : ∃ (dd : Int) (z3 z4 : Nat), (1 ≤ dd ∧ dd ≤ 20) ∧ z3 + z4 ≤ d.length ∧
 ∀ {R : Type} (e0 : List Task → List (Int × Bool) → Option R) (len : Int) (a7 : List Task) (a8 : List Ape) (now a11 a12 a13 : Int) (a15 : List Ape) (n i : Nat) (T : List Task) (m : List (Int × Bool)) (hi : i < T.length) (hl : (i : Int) < len) (hc : T[i].S.C = C) (t' : Task) (b : Bool), F111 T[i] now dd = some (t', b) →
  L76_6 e0 len a7 a8 d now a11 a12 a13 a15 (n + 1) y3 y4 i T m = bif b then L76_6 e0 len a7 a8 d now a11 a12 a13 a15 n z3 z4 (wI ((i : Int) + 1)) (T.set i t') (putM m T[i].ID true) else L76_6 e0 len a7 a8 d now a11 a12 a13 a15 n y3 y4 (wI ((i : Int) + 1)) T m := by
 by_cases h4 : y4 = 0
 · subst h4
   refine ⟨C, 0, 0, hC, by omega, fun e0 len a7 a8 now a11 a12 a13 a15 n i T m hi hl hc t' b e => ?_⟩
   rw [L76_6]
   have h2 : (i : Int) < (T.length : Int) := by omega
   simp only [S76_6, hl, h2, Int.natCast_nonneg, decide_true, Bool.and_self, cond_true, Int.toNat_natCast, List.getElem?_eq_getElem hi, hc, e, show ((0 : Nat) : Int) = 0 from rfl]
 · have c1 : ¬ (y4 : Int) = 0 := by omega
   have c2 : (0 : Int) < (y4 : Int) := by omega
   have c3 : (1 : Int) ≤ (y4 : Int) := by omega
   have h3 : y3 < d.length := by omega
   by_cases k1 : d[y3] < 1
   · refine ⟨C, y3 + 1, y4 - 1, hC, by omega, fun e0 len a7 a8 now a11 a12 a13 a15 n i T m hi hl hc t' b e => ?_⟩
     rw [L76_6]
     have h2 : (i : Int) < (T.length : Int) := by omega
     simp only [S76_6, hl, h2, c1, c2, c3, k1, Nat.add_zero, Int.natCast_nonneg, decide_true, decide_false, Bool.and_self, cond_true, cond_false, Int.toNat_natCast, List.getElem?_eq_getElem hi, List.getElem?_eq_getElem h3, hc, e]
   · by_cases k2 : 20 < d[y3]
     · refine ⟨C, y3 + 1, y4 - 1, hC, by omega, fun e0 len a7 a8 now a11 a12 a13 a15 n i T m hi hl hc t' b e => ?_⟩
       rw [L76_6]
       have h2 : (i : Int) < (T.length : Int) := by omega
       simp only [S76_6, hl, h2, c1, c2, c3, k1, k2, Nat.add_zero, Int.natCast_nonneg, decide_true, decide_false, Bool.and_self, cond_true, cond_false, Int.toNat_natCast, List.getElem?_eq_getElem hi, List.getElem?_eq_getElem h3, hc, e]
     · refine ⟨d[y3], y3 + 1, y4 - 1, ⟨by omega, by omega⟩, by omega, fun e0 len a7 a8 now a11 a12 a13 a15 n i T m hi hl hc t' b e => ?_⟩
       rw [L76_6]
       have h2 : (i : Int) < (T.length : Int) := by omega
       simp only [S76_6, hl, h2, c1, c2, c3, k1, k2, Nat.add_zero, Int.natCast_nonneg, decide_true, decide_false, Bool.and_self, cond_true, cond_false, Int.toNat_natCast, List.getElem?_eq_getElem hi, List.getElem?_eq_getElem h3, e]
structure Begun (now : Int) (T : List Task) (i : Nat) : Prop where
 len : T.length ≤ 4
 old : ∀ (j : Nat) (h : j < T.length), j < i → TaskOK T[j] (now + 1)
 new : ∀ (j : Nat) (h : j < T.length), i ≤ j → TaskOK T[j] now ∧ (T[j].J.On = true → now < T[j].J.Due)
 nat : ∀ t ∈ T, t.N ≤ t.At
 ids : T.Pairwise fun t u => t.ID < u.ID
theorem Begun.set {now : Int} {T : List Task} {i : Nat} (h : Begun now T i) (hi : i < T.length) {t : Task} (h1 : TaskOK t (now + 1)) (h2 : t.N ≤ t.At) (h3 : t.ID = T[i].ID) : Begun now (T.set i t) (i + 1) := by
 refine ⟨by simp; exact h.len, fun j hj hji => ?_, fun j hj hji => ?_, fun u hu => ?_, ?_⟩
 · rw [List.getElem_set]
   split
   · exact h1
   · exact h.old j (by simpa using hj) (by omega)
 · rw [List.getElem_set_ne (by omega)]
   exact h.new j (by simpa using hj) (by omega)
 · rcases List.mem_or_eq_of_mem_set hu with hu | rfl
   · exact h.nat u hu
   · exact h2
 · rw [List.pairwise_iff_getElem]
   intro j k hj hk hjk
   have hj2 : j < T.length := by simpa using hj
   have hk2 : k < T.length := by simpa using hk
   have := List.pairwise_iff_getElem.1 h.ids j k hj2 hk2 hjk
   rw [List.getElem_set, List.getElem_set]
   split
   · split
     · omega
     · rename_i e _; subst e; rw [h3]; exact this
   · split
     · rename_i e; subst e; rw [h3]; exact this
     · exact this
theorem Begun.skip {now : Int} {T : List Task} {i : Nat} (h : Begun now T i) (hi : i < T.length) (hat : ¬ now = T[i].At) : Begun now T (i + 1) := by
 refine ⟨h.len, fun j hj hji => ?_, fun j hj hji => h.new j hj (by omega), h.nat, h.ids⟩
 by_cases e : j = i
 · subst e
   exact (h.new j hj (Nat.le_refl _)).1.next hat
 · exact h.old j hj (by omega)
theorem L76_alike {d : List Int} {now : Int} (h0 : 0 ≤ now ∧ now ≤ 274877906944) {a7 b7 : List Task} {a8 b8 : List Ape} {a11 a12 a13 b11 b12 b13 : Int} {a15 b15 : List Ape} :
 ∀ (k n i y3 y4 : Nat) (Ta Tb : List Task) (m : List (Int × Bool)), Ta.length = i + k → k < n → y3 + y4 ≤ d.length → Alike Ta Tb → Begun now Ta i → Begun now Tb i →
  ∃ Ta' Tb' m', Ta'.length = Ta.length ∧ Alike Ta' Tb' ∧ Begun now Ta' Ta.length ∧ Begun now Tb' Ta.length ∧
   (∀ {R : Type} (e0 : List Task → List (Int × Bool) → Option R), L76_6 e0 (Ta.length : Int) a7 a8 d now a11 a12 a13 a15 n y3 y4 i Ta m = e0 Ta' m') ∧
   (∀ {R : Type} (e0 : List Task → List (Int × Bool) → Option R), L76_6 e0 (Ta.length : Int) b7 b8 d now b11 b12 b13 b15 n y3 y4 i Tb m = e0 Tb' m') := by
 intro k
 induction k with
 | zero =>
  intro n i y3 y4 Ta Tb m hi hn hd h ha hb
  obtain ⟨n, rfl⟩ : ∃ m, n = m + 1 := ⟨n - 1, by omega⟩
  have h1 : ¬ (i : Int) < (Ta.length : Int) := by omega
  have hi2 : Ta.length = i := by omega
  refine ⟨Ta, Tb, m, rfl, h, by rw [hi2]; exact ha, by rw [hi2]; exact hb, fun e => ?_, fun e => ?_⟩ <;>
  · rw [L76_6]
    simp only [S76_6, h1, decide_false, cond_false]
 | succ k ih =>
  intro n i y3 y4 Ta Tb m hi hn hd h ha hb
  obtain ⟨n, rfl⟩ : ∃ m, n = m + 1 := ⟨n - 1, by omega⟩
  have h1 : (i : Int) < (Ta.length : Int) := by omega
  have hia : i < Ta.length := by omega
  have hib : i < Tb.length := by rw [← h.length]; exact hia
  have hl4 := ha.len
  have hc := h.get hia hib
  obtain ⟨f1, f2, f3, f4, f5, f6, f7⟩ := coreT_fields hc
  obtain ⟨oka, dua⟩ := ha.new i hia (Nat.le_refl _)
  obtain ⟨okb, dub⟩ := hb.new i hib (Nat.le_refl _)
  have hC : 1 ≤ Ta[i].S.C ∧ Ta[i].S.C ≤ 20 := by have := (F104_ok oka.spec).C; omega
  obtain ⟨dd, z3, z4, hdd, hz, step⟩ := L76_step hd hC
  obtain ⟨ta, ba, ea, ka1, ka2, ka3, ka4, ka5⟩ := F111_ok oka h0 (ha.nat _ (List.getElem_mem hia)) dua hdd
  obtain ⟨tb, bb, eb, kb1, kb2, kb3, kb4, kb5⟩ := F111_ok okb h0 (hb.nat _ (List.getElem_mem hib)) dub hdd
  by_cases hat : now = Ta[i].At
  · have hat2 : now = Tb[i].At := by rw [← f5]; exact hat
    rw [decide_eq_true hat] at ka4
    rw [decide_eq_true hat2] at kb4
    subst ka4 kb4
    have hcore : coreT ta = coreT tb := by
     rw [ka5, kb5, if_pos hat, if_pos hat2, f1, f2, f4, f6]
    have hal : Alike (Ta.set i ta) (Tb.set i tb) := by
     have h : Ta.map coreT = Tb.map coreT := h
     show (Ta.set i ta).map coreT = (Tb.set i tb).map coreT
     rw [List.map_set, List.map_set, h, hcore]
    obtain ⟨Ta', Tb', m', q0, q1, q2, q3, q4, q5⟩ := ih n (i + 1) z3 z4 (Ta.set i ta) (Tb.set i tb) (putM m Ta[i].ID true) (by simp; omega) (by omega) hz hal (ha.set hia ka1 ka2 ka3) (hb.set hib kb1 kb2 kb3)
    rw [List.length_set] at q0 q2 q3 q4 q5
    refine ⟨Ta', Tb', m', q0, q1, q2, q3, fun e => ?_, fun e => ?_⟩
    · rw [step e (Ta.length : Int) a7 a8 now a11 a12 a13 a15 n i Ta m hia h1 rfl ta true ea, cond_true, wI_succ (by omega), q4 e]
    · rw [step e (Ta.length : Int) b7 b8 now b11 b12 b13 b15 n i Tb m hib h1 (by rw [f2]) tb true eb, cond_true, wI_succ (by omega), ← f1, q5 e]
  · have hat2 : ¬ now = Tb[i].At := by rw [← f5]; exact hat
    rw [decide_eq_false hat] at ka4
    rw [decide_eq_false hat2] at kb4
    subst ka4 kb4
    obtain ⟨Ta', Tb', m', q0, q1, q2, q3, q4, q5⟩ := ih n (i + 1) y3 y4 Ta Tb m (by omega) (by omega) hd h (ha.skip hia hat) (hb.skip hib hat2)
    refine ⟨Ta', Tb', m', q0, q1, q2, q3, fun e => ?_, fun e => ?_⟩
    · rw [step e (Ta.length : Int) a7 a8 now a11 a12 a13 a15 n i Ta m hia h1 rfl ta false ea, cond_false, wI_succ (by omega), q4 e]
    · rw [step e (Ta.length : Int) b7 b8 now b11 b12 b13 b15 n i Tb m hib h1 (by rw [f2]) tb false eb, cond_false, wI_succ (by omega), q5 e]
theorem L76_16_eq {T : List Task} (hT : T.length ≤ 4) {m : List (Int × Bool)} {a7 : List Task} {a8 : List Ape} {d : List Int} {a11 a12 a13 a14 : Int} {a15 : List Ape} {R : Type} (e0 : List Int → Option R) :
 ∀ (k n i : Nat) (acc : List Int), T.length = i + k → k < n → acc.length ≤ i → L76_16 e0 (T.length : Int) a7 a8 d a11 a12 a13 a14 T a15 m n i acc = e0 (acc ++ ((T.drop i).map Task.ID).filter fun x => (getM m x).getD false) := by
 intro k
 induction k with
 | zero =>
  intro n i acc hi hn ha
  obtain ⟨n, rfl⟩ : ∃ m, n = m + 1 := ⟨n - 1, by omega⟩
  have h1 : ¬ (i : Int) < (T.length : Int) := by omega
  rw [L76_16]
  simp only [S76_16, h1, decide_false, cond_false]
  rw [List.drop_of_length_le (by omega)]
  simp
 | succ k ih =>
  intro n i acc hi hn ha
  obtain ⟨n, rfl⟩ : ∃ m, n = m + 1 := ⟨n - 1, by omega⟩
  have h1 : (i : Int) < (T.length : Int) := by omega
  have h2 : i < T.length := by omega
  rw [L76_16]
  simp only [S76_16, h1, Int.natCast_nonneg, decide_true, Bool.and_self, cond_true, Int.toNat_natCast, List.getElem?_eq_getElem h2]
  rw [wI_succ (by omega), List.drop_eq_getElem_cons h2, List.map_cons, List.filter_cons]
  cases hm : (getM m T[i].ID).getD false with
  | true =>
   rw [cond_true, ble_t (show (acc ++ [T[i].ID]).length ≤ 100000 by simp; omega), cond_true, ih n (i + 1) _ (by omega) (by omega) (by simp; omega)]
   simp
  | false =>
   rw [cond_false, ih n (i + 1) _ (by omega) (by omega) (by omega)]
   simp
theorem F109_eq {T : List Task} {A : List Ape} (hT : T.length ≤ 100000) (hA : A.length ≤ 100000) (now cur : Int) : F109 now T A cur = some (now, T, A, cur) := by
 unfold F109
 rw [cloneB_eq hT, cloneB_eq hA]
structure Mid (w : Int) (T : List Task) : Prop where
 len : T.length ≤ 4
 each : ∀ t ∈ T, TaskOK t w
 nat : ∀ t ∈ T, t.N ≤ t.At
 ids : T.Pairwise fun t u => t.ID < u.ID
theorem Begun.mid {now : Int} {T : List Task} {n : Nat} (h : Begun now T n) (hn : n = T.length) : Mid (now + 1) T :=
 ⟨h.len, fun t ht => by
  obtain ⟨j, hj, rfl⟩ := List.getElem_of_mem ht
  exact h.old j hj (by omega), h.nat, h.ids⟩
theorem TasksOK.begun {T : List Task} {now : Int} (h : TasksOK T now) (hn : ∀ t ∈ T, t.N ≤ t.At) : Begun now T 0 :=
 ⟨h.len, fun j hj h0 => by omega, fun j hj _ => h.each _ (List.getElem_mem hj), hn, ids_pw h.ids⟩
theorem F76_alike {now : Int} {Ta Tb : List Task} {Aa Ab : List Ape} {ca cb : Int} (wa : WOK now Ta Aa ca) (wb : WOK now Tb Ab cb) (ta : TasksOK Ta now) (tb : TasksOK Tb now) (na : ∀ t ∈ Ta, t.N ≤ t.At) (nb : ∀ t ∈ Tb, t.N ≤ t.At) (h : Alike Ta Tb) (d : List Int) :
 ∃ Ta' Tb' begun, F76 fuel now Ta Aa ca d = some ((now, Ta', Aa, ca), begun) ∧ F76 fuel now Tb Ab cb d = some ((now, Tb', Ab, cb), begun) ∧ Mid (now + 1) Ta' ∧ Mid (now + 1) Tb' ∧ Alike Ta' Tb' := by
 have la : Ta.length ≤ 100000 := by have := ta.len; omega
 have lb : Tb.length ≤ 100000 := by have := tb.len; omega
 have lAa : Aa.length ≤ 100000 := by have := wa.apes.len; omega
 have lAb : Ab.length ≤ 100000 := by have := wb.apes.len; omega
 unfold F76
 rw [F109_eq la lAa, F109_eq lb lAb]
 obtain ⟨b1, e1, k1⟩ := F55_iff (T := Ta) wa.apes wa.now_ wa.cur_ la
 obtain ⟨b2, e2, k2⟩ := F55_iff (T := Tb) wb.apes wb.now_ wb.cur_ lb
 simp only [e1, e2, k1.2 ta, k2.2 tb, Bool.not_true, cond_false]
 obtain ⟨Ta', Tb', m, q0, q1, q2, q3, q4, q5⟩ := L76_alike (d := d) (now := now) wa.now_ (a7 := Ta) (a8 := Aa) (a11 := ca) (a12 := 0) (a13 := 0) (a15 := Aa) (b7 := Tb) (b8 := Ab) (b11 := cb) (b12 := 0) (b13 := 0) (b15 := Ab) Ta.length fuel 0 0 d.length Ta Tb [] (by omega) (by have := ta.len; unfold fuel; omega) (by omega) h (ta.begun na) (tb.begun nb)
 have q4 : ∀ {R : Type} (e0 : List Task → List (Int × Bool) → Option R), L76_6 e0 (Ta.length : Int) Ta Aa d now ca 0 0 Aa fuel 0 d.length 0 Ta [] = e0 Ta' m := q4
 have q5 : ∀ {R : Type} (e0 : List Task → List (Int × Bool) → Option R), L76_6 e0 (Ta.length : Int) Tb Ab d now cb 0 0 Ab fuel 0 d.length 0 Tb [] = e0 Tb' m := q5
 have ma := q2.mid (q0.symm)
 have mb := q3.mid (by rw [← q1.length]; exact q0.symm)
 rw [q4, ← h.length, q5]
 have u1 : ∀ {R : Type} (e0 : List Int → Option R), L76_16 e0 (Ta'.length : Int) Ta Aa d now ca 0 0 Ta' Aa m fuel 0 [] = e0 _ := fun e0 => L76_16_eq ma.len e0 Ta'.length fuel 0 [] (by omega) (by have := ma.len; unfold fuel; omega) (Nat.le_refl _)
 have u2 : ∀ {R : Type} (e0 : List Int → Option R), L76_16 e0 (Tb'.length : Int) Tb Ab d now cb 0 0 Tb' Ab m fuel 0 [] = e0 _ := fun e0 => L76_16_eq mb.len e0 Tb'.length fuel 0 [] (by omega) (by have := mb.len; unfold fuel; omega) (Nat.le_refl _)
 have eid : Ta'.map Task.ID = Tb'.map Task.ID := q1.map fun t u e => (coreT_fields e).1
 rw [u1, u2, List.drop_zero, List.drop_zero, eid]
 exact ⟨Ta', Tb', _, rfl, rfl, ma, mb, q1⟩
def endT (w : Int) (c : Task) : Task := ⟨c.ID, c.S, c.P, c.Next, c.At, c.N, coreJ (F131 c.J w).1, ⟨0, 0⟩, false⟩
theorem endT_core {t t' : Task} {w : Int} (h1 : t'.ID = t.ID) (h2 : t'.S = t.S) (h3 : t'.P = t.P) (h4 : t'.Next = t.Next) (h5 : t'.At = t.At) (h6 : t'.N = t.N) (h7 : t'.J = (F131 t.J w).1) : coreT t' = endT w (coreT t) := by
 unfold coreT endT
 simp only
 rw [h1, h2, h3, h4, h5, h6, h7, F131_core]
theorem F83_ok {w : Int} {T : List Task} (hT : Mid w T) {A : List Ape} (hA : A.length ≤ 100000) (cur : Int) : ∃ T' missed, F83 fuel w T A cur = some ((w, T', A, cur), missed) ∧ TasksOK T' w ∧ (∀ t ∈ T', t.N ≤ t.At) ∧ T'.map coreT = (T.map coreT).map (endT w) := by
 have lT := hT.len
 unfold F83
 rw [F109_eq (by omega) hA]
 simp only
 have key : ∀ (k n i : Nat) (Z : List Task) (ms : List Int), T.length = i + k → k < n → Z.length = T.length → ms.length ≤ i →
  (∀ (j : Nat) (h : j < Z.length) (h2 : j < T.length), (j < i → TaskOK Z[j] w ∧ (Z[j].J.On = true → w < Z[j].J.Due) ∧ coreT Z[j] = endT w (coreT T[j]) ∧ Z[j].N = T[j].N ∧ Z[j].At = T[j].At ∧ Z[j].ID = T[j].ID) ∧ (i ≤ j → Z[j] = T[j])) →
  ∃ (Z' : List Task) (ms' : List Int), Z'.length = T.length ∧ (∀ (j : Nat) (h : j < Z'.length) (h2 : j < T.length), TaskOK Z'[j] w ∧ (Z'[j].J.On = true → w < Z'[j].J.Due) ∧ coreT Z'[j] = endT w (coreT T[j]) ∧ Z'[j].N = T[j].N ∧ Z'[j].At = T[j].At ∧ Z'[j].ID = T[j].ID) ∧
   ∀ {R : Type} (e0 : List Task → List Int → Option R), L83_4 e0 (T.length : Int) T A w cur 0 0 A n i Z ms = e0 Z' ms' := by
  intro k
  induction k with
  | zero =>
   intro n i Z ms hi hn hz hm h
   obtain ⟨n, rfl⟩ : ∃ m, n = m + 1 := ⟨n - 1, by omega⟩
   have h1 : ¬ (i : Int) < (T.length : Int) := by omega
   refine ⟨Z, ms, hz, fun j hj hj2 => (h j hj hj2).1 (by omega), fun e => ?_⟩
   rw [L83_4]
   simp only [S83_4, h1, decide_false, cond_false]
  | succ k ih =>
   intro n i Z ms hi hn hz hm h
   obtain ⟨n, rfl⟩ : ∃ m, n = m + 1 := ⟨n - 1, by omega⟩
   have h1 : (i : Int) < (T.length : Int) := by omega
   have hiT : i < T.length := by omega
   have hiZ : i < Z.length := by omega
   have h2 : (i : Int) < (Z.length : Int) := by omega
   have hzi : Z[i] = T[i] := (h i hiZ hiT).2 (Nat.le_refl _)
   obtain ⟨t', f, e, k1, k2, k3, k4, k5, k6, k7, k8, k9, k10⟩ := F119_ok (hT.each _ (List.getElem_mem hiT))
   have hnew : ∀ (j : Nat) (hj : j < (Z.set i t').length) (hj2 : j < T.length), (j < i + 1 → TaskOK (Z.set i t')[j] w ∧ ((Z.set i t')[j].J.On = true → w < (Z.set i t')[j].J.Due) ∧ coreT (Z.set i t')[j] = endT w (coreT T[j]) ∧ (Z.set i t')[j].N = T[j].N ∧ (Z.set i t')[j].At = T[j].At ∧ (Z.set i t')[j].ID = T[j].ID) ∧ (i + 1 ≤ j → (Z.set i t')[j] = T[j]) := fun j hj hj2 => by
    rw [List.getElem_set]
    by_cases hji : i = j
    · subst hji
      simp only [if_true]
      exact ⟨fun _ => ⟨k1, k2, endT_core k3 k4 k5 k6 k7 k8 k9, k8, k7, k3⟩, fun hh => by omega⟩
    · simp only [hji, if_false]
      obtain ⟨u1, u2⟩ := h j (by simpa using hj) hj2
      exact ⟨fun hh => u1 (by omega), fun hh => u2 (by omega)⟩
   obtain ⟨Z1, ms1, q1, q2, q3⟩ := ih n (i + 1) (Z.set i t') ms (by omega) (by omega) (by simp; omega) (by omega) hnew
   obtain ⟨Z2, ms2, w1, w2, w3⟩ := ih n (i + 1) (Z.set i t') (ms ++ [T[i].ID]) (by omega) (by omega) (by simp; omega) (by simp; omega) hnew
   have go : ∀ {R : Type} (e0 : List Task → List Int → Option R), L83_4 e0 (T.length : Int) T A w cur 0 0 A (n + 1) i Z ms = bif decide (f = 3) then bif T[i].J.Mand then L83_4 e0 (T.length : Int) T A w cur 0 0 A n ((i + 1 : Nat) : Int) (Z.set i t') (ms ++ [T[i].ID]) else L83_4 e0 (T.length : Int) T A w cur 0 0 A n ((i + 1 : Nat) : Int) (Z.set i t') ms else L83_4 e0 (T.length : Int) T A w cur 0 0 A n ((i + 1 : Nat) : Int) (Z.set i t') ms := fun e0 => by
    rw [L83_4]
    simp only [S83_4, h1, h2, Int.natCast_nonneg, decide_true, Bool.and_self, cond_true, Int.toNat_natCast, List.getElem?_eq_getElem hiZ, hzi, e, ble_t (show (ms ++ [T[i].ID]).length ≤ 100000 by simp; omega)]
    rw [wI_succ (by omega)]
   cases hf : decide (f = 3) with
   | false => exact ⟨Z1, ms1, q1, q2, fun e0 => by rw [go, hf, cond_false, q3]⟩
   | true =>
    cases hm2 : T[i].J.Mand with
    | false => exact ⟨Z1, ms1, q1, q2, fun e0 => by rw [go, hf, hm2, cond_true, cond_false, q3]⟩
    | true => exact ⟨Z2, ms2, w1, w2, fun e0 => by rw [go, hf, hm2, cond_true, cond_true, w3]⟩
 obtain ⟨Z, ms, q1, q2, q3⟩ := key T.length fuel 0 T [] (by omega) (by unfold fuel; omega) rfl (Nat.le_refl _) (fun j hj hj2 => ⟨fun h => by omega, fun _ => rfl⟩)
 have q3 : ∀ {R : Type} (e0 : List Task → List Int → Option R), L83_4 e0 (T.length : Int) T A w cur 0 0 A fuel 0 T [] = e0 Z ms := q3
 rw [q3]
 refine ⟨Z, ms, rfl, ⟨by omega, fun t ht => ?_, fun i hi => ?_⟩, fun t ht => ?_, ?_⟩
 · obtain ⟨j, hj, rfl⟩ := List.getElem_of_mem ht
   have := q2 j hj (by omega)
   exact ⟨this.1, this.2.1⟩
 · obtain ⟨_, _, _, _, _, u1⟩ := q2 i (by omega) (by omega)
   obtain ⟨_, _, _, _, _, u2⟩ := q2 (i + 1) hi (by omega)
   rw [u1, u2]
   exact pw_ids hT.ids i (by omega)
 · obtain ⟨j, hj, rfl⟩ := List.getElem_of_mem ht
   obtain ⟨_, _, _, u1, u2, _⟩ := q2 j hj (by omega)
   rw [u1, u2]
   exact hT.nat _ (List.getElem_mem _)
 · refine List.ext_getElem (by simp [q1]) fun i h1 h2 => ?_
   have hi1 : i < Z.length := by simpa using h1
   have hi2 : i < T.length := by omega
   rw [List.getElem_map, List.getElem_map, List.getElem_map]
   exact (q2 i hi1 hi2).2.2.1
end Go.Abs
end
section
namespace Go.Abs
set_option linter.unusedVariables false
set_option linter.unusedSimpArgs false
def runT (c : Task) : Task := ⟨c.ID, c.S, c.P, c.Next, c.At, c.N, coreJ (F130 c.J).1, ⟨0, 0⟩, false⟩
def runCore (l : List Task) (v : Int) : List Task := bif decide (v = -1) then l else (match l[v.toNat]? with
 | some c => l.set v.toNat (runT c)
 | none => l)
theorem cur_found (A : List Ape) (hA : A.length ≤ 100000) (cur : Int) : ∃ r, F116 A cur = some r := ⟨_, F116_eq hA cur⟩
theorem Mid.set {w : Int} {T : List Task} (h : Mid w T) {i : Nat} (hi : i < T.length) {t : Task} (h1 : TaskOK t w) (h2 : t.N = T[i].N) (h3 : t.At = T[i].At) (h4 : t.ID = T[i].ID) : Mid w (T.set i t) := by
 refine ⟨by simp; exact h.len, fun u hu => ?_, fun u hu => ?_, ?_⟩
 · rcases List.mem_or_eq_of_mem_set hu with hu | rfl
   · exact h.each u hu
   · exact h1
 · rcases List.mem_or_eq_of_mem_set hu with hu | rfl
   · exact h.nat u hu
   · rw [h2, h3]
     exact h.nat _ (List.getElem_mem hi)
 · rw [List.pairwise_iff_getElem]
   intro j k hj hk hjk
   have hj2 : j < T.length := by simpa using hj
   have hk2 : k < T.length := by simpa using hk
   have := List.pairwise_iff_getElem.1 h.ids j k hj2 hk2 hjk
   rw [List.getElem_set, List.getElem_set]
   split
   · split
     · omega
     · rename_i e _; subst e; rw [h4]; exact this
   · split
     · rename_i e; subst e; rw [h4]; exact this
     · exact this
structure RunOK (w : Int) (T : List Task) (A : List Ape) (T' : List Task) (A' : List Ape) (cur' : Int) : Prop where
 mid : Mid w T'
 apes : ApesOK A'
 ids : ∀ a ∈ A', ∃ b ∈ A, b.ID = a.ID
 cur : -1 ≤ cur' ∧ cur' ≤ 549755813888
 core : T'.map coreT = runCore (T.map coreT) (v128 (T.map F91))
theorem F82_ok {w now : Int} {T : List Task} (hT : Mid w T) {A : List Ape} (hA : ApesOK A) {gone : List Int} {band id cur : Int} (hc : -1 ≤ cur ∧ cur ≤ 549755813888) (h : WhoOK T A gone band id) (hband : band = 2 → cur = id) :
 ∃ T' A' cur' f, F82 now T (A.filter fun a => !inG gone a.ID) cur band id = some ((now, T', A', cur'), f) ∧ RunOK w T A T' A' cur' := by
 have hF : ApesOK (A.filter fun a => !inG gone a.ID) := hA.sub List.filter_sublist
 have hsub : ∀ a ∈ A.filter fun a => !inG gone a.ID, a ∈ A := fun a ha => (List.mem_filter.1 ha).1
 have lT := hT.len
 have lA : (A.filter fun a => !inG gone a.ID).length ≤ 100000 := by have := hF.len; omega
 have none_ : v128 (T.map F91) = -1 → T.map coreT = runCore (T.map coreT) (v128 (T.map F91)) := fun e => by rw [e]; rfl
 unfold F82
 cases h with
 | must i hi hv hon hm =>
  have e1 := F59_115_eq (T := T) (by omega) 1 T[i].ID
  rw [findI_ids hT.ids hi] at e1
  obtain ⟨t', f, e, k1, k2, k3, k4, k5, k6, k7, k8, k9⟩ := F117_ok (hT.each _ (List.getElem_mem hi)) hon
  have h1 : (i : Int) < (T.length : Int) := by omega
  simp only [e1, decide_true, cond_true, h1, Int.natCast_nonneg, Bool.and_self, Int.toNat_natCast, List.getElem?_eq_getElem hi, e, F116_eq lA]
  have core : (T.set i t').map coreT = runCore (T.map coreT) (v128 (T.map F91)) := by
   have c1 : ¬ (i : Int) = -1 := by omega
   rw [hv]
   unfold runCore
   have h2 : i < (T.map coreT).length := by simp; exact hi
   simp only [c1, decide_false, cond_false, Int.toNat_natCast, List.getElem?_eq_getElem h2, List.getElem_map]
   rw [List.map_set]
   congr 1
   have hJ : coreJ T[i].J = T[i].J := by simp [coreJ, hon, hm]
   unfold coreT runT
   simp only
   rw [k2, k3, k4, k5, k6, k7, k8, hJ]
  have mid := hT.set hi k1 k7 k6 k2
  have out : ∀ c, -1 ≤ c ∧ c ≤ 549755813888 → ∃ T' A' cur' f', some ((now, T.set i t', A.filter fun a => !inG gone a.ID, c), f) = some ((now, T', A', cur'), f') ∧ RunOK w T A T' A' cur' := fun c hcc => ⟨_, _, _, _, rfl, mid, hF, fun a ha => ⟨a, hsub a ha, rfl⟩, hcc, core⟩
  cases decide (findI ((A.filter fun a => !inG gone a.ID).map fun a => decide (a.ID = cur)) = -1) with
  | true => exact out (-1) (by omega)
  | false => exact out cur hc
 | opt t hv ht hon hm =>
  obtain ⟨i, hi, rfl⟩ := List.getElem_of_mem ht
  have e1 := F59_115_eq (T := T) (by omega) 3 T[i].ID
  rw [findI_ids hT.ids hi] at e1
  obtain ⟨t', f, e, k1, k2, k3, k4, k5, k6, k7, k8, k9⟩ := F117_ok (hT.each _ (List.getElem_mem hi)) hon
  have h1 : (i : Int) < (T.length : Int) := by omega
  have c31 : ¬ (3 : Int) = 1 := by decide
  simp only [e1, c31, decide_true, decide_false, cond_true, cond_false, h1, Int.natCast_nonneg, Bool.and_self, Int.toNat_natCast, List.getElem?_eq_getElem hi, e, F116_eq lA]
  have core : (T.set i t').map coreT = runCore (T.map coreT) (v128 (T.map F91)) := by
   rw [← none_ hv, List.map_set]
   have hJ : coreT t' = coreT T[i] := by
    unfold coreT
    rw [k2, k3, k4, k5, k6, k7, k8, coreJ_run hm]
   rw [hJ]
   refine List.ext_getElem (by simp) fun j h1 h2 => ?_
   rw [List.getElem_set]
   split
   · rename_i e
     subst e
     rw [List.getElem_map]
   · rfl
  have mid := hT.set hi k1 k7 k6 k2
  have out : ∀ c, -1 ≤ c ∧ c ≤ 549755813888 → ∃ T' A' cur' f', some ((now, T.set i t', A.filter fun a => !inG gone a.ID, c), f) = some ((now, T', A', cur'), f') ∧ RunOK w T A T' A' cur' := fun c hcc => ⟨_, _, _, _, rfl, mid, hF, fun a ha => ⟨a, hsub a ha, rfl⟩, hcc, core⟩
  cases decide (findI ((A.filter fun a => !inG gone a.ID).map fun a => decide (a.ID = cur)) = -1) with
  | true => exact out (-1) (by omega)
  | false => exact out cur hc
 | none_ hv =>
  have c1 : ¬ (0 : Int) = 1 := by decide
  have c2 : ¬ (0 : Int) = 2 := by decide
  have c3 : ¬ (0 : Int) = 3 := by decide
  simp only [c1, c2, c3, decide_false, cond_false, F116_eq lA]
  have out : ∀ c, -1 ≤ c ∧ c ≤ 549755813888 → ∃ T' A' cur' f', some ((now, T, A.filter fun a => !inG gone a.ID, c), (0 : Int)) = some ((now, T', A', cur'), f') ∧ RunOK w T A T' A' cur' := fun c hcc => ⟨_, _, _, _, rfl, hT, hF, fun a ha => ⟨a, hsub a ha, rfl⟩, hcc, none_ hv⟩
  cases decide (findI ((A.filter fun a => !inG gone a.ID).map fun a => decide (a.ID = cur)) = -1) with
  | true => exact out (-1) (by omega)
  | false => exact out cur hc
 | ape id hv hx hn =>
  obtain ⟨x, hxA, rfl⟩ := hx
  generalize hB : (A.filter fun a => !inG gone a.ID) = B at *
  have hxB : x ∈ B := by
   rw [← hB]
   exact List.mem_filter.2 ⟨hxA, by rw [inG_not hn]; rfl⟩
  obtain ⟨i, hi, rfl⟩ := List.getElem_of_mem hxB
  have e1 := F116_eq lA B[i].ID
  rw [findI_ids hF.ids hi] at e1
  have hcur := hband rfl
  subst hcur
  have c1 : ¬ (2 : Int) = 1 := by decide
  have c3 : ¬ (2 : Int) = 3 := by decide
  have h1 : (i : Int) < (B.length : Int) := by omega
  have hlB := hF.len
  have ok := hF.each _ (List.getElem_mem hi)
  have hw : wI (B[i].Ran + 1) = B[i].Ran + 1 := wI_eq (by have := ok.ran; omega) (by have := ok.ran; have := ok.C; omega)
  have hl2 : ∀ y : Ape, i < (B.set i y).length := fun y => by simp; exact hi
  have hl3 : ∀ y : Ape, (i : Int) < ((B.set i y).length : Int) := fun y => by simp; omega
  simp only [c1, c3, decide_true, decide_false, cond_true, cond_false, e1, h1, hl3, Int.natCast_nonneg, Bool.and_self, Int.toNat_natCast, List.getElem?_eq_getElem hi, List.getElem?_eq_getElem (hl2 _), hw, List.getElem_set_self]
  obtain ⟨y, hY⟩ : ∃ y : Ape, y = Ape.mk B[i].ID B[i].Due B[i].C B[i].V (B[i].Ran + 1) := ⟨_, rfl⟩
  have hy : y.ID = B[i].ID := by rw [hY]
  have hset : ∀ a ∈ B.set i y, ∃ b ∈ A, b.ID = a.ID := fun a ha => by
   rcases List.mem_or_eq_of_mem_set ha with ha | rfl
   · exact ⟨a, hsub a ha, rfl⟩
   · exact ⟨B[i], hxA, hy.symm⟩
  have fin : ∀ (D : List Ape), ApesOK D → (∀ a ∈ D, ∃ b ∈ A, b.ID = a.ID) → ∀ f0 : Int, ∃ T' A' cur' f, (match F116 D B[i].ID with | some r26 => bif decide (r26 = (-1)) then some ((now, T, D, (-1 : Int)), f0) else some ((now, T, D, B[i].ID), f0) | none => none) = some ((now, T', A', cur'), f) ∧ RunOK w T A T' A' cur' := fun D hD hid f0 => by
   rw [F116_eq (by have := hD.len; omega)]
   have out : ∀ c, -1 ≤ c ∧ c ≤ 549755813888 → ∃ T' A' cur' f', some ((now, T, D, c), f0) = some ((now, T', A', cur'), f') ∧ RunOK w T A T' A' cur' := fun c hcc => ⟨_, _, _, _, rfl, hT, hD, hid, hcc, none_ hv⟩
   simp only
   cases decide (findI (D.map fun a => decide (a.ID = B[i].ID)) = -1) with
   | true => exact out (-1) (by omega)
   | false => exact out _ hc
  by_cases hd : B[i].C ≤ B[i].Ran + 1
  · have e8 := F118_eq (s := B.set i y) (i := i) (hl2 y)
    have hDok : ApesOK ((B.set i y).take i ++ (B.set i y).drop (i + 1)) := by
     have e : (B.set i y).take i ++ (B.set i y).drop (i + 1) = B.take i ++ B.drop (i + 1) := by
      rw [List.take_set_of_le (Nat.le_refl _), List.drop_set_of_lt (by omega)]
     rw [e]
     exact hF.sub (take_drop_sub i)
    have := fin ((B.set i y).take i ++ (B.set i y).drop (i + 1)) hDok (fun a ha => hset a ((take_drop_sub i).subset ha)) 1
    rw [wI_succ (by omega)]
    simp only [hd, decide_true, cond_true]
    rw [← hY]
    simp only [e8]
    exact this
  · have hok : ApesOK (B.set i y) := by
     rw [hY]
     exact hF.run hi (by omega)
    have := fin (B.set i y) hok hset 0
    simp only [hd, decide_false, cond_false]
    rw [← hY]
    exact this
end Go.Abs
end
