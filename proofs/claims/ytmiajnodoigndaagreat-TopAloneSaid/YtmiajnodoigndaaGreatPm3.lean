/- Own: the plain law, part 3. -/
import Derived.Test.YtmiajnodoigndaaGreatPm2
section
namespace Go.Abs
set_option linter.unusedVariables false
set_option linter.unusedSimpArgs false
theorem F63_alike {a b : Srv} (ha : Inv a) (hb : Inv b) (h : Rel a b) : ∃ r, F63 a.Now a.T a.A a.Cur a.On a.Since a.By a.New a.L a.NextID a.NextAp = some r ∧ F63 b.Now b.T b.A b.Cur b.On b.Since b.By b.New b.L b.NextID b.NextAp = some r := by
 obtain ⟨m, em⟩ := May_ok ha
 have em2 : May b = some m := by rw [← May_alike ha hb h]; exact em
 unfold May at em em2
 unfold F63
 rw [em, em2]
 simp only [F62_two, h.on]
 exact ⟨_, rfl, rfl⟩
theorem Inv.F64 {s : Srv} (h : Inv s) : Go.Abs.F64 s.Now s.T s.A s.Cur s.On s.Since s.By s.New s.L s.NextID s.NextAp = some s.tup := F64_eq s h.lT h.lA (by have := h.l; omega)
theorem Inv.put {s : Srv} (h : Inv s) {since by_ new_ nid : Int} {L : List Aim} (hL : L.length ≤ 4) : Inv ⟨s.Now, s.T, s.A, s.Cur, true, since, by_, new_, L, nid, s.NextAp⟩ := ⟨h.w, h.tasks, h.nat, h.aps, h.ids, hL⟩
theorem specs_alike {a b : Srv} (h : Rel a b) : a.T.map Task.S = b.T.map Task.S := h.tasks.map fun t u e => (coreT_fields e).2.1
theorem F50_alike {a b : Srv} (ha : Inv a) (hb : Inv b) (h : Rel a b) (p : Spec) : ∃ (a' b' : Srv) (id e : Int), F50 a.Now a.T a.A a.Cur a.On a.Since a.By a.New a.L a.NextID a.NextAp p = some (a'.tup, id, e) ∧ F50 b.Now b.T b.A b.Cur b.On b.Since b.By b.New b.L b.NextID b.NextAp p = some (b'.tup, id, e) ∧ Inv a' ∧ Inv b' ∧ Rel a' b' := by
 obtain ⟨r, er, er2⟩ := F63_alike ha hb h
 unfold F50
 rw [er, er2, ha.F64, hb.F64, F66_eq a ha.lT, F66_eq b hb.lT, ← specs_alike h, ← h.tasks.length, ← h.nid]
 obtain ⟨f, e, ef, hf⟩ := F65_ok (a.T.map Task.S ++ [p])
 have hble : Nat.ble (a.T.map Task.S ++ [p]).length 100000 = true := ble_t (by simp; have := ha.tasks.len; omega)
 simp only [F62_two, hble, cond_true, ef]
 have go : ∀ x : Int, ∃ (a' b' : Srv) (id e' : Int),
  (bif !decide (x = 0) then some (a.tup, -1, x) else bif !decide (e = 0) then some (a.tup, -1, e) else (match F67 fuel a.Now a.T a.A a.Cur a.On a.Since a.By a.New a.L (wI (a.NextID + 1)) a.NextAp a.NextID f with | some r7 => some (r7, a.NextID, 0) | none => none)) = some (a'.tup, id, e') ∧
  (bif !decide (x = 0) then some (b.tup, -1, x) else bif !decide (e = 0) then some (b.tup, -1, e) else (match F67 fuel b.Now b.T b.A b.Cur b.On b.Since b.By b.New b.L (wI (a.NextID + 1)) b.NextAp a.NextID f with | some r7 => some (r7, a.NextID, 0) | none => none)) = some (b'.tup, id, e') ∧ Inv a' ∧ Inv b' ∧ Rel a' b' := by
  intro x
  by_cases hx : x = 0
  · by_cases he : e = 0
    · obtain ⟨hf1, hf2⟩ := hf he
      obtain ⟨By, L, hL, e1, e2⟩ := F67_alike ha hb h (wI (a.NextID + 1)) a.NextID (f := f) (by omega)
      rw [e1, e2]
      refine ⟨⟨a.Now, a.T, a.A, a.Cur, true, a.Now, By, a.NextID, L, wI (a.NextID + 1), a.NextAp⟩, ⟨b.Now, b.T, b.A, b.Cur, true, b.Now, By, a.NextID, L, wI (a.NextID + 1), b.NextAp⟩, a.NextID, 0, ?_, ?_, ha.put (by omega), hb.put (by omega), ⟨h.now_, h.tasks, rfl, h.now_, rfl, rfl, rfl, rfl⟩⟩
      · simp only [hx, he, decide_true, Bool.not_true, cond_false]; rfl
      · simp only [hx, he, decide_true, Bool.not_true, cond_false]; rfl
    · exact ⟨a, b, -1, e, by simp only [hx, he, decide_true, decide_false, Bool.not_true, Bool.not_false, cond_false, cond_true], by simp only [hx, he, decide_true, decide_false, Bool.not_true, Bool.not_false, cond_false, cond_true], ha, hb, h⟩
  · exact ⟨a, b, -1, x, by simp only [hx, decide_false, Bool.not_false, cond_true], by simp only [hx, decide_false, Bool.not_false, cond_true], ha, hb, h⟩
 cases decide (4 ≤ (a.T.length : Int)) with
 | true => exact go _
 | false => exact go _
theorem F51_alike {a b : Srv} (ha : Inv a) (hb : Inv b) (h : Rel a b) (id t high : Int) : ∃ (a' b' : Srv) (e : Int), F51 a.Now a.T a.A a.Cur a.On a.Since a.By a.New a.L a.NextID a.NextAp id t high = some (a'.tup, e) ∧ F51 b.Now b.T b.A b.Cur b.On b.Since b.By b.New b.L b.NextID b.NextAp id t high = some (b'.tup, e) ∧ Inv a' ∧ Inv b' ∧ Rel a' b' := by
 obtain ⟨r, er, er2⟩ := F63_alike ha hb h
 have eids : (a.T.map fun t => decide (t.ID = id)) = b.T.map fun t => decide (t.ID = id) := h.tasks.map fun t u e => by rw [(coreT_fields e).1]
 unfold F51
 rw [er, er2, ha.F64, hb.F64, F66_eq a ha.lT, F66_eq b hb.lT, F68_eq a ha.lT, F68_eq b hb.lT, ← specs_alike h, ← eids, ← h.nid]
 simp only [F62_two]
 rcases findI_cases (a.T.map fun t => decide (t.ID = id)) with ⟨hi, _⟩ | ⟨i, hi, hi2, _⟩
 · rw [hi]
   have hF : F61 (decide ((-1 : Int) = -1)) 2 = 2 := rfl
   rw [hF]
   refine ⟨a, b, bif decide (r = 0) then 2 else r, ?_, ?_, ha, hb, h⟩
   all_goals
    by_cases hr : r = 0
    · simp only [hr, decide_true, cond_true]
      rfl
    · simp only [hr, decide_false, cond_false, Bool.not_false, cond_true]
      try rfl
 · have hil : i < a.T.length := by
    have := (List.getElem?_eq_some_iff.1 hi2).1
    simpa using this
   have hne : decide ((i : Int) = -1) = false := decide_eq_false (by omega)
   have h1 : (i : Int) < ((a.T.map Task.S).length : Int) := by rw [List.length_map]; omega
   have h2 : i < (a.T.map Task.S).length := by rw [List.length_map]; exact hil
   rw [hi, hne]
   have hF : F61 false 2 = 0 := rfl
   simp only [hF, h1, Int.natCast_nonneg, decide_true, Bool.and_self, cond_true, Int.toNat_natCast, List.getElem?_eq_getElem h2]
   by_cases hr : ¬ r = 0
   · refine ⟨a, b, r, ?_, ?_, ha, hb, h⟩
     all_goals
      simp only [hr, decide_false, cond_false, Bool.not_false, cond_true]
      try rfl
   have hr := Classical.not_not.1 hr
   obtain ⟨f, e, ef, hf⟩ := F65_ok ((a.T.map Task.S).set i (F69 (a.T.map Task.S)[i] t high).1)
   simp only [hr, decide_true, cond_true, Bool.not_true, cond_false, ef]
   cases hq : (F69 (a.T.map Task.S)[i] t high).2 with
   | false =>
    refine ⟨a, b, 1, ?_, ?_, ha, hb, h⟩
    all_goals rfl
   | true =>
    simp only [Bool.not_true, cond_false]
    by_cases he : e = 0
    · obtain ⟨hf1, hf2⟩ := hf he
      obtain ⟨By, L, hL, e1, e2⟩ := F67_alike ha hb h a.NextID (-1) (f := f) (by omega)
      rw [e1, e2]
      refine ⟨⟨a.Now, a.T, a.A, a.Cur, true, a.Now, By, -1, L, a.NextID, a.NextAp⟩, ⟨b.Now, b.T, b.A, b.Cur, true, b.Now, By, -1, L, a.NextID, b.NextAp⟩, 0, ?_, ?_, ha.put (by omega), hb.put (by omega), ⟨h.now_, h.tasks, rfl, h.now_, rfl, rfl, rfl, rfl⟩⟩
      · simp only [he, decide_true, Bool.not_true, cond_false]; rfl
      · simp only [he, decide_true, Bool.not_true, cond_false]; rfl
    · refine ⟨a, b, e, ?_, ?_, ha, hb, h⟩
      all_goals
       simp only [he, decide_false, cond_false, Bool.not_false, cond_true]
       try rfl
end Go.Abs
end
section
namespace Go.Abs
set_option linter.unusedVariables false
set_option linter.unusedSimpArgs false
section
variable {α R : Type}
theorem del_loop {xs : List α} (keep : α → Bool) {L : Nat → Int → Int → List α → Option R} {e0 : Int → List α → Option R}
 (hend : ∀ n i (j : Int) (ys : List α), ¬ j < (ys.length : Int) → L (n + 1) i j ys = e0 i ys)
 (hstep : ∀ n (i j : Nat) (ys : List α) (hj : j < ys.length) (hj' : (j : Int) < (ys.length : Int)) (hi : i < ys.length) (hi' : (i : Int) < (ys.length : Int)), L (n + 1) i j ys = bif keep ys[j] then L n (wI ((i : Int) + 1)) (wI ((j : Int) + 1)) (ys.set i ys[j]) else L n i (wI ((j : Int) + 1)) ys) :
 ∀ (k n i j : Nat) (ys : List α), ys.length = j + k → k < n → i < j → ys.length ≤ 100000 → ys.length = xs.length → ys.drop j = xs.drop j → ys.take i = (xs.take j).filter keep →
  ∃ (m : Nat) (zs : List α), L n i j ys = e0 m zs ∧ zs.take m = xs.filter keep ∧ m ≤ zs.length ∧ zs.length = xs.length := by
 intro k
 induction k with
 | zero =>
  intro n i j ys hk hn hij hl hlx hd ht
  obtain ⟨n, rfl⟩ : ∃ m, n = m + 1 := ⟨n - 1, by omega⟩
  refine ⟨i, ys, hend _ _ _ _ (by omega), ?_, by omega, hlx⟩
  rw [ht, List.take_of_length_le (by omega)]
 | succ k ih =>
  intro n i j ys hk hn hij hl hlx hd ht
  obtain ⟨n, rfl⟩ : ∃ m, n = m + 1 := ⟨n - 1, by omega⟩
  have hj : j < ys.length := by omega
  have hjx : j < xs.length := by omega
  have hi : i < ys.length := by omega
  have hx : ys[j] = xs[j] := by
   rw [List.drop_eq_getElem_cons hj, List.drop_eq_getElem_cons hjx] at hd
   exact (List.cons.inj hd).1
  have hd2 : ys.drop (j + 1) = xs.drop (j + 1) := by
   rw [List.drop_eq_getElem_cons hj, List.drop_eq_getElem_cons hjx] at hd
   exact (List.cons.inj hd).2
  rw [hstep n i j ys hj (by omega) hi (by omega), wI_succ (by omega), wI_succ (by omega)]
  cases hq : keep ys[j] with
  | true =>
   refine ih n (i + 1) (j + 1) _ (by simp; omega) (by omega) (by omega) (by simp; omega) (by simp; omega) ?_ ?_
   · rw [List.drop_set_of_lt (by omega)]
     exact hd2
   · have e1 : (ys.set i ys[j]).take (i + 1) = ys.take i ++ [ys[j]] := by
      rw [List.take_add_one, List.getElem?_set_self hi, List.take_set_of_le (Nat.le_refl _)]
      rfl
     have e2 : xs.take (j + 1) = xs.take j ++ [xs[j]] := by
      rw [List.take_add_one, List.getElem?_eq_getElem hjx]
      rfl
     rw [e1, e2, ht, List.filter_append, hx]
     rw [hx] at hq
     simp [hq]
  | false =>
   refine ih n i (j + 1) _ (by omega) (by omega) (by omega) hl hlx hd2 ?_
   rw [ht, List.take_add_one, List.getElem?_eq_getElem hjx, List.filter_append]
   rw [hx] at hq
   simp [hq]
theorem take_zeroed {zs : List α} {z : α} {m : Nat} (hm : m ≤ zs.length) : (zs.take m ++ (List.replicate (zs.length - m) z ++ zs.drop (m + (zs.length - m)))).take m = zs.take m := by
 have h : (zs.take m).length = m := by rw [List.length_take]; omega
 rw [List.take_append_of_le_length (by omega), List.take_take, Nat.min_self]
theorem zeroed_length {zs : List α} {z : α} {m : Nat} (hm : m ≤ zs.length) : (zs.take m ++ (List.replicate (zs.length - m) z ++ zs.drop (m + (zs.length - m)))).length = zs.length := by
 rw [List.length_append, List.length_append, List.length_take, List.length_replicate, List.length_drop]
 omega
def zeroK (z : α) (m : Int) (zs : List α) : Option (List α) := bif (decide (0 ≤ m) && decide (m ≤ (zs.length : Int))) then bif Nat.ble ((Int.toNat m) + (zs.length - (Int.toNat m))) zs.length then bif (decide (0 ≤ m) && decide (m ≤ ((zs.take (Int.toNat m) ++ (List.replicate (zs.length - (Int.toNat m)) z ++ zs.drop ((Int.toNat m) + (zs.length - (Int.toNat m))))).length : Int))) then bif Nat.ble ((Int.toNat m) - 0) ((zs.take (Int.toNat m) ++ (List.replicate (zs.length - (Int.toNat m)) z ++ zs.drop ((Int.toNat m) + (zs.length - (Int.toNat m))))).length) then some ((zs.take (Int.toNat m) ++ (List.replicate (zs.length - (Int.toNat m)) z ++ zs.drop ((Int.toNat m) + (zs.length - (Int.toNat m))))).take ((Int.toNat m) - 0)) else none else none else none else none
theorem zeroed {zs : List α} {z : α} {m : Nat} (hm : m ≤ zs.length) : zeroK z m zs = some (zs.take m) := by
 unfold zeroK
 have h1 : (m : Int) ≤ (zs.length : Int) := by omega
 rw [Int.toNat_natCast, zeroed_length hm, Nat.sub_zero, take_zeroed hm, ble_t (show m + (zs.length - m) ≤ zs.length by omega), ble_t hm]
 simp [h1]
end
theorem filter_first {α : Type} {xs : List α} {p : α → Bool} {i : Nat} (h : (xs.map p)[i]? = some true) (h2 : ∀ j, j < i → (xs.map p)[j]? = some false) : xs.take i = (xs.take (i + 1)).filter fun x => !p x := by
 have hi : i < xs.length := by
  have := (List.getElem?_eq_some_iff.1 h).1
  simpa using this
 have hp : p xs[i] = true := by
  rw [List.getElem?_map, List.getElem?_eq_getElem hi] at h
  simpa using h
 rw [List.take_add_one, List.getElem?_eq_getElem hi, List.filter_append]
 have e : (xs.take i).filter (fun x => !p x) = xs.take i := by
  rw [List.filter_eq_self]
  intro x hx
  obtain ⟨j, hj⟩ := List.mem_iff_getElem?.1 hx
  rw [List.getElem?_take] at hj
  split at hj
  case isFalse => cases hj
  rename_i hji
  have := h2 j hji
  rw [List.getElem?_map, hj] at this
  simp only [Option.map_some, Option.some.injEq] at this
  simp [this]
 rw [e]
 simp [hp]
theorem F59_72_eq {T : List Task} (hT : T.length ≤ 100000) (id : Int) : F59_72 fuel T id = some (findI (T.map fun t => decide (t.ID = id))) := by
 unfold F59_72
 exact index_loop (L := fun n i => L59_72_2 (fun z6 => some z6) (some (-1)) (T.length : Int) T id n i) (fun t : Task => decide (t.ID = id)) (by omega) (fun n i h => by
  simp only [L59_72_2, S59_72_2, h, decide_false, cond_false]) (fun n i h h' => by
  simp only [L59_72_2, S59_72_2, h', Int.natCast_nonneg, decide_true, Bool.and_self, cond_true, Int.toNat_natCast, List.getElem?_eq_getElem h]) (by unfold fuel; omega)
theorem F105_74_eq {T : List Aim} (hT : T.length ≤ 100000) (id : Int) : F105_74 fuel T id = some (findI (T.map fun t => decide (t.ID = id))) := by
 unfold F105_74
 exact index_loop (L := fun n i => L105_74_2 (fun z6 => some z6) (some (-1)) (T.length : Int) T id n i) (fun t : Aim => decide (t.ID = id)) (by omega) (fun n i h => by
  simp only [L105_74_2, S105_74_2, h, decide_false, cond_false]) (fun n i h h' => by
  simp only [L105_74_2, S105_74_2, h', Int.natCast_nonneg, decide_true, Bool.and_self, cond_true, Int.toNat_natCast, List.getElem?_eq_getElem h]) (by unfold fuel; omega)
theorem F71_eq {T : List Task} (hT : T.length ≤ 100000) (id : Int) : F71_72 fuel T id = some (T.filter fun t => !decide (t.ID = id)) := by
 unfold F71_72
 rw [F59_72_eq hT]
 rcases findI_cases (T.map fun t => decide (t.ID = id)) with ⟨h, h2⟩ | ⟨i, h, h1, h2⟩
 · rw [h]
   simp only [decide_true, cond_true, Option.some.injEq]
   rw [List.filter_eq_self.2]
   intro t ht
   have := h2 _ (List.mem_map.2 ⟨t, ht, rfl⟩)
   simp [this]
 · rw [h]
   have hi : i < T.length := by
    have := (List.getElem?_eq_some_iff.1 h1).1
    simpa using this
   have hne : ¬ ((i : Int) = -1) := by omega
   simp only [hne, decide_false, cond_false]
   rw [wI_succ (by omega)]
   have key : ∀ (z : Task) (lf : Nat), T.length < lf → L71_72_5 (zeroK z) id lf i ((i + 1 : Nat) : Int) T = some (T.filter fun t => !decide (t.ID = id)) := fun z lf hlf => by
    obtain ⟨m, zs, e, k1, k2, k3⟩ := del_loop (xs := T) (fun t : Task => !decide (t.ID = id)) (L := fun n i j ys => L71_72_5 (zeroK z) id n i j ys) (e0 := zeroK z) (fun n i j ys h => by
     rw [L71_72_5]
     simp only [S71_72_5, h, decide_false, cond_false]) (fun n i j ys hj hj' hi hi' => by
     rw [L71_72_5]
     simp only [S71_72_5, hj', hi', Int.natCast_nonneg, decide_true, Bool.and_self, cond_true, Int.toNat_natCast, List.getElem?_eq_getElem hj, List.getElem?_eq_getElem hi]) (T.length - (i + 1)) lf i (i + 1) T (by omega) (by omega) (by omega) hT rfl rfl (filter_first h1 h2)
    rw [e, zeroed k2, k1]
   exact key _ fuel (by unfold fuel; omega)
theorem F73_eq {T : List Aim} (hT : T.length ≤ 100000) (id : Int) : F73_74 fuel T id = some (T.filter fun t => !decide (t.ID = id)) := by
 unfold F73_74
 rw [F105_74_eq hT]
 rcases findI_cases (T.map fun t => decide (t.ID = id)) with ⟨h, h2⟩ | ⟨i, h, h1, h2⟩
 · rw [h]
   simp only [decide_true, cond_true, Option.some.injEq]
   rw [List.filter_eq_self.2]
   intro t ht
   have := h2 _ (List.mem_map.2 ⟨t, ht, rfl⟩)
   simp [this]
 · rw [h]
   have hi : i < T.length := by
    have := (List.getElem?_eq_some_iff.1 h1).1
    simpa using this
   have hne : ¬ ((i : Int) = -1) := by omega
   simp only [hne, decide_false, cond_false]
   rw [wI_succ (by omega)]
   have key : ∀ (z : Aim) (lf : Nat), T.length < lf → L73_74_5 (zeroK z) id lf i ((i + 1 : Nat) : Int) T = some (T.filter fun t => !decide (t.ID = id)) := fun z lf hlf => by
    obtain ⟨m, zs, e, k1, k2, k3⟩ := del_loop (xs := T) (fun t : Aim => !decide (t.ID = id)) (L := fun n i j ys => L73_74_5 (zeroK z) id n i j ys) (e0 := zeroK z) (fun n i j ys h => by
     rw [L73_74_5]
     simp only [S73_74_5, h, decide_false, cond_false]) (fun n i j ys hj hj' hi hi' => by
     rw [L73_74_5]
     simp only [S73_74_5, hj', hi', Int.natCast_nonneg, decide_true, Bool.and_self, cond_true, Int.toNat_natCast, List.getElem?_eq_getElem hj, List.getElem?_eq_getElem hi]) (T.length - (i + 1)) lf i (i + 1) T (by omega) (by omega) (by omega) hT rfl rfl (filter_first h1 h2)
    rw [e, zeroed k2, k1]
   exact key _ fuel (by unfold fuel; omega)
end Go.Abs
end
section
namespace Go.Abs
set_option linter.unusedVariables false
set_option linter.unusedSimpArgs false
theorem ids_pw {T : List Task} (h : ∀ (i : Nat) (h : i + 1 < T.length), T[i].ID < T[i + 1].ID) : T.Pairwise fun t u => t.ID < u.ID := by
 rw [List.pairwise_iff_getElem]
 intro i j hi hj hij
 obtain ⟨k, rfl⟩ : ∃ k, j = i + 1 + k := ⟨j - (i + 1), by omega⟩
 induction k with
 | zero => exact h i hj
 | succ k ih =>
  have h1 := ih (by omega) (by omega)
  have h2 := h (i + 1 + k) (by omega)
  show _ < T[i + 1 + k + 1].ID
  omega
theorem pw_ids {T : List Task} (h : T.Pairwise fun t u => t.ID < u.ID) : ∀ (i : Nat) (h : i + 1 < T.length), T[i].ID < T[i + 1].ID := fun i hi => List.pairwise_iff_getElem.1 h i (i + 1) (by omega) hi (by omega)
theorem TasksOK.filter {T : List Task} {now : Int} (h : TasksOK T now) (p : Task → Bool) : TasksOK (T.filter p) now :=
 ⟨Nat.le_trans (List.length_filter_le _ _) h.len, fun t ht => h.each t (List.mem_filter.1 ht).1, pw_ids ((ids_pw h.ids).filter p)⟩
theorem Alike.filter {Ta Tb : List Task} (h : Alike Ta Tb) (id : Int) : Alike (Ta.filter fun t => !decide (t.ID = id)) (Tb.filter fun t => !decide (t.ID = id)) := by
 have key : ∀ T : List Task, (T.filter fun t => !decide (t.ID = id)).map coreT = (T.map coreT).filter fun t => !decide (t.ID = id) := fun T => by
  rw [List.filter_map]
  rfl
 unfold Alike at *
 rw [key, key, h]
abbrev Tup := Int × List Task × List Ape × Int × Bool × Int × Int × Int × List Aim × Int × Int
def Two (X Y : Option (Tup × Int)) : Prop := ∃ (a b : Srv) (e : Int), X = some (a.tup, e) ∧ Y = some (b.tup, e) ∧ Inv a ∧ Inv b ∧ Rel a b
theorem two_bif {c : Bool} {X X' Y Y' : Option (Tup × Int)} (h1 : c = true → Two X Y) (h2 : c = false → Two X' Y') : Two (bif c then X else X') (bif c then Y else Y') := by
 cases c
 · exact h2 rfl
 · exact h1 rfl
theorem F52_alike {a b : Srv} (ha : Inv a) (hb : Inv b) (h : Rel a b) (id : Int) : Two (F52 a.Now a.T a.A a.Cur a.On a.Since a.By a.New a.L a.NextID a.NextAp id) (F52 b.Now b.T b.A b.Cur b.On b.Since b.By b.New b.L b.NextID b.NextAp id) := by
 obtain ⟨m, em⟩ := May_ok ha
 have em2 : May b = some m := by rw [← May_alike ha hb h]; exact em
 unfold May at em em2
 have eids : (a.T.map fun t => decide (t.ID = id)) = b.T.map fun t => decide (t.ID = id) := h.tasks.map fun t u e => by rw [(coreT_fields e).1]
 have e8a := F68_eq a ha.lT id
 have e8b := F68_eq b hb.lT id
 rw [← eids] at e8b
 have e1a := F71_eq ha.lT id
 have e1b := F71_eq hb.lT id
 have e3a := F73_eq (show a.L.length ≤ 100000 by have := ha.l; omega) id
 have e3b := F73_eq (show b.L.length ≤ 100000 by have := hb.l; omega) id
 have keep : ∀ e, Two (some (a.tup, e)) (some (b.tup, e)) := fun e => ⟨a, b, e, rfl, rfl, ha, hb, h⟩
 have undo : Two (some ((a.Now, a.T, a.A, a.Cur, false, 0, 0, -1, [], a.NextID, a.NextAp), 0)) (some ((b.Now, b.T, b.A, b.Cur, false, 0, 0, -1, [], b.NextID, b.NextAp), 0)) :=
  ⟨⟨a.Now, a.T, a.A, a.Cur, false, 0, 0, -1, [], a.NextID, a.NextAp⟩, ⟨b.Now, b.T, b.A, b.Cur, false, 0, 0, -1, [], b.NextID, b.NextAp⟩, 0, rfl, rfl,
   ⟨ha.w, ha.tasks, ha.nat, ha.aps, ha.ids, Nat.zero_le _⟩, ⟨hb.w, hb.tasks, hb.nat, hb.aps, hb.ids, Nat.zero_le _⟩, ⟨h.now_, h.tasks, rfl, rfl, rfl, rfl, rfl, h.nid⟩⟩
 have out : Two (some ((a.Now, a.T.filter fun t => !decide (t.ID = id), a.A, a.Cur, a.On, a.Since, a.By, a.New, a.L.filter fun t => !decide (t.ID = id), a.NextID, a.NextAp), 0)) (some ((b.Now, b.T.filter fun t => !decide (t.ID = id), b.A, b.Cur, b.On, b.Since, b.By, b.New, b.L.filter fun t => !decide (t.ID = id), b.NextID, b.NextAp), 0)) :=
  ⟨⟨a.Now, a.T.filter fun t => !decide (t.ID = id), a.A, a.Cur, a.On, a.Since, a.By, a.New, a.L.filter fun t => !decide (t.ID = id), a.NextID, a.NextAp⟩, ⟨b.Now, b.T.filter fun t => !decide (t.ID = id), b.A, b.Cur, b.On, b.Since, b.By, b.New, b.L.filter fun t => !decide (t.ID = id), b.NextID, b.NextAp⟩, 0, rfl, rfl,
   ⟨⟨ha.w.now_, ha.w.cur_, ha.w.apes⟩, ha.tasks.filter _, fun t ht => ha.nat t (List.mem_filter.1 ht).1, ha.aps, ha.ids, Nat.le_trans (List.length_filter_le _ _) ha.l⟩,
   ⟨⟨hb.w.now_, hb.w.cur_, hb.w.apes⟩, hb.tasks.filter _, fun t ht => hb.nat t (List.mem_filter.1 ht).1, hb.aps, hb.ids, Nat.le_trans (List.length_filter_le _ _) hb.l⟩,
   ⟨h.now_, h.tasks.filter id, h.on, h.since, h.by_, h.new_, by show a.L.filter _ = b.L.filter _; rw [h.l], h.nid⟩⟩
 unfold F52
 rw [ha.F64, hb.F64]
 dsimp only [Srv.tup]
 rw [em, em2, e8a, e8b, e1a, e1b, e3a, e3b, ← h.on, ← h.new_]
 simp only [F62_two]
 rw [← h.on, ← h.new_] at out
 unfold Srv.tup at keep
 rw [← h.on, ← h.new_] at keep
 repeat' first | exact keep _ | exact undo | exact out | refine two_bif (fun _ => ?_) fun _ => ?_
end Go.Abs
end
section
namespace Go.Abs
set_option linter.unusedVariables false
set_option linter.unusedSimpArgs false
structure Most (t : Task) (now : Int) : Prop where
 id : 0 ≤ t.ID ∧ t.ID ≤ 549755813888
 p : 1 ≤ t.P ∧ t.P ≤ 48
 ring : RingOK t.H
 at_ : now ≤ t.At ∧ t.At ≤ now + 48
 n : 0 ≤ t.N ∧ t.N ≤ 549755813888
 job : JobOK t.S t.J
 on : t.J.On = true → t.J.Rel < now ∧ t.J.Due = t.At ∧ t.N = t.J.J + 1
 hn : t.H.N = min (bif t.J.On then t.N - 1 else t.N) 60
 due : t.J.On = true → now < t.J.Due
theorem Most.iff {t : Task} {now : Int} (h : Most t now) : TaskOK t now ↔ (F104 t.S = true ∧ ∃ r, F134 t.S t.Next = some r ∧ r ≠ 0) :=
 ⟨fun k => ⟨k.spec, k.per⟩, fun k => ⟨h.id, h.p, h.ring, k.1, k.2, h.at_, h.n, h.job, h.on, h.hn⟩⟩
theorem TasksOK.most {T : List Task} {now : Int} (h : TasksOK T now) {t : Task} (ht : t ∈ T) : Most t now :=
 have k := (h.each t ht).1
 ⟨k.id, k.p, k.ring, k.at_, k.n, k.job, k.on, k.hn, (h.each t ht).2⟩
theorem Most.turn {t t' : Task} {now : Int} {s : Spec} {p : Int} {b : Bool} (h : Most t now) (e : F107 t s p = some (t', b)) : Most t' now := by
 unfold F107 at e
 obtain ⟨r, er⟩ := F134_ok s p
 rw [er] at e
 by_cases h1 : s.C = t.S.C
 · by_cases h2 : s.M = t.S.M
   · by_cases h3 : s.K = t.S.K
     · by_cases h4 : r = 0
       · simp [h1, h2, h3, h4] at e
         rw [← e.1]
         exact h
       · simp [h1, h2, h3, h4] at e
         rw [← e.1]
         refine ⟨h.id, h.p, h.ring, h.at_, h.n, ?_, h.on, h.hn, h.due⟩
         have := h.job
         unfold JobOK at this ⊢
         simp only [h1, h2, h3]
         exact this
     · simp [h1, h2, h3] at e
       rw [← e.1]
       exact h
   · simp [h1, h2] at e
     rw [← e.1]
     exact h
 · simp [h1] at e
   rw [← e.1]
   exact h
def Sib (now : Int) (t u : Task) : Prop := coreT t = coreT u ∧ (t = u ∨ (Most t now ∧ Most u now)) ∧ t.N ≤ t.At
def Sibs (now : Int) (Ta Tb : List Task) : Prop := Ta.length = Tb.length ∧ ∀ (i : Nat) (ha : i < Ta.length) (hb : i < Tb.length), Sib now Ta[i] Tb[i]
theorem Sib.ok {now : Int} {t u : Task} (h : Sib now t u) : (TaskOK t now ∧ (t.J.On = true → now < t.J.Due)) ↔ (TaskOK u now ∧ (u.J.On = true → now < u.J.Due)) := by
 obtain ⟨hc, rfl | ⟨h1, h2⟩, _⟩ := h
 · exact Iff.rfl
 · rw [h1.iff, h2.iff]
   obtain ⟨_, e2, _, e4, _⟩ := coreT_fields hc
   rw [e2, e4]
   exact ⟨fun k => ⟨k.1, h2.due⟩, fun k => ⟨k.1, h1.due⟩⟩
theorem Sibs.alike {now : Int} {Ta Tb : List Task} (h : Sibs now Ta Tb) : Alike Ta Tb := by
 unfold Alike
 refine List.ext_getElem (by simp [h.1]) fun i h1 h2 => ?_
 rw [List.getElem_map, List.getElem_map]
 exact (h.2 i (by simpa using h1) (by simpa using h2)).1
theorem Sibs.ok {now : Int} {Ta Tb : List Task} (h : Sibs now Ta Tb) : TasksOK Ta now ↔ TasksOK Tb now := by
 have hl := h.1
 constructor
 · intro k
   refine ⟨by have := k.len; omega, fun t ht => ?_, fun i hi => ?_⟩
   · obtain ⟨j, hj, rfl⟩ := List.getElem_of_mem ht
     exact ((h.2 j (by omega) hj).ok).1 (k.each _ (List.getElem_mem _))
   · rw [← (coreT_fields (h.2 i (by omega) (by omega)).1).1, ← (coreT_fields (h.2 (i + 1) (by omega) hi).1).1]
     exact k.ids i (by omega)
 · intro k
   refine ⟨by have := k.len; omega, fun t ht => ?_, fun i hi => ?_⟩
   · obtain ⟨j, hj, rfl⟩ := List.getElem_of_mem ht
     exact ((h.2 j hj (by omega)).ok).2 (k.each _ (List.getElem_mem _))
   · rw [(coreT_fields (h.2 i (by omega) (by omega)).1).1, (coreT_fields (h.2 (i + 1) hi (by omega)).1).1]
     exact k.ids i (by omega)
theorem F30_sibs {now ca cb : Int} {Ta Tb : List Task} {Aa Ab : List Ape} (ha : WOK now Ta Aa ca) (hb : WOK now Tb Ab cb) (h : Sibs now Ta Tb) (hl : Ta.length ≤ 100000) : ∃ r, F30 fuel now Ta Aa ca = some r ∧ F30 fuel now Tb Ab cb = some r ∧ (r = true → TasksOK Ta now ∧ TasksOK Tb now) := by
 obtain ⟨r, e, hr⟩ := F30_ok ha hl
 obtain ⟨r2, e2, hr2⟩ := F30_ok hb (by rw [← h.1]; exact hl)
 by_cases k : TasksOK Ta now
 · have k2 := h.ok.1 k
   have := F30_alike ha hb k k2 h.alike
   rw [e, e2, Option.some.injEq] at this
   rw [← this] at e2
   exact ⟨r, e, e2, fun _ => ⟨k, k2⟩⟩
 · have k2 : ¬ TasksOK Tb now := fun k2 => k (h.ok.2 k2)
   have f1 : r = false := by
    cases r
    · rfl
    · exact (k (hr rfl)).elim
   have f2 : r2 = false := by
    cases r2
    · rfl
    · exact (k2 (hr2 rfl)).elim
   subst f1 f2
   exact ⟨false, e, e2, fun h => by cases h⟩
theorem L75_sibs {L : List Aim} {now : Int} (h0 : 0 ≤ now ∧ now ≤ 549755813888) (hL : L.length ≤ 4)
 {a5 : List Task} {a6 : List Ape} {a8 a9 : Int} {a10 : Bool} {a11 a12 a13 a14 a15 a16 a17 : Int} {a18 : List Ape} {a19 : List Aim} {a21 : Int}
 {b5 : List Task} {b6 : List Ape} {b8 b9 : Int} {b10 : Bool} {b11 b12 b13 b14 b15 b16 b17 : Int} {b18 : List Ape} {b19 : List Aim} {b21 : Int} :
 ∀ (k n i : Nat) (Ta Tb : List Task), L.length = i + k → k < n → Ta.length ≤ 4 + i → Sibs now Ta Tb →
  ∃ Ta' Tb', Ta'.length ≤ 8 ∧ Sibs now Ta' Tb' ∧ (∀ {R : Type} (e0 : List Task → Option R), L75_6 e0 (L.length : Int) a5 a6 L a8 a9 a10 a11 a12 a13 a14 a15 a16 a17 a18 a19 now a21 n i Ta = e0 Ta') ∧
   (∀ {R : Type} (e0 : List Task → Option R), L75_6 e0 (L.length : Int) b5 b6 L b8 b9 b10 b11 b12 b13 b14 b15 b16 b17 b18 b19 now b21 n i Tb = e0 Tb') := by
 intro k
 induction k with
 | zero =>
  intro n i Ta Tb hi hn hl h
  obtain ⟨n, rfl⟩ : ∃ m, n = m + 1 := ⟨n - 1, by omega⟩
  have h1 : ¬ (i : Int) < (L.length : Int) := by omega
  refine ⟨Ta, Tb, by omega, h, fun e => ?_, fun e => ?_⟩ <;>
  · rw [L75_6]
    simp only [S75_6, h1, decide_false, cond_false]
 | succ k ih =>
  intro n i Ta Tb hi hn hl h
  obtain ⟨n, rfl⟩ : ∃ m, n = m + 1 := ⟨n - 1, by omega⟩
  have h1 : (i : Int) < (L.length : Int) := by omega
  have h2 : i < L.length := by omega
  by_cases hi2 : i < Ta.length
  · have hi3 : i < Tb.length := by rw [← h.1]; exact hi2
    have hc1 : (i : Int) < (Ta.length : Int) := by omega
    have hc2 : (i : Int) < (Tb.length : Int) := by omega
    have hs := h.2 i hi2 hi3
    obtain ⟨t', u', b, e1, e2, e3, e4, e5⟩ := F107_core hs.1 L[i].S L[i].P
    obtain ⟨Ta', Tb', q1, q2, q3, q4⟩ := ih n (i + 1) (Ta.set i t') (Tb.set i u') (by omega) (by omega) (by simp; omega) ⟨by simp [h.1], fun j hj hj2 => by
     rw [List.getElem_set, List.getElem_set]
     split
     · refine ⟨e3, ?_, by rw [e4, e5]; exact hs.2.2⟩
       rcases hs.2.1 with he | ⟨m1, m2⟩
       · rw [he, e2] at e1
         cases e1
         exact .inl rfl
       · exact .inr ⟨m1.turn e1, m2.turn e2⟩
     · exact h.2 j (by simpa using hj) (by simpa using hj2)⟩
    refine ⟨Ta', Tb', q1, q2, fun e => ?_, fun e => ?_⟩
    · rw [L75_6, ← q3 e]
      simp only [S75_6, h1, Int.natCast_nonneg, decide_true, Bool.and_self, cond_true, Int.toNat_natCast, List.getElem?_eq_getElem h2, hc1, List.getElem?_eq_getElem hi2, e1]
      rw [wI_succ (by omega)]
    · rw [L75_6, ← q4 e]
      simp only [S75_6, h1, Int.natCast_nonneg, decide_true, Bool.and_self, cond_true, Int.toNat_natCast, List.getElem?_eq_getElem h2, hc2, List.getElem?_eq_getElem hi3, e2]
      rw [wI_succ (by omega)]
  · have hc1 : ¬ (i : Int) < (Ta.length : Int) := by omega
    have hc2 : ¬ (i : Int) < (Tb.length : Int) := by rw [← h.1]; omega
    obtain ⟨t, b, et, hb⟩ := F108_ok L[i].ID L[i].S L[i].P h0
    cases b with
    | false =>
     obtain ⟨Ta', Tb', q1, q2, q3, q4⟩ := ih n (i + 1) Ta Tb (by omega) (by omega) (by omega) h
     refine ⟨Ta', Tb', q1, q2, fun e => ?_, fun e => ?_⟩
     · rw [L75_6, ← q3 e]
       simp only [S75_6, h1, Int.natCast_nonneg, decide_true, Bool.and_self, cond_true, Int.toNat_natCast, List.getElem?_eq_getElem h2, hc1, et, decide_false, cond_false]
       rw [wI_succ (by omega)]
     · rw [L75_6, ← q4 e]
       simp only [S75_6, h1, Int.natCast_nonneg, decide_true, Bool.and_self, cond_true, Int.toNat_natCast, List.getElem?_eq_getElem h2, hc2, et, decide_false, cond_false]
       rw [wI_succ (by omega)]
    | true =>
     obtain ⟨n1, n2, _⟩ := hb rfl
     have hl2 := h.1
     have l1 : (Ta ++ [t]).length ≤ 100000 := by simp; omega
     have l2 : (Tb ++ [t]).length ≤ 100000 := by simp; omega
     obtain ⟨Ta', Tb', q1, q2, q3, q4⟩ := ih n (i + 1) (Ta ++ [t]) (Tb ++ [t]) (by omega) (by omega) (by simp; omega) ⟨by simp [h.1], fun j hj hj2 => by
      rw [List.getElem_append, List.getElem_append]
      by_cases hj3 : j < Ta.length
      · have hj4 : j < Tb.length := by omega
        simp only [hj3, hj4, dite_true]
        exact h.2 j hj3 hj4
      · have hj4 : ¬ j < Tb.length := by omega
        simp only [hj3, hj4, dite_false, List.getElem_singleton]
        exact ⟨rfl, .inl rfl, by omega⟩⟩
     refine ⟨Ta', Tb', q1, q2, fun e => ?_, fun e => ?_⟩
     · rw [L75_6, ← q3 e]
       simp only [S75_6, h1, Int.natCast_nonneg, decide_true, Bool.and_self, cond_true, Int.toNat_natCast, List.getElem?_eq_getElem h2, hc1, et, decide_false, cond_false, ble_t l1]
       rw [wI_succ (by omega)]
     · rw [L75_6, ← q4 e]
       simp only [S75_6, h1, Int.natCast_nonneg, decide_true, Bool.and_self, cond_true, Int.toNat_natCast, List.getElem?_eq_getElem h2, hc2, et, decide_false, cond_false, ble_t l2]
       rw [wI_succ (by omega)]
theorem F53_alike {a b : Srv} (ha : Inv a) (hb : Inv b) (h : Rel a b) : ∃ (a' b' : Srv) (r : Bool), F53 a.Now a.T a.A a.Cur a.On a.Since a.By a.New a.L a.NextID a.NextAp = some (a'.tup, r) ∧ F53 b.Now b.T b.A b.Cur b.On b.Since b.By b.New b.L b.NextID b.NextAp = some (b'.tup, r) ∧ Inv a' ∧ Inv b' ∧ Rel a' b' ∧ a'.Now = a.Now := by
 obtain ⟨m, em⟩ := May_ok ha
 have em2 : May b = some m := by rw [← May_alike ha hb h]; exact em
 unfold May at em em2
 have sib : Sibs a.Now a.T b.T := ⟨h.tasks.length, fun i hi1 hi2 => ⟨h.tasks.get hi1 hi2, .inr ⟨ha.tasks.most (List.getElem_mem hi1), by rw [h.now_]; exact hb.tasks.most (List.getElem_mem hi2)⟩, ha.nat _ (List.getElem_mem hi1)⟩⟩
 have h0 : 0 ≤ a.Now ∧ a.Now ≤ 549755813888 := ⟨ha.w.now_.1, by have := ha.w.now_.2; omega⟩
 unfold F53 F75
 rw [ha.F64, hb.F64]
 dsimp only [Srv.tup]
 rw [em, em2]
 have stay : ∃ (a' b' : Srv) (r : Bool), some ((a.Now, a.T, a.A, a.Cur, a.On, a.Since, a.By, a.New, a.L, a.NextID, a.NextAp), false) = some (a'.tup, r) ∧ some ((b.Now, b.T, b.A, b.Cur, b.On, b.Since, b.By, b.New, b.L, b.NextID, b.NextAp), false) = some (b'.tup, r) ∧ Inv a' ∧ Inv b' ∧ Rel a' b' ∧ a'.Now = a.Now := ⟨a, b, false, rfl, rfl, ha, hb, h, rfl⟩
 rw [← h.on]
 rw [← h.on] at stay
 cases m with
 | false => exact stay
 | true =>
  cases hon : a.On with
  | false => rw [hon] at stay; exact stay
  | true =>
   rw [hon] at stay
   obtain ⟨Ta, Tb, hl, hs, e1, e2⟩ := L75_sibs h0 ha.l (a5 := a.T) (a6 := a.A) (a8 := a.Now) (a9 := a.Cur) (a10 := true) (a11 := a.Since) (a12 := a.By) (a13 := a.New) (a14 := a.NextID) (a15 := a.NextAp) (a16 := 0) (a17 := 0) (a18 := a.A) (a19 := a.L) (a21 := a.Cur) (b5 := b.T) (b6 := b.A) (b8 := a.Now) (b9 := b.Cur) (b10 := true) (b11 := b.Since) (b12 := b.By) (b13 := b.New) (b14 := a.NextID) (b15 := b.NextAp) (b16 := 0) (b17 := 0) (b18 := b.A) (b19 := a.L) (b21 := b.Cur) a.L.length fuel 0 a.T b.T (by omega) (by have := ha.l; unfold fuel; omega) (by have := ha.tasks.len; omega) sib
   have wa : WOK a.Now Ta a.A a.Cur := ⟨ha.w.now_, ha.w.cur_, ha.w.apes⟩
   have wb : WOK a.Now Tb b.A b.Cur := ⟨ha.w.now_, hb.w.cur_, hb.w.apes⟩
   obtain ⟨r, f1, f2, hr⟩ := F30_sibs wa wb hs (by omega)
   have e1 : ∀ {R : Type} (e0 : List Task → Option R), L75_6 e0 _ _ _ _ _ _ _ _ _ _ _ _ _ _ _ _ _ _ fuel 0 a.T = e0 Ta := e1
   have e2 : ∀ {R : Type} (e0 : List Task → Option R), L75_6 e0 _ _ _ _ _ _ _ _ _ _ _ _ _ _ _ _ _ _ fuel 0 b.T = e0 Tb := e2
   simp only [Bool.not_true, cond_false]
   rw [← h.l, ← h.now_, ← h.nid, e1, e2, f1, f2]
   cases r with
   | false => rw [← h.l, ← h.now_, ← h.nid] at stay; exact stay
   | true =>
    obtain ⟨k1, k2⟩ := hr rfl
    refine ⟨⟨a.Now, Ta, a.A, a.Cur, false, 0, 0, -1, [], a.NextID, a.NextAp⟩, ⟨a.Now, Tb, b.A, b.Cur, false, 0, 0, -1, [], a.NextID, b.NextAp⟩, true, rfl, rfl, ⟨wa, k1, fun t ht => ?_, ha.aps, ha.ids, Nat.zero_le _⟩, ⟨wb, k2, fun t ht => ?_, hb.aps, hb.ids, Nat.zero_le _⟩, ⟨rfl, hs.alike, rfl, rfl, rfl, rfl, rfl, rfl⟩, rfl⟩
    · obtain ⟨j, hj, rfl⟩ := List.getElem_of_mem ht
      exact (hs.2 j hj (by rw [← hs.1]; exact hj)).2.2
    · obtain ⟨j, hj, rfl⟩ := List.getElem_of_mem ht
      have q := hs.2 j (by rw [hs.1]; exact hj) hj
      obtain ⟨_, _, _, _, q5, q6, _⟩ := coreT_fields q.1
      rw [← q5, ← q6]
      exact q.2.2
end Go.Abs
end
section
namespace Go.Abs
set_option linter.unusedVariables false
set_option linter.unusedSimpArgs false
section
variable {α : Type}
def keysM (l : List (Int × α)) : List Int := l.map Prod.fst
theorem getM_keys {k : Int} : ∀ {l : List (Int × α)}, (getM l k).isSome = true → k ∈ keysM l
 | [], h => by simp [getM] at h
 | x :: l, h => by
  by_cases hk : k = x.1
  · exact List.mem_cons.2 (.inl hk)
  · rw [getM, if_neg hk] at h
    exact List.mem_cons.2 (.inr (getM_keys h))
theorem putM_keys {k : Int} {v : α} {k2 : Int} : ∀ {l : List (Int × α)}, k2 ∈ keysM (putM l k v) → k2 = k ∨ k2 ∈ keysM l
 | [], h => .inl (by simpa [putM, keysM] using h)
 | x :: l, h => by
  by_cases hk : k = x.1
  · rw [putM, if_pos hk] at h
    rcases List.mem_cons.1 h with h | h
    · exact .inl h
    · exact .inr (List.mem_cons.2 (.inr h))
  · rw [putM, if_neg hk] at h
    rcases List.mem_cons.1 h with h | h
    · exact .inr (List.mem_cons.2 (.inl h))
    · rcases putM_keys h with h | h
      · exact .inl h
      · exact .inr (List.mem_cons.2 (.inr h))
theorem putM_nodup {k : Int} {v : α} : ∀ {l : List (Int × α)}, (keysM l).Nodup → (keysM (putM l k v)).Nodup
 | [], _ => by simp [putM, keysM]
 | x :: l, h => by
  have h : (x.1 :: keysM l).Nodup := h
  rw [List.nodup_cons] at h
  by_cases hk : k = x.1
  · rw [putM, if_pos hk]
    show (k :: keysM l).Nodup
    rw [hk, List.nodup_cons]
    exact h
  · rw [putM, if_neg hk]
    show (x.1 :: keysM (putM l k v)).Nodup
    rw [List.nodup_cons]
    refine ⟨fun hm => ?_, putM_nodup h.2⟩
    rcases putM_keys hm with h1 | h1
    · exact hk h1.symm
    · exact h.1 h1
theorem delM_keys {k : Int} {k2 : Int} : ∀ {l : List (Int × α)}, (keysM l).Nodup → k2 ∈ keysM (delM l k) → k2 ≠ k ∧ k2 ∈ keysM l
 | [], _, h => by simp [delM, keysM] at h
 | x :: l, hn, h => by
  have hn : (x.1 :: keysM l).Nodup := hn
  rw [List.nodup_cons] at hn
  by_cases hk : k = x.1
  · rw [delM, if_pos hk] at h
    exact ⟨fun e => hn.1 (by rw [← hk, ← e]; exact h), List.mem_cons.2 (.inr h)⟩
  · rw [delM, if_neg hk] at h
    rcases List.mem_cons.1 h with h | h
    · exact ⟨fun e => hk (by rw [← e, h]), List.mem_cons.2 (.inl h)⟩
    · obtain ⟨h1, h2⟩ := delM_keys hn.2 h
      exact ⟨h1, List.mem_cons.2 (.inr h2)⟩
theorem delM_nodup {k : Int} : ∀ {l : List (Int × α)}, (keysM l).Nodup → (keysM (delM l k)).Nodup
 | [], _ => by simp [delM, keysM]
 | x :: l, hn => by
  have hn : (x.1 :: keysM l).Nodup := hn
  rw [List.nodup_cons] at hn
  by_cases hk : k = x.1
  · rw [delM, if_pos hk]
    exact hn.2
  · rw [delM, if_neg hk]
    show (x.1 :: keysM (delM l k)).Nodup
    rw [List.nodup_cons]
    exact ⟨fun hm => hn.1 (delM_keys hn.2 hm).2, delM_nodup hn.2⟩
end
def Of (A S : List Ape) : Prop := S.length = A.length ∧ ∀ x ∈ S, x ∈ A
theorem Of.swap {A S : List Ape} (h : Of A S) {i j : Nat} {x y : Ape} (hx : x ∈ S) (hy : y ∈ S) : Of A ((S.set i x).set j y) := by
 refine ⟨by simp [h.1], fun z hz => ?_⟩
 rcases List.mem_or_eq_of_mem_set hz with hz | rfl
 · rcases List.mem_or_eq_of_mem_set hz with hz | rfl
   · exact h.2 _ hz
   · exact h.2 _ hx
 · exact h.2 _ hy
theorem L154_4_ok {A l : List Ape} {y14 y15 : Int} (hA : A.length ≤ 4) : ∀ (j n : Nat) (S : List Ape), j < n → j < S.length → Of A S →
 ∃ S', Of A S' ∧ ∀ {R : Type} (e0 : List Ape → Option R), L154_207_4 e0 0 y14 y15 l n j S = e0 S' := by
 intro j
 induction j with
 | zero =>
  intro n S hn hj h
  obtain ⟨n, rfl⟩ : ∃ m, n = m + 1 := ⟨n - 1, by omega⟩
  refine ⟨S, h, fun e => ?_⟩
  rw [L154_207_4]
  simp [S154_207_4]
 | succ j ih =>
  intro n S hn hj h
  obtain ⟨n, rfl⟩ : ∃ m, n = m + 1 := ⟨n - 1, by omega⟩
  have h1 : (0 : Int) < ((j + 1 : Nat) : Int) := by omega
  have h2 : ((j + 1 : Nat) : Int) < (S.length : Int) := by omega
  have hl := h.1
  have hw : wI (((j + 1 : Nat) : Int) - 1) = (j : Int) := by rw [wI_eq (by omega) (by omega)]; omega
  have h3 : (j : Int) < (S.length : Int) := by omega
  have h4 : j < S.length := by omega
  by_cases hc : F185 S[j + 1] S[j] < 0
  · obtain ⟨S', q1, q2⟩ := ih n ((S.set (j + 1) S[j]).set j S[j + 1]) (by omega) (by simp; omega) (h.swap (List.getElem_mem h4) (List.getElem_mem hj))
    refine ⟨S', q1, fun e => ?_⟩
    rw [L154_207_4, ← q2 e]
    have h5 : (j : Int) < ((S.set (j + 1) S[j]).length : Int) := by simp; omega
    have h6 : j < (S.set (j + 1) S[j]).length := by simp; omega
    simp only [S154_207_4, h1, h2, hw, h3, h5, Int.natCast_nonneg, decide_true, Bool.and_self, cond_true, Int.toNat_natCast, List.getElem?_eq_getElem hj, List.getElem?_eq_getElem h4, List.getElem?_eq_getElem h6, hc]
  · refine ⟨S, h, fun e => ?_⟩
    rw [L154_207_4]
    simp only [S154_207_4, h1, h2, hw, h3, Int.natCast_nonneg, decide_true, decide_false, Bool.and_self, cond_true, cond_false, Int.toNat_natCast, List.getElem?_eq_getElem hj, List.getElem?_eq_getElem h4, hc]
theorem L154_1_ok {A l : List Ape} (hA : A.length ≤ 4) : ∀ (k n j : Nat) (S : List Ape), A.length ≤ j + k → k < n → Of A S →
 ∃ S', Of A S' ∧ ∀ {R : Type} (e0 : List Ape → Option R), L154_207_1 fuel e0 0 (A.length : Int) l n j S = e0 S' := by
 intro k
 induction k with
 | zero =>
  intro n j S hk hn h
  obtain ⟨n, rfl⟩ : ∃ m, n = m + 1 := ⟨n - 1, by omega⟩
  have h1 : ¬ (j : Int) < (A.length : Int) := by omega
  refine ⟨S, h, fun e => ?_⟩
  rw [L154_207_1]
  simp only [S154_207_1, h1, decide_false, cond_false]
 | succ k ih =>
  intro n j S hk hn h
  obtain ⟨n, rfl⟩ : ∃ m, n = m + 1 := ⟨n - 1, by omega⟩
  by_cases h1 : (j : Int) < (A.length : Int)
  · obtain ⟨S1, q1, q2⟩ := L154_4_ok (l := l) (y14 := (A.length : Int)) (y15 := (j : Int)) hA j fuel S (by unfold fuel; omega) (by rw [h.1]; omega) h
    obtain ⟨S2, q3, q4⟩ := ih n (j + 1) S1 (by omega) (by omega) q1
    refine ⟨S2, q3, fun e => ?_⟩
    rw [L154_207_1]
    simp only [S154_207_1, h1, decide_true, cond_true]
    rw [q2, wI_succ (by omega), q4]
  · refine ⟨S, h, fun e => ?_⟩
    rw [L154_207_1]
    simp only [S154_207_1, h1, decide_false, cond_false]
theorem F154_ok {A : List Ape} (hA : A.length ≤ 4) : ∃ S, F154 fuel A = some S ∧ Of A S := by
 obtain ⟨S, q1, q2⟩ := L154_1_ok (l := A) hA 4 fuel 1 A (by omega) (by unfold fuel; omega) ⟨rfl, fun x h => h⟩
 refine ⟨S, ?_, q1⟩
 unfold F154
 rw [cloneB_eq (by omega)]
 simp only
 have h1 : ¬ (20 : Int) ≤ (A.length : Int) := by omega
 have h2 : ¬ (20 : Int) < (A.length : Int) := by omega
 have hw : wI (0 + 1) = ((1 : Nat) : Int) := wI_eq (by decide) (by decide)
 have key : ∀ n m, L154_198_2 fuel (fun z27 z28 => L154_207_1 fuel (fun z29 => L154_198_7 fuel (some z29) (A.length : Int) A z29 (m + 1) 20) z27 (A.length : Int) A fuel (wI (z27 + 1)) z28) (A.length : Int) 20 A (n + 1) 0 20 A = some S := fun n m => by
  rw [L154_198_2]
  simp only [S154_198_2, h1, decide_false, cond_false]
  rw [hw, q2, L154_198_7]
  simp only [S154_198_7, h2, decide_false, cond_false]
 exact key _ _
theorem F155_ok {A : List Ape} (hA : A.length ≤ 4) (now : Int) : Ok (F155 fuel A now) := by
 unfold F155
 obtain ⟨S, e, hS⟩ := F154_ok hA
 rw [e]
 have key : ∀ (k n i : Nat) (y : Int), S.length = i + k → k < n → Ok (L155_2 (fun z8 => some z8) (some true) (S.length : Int) A S n y i) := by
  intro k
  induction k with
  | zero =>
   intro n i y hi hn
   obtain ⟨n, rfl⟩ : ∃ m, n = m + 1 := ⟨n - 1, by omega⟩
   have h1 : ¬ (i : Int) < (S.length : Int) := by omega
   rw [L155_2]
   simp only [S155_2, h1, decide_false, cond_false]
   exact .intro _
  | succ k ih =>
   intro n i y hi hn
   obtain ⟨n, rfl⟩ : ∃ m, n = m + 1 := ⟨n - 1, by omega⟩
   have h1 : (i : Int) < (S.length : Int) := by omega
   have h2 : i < S.length := by omega
   have hl := hS.1
   rw [L155_2]
   simp only [S155_2, h1, Int.natCast_nonneg, decide_true, Bool.and_self, cond_true, Int.toNat_natCast, List.getElem?_eq_getElem h2]
   rw [wI_succ (by omega)]
   exact bif_ok (fun _ => .intro _) fun _ => ih n (i + 1) _ (by omega) (by omega)
 exact key S.length fuel 0 now (by omega) (by have := hS.1; unfold fuel; omega)
end Go.Abs
end
