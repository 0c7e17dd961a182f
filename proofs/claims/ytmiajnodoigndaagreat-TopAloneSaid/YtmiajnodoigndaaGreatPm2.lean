/- Own: the plain law, part 2. -/
import Derived.Test.YtmiajnodoigndaaGreatPm1
section
namespace Go.Abs
set_option linter.unusedVariables false
set_option linter.unusedSimpArgs false
theorem F164_ok {l : List Int} (hl : l.length ≤ 100000) : Ok (F164 fuel l) := by
 unfold F164
 refine bif_ok (fun _ => .intro _) fun h => ?_
 simp only [F190]
 have hl : l.length ≤ 1000 := by simp at h; omega
 clear h
 have inner : ∀ (e1 : Int → Option (Int × Bool)) (a b c d : Nat) (y11 : Int), (∀ z, Ok (e1 z)) → c + d ≤ l.length → ∀ (k n i : Nat) (s : Int), d = i + k → k < n → Ok (L164_8 (fun z20 z21 z22 => some (z20, z21)) e1 a b y11 c d (d : Int) l 0 1099511627776 n s i) := by
  intro e1 a b c d y11 he1 hcd k
  induction k with
  | zero =>
   intro n i s hi hn
   obtain ⟨n, rfl⟩ : ∃ m, n = m + 1 := ⟨n - 1, by omega⟩
   show Ok (S164_8 _ _ _ _ _ _ _ _ _ _ _ (L164_8 _ _ _ _ _ _ _ _ _ _ _ n) _ _)
   have h1 : ¬ (i : Int) < (d : Int) := by omega
   simp only [S164_8, h1, decide_false, cond_false]
   exact he1 _
  | succ k ih =>
   intro n i s hi hn
   obtain ⟨n, rfl⟩ : ∃ m, n = m + 1 := ⟨n - 1, by omega⟩
   show Ok (S164_8 _ _ _ _ _ _ _ _ _ _ _ (L164_8 _ _ _ _ _ _ _ _ _ _ _ n) _ _)
   have h1 : (i : Int) < (d : Int) := by omega
   have h2 : c + i < l.length := by omega
   simp only [S164_8, h1, Int.natCast_nonneg, decide_true, Bool.and_self, cond_true, Int.toNat_natCast, List.getElem?_eq_getElem h2]
   rw [wI_succ (by omega)]
   exact bif_ok (fun _ => .intro _) fun _ => bif_ok (fun _ => .intro _) fun _ => ih n (i + 1) _ (by omega) (by omega)
 have outer : ∀ (n lf : Nat), 1000 < lf → ∀ (c d : Nat) (s : Int), c + d = l.length → d < n → Ok (L164_5 lf (fun z24 z25 z26 => some (z24, z25)) (fun z27 => some (z27, true)) l 0 1099511627776 n s c d) := by
  intro n lf hlf
  induction n with
  | zero => intro c d s hcd hn; omega
  | succ n ih =>
   intro c d s hcd hn
   show Ok (S164_5 lf _ _ _ _ _ (L164_5 lf _ _ _ _ _ n) _ _ _)
   by_cases hd : 0 < (d : Int)
   · have hm : (min 4 (d : Int)) = ((min 4 d : Nat) : Int) := by omega
     have e1 : decide ((((min 4 d : Nat) : Int)) ≤ (d : Int)) = true := decide_eq_true (by omega)
     simp only [S164_5, hd, hm, Int.natCast_nonneg, decide_true, cond_true, Int.toNat_natCast, e1, Bool.and_self, Int.le_refl, Nat.add_zero, Nat.sub_zero]
     refine inner _ c d c (min 4 d) _ (fun z => ih _ _ z (by omega) (by omega)) (by omega) (min 4 d) lf 0 s (by omega) (by omega)
   · simp only [S164_5, hd, decide_false, cond_false]
     exact .intro _
 exact outer fuel fuel (by unfold fuel; omega) 0 l.length 0 (by omega) (by unfold fuel; omega)
theorem F135_ok {l : List Int} (hl : l.length ≤ 100000) : Ok (F135 l) := by
 unfold F135
 obtain ⟨r, e⟩ := F164_ok hl
 rw [e]
 exact bif_ok (fun _ => .intro _) fun _ => .intro _
theorem F133_ok (x : Fix) : ∃ b, F133 x = some b ∧ (b = true → ∃ r, F134 x.S x.P = some r ∧ r ≠ 0) := by
 unfold F133
 obtain ⟨r, e⟩ := F134_ok x.S x.P
 rw [e]
 refine ⟨_, rfl, fun h => ⟨r, rfl, ?_⟩⟩
 simp only [decide_eq_true_eq] at h
 omega
def FixOK (x : Fix) : Prop := F104 x.S = true ∧ x.S.T ≤ x.P ∧ x.P ≤ x.S.Max ∧ F133 x = some true
theorem F92_ok {l : List Fix} (hl : l.length ≤ 100000) : ∃ b, F92 fuel l = some b ∧ (b = true → l.length ≤ 4 ∧ ∀ x ∈ l, FixOK x) := by
 unfold F92
 have key : ∀ (k n i : Nat) (acc : List Int), l.length = i + k → k < n → acc.length = i → (∀ (j : Nat) (h : j < l.length), j < i → FixOK l[j]) →
  ∃ b, L92_3 (fun z8 z9 => some z8) (fun z10 => bif decide ((l.length : Int) ≤ 4) then (match (F135 z10) with | some r11 => some r11 | none => none) else some false) (l.length : Int) l n i acc = some b ∧ (b = true → l.length ≤ 4 ∧ ∀ x ∈ l, FixOK x) := by
  intro k
  induction k with
  | zero =>
   intro n i acc hi hn ha hp
   obtain ⟨n, rfl⟩ : ∃ m, n = m + 1 := ⟨n - 1, by omega⟩
   show ∃ b, S92_3 _ _ _ _ (L92_3 _ _ _ _ n) _ _ = _ ∧ _
   have h1 : ¬ (i : Int) < (l.length : Int) := by omega
   simp only [S92_3, h1, decide_false, cond_false]
   by_cases h4 : (l.length : Int) ≤ 4
   · obtain ⟨r, e⟩ := F135_ok (l := acc) (by omega)
     simp only [h4, decide_true, cond_true, e]
     refine ⟨r, rfl, fun _ => ⟨by omega, fun x hx => ?_⟩⟩
     obtain ⟨j, hj⟩ := List.mem_iff_getElem?.1 hx
     have hjl := (List.getElem?_eq_some_iff.1 hj).1
     rw [List.getElem?_eq_getElem hjl] at hj
     cases hj
     exact hp j hjl (by omega)
   · simp only [h4, decide_false, cond_false]
     exact ⟨false, rfl, fun h => by cases h⟩
  | succ k ih =>
   intro n i acc hi hn ha hp
   obtain ⟨n, rfl⟩ : ∃ m, n = m + 1 := ⟨n - 1, by omega⟩
   show ∃ b, S92_3 _ _ _ _ (L92_3 _ _ _ _ n) _ _ = _ ∧ _
   have h1 : (i : Int) < (l.length : Int) := by omega
   have h2 : i < l.length := by omega
   obtain ⟨b, eb, hb⟩ := F133_ok l[i]
   obtain ⟨r, er⟩ := F134_ok l[i].S l[i].P
   simp only [S92_3, h1, Int.natCast_nonneg, decide_true, Bool.and_self, cond_true, Int.toNat_natCast, List.getElem?_eq_getElem h2, eb, er, ble_t (show (acc ++ [r]).length ≤ 100000 by simp; omega)]
   cases b with
   | false => exact ⟨false, rfl, fun h => by cases h⟩
   | true =>
    simp only [Bool.not_true, cond_false]
    rw [wI_succ (by omega)]
    refine ih n (i + 1) _ (by omega) (by omega) (by simp; omega) fun j hj hji => ?_
    rcases Nat.lt_or_ge j i with h | h
    · exact hp j hj h
    · have : j = i := by omega
      subst this
      obtain ⟨r', e', hr'⟩ := hb rfl
      obtain ⟨k1, k2, k3⟩ := F134_pos e' hr'
      exact ⟨k1, k2, k3, eb⟩
 exact key l.length fuel 0 [] (by omega) (by unfold fuel; omega) rfl (fun _ _ h => by omega)
theorem FixOK.P {x : Fix} (h : FixOK x) : 1 ≤ x.P ∧ x.P ≤ 48 := by
 have hs := F104_ok h.1
 have h1 := h.2.1
 have h2 := h.2.2.1
 exact ⟨by have := hs.C; have := hs.T; omega, by have := hs.Max; omega⟩
theorem F138_ok {x : Fix} (h : FixOK x) (n : Int) : Ok (F138 x n) := by
 unfold F138
 rw [h.2.2.2]
 have hp : ¬ x.P = 0 := by have := h.P; omega
 obtain ⟨r, e⟩ := F168_ok x.S.M x.S.K (wI (Int.tdiv n x.P))
 simp only [Bool.not_true, cond_false, hp, decide_false, e]
 exact bif_ok (fun _ => .intro _) fun _ => bif_ok (fun _ => .intro _) fun _ => .intro _
theorem F95_ok {l : List Fix} (hl : l.length ≤ 4) (h : ∀ x ∈ l, FixOK x) (n : Int) : Ok (F95 fuel l n) := by
 unfold F95
 refine bif_ok (fun _ => .intro _) fun _ => ?_
 have key : ∀ (k m i : Nat) (s : Int), l.length = i + k → k < m → Ok (L95_5 (fun z8 => some z8) n (l.length : Int) l m s i) := by
  intro k
  induction k with
  | zero =>
   intro m i s hi hn
   obtain ⟨m, rfl⟩ : ∃ j, m = j + 1 := ⟨m - 1, by omega⟩
   show Ok (S95_5 _ _ _ _ (L95_5 _ _ _ _ m) _ _)
   have h1 : ¬ (i : Int) < (l.length : Int) := by omega
   simp only [S95_5, h1, decide_false, cond_false]
   exact .intro _
  | succ k ih =>
   intro m i s hi hn
   obtain ⟨m, rfl⟩ : ∃ j, m = j + 1 := ⟨m - 1, by omega⟩
   show Ok (S95_5 _ _ _ _ (L95_5 _ _ _ _ m) _ _)
   have h1 : (i : Int) < (l.length : Int) := by omega
   have h2 : i < l.length := by omega
   obtain ⟨r, e⟩ := F138_ok (h _ (List.getElem_mem h2)) n
   simp only [S95_5, h1, Int.natCast_nonneg, decide_true, Bool.and_self, cond_true, Int.toNat_natCast, List.getElem?_eq_getElem h2, e]
   rw [wI_succ (by omega)]
   exact ih m (i + 1) _ (by omega) (by omega)
 exact key l.length fuel 0 0 (by omega) (by unfold fuel; omega)
theorem stepsL_mem {by_ upto : Int} (hb : 1 ≤ by_) (hb2 : by_ ≤ 1000000) (hu : upto ≤ 2199023255552) : ∀ (n : Nat) (from_ : Int), 0 ≤ from_ → from_ + by_ * ((n : Int) - 1) ≤ upto → ∀ y ∈ stepsL from_ by_ n, from_ ≤ y ∧ y ≤ upto
 | 0, from_, _, _, y, hy => by cases hy
 | n + 1, from_, h0, hle, y, hy => by
  have hge : 0 ≤ by_ * (n : Int) := Int.mul_nonneg (by omega) (by omega)
  have e : ((n + 1 : Nat) : Int) - 1 = (n : Int) := by omega
  rw [e] at hle
  rw [stepsL] at hy
  rcases List.mem_cons.1 hy with rfl | hy
  · exact ⟨Int.le_refl _, by omega⟩
  · rw [wI_eq (by omega) (by omega)] at hy
    cases n with
    | zero => cases hy
    | succ m =>
     have := stepsL_mem hb hb2 hu (m + 1) (from_ + by_) (by omega) (by
      have e2 : ((m + 1 : Nat) : Int) - 1 = (m : Int) := by omega
      rw [e2]
      have e3 : by_ * ((m + 1 : Nat) : Int) = by_ * (m : Int) + by_ := by
       rw [show ((m + 1 : Nat) : Int) = (m : Int) + 1 by omega, Int.mul_add, Int.mul_one]
      omega) y hy
     exact ⟨by omega, this.2⟩
theorem stepsL_length (by_ : Int) : ∀ (n : Nat) (from_ : Int), (stepsL from_ by_ n).length = n
 | 0, _ => rfl
 | n + 1, _ => by rw [stepsL, List.length_cons, stepsL_length by_ n]
theorem stepsB_ok {from_ by_ upto : Int} (hb : 1 ≤ by_ ∧ by_ ≤ 48) (hf : 0 ≤ from_) (hu : upto ≤ 1099511627776) (hd : upto - from_ ≤ 10000) : ∃ l, stepsB from_ by_ upto = some l ∧ l.length ≤ 100000 ∧ ∀ y ∈ l, from_ ≤ y ∧ y ≤ upto := by
 have h1 : (decide (1 ≤ by_) && (decide (by_ ≤ 1000000) && (decide (0 ≤ from_) && (decide (upto ≤ 2199023255552) && decide (upto - from_ ≤ 10000))))) = true := by
  simp only [Bool.and_eq_true, decide_eq_true_eq]
  omega
 unfold stepsB
 rw [h1]
 refine ⟨_, rfl, ?_, ?_⟩
 · unfold stepsP
   rw [stepsL_length]
   rcases Int.lt_or_le upto from_ with h | h
   · have hq : (upto - from_) / by_ < 0 := Int.ediv_neg_of_neg_of_pos (by omega) (by omega)
     omega
   · have := Int.ediv_le_self by_ (show 0 ≤ upto - from_ by omega)
     omega
 unfold stepsP
 rcases Int.lt_or_le upto from_ with h | h
 · have hq : (upto - from_) / by_ < 0 := Int.ediv_neg_of_neg_of_pos (by omega) (by omega)
   have : ((upto - from_) / by_ + 1).toNat = 0 := by omega
   rw [this]
   intro y hy
   cases hy
 · have hq : 0 ≤ (upto - from_) / by_ := Int.ediv_nonneg (by omega) (by omega)
   have hm := Int.mul_ediv_add_emod (upto - from_) by_
   have hr := Int.emod_nonneg (upto - from_) (show by_ ≠ 0 by omega)
   refine stepsL_mem hb.1 (by omega) (by omega) _ _ hf ?_
   have e : (((upto - from_) / by_ + 1).toNat : Int) - 1 = (upto - from_) / by_ := by omega
   rw [e]
   omega
theorem F93_ok {l : List Fix} (hl : l.length ≤ 4) (h : ∀ x ∈ l, FixOK x) {n : Int} (hn : 0 ≤ n ∧ n ≤ 5000) : ∃ r, F93 fuel l n = some r ∧ 0 ≤ r ∧ (r = 0 ∨ r ≤ n - 1) := by
 unfold F93
 have key : ∀ (k m i : Nat) (s : Int), l.length = i + k → k < m → (0 ≤ s ∧ (s = 0 ∨ s ≤ n - 1)) → ∃ r, L93_3 (fun z9 => some z9) n (l.length : Int) l m s i = some r ∧ 0 ≤ r ∧ (r = 0 ∨ r ≤ n - 1) := by
  intro k
  induction k with
  | zero =>
   intro m i s hi hm hs
   obtain ⟨m, rfl⟩ : ∃ j, m = j + 1 := ⟨m - 1, by omega⟩
   show ∃ r, S93_3 _ _ _ _ (L93_3 _ _ _ _ m) _ _ = _ ∧ _
   have h1 : ¬ (i : Int) < (l.length : Int) := by omega
   simp only [S93_3, h1, decide_false, cond_false]
   exact ⟨s, rfl, hs⟩
  | succ k ih =>
   intro m i s hi hm hs
   obtain ⟨m, rfl⟩ : ∃ j, m = j + 1 := ⟨m - 1, by omega⟩
   show ∃ r, S93_3 _ _ _ _ (L93_3 _ _ _ _ m) _ _ = _ ∧ _
   have h1 : (i : Int) < (l.length : Int) := by omega
   have h2 : i < l.length := by omega
   have hx := h _ (List.getElem_mem h2)
   have hP := hx.P
   have hends : ∃ ys, F136 l[i].S l[i].P 0 (wI (n - 1)) = some ys ∧ ys.length ≤ 100000 ∧ ∀ y ∈ ys, 0 ≤ y ∧ y ≤ n - 1 := by
    unfold F136
    obtain ⟨r, e⟩ := F134_ok l[i].S l[i].P
    rw [e, wI_eq (n := n - 1) (by omega) (by omega), wI_eq (n := 0 + l[i].P) (by omega) (by omega), wI_eq (n := n - 1 - 0) (by omega) (by omega)]
    simp only
    obtain ⟨ys, ey, hyl, hy⟩ := stepsB_ok (from_ := 0 + l[i].P) (by_ := l[i].P) (upto := n - 1) hP (by omega) (by omega) (by omega)
    have hnil : ∃ ys : List Int, (some ([] : List Int)) = some ys ∧ ys.length ≤ 100000 ∧ ∀ y ∈ ys, 0 ≤ y ∧ y ≤ n - 1 := ⟨[], rfl, by simp, fun y hy => by cases hy⟩
    by_cases k1 : r = 0
    · simp only [k1, decide_true, cond_true]; exact hnil
    by_cases k2 : (0 : Int) < 0
    · omega
    by_cases k3 : n - 1 < 0
    · simp only [k1, k2, k3, decide_true, decide_false, cond_true, cond_false]; exact hnil
    by_cases k4 : 1099511627776 < n - 1
    · omega
    by_cases k5 : 5000 < n - 1 - 0
    · omega
    simp only [k1, k2, k3, k4, k5, decide_false, cond_false, ey]
    exact ⟨ys, rfl, hyl, fun y hy' => ⟨by have := (hy y hy').1; omega, (hy y hy').2⟩⟩
   obtain ⟨ys, ey, hyl, hy⟩ := hends
   simp only [S93_3, h1, Int.natCast_nonneg, decide_true, Bool.and_self, cond_true, Int.toNat_natCast, List.getElem?_eq_getElem h2, ey]
   rw [wI_succ (by omega)]
   by_cases hpos : 0 < (ys.length : Int)
   · have hw : wI ((ys.length : Int) - 1) = ((ys.length - 1 : Nat) : Int) := by rw [wI_eq (by omega) (by omega)]; omega
     have h3 : ((ys.length - 1 : Nat) : Int) < (ys.length : Int) := by omega
     have h4 : ys.length - 1 < ys.length := by omega
     simp only [hpos, hw, h3, Int.natCast_nonneg, decide_true, Bool.and_self, cond_true, Int.toNat_natCast, List.getElem?_eq_getElem h4]
     have hm2 := hy _ (List.getElem_mem h4)
     exact ih m (i + 1) _ (by omega) (by omega) ⟨by omega, by omega⟩
   · simp only [hpos, decide_false, cond_false]
     exact ih m (i + 1) _ (by omega) (by omega) hs
 exact key l.length fuel 0 0 (by omega) (by unfold fuel; omega) ⟨by omega, .inl rfl⟩
theorem F137_val {a b : Int} (ha : 0 ≤ a ∧ a ≤ 4611686018427387904) (hb : 1 ≤ b ∧ b ≤ 4611686018427387904) : F137 a b = some (a / b + min (a % b) 1, true) := by
 have h1 : F199 a 0 4611686018427387904 = true := by
  unfold F199 K199
  simp [ha]
 have h2 : F199 b 1 4611686018427387904 = true := by
  unfold F199 K199
  simp [hb]
 have h3 : ¬ b = 0 := by omega
 have e1 : Int.tdiv a b = a / b := Int.tdiv_eq_ediv_of_nonneg ha.1
 have e2 : Int.tmod a b = a % b := Int.tmod_eq_emod_of_nonneg ha.1
 have q0 := Int.ediv_nonneg ha.1 (show 0 ≤ b by omega)
 have q1 := Int.ediv_le_self b ha.1
 have q2 := Int.emod_nonneg a h3
 have q3 := Int.emod_lt_of_pos a (show 0 < b by omega)
 unfold F137
 rw [h1, h2, e1, e2]
 simp only [cond_true, Bool.not_true, cond_false, h3, decide_false]
 rw [wI_eq (n := a / b) (by omega) (by omega), wI_eq (by omega) (by omega)]
theorem F94_ok {l : List Fix} (hl : l.length ≤ 4) (h : ∀ x ∈ l, FixOK x) (hb : F92 fuel l = some true) : ∃ r, F94 fuel l = some r ∧ 0 ≤ r ∧ r ≤ 5000 := by
 unfold F94
 rw [hb]
 simp only [Bool.not_true, cond_false]
 have key : ∀ (k m i : Nat) (s : Int), l.length = i + k → k < m → (0 ≤ s ∧ s ≤ 6 * i) → ∃ r, L94_5 (fun z7 => (match (F137 (wI (z7 * 1048576)) 65536) with | some r8 => some r8.1 | none => none)) (l.length : Int) l m s i = some r ∧ 0 ≤ r ∧ r ≤ 5000 := by
  intro k
  induction k with
  | zero =>
   intro m i s hi hm hs
   obtain ⟨m, rfl⟩ : ∃ j, m = j + 1 := ⟨m - 1, by omega⟩
   show ∃ r, S94_5 _ _ _ (L94_5 _ _ _ m) _ _ = _ ∧ _
   have h1 : ¬ (i : Int) < (l.length : Int) := by omega
   simp only [S94_5, h1, decide_false, cond_false]
   rw [wI_eq (n := s * 1048576) (by omega) (by omega), F137_val (by omega) (by omega)]
   refine ⟨_, rfl, ?_, ?_⟩
   · simp only; omega
   · simp only; omega
  | succ k ih =>
   intro m i s hi hm hs
   obtain ⟨m, rfl⟩ : ∃ j, m = j + 1 := ⟨m - 1, by omega⟩
   show ∃ r, S94_5 _ _ _ (L94_5 _ _ _ m) _ _ = _ ∧ _
   have h1 : (i : Int) < (l.length : Int) := by omega
   have h2 : i < l.length := by omega
   have hC := (F104_ok (h _ (List.getElem_mem h2)).1).C
   simp only [S94_5, h1, Int.natCast_nonneg, decide_true, Bool.and_self, cond_true, Int.toNat_natCast, List.getElem?_eq_getElem h2]
   rw [wI_succ (by omega), wI_eq (n := s + l[i].S.C) (by omega) (by omega)]
   exact ih m (i + 1) _ (by omega) (by omega) (by omega)
 exact key l.length fuel 0 0 (by omega) (by unfold fuel; omega) (by omega)
theorem L58_ok {l : List Fix} (hl : l.length ≤ 4) (h : ∀ x ∈ l, FixOK x) {e0 : Bool → Option Bool} (he : ∀ b, Ok (e0 b)) : ∀ (m : Nat) (y : Int), 0 ≤ y → y ≤ 5000 → y.toNat < m → Ok (L58_4 e0 l m y) := by
 intro m
 induction m with
 | zero => intro y h0 h1 hm; omega
 | succ m ih =>
  intro y h0 h1 hm
  show Ok (S58_4 _ _ (L58_4 _ _ m) _)
  unfold S58_4
  obtain ⟨r, er⟩ := F95_ok hl h y
  rw [er]
  simp only
  refine bif_ok (fun _ => he _) fun hy => bif_ok (fun _ => he _) fun hyr => ?_
  simp only [decide_eq_false_iff_not] at hy hyr
  have same : ∀ q, decide (r = y) = q → Ok (bif q then (match F93 fuel l y with | some r10 => L58_4 e0 l m r10 | none => none) else e0 true) := fun q _ => by
   refine bif_ok (fun _ => ?_) fun _ => he _
   obtain ⟨r2, e2, k1, k2⟩ := F93_ok hl h (n := y) (by omega)
   rw [e2]
   exact ih r2 k1 (by omega) (by omega)
  refine bif_ok (fun hlt => bif_ok (fun hpos => ?_) fun _ => same _ rfl) fun _ => same _ rfl
  simp only [decide_eq_true_eq] at hlt hpos
  rw [wI_eq (n := r + 1) (by omega) (by omega)]
  obtain ⟨r2, e2, k1, k2⟩ := F93_ok hl h (n := r + 1) (by omega)
  rw [e2]
  exact ih r2 k1 (by omega) (by omega)
theorem F58_ok {l : List Fix} (hl : l.length ≤ 100000) : Ok (F58 fuel l) := by
 obtain ⟨b, eb, hb⟩ := F92_ok hl
 unfold F58
 rw [eb]
 cases b with
 | false => exact .intro _
 | true =>
  obtain ⟨h4, hx⟩ := hb rfl
  obtain ⟨r, er, h0, h1⟩ := F94_ok h4 hx eb
  simp only [Bool.not_true, cond_false]
  rw [er]
  simp only
  obtain ⟨r3, e3, k0, k1⟩ := F93_ok h4 hx (n := r) (by omega)
  rw [e3]
  simp only
  obtain ⟨r4, e4⟩ := F95_ok h4 hx r3
  rw [e4]
  simp only
  refine bif_ok (fun _ => .intro _) fun hy => bif_ok (fun _ => .intro _) fun hyr => ?_
  simp only [decide_eq_false_iff_not] at hy hyr
  have hfuel : ∀ y : Int, y ≤ 5000 → y.toNat < fuel := fun y hy => by unfold fuel; omega
  have same : ∀ q, decide (r4 = r3) = q → Ok (bif q then (match F93 fuel l r3 with | some r13 => L58_4 (fun z14 => some z14) l fuel r13 | none => none) else some true) := fun q _ => by
   refine bif_ok (fun _ => ?_) fun _ => .intro _
   obtain ⟨r2, e2, q1, q2⟩ := F93_ok h4 hx (n := r3) (by omega)
   rw [e2]
   exact L58_ok h4 hx (fun _ => .intro _) fuel r2 q1 (by omega) (hfuel _ (by omega))
  refine bif_ok (fun hlt => bif_ok (fun hpos => ?_) fun _ => same _ rfl) fun _ => same _ rfl
  simp only [decide_eq_true_eq] at hlt hpos
  rw [wI_eq (n := r4 + 1) (by omega) (by omega)]
  obtain ⟨r2, e2, q1, q2⟩ := F93_ok h4 hx (n := r4 + 1) (by omega)
  rw [e2]
  exact L58_ok h4 hx (fun _ => .intro _) fuel r2 q1 (by omega) (hfuel _ (by omega))
end Go.Abs
end
section
namespace Go.Abs
set_option linter.unusedVariables false
set_option linter.unusedSimpArgs false
def findI : List Bool → Int
 | [] => -1
 | true :: _ => 0
 | false :: l => bif decide (findI l = -1) then -1 else findI l + 1
theorem findI_cases : ∀ l : List Bool, (findI l = -1 ∧ ∀ b ∈ l, b = false) ∨ ∃ i : Nat, findI l = i ∧ l[i]? = some true ∧ ∀ j, j < i → l[j]? = some false
 | [] => .inl ⟨rfl, by simp⟩
 | true :: l => .inr ⟨0, rfl, rfl, fun j h => by omega⟩
 | false :: l => by
  rcases findI_cases l with ⟨h1, h2⟩ | ⟨i, h1, h2, h3⟩
  · refine .inl ⟨by simp [findI, h1], fun b hb => ?_⟩
    rcases List.mem_cons.1 hb with rfl | hb
    · rfl
    · exact h2 b hb
  · have hne : ¬ ((i : Int) = -1) := by omega
    refine .inr ⟨i + 1, ?_, by simpa using h2, fun j hj => ?_⟩
    · simp only [findI, h1, hne, decide_false, cond_false]
      omega
    · cases j with
      | zero => rfl
      | succ j => simpa using h3 j (by omega)
theorem index_loop {α : Type} {xs : List α} (p : α → Bool) {L : Nat → Int → Option Int} (hxs : xs.length ≤ 9223372036854775806)
 (hend : ∀ n (i : Int), ¬ i < (xs.length : Int) → L (n + 1) i = some (-1))
 (hstep : ∀ n (i : Nat) (h : i < xs.length) (h' : (i : Int) < (xs.length : Int)), L (n + 1) i = bif p xs[i] then some (i : Int) else L n (wI ((i : Int) + 1)))
 {lf : Nat} (hlf : xs.length < lf) : L lf 0 = some (findI (xs.map p)) := by
 have key : ∀ (k n i : Nat), xs.length = i + k → k < n → L n i = some (bif decide (findI ((xs.drop i).map p) = -1) then -1 else findI ((xs.drop i).map p) + i) := by
  intro k
  induction k with
  | zero =>
   intro n i hi hn
   obtain ⟨n, rfl⟩ : ∃ m, n = m + 1 := ⟨n - 1, by omega⟩
   have h1 : ¬ (i : Int) < (xs.length : Int) := by omega
   rw [hend _ _ h1, List.drop_of_length_le (by omega)]
   simp [findI]
  | succ k ih =>
   intro n i hi hn
   obtain ⟨n, rfl⟩ : ∃ m, n = m + 1 := ⟨n - 1, by omega⟩
   have h1 : (i : Int) < (xs.length : Int) := by omega
   have h2 : i < xs.length := by omega
   rw [hstep _ _ h2 h1, List.drop_eq_getElem_cons h2, List.map_cons]
   cases p xs[i] with
   | true => simp [findI]
   | false =>
    rw [cond_false, wI_succ (by omega), ih n (i + 1) (by omega) (by omega)]
    rcases findI_cases ((xs.drop (i + 1)).map p) with ⟨h, _⟩ | ⟨j, h, _⟩
    · simp only [findI, h, decide_true, cond_true]
    · have hne : ¬ ((j : Int) = -1) := by omega
      have hne2 : ¬ ((j : Int) + 1 = -1) := by omega
      simp only [findI, h, hne, hne2, decide_false, cond_false, Option.some.injEq]
      omega
 have := key xs.length lf 0 (by omega) hlf
 rw [List.drop_zero] at this
 have this : L lf 0 = _ := this
 rw [this]
 rcases findI_cases (xs.map p) with ⟨h, _⟩ | ⟨j, h, _⟩
 · simp [h]
 · have hne : ¬ ((j : Int) = -1) := by omega
   simp only [h, hne, decide_false, cond_false]
   simp
theorem F57_eq {T : List Task} (hT : T.length ≤ 100000) (now : Int) (A : List Ape) (cur : Int) : F57 fuel now T A cur = some (T.map F91) := by
 unfold F57
 have key : ∀ (k n i : Nat), T.length = i + k → k < n → L57_3 (fun z10 => some z10) (T.length : Int) T A now cur n i ((T.take i).map F91) = some (T.map F91) := by
  intro k
  induction k with
  | zero =>
   intro n i hi hn
   obtain ⟨n, rfl⟩ : ∃ m, n = m + 1 := ⟨n - 1, by omega⟩
   show S57_3 _ _ _ _ _ _ (L57_3 _ _ _ _ _ _ n) _ _ = _
   have h1 : ¬ (i : Int) < (T.length : Int) := by omega
   simp only [S57_3, h1, decide_false, cond_false]
   rw [List.take_of_length_le (by omega)]
  | succ k ih =>
   intro n i hi hn
   obtain ⟨n, rfl⟩ : ∃ m, n = m + 1 := ⟨n - 1, by omega⟩
   show S57_3 _ _ _ _ _ _ (L57_3 _ _ _ _ _ _ n) _ _ = _
   have h1 : (i : Int) < (T.length : Int) := by omega
   have h2 : i < T.length := by omega
   have ih' := ih n (i + 1) (by omega) (by omega)
   rw [List.take_add_one, List.getElem?_eq_getElem h2] at ih'
   simp only [Option.toList_some, List.map_append, List.map_cons, List.map_nil] at ih'
   simp only [S57_3, h1, Int.natCast_nonneg, decide_true, Bool.and_self, cond_true, Int.toNat_natCast, List.getElem?_eq_getElem h2, ble_t (show ((T.take i).map F91 ++ [F91 T[i]]).length ≤ 100000 by simp; omega)]
   rw [wI_succ (by omega)]
   exact ih'
 exact key T.length fuel 0 (by omega) (by unfold fuel; omega)
def fixT (t : Task) : Fix := ⟨t.S, t.Next⟩
theorem L30_eq {R : Type} {e0 : List Fix → Option R} {T : List Task} (hT : T.length ≤ 100000) (A : List Ape) (now cur : Int) {lf : Nat} (hlf : T.length < lf) : L30_5 e0 (T.length : Int) T A now cur lf 0 [] = e0 (T.map fixT) := by
 have key : ∀ (k n i : Nat), T.length = i + k → k < n → L30_5 e0 (T.length : Int) T A now cur n i ((T.take i).map fixT) = e0 (T.map fixT) := by
  intro k
  induction k with
  | zero =>
   intro n i hi hn
   obtain ⟨n, rfl⟩ : ∃ m, n = m + 1 := ⟨n - 1, by omega⟩
   show S30_5 _ _ _ _ _ _ (L30_5 _ _ _ _ _ _ n) _ _ = _
   have h1 : ¬ (i : Int) < (T.length : Int) := by omega
   simp only [S30_5, h1, decide_false, cond_false]
   rw [List.take_of_length_le (by omega)]
  | succ k ih =>
   intro n i hi hn
   obtain ⟨n, rfl⟩ : ∃ m, n = m + 1 := ⟨n - 1, by omega⟩
   show S30_5 _ _ _ _ _ _ (L30_5 _ _ _ _ _ _ n) _ _ = _
   have h1 : (i : Int) < (T.length : Int) := by omega
   have h2 : i < T.length := by omega
   have ih' := ih n (i + 1) (by omega) (by omega)
   rw [List.take_add_one, List.getElem?_eq_getElem h2] at ih'
   simp only [Option.toList_some, List.map_append, List.map_cons, List.map_nil] at ih'
   simp only [S30_5, h1, Int.natCast_nonneg, decide_true, Bool.and_self, cond_true, Int.toNat_natCast, List.getElem?_eq_getElem h2, ble_t (show ((T.take i).map fixT ++ [Fix.mk T[i].S T[i].Next]).length ≤ 100000 by simp; omega)]
   rw [wI_succ (by omega)]
   exact ih'
 exact key T.length lf 0 (by omega) hlf
def Alike (Ta Tb : List Task) : Prop := Ta.map coreT = Tb.map coreT
theorem Alike.length {Ta Tb : List Task} (h : Alike Ta Tb) : Ta.length = Tb.length := by simpa using congrArg List.length h
theorem Alike.get {Ta Tb : List Task} (h : Alike Ta Tb) {i : Nat} (ha : i < Ta.length) (hb : i < Tb.length) : coreT Ta[i] = coreT Tb[i] := by
 have := congrArg (·[i]?) h
 simpa [List.getElem?_map, List.getElem?_eq_getElem ha, List.getElem?_eq_getElem hb] using this
theorem Alike.map {β : Type} {f : Task → β} (hf : ∀ t u, coreT t = coreT u → f t = f u) {Ta Tb : List Task} (h : Alike Ta Tb) : Ta.map f = Tb.map f := by
 refine List.ext_getElem (by simpa using h.length) fun i h1 h2 => ?_
 simp only [List.length_map] at h1 h2
 simp only [List.getElem_map]
 exact hf _ _ (h.get h1 h2)
structure WOK (now : Int) (T : List Task) (A : List Ape) (cur : Int) : Prop where
 now_ : 0 ≤ now ∧ now ≤ 274877906944
 cur_ : -1 ≤ cur ∧ cur ≤ 549755813888
 apes : ApesOK A
theorem F88_tasks {T : List Task} {now : Int} (h : TasksOK T now) (h0 : 0 ≤ now ∧ now ≤ 549755813888) : F88 (T.map F91) now = some true := by
 obtain ⟨b, e, hb⟩ := F88_iff (l := T.map F91) (by rw [List.length_map]; have := h.len; omega) now
 rw [e]
 congr 1
 refine hb.2 ⟨by rw [List.length_map]; exact h.len, (F124_iff _ _ _).2 h0, fun x hx => ?_⟩
 obtain ⟨t, ht, rfl⟩ := List.mem_map.1 hx
 have hk := (h.each t ht).1
 obtain ⟨b', e', hb'⟩ := F85_iff t h0
 rw [F127_iff _ h0]
 rw [F91_eq]
 refine ⟨hk.spec, hk.per, hk.at_, hk.n, jobLive hk.spec hk.job, fun hon => ?_⟩
 cases hq : t.J.On with
 | false =>
  rw [hq] at hon
  have hon : t.J.On = true := hon
  rw [hq] at hon
  cases hon
 | true => simp only [cond_true]; exact hk.on hq
theorem F30_ok {now cur : Int} {T : List Task} {A : List Ape} (h : WOK now T A cur) (hT : T.length ≤ 100000) : ∃ b, F30 fuel now T A cur = some b ∧ (b = true → TasksOK T now) := by
 unfold F30
 obtain ⟨b, e, hb⟩ := F55_iff h.apes h.now_ h.cur_ hT
 rw [e]
 cases b with
 | false => exact ⟨false, rfl, fun h => by cases h⟩
 | true =>
  have ht := hb.1 rfl
  simp only [Bool.not_true, cond_false]
  rw [L30_eq hT A now cur (by unfold fuel; omega), F57_eq hT]
  obtain ⟨r, er⟩ := F56_ok (l := T.map F91) (by rw [List.length_map]; exact hT) now
  obtain ⟨r2, er2⟩ := F58_ok (l := T.map fixT) (by rw [List.length_map]; exact hT)
  simp only [er, er2]
  cases r.2 with
  | false => exact ⟨false, rfl, fun h => by cases h⟩
  | true => exact ⟨r2, rfl, fun _ => ht⟩
theorem F30_alike {now ca cb : Int} {Ta Tb : List Task} {Aa Ab : List Ape} (ha : WOK now Ta Aa ca) (hb : WOK now Tb Ab cb) (hTa : TasksOK Ta now) (hTb : TasksOK Tb now) (h : Alike Ta Tb) : F30 fuel now Ta Aa ca = F30 fuel now Tb Ab cb := by
 have la : Ta.length ≤ 100000 := by have := hTa.len; omega
 have lb : Tb.length ≤ 100000 := by have := hTb.len; omega
 unfold F30
 obtain ⟨b1, e1, k1⟩ := F55_iff (T := Ta) ha.apes ha.now_ ha.cur_ la
 obtain ⟨b2, e2, k2⟩ := F55_iff (T := Tb) hb.apes hb.now_ hb.cur_ lb
 rw [e1, e2, k1.2 hTa, k2.2 hTb]
 simp only [Bool.not_true, cond_false]
 rw [L30_eq la Aa now ca (by unfold fuel; omega), L30_eq lb Ab now cb (by unfold fuel; omega), F57_eq la, F57_eq lb]
 simp only
 have h0 : 0 ≤ now ∧ now ≤ 549755813888 := ⟨ha.now_.1, by have := ha.now_.2; omega⟩
 have hc : (Ta.map F91).map core = (Tb.map F91).map core := by
  rw [List.map_map, List.map_map]
  exact h.map fun t u e => core_F91 e
 have hf : Ta.map fixT = Tb.map fixT := h.map fun t u e => by
  obtain ⟨_, h2, _, h4, _⟩ := coreT_fields e
  simp only [fixT, h2, h4]
 rw [F56_core fuel hc (by rw [List.length_map]; exact la) (by rw [F88_tasks hTa h0, F88_tasks hTb h0]), hf]
end Go.Abs
end
section
namespace Go.Abs
set_option linter.unusedVariables false
set_option linter.unusedSimpArgs false
theorem F59_32_eq {T : List Task} (hT : T.length ≤ 100000) (a : Int) (b : List Task) (c : List Ape) (d : Int) (e : Bool) (f g h : Int) (i : List Aim) (nid nap : Int) : F59_32 fuel T a b c d e f g h i nid nap = some (findI (T.map fun t => decide (nid ≤ t.ID))) := by
 unfold F59_32
 exact index_loop (fun t : Task => decide (nid ≤ t.ID)) (by omega) (fun n i h => by
  show S59_32_2 _ _ _ _ _ _ _ _ _ _ _ _ _ _ _ _ _ = _
  simp only [S59_32_2, h, decide_false, cond_false]) (fun n i h h' => by
  show S59_32_2 _ _ _ _ _ _ _ _ _ _ _ _ _ _ _ _ _ = _
  simp only [S59_32_2, h', Int.natCast_nonneg, decide_true, Bool.and_self, cond_true, Int.toNat_natCast, List.getElem?_eq_getElem h]) (by unfold fuel; omega)
theorem F60_34_eq {A : List Ape} (hA : A.length ≤ 100000) (a : Int) (b : List Task) (c : List Ape) (d : Int) (e : Bool) (f g h : Int) (i : List Aim) (nid nap : Int) : F60_34 fuel A a b c d e f g h i nid nap = some (findI (A.map fun t => decide (nap ≤ t.ID))) := by
 unfold F60_34
 exact index_loop (fun t : Ape => decide (nap ≤ t.ID)) (by omega) (fun n i h => by
  show S60_34_2 _ _ _ _ _ _ _ _ _ _ _ _ _ _ _ _ _ = _
  simp only [S60_34_2, h, decide_false, cond_false]) (fun n i h h' => by
  show S60_34_2 _ _ _ _ _ _ _ _ _ _ _ _ _ _ _ _ _ = _
  simp only [S60_34_2, h', Int.natCast_nonneg, decide_true, Bool.and_self, cond_true, Int.toNat_natCast, List.getElem?_eq_getElem h]) (by unfold fuel; omega)
theorem Alike.look {Ta Tb : List Task} (h : Alike Ta Tb) (j : Nat) : (Ta[j]? = none ∧ Tb[j]? = none) ∨ ∃ t u, Ta[j]? = some t ∧ Tb[j]? = some u ∧ t.ID = u.ID ∧ t.S = u.S ∧ coreT t = coreT u := by
 rcases Nat.lt_or_ge j Ta.length with hj | hj
 · have hj2 : j < Tb.length := by rw [← h.length]; exact hj
   refine .inr ⟨Ta[j], Tb[j], List.getElem?_eq_getElem hj, List.getElem?_eq_getElem hj2, ?_, ?_, h.get hj hj2⟩
   · exact (coreT_fields (h.get hj hj2)).1
   · exact (coreT_fields (h.get hj hj2)).2.1
 · exact .inl ⟨List.getElem?_eq_none hj, List.getElem?_eq_none (by rw [← h.length]; exact hj)⟩
theorem L35_alike {R : Type} {e0 : Bool → List Fix → Option R} {e1 : List Fix → Option R} {Ta Tb : List Task} (h : Alike Ta Tb) {y1 : Int} {Aa Ab : List Ape} {L : List Aim} {y6 y7 y7' : Int} {y8 : Bool} {y9 y10 y11 y12 y13 y13' : Int} {y14 : Bool} {y15 y16 y17 : Int} :
 ∀ (n : Nat) (y2 : Int) (acc : List Fix), L35_9 e0 e1 y1 Ta Aa L y6 y7 y8 y9 y10 y11 y12 y13 y14 y15 y16 y17 n y2 acc = L35_9 e0 e1 y1 Tb Ab L y6 y7' y8 y9 y10 y11 y12 y13' y14 y15 y16 y17 n y2 acc := by
 intro n
 induction n with
 | zero => intros; rfl
 | succ n ih =>
  intro y2 acc
  have ihf : L35_9 e0 e1 y1 Ta Aa L y6 y7 y8 y9 y10 y11 y12 y13 y14 y15 y16 y17 n = L35_9 e0 e1 y1 Tb Ab L y6 y7' y8 y9 y10 y11 y12 y13' y14 y15 y16 y17 n := by
   funext a b
   exact ih a b
  show S35_9 _ _ _ _ _ _ _ _ _ _ _ _ _ _ _ _ _ _ (L35_9 e0 e1 y1 Ta Aa L y6 y7 y8 y9 y10 y11 y12 y13 y14 y15 y16 y17 n) _ _ = S35_9 _ _ _ _ _ _ _ _ _ _ _ _ _ _ _ _ _ _ (L35_9 e0 e1 y1 Tb Ab L y6 y7' y8 y9 y10 y11 y12 y13' y14 y15 y16 y17 n) _ _
  rw [ihf]
  unfold S35_9
  rw [h.length]
  rcases h.look (Int.toNat y2) with ⟨k1, k2⟩ | ⟨t, u, k1, k2, k3, k4, _⟩ <;> rcases h.look (Int.toNat (wI (y2 - 1))) with ⟨m1, m2⟩ | ⟨t', u', m1, m2, m3, m4, _⟩
  · rw [k1, k2, m1, m2]
  · rw [k1, k2, m1, m2]; simp only [m3, m4]
  · rw [k1, k2, m1, m2]; simp only [k3, k4]
  · rw [k1, k2, m1, m2]; simp only [k3, k4, m3, m4]
theorem L35_ok {e0 : Bool → List Fix → Option Bool} {e1 : List Fix → Option Bool} (he0 : ∀ a b, Ok (e0 a b)) {T : List Task} {A : List Ape} {L : List Aim} {y6 y7 : Int} {y8 : Bool} {y9 y10 y11 y12 y13 : Int} {y14 : Bool} {y15 y16 y17 : Int} (hL : L.length ≤ T.length + 1) (hT : T.length ≤ 4) (he1 : ∀ acc : List Fix, acc.length ≤ 100000 → Ok (e1 acc)) :
 ∀ (k n i : Nat) (acc : List Fix), L.length = i + k → k < n → acc.length = i → Ok (L35_9 e0 e1 (L.length : Int) T A L y6 y7 y8 y9 y10 y11 y12 y13 y14 y15 y16 y17 n i acc) := by
 intro k
 induction k with
 | zero =>
  intro n i acc hi hn ha
  obtain ⟨n, rfl⟩ : ∃ m, n = m + 1 := ⟨n - 1, by omega⟩
  show Ok (S35_9 _ _ _ _ _ _ _ _ _ _ _ _ _ _ _ _ _ _ (L35_9 _ _ _ _ _ _ _ _ _ _ _ _ _ _ _ _ _ _ n) _ _)
  have h1 : ¬ (i : Int) < (L.length : Int) := by omega
  simp only [S35_9, h1, decide_false, cond_false]
  exact he1 _ (by omega)
 | succ k ih =>
  intro n i acc hi hn ha
  obtain ⟨n, rfl⟩ : ∃ m, n = m + 1 := ⟨n - 1, by omega⟩
  show Ok (S35_9 _ _ _ _ _ _ _ _ _ _ _ _ _ _ _ _ _ _ (L35_9 _ _ _ _ _ _ _ _ _ _ _ _ _ _ _ _ _ _ n) _ _)
  have h1 : (i : Int) < (L.length : Int) := by omega
  have h2 : i < L.length := by omega
  have hrec : ∀ x, Ok (L35_9 e0 e1 (L.length : Int) T A L y6 y7 y8 y9 y10 y11 y12 y13 y14 y15 y16 y17 n ((i + 1 : Nat) : Int) (acc ++ [x])) := fun x => ih n (i + 1) _ (by omega) (by omega) (by simp; omega)
  simp only [S35_9, h1, Int.natCast_nonneg, decide_true, Bool.and_self, cond_true, Int.toNat_natCast, List.getElem?_eq_getElem h2, ble_t (show (acc ++ [Fix.mk L[i].S L[i].P]).length ≤ 100000 by simp; omega)]
  rw [wI_succ (by omega)]
  by_cases hiT : (i : Int) = (T.length : Int)
  · simp only [hiT, decide_true, cond_true]
    refine bif_ok (fun _ => he0 ..) fun _ => bif_ok (fun _ => he0 ..) fun _ => bif_ok (fun hpos => ?_) fun _ => bif_ok (fun _ => he0 ..) fun _ => hrec _
    simp only [decide_eq_true_eq] at hpos
    have hw : wI ((T.length : Int) - 1) = ((T.length - 1 : Nat) : Int) := by rw [wI_eq (by omega) (by omega)]; omega
    have h3 : ((T.length - 1 : Nat) : Int) < (T.length : Int) := by omega
    have h4 : T.length - 1 < T.length := by omega
    simp only [hw, h3, Int.natCast_nonneg, decide_true, Bool.and_self, cond_true, Int.toNat_natCast, List.getElem?_eq_getElem h4]
    exact bif_ok (fun _ => he0 ..) fun _ => bif_ok (fun _ => he0 ..) fun _ => hrec _
  · have h3 : (i : Int) < (T.length : Int) := by omega
    have h4 : i < T.length := by omega
    simp only [hiT, decide_false, cond_false, h3, decide_true, cond_true, Bool.and_self, List.getElem?_eq_getElem h4]
    exact bif_ok (fun _ => bif_ok (fun _ => he0 ..) fun _ => hrec _) fun _ => bif_ok (fun _ => bif_ok (fun _ => he0 ..) fun _ => hrec _) fun _ => bif_ok (fun _ => bif_ok (fun _ => he0 ..) fun _ => hrec _) fun _ => bif_ok (fun _ => he0 ..) fun _ => hrec _
structure Srv where
 (Now : Int) (T : List Task) (A : List Ape) (Cur : Int) (On : Bool) (Since By New : Int) (L : List Aim) (NextID NextAp : Int)
def Srv.tup (s : Srv) : Int × List Task × List Ape × Int × Bool × Int × Int × Int × List Aim × Int × Int := (s.Now, s.T, s.A, s.Cur, s.On, s.Since, s.By, s.New, s.L, s.NextID, s.NextAp)
theorem F35_ok (s : Srv) (hT : s.T.length ≤ 100000) : Ok (F35 fuel s.Now s.T s.A s.Cur s.On s.Since s.By s.New s.L s.NextID s.NextAp) := by
 unfold F35
 have hw : wI ((s.T.length : Int) + 1) = (s.T.length : Int) + 1 := wI_eq (by omega) (by omega)
 rw [hw]
 have f58 : ∀ acc : List Fix, acc.length ≤ 100000 → Ok (match (F58 fuel acc) with | some r28 => some r28 | none => none) := fun acc ha => by
  obtain ⟨r, e⟩ := F58_ok ha
  rw [e]
  exact .intro _
 refine bif_ok (fun _ => bif_ok (fun _ => .intro _) fun h1 => bif_ok (fun _ => .intro _) fun h2 => ?_) fun _ => bif_ok (fun _ => .intro _) fun h1 => bif_ok (fun _ => .intro _) fun h2 => ?_
 · have h1 := not_ble h1
   simp only [decide_eq_true_eq, decide_eq_false_iff_not] at h1 h2
   exact L35_ok (fun _ _ => .intro _) (by omega) (by omega) f58 s.L.length fuel 0 [] (by omega) (by unfold fuel; omega) rfl
 · have h1 := not_ble h1
   simp only [decide_eq_true_eq, decide_eq_false_iff_not] at h1 h2
   exact L35_ok (fun _ _ => .intro _) (by omega) (by omega) f58 s.L.length fuel 0 [] (by omega) (by unfold fuel; omega) rfl
structure Inv (s : Srv) : Prop where
 w : WOK s.Now s.T s.A s.Cur
 tasks : TasksOK s.T s.Now
 nat : ∀ t ∈ s.T, t.N ≤ t.At
 aps : 0 ≤ s.NextAp ∧ s.NextAp ≤ 65536
 ids : ∀ a ∈ s.A, a.ID < s.NextAp
 l : s.L.length ≤ 4
structure Rel (a b : Srv) : Prop where
 now_ : a.Now = b.Now
 tasks : Alike a.T b.T
 on : a.On = b.On
 since : a.Since = b.Since
 by_ : a.By = b.By
 new_ : a.New = b.New
 l : a.L = b.L
 nid : a.NextID = b.NextID
abbrev May (s : Srv) : Option Bool := F16 s.Now s.T s.A s.Cur s.On s.Since s.By s.New s.L s.NextID s.NextAp
theorem Inv.lT {s : Srv} (h : Inv s) : s.T.length ≤ 100000 := by have := h.tasks.len; omega
theorem Inv.lA {s : Srv} (h : Inv s) : s.A.length ≤ 100000 := by have := h.w.apes.len; omega
theorem May_ok {s : Srv} (h : Inv s) : Ok (May s) := by
 unfold May F16
 obtain ⟨b, e, _⟩ := F30_ok h.w h.lT
 obtain ⟨r, er⟩ := F35_ok s h.lT
 rw [e, F59_32_eq h.lT, F60_34_eq h.lA, er]
 repeat' first | exact Ok.intro _ | refine bif_ok (fun _ => ?_) fun _ => ?_
theorem May_alike {a b : Srv} (ha : Inv a) (hb : Inv b) (h : Rel a b) : May a = May b := by
 obtain ⟨Now, Ta, Aa, Ca, On, Since, By, New, L, NextID, NAa⟩ := a
 obtain ⟨Now', Tb, Ab, Cb, On', Since', By', New', L', NextID', NAb⟩ := b
 obtain ⟨rfl, ht, rfl, rfl, rfl, rfl, rfl, rfl⟩ := h
 simp only at ht
 unfold May F16
 simp only
 have e30 := F30_alike ha.w hb.w ha.tasks hb.tasks ht
 simp only at e30
 rw [e30, F59_32_eq ha.lT, F59_32_eq hb.lT, F60_34_eq ha.lA, F60_34_eq hb.lA]
 have eT : (Ta.map fun t => decide (NextID ≤ t.ID)) = Tb.map fun t => decide (NextID ≤ t.ID) := ht.map fun t u e => by rw [(coreT_fields e).1]
 have none_ : ∀ {A : List Ape} {nap : Int}, (∀ a ∈ A, a.ID < nap) → findI (A.map fun t => decide (nap ≤ t.ID)) = -1 := fun {A nap} hA => by
  rcases findI_cases (A.map fun t => decide (nap ≤ t.ID)) with ⟨h, _⟩ | ⟨i, _, h, _⟩
  · exact h
  · rw [List.getElem?_map] at h
    obtain ⟨x, hx, hy⟩ := Option.map_eq_some_iff.1 h
    have := hA x (List.mem_of_getElem? hx)
    simp only [decide_eq_true_eq] at hy
    omega
 have e35 : F35 fuel Now Ta Aa Ca On Since By New L NextID NAa = F35 fuel Now Tb Ab Cb On Since By New L NextID NAb := by
  unfold F35
  rw [ht.length]
  simp only [L35_alike ht (Aa := Aa) (Ab := Ab) (y7 := Ca) (y7' := Cb) (y13 := NAa) (y13' := NAb)]
 have na := none_ ha.ids
 have nb := none_ hb.ids
 simp only at na nb
 rw [eT, na, nb, e35]
 have a1 : ¬ NAa < 0 := by have := ha.aps; simp only at this; omega
 have a2 : ¬ 65536 < NAa := by have := ha.aps; simp only at this; omega
 have b1 : ¬ NAb < 0 := by have := hb.aps; simp only at this; omega
 have b2 : ¬ 65536 < NAb := by have := hb.aps; simp only at this; omega
 simp only [a1, a2, b1, b2]
end Go.Abs
end
section
namespace Go.Abs
set_option linter.unusedVariables false
set_option linter.unusedSimpArgs false
structure SprOK (s : Spr) : Prop where
 Min : 1 ≤ s.Min ∧ s.Min ≤ s.U
 U : s.U ≤ 1048576
 E : 0 ≤ s.E ∧ s.E ≤ 8
theorem F204_ok {s : Spr} (h : F204 s = true) : SprOK s := by
 unfold F204 K204 at h
 obtain ⟨h1, h⟩ := bif_t h
 obtain ⟨h2, h⟩ := bif_t h
 obtain ⟨h3, h⟩ := bif_t h
 obtain ⟨h4, h⟩ := bif_t h
 simp only [decide_eq_true_eq] at h
 exact ⟨⟨h1, h2⟩, h3, h4, h⟩
theorem F193_eq {l : List Spec} (hl : l.length ≤ 100000) : F193_170 fuel l = some (findI (l.map fun s => !F104 s)) := by
 unfold F193_170
 exact index_loop (fun s : Spec => !F104 s) (by omega) (fun n i h => by
  show S193_170_2 _ _ _ _ _ _ = _
  simp only [S193_170_2, h, decide_false, cond_false]) (fun n i h h' => by
  show S193_170_2 _ _ _ _ _ _ = _
  simp only [S193_170_2, h', Int.natCast_nonneg, decide_true, Bool.and_self, cond_true, Int.toNat_natCast, List.getElem?_eq_getElem h]) (by unfold fuel; omega)
theorem F209_eq {l : List Spr} (hl : l.length ≤ 100000) : F209_203 fuel l = some (findI (l.map fun s => !F204 s)) := by
 unfold F209_203
 exact index_loop (fun s : Spr => !F204 s) (by omega) (fun n i h => by
  show S209_203_2 _ _ _ _ _ _ = _
  simp only [S209_203_2, h, decide_false, cond_false]) (fun n i h h' => by
  show S209_203_2 _ _ _ _ _ _ = _
  simp only [S209_203_2, h', Int.natCast_nonneg, decide_true, Bool.and_self, cond_true, Int.toNat_natCast, List.getElem?_eq_getElem h]) (by unfold fuel; omega)
theorem F194_ok {l : List Spr} (hl : l.length ≤ 100000) : ∃ b, F194 l = some b ∧ (b = true → l.length ≤ 4 ∧ ∀ s ∈ l, SprOK s) := by
 unfold F194
 by_cases h4 : (l.length : Int) ≤ 4
 · simp only [h4, decide_true, cond_true, F209_eq hl]
   refine ⟨_, rfl, fun h => ⟨by omega, fun s hs => ?_⟩⟩
   rcases findI_cases (l.map fun s => !F204 s) with ⟨_, k2⟩ | ⟨i, k1, _⟩
   · have := k2 (!F204 s) (List.mem_map.2 ⟨s, hs, rfl⟩)
     exact F204_ok (not_ble this)
   · rw [k1] at h
     simp at h
 · simp only [h4, decide_false, cond_false]
   exact ⟨false, rfl, fun h => by cases h⟩
theorem F147_146_eq {l : List Spr} (hl : l.length ≤ 100000) : F147_146 fuel l = some (l.map F146) := by
 unfold F147_146
 have key : ∀ (k n i : Nat), l.length = i + k → k < n → L147_146_3 (fun z6 => some z6) (l.length : Int) l n i ((l.take i).map F146) = some (l.map F146) := by
  intro k
  induction k with
  | zero =>
   intro n i hi hn
   obtain ⟨n, rfl⟩ : ∃ m, n = m + 1 := ⟨n - 1, by omega⟩
   show S147_146_3 _ _ _ (L147_146_3 _ _ _ n) _ _ = _
   have h1 : ¬ (i : Int) < (l.length : Int) := by omega
   simp only [S147_146_3, h1, decide_false, cond_false]
   rw [List.take_of_length_le (by omega)]
  | succ k ih =>
   intro n i hi hn
   obtain ⟨n, rfl⟩ : ∃ m, n = m + 1 := ⟨n - 1, by omega⟩
   show S147_146_3 _ _ _ (L147_146_3 _ _ _ n) _ _ = _
   have h1 : (i : Int) < (l.length : Int) := by omega
   have h2 : i < l.length := by omega
   have ih' := ih n (i + 1) (by omega) (by omega)
   rw [List.take_add_one, List.getElem?_eq_getElem h2] at ih'
   simp only [Option.toList_some, List.map_append, List.map_cons, List.map_nil] at ih'
   simp only [S147_146_3, h1, Int.natCast_nonneg, decide_true, Bool.and_self, cond_true, Int.toNat_natCast, List.getElem?_eq_getElem h2, ble_t (show ((l.take i).map F146 ++ [F146 l[i]]).length ≤ 100000 by simp; omega)]
   rw [wI_succ (by omega)]
   exact ih'
 exact key l.length fuel 0 (by omega) (by unfold fuel; omega)
theorem F147_145_ok {l : List Spr} (hl : l.length ≤ 100000) (a b : Int) : ∃ u, F147_145 fuel l a b = some u ∧ u.length = l.length := by
 unfold F147_145
 have key : ∀ (k n i : Nat) (acc : List Int), l.length = i + k → k < n → acc.length = i → ∃ u, L147_145_3 (fun z9 => some z9) (l.length : Int) l a b n i acc = some u ∧ u.length = l.length := by
  intro k
  induction k with
  | zero =>
   intro n i acc hi hn ha
   obtain ⟨n, rfl⟩ : ∃ m, n = m + 1 := ⟨n - 1, by omega⟩
   show ∃ u, S147_145_3 _ _ _ _ _ (L147_145_3 _ _ _ _ _ n) _ _ = _ ∧ _
   have h1 : ¬ (i : Int) < (l.length : Int) := by omega
   simp only [S147_145_3, h1, decide_false, cond_false]
   exact ⟨acc, rfl, by omega⟩
  | succ k ih =>
   intro n i acc hi hn ha
   obtain ⟨n, rfl⟩ : ∃ m, n = m + 1 := ⟨n - 1, by omega⟩
   show ∃ u, S147_145_3 _ _ _ _ _ (L147_145_3 _ _ _ _ _ n) _ _ = _ ∧ _
   have h1 : (i : Int) < (l.length : Int) := by omega
   have h2 : i < l.length := by omega
   obtain ⟨r, e⟩ := F137_ok (wI (a * l[i].E)) b
   simp only [S147_145_3, h1, Int.natCast_nonneg, decide_true, Bool.and_self, cond_true, Int.toNat_natCast, List.getElem?_eq_getElem h2, e, ble_t (show (acc ++ [max (F146 l[i]) (wI (l[i].U - r.1))]).length ≤ 100000 by simp; omega)]
   rw [wI_succ (by omega)]
   exact ih n (i + 1) _ (by omega) (by omega) (by simp; omega)
 exact key l.length fuel 0 [] (by omega) (by unfold fuel; omega) rfl
theorem F171_ok {l : List Spr} (hl : l.length ≤ 100000) (load : Int) : ∃ b, F171 l load = some b ∧ (b = true → l.length ≤ 4 ∧ ∀ s ∈ l, SprOK s) := by
 unfold F171
 obtain ⟨b, e, hb⟩ := F194_ok hl
 rw [e]
 cases b with
 | false => exact ⟨false, rfl, fun h => by cases h⟩
 | true =>
  have hk := hb rfl
  obtain ⟨r, er⟩ := F164_ok (l := l.map F146) (by rw [List.length_map]; exact hl)
  simp only [Bool.not_true, cond_false, F147_146_eq hl, er]
  by_cases h1 : load < 0
  · exact ⟨false, by simp [h1], fun h => by cases h⟩
  by_cases h2 : 1099511627776 < load
  · exact ⟨false, by simp [h1, h2], fun h => by cases h⟩
  simp only [h1, h2, decide_false, cond_false]
  cases r.2 with
  | false => exact ⟨false, rfl, fun h => by cases h⟩
  | true => exact ⟨_, rfl, fun _ => hk⟩
theorem F205_ok : ∀ (n : Nat) (a b : Int), 0 < a → 0 ≤ b → b.toNat < n → ∃ c, F205 n a b = some c ∧ 0 < c := by
 unfold F205
 intro n
 induction n with
 | zero => intro a b ha hb hn; omega
 | succ n ih =>
  intro a b ha hb hn
  show ∃ c, S205_1 _ (L205_1 _ n) _ _ = _ ∧ _
  unfold S205_1
  by_cases h : 0 < b
  · have hne : ¬ b = 0 := by omega
    simp only [h, hne, decide_true, decide_false, cond_true, cond_false]
    rw [Int.tmod_eq_emod_of_nonneg (by omega)]
    have h1 := Int.emod_nonneg a hne
    have h2 := Int.emod_lt_of_pos a h
    exact ih b (a % b) h h1 (by omega)
  · simp only [h, decide_false, cond_false]
    exact ⟨a, rfl, ha⟩
theorem F195_ok {l : List Spr} (hl : l.length ≤ 4) (h : ∀ s ∈ l, SprOK s) (left : List (Int × Spr)) {load : Int} (hload : 0 ≤ load ∧ load ≤ 1099511627776) : Ok (F195 fuel left l load) := by
 unfold F195
 have key : ∀ (k n i : Nat) (o e : Int), l.length = i + k → k < n → (-1099511627776 ≤ o ∧ o ≤ 1048576 * i ∧ 0 ≤ e ∧ e ≤ 8 * i) →
  Ok (L195_3 (fun z10 z11 => bif decide (z10 ≤ 0) then some (0, 1) else bif decide (z11 = 0) then some (0, 1) else (match (F205 fuel z10 z11) with | some r12 => bif decide (r12 = 0) then none else bif decide (r12 = 0) then none else some ((wI (Int.tdiv z10 r12)), (wI (Int.tdiv z11 r12))) | none => none)) (l.length : Int) left l 0 0 n o e i) := by
  intro k
  induction k with
  | zero =>
   intro n i o e hi hn hb
   obtain ⟨n, rfl⟩ : ∃ m, n = m + 1 := ⟨n - 1, by omega⟩
   show Ok (S195_3 _ _ _ _ _ _ (L195_3 _ _ _ _ _ _ n) _ _ _)
   have h1 : ¬ (i : Int) < (l.length : Int) := by omega
   simp only [S195_3, h1, decide_false, cond_false]
   refine bif_ok (fun _ => .intro _) fun ho => bif_ok (fun _ => .intro _) fun he => ?_
   simp only [decide_eq_false_iff_not] at ho he
   obtain ⟨c, ec, hc⟩ := F205_ok fuel o e (by omega) hb.2.2.1 (by unfold fuel; omega)
   have hc0 : ¬ c = 0 := by omega
   simp only [ec, hc0, decide_false, cond_false]
   exact .intro _
  | succ k ih =>
   intro n i o e hi hn hb
   obtain ⟨n, rfl⟩ : ∃ m, n = m + 1 := ⟨n - 1, by omega⟩
   show Ok (S195_3 _ _ _ _ _ _ (L195_3 _ _ _ _ _ _ n) _ _ _)
   have h1 : (i : Int) < (l.length : Int) := by omega
   have h2 : i < l.length := by omega
   have hs := h _ (List.getElem_mem h2)
   have h146 : 1 ≤ F146 l[i] ∧ F146 l[i] ≤ 1048576 := by
    have a1 := hs.Min
    have a2 := hs.U
    unfold F146 K146
    by_cases hE : l[i].E = 0
    · simp only [hE, decide_true, cond_true]; omega
    · simp only [hE, decide_false, cond_false]; omega
   have a1 := hs.Min
   have a2 := hs.U
   have a3 := hs.E
   simp only [S195_3, h1, Int.natCast_nonneg, decide_true, Bool.and_self, cond_true, Int.toNat_natCast, List.getElem?_eq_getElem h2]
   rw [wI_succ (by omega), wI_eq (n := o + l[i].U) (by omega) (by omega), wI_eq (n := e + l[i].E) (by omega) (by omega), wI_eq (n := o + F146 l[i]) (by omega) (by omega)]
   exact bif_ok (fun _ => ih n (i + 1) _ _ (by omega) (by omega) (by omega)) fun _ => ih n (i + 1) _ _ (by omega) (by omega) (by omega)
 rw [wI_eq (n := 0 - load) (by omega) (by omega)]
 exact key l.length fuel 0 _ 0 (by omega) (by unfold fuel; omega) (by omega)
theorem F211_ok (a b c d : Int) : Ok (F211 fuel [a, b] [c, d]) := by
 unfold F211
 have key : ∀ n, 3 ≤ n → Ok (L211_2 (fun z7 => some z7) (bif decide (((([a, b] : List Int).length : Nat) : Int) < ((([c, d] : List Int).length : Nat) : Int)) then some (-1) else some 0) ((([a, b] : List Int).length : Nat) : Int) [a, b] [c, d] n 0) := by
  intro n hn
  obtain ⟨n, rfl⟩ : ∃ m, n = m + 3 := ⟨n - 3, by omega⟩
  have w1 : wI (0 + 1) = 1 := by decide
  have w2 : wI (1 + 1) = 2 := by decide
  show Ok (S211_2 _ _ _ _ _ (L211_2 _ _ _ _ _ (n + 2)) _)
  unfold S211_2
  refine bif_ok (fun _ => bif_ok (fun _ => bif_ok (fun _ => .intro _) fun _ => bif_ok (fun _ => bif_ok (fun _ => .intro _) fun _ => ?_) fun h => ?_) fun h => ?_) fun _ => ?_
  · rw [w1]
    show Ok (S211_2 _ _ _ _ _ (L211_2 _ _ _ _ _ (n + 1)) _)
    unfold S211_2
    refine bif_ok (fun _ => bif_ok (fun _ => bif_ok (fun _ => .intro _) fun _ => bif_ok (fun _ => bif_ok (fun _ => .intro _) fun _ => ?_) fun h => ?_) fun h => ?_) fun _ => ?_
    · rw [w2]
      show Ok (S211_2 _ _ _ _ _ (L211_2 _ _ _ _ _ n) _)
      simp only [S211_2]
      exact .intro _
    · simp at h
    · simp at h
    · exact .intro _
  · simp at h
  · simp at h
  · exact .intro _
 exact key fuel (by unfold fuel; omega)
theorem F206_ok (a b c d : Int) : Ok (F206 a b c d) := by
 unfold F206
 obtain ⟨r, e⟩ := F211_ok (F210 a d).1 (F210 a d).2 (F210 c b).1 (F210 c b).2
 refine bif_ok (fun _ => bif_ok (fun _ => .intro _) fun _ => bif_ok (fun _ => bif_ok (fun _ => .intro _) fun _ => ?_) fun _ => .intro _) fun _ => .intro _
 refine bif_ok (fun _ => .intro _) fun _ => ?_
 simp only [e]
 exact .intro _
theorem F196_ok (a b : Int) (s : Spr) : Ok (F196 a b s) := by
 unfold F196
 obtain ⟨r, e⟩ := F206_ok (wI (a * s.E)) b (wI (s.U - s.Min)) 1
 rw [e]
 exact .intro _
theorem delM_length {α : Type} {k : Int} : ∀ {l : List (Int × α)}, (delM l k).length ≤ l.length ∧ ((getM l k).isSome = true → (delM l k).length + 1 = l.length)
 | [] => ⟨Nat.le_refl _, fun h => by cases h⟩
 | x :: l => by
  unfold delM getM
  by_cases h : k = x.1
  · simp only [h, if_true]
    exact ⟨by simp, fun _ => by simp⟩
  · simp only [h, if_false, List.length_cons]
    have := delM_length (k := k) (l := l)
    exact ⟨by omega, fun hs => by have := this.2 hs; omega⟩
theorem putM_length {α : Type} {k : Int} {v : α} : ∀ {l : List (Int × α)}, (putM l k v).length ≤ l.length + 1
 | [] => Nat.le_refl _
 | x :: l => by
  unfold putM
  by_cases h : k = x.1
  · simp [h]
  · simp only [h, if_false, List.length_cons]
    have := putM_length (k := k) (v := v) (l := l)
    omega
theorem L172_11_ok {R : Type} {l : List Spr} (hl : l.length ≤ 4) {e0 : List (Int × Spr) → Option R} {a b c d f g : Int} : ∀ (k n i : Nat) (left : List (Int × Spr)), l.length = i + k → k < n → (∀ z : List (Int × Spr), z.length ≤ left.length → Ok (e0 z)) → Ok (L172_11 e0 a b (l.length : Int) l c d f g n i left) := by
 intro k
 induction k with
 | zero =>
  intro n i left hi hn he
  obtain ⟨n, rfl⟩ : ∃ m, n = m + 1 := ⟨n - 1, by omega⟩
  show Ok (S172_11 _ _ _ _ _ _ _ _ _ (L172_11 _ _ _ _ _ _ _ _ _ n) _ _)
  have h1 : ¬ (i : Int) < (l.length : Int) := by omega
  simp only [S172_11, h1, decide_false, cond_false]
  exact he _ (Nat.le_refl _)
 | succ k ih =>
  intro n i left hi hn he
  obtain ⟨n, rfl⟩ : ∃ m, n = m + 1 := ⟨n - 1, by omega⟩
  show Ok (S172_11 _ _ _ _ _ _ _ _ _ (L172_11 _ _ _ _ _ _ _ _ _ n) _ _)
  have h1 : (i : Int) < (l.length : Int) := by omega
  have h2 : i < l.length := by omega
  obtain ⟨r, e⟩ := F196_ok f g l[i]
  simp only [S172_11, h1, Int.natCast_nonneg, decide_true, Bool.and_self, cond_true, Int.toNat_natCast, List.getElem?_eq_getElem h2, e]
  rw [wI_succ (by omega)]
  exact bif_ok (fun _ => bif_ok (fun _ => ih n (i + 1) _ (by omega) (by omega) fun z hz => he z (by have := (delM_length (k := (i : Int)) (l := left)).1; omega)) fun _ => ih n (i + 1) _ (by omega) (by omega) he) fun _ => ih n (i + 1) _ (by omega) (by omega) he
theorem L172_8_ok {l : List Spr} (hl : l.length ≤ 4) (h : ∀ s ∈ l, SprOK s) {load : Int} (hload : 0 ≤ load ∧ load ≤ 1099511627776) (lf : Nat) (hlf : 10 < lf) : ∀ (n : Nat) (left : List (Int × Spr)), left.length < n → Ok (L172_8 lf (fun z29 z30 z31 => some (z29, z30)) load l 0 0 n left) := by
 intro n
 induction n with
 | zero => intro left hn; omega
 | succ n ih =>
  intro left hn
  show Ok (S172_8 lf _ _ _ _ _ (L172_8 lf _ _ _ _ _ n) _)
  unfold S172_8
  obtain ⟨r, e⟩ := F195_ok hl h left hload
  rw [e]
  refine L172_11_ok hl l.length lf 0 left (by omega) (by omega) fun z hz => bif_ok (fun _ => .intro _) fun hne => ih z ?_
  simp only [decide_eq_false_iff_not] at hne
  omega
theorem F172_ok {l : List Spr} (hl : l.length ≤ 4) (h : ∀ s ∈ l, SprOK s) {load : Int} (hload : 0 ≤ load ∧ load ≤ 1099511627776) (lf : Nat) (hlf : 10 < lf) : Ok (F172 lf l load) := by
 unfold F172
 have key : ∀ (k n i : Nat) (left : List (Int × Spr)), l.length = i + k → k < n → left.length ≤ i → Ok (L172_3 (fun z9 => L172_8 lf (fun z29 z30 z31 => some (z29, z30)) load l 0 0 lf z9) load (l.length : Int) l 0 0 n i left) := by
  intro k
  induction k with
  | zero =>
   intro n i left hi hn hb
   obtain ⟨n, rfl⟩ : ∃ m, n = m + 1 := ⟨n - 1, by omega⟩
   show Ok (S172_3 _ _ _ _ _ _ (L172_3 _ _ _ _ _ _ n) _ _)
   have h1 : ¬ (i : Int) < (l.length : Int) := by omega
   simp only [S172_3, h1, decide_false, cond_false]
   exact L172_8_ok hl h hload lf hlf lf left (by omega)
  | succ k ih =>
   intro n i left hi hn hb
   obtain ⟨n, rfl⟩ : ∃ m, n = m + 1 := ⟨n - 1, by omega⟩
   show Ok (S172_3 _ _ _ _ _ _ (L172_3 _ _ _ _ _ _ n) _ _)
   have h1 : (i : Int) < (l.length : Int) := by omega
   have h2 : i < l.length := by omega
   simp only [S172_3, h1, Int.natCast_nonneg, decide_true, Bool.and_self, cond_true, Int.toNat_natCast, List.getElem?_eq_getElem h2]
   rw [wI_succ (by omega)]
   exact bif_ok (fun _ => ih n (i + 1) _ (by omega) (by omega) (by have := putM_length (k := (i : Int)) (v := l[i]) (l := left); omega)) fun _ => ih n (i + 1) _ (by omega) (by omega) (by omega)
 exact key l.length lf 0 [] (by omega) (by omega) (by simp)
theorem F97_ok {l : List Spr} (hl : l.length ≤ 100000) {load : Int} (hload : 0 ≤ load ∧ load ≤ 1099511627776) : ∃ u b, F97 l load = some (u, b) ∧ (b = true → u.length = l.length) := by
 unfold F97 F144
 obtain ⟨b, e, hb⟩ := F171_ok hl load
 rw [e]
 cases b with
 | false => exact ⟨[], false, rfl, fun h => by cases h⟩
 | true =>
  obtain ⟨h4, hs⟩ := hb rfl
  obtain ⟨r, er⟩ := F172_ok h4 hs hload fuel (by unfold fuel; omega)
  obtain ⟨u, eu, hu⟩ := F147_145_ok hl r.1 r.2
  simp only [Bool.not_true, cond_false, er, eu]
  exact ⟨u, true, rfl, fun _ => hu⟩
theorem F100_ok (s : Spec) (u : Int) : Ok (F100 s u) := by
 unfold F100
 obtain ⟨r, e⟩ := F137_ok (wI ((wI (s.C * s.M)) * 1048576)) (wI (u * s.K))
 obtain ⟨r2, e2⟩ := F134_ok s (max r.1 s.T)
 simp only [e, e2]
 repeat' first | exact Ok.intro _ | refine bif_ok (fun _ => ?_) fun _ => ?_
theorem F139_ok {l : List Spec} (hl : l.length ≤ 100000) : Ok (F139 l) := by
 unfold F139
 rw [F193_eq hl]
 exact .intro _
theorem F140_ok {l : List Spec} (hl : l.length ≤ 100000) : ∃ u, F140_141 fuel l = some u ∧ u.length = l.length := by
 unfold F140_141
 have key : ∀ (k n i : Nat) (acc : List Spr), l.length = i + k → k < n → acc.length = i → ∃ u, L140_141_3 (fun z8 => some z8) (l.length : Int) l n i acc = some u ∧ u.length = l.length := by
  intro k
  induction k with
  | zero =>
   intro n i acc hi hn ha
   obtain ⟨n, rfl⟩ : ∃ m, n = m + 1 := ⟨n - 1, by omega⟩
   show ∃ u, S140_141_3 _ _ _ (L140_141_3 _ _ _ n) _ _ = _ ∧ _
   have h1 : ¬ (i : Int) < (l.length : Int) := by omega
   simp only [S140_141_3, h1, decide_false, cond_false]
   exact ⟨acc, rfl, by omega⟩
  | succ k ih =>
   intro n i acc hi hn ha
   obtain ⟨n, rfl⟩ : ∃ m, n = m + 1 := ⟨n - 1, by omega⟩
   show ∃ u, S140_141_3 _ _ _ (L140_141_3 _ _ _ n) _ _ = _ ∧ _
   have h1 : (i : Int) < (l.length : Int) := by omega
   have h2 : i < l.length := by omega
   obtain ⟨r1, e1⟩ := F134_ok l[i] l[i].T
   obtain ⟨r2, e2⟩ := F134_ok l[i] l[i].Max
   have f1 : F142 l[i] = some r1 := by unfold F142; rw [e1]
   have f2 : F143 l[i] = some r2 := by unfold F143; rw [e2]
   simp only [S140_141_3, h1, Int.natCast_nonneg, decide_true, Bool.and_self, cond_true, Int.toNat_natCast, List.getElem?_eq_getElem h2, f1, f2, ble_t (show (acc ++ [Spr.mk r1 r2 l[i].E]).length ≤ 100000 by simp; omega)]
   rw [wI_succ (by omega)]
   exact ih n (i + 1) _ (by omega) (by omega) (by simp; omega)
 exact key l.length fuel 0 [] (by omega) (by unfold fuel; omega) rfl
theorem F98_ok {l : List Spec} (hl : l.length ≤ 100000) {u : List Int} (hu : u.length = l.length) : ∃ f, F98_99 fuel l u = some f ∧ f.length = l.length := by
 unfold F98_99
 have key : ∀ (k n i : Nat) (acc : List Fix), l.length = i + k → k < n → acc.length = i → ∃ f, L98_99_3 (fun z9 => some z9) (l.length : Int) l u n i acc = some f ∧ f.length = l.length := by
  intro k
  induction k with
  | zero =>
   intro n i acc hi hn ha
   obtain ⟨n, rfl⟩ : ∃ m, n = m + 1 := ⟨n - 1, by omega⟩
   show ∃ f, S98_99_3 _ _ _ _ (L98_99_3 _ _ _ _ n) _ _ = _ ∧ _
   have h1 : ¬ (i : Int) < (l.length : Int) := by omega
   simp only [S98_99_3, h1, decide_false, cond_false]
   exact ⟨acc, rfl, by omega⟩
  | succ k ih =>
   intro n i acc hi hn ha
   obtain ⟨n, rfl⟩ : ∃ m, n = m + 1 := ⟨n - 1, by omega⟩
   show ∃ f, S98_99_3 _ _ _ _ (L98_99_3 _ _ _ _ n) _ _ = _ ∧ _
   have h1 : (i : Int) < (l.length : Int) := by omega
   have h2 : i < l.length := by omega
   have h3 : (i : Int) < (u.length : Int) := by omega
   have h4 : i < u.length := by omega
   obtain ⟨r, e⟩ := F100_ok l[i] u[i]
   simp only [S98_99_3, h1, h3, Int.natCast_nonneg, decide_true, Bool.and_self, cond_true, Int.toNat_natCast, List.getElem?_eq_getElem h2, List.getElem?_eq_getElem h4, e, ble_t (show (acc ++ [Fix.mk l[i] r.1]).length ≤ 100000 by simp; omega)]
   rw [wI_succ (by omega)]
   exact ih n (i + 1) _ (by omega) (by omega) (by simp; omega)
 exact key l.length fuel 0 [] (by omega) (by unfold fuel; omega) rfl
theorem F65_ok (l : List Spec) : ∃ f e, F65 l = some (f, e) ∧ (e = 0 → f.length = l.length ∧ l.length ≤ 4) := by
 unfold F65
 by_cases h4 : 4 < (l.length : Int)
 · exact ⟨[], 3, by simp only [h4, decide_true, cond_true], fun h => by omega⟩
 have hl : l.length ≤ 100000 := by omega
 unfold F96
 obtain ⟨b, eb⟩ := F139_ok hl
 obtain ⟨u, eu, hu⟩ := F140_ok hl
 simp only [h4, decide_false, cond_false, eb, eu]
 cases b with
 | true => exact ⟨[], 1, rfl, fun h => by omega⟩
 | false =>
  obtain ⟨v, b2, e2, hv⟩ := F97_ok (l := u) (by omega) (load := 983040) (by omega)
  simp only [cond_false, Bool.not_true, e2]
  cases b2 with
  | false => exact ⟨[], 5, rfl, fun h => by omega⟩
  | true =>
   obtain ⟨f, ef, hf⟩ := F98_ok hl (u := v) (by rw [hv rfl, hu])
   obtain ⟨t, et⟩ := F58_ok (l := f) (by omega)
   simp only [Bool.not_true, cond_false, ef, et]
   cases t with
   | false => exact ⟨[], 6, rfl, fun h => by omega⟩
   | true => exact ⟨f, 0, rfl, fun _ => ⟨hf, by omega⟩⟩
theorem F102_ok {l : List Fix} (hl : l.length ≤ 100000) (r : Int) : Ok (F102 fuel l r) := by
 unfold F102
 obtain ⟨b, e, _⟩ := F92_ok hl
 rw [e]
 refine bif_ok (fun _ => .intro _) fun _ => bif_ok (fun _ => .intro _) fun _ => bif_ok (fun _ => .intro _) fun _ => ?_
 have key : ∀ (k n i : Nat) (s : Int), l.length = i + k → k < n → Ok (L102_4 (fun z7 => (match (F137 (wI (z7 * 1048576)) 65536) with | some r8 => some (wI (r8.1 + 1)) | none => none)) (l.length : Int) l n s i) := by
  intro k
  induction k with
  | zero =>
   intro n i s hi hn
   obtain ⟨n, rfl⟩ : ∃ m, n = m + 1 := ⟨n - 1, by omega⟩
   show Ok (S102_4 _ _ _ (L102_4 _ _ _ n) _ _)
   have h1 : ¬ (i : Int) < (l.length : Int) := by omega
   obtain ⟨q, eq⟩ := F137_ok (wI (s * 1048576)) 65536
   simp only [S102_4, h1, decide_false, cond_false, eq]
   exact .intro _
  | succ k ih =>
   intro n i s hi hn
   obtain ⟨n, rfl⟩ : ∃ m, n = m + 1 := ⟨n - 1, by omega⟩
   show Ok (S102_4 _ _ _ (L102_4 _ _ _ n) _ _)
   have h1 : (i : Int) < (l.length : Int) := by omega
   have h2 : i < l.length := by omega
   simp only [S102_4, h1, Int.natCast_nonneg, decide_true, Bool.and_self, cond_true, Int.toNat_natCast, List.getElem?_eq_getElem h2]
   rw [wI_succ (by omega)]
   exact ih n (i + 1) _ (by omega) (by omega)
 exact key l.length fuel 0 r (by omega) (by unfold fuel; omega)
end Go.Abs
end
section
namespace Go.Abs
set_option linter.unusedVariables false
set_option linter.unusedSimpArgs false
theorem wI01 : wI 1 = 1 := by decide
theorem wI12 : wI 2 = 2 := by decide
theorem F62_one (a : Int) : F62 fuel [a] = some a := by
 unfold F62
 have key : ∀ n, L62_2 (fun z5 => some z5) (some 0) ((([a] : List Int).length : Nat) : Int) [a] (n + 2) 0 = some a := by
  intro n
  by_cases h : a = 0
  · simp [L62_2, S62_2, h, wI01]
  · simp [L62_2, S62_2, h]
 exact key 18446744073709551614
theorem F62_two (a b : Int) : F62 fuel [a, b] = some (bif decide (a = 0) then b else a) := by
 unfold F62
 have key : ∀ n, L62_2 (fun z5 => some z5) (some 0) ((([a, b] : List Int).length : Nat) : Int) [a, b] (n + 3) 0 = some (bif decide (a = 0) then b else a) := by
  intro n
  by_cases h : a = 0
  · by_cases hb : b = 0
    · simp [L62_2, S62_2, h, hb, wI01, wI12]
    · simp [L62_2, S62_2, h, hb, wI01, wI12]
  · simp [L62_2, S62_2, h]
 exact key 18446744073709551613
theorem F64_eq (s : Srv) (hT : s.T.length ≤ 100000) (hA : s.A.length ≤ 100000) (hL : s.L.length ≤ 100000) : F64 s.Now s.T s.A s.Cur s.On s.Since s.By s.New s.L s.NextID s.NextAp = some s.tup := by
 unfold F64
 rw [cloneB_eq hT, cloneB_eq hA, cloneB_eq hL]
 rfl
theorem F66_eq (s : Srv) (hT : s.T.length ≤ 100000) : F66 fuel s.Now s.T s.A s.Cur s.On s.Since s.By s.New s.L s.NextID s.NextAp = some (s.T.map Task.S) := by
 unfold F66
 have key : ∀ (k n i : Nat), s.T.length = i + k → k < n → L66_3 (fun z16 => some z16) (s.T.length : Int) s.T s.A s.L s.Now s.Cur s.On s.Since s.By s.New s.NextID s.NextAp n i ((s.T.take i).map Task.S) = some (s.T.map Task.S) := by
  intro k
  induction k with
  | zero =>
   intro n i hi hn
   obtain ⟨n, rfl⟩ : ∃ m, n = m + 1 := ⟨n - 1, by omega⟩
   rw [L66_3]
   have h1 : ¬ (i : Int) < (s.T.length : Int) := by omega
   simp only [S66_3, h1, decide_false, cond_false]
   rw [List.take_of_length_le (by omega)]
  | succ k ih =>
   intro n i hi hn
   obtain ⟨n, rfl⟩ : ∃ m, n = m + 1 := ⟨n - 1, by omega⟩
   rw [L66_3]
   have h1 : (i : Int) < (s.T.length : Int) := by omega
   have h2 : i < s.T.length := by omega
   have ih' := ih n (i + 1) (by omega) (by omega)
   rw [List.take_add_one, List.getElem?_eq_getElem h2] at ih'
   simp only [Option.toList_some, List.map_append, List.map_cons, List.map_nil] at ih'
   simp only [S66_3, h1, Int.natCast_nonneg, decide_true, Bool.and_self, cond_true, Int.toNat_natCast, List.getElem?_eq_getElem h2, ble_t (show ((s.T.take i).map Task.S ++ [s.T[i].S]).length ≤ 100000 by simp; omega)]
   rw [wI_succ (by omega)]
   exact ih'
 exact key s.T.length fuel 0 (by omega) (by unfold fuel; omega)
theorem F68_eq (s : Srv) (hT : s.T.length ≤ 100000) (id : Int) : F68 s.Now s.T s.A s.Cur s.On s.Since s.By s.New s.L s.NextID s.NextAp id = some (findI (s.T.map fun t => decide (t.ID = id))) := by
 unfold F68 F59_103
 have : L59_103_2 (fun z6 => some z6) (some (-1)) (s.T.length : Int) s.T id fuel 0 = some (findI (s.T.map fun t => decide (t.ID = id))) :=
  index_loop (L := fun n i => L59_103_2 (fun z6 => some z6) (some (-1)) (s.T.length : Int) s.T id n i) (fun t : Task => decide (t.ID = id)) (by omega) (fun n i h => by
   show S59_103_2 _ _ _ _ _ _ _ = _
   simp only [S59_103_2, h, decide_false, cond_false]) (fun n i h h' => by
   show S59_103_2 _ _ _ _ _ _ _ = _
   simp only [S59_103_2, h', Int.natCast_nonneg, decide_true, Bool.and_self, cond_true, Int.toNat_natCast, List.getElem?_eq_getElem h]) (by unfold fuel; omega)
 rw [this]
def wl (t : Task) : Option Int := bif t.J.Mand then some (F101 t.J) else none
def leftF : List (Option Int) → Int → Int
 | [], s => s
 | none :: l, s => leftF l s
 | some w :: l, s => leftF l (wI (s + w))
theorem leftF_append (s : Int) (l m : List (Option Int)) : leftF (l ++ m) s = leftF m (leftF l s) := by
 induction l generalizing s with
 | nil => rfl
 | cons x l ih => cases x <;> exact ih _
theorem L67_5_eq {R : Type} {e0 : Int → List Fix → Option R} {T : List Task} (hT : T.length ≤ 100000) {y2 : Int} {y6 : List Task} {y7 : List Ape} {y8 : List Aim} {y9 : List Fix} {y10 y11 : Int} {y12 : Bool} {y13 y14 y15 y16 y17 y18 y19 : Int} {y20 : Bool} {y21 y22 y23 y24 y25 : Int} {y27 : List Ape} {y28 : List Aim} {lf : Nat} (hlf : T.length < lf) :
 L67_5 e0 y2 (T.length : Int) y6 y7 y8 y9 y10 y11 y12 y13 y14 y15 y16 y17 y18 y19 y20 y21 y22 y23 y24 y25 T y27 y28 lf 0 0 [] = e0 (leftF (T.map wl) 0) (T.map fixT) := by
 have key : ∀ (k n i : Nat), T.length = i + k → k < n → L67_5 e0 y2 (T.length : Int) y6 y7 y8 y9 y10 y11 y12 y13 y14 y15 y16 y17 y18 y19 y20 y21 y22 y23 y24 y25 T y27 y28 n (leftF ((T.take i).map wl) 0) i ((T.take i).map fixT) = e0 (leftF (T.map wl) 0) (T.map fixT) := by
  intro k
  induction k with
  | zero =>
   intro n i hi hn
   obtain ⟨n, rfl⟩ : ∃ m, n = m + 1 := ⟨n - 1, by omega⟩
   rw [L67_5]
   have h1 : ¬ (i : Int) < (T.length : Int) := by omega
   simp only [S67_5, h1, decide_false, cond_false]
   rw [List.take_of_length_le (by omega)]
  | succ k ih =>
   intro n i hi hn
   obtain ⟨n, rfl⟩ : ∃ m, n = m + 1 := ⟨n - 1, by omega⟩
   rw [L67_5]
   have h1 : (i : Int) < (T.length : Int) := by omega
   have h2 : i < T.length := by omega
   have ih' := ih n (i + 1) (by omega) (by omega)
   rw [List.take_add_one, List.getElem?_eq_getElem h2] at ih'
   simp only [Option.toList_some, List.map_append, List.map_cons, List.map_nil, leftF_append] at ih'
   simp only [S67_5, h1, Int.natCast_nonneg, decide_true, Bool.and_self, cond_true, Int.toNat_natCast, List.getElem?_eq_getElem h2, ble_t (show ((T.take i).map fixT ++ [Fix.mk T[i].S T[i].Next]).length ≤ 100000 by simp; omega)]
   rw [wI_succ (by omega)]
   cases hm : T[i].J.Mand with
   | true =>
    have : wl T[i] = some (F101 T[i].J) := by simp [wl, hm]
    rw [this] at ih'
    exact ih'
   | false =>
    have : wl T[i] = none := by simp [wl, hm]
    rw [this] at ih'
    exact ih'
 exact key T.length lf 0 (by omega) hlf
theorem L67_13_ok {T : List Task} {f : List Fix} (hf : f.length ≤ 100000) {y34 : Int} {y37 : List Task} {y38 : List Ape} {y39 : List Aim} {y41 y42 : Int} {y43 : Bool} {y44 y45 y46 y47 y48 y49 y50 : Int} {y51 : Bool} {y52 y53 y54 y55 y56 : Int} {y58 : List Ape} {y59 : List Aim} {y60 : List Fix} : ∀ (k n i : Nat) (acc : List Aim), f.length = i + k → k < n → acc.length = i →
 ∃ L, L.length = f.length ∧ ∀ {R : Type} (e0 : List Aim → Option R), L67_13 e0 y34 (f.length : Int) y37 y38 y39 f y41 y42 y43 y44 y45 y46 y47 y48 y49 y50 y51 y52 y53 y54 y55 y56 T y58 y59 y60 n i acc = e0 L := by
 intro k
 induction k with
 | zero =>
  intro n i acc hi hn ha
  obtain ⟨n, rfl⟩ : ∃ m, n = m + 1 := ⟨n - 1, by omega⟩
  refine ⟨acc, by omega, fun {R} e0 => ?_⟩
  rw [L67_13]
  have h1 : ¬ (i : Int) < (f.length : Int) := by omega
  simp only [S67_13, h1, decide_false, cond_false]
 | succ k ih =>
  intro n i acc hi hn ha
  obtain ⟨n, rfl⟩ : ∃ m, n = m + 1 := ⟨n - 1, by omega⟩
  have h1 : (i : Int) < (f.length : Int) := by omega
  have h2 : i < f.length := by omega
  by_cases hT : i < T.length
  · have h3 : (i : Int) < (T.length : Int) := by omega
    obtain ⟨L, hL, h⟩ := ih n (i + 1) (acc ++ [Aim.mk T[i].ID f[i].S f[i].P]) (by omega) (by omega) (by simp; omega)
    refine ⟨L, hL, fun {R} e0 => ?_⟩
    rw [L67_13]
    simp only [S67_13, h1, h3, Int.natCast_nonneg, decide_true, Bool.and_self, cond_true, Int.toNat_natCast, List.getElem?_eq_getElem h2, List.getElem?_eq_getElem hT, ble_t (show (acc ++ [Aim.mk T[i].ID f[i].S f[i].P]).length ≤ 100000 by simp; omega)]
    rw [wI_succ (by omega)]
    exact h e0
  · have h3 : ¬ (i : Int) < (T.length : Int) := by omega
    obtain ⟨L, hL, h⟩ := ih n (i + 1) (acc ++ [Aim.mk y34 f[i].S f[i].P]) (by omega) (by omega) (by simp; omega)
    refine ⟨L, hL, fun {R} e0 => ?_⟩
    rw [L67_13]
    simp only [S67_13, h1, h3, Int.natCast_nonneg, decide_true, decide_false, Bool.and_self, cond_true, cond_false, Int.toNat_natCast, List.getElem?_eq_getElem h2, ble_t (show (acc ++ [Aim.mk y34 f[i].S f[i].P]).length ≤ 100000 by simp; omega)]
    rw [wI_succ (by omega)]
    exact h e0
theorem L67_13_alike {R : Type} {e0 : List Aim → Option R} {Ta Tb : List Task} (h : Alike Ta Tb) {f : List Fix} {y34 y35 : Int} {a37 b37 : List Task} {a38 b38 : List Ape} {y39 : List Aim} {y41 : Int} {a42 b42 : Int} {y43 : Bool} {y44 y45 y46 y47 a48 b48 y49 y50 : Int} {y51 : Bool} {y52 y53 y54 y55 y56 : Int} {a58 b58 : List Ape} {y59 : List Aim} {y60 : List Fix} : ∀ (n : Nat) (i : Int) (acc : List Aim),
 L67_13 e0 y34 y35 a37 a38 y39 f y41 a42 y43 y44 y45 y46 y47 a48 y49 y50 y51 y52 y53 y54 y55 y56 Ta a58 y59 y60 n i acc = L67_13 e0 y34 y35 b37 b38 y39 f y41 b42 y43 y44 y45 y46 y47 b48 y49 y50 y51 y52 y53 y54 y55 y56 Tb b58 y59 y60 n i acc := by
 intro n
 induction n with
 | zero => intros; rfl
 | succ n ih =>
  intro i acc
  rw [L67_13, L67_13]
  unfold S67_13
  rw [h.length]
  rcases h.look (Int.toNat i) with ⟨k1, k2⟩ | ⟨t, u, k1, k2, k3, k4, _⟩
  · simp only [k1, k2, ih]
  · simp only [k1, k2, k3, ih]
theorem wl_alike {t u : Task} (h : coreT t = coreT u) (ht : JobOK t.S t.J) (hu : JobOK u.S u.J) : wl t = wl u := by
 have hJ := (coreT_fields h).2.2.2.2.2.2
 have e : ∀ {s : Spec} {j : Job}, JobOK s j → (bif j.Mand then some (F101 j) else none) = bif (coreJ j).Mand then some (F101 (coreJ j)) else none := fun {s j} hj => by
  unfold coreJ
  rcases hj with rfl | hj
  · rfl
  · rw [hj.1]
    cases hm : j.Mand with
    | true => simp [hm]
    | false => rfl
 unfold wl
 rw [e ht, e hu, hJ]
theorem Inv.wl {a b : Srv} (ha : Inv a) (hb : Inv b) (h : Rel a b) : a.T.map Go.Abs.wl = b.T.map Go.Abs.wl := by
 refine List.ext_getElem (by simpa using h.tasks.length) fun i h1 h2 => ?_
 simp only [List.length_map] at h1 h2
 simp only [List.getElem_map]
 exact wl_alike (h.tasks.get h1 h2) (ha.tasks.each _ (List.getElem_mem h1)).1.job (hb.tasks.each _ (List.getElem_mem h2)).1.job
theorem fixT_alike {a b : Srv} (h : Rel a b) : a.T.map fixT = b.T.map fixT := h.tasks.map fun t u e => by
 obtain ⟨_, h2, _, h4, _⟩ := coreT_fields e
 simp only [fixT, h2, h4]
theorem F67_alike {a b : Srv} (ha : Inv a) (hb : Inv b) (h : Rel a b) (nid fresh : Int) {f : List Fix} (hf : f.length ≤ 4) :
 ∃ By L, L.length = f.length ∧ F67 fuel a.Now a.T a.A a.Cur a.On a.Since a.By a.New a.L nid a.NextAp fresh f = some (a.Now, a.T, a.A, a.Cur, true, a.Now, By, fresh, L, nid, a.NextAp) ∧
  F67 fuel b.Now b.T b.A b.Cur b.On b.Since b.By b.New b.L nid b.NextAp fresh f = some (b.Now, b.T, b.A, b.Cur, true, b.Now, By, fresh, L, nid, b.NextAp) := by
 have lLa : a.L.length ≤ 100000 := by have := ha.l; omega
 have lLb : b.L.length ≤ 100000 := by have := hb.l; omega
 obtain ⟨bd, ebd⟩ := F102_ok (l := a.T.map fixT) (by rw [List.length_map]; exact ha.lT) (leftF (a.T.map wl) 0)
 have ebd2 : F102 fuel (b.T.map fixT) (leftF (b.T.map wl) 0) = some bd := by rw [← ha.wl hb h, ← fixT_alike h]; exact ebd
 have e64a := F64_eq ⟨a.Now, a.T, a.A, a.Cur, a.On, a.Since, a.By, a.New, a.L, nid, a.NextAp⟩ ha.lT ha.lA lLa
 have e64b := F64_eq ⟨b.Now, b.T, b.A, b.Cur, b.On, b.Since, b.By, b.New, b.L, nid, b.NextAp⟩ hb.lT hb.lA lLb
 simp only [Srv.tup] at e64a e64b
 obtain ⟨La, hLa, ka⟩ := L67_13_ok (T := a.T) (f := f) (by omega) (y34 := fresh) (y37 := a.T) (y38 := a.A) (y39 := a.L) (y41 := a.Now) (y42 := a.Cur) (y43 := true) (y44 := a.Now) (y45 := wI ((wI (a.Now + bd)) - 1)) (y46 := fresh) (y47 := nid) (y48 := a.NextAp) (y49 := 0) (y50 := 0) (y51 := false) (y52 := 0) (y53 := 0) (y54 := 0) (y55 := 0) (y56 := 0) (y58 := a.A) (y59 := a.L) (y60 := a.T.map fixT) f.length fuel 0 [] (by omega) (by unfold fuel; omega) rfl
 obtain ⟨Lb, hLb, kb⟩ := L67_13_ok (T := b.T) (f := f) (by omega) (y34 := fresh) (y37 := b.T) (y38 := b.A) (y39 := b.L) (y41 := b.Now) (y42 := b.Cur) (y43 := true) (y44 := b.Now) (y45 := wI ((wI (b.Now + bd)) - 1)) (y46 := fresh) (y47 := nid) (y48 := b.NextAp) (y49 := 0) (y50 := 0) (y51 := false) (y52 := 0) (y53 := 0) (y54 := 0) (y55 := 0) (y56 := 0) (y58 := b.A) (y59 := b.L) (y60 := b.T.map fixT) f.length fuel 0 [] (by omega) (by unfold fuel; omega) rfl
 have hL : La = Lb := by
  have h1 := ka (fun z => some z)
  have h2 := kb (fun z => some z)
  rw [← fixT_alike h, ← h.now_, ← h.l] at h2
  have h3 := (L67_13_alike (e0 := fun z => some z) h.tasks (f := f) (y34 := fresh) (y35 := (f.length : Int)) (a37 := a.T) (b37 := b.T) (a38 := a.A) (b38 := b.A) (y39 := a.L) (y41 := a.Now) (a42 := a.Cur) (b42 := b.Cur) (y43 := true) (y44 := a.Now) (y45 := wI ((wI (a.Now + bd)) - 1)) (y46 := fresh) (y47 := nid) (a48 := a.NextAp) (b48 := b.NextAp) (y49 := 0) (y50 := 0) (y51 := false) (y52 := 0) (y53 := 0) (y54 := 0) (y55 := 0) (y56 := 0) (a58 := a.A) (b58 := b.A) (y59 := a.L) (y60 := a.T.map fixT) fuel ((0 : Nat) : Int) [])
  exact Option.some.inj (h1.symm.trans (h3.trans h2))
 refine ⟨wI ((wI (a.Now + bd)) - 1), La, hLa, ?_, ?_⟩
 · unfold F67
   rw [e64a]
   simp only
   rw [L67_5_eq ha.lT (by unfold fuel; have := ha.lT; omega)]
   simp only [ebd]
   exact ka _
 · unfold F67
   rw [e64b]
   simp only
   rw [L67_5_eq hb.lT (by unfold fuel; have := hb.lT; omega)]
   simp only [ebd2]
   rw [hL, h.now_]
   exact kb _
end Go.Abs
end
