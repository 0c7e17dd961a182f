/- Own: the plain law, part 1. -/
import Derived.Test.YtmiajnodoigndaaGreatPlA
section
namespace Go.Abs
set_option linter.unusedVariables false
set_option linter.unusedSimpArgs false
def half {α : Type} (f : α → α) (l : List α) (i : Nat) : List α := (l.take i).map f ++ l.drop i
section
variable {α : Type} {f : α → α} {l : List α} {i : Nat}
theorem half_length : (half f l i).length = l.length := by simp [half]; omega
theorem half_zero : half f l 0 = l := by simp [half]
theorem half_end (h : l.length ≤ i) : half f l i = l.map f := by simp [half, List.take_of_length_le h, List.drop_of_length_le h]
theorem half_get (h : i < l.length) : (half f l i)[i]? = some l[i] := by
 rw [half, List.getElem?_append_right (by simp; omega)]
 simp [List.length_take, Nat.min_eq_left (Nat.le_of_lt h), List.getElem?_drop, List.getElem?_eq_getElem h]
theorem half_succ (h : i < l.length) : half f l (i + 1) = (l.take i).map f ++ (f l[i] :: l.drop (i + 1)) := by
 rw [half, List.take_add_one, List.getElem?_eq_getElem h]
 simp only [Option.toList_some, List.map_append, List.map_cons, List.map_nil, List.append_assoc, List.cons_append, List.nil_append]
theorem half_set (h : i < l.length) : (half f l i).set i (f l[i]) = half f l (i + 1) := by
 rw [half_succ h, half, List.set_append_right _ _ (by simp; omega)]
 have : i - ((l.take i).map f).length = 0 := by simp; omega
 rw [this, List.drop_eq_getElem_cons h, List.set_cons_zero]
theorem half_same (h : i < l.length) (he : f l[i] = l[i]) : half f l (i + 1) = half f l i := by
 rw [half_succ h, he, half, List.drop_eq_getElem_cons h]
end
abbrev noJob : Job := ⟨false, 0, 0, 0, false, 0, 0, 0⟩
def v150 (s : Spec) (n rel due d : Int) : Job × Bool := match F150 s n rel due d with
 | some r => r
 | none => (noJob, false)
theorem F150_eq (s : Spec) (n rel due d : Int) : F150 s n rel due d = some (v150 s n rel due d) := by
 obtain ⟨r, e⟩ := F150_ok s n rel due d
 simp [v150, e]
def begL (now : Int) (x : Live) : Live := bif decide (now < x.At) then x else ⟨x.S, (v150 x.S x.N now (wI (now + x.P)) x.S.C).1, x.P, wI (now + x.P), wI (x.N + 1)⟩
theorem cloneB_eq {α : Type} {l : List α} (h : l.length ≤ 100000) : cloneB l = some l := by simp [cloneB, maxRows, ble_t h]
theorem F129_eq {l : List Live} (hl : l.length ≤ 100000) (now : Int) : F129 fuel l now = some (l.map (begL now)) := by
 unfold F129
 rw [cloneB_eq hl]
 simp only
 have key : ∀ (k n i : Nat), l.length = i + k → k < n → L129_3 (fun z10 => some z10) now (l.length : Int) l n i (half (begL now) l i) = some (l.map (begL now)) := by
  intro k
  induction k with
  | zero =>
   intro n i hi hn
   obtain ⟨n, rfl⟩ : ∃ m, n = m + 1 := ⟨n - 1, by omega⟩
   show S129_3 _ _ _ _ _ _ _ = _
   have : ¬ (i : Int) < (l.length : Int) := by omega
   simp only [S129_3, this, decide_false, cond_false]
   rw [half_end (by omega)]
  | succ k ih =>
   intro n i hi hn
   obtain ⟨n, rfl⟩ : ∃ m, n = m + 1 := ⟨n - 1, by omega⟩
   show S129_3 _ _ _ _ (L129_3 _ _ _ _ n) _ _ = _
   have h1 : (i : Int) < (l.length : Int) := by omega
   have h2 : i < l.length := by omega
   simp only [S129_3, h1, half_length, Int.natCast_nonneg, decide_true, Bool.and_self, cond_true, Int.toNat_natCast, half_get h2, F150_eq]
   rw [wI_succ (by omega)]
   have ih' := ih n (i + 1) (by omega) (by omega)
   cases hq : decide (now < l[i].At) with
   | true =>
    rw [cond_true, ← half_same h2 (by simp only [begL, hq, cond_true])]
    exact ih'
   | false =>
    rw [cond_false, ← half_set h2] at *
    have : begL now l[i] = ⟨l[i].S, (v150 l[i].S l[i].N now (wI (now + l[i].P)) l[i].S.C).1, l[i].P, wI (now + l[i].P), wI (l[i].N + 1)⟩ := by simp only [begL, hq, cond_false]
    rw [this] at ih'
    exact ih'
 have := key l.length fuel 0 (by omega) (by unfold fuel; omega)
 rwa [half_zero] at this
theorem F132_eq (j : Job) : F132 j = (j.On && (j.Mand && decide (0 < F101 j))) := by
 unfold F132 K132
 cases j.On <;> cases j.Mand <;> rfl
def coreJ (j : Job) : Job := bif j.On && j.Mand then j else noJob
def core (x : Live) : Live := ⟨x.S, coreJ x.J, x.P, x.At, x.N⟩
theorem coreJ_must (j : Job) : F132 (coreJ j) = F132 j := by
 unfold coreJ
 cases h : j.On && j.Mand with
 | true => rfl
 | false =>
  rw [F132_eq j]
  rw [Bool.and_eq_false_iff] at h
  rcases h with h | h <;> simp [h, F132_eq]
theorem must_core {j : Job} (h : F132 j = true) : coreJ j = j := by
 rw [F132_eq] at h
 simp only [Bool.and_eq_true] at h
 simp [coreJ, h.1, h.2.1]
theorem F128_core {l : List Live} (hl : l.length ≤ 100000) : F128 fuel (l.map core) = F128 fuel l ∧ ∃ r, F128 fuel l = some r ∧ (r = -1 ∨ ∃ (i : Nat) (h : i < l.length), r = i ∧ F132 l[i].J = true) := by
 unfold F128
 rw [List.length_map]
 have key : ∀ (k n i : Nat) (a : Int), l.length = i + k → k < n → (a = -1 ∨ ∃ (i : Nat) (h : i < l.length), a = i ∧ F132 l[i].J = true) →
  L128_4 (fun z8 => some z8) (l.length : Int) (l.map core) n i a = L128_4 (fun z8 => some z8) (l.length : Int) l n i a ∧ ∃ r, L128_4 (fun z8 => some z8) (l.length : Int) l n i a = some r ∧ (r = -1 ∨ ∃ (i : Nat) (h : i < l.length), r = i ∧ F132 l[i].J = true) := by
  intro k
  induction k with
  | zero =>
   intro n i a hi hn ha
   obtain ⟨n, rfl⟩ : ∃ m, n = m + 1 := ⟨n - 1, by omega⟩
   show S128_4 _ _ _ _ _ _ = S128_4 _ _ _ _ _ _ ∧ ∃ r, S128_4 _ _ _ _ _ _ = _ ∧ _
   have : ¬ (i : Int) < (l.length : Int) := by omega
   simp only [S128_4, this, decide_false, cond_false]
   exact ⟨trivial, a, rfl, ha⟩
  | succ k ih =>
   intro n i a hi hn ha
   obtain ⟨n, rfl⟩ : ∃ m, n = m + 1 := ⟨n - 1, by omega⟩
   show S128_4 _ _ _ (L128_4 _ _ _ n) _ _ = S128_4 _ _ _ (L128_4 _ _ _ n) _ _ ∧ ∃ r, S128_4 _ _ _ (L128_4 _ _ _ n) _ _ = _ ∧ _
   have h1 : (i : Int) < (l.length : Int) := by omega
   have h2 : i < l.length := by omega
   have h3 : i < (l.map core).length := by simpa using h2
   have hc : ((l.map core)[i]).J = coreJ l[i].J := by simp [core]
   simp only [S128_4, h1, List.length_map, Int.natCast_nonneg, decide_true, Bool.and_self, cond_true, Int.toNat_natCast, List.getElem?_eq_getElem h2, List.getElem?_eq_getElem h3, hc, coreJ_must]
   rw [wI_succ (by omega)]
   cases hq : F132 l[i].J with
   | false => exact ih n (i + 1) a (by omega) (by omega) ha
   | true =>
    have new := ih n (i + 1) i (by omega) (by omega) (.inr ⟨i, h2, rfl, hq⟩)
    have old := ih n (i + 1) a (by omega) (by omega) ha
    simp only [cond_true]
    rcases ha with rfl | ⟨j, hj, rfl, hm⟩
    · exact new
    · have hne : ¬ ((j : Int) = -1) := by omega
      have h4 : (j : Int) < (l.length : Int) := by omega
      have h5 : j < (l.map core).length := by simpa using hj
      have hcj : ((l.map core)[j]).J = coreJ l[j].J := by simp [core]
      simp only [hne, decide_false, cond_false, Int.natCast_nonneg, h4, decide_true, Bool.and_self, cond_true, Int.toNat_natCast, List.getElem?_eq_getElem hj, List.getElem?_eq_getElem h5, hcj, must_core hm, must_core hq]
      cases decide (l[i].J.Due < l[j].J.Due)
      · exact old
      · exact new
 exact key l.length fuel 0 (-1) (by omega) (by unfold fuel; omega) (.inl rfl)
def v128 (l : List Live) : Int := match F128 fuel l with
 | some r => r
 | none => -1
theorem F128_eq {l : List Live} (hl : l.length ≤ 100000) : F128 fuel l = some (v128 l) := by
 obtain ⟨_, r, e, _⟩ := F128_core hl
 simp [v128, e]
theorem v128_core {l : List Live} (hl : l.length ≤ 100000) : v128 (l.map core) = v128 l := by
 unfold v128
 rw [(F128_core hl).1]
theorem v128_must {l : List Live} (hl : l.length ≤ 100000) : v128 l = -1 ∨ ∃ (i : Nat) (h : i < l.length), v128 l = i ∧ F132 l[i].J = true := by
 obtain ⟨_, r, e, h⟩ := F128_core hl
 have : v128 l = r := by simp [v128, e]
 rw [this]
 exact h
def endL (t : Int) (x : Live) : Live := ⟨x.S, (F131 x.J t).1, x.P, x.At, x.N⟩
def missL (t : Int) (x : Live) : Bool := decide ((F131 x.J t).2 = 3) && F132 x.J
def ranL (x : Live) : Live := ⟨x.S, (F130 x.J).1, x.P, x.At, x.N⟩
def runL (l : List Live) : List Live := match v128 l with
 | .ofNat i => (match l[i]? with | some x => l.set i (ranL x) | none => l)
 | .negSucc _ => l
theorem L90_eq {R : Type} {l0 l : List Live} {now : Int} {e0 : Bool → List Live → Option R} (hl : l.length ≤ 100000) : L90_7 e0 now (l.length : Int) l0 fuel false 0 l = e0 (l.any (missL (wI (now + 1)))) (l.map (endL (wI (now + 1)))) := by
 have key : ∀ (k n i : Nat), l.length = i + k → k < n → L90_7 e0 now (l.length : Int) l0 n ((l.take i).any (missL (wI (now + 1)))) i (half (endL (wI (now + 1))) l i) = e0 (l.any (missL (wI (now + 1)))) (l.map (endL (wI (now + 1)))) := by
  intro k
  induction k with
  | zero =>
   intro n i hi hn
   obtain ⟨n, rfl⟩ : ∃ m, n = m + 1 := ⟨n - 1, by omega⟩
   show S90_7 _ _ _ _ _ _ _ _ = _
   have : ¬ (i : Int) < (l.length : Int) := by omega
   simp only [S90_7, this, decide_false, cond_false]
   rw [half_end (by omega), List.take_of_length_le (by omega)]
  | succ k ih =>
   intro n i hi hn
   obtain ⟨n, rfl⟩ : ∃ m, n = m + 1 := ⟨n - 1, by omega⟩
   show S90_7 _ _ _ _ (L90_7 _ _ _ _ n) _ _ _ = _
   have h1 : (i : Int) < (l.length : Int) := by omega
   have h2 : i < l.length := by omega
   have ih' := ih n (i + 1) (by omega) (by omega)
   rw [← half_set h2, List.take_add_one, List.getElem?_eq_getElem h2] at ih'
   simp only [Option.toList_some, List.any_append, List.any_cons, List.any_nil, Bool.or_false] at ih'
   simp only [S90_7, h1, half_length, Int.natCast_nonneg, decide_true, Bool.and_self, cond_true, Int.toNat_natCast, half_get h2]
   rw [wI_succ (by omega)]
   have he : (Live.mk l[i].S (F131 l[i].J (wI (now + 1))).1 l[i].P l[i].At l[i].N) = endL (wI (now + 1)) l[i] := rfl
   rw [he]
   cases hq : (l.take i).any (missL (wI (now + 1))) with
   | true =>
    rw [hq, Bool.true_or] at ih'
    exact ih'
   | false =>
    rw [hq, Bool.false_or] at ih'
    cases hd : decide ((F131 l[i].J (wI (now + 1))).2 = 3) with
    | true =>
     have : missL (wI (now + 1)) l[i] = F132 l[i].J := by simp only [missL, hd, Bool.true_and]
     rw [this] at ih'
     exact ih'
    | false =>
     have : missL (wI (now + 1)) l[i] = false := by simp only [missL, hd, Bool.false_and]
     rw [this] at ih'
     exact ih'
 have := key l.length fuel 0 (by omega) (by unfold fuel; omega)
 rwa [half_zero, List.take_zero, List.any_nil] at this
theorem begL_length (now : Int) (l : List Live) : (l.map (begL now)).length = l.length := List.length_map ..
theorem runL_length (l : List Live) : (runL l).length = l.length := by
 unfold runL
 split
 · split <;> simp
 · rfl
theorem F90_eq {l : List Live} (hl : l.length ≤ 100000) (now : Int) : F90 fuel l now = some ((runL (l.map (begL now))).map (endL (wI (now + 1))), (runL (l.map (begL now))).any (missL (wI (now + 1)))) := by
 unfold F90
 rw [F129_eq hl]
 generalize hb : l.map (begL now) = b
 have hbl : b.length = l.length := by rw [← hb, List.length_map]
 simp only
 rw [F128_eq (by omega)]
 simp only
 rcases v128_must (l := b) (by omega) with h | ⟨i, hi, h, hm⟩
 · have hr : runL b = b := by unfold runL; rw [h]; rfl
   rw [h, hr]
   simp only [decide_true, Bool.not_true, cond_false]
   exact L90_eq (by omega)
 · have hr : runL b = b.set i (ranL b[i]) := by
    unfold runL
    rw [h]
    show (match b[i]? with | some x => b.set i (ranL x) | none => b) = _
    rw [List.getElem?_eq_getElem hi]
   have hne : ¬ ((i : Int) = -1) := by omega
   have h4 : (i : Int) < (b.length : Int) := by omega
   rw [h, hr]
   simp only [hne, decide_false, Bool.not_false, cond_true, Int.natCast_nonneg, h4, decide_true, Bool.and_self, Int.toNat_natCast, List.getElem?_eq_getElem hi]
   have := L90_eq (R := (List Live) × Bool) (l0 := l) (l := b.set i (ranL b[i])) (now := now) (e0 := fun z17 z18 => some (z18, z17)) (by simp; omega)
   exact this
theorem coreJ_idem (j : Job) : coreJ (coreJ j) = coreJ j := by
 unfold coreJ
 cases h : j.On && j.Mand with
 | true => simp only [cond_true, h]
 | false => rfl
theorem core_begL (now : Int) (x : Live) : core (begL now (core x)) = core (begL now x) := by
 unfold begL
 show core (bif decide (now < x.At) then core x else _) = _
 cases decide (now < x.At) with
 | true => simp [core, coreJ_idem]
 | false => rfl
theorem F131_core (j : Job) (t : Int) : coreJ (F131 (coreJ j) t).1 = coreJ (F131 j t).1 := by
 unfold coreJ
 cases h : j.On && j.Mand with
 | true => rfl
 | false =>
  simp only [cond_false]
  have h1 : (F131 noJob t).1 = noJob := rfl
  rw [h1]
  have : ((F131 j t).1.On && (F131 j t).1.Mand) = false := by
   unfold F131 K131
   cases hon : j.On with
   | false => simp [hon]
   | true =>
    rw [hon, Bool.true_and] at h
    simp only [Bool.not_true, cond_false]
    cases decide (t < j.Due) <;> simp [h]
  rw [this]
  rfl
theorem core_endL (t : Int) (x : Live) : core (endL t (core x)) = core (endL t x) := by
 show Live.mk x.S (coreJ (F131 (coreJ x.J) t).1) x.P x.At x.N = _
 rw [F131_core]
 rfl
theorem missL_core (t : Int) (x : Live) : missL t (core x) = missL t x := by
 unfold missL
 show (decide ((F131 (coreJ x.J) t).2 = 3) && F132 (coreJ x.J)) = _
 rw [coreJ_must]
 cases hm : F132 x.J with
 | true => rw [must_core hm]
 | false => simp
theorem v128_congr {la lb : List Live} (h : la.map core = lb.map core) (hl : la.length ≤ 100000) : v128 la = v128 lb := by
 have hlen : la.length = lb.length := by simpa using congrArg List.length h
 rw [← v128_core hl, ← v128_core (l := lb) (by omega), h]
theorem map_core {f : Live → Live} (hf : ∀ x, core (f (core x)) = core (f x)) {la lb : List Live} (h : la.map core = lb.map core) : (la.map f).map core = (lb.map f).map core := by
 have e : ∀ l : List Live, (l.map f).map core = (l.map core).map (fun x => core (f x)) := fun l => by
  rw [List.map_map, List.map_map]
  exact List.map_congr_left fun x _ => (hf x).symm
 rw [e, e, h]
theorem any_core {p : Live → Bool} (hp : ∀ x, p (core x) = p x) {la lb : List Live} (h : la.map core = lb.map core) : la.any p = lb.any p := by
 have e : ∀ l : List Live, l.any p = (l.map core).any p := fun l => by
  rw [List.any_map]
  induction l with
  | nil => rfl
  | cons x l ih => simp only [List.any_cons, Function.comp, hp, ih]
 rw [e la, e lb, h]
theorem runL_core {la lb : List Live} (h : la.map core = lb.map core) (hl : la.length ≤ 100000) : (runL la).map core = (runL lb).map core := by
 have hlen : la.length = lb.length := by simpa using congrArg List.length h
 have hv := v128_congr h hl
 unfold runL
 rw [← hv]
 rcases v128_must hl with e | ⟨i, hi, e, hm⟩
 · rw [e]
   exact h
 · rw [e]
   show (match la[i]? with | some x => la.set i (ranL x) | none => la).map core = (match lb[i]? with | some x => lb.set i (ranL x) | none => lb).map core
   have hi2 : i < lb.length := by omega
   rw [List.getElem?_eq_getElem hi, List.getElem?_eq_getElem hi2]
   simp only [List.map_set]
   rw [h]
   congr 1
   have hx : core la[i] = core lb[i] := by
    have := congrArg (·[i]?) h
    simpa [List.getElem?_map, List.getElem?_eq_getElem hi, List.getElem?_eq_getElem hi2] using this
   rcases v128_must (l := lb) (by omega) with e2 | ⟨j, hj, e2, hm2⟩
   · rw [← hv, e] at e2; omega
   · rw [← hv, e] at e2
     have : j = i := by omega
     subst this
     have hJ : la[j].J = lb[j].J := by
      have := congrArg Live.J hx
      simpa only [core, must_core hm, must_core hm2] using this
     have hx' : core la[j] = core lb[j] := hx
     unfold core at hx' ⊢
     simp only [Live.mk.injEq] at hx'
     simp only [ranL, hJ, Live.mk.injEq, true_and]
     exact ⟨hx'.1, hx'.2.2.1, hx'.2.2.2.1, hx'.2.2.2.2⟩
def stepL (now : Int) (l : List Live) : List Live := (runL (l.map (begL now))).map (endL (wI (now + 1)))
def lostL (now : Int) (l : List Live) : Bool := (runL (l.map (begL now))).any (missL (wI (now + 1)))
theorem stepL_length (now : Int) (l : List Live) : (stepL now l).length = l.length := by rw [stepL, List.length_map, runL_length, List.length_map]
theorem stepL_core (now : Int) {la lb : List Live} (h : la.map core = lb.map core) (hl : la.length ≤ 100000) : (stepL now la).map core = (stepL now lb).map core ∧ lostL now la = lostL now lb := by
 have h1 := runL_core (map_core (core_begL now) h) (by rw [List.length_map]; exact hl)
 exact ⟨map_core (core_endL _) h1, any_core (missL_core _) h1⟩
theorem F89_eq {l : List Live} (hl : l.length ≤ 100000) : F89 l = some (decide (v128 l = -1)) := by
 unfold F89
 rw [F128_eq hl]
theorem L56_core {now : Int} {l0 m0 : List Live} {la lb : List Live} (h : la.map core = lb.map core) (hl : la.length ≤ 100000) {e0 : Int → Bool → Option (Int × Bool)} {e1 : Option (Int × Bool)} :
 ∀ (n i : Nat), i ≤ 2000 → L56_4 e0 e1 now l0 n i la = L56_4 e0 e1 now m0 n i lb := by
 intro n
 induction n generalizing la lb with
 | zero => intros; rfl
 | succ n ih =>
  intro i hi
  have hlen : la.length = lb.length := by simpa using congrArg List.length h
  show S56_4 _ _ _ _ (L56_4 _ _ _ _ n) _ _ = S56_4 _ _ _ _ (L56_4 _ _ _ _ n) _ _
  unfold S56_4
  rw [F89_eq hl, F89_eq (l := lb) (by omega), ← v128_congr h hl, F90_eq hl, F90_eq (l := lb) (by omega)]
  obtain ⟨h1, h2⟩ := stepL_core (wI (now + i)) h hl
  by_cases hlt : (i : Int) < 2000
  · simp only [hlt, decide_true, cond_true]
    cases decide (v128 la = -1) with
    | true => rfl
    | false =>
     show (bif lostL (wI (now + i)) la then _ else L56_4 _ _ _ _ n _ (stepL (wI (now + i)) la)) = (bif lostL (wI (now + i)) lb then _ else L56_4 _ _ _ _ n _ (stepL (wI (now + i)) lb))
     rw [h2, wI_succ (by omega)]
     cases lostL (wI (now + i)) lb with
     | true => rfl
     | false => exact ih h1 (by rw [stepL_length]; exact hl) (i + 1) (by omega)
  · simp only [hlt, decide_false, cond_false]
theorem L56_ok {now : Int} {l0 : List Live} {e0 : Int → Bool → Option (Int × Bool)} {e1 : Option (Int × Bool)} (he0 : ∀ a b, Ok (e0 a b)) (he1 : Ok e1) :
 ∀ (k n i : Nat) (la : List Live), la.length ≤ 100000 → i + k = 2000 → k < n → Ok (L56_4 e0 e1 now l0 n i la) := by
 intro k
 induction k with
 | zero =>
  intro n i la hl hi hn
  obtain ⟨n, rfl⟩ : ∃ m, n = m + 1 := ⟨n - 1, by omega⟩
  show Ok (S56_4 _ _ _ _ (L56_4 _ _ _ _ n) _ _)
  have hlt : ¬ (i : Int) < 2000 := by omega
  simp only [S56_4, hlt, decide_false, cond_false]
  exact he1
 | succ k ih =>
  intro n i la hl hi hn
  obtain ⟨n, rfl⟩ : ∃ m, n = m + 1 := ⟨n - 1, by omega⟩
  show Ok (S56_4 _ _ _ _ (L56_4 _ _ _ _ n) _ _)
  unfold S56_4
  rw [F89_eq hl, F90_eq hl]
  refine bif_ok (fun _ => bif_ok (fun _ => he0 ..) fun _ => bif_ok (fun _ => he0 ..) fun _ => ?_) fun _ => he1
  rw [wI_succ (by omega)]
  exact ih n (i + 1) _ (by show (stepL (wI (now + i)) la).length ≤ _; rw [stepL_length]; exact hl) (by omega) (by omega)
theorem F88_iff {l : List Live} (hl : l.length < 9223372036854775807) (now : Int) : ∃ b, F88 l now = some b ∧ (b = true ↔ l.length ≤ 4 ∧ F124 now 0 549755813888 = true ∧ ∀ x ∈ l, F127 x now = some true) := by
 unfold F88
 by_cases h4 : 4 < (l.length : Int)
 · simp only [h4, decide_true, cond_true]
   exact ⟨false, rfl, by simp; omega⟩
 · simp only [h4, decide_false, cond_false]
   cases hq : F124 now 0 549755813888 with
   | false => exact ⟨false, rfl, by simp⟩
   | true =>
    obtain ⟨r, e, h⟩ := F160_126_ok hl now
    simp only [Bool.not_true, cond_false]
    rw [e]
    refine ⟨_, rfl, ?_⟩
    rcases h with ⟨rfl, h⟩ | ⟨hr, x, hx, hf⟩
    · simp only [show ¬ (0 : Int) ≤ -1 by omega, decide_false, Bool.not_false, true_iff]
      exact ⟨by omega, trivial, h⟩
    · simp only [hr, decide_true, Bool.not_true, Bool.false_eq_true, false_iff]
      rintro ⟨_, _, h⟩
      rw [h x hx] at hf
      cases hf
theorem F56_ok {l : List Live} (hl : l.length ≤ 100000) (now : Int) : Ok (F56 fuel l now) := by
 unfold F56
 obtain ⟨b, e, _⟩ := F88_iff (l := l) (by omega) now
 rw [e]
 exact bif_ok (fun _ => .intro _) fun _ => L56_ok (fun _ _ => .intro _) (.intro _) 2000 fuel 0 l hl (by omega) (by unfold fuel; omega)
theorem F56_core (n : Nat) {la lb : List Live} (h : la.map core = lb.map core) (hl : la.length ≤ 100000) {now : Int} (h88 : F88 la now = F88 lb now) : F56 n la now = F56 n lb now := by
 unfold F56
 rw [h88]
 cases F88 lb now with
 | none => rfl
 | some b =>
  cases b with
  | false => rfl
  | true =>
   simp only [Bool.not_true, cond_false]
   exact L56_core h hl n 0 (by omega)
end Go.Abs
end
section
namespace Go.Abs
set_option linter.unusedVariables false
set_option linter.unusedSimpArgs false
structure RingOK (r : Ring) : Prop where
 N : 0 ≤ r.N ∧ r.N ≤ 60
 B : 0 ≤ r.B ∧ r.B < 2 ^ r.N.toNat
theorem ediv_zero {b c : Int} (hc : 0 < c) : b / c = 0 ↔ 0 ≤ b ∧ b < c := by
 constructor
 · intro h
   have h1 := Int.mul_ediv_add_emod b c
   have h2 := Int.emod_nonneg b (Int.ne_of_gt hc)
   have h3 := Int.emod_lt_of_pos b hc
   rw [h] at h1
   simp at h1
   omega
 · rintro ⟨h1, h2⟩
   exact Int.ediv_eq_zero_of_lt h1 h2
theorem pow_pos (n : Nat) : (0 : Int) < 2 ^ n := Int.pow_pos (by decide)
theorem F29_iff (r : Ring) : ∃ b, F29 r = some b ∧ (b = true ↔ RingOK r) := by
 unfold F29
 by_cases h1 : 0 ≤ r.N
 · by_cases h2 : r.N ≤ 60
   · have h3 : ¬ r.N < 0 := by omega
     simp only [h1, h2, h3, decide_true, decide_false, cond_true, cond_false]
     refine ⟨_, rfl, ?_⟩
     rw [decide_eq_true_iff]
     have hs : shr .u64 r.B r.N = r.B / 2 ^ r.N.toNat := by
      show r.B.fdiv (2 ^ min r.N.toNat 64) = _
      rw [Nat.min_eq_left (by omega), Int.fdiv_eq_ediv_of_nonneg _ (Int.le_of_lt (pow_pos _))]
     rw [hs, ediv_zero (pow_pos _)]
     exact ⟨fun h => ⟨⟨h1, h2⟩, h⟩, fun h => h.B⟩
   · simp only [h1, h2, decide_true, decide_false, cond_true, cond_false]
     exact ⟨false, rfl, by simp only [Bool.false_eq_true, false_iff]; exact fun h => h2 h.N.2⟩
 · simp only [h1, decide_false, cond_false]
   exact ⟨false, rfl, by simp only [Bool.false_eq_true, false_iff]; exact fun h => h1 h.N.1⟩
theorem F13_ok (r : Ring) : ∃ r', F13 r = some r' ∧ RingOK r' ∧ (RingOK r → r' = r) := by
 unfold F13
 obtain ⟨b, e, h⟩ := F29_iff r
 rw [e]
 cases b with
 | true => exact ⟨r, rfl, h.1 rfl, fun _ => rfl⟩
 | false => exact ⟨_, rfl, ⟨by simp, by simp⟩, fun h1 => absurd (h.2 h1) (by simp)⟩
theorem F15_ok {n : Int} (h : 0 ≤ n) : F15 n = some (wU ((shl .u64 1 n) - 1)) := by
 unfold F15
 have : ¬ n < 0 := by omega
 simp only [this, decide_false, cond_false]
theorem F15_60 : F15 60 = some 1152921504606846975 := by decide
theorem ofInt_nat {x : Int} (h : 0 ≤ x) (h2 : x < 18446744073709551616) : (BitVec.ofInt 64 x).toNat = x.toNat := by
 rw [BitVec.toNat_ofInt]
 have : x % ((2 ^ 64 : Nat) : Int) = x := Int.emod_eq_of_lt h (by simpa using h2)
 rw [this]
theorem bits_and {x y : Int} (hx : 0 ≤ x) (hx2 : x < 18446744073709551616) (hy : 0 ≤ y) (hy2 : y < 18446744073709551616) : bits .and .u64 x y = ((x.toNat &&& y.toNat : Nat) : Int) := by
 show wU (((BitVec.ofInt 64 x &&& BitVec.ofInt 64 y).toNat : Nat) : Int) = _
 rw [BitVec.toNat_and, ofInt_nat hx hx2, ofInt_nat hy hy2]
 have : x.toNat &&& y.toNat ≤ x.toNat := Nat.and_le_left
 exact wU_eq (by omega) (by omega)
theorem bits_or {x y : Int} {n : Nat} (hx : 0 ≤ x) (hx2 : x < 2 ^ n) (hy : 0 ≤ y) (hy2 : y < 2 ^ n) (hn : n ≤ 60) : ∃ z : Nat, bits .or .u64 x y = (z : Int) ∧ z < 2 ^ n := by
 have hp : (2 : Int) ^ n ≤ 2 ^ 60 := by
  have := Nat.pow_le_pow_right (n := 2) (by decide) hn
  exact_mod_cast this
 have e : (2 : Int) ^ 60 = 1152921504606846976 := by decide
 have h1 : x.toNat < 2 ^ n := by
  have : ((x.toNat : Nat) : Int) < ((2 ^ n : Nat) : Int) := by rw [Int.toNat_of_nonneg hx]; exact_mod_cast hx2
  exact_mod_cast this
 have h2 : y.toNat < 2 ^ n := by
  have : ((y.toNat : Nat) : Int) < ((2 ^ n : Nat) : Int) := by rw [Int.toNat_of_nonneg hy]; exact_mod_cast hy2
  exact_mod_cast this
 have h3 := Nat.or_lt_two_pow h1 h2
 refine ⟨x.toNat ||| y.toNat, ?_, h3⟩
 show wU (((BitVec.ofInt 64 x ||| BitVec.ofInt 64 y).toNat : Nat) : Int) = _
 rw [BitVec.toNat_or, ofInt_nat hx (by omega), ofInt_nat hy (by omega)]
 have : ((x.toNat ||| y.toNat : Nat) : Int) < ((2 ^ n : Nat) : Int) := by exact_mod_cast h3
 have h4 : ((2 ^ n : Nat) : Int) = 2 ^ n := by simp
 exact wU_eq (by omega) (by omega)
theorem F200_ok {r : Ring} (h : RingOK r) (good : Bool) : ∃ r', F200 r good = some r' ∧ RingOK r' ∧ r'.N = min (r.N + 1) 60 := by
 unfold F200
 obtain ⟨r1, e, h1, h2⟩ := F13_ok r
 have := h2 h
 subst this
 rw [e, F15_60]
 simp only
 obtain ⟨⟨hN, hN2⟩, hB, hB2⟩ := h
 have hp : (2 : Int) ^ r1.N.toNat ≤ 2 ^ 60 := by
  have := Nat.pow_le_pow_right (n := 2) (by decide) (show r1.N.toNat ≤ 60 by omega)
  exact_mod_cast this
 have e60 : (2 : Int) ^ 60 = 1152921504606846976 := by decide
 have hs : shl .u64 r1.B 1 = 2 * r1.B := by
  show wU (r1.B * 2 ^ min 1 64) = _
  rw [show (min 1 64 : Nat) = 1 from rfl, Int.pow_one]
  rw [wU_eq (by omega) (by omega)]
  omega
 have hw : wI (r1.N + 1) = r1.N + 1 := wI_eq (by omega) (by omega)
 rw [hs, hw, bits_and (by omega) (by omega) (by omega) (by omega)]
 generalize hz : ((2 * r1.B).toNat &&& (1152921504606846975 : Int).toNat : Nat) = z
 have z1 : z ≤ (2 * r1.B).toNat := by rw [← hz]; exact Nat.and_le_left
 have z2 : z ≤ 1152921504606846975 := by rw [← hz]; exact Nat.and_le_right
 have hmin : (min (r1.N + 1) 60).toNat = min (r1.N.toNat + 1) 60 := by omega
 have hzN : (z : Int) < 2 ^ (min (r1.N + 1) 60).toNat := by
  rw [hmin]
  rcases Nat.lt_or_ge r1.N.toNat 60 with hlt | hge
  · rw [Nat.min_eq_left (by omega), Int.pow_succ]
    omega
  · rw [Nat.min_eq_right (by omega), e60]
    omega
 have hNm : 0 ≤ min (r1.N + 1) 60 ∧ min (r1.N + 1) 60 ≤ 60 := by omega
 cases good with
 | false => exact ⟨_, rfl, ⟨hNm, (by show (0 : Int) ≤ (z : Int); omega), hzN⟩, rfl⟩
 | true =>
  have h1lt : (1 : Int) < 2 ^ (min (r1.N + 1) 60).toNat := by
   have h1 : 1 ≤ (min (r1.N + 1) 60).toNat := by omega
   have := Nat.pow_le_pow_right (n := 2) (by decide) h1
   have : ((2 ^ 1 : Nat) : Int) ≤ ((2 ^ (min (r1.N + 1) 60).toNat : Nat) : Int) := by exact_mod_cast this
   simp at this
   omega
  obtain ⟨y, hy, hy2⟩ := bits_or (x := (z : Int)) (y := 1) (n := (min (r1.N + 1) 60).toNat) (by omega) hzN (by omega) h1lt (by omega)
  refine ⟨_, rfl, ⟨hNm, ?_, ?_⟩, rfl⟩
  · simp only [cond_true]
    rw [hy]
    omega
  · simp only [cond_true]
    rw [hy]
    exact_mod_cast hy2
theorem F238_ok (r : Ring) (m k : Int) : Ok (F238 fuel r m k) := by
 unfold F238
 obtain ⟨r1, e, h1, h2⟩ := F13_ok r
 rw [e]
 refine bif_ok (fun _ => .intro _) fun hq => ?_
 obtain ⟨k1, k2, k3⟩ := (F149_iff m k).1 (not_ble hq)
 rw [F15_ok (by omega)]
 have : ¬ r1.N < 0 := by have := h1.N; omega
 simp only [this, decide_false, cond_false]
 generalize bits .or .u64 r1.B _ = B
 generalize r1.B = b
 generalize r1.N = N
 have key : ∀ (j n i : Nat), k = i + j → j < n → Ok (L238_6 (fun z13 => some z13) (some k) m k B k r.N r.B N b n i) := by
  intro j
  induction j with
  | zero =>
   intro n i hi hn
   obtain ⟨n, rfl⟩ : ∃ m, n = m + 1 := ⟨n - 1, by omega⟩
   show Ok (S238_6 _ _ _ _ _ _ _ _ _ _ (L238_6 _ _ _ _ _ _ _ _ _ _ n) _)
   have h : ¬ (i : Int) < k := by omega
   simp only [S238_6, h, decide_false, cond_false]
   exact .intro _
  | succ j ih =>
   intro n i hi hn
   obtain ⟨n, rfl⟩ : ∃ m, n = m + 1 := ⟨n - 1, by omega⟩
   show Ok (S238_6 _ _ _ _ _ _ _ _ _ _ (L238_6 _ _ _ _ _ _ _ _ _ _ n) _)
   have h : (i : Int) < k := by omega
   simp only [S238_6, h, decide_true, cond_true]
   rw [wI_eq (n := k - i) (by omega) (by omega), F15_ok (by omega), wI_succ (by omega)]
   exact bif_ok (fun _ => .intro _) fun _ => ih n (i + 1) (by omega) (by omega)
 exact key k.toNat fuel 0 (by omega) (by unfold fuel; omega)
theorem F124_iff (n lo hi : Int) : F124 n lo hi = true ↔ lo ≤ n ∧ n ≤ hi := by
 unfold F124 K124
 by_cases h1 : lo ≤ n <;> simp [h1]
def JobOK (s : Spec) (j : Job) : Prop := j = noJob ∨ (j.On = true ∧ 0 ≤ j.J ∧ j.J ≤ 1099511627776 ∧ 0 ≤ j.Rel ∧ j.Rel < j.Due ∧ j.Due ≤ 1099511627776 ∧ j.C = s.C ∧ 1 ≤ j.D ∧ j.D ≤ 20 ∧ 0 ≤ j.Ran ∧ j.Ran < min j.C j.D ∧ F159 s.M s.K j.J = some j.Mand)
theorem some_f {c : Prop} [Decidable c] {x : Option Bool} (h : (bif decide c then x else some false) = some true) : c ∧ x = some true := by
 by_cases hc : c
 · exact ⟨hc, by simpa [hc] using h⟩
 · simp [hc] at h
theorem F122_iff (s : Spec) (j : Job) : F122 s j = some true ↔ F104 s = true ∧ JobOK s j := by
 unfold F122
 obtain ⟨m, hm⟩ := F159_ok s.M s.K j.J
 rw [hm]
 simp only
 cases hq : F104 s with
 | false => simp
 | true =>
  cases hon : j.On with
  | false =>
   simp only [Bool.not_true, cond_false, Bool.not_false, cond_true, true_and]
   obtain ⟨On, J, Rel, Due, Mand, C, D, Ran⟩ := j
   simp only at hon
   subst hon
   simp [JobOK]
  | true =>
   simp only [Bool.not_true, cond_false, true_and]
   have hne : j ≠ noJob := fun h => by rw [h] at hon; cases hon
   simp only [JobOK, hne, false_or, hon, true_and, hm, Option.some.injEq]
   by_cases h1 : j.J < 0
   · simp only [h1, decide_true, cond_true, Option.some.injEq, Bool.false_eq_true, false_iff]
     omega
   by_cases h2 : 1099511627776 < j.J
   · simp only [h1, h2, decide_true, decide_false, cond_true, cond_false, Option.some.injEq, Bool.false_eq_true, false_iff]
     omega
   by_cases h3 : j.Rel < 0
   · simp only [h1, h2, h3, decide_true, decide_false, cond_true, cond_false, Option.some.injEq, Bool.false_eq_true, false_iff]
     omega
   by_cases h4 : j.Due ≤ j.Rel
   · simp only [h1, h2, h3, h4, decide_true, decide_false, cond_true, cond_false, Option.some.injEq, Bool.false_eq_true, false_iff]
     omega
   by_cases h5 : 1099511627776 < j.Due
   · simp only [h1, h2, h3, h4, h5, decide_true, decide_false, cond_true, cond_false, Option.some.injEq, Bool.false_eq_true, false_iff]
     omega
   simp only [h1, h2, h3, h4, h5, decide_false, cond_false]
   by_cases h6 : ¬ (j.C = s.C)
   · simp [h6]
   replace h6 := Classical.not_not.1 h6
   by_cases h7 : ¬ (1 ≤ j.D)
   · simp [h6, h7]
   replace h7 := Classical.not_not.1 h7
   by_cases h8 : ¬ (j.D ≤ 20)
   · simp [h6, h7, h8]
   replace h8 := Classical.not_not.1 h8
   by_cases h9 : ¬ (0 ≤ j.Ran)
   · simp [h6, h7, h8, h9]
   replace h9 := Classical.not_not.1 h9
   by_cases h10 : ¬ (j.Ran < min j.C j.D)
   · simp only [h6, h7, h8, h9, decide_true, cond_true] at h10 ⊢
     simp only [h10, decide_false, cond_false, Option.some.injEq, Bool.false_eq_true, false_and, and_false]
   replace h10 := Classical.not_not.1 h10
   simp only [h6, h7, h8, h9, decide_true, cond_true] at h10 ⊢
   simp only [h10, decide_true, cond_true, Option.some.injEq, beq_iff_eq, true_and]
   constructor
   · intro h
     exact ⟨by omega, by omega, by omega, by omega, by omega, h.symm⟩
   · intro h
     exact h.2.2.2.2.2.symm
end Go.Abs
end
section
namespace Go.Abs
set_option linter.unusedVariables false
set_option linter.unusedSimpArgs false
structure LiveOK (x : Live) (now : Int) : Prop where
 spec : F104 x.S = true
 per : ∃ r, F134 x.S x.P = some r ∧ r ≠ 0
 at_ : now ≤ x.At ∧ x.At ≤ now + 48
 n : 0 ≤ x.N ∧ x.N ≤ 549755813888
 job : JobOK x.S x.J
 on : x.J.On = true → x.J.Rel < now ∧ x.J.Due = x.At ∧ x.N = x.J.J + 1
theorem F127_iff (x : Live) {now : Int} (h0 : 0 ≤ now ∧ now ≤ 549755813888) : F127 x now = some true ↔ LiveOK x now := by
 unfold F127
 obtain ⟨r, er⟩ := F134_ok x.S x.P
 obtain ⟨b, eb⟩ := F122_ok x.S x.J
 rw [er]
 simp only
 rw [eb, wI_eq (n := now + 48) (by omega) (by omega)]
 simp only
 constructor
 · intro h
   cases hs : F104 x.S with
   | false => rw [hs] at h; simp at h
   | true =>
    rw [hs] at h
    simp only [Bool.not_true, cond_false] at h
    by_cases hr : r = 0
    · simp [hr] at h
    simp only [hr, decide_false, cond_false] at h
    cases ha : F124 x.At now (now + 48) with
    | false => rw [ha] at h; simp at h
    | true =>
     rw [ha] at h
     simp only [Bool.not_true, cond_false] at h
     cases hn : F124 x.N 0 549755813888 with
     | false => rw [hn] at h; simp at h
     | true =>
      rw [hn] at h
      simp only [Bool.not_true, cond_false] at h
      cases b with
      | false => simp at h
      | true =>
       simp only [Bool.not_true, cond_false] at h
       refine ⟨hs, ⟨r, er, hr⟩, (F124_iff _ _ _).1 ha, (F124_iff _ _ _).1 hn, ((F122_iff _ _).1 eb).2, fun hon => ?_⟩
       rw [hon] at h
       simp only [Bool.not_true, cond_false] at h
       obtain ⟨h1, h⟩ := some_f h
       obtain ⟨h2, h⟩ := some_f h
       simp only [Option.some.injEq, decide_eq_true_eq] at h
       refine ⟨h1, h2, ?_⟩
       have hj := ((F122_iff _ _).1 eb).2
       rcases hj with hj | hj
       · rw [hj] at hon; cases hon
       · rwa [wI_eq (by omega) (by omega)] at h
 · rintro ⟨h1, ⟨r', h2, h3⟩, h4, h5, h6, h7⟩
   rw [er] at h2
   cases h2
   have hb : b = true := by
    have := (F122_iff _ _).2 ⟨h1, h6⟩
    rw [eb] at this
    exact Option.some.inj this
   rw [h1, (F124_iff _ _ _).2 h4, (F124_iff _ _ _).2 h5, hb]
   simp only [Bool.not_true, cond_false, h3, decide_false]
   cases hon : x.J.On with
   | false => rfl
   | true =>
    obtain ⟨k1, k2, k3⟩ := h7 hon
    rcases h6 with hj | hj
    · rw [hj] at hon; cases hon
    · rw [wI_eq (by omega) (by omega)]
      simp [k1, k2, k3]
structure TaskOK (t : Task) (now : Int) : Prop where
 id : 0 ≤ t.ID ∧ t.ID ≤ 549755813888
 p : 1 ≤ t.P ∧ t.P ≤ 48
 ring : RingOK t.H
 spec : F104 t.S = true
 per : ∃ r, F134 t.S t.Next = some r ∧ r ≠ 0
 at_ : now ≤ t.At ∧ t.At ≤ now + 48
 n : 0 ≤ t.N ∧ t.N ≤ 549755813888
 job : JobOK t.S t.J
 on : t.J.On = true → t.J.Rel < now ∧ t.J.Due = t.At ∧ t.N = t.J.J + 1
 hn : t.H.N = min (bif t.J.On then t.N - 1 else t.N) 60
theorem F91_eq (t : Task) : F91 t = ⟨t.S, bif t.J.On then ⟨t.J.On, t.J.J, t.J.Rel, t.J.Due, t.J.Mand, t.J.C, t.S.C, t.J.Ran⟩ else t.J, t.Next, t.At, t.N⟩ := by
 unfold F91 K91
 cases t.J.On <;> rfl
theorem jobLive {s : Spec} {j : Job} (hs : F104 s = true) (h : JobOK s j) : JobOK s (bif j.On then ⟨j.On, j.J, j.Rel, j.Due, j.Mand, j.C, s.C, j.Ran⟩ else j) := by
 rcases h with rfl | h
 · exact .inl rfl
 · rw [h.1]
   have hC := (F104_ok hs).C
   obtain ⟨h1, h2, h3, h4, h5, h6, h7, h8, h9, h10, h11, h12⟩ := h
   exact .inr ⟨rfl, h2, h3, h4, h5, h6, h7, hC.1, by show s.C ≤ 20; omega, h10, by show j.Ran < min j.C s.C; omega, h12⟩
theorem F123_eq {t : Task} (h : 0 ≤ t.N ∧ t.N ≤ 549755813888) : F123 t = bif t.J.On then t.N - 1 else t.N := by
 unfold F123 K123
 rw [wI_eq (by omega) (by omega)]
theorem F88_one (x : Live) {now : Int} (h0 : 0 ≤ now ∧ now ≤ 549755813888) : ∃ b, F88 [x] now = some b ∧ (b = true ↔ LiveOK x now) := by
 obtain ⟨b, e, h⟩ := F88_iff (l := [x]) (by simp) now
 refine ⟨b, e, h.trans ?_⟩
 rw [← F127_iff x h0]
 constructor
 · rintro ⟨_, _, h⟩
   exact h x (by simp)
 · intro h
   exact ⟨by simp, (F124_iff _ _ _).2 h0, fun y hy => by simp at hy; rw [hy]; exact h⟩
theorem F85_iff (t : Task) {now : Int} (h0 : 0 ≤ now ∧ now ≤ 549755813888) : ∃ b, F85 t now = some b ∧ (b = true ↔ TaskOK t now) := by
 unfold F85
 obtain ⟨b1, e1, h1⟩ := F29_iff t.H
 obtain ⟨b2, e2, h2⟩ := F88_one (F91 t) h0
 obtain ⟨b3, e3⟩ := F122_ok t.S t.J
 rw [e1]
 simp only
 rw [e2]
 simp only
 rw [e3]
 simp only
 by_cases k1 : t.ID < 0
 · exact ⟨false, by simp [k1], by simp only [Bool.false_eq_true, false_iff]; exact fun h => by have := h.id; omega⟩
 by_cases k2 : 549755813888 < t.ID
 · exact ⟨false, by simp [k1, k2], by simp only [Bool.false_eq_true, false_iff]; exact fun h => by have := h.id; omega⟩
 by_cases k3 : t.P < 1
 · exact ⟨false, by simp [k1, k2, k3], by simp only [Bool.false_eq_true, false_iff]; exact fun h => by have := h.p; omega⟩
 by_cases k4 : 48 < t.P
 · exact ⟨false, by simp [k1, k2, k3, k4], by simp only [Bool.false_eq_true, false_iff]; exact fun h => by have := h.p; omega⟩
 simp only [k1, k2, k3, k4, decide_false, cond_false]
 cases b1 with
 | false => exact ⟨false, rfl, by simp only [Bool.false_eq_true, false_iff]; exact fun h => absurd (h1.2 h.ring) (by simp)⟩
 | true =>
  simp only [Bool.not_true, cond_false]
  have live : TaskOK t now → LiveOK (F91 t) now := fun h => by
   rw [F91_eq]
   refine ⟨h.spec, h.per, h.at_, h.n, jobLive h.spec h.job, fun hon => ?_⟩
   cases hq : t.J.On with
   | false =>
    rw [hq] at hon
    have hon : t.J.On = true := hon
    rw [hq] at hon
    cases hon
   | true => simp only [cond_true]; exact h.on hq
  cases b2 with
  | false => exact ⟨false, rfl, by simp only [Bool.false_eq_true, false_iff]; exact fun h => absurd (h2.2 (live h)) (by simp)⟩
  | true =>
   have hl := h2.1 rfl
   rw [F91_eq] at hl
   cases b3 with
   | false => exact ⟨false, rfl, by
    simp only [Bool.false_eq_true, false_iff]
    intro h
    have := (F122_iff _ _).2 ⟨h.spec, h.job⟩
    rw [e3] at this
    cases this⟩
   | true =>
    have hj := (F122_iff _ _).1 e3
    refine ⟨_, rfl, ?_⟩
    rw [decide_eq_true_iff, F123_eq hl.n]
    constructor
    · intro h
      refine ⟨by omega, by omega, h1.1 rfl, hj.1, hl.per, hl.at_, hl.n, hj.2, fun hon => ?_, h⟩
      have := hl.on
      rw [hon] at this
      exact this rfl
    · intro h
      exact h.hn
theorem F158_ok {w : Task} (h : RingOK w.H) (f : Int) : ∃ r, F158 w f = some ⟨w.ID, w.S, w.P, w.Next, w.At, w.N, w.J, r, w.Kept⟩ ∧ RingOK r ∧ (f = 0 ∧ r = w.H ∨ f ≠ 0 ∧ r.N = min (w.H.N + 1) 60) := by
 unfold F158
 by_cases hf : f = 0
 · exact ⟨w.H, by simp [hf], h, .inl ⟨hf, rfl⟩⟩
 · simp only [hf, decide_false, cond_false]
   obtain ⟨r, e, h1, h2⟩ := F200_ok h (decide (f = 1))
   unfold F187
   rw [e]
   exact ⟨r, rfl, h1, .inr ⟨hf, h2⟩⟩
theorem ring_over {t : Task} {now : Int} (h : TaskOK t now) (hon : t.J.On = true) {r : Ring} (hr : r.N = min (t.H.N + 1) 60) : r.N = min t.N 60 := by
 have := h.hn
 rw [hon] at this
 simp only [cond_true] at this
 have h1 := (h.on hon).2.2
 have h2 := h.job
 rcases h2 with h2 | h2
 · rw [h2] at hon; cases hon
 · omega
theorem F119_ok {t : Task} {w : Int} (h : TaskOK t w) : ∃ t' f, F119 t w = some (t', f) ∧ TaskOK t' w ∧ (t'.J.On = true → w < t'.J.Due) ∧ t'.ID = t.ID ∧ t'.S = t.S ∧ t'.P = t.P ∧ t'.Next = t.Next ∧ t'.At = t.At ∧ t'.N = t.N ∧ t'.J = (F131 t.J w).1 ∧ f = (F131 t.J w).2 := by
 unfold F119
 cases hon : t.J.On with
 | false =>
  have hj : F131 t.J w = (t.J, 0) := by unfold F131 K131; simp [hon]
  refine ⟨t, 0, rfl, h, fun h => (by rw [hon] at h; cases h), rfl, rfl, rfl, rfl, rfl, rfl, ?_, ?_⟩ <;> rw [hj]
 | true =>
  simp only [Bool.not_true, cond_false]
  obtain ⟨k1, k2, k3⟩ := h.on hon
  by_cases hd : w < t.J.Due
  · have hj : F131 t.J w = (t.J, 0) := by unfold F131 K131; simp [hon, hd]
    rw [hj]
    exact ⟨t, 0, by unfold F158; simp, h, fun _ => hd, rfl, rfl, rfl, rfl, rfl, rfl, rfl, rfl⟩
  · have hj : F131 t.J w = (noJob, 3) := by unfold F131 K131; simp [hon, hd]
    rw [hj]
    obtain ⟨r, e, hr, hf⟩ := F158_ok (w := ⟨t.ID, t.S, t.P, t.Next, t.At, t.N, noJob, t.H, t.Kept⟩) h.ring 3
    simp only at e hr hf
    rw [e]
    rcases hf with ⟨hf, _⟩ | ⟨_, hf⟩
    · omega
    exact ⟨_, 3, rfl, ⟨h.id, h.p, hr, h.spec, h.per, h.at_, h.n, .inl rfl, fun h => (by cases h), ring_over h hon hf⟩, fun h => (by cases h), rfl, rfl, rfl, rfl, rfl, rfl, rfl, rfl⟩
theorem F117_ok {t : Task} {now : Int} (h : TaskOK t now) (hon : t.J.On = true) : ∃ t' f, F117 t = some (t', f) ∧ TaskOK t' now ∧ t'.ID = t.ID ∧ t'.S = t.S ∧ t'.P = t.P ∧ t'.Next = t.Next ∧ t'.At = t.At ∧ t'.N = t.N ∧ t'.J = (F130 t.J).1 ∧ (t'.J.On = true → t'.J.Due = t.J.Due) := by
 unfold F117
 rw [hon]
 simp only [Bool.not_true, cond_false]
 have hjob := h.job
 rcases hjob with hj | hj
 · rw [hj] at hon; cases hon
 have hw : wI (t.J.Ran + 1) = t.J.Ran + 1 := wI_eq (by omega) (by omega)
 have h130 : F130 t.J = if t.J.D ≤ t.J.Ran + 1 then (noJob, 1) else if t.J.C ≤ t.J.Ran + 1 then (noJob, 2) else (⟨t.J.On, t.J.J, t.J.Rel, t.J.Due, t.J.Mand, t.J.C, t.J.D, t.J.Ran + 1⟩, 0) := by
  unfold F130 K130
  rw [hon, hw]
  by_cases q1 : t.J.D ≤ t.J.Ran + 1
  · simp [q1, F163]
  · by_cases q2 : t.J.C ≤ t.J.Ran + 1
    · simp [q1, q2, F163]
    · simp [q1, q2, F163]
 have over : ∀ f : Int, f ≠ 0 → F130 t.J = (noJob, f) → ∃ t' f, (match F158 ⟨t.ID, t.S, t.P, t.Next, t.At, t.N, (F130 t.J).1, t.H, t.Kept⟩ (F130 t.J).2 with | some r2 => some (r2, (F130 t.J).2) | none => none) = some (t', f) ∧ TaskOK t' now ∧ t'.ID = t.ID ∧ t'.S = t.S ∧ t'.P = t.P ∧ t'.Next = t.Next ∧ t'.At = t.At ∧ t'.N = t.N ∧ t'.J = (F130 t.J).1 ∧ (t'.J.On = true → t'.J.Due = t.J.Due) := by
  intro f hf e
  rw [e]
  obtain ⟨r, e2, hr, hff⟩ := F158_ok (w := ⟨t.ID, t.S, t.P, t.Next, t.At, t.N, noJob, t.H, t.Kept⟩) h.ring f
  simp only at e2 hr hff ⊢
  rw [e2]
  rcases hff with ⟨h0, _⟩ | ⟨_, hff⟩
  · exact absurd h0 hf
  exact ⟨_, f, rfl, ⟨h.id, h.p, hr, h.spec, h.per, h.at_, h.n, .inl rfl, fun h => (by cases h), ring_over h hon hff⟩, rfl, rfl, rfl, rfl, rfl, rfl, rfl, fun h => (by cases h)⟩
 by_cases q1 : t.J.D ≤ t.J.Ran + 1
 · exact over 1 (by decide) (by rw [h130, if_pos q1])
 · by_cases q2 : t.J.C ≤ t.J.Ran + 1
   · exact over 2 (by decide) (by rw [h130, if_neg q1, if_pos q2])
   · have e : F130 t.J = (⟨t.J.On, t.J.J, t.J.Rel, t.J.Due, t.J.Mand, t.J.C, t.J.D, t.J.Ran + 1⟩, 0) := by rw [h130, if_neg q1, if_neg q2]
     rw [e]
     refine ⟨⟨t.ID, t.S, t.P, t.Next, t.At, t.N, ⟨t.J.On, t.J.J, t.J.Rel, t.J.Due, t.J.Mand, t.J.C, t.J.D, t.J.Ran + 1⟩, t.H, t.Kept⟩, 0, by unfold F158; simp, ⟨h.id, h.p, h.ring, h.spec, h.per, h.at_, h.n, ?_, fun _ => h.on hon, h.hn⟩, rfl, rfl, rfl, rfl, rfl, rfl, rfl, fun _ => rfl⟩
     refine .inr ⟨hj.1, hj.2.1, hj.2.2.1, hj.2.2.2.1, hj.2.2.2.2.1, hj.2.2.2.2.2.1, hj.2.2.2.2.2.2.1, hj.2.2.2.2.2.2.2.1, hj.2.2.2.2.2.2.2.2.1, ?_, ?_, hj.2.2.2.2.2.2.2.2.2.2.2⟩
     · show 0 ≤ t.J.Ran + 1; omega
     · show t.J.Ran + 1 < min t.J.C t.J.D; omega
end Go.Abs
end
section
namespace Go.Abs
set_option linter.unusedVariables false
set_option linter.unusedSimpArgs false
def coreT (t : Task) : Task := ⟨t.ID, t.S, t.P, t.Next, t.At, t.N, coreJ t.J, ⟨0, 0⟩, false⟩
def begins (t : Task) (now : Int) : Bool := !t.J.On && decide (now = t.At)
theorem F111_ok {t : Task} {now d : Int} (h : TaskOK t now) (h0 : 0 ≤ now ∧ now ≤ 274877906944) (hN : t.N ≤ t.At) (hdue : t.J.On = true → now < t.J.Due) (hd : 1 ≤ d ∧ d ≤ 20) :
 ∃ t' b, F111 t now d = some (t', b) ∧ TaskOK t' (now + 1) ∧ t'.N ≤ t'.At ∧ t'.ID = t.ID ∧ b = decide (now = t.At) ∧
  coreT t' = (if now = t.At then ⟨t.ID, t.S, t.Next, t.Next, now + t.Next, t.N + 1, coreJ (v150 t.S t.N now (now + t.Next) d).1, ⟨0, 0⟩, false⟩ else coreT t) := by
 unfold F111
 by_cases hat : now = t.At
 · have hoff : t.J.On = false := by
    cases hon : t.J.On with
    | false => rfl
    | true =>
     have := h.on hon
     have := hdue hon
     omega
   obtain ⟨r, er, hr⟩ := h.per
   obtain ⟨_, p1, p2⟩ := F134_pos er hr
   have hs := F104_ok h.spec
   have hnx : 1 ≤ t.Next ∧ t.Next ≤ 48 := ⟨by have := hs.C; have := hs.T; omega, by have := hs.Max; omega⟩
   have hn := h.n
   have hat2 := h.at_
   have hw : wI (now + t.Next) = now + t.Next := wI_eq (by omega) (by omega)
   have hw2 : wI (t.N + 1) = t.N + 1 := wI_eq (by omega) (by omega)
   simp only [hoff, cond_false, show decide (now = t.At) = true from decide_eq_true hat, Bool.not_true, hw, F150_eq]
   obtain ⟨m, hm⟩ := F159_ok t.S.M t.S.K t.N
   have hjob : JobOK t.S (Job.mk true t.N now (now + t.Next) m t.S.C d 0) := .inr ⟨rfl, hn.1, by show t.N ≤ _; omega, h0.1, by show now < now + t.Next; omega, by show now + t.Next ≤ _; omega, rfl, hd.1, hd.2, Int.le_refl _, by
    show (0 : Int) < min t.S.C d
    have := hs.C
    omega, hm⟩
   have h150 : v150 t.S t.N now (now + t.Next) d = (Job.mk true t.N now (now + t.Next) m t.S.C d 0, true) := by
    have : F150 t.S t.N now (now + t.Next) d = some (Job.mk true t.N now (now + t.Next) m t.S.C d 0, true) := by
     unfold F150
     rw [hm]
     simp only
     rw [(F122_iff _ _).2 ⟨h.spec, hjob⟩]
     rfl
    unfold v150
    rw [this]
   rw [h150]
   simp only [Bool.not_true, cond_false, if_pos hat]
   have ok : ∀ k : Bool, TaskOK ⟨t.ID, t.S, t.Next, t.Next, now + t.Next, t.N + 1, Job.mk true t.N now (now + t.Next) m t.S.C d 0, t.H, k⟩ (now + 1) := fun k => by
    refine ⟨h.id, hnx, h.ring, h.spec, h.per, ⟨by show now + 1 ≤ now + t.Next; omega, by show now + t.Next ≤ now + 1 + 48; omega⟩, ⟨by show 0 ≤ t.N + 1; omega, by show t.N + 1 ≤ _; omega⟩, hjob, fun _ => ⟨by show now < now + 1; omega, rfl, rfl⟩, ?_⟩
    have := h.hn
    rw [hoff] at this
    simp only [cond_false] at this
    show t.H.N = min (t.N + 1 - 1) 60
    rw [this]
    congr 1
    omega
   have hle : t.N + 1 ≤ now + t.Next := by omega
   rw [hw2]
   cases t.Kept
   · exact ⟨_, true, rfl, ok _, hle, rfl, rfl, rfl⟩
   · exact ⟨_, true, rfl, ok _, hle, rfl, rfl, rfl⟩
 · have ht : TaskOK t (now + 1) := ⟨h.id, h.p, h.ring, h.spec, h.per, ⟨by have := h.at_; omega, by have := h.at_; omega⟩, h.n, h.job, fun hon => by
    obtain ⟨k1, k2, k3⟩ := h.on hon
    exact ⟨by omega, k2, k3⟩, h.hn⟩
   simp only [show decide (now = t.At) = false from decide_eq_false hat, Bool.not_false, cond_true, if_neg hat]
   cases t.J.On
   · exact ⟨t, false, rfl, ht, hN, rfl, rfl, rfl⟩
   · exact ⟨t, false, rfl, ht, hN, rfl, rfl, rfl⟩
theorem coreT_fields {t u : Task} (h : coreT t = coreT u) : t.ID = u.ID ∧ t.S = u.S ∧ t.P = u.P ∧ t.Next = u.Next ∧ t.At = u.At ∧ t.N = u.N ∧ coreJ t.J = coreJ u.J := by
 simp only [coreT, Task.mk.injEq] at h
 exact ⟨h.1, h.2.1, h.2.2.1, h.2.2.2.1, h.2.2.2.2.1, h.2.2.2.2.2.1, h.2.2.2.2.2.2.1⟩
theorem coreT_of {t u : Task} (h1 : t.ID = u.ID) (h2 : t.S = u.S) (h3 : t.P = u.P) (h4 : t.Next = u.Next) (h5 : t.At = u.At) (h6 : t.N = u.N) (h7 : coreJ t.J = coreJ u.J) : coreT t = coreT u := by
 simp only [coreT, h1, h2, h3, h4, h5, h6, h7]
theorem core_F91 {t u : Task} (h : coreT t = coreT u) : core (F91 t) = core (F91 u) := by
 have e : ∀ t : Task, core (F91 t) = ⟨t.S, bif t.J.On && t.J.Mand then ⟨t.J.On, t.J.J, t.J.Rel, t.J.Due, t.J.Mand, t.J.C, t.S.C, t.J.Ran⟩ else noJob, t.Next, t.At, t.N⟩ := fun t => by
  rw [F91_eq]
  unfold core coreJ
  cases hon : t.J.On with
  | false => simp [hon]
  | true =>
   cases hm : t.J.Mand with
   | false => simp [hm]
   | true => simp [hon, hm]
 obtain ⟨h1, h2, h3, h4, h5, h6, h7⟩ := coreT_fields h
 rw [e, e, h2, h4, h5, h6]
 congr 1
 unfold coreJ at h7
 cases ht : t.J.On && t.J.Mand with
 | true =>
  rw [ht] at h7
  cases hu : u.J.On && u.J.Mand with
  | true =>
   rw [hu] at h7
   simp only [cond_true] at h7
   rw [h7]
  | false =>
   rw [hu] at h7
   simp only [cond_true, cond_false] at h7
   rw [h7] at ht
   cases ht
 | false =>
  rw [ht] at h7
  cases hu : u.J.On && u.J.Mand with
  | true =>
   rw [hu] at h7
   simp only [cond_true, cond_false] at h7
   rw [← h7] at hu
   cases hu
  | false => rfl
theorem coreJ_run {j : Job} (hm : j.Mand = false) : coreJ (F130 j).1 = coreJ j := by
 have h1 : coreJ j = noJob := by simp [coreJ, hm]
 rw [h1]
 unfold F130 K130
 cases hon : j.On with
 | false => rfl
 | true =>
  simp only [Bool.not_true, cond_false]
  cases decide (j.D ≤ wI (j.Ran + 1)) with
  | true => rfl
  | false =>
   cases decide (j.C ≤ wI (j.Ran + 1)) with
   | true => rfl
   | false => simp [coreJ, hm, F163]
theorem coreJ_run_must {j k : Job} (h : coreJ j = coreJ k) (hj : F132 j = true) : coreJ (F130 j).1 = coreJ (F130 k).1 ∧ F132 k = true ∧ j = k := by
 have hk : F132 k = true := by rw [← coreJ_must k, ← h, coreJ_must]; exact hj
 have : j = k := by rw [← must_core hj, ← must_core hk, h]
 exact ⟨by rw [this], hk, this⟩
theorem F107_ok (t : Task) (s : Spec) (p : Int) : ∃ t' b, F107 t s p = some (t', b) ∧ (t' = t ∨ t' = ⟨t.ID, s, t.P, p, t.At, t.N, t.J, t.H, t.Kept⟩) := by
 unfold F107
 obtain ⟨r, e⟩ := F134_ok s p
 by_cases h1 : s.C = t.S.C
 · by_cases h2 : s.M = t.S.M
   · by_cases h3 : s.K = t.S.K
     · by_cases h4 : r = 0
       · exact ⟨t, false, by simp [h1, h2, h3, e, h4], .inl rfl⟩
       · exact ⟨_, true, by simp only [h1, h2, h3, e, h4, decide_true, Bool.not_true, cond_false, decide_false], .inr rfl⟩
     · exact ⟨t, false, by simp [h1, h2, h3], .inl rfl⟩
   · exact ⟨t, false, by simp [h1, h2], .inl rfl⟩
 · exact ⟨t, false, by simp [h1], .inl rfl⟩
theorem F107_core {t u : Task} (h : coreT t = coreT u) (s : Spec) (p : Int) : ∃ t' u' b, F107 t s p = some (t', b) ∧ F107 u s p = some (u', b) ∧ coreT t' = coreT u' ∧ (t'.N = t.N ∧ t'.At = t.At) := by
 obtain ⟨h1, h2, h3, h4, h5, h6, h7⟩ := coreT_fields h
 unfold F107
 obtain ⟨r, e⟩ := F134_ok s p
 rw [h2]
 by_cases k1 : s.C = u.S.C
 · by_cases k2 : s.M = u.S.M
   · by_cases k3 : s.K = u.S.K
     · by_cases k4 : r = 0
       · exact ⟨t, u, false, by simp [k1, k2, k3, e, k4], by simp [k1, k2, k3, e, k4], h, rfl, rfl⟩
       · exact ⟨⟨t.ID, s, t.P, p, t.At, t.N, t.J, t.H, t.Kept⟩, ⟨u.ID, s, u.P, p, u.At, u.N, u.J, u.H, u.Kept⟩, true, by simp only [k1, k2, k3, e, k4, decide_true, Bool.not_true, cond_false, decide_false], by simp only [k1, k2, k3, e, k4, decide_true, Bool.not_true, cond_false, decide_false], coreT_of h1 rfl h3 rfl h5 h6 h7, rfl, rfl⟩
     · exact ⟨t, u, false, by simp [k1, k2, k3], by simp [k1, k2, k3], h, rfl, rfl⟩
   · exact ⟨t, u, false, by simp [k1, k2], by simp [k1, k2], h, rfl, rfl⟩
 · exact ⟨t, u, false, by simp [k1], by simp [k1], h, rfl, rfl⟩
theorem F108_ok (id : Int) (s : Spec) (p : Int) {now : Int} (h0 : 0 ≤ now ∧ now ≤ 549755813888) : ∃ t b, F108 id s p now = some (t, b) ∧ (b = true → t.N = 0 ∧ t.At = now ∧ t.ID = id) := by
 unfold F108
 obtain ⟨b, e, _⟩ := F85_iff (Task.mk id s p p now 0 (Job.mk false 0 0 0 false 0 0 0) (Ring.mk 0 0) true) h0
 rw [e]
 cases b with
 | false => exact ⟨_, false, rfl, fun h => by cases h⟩
 | true => exact ⟨_, true, rfl, fun _ => ⟨rfl, rfl, rfl⟩⟩
end Go.Abs
end
section
namespace Go.Abs
set_option linter.unusedVariables false
set_option linter.unusedSimpArgs false
structure ApeOK (a : Ape) : Prop where
 id : 0 ≤ a.ID ∧ a.ID ≤ 549755813888
 due : 1 ≤ a.Due ∧ a.Due ≤ 1099511627776
 C : 1 ≤ a.C ∧ a.C ≤ 40
 V : 1 ≤ a.V ∧ a.V ≤ 1000
 ran : 0 ≤ a.Ran ∧ a.Ran < a.C
structure ApesOK (A : List Ape) : Prop where
 len : A.length ≤ 4
 each : ∀ a ∈ A, ApeOK a
 ids : A.Pairwise fun a b => a.ID < b.ID
theorem F121_iff (n lo hi : Int) : F121 n lo hi = true ↔ lo ≤ n ∧ n ≤ hi := by
 unfold F121 K121
 by_cases h1 : lo ≤ n <;> simp [h1]
theorem F120_ok {a : Ape} (h : ApeOK a) : F120 a = true := by
 unfold F120 K120
 have hw : wI (a.C - 1) = a.C - 1 := wI_eq (by have := h.C; omega) (by have := h.C; omega)
 rw [hw, (F121_iff _ _ _).2 h.id, (F121_iff _ _ _).2 h.due, (F121_iff _ _ _).2 h.C, (F121_iff _ _ _).2 h.V, (F121_iff a.Ran 0 (a.C - 1)).2 ⟨h.ran.1, by have := h.ran.2; omega⟩]
 rfl
theorem putM_new {α : Type} {k : Int} {v : α} : ∀ {l : List (Int × α)}, (∀ p ∈ l, p.1 ≠ k) → putM l k v = l ++ [(k, v)]
 | [], _ => rfl
 | x :: l, h => by
  have h1 : ¬ k = x.1 := fun e => h x (.head _) e.symm
  rw [putM, if_neg h1, putM_new fun p hp => h p (.tail _ hp)]
  rfl
theorem ids_take {A : List Ape} (h : A.Pairwise fun a b => a.ID < b.ID) {i : Nat} (hi : i < A.length) : ∀ p ∈ (A.take i).map (fun a => (a.ID, a)), p.1 ≠ A[i].ID := by
 intro p hp
 obtain ⟨a, ha, rfl⟩ := List.mem_map.1 hp
 obtain ⟨j, hj⟩ := List.mem_iff_getElem?.1 ha
 rw [List.getElem?_take] at hj
 split at hj
 case isFalse => cases hj
 rename_i hji
 have hjl : j < A.length := by omega
 rw [List.getElem?_eq_getElem hjl] at hj
 cases hj
 have := List.pairwise_iff_getElem.1 h j i hjl hi hji
 simp only
 omega
theorem F84_ok {A : List Ape} (h : ApesOK A) {now : Int} (h0 : 0 ≤ now ∧ now ≤ 549755813888) : F84 fuel A now = some true := by
 unfold F84
 have key : ∀ (k n i : Nat), A.length = i + k → k < n → L84_3 (fun z7 z8 => some z7) (fun z9 => bif decide ((z9.length : Int) = (A.length : Int)) then bif decide ((A.length : Int) ≤ 4) then some (F121 now 0 549755813888) else some false else some false) now (A.length : Int) A n i ((A.take i).map fun a => (a.ID, a)) = some true := by
  intro k
  induction k with
  | zero =>
   intro n i hi hn
   obtain ⟨n, rfl⟩ : ∃ m, n = m + 1 := ⟨n - 1, by omega⟩
   show S84_3 _ _ _ _ _ (L84_3 _ _ _ _ _ n) _ _ = _
   have h1 : ¬ (i : Int) < (A.length : Int) := by omega
   have h2 : (A.length : Int) ≤ 4 := by have := h.len; omega
   simp only [S84_3, h1, decide_false, cond_false, List.length_map]
   rw [List.take_of_length_le (by omega)]
   simp [h2, (F121_iff _ _ _).2 h0]
  | succ k ih =>
   intro n i hi hn
   obtain ⟨n, rfl⟩ : ∃ m, n = m + 1 := ⟨n - 1, by omega⟩
   show S84_3 _ _ _ _ _ (L84_3 _ _ _ _ _ n) _ _ = _
   have h1 : (i : Int) < (A.length : Int) := by omega
   have h2 : i < A.length := by omega
   have ih' := ih n (i + 1) (by omega) (by omega)
   rw [List.take_add_one, List.getElem?_eq_getElem h2] at ih'
   simp only [Option.toList_some, List.map_append, List.map_cons, List.map_nil] at ih'
   simp only [S84_3, h1, Int.natCast_nonneg, decide_true, Bool.and_self, cond_true, Int.toNat_natCast, List.getElem?_eq_getElem h2, F120_ok (h.each _ (List.getElem_mem h2)), Bool.not_true, cond_false, putM_new (ids_take h.ids h2)]
   rw [wI_succ (by have := h.len; omega)]
   exact ih'
 exact key A.length fuel 0 (by omega) (by have := h.len; unfold fuel; omega)
theorem F86_ok {A : List Ape} (h : ApesOK A) : F86_87 fuel A = some true := by
 unfold F86_87
 have key : ∀ (i n : Nat), i < A.length → i < n → L86_87_2 (fun z5 => some z5) (some true) A n i = some true := by
  intro i
  induction i with
  | zero =>
   intro n hi hn
   obtain ⟨n, rfl⟩ : ∃ m, n = m + 1 := ⟨n - 1, by omega⟩
   show S86_87_2 _ _ _ (L86_87_2 _ _ _ n) _ = _
   simp [S86_87_2]
  | succ i ih =>
   intro n hi hn
   obtain ⟨n, rfl⟩ : ∃ m, n = m + 1 := ⟨n - 1, by omega⟩
   show S86_87_2 _ _ _ (L86_87_2 _ _ _ n) _ = _
   have h0 : (0 : Int) < ((i + 1 : Nat) : Int) := by omega
   have h1 : ((i + 1 : Nat) : Int) < (A.length : Int) := by omega
   have hw : wI (((i + 1 : Nat) : Int) - 1) = (i : Int) := by rw [wI_eq (by have := h.len; omega) (by have := h.len; omega)]; omega
   have h2 : (i : Int) < (A.length : Int) := by omega
   have h3 : i < A.length := by omega
   have hlt := List.pairwise_iff_getElem.1 h.ids i (i + 1) h3 hi (by omega)
   have b1 := (h.each _ (List.getElem_mem h3)).id
   have b2 := (h.each _ (List.getElem_mem hi)).id
   have hd : ¬ wI (A[i + 1].ID - A[i].ID) < 0 := by rw [wI_eq (by omega) (by omega)]; omega
   have e1 : (0 ≤ ((i + 1 : Nat) : Int)) := by omega
   simp only [S86_87_2, h0, h1, hw, h2, e1, Int.natCast_nonneg, decide_true, Bool.and_self, cond_true, Int.toNat_natCast, List.getElem?_eq_getElem hi, List.getElem?_eq_getElem h3, hd, decide_false, cond_false]
   exact ih n h3 (by omega)
 cases hA : A with
 | nil => rfl
 | cons a l =>
  have h1 : A.length = l.length + 1 := by rw [hA]; rfl
  have hw : wI (((a :: l).length : Int) - 1) = (l.length : Int) := by
   rw [← hA, wI_eq (by have := h.len; omega) (by have := h.len; omega)]
   omega
  rw [hw, ← hA]
  exact key l.length fuel (by omega) (by have := h.len; unfold fuel; omega)
structure TasksOK (T : List Task) (now : Int) : Prop where
 len : T.length ≤ 4
 each : ∀ t ∈ T, TaskOK t now ∧ (t.J.On = true → now < t.J.Due)
 ids : ∀ (i : Nat) (h : i + 1 < T.length), T[i].ID < T[i + 1].ID
theorem F55_iff {T : List Task} {A : List Ape} {now cur : Int} (hA : ApesOK A) (h0 : 0 ≤ now ∧ now ≤ 274877906944) (hc : -1 ≤ cur ∧ cur ≤ 549755813888) (hT : T.length ≤ 100000) : ∃ b, F55 fuel now T A cur = some b ∧ (b = true ↔ TasksOK T now) := by
 unfold F55
 have c1 : ¬ now < 0 := by omega
 have c2 : ¬ 274877906944 < now := by omega
 have c3 : ¬ cur < -1 := by omega
 have c4 : ¬ 549755813888 < cur := by omega
 by_cases h4 : 4 < (T.length : Int)
 · refine ⟨false, by simp only [c1, c2, h4, decide_false, decide_true, cond_false, cond_true], ?_⟩
   simp only [Bool.false_eq_true, false_iff]
   intro h
   have := h.len
   omega
 simp only [c1, c2, c3, c4, h4, decide_false, cond_false, F84_ok hA ⟨h0.1, by omega⟩, Bool.not_true, F86_ok hA]
 have key : ∀ (k n i : Nat), T.length = i + k → k < n → (∀ (j : Nat) (h : j < T.length), j < i → TaskOK T[j] now ∧ (T[j].J.On = true → now < T[j].J.Due)) → (∀ (j : Nat) (h : j + 1 < T.length), j + 1 < i → T[j].ID < T[j + 1].ID) →
  ∃ b, L55_4 (fun z12 => some z12) (some true) (T.length : Int) T A now cur n i = some b ∧ (b = true ↔ TasksOK T now) := by
  intro k
  induction k with
  | zero =>
   intro n i hi hn p1 p2
   obtain ⟨n, rfl⟩ : ∃ m, n = m + 1 := ⟨n - 1, by omega⟩
   show ∃ b, S55_4 _ _ _ _ _ _ _ (L55_4 _ _ _ _ _ _ _ n) _ = _ ∧ _
   have h1 : ¬ (i : Int) < (T.length : Int) := by omega
   simp only [S55_4, h1, decide_false, cond_false]
   refine ⟨true, rfl, ?_⟩
   simp only [true_iff]
   refine ⟨by omega, fun t ht => ?_, fun j hj => p2 j hj (by omega)⟩
   obtain ⟨j, hj⟩ := List.mem_iff_getElem?.1 ht
   have hjl := (List.getElem?_eq_some_iff.1 hj).1
   rw [List.getElem?_eq_getElem hjl] at hj
   cases hj
   exact p1 j hjl (by omega)
  | succ k ih =>
   intro n i hi hn p1 p2
   obtain ⟨n, rfl⟩ : ∃ m, n = m + 1 := ⟨n - 1, by omega⟩
   show ∃ b, S55_4 _ _ _ _ _ _ _ (L55_4 _ _ _ _ _ _ _ n) _ = _ ∧ _
   have h1 : (i : Int) < (T.length : Int) := by omega
   have h2 : i < T.length := by omega
   obtain ⟨b, eb, hb⟩ := F85_iff T[i] (now := now) ⟨h0.1, by omega⟩
   have tail : (∀ (h : 0 < i), T[i - 1].ID < T[i].ID) → ∃ c, (bif !b then (some false : Option Bool) else bif T[i].J.On then bif decide (T[i].J.Due ≤ now) then some false else L55_4 (fun z12 => some z12) (some true) (T.length : Int) T A now cur n ((i + 1 : Nat) : Int) else L55_4 (fun z12 => some z12) (some true) (T.length : Int) T A now cur n ((i + 1 : Nat) : Int)) = some c ∧ (c = true ↔ TasksOK T now) := by
    intro hid
    cases b with
    | false =>
     refine ⟨false, rfl, ?_⟩
     simp only [Bool.false_eq_true, false_iff]
     intro h
     have := hb.2 (h.each _ (List.getElem_mem h2)).1
     cases this
    | true =>
     have ht := hb.1 rfl
     have go : (T[i].J.On = true → now < T[i].J.Due) → ∃ c, L55_4 (fun z12 => some z12) (some true) (T.length : Int) T A now cur n ((i + 1 : Nat) : Int) = some c ∧ (c = true ↔ TasksOK T now) := fun hd => by
      refine ih n (i + 1) (by omega) (by omega) (fun j hj hji => ?_) (fun j hj hji => ?_)
      · rcases Nat.lt_or_ge j i with h | h
        · exact p1 j hj h
        · have : j = i := by omega
          subst this
          exact ⟨ht, hd⟩
      · rcases Nat.lt_or_ge (j + 1) i with h | h
        · exact p2 j hj h
        · have : i = j + 1 := by omega
          subst this
          exact hid (by omega)
     cases hon : T[i].J.On with
     | false =>
      simp only [Bool.not_true, cond_false]
      exact go fun h => by rw [hon] at h; cases h
     | true =>
      simp only [Bool.not_true, cond_false, cond_true]
      by_cases hd : T[i].J.Due ≤ now
      · simp only [hd, decide_true, cond_true]
        refine ⟨false, rfl, ?_⟩
        simp only [Bool.false_eq_true, false_iff]
        intro h
        have := (h.each _ (List.getElem_mem h2)).2 hon
        omega
      · simp only [hd, decide_false, cond_false]
        exact go fun _ => by omega
   simp only [S55_4, h1, Int.natCast_nonneg, decide_true, Bool.and_self, cond_true, Int.toNat_natCast, List.getElem?_eq_getElem h2, eb]
   rw [wI_succ (by omega)]
   rcases Nat.eq_zero_or_pos i with hi0 | hi0
   · subst hi0
     simp only [Int.natCast_zero, Int.lt_irrefl, decide_false, cond_false]
     exact tail fun h => by omega
   · obtain ⟨i', rfl⟩ : ∃ i', i = i' + 1 := ⟨i - 1, by omega⟩
     have h0 : (0 : Int) < ((i' + 1 : Nat) : Int) := by omega
     have hw : wI (((i' + 1 : Nat) : Int) - 1) = (i' : Int) := by rw [wI_eq (by omega) (by omega)]; omega
     have h3 : (i' : Int) < (T.length : Int) := by omega
     have h4 : i' < T.length := by omega
     simp only [h0, hw, h3, Int.natCast_nonneg, decide_true, Bool.and_self, cond_true, Int.toNat_natCast, List.getElem?_eq_getElem h4]
     by_cases hid : T[i' + 1].ID ≤ T[i'].ID
     · simp only [hid, decide_true, cond_true]
       refine ⟨false, rfl, ?_⟩
       simp only [Bool.false_eq_true, false_iff]
       intro h
       have := h.ids i' h2
       omega
     · simp only [hid, decide_false, cond_false]
       exact tail fun _ => by show T[i'].ID < T[i' + 1].ID; omega
 exact key T.length fuel 0 (by omega) (by unfold fuel; omega) (fun _ _ h => by omega) (fun _ _ h => by omega)
end Go.Abs
end
