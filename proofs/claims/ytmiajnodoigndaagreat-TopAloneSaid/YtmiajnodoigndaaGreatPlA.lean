/- Own: The plain law, first part: numbers, and tasks as they are looked on. -/
import Derived.Test.YtmiajnodoigndaaGreatTr7
namespace Go.Abs
set_option linter.unusedVariables false
set_option linter.unusedSimpArgs false
theorem wI_def (n : Int) : wI n = if 9223372036854775808 ≤ n % 18446744073709551616 then n % 18446744073709551616 - 18446744073709551616 else n % 18446744073709551616 := by
 have e1 : (2 : Int) ^ 64 = 18446744073709551616 := by decide
 have e2 : (2 : Int) ^ (64 - 1) = 9223372036854775808 := by decide
 simp only [wI, IntKind.wrap, IntKind.bits, IntKind.signed, Bool.true_and, e1, e2, ge_iff_le, decide_eq_true_eq]
theorem wI_eq {n : Int} (h1 : -9223372036854775808 ≤ n) (h2 : n ≤ 9223372036854775807) : wI n = n := by
 rw [wI_def]
 split <;> omega
theorem wU_def (n : Int) : wU n = n % 18446744073709551616 := by
 have e1 : (2 : Int) ^ 64 = 18446744073709551616 := by decide
 simp only [wU, IntKind.wrap, IntKind.bits, IntKind.signed, Bool.false_and, e1]
 rfl
theorem wU_eq {n : Int} (h1 : 0 ≤ n) (h2 : n ≤ 18446744073709551615) : wU n = n := by
 rw [wU_def]
 omega
theorem wI_range (n : Int) : -9223372036854775808 ≤ wI n ∧ wI n ≤ 9223372036854775807 := by
 rw [wI_def]
 split <;> omega
theorem wI_succ {i : Nat} (h : i < 9223372036854775807) : wI ((i : Int) + 1) = ((i + 1 : Nat) : Int) := by
 rw [wI_eq (by omega) (by omega)]
 rfl
theorem ble_t {a b : Nat} (h : a ≤ b) : Nat.ble a b = true := Nat.ble_eq_true_of_le h
theorem fuel_big {n : Nat} (h : n < 18446744073709551616) : n < fuel := h
def Ok {α : Type} (o : Option α) : Prop := ∃ r, o = some r
theorem Ok.intro {α : Type} (r : α) : Ok (some r) := ⟨r, rfl⟩
theorem bif_ok {α : Type} {b : Bool} {x y : Option α} (hx : b = true → Ok x) (hy : b = false → Ok y) : Ok (bif b then x else y) := by
 cases b
 · exact hy rfl
 · exact hx rfl
theorem not_ble {b : Bool} (h : (!b) = false) : b = true := by cases b <;> simp_all
theorem F137_ok (a b : Int) : Ok (F137 a b) := by
 unfold F137
 refine bif_ok (fun h1 => bif_ok (fun _ => .intro _) fun h2 => ?_) fun _ => .intro _
 have hb : ¬ b = 0 := by
  rintro rfl
  have : F199 0 1 4611686018427387904 = true := not_ble h2
  revert this
  decide
 simp only [hb, decide_false, cond_false]
 exact .intro _
theorem F149_iff (m k : Int) : F149 m k = true ↔ 1 ≤ m ∧ m ≤ k ∧ k ≤ 6 := by
 unfold F149 K149
 by_cases h1 : 1 ≤ m <;> by_cases h2 : m ≤ k <;> simp [h1, h2]
theorem F189_ok {m k : Int} (h : F149 m k = true) : Ok (F189 fuel m k) := by
 obtain ⟨h1, h2, h3⟩ := (F149_iff m k).1 h
 unfold F189
 have key : ∀ (n i : Nat) (a b c d e f : Bool), (i : Int) ≤ k → 7 < n + i → Ok (L189_3 (fun z19 z20 z21 z22 z23 z24 => some (z19, z20, z21, z22, z23, z24)) m k k false false false false false false n i a b c d e f) := by
  intro n
  induction n with
  | zero => intro i a b c d e f hi hn; omega
  | succ n ih =>
   intro i a b c d e f hi hn
   show Ok (S189_3 _ m k k false false false false false false (L189_3 _ m k k false false false false false false n) i a b c d e f)
   unfold S189_3
   refine bif_ok (fun hlt => ?_) fun _ => .intro _
   have hlt : (i : Int) < k := by simpa using hlt
   obtain ⟨r1, e1⟩ := F137_ok (wI (↑i * m)) k
   obtain ⟨r2, e2⟩ := F137_ok (wI ((wI (↑i + 1)) * m)) k
   rw [e1]
   simp only
   rw [e2]
   simp only
   have hw : wI ((i : Int) + 1) = ((i + 1 : Nat) : Int) := wI_succ (by omega)
   rw [hw]
   have hih : ∀ a b c d e f, Ok (L189_3 (fun z19 z20 z21 z22 z23 z24 => some (z19, z20, z21, z22, z23, z24)) m k k false false false false false false n ((i + 1 : Nat) : Int) a b c d e f) := fun a b c d e f => ih (i + 1) a b c d e f (by omega) (by omega)
   refine bif_ok (fun _ => hih ..) fun q0 => bif_ok (fun _ => hih ..) fun q1 => bif_ok (fun _ => hih ..) fun q2 => bif_ok (fun _ => hih ..) fun q3 => bif_ok (fun _ => hih ..) fun q4 => bif_ok (fun _ => hih ..) fun q5 => ?_
   simp only [decide_eq_false_iff_not] at q0 q1 q2 q3 q4 q5
   omega
 exact key fuel 0 _ _ _ _ _ _ (by omega) (by unfold fuel; omega)
theorem F159_ok (m k j : Int) : Ok (F159 m k j) := by
 unfold F159
 refine bif_ok (fun h1 => bif_ok (fun h2 => ?_) fun _ => .intro _) fun _ => .intro _
 obtain ⟨r, e⟩ := F189_ok h1
 obtain ⟨k1, k2, k3⟩ := (F149_iff m k).1 h1
 rw [e]
 simp only
 have hk : ¬ k = 0 := by omega
 have hj : 0 ≤ j := by
  unfold F188 K188 at h2
  by_cases h : 0 ≤ j
  · exact h
  · simp [h] at h2
 simp only [hk, decide_false, cond_false]
 have hm : 0 ≤ Int.tmod j k ∧ Int.tmod j k < k := by
  rw [Int.tmod_eq_emod_of_nonneg hj]
  exact ⟨Int.emod_nonneg _ hk, Int.emod_lt_of_pos _ (by omega)⟩
 refine bif_ok (fun _ => .intro _) fun q0 => bif_ok (fun _ => .intro _) fun q1 => bif_ok (fun _ => .intro _) fun q2 => bif_ok (fun _ => .intro _) fun q3 => bif_ok (fun _ => .intro _) fun q4 => bif_ok (fun _ => .intro _) fun q5 => ?_
 simp only [decide_eq_false_iff_not] at q0 q1 q2 q3 q4 q5
 omega
theorem F168_ok (m k n : Int) : Ok (F168 m k n) := by
 unfold F168
 obtain ⟨r, e⟩ := F137_ok (wI (n * m)) k
 rw [e]
 exact bif_ok (fun _ => .intro _) fun _ => bif_ok (fun _ => .intro _) fun _ => .intro _
theorem F134_ok (s : Spec) (p : Int) : Ok (F134 s p) := by
 unfold F134
 obtain ⟨r, e⟩ := F137_ok (wI ((wI (s.C * s.M)) * 1048576)) (wI (s.K * p))
 rw [e]
 exact bif_ok (fun _ => .intro _) fun _ => bif_ok (fun _ => .intro _) fun _ => bif_ok (fun _ => .intro _) fun _ => .intro _
structure SpecOK (s : Spec) : Prop where
 C : 1 ≤ s.C ∧ s.C ≤ 6
 T : s.C ≤ s.T ∧ s.T ≤ s.Max
 Max : s.Max ≤ 48
 M : 1 ≤ s.M ∧ s.M ≤ s.K
 K : s.K ≤ 6
 E : 0 ≤ s.E ∧ s.E ≤ 8
theorem bif_f {c : Prop} [Decidable c] {x : Bool} (h : (bif decide c then false else x) = true) : ¬ c ∧ x = true := by
 by_cases hc : c
 · simp [hc] at h
 · exact ⟨hc, by simpa [hc] using h⟩
theorem bif_t {c : Prop} [Decidable c] {x : Bool} (h : (bif decide c then x else false) = true) : c ∧ x = true := by
 by_cases hc : c
 · exact ⟨hc, by simpa [hc] using h⟩
 · simp [hc] at h
theorem bif_n {α : Type} {c : Prop} [Decidable c] {x : Option α} {a r : α} (h : (bif decide c then some a else x) = some r) (hr : r ≠ a) : ¬ c ∧ x = some r := by
 by_cases hc : c
 · simp only [hc, decide_true, cond_true, Option.some.injEq] at h
   exact absurd h.symm hr
 · exact ⟨hc, by simpa [hc] using h⟩
theorem F104_ok {s : Spec} (h : F104 s = true) : SpecOK s := by
 unfold F104 K104 at h
 obtain ⟨h1, h⟩ := bif_f h
 obtain ⟨h2, h⟩ := bif_f h
 obtain ⟨h3, h⟩ := bif_f h
 obtain ⟨h4, h⟩ := bif_f h
 obtain ⟨h5, h⟩ := bif_f h
 obtain ⟨h6, h⟩ := bif_f h
 obtain ⟨h7, h⟩ := bif_f h
 obtain ⟨h8, h⟩ := bif_f h
 obtain ⟨h9, h⟩ := bif_f h
 obtain ⟨h10, h⟩ := bif_f h
 obtain ⟨h11, h⟩ := bif_f h
 obtain ⟨h12, h⟩ := bif_f h
 exact ⟨by omega, by omega, by omega, by omega, by omega, by omega⟩
theorem F134_pos {s : Spec} {p r : Int} (h : F134 s p = some r) (hr : r ≠ 0) : F104 s = true ∧ s.T ≤ p ∧ p ≤ s.Max := by
 unfold F134 at h
 cases hq : F104 s with
 | false => rw [hq] at h; cases h; exact absurd rfl hr
 | true =>
  rw [hq] at h
  simp only [Bool.not_true, cond_false] at h
  obtain ⟨h1, h⟩ := bif_n h hr
  obtain ⟨h2, h⟩ := bif_n h hr
  exact ⟨rfl, by omega, by omega⟩
theorem F122_ok (s : Spec) (j : Job) : Ok (F122 s j) := by
 unfold F122
 obtain ⟨r, e⟩ := F159_ok s.M s.K j.J
 rw [e]
 repeat' first | exact Ok.intro _ | refine bif_ok (fun _ => ?_) fun _ => ?_
theorem F150_ok (s : Spec) (n rel due d : Int) : Ok (F150 s n rel due d) := by
 unfold F150
 obtain ⟨r, e⟩ := F159_ok s.M s.K n
 rw [e]
 simp only
 obtain ⟨r2, e2⟩ := F122_ok s (Job.mk true n rel due r s.C d 0)
 rw [e2]
 exact bif_ok (fun _ => .intro _) fun _ => .intro _
theorem F127_ok (x : Live) (now : Int) : Ok (F127 x now) := by
 unfold F127
 obtain ⟨r, e⟩ := F134_ok x.S x.P
 obtain ⟨r2, e2⟩ := F122_ok x.S x.J
 rw [e]
 simp only
 rw [e2]
 repeat' first | exact Ok.intro _ | refine bif_ok (fun _ => ?_) fun _ => ?_
theorem F160_126_ok {l : List Live} (hl : l.length < 9223372036854775807) (now : Int) : ∃ r, F160_126 fuel l now = some r ∧ (r = -1 ∧ (∀ x ∈ l, F127 x now = some true) ∨ 0 ≤ r ∧ ∃ x ∈ l, F127 x now = some false) := by
 unfold F160_126
 have key : ∀ (k n i : Nat), l.length = i + k → k < n → (∀ x ∈ l.take i, F127 x now = some true) → ∃ r, L160_126_2 (fun z7 => some z7) (some (-1)) (l.length : Int) l now n i = some r ∧ (r = -1 ∧ (∀ x ∈ l, F127 x now = some true) ∨ 0 ≤ r ∧ ∃ x ∈ l, F127 x now = some false) := by
  intro k
  induction k with
  | zero =>
   intro n i hi hn hp
   obtain ⟨n, rfl⟩ : ∃ m, n = m + 1 := ⟨n - 1, by omega⟩
   rw [List.take_of_length_le (by omega)] at hp
   refine ⟨-1, ?_, .inl ⟨rfl, hp⟩⟩
   show S160_126_2 _ _ _ _ _ _ _ = _
   have : ¬ (i : Int) < (l.length : Int) := by omega
   simp only [S160_126_2, this, decide_false, cond_false]
  | succ k ih =>
   intro n i hi hn hp
   obtain ⟨n, rfl⟩ : ∃ m, n = m + 1 := ⟨n - 1, by omega⟩
   show ∃ r, S160_126_2 _ _ _ _ _ (L160_126_2 _ _ _ _ _ n) _ = _ ∧ _
   have h1 : (i : Int) < (l.length : Int) := by omega
   have h2 : i < l.length := by omega
   obtain ⟨b, e⟩ := F127_ok l[i] now
   simp only [S160_126_2, h1, Int.natCast_nonneg, decide_true, Bool.and_self, cond_true, Int.toNat_natCast, List.getElem?_eq_getElem h2, e]
   cases b with
   | false => exact ⟨i, rfl, .inr ⟨by omega, _, List.getElem_mem h2, e⟩⟩
   | true =>
    simp only [Bool.not_true, cond_false]
    rw [wI_succ (by omega)]
    refine ih n (i + 1) (by omega) (by omega) fun x hx => ?_
    rw [List.take_add_one, List.getElem?_eq_getElem h2] at hx
    simp only [Option.toList_some, List.mem_append, List.mem_singleton] at hx
    rcases hx with hx | rfl
    · exact hp x hx
    · exact e
 exact key l.length fuel 0 (by omega) (by unfold fuel; omega) (by simp)
end Go.Abs
