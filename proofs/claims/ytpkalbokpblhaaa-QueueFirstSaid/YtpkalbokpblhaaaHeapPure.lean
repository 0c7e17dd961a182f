import Derived.Test.YtpkalbokpblhaaaPAx0
import Derived.Test.YtpkalbokpblhaaaPAx1
import Derived.Test.YtpkalbokpblhaaaPAx7
import Derived.Laws.CopyOwn
import Derived.Laws.EntriesVeiled
import Derived.Deep.RegionWith
import Derived.BigRegion
namespace Go.Proofs.Ytpkalbokpblhaaa.PA
open Go.RowKit Go.Proofs.YtpkalbokpblhaaaW.PrintWords Go.Proofs.YtpkalbokpblhaaaW.PrintLast Go.Proofs.YtpkalbokpblhaaaW.PrintMore
attribute [local go_sem] max2_int min2_int max_two min_two max_three min_three max_four min_four
set_option linter.unusedVariables false
set_option linter.unusedSimpArgs false
/-! ### a heap, in plain Lean -/
/-- The model's order. -/
def ah (a b : S24) : Bool := decide (a.f0 < b.f0 ∨ (a.f0 = b.f0 ∧ a.f1 < b.f1))
theorem ahead_ah (a b : S24) : queue_ahead.f a.f0 a.f1 b.f0 b.f1 = some (ah a b) := by
  unfold queue_ahead.f ah
  by_cases h1 : a.f0 < b.f0
  · simp [h1]
  · by_cases h2 : a.f0 = b.f0
    · simp [h2]
    · simp [h1, h2]
/-- a may stand ahead of b. -/
def Le (a b : S24) : Prop := ah b a = false
theorem le_of_ah {a b : S24} (h : ah a b = true) : Le a b := by
  unfold Le ah at *
  simp at *
  omega
theorem le_of_not {a b : S24} (h : ah a b = false) : Le b a := h
theorem le_refl (a : S24) : Le a a := by
  unfold Le ah
  simp
theorem le_trans {a b c : S24} (h : Le a b) (k : Le b c) : Le a c := by
  unfold Le ah at *
  simp at *
  omega
theorem le_total (a b : S24) : Le a b ∨ Le b a := by
  cases h : ah a b with
  | true => exact .inl (le_of_ah h)
  | false => exact .inr h
theorem le_antisymm {a b : S24} (h : Le a b) (k : Le b a) : a = b := by
  cases a
  cases b
  unfold Le ah at *
  simp at *
  omega
/-- Item i. -/
def at_ (xs : List S24) (i : Nat) : S24 := xs.getD i z24
theorem at_get {xs : List S24} {i : Nat} (h : i < xs.length) : at_ xs i = xs[i] := by
  unfold at_
  simp [h]
def swp (xs : List S24) (i j : Nat) : List S24 := (xs.set i (at_ xs j)).set j (at_ xs i)
theorem swp_length (xs : List S24) (i j : Nat) : (swp xs i j).length = xs.length := by simp [swp]
theorem swp_at {xs : List S24} {i j : Nat} (hi : i < xs.length) (hj : j < xs.length) (k : Nat) : at_ (swp xs i j) k = if k = j then at_ xs i else if k = i then at_ xs j else at_ xs k := by
  by_cases hk : k < xs.length
  · rw [at_get (by rw [swp_length]; exact hk)]
    simp only [swp, List.getElem_set]
    by_cases h1 : k = j
    · subst h1
      simp
    · rw [if_neg (Ne.symm h1), if_neg h1]
      by_cases h2 : k = i
      · subst h2
        simp
      · rw [if_neg (Ne.symm h2), if_neg h2, at_get hk]
  · rw [if_neg (by omega), if_neg (by omega)]
    unfold at_
    rw [List.getD_eq_getElem?_getD, List.getD_eq_getElem?_getD, List.getElem?_eq_none (by rw [swp_length]; omega), List.getElem?_eq_none (by omega)]
theorem swp_perm {xs : List S24} {i j : Nat} (hi : i < xs.length) (hj : j < xs.length) : (swp xs i j).Perm xs := by
  unfold swp
  rw [at_get hi, at_get hj]
  exact List.set_set_perm hi hj
theorem swp_self {xs : List S24} {i : Nat} (hi : i < xs.length) : swp xs i i = xs := by
  unfold swp
  rw [at_get hi]
  simp
def Ch (p c : Nat) : Prop := c = 2 * p + 1 ∨ c = 2 * p + 2
/-- The lesser child. -/
def ch (n : Nat) (xs : List S24) (i : Nat) : Nat := if 2 * i + 2 < n then (if ah (at_ xs (2 * i + 2)) (at_ xs (2 * i + 1)) = true then 2 * i + 2 else 2 * i + 1) else 2 * i + 1
theorem ch_or (n : Nat) (xs : List S24) (i : Nat) : Ch i (ch n xs i) := by
  unfold ch Ch
  split
  · split <;> omega
  · omega
theorem ch_lt {n : Nat} (xs : List S24) {i : Nat} (h : 2 * i + 1 < n) : ch n xs i < n := by
  unfold ch
  split
  · split <;> omega
  · omega
theorem ch_min {n : Nat} (xs : List S24) {i c : Nat} (hc : c < n) (h : Ch i c) : Le (at_ xs (ch n xs i)) (at_ xs c) := by
  unfold ch
  rcases h with rfl | rfl
  · by_cases h2 : 2 * i + 2 < n
    · rw [if_pos h2]
      by_cases h3 : ah (at_ xs (2 * i + 2)) (at_ xs (2 * i + 1)) = true
      · rw [if_pos h3]
        exact le_of_ah h3
      · rw [if_neg h3]
        exact le_refl _
    · rw [if_neg h2]
      exact le_refl _
  · rw [if_pos hc]
    by_cases h3 : ah (at_ xs (2 * i + 2)) (at_ xs (2 * i + 1)) = true
    · rw [if_pos h3]
      exact le_refl _
    · rw [if_neg h3]
      exact le_of_not (by simpa using h3)
/-- Down. -/
def dn (n : Nat) (xs : List S24) (i : Nat) : List S24 × Nat :=
  if _h : 2 * i + 1 < n then (if ah (at_ xs (ch n xs i)) (at_ xs i) = true then dn n (swp xs i (ch n xs i)) (ch n xs i) else (xs, i)) else (xs, i)
termination_by n - i
decreasing_by
  have := ch_or n xs i
  have := ch_lt xs _h
  unfold Ch at *
  omega
theorem dn_end {n : Nat} {xs : List S24} {i : Nat} (h : ¬ 2 * i + 1 < n) : dn n xs i = (xs, i) := by
  rw [dn, dif_neg h]
theorem dn_stop {n : Nat} {xs : List S24} {i : Nat} (h : 2 * i + 1 < n) (h2 : ah (at_ xs (ch n xs i)) (at_ xs i) = false) : dn n xs i = (xs, i) := by
  rw [dn, dif_pos h, if_neg (by simp [h2])]
theorem dn_go {n : Nat} {xs : List S24} {i : Nat} (h : 2 * i + 1 < n) (h2 : ah (at_ xs (ch n xs i)) (at_ xs i) = true) : dn n xs i = dn n (swp xs i (ch n xs i)) (ch n xs i) := by
  rw [dn, dif_pos h, if_pos h2]
/-- In order from s on; and but for i. -/
def Hp (s n : Nat) (xs : List S24) : Prop := ∀ p c, s ≤ p → c < n → Ch p c → Le (at_ xs p) (at_ xs c)
def Hx (s n : Nat) (xs : List S24) (i : Nat) : Prop := (∀ p c, s ≤ p → p ≠ i → c < n → Ch p c → Le (at_ xs p) (at_ xs c)) ∧ ∀ p c, s ≤ p → Ch p i → c < n → Ch i c → Le (at_ xs p) (at_ xs c)
theorem dn_all {s n : Nat} : ∀ (m : Nat) (xs : List S24) (i : Nat), n - i ≤ m → n ≤ xs.length → s ≤ i → Hx s n xs i →
    Hp s n (dn n xs i).1 ∧ (dn n xs i).1.Perm xs ∧ (∀ k, n ≤ k → at_ (dn n xs i).1 k = at_ xs k) ∧ i ≤ (dn n xs i).2 ∧ ((dn n xs i).2 = i → (dn n xs i).1 = xs)
  | 0, xs, i, hm, hl, hs, hx => by
    rw [dn_end (by omega)]
    refine ⟨fun p c h1 h2 h3 => ?_, List.Perm.refl _, fun _ _ => rfl, Nat.le_refl _, fun _ => rfl⟩
    by_cases hp : p = i
    · unfold Ch at h3
      omega
    · exact hx.1 p c h1 hp h2 h3
  | m + 1, xs, i, hm, hl, hs, hx => by
    by_cases h : 2 * i + 1 < n
    · cases h2 : ah (at_ xs (ch n xs i)) (at_ xs i) with
      | false =>
        rw [dn_stop h h2]
        refine ⟨fun p c h1 hc h3 => ?_, List.Perm.refl _, fun _ _ => rfl, Nat.le_refl _, fun _ => rfl⟩
        by_cases hp : p = i
        · subst hp
          exact le_trans (le_of_not h2) (ch_min xs hc h3)
        · exact hx.1 p c h1 hp hc h3
      | true =>
        rw [dn_go h h2]
        have hj := ch_or n xs i
        have hjn := ch_lt xs h
        have hmin := fun c hc hch => ch_min (n := n) xs (i := i) (c := c) hc hch
        generalize ch n xs i = j at *
        have hji : i < j := by unfold Ch at hj; omega
        have hsw := fun k => swp_at (xs := xs) (i := i) (j := j) (by omega) (by omega) k
        obtain ⟨h1, h3, h4, h5, h6⟩ := dn_all (s := s) (n := n) m (swp xs i j) j (by omega) (by rw [swp_length]; exact hl) (by omega) (by
          refine ⟨fun p c hp1 hp2 hc hpc => ?_, fun p c hp1 hp2 hc hpc => ?_⟩
          · rw [hsw, hsw, if_neg hp2]
            by_cases hpi : p = i
            · subst hpi
              rw [if_pos rfl]
              by_cases hcj : c = j
              · rw [if_pos hcj]
                exact le_of_ah h2
              · rw [if_neg hcj, if_neg (by unfold Ch at hpc; omega)]
                exact hmin c hc hpc
            · rw [if_neg hpi]
              by_cases hcj : c = j
              · unfold Ch at hpc hj
                omega
              · rw [if_neg hcj]
                by_cases hci : c = i
                · rw [if_pos hci]
                  subst hci
                  exact hx.2 p j hp1 hpc hjn hj
                · rw [if_neg hci]
                  exact hx.1 p c hp1 hpi hc hpc
          · have hpi : p = i := by unfold Ch at hp2 hj; omega
            subst hpi
            rw [hsw, hsw, if_neg (by omega), if_pos rfl, if_neg (by unfold Ch at hpc; omega), if_neg (by unfold Ch at hpc hj; omega)]
            exact hx.1 j c (by omega) (by omega) hc hpc)
        refine ⟨h1, h3.trans (swp_perm (by omega) (by omega)), fun k hk => ?_, by omega, fun he => by omega⟩
        rw [h4 k hk, hsw, if_neg (by omega), if_neg (by omega)]
    · rw [dn_end h]
      refine ⟨fun p c h1 h2 h3 => ?_, List.Perm.refl _, fun _ _ => rfl, Nat.le_refl _, fun _ => rfl⟩
      by_cases hp : p = i
      · unfold Ch at h3
        omega
      · exact hx.1 p c h1 hp h2 h3
theorem dn_still {s n : Nat} {xs : List S24} {i : Nat} (h : Hp s n xs) (hs : s ≤ i) : dn n xs i = (xs, i) := by
  by_cases h1 : 2 * i + 1 < n
  · exact dn_stop h1 (h i _ hs (ch_lt xs h1) (ch_or n xs i))
  · exact dn_end h1
/-- Up. -/
def upw (xs : List S24) (j : Nat) : List S24 :=
  if _h : j = 0 then xs else (if ah (at_ xs j) (at_ xs ((j - 1) / 2)) = true then upw (swp xs ((j - 1) / 2) j) ((j - 1) / 2) else xs)
termination_by j
decreasing_by omega
theorem upw_zero (xs : List S24) : upw xs 0 = xs := by
  rw [upw, dif_pos rfl]
theorem upw_stop {xs : List S24} {j : Nat} (h2 : ah (at_ xs j) (at_ xs ((j - 1) / 2)) = false) : upw xs j = xs := by
  rw [upw]
  split
  · rfl
  · rw [if_neg (by simp [h2])]
theorem upw_go {xs : List S24} {j : Nat} (h : j ≠ 0) (h2 : ah (at_ xs j) (at_ xs ((j - 1) / 2)) = true) : upw xs j = upw (swp xs ((j - 1) / 2) j) ((j - 1) / 2) := by
  rw [upw, dif_neg h, if_pos h2]
def Hu (n : Nat) (xs : List S24) (j : Nat) : Prop := (∀ p c, c ≠ j → c < n → Ch p c → Le (at_ xs p) (at_ xs c)) ∧ ∀ p c, Ch p j → c < n → Ch j c → Le (at_ xs p) (at_ xs c)
theorem upw_all {n : Nat} : ∀ (m : Nat) (xs : List S24) (j : Nat), j ≤ m → n ≤ xs.length → j < n → Hu n xs j →
    Hp 0 n (upw xs j) ∧ (upw xs j).Perm xs
  | 0, xs, j, hm, hl, hn, hx => by
    have : j = 0 := by omega
    subst this
    rw [upw_zero]
    exact ⟨fun p c _ hc hpc => hx.1 p c (by unfold Ch at hpc; omega) hc hpc, List.Perm.refl _⟩
  | m + 1, xs, j, hm, hl, hn, hx => by
    by_cases h0 : j = 0
    · subst h0
      rw [upw_zero]
      exact ⟨fun p c _ hc hpc => hx.1 p c (by unfold Ch at hpc; omega) hc hpc, List.Perm.refl _⟩
    · cases h2 : ah (at_ xs j) (at_ xs ((j - 1) / 2)) with
      | false =>
        rw [upw_stop h2]
        refine ⟨fun p c _ hc hpc => ?_, List.Perm.refl _⟩
        by_cases hcj : c = j
        · subst hcj
          have : p = (c - 1) / 2 := by unfold Ch at hpc; omega
          subst this
          exact h2
        · exact hx.1 p c hcj hc hpc
      | true =>
        rw [upw_go h0 h2]
        have hij : Ch ((j - 1) / 2) j := by unfold Ch; omega
        have hlt : (j - 1) / 2 < j := by omega
        generalize (j - 1) / 2 = i at *
        have hsw := fun k => swp_at (xs := xs) (i := i) (j := j) (by omega) (by omega) k
        obtain ⟨h1, h3⟩ := upw_all (n := n) m (swp xs i j) i (by omega) (by rw [swp_length]; exact hl) (by omega) (by
          refine ⟨fun p c hci hc hpc => ?_, fun p c hpi hc hic => ?_⟩
          · rw [hsw, hsw]
            by_cases hcj : c = j
            · subst hcj
              have : p = i := by unfold Ch at hpc hij; omega
              subst this
              rw [if_neg (by omega), if_pos rfl, if_pos rfl]
              exact le_of_ah h2
            · rw [if_neg hcj, if_neg hci]
              by_cases hpj : p = j
              · subst hpj
                rw [if_pos rfl]
                exact hx.2 i c hij hc hpc
              · rw [if_neg hpj]
                by_cases hpi : p = i
                · subst hpi
                  rw [if_pos rfl]
                  exact le_trans (le_of_ah h2) (hx.1 p c hcj hc hpc)
                · rw [if_neg hpi]
                  exact hx.1 p c hcj hc hpc
          · rw [hsw, hsw, if_neg (by unfold Ch at hpi; omega), if_neg (by unfold Ch at hpi; omega)]
            have hpi' := hx.1 p i (by omega) (by omega) hpi
            by_cases hcj : c = j
            · rw [if_pos hcj]
              exact hpi'
            · rw [if_neg hcj, if_neg (by unfold Ch at hic; omega)]
              exact le_trans hpi' (hx.1 i c hcj hc hic))
        exact ⟨h1, h3.trans (swp_perm (by omega) (by omega))⟩
/-- All turned into a heap. -/
def hpf (n : Nat) : Nat → List S24 → List S24
  | 0, xs => xs
  | k + 1, xs => hpf n k (dn n xs k).1
theorem hpf_all {n : Nat} : ∀ (k : Nat) (xs : List S24), n ≤ xs.length → Hp k n xs → Hp 0 n (hpf n k xs) ∧ (hpf n k xs).Perm xs
  | 0, xs, _, h => ⟨h, List.Perm.refl _⟩
  | k + 1, xs, hl, h => by
    obtain ⟨h1, h2, _⟩ := dn_all (s := k) (n := n) _ xs k (Nat.le_refl _) hl (Nat.le_refl _) ⟨fun p c hp hpk hc hpc => h p c (by omega) hc hpc, fun p c hp hpk => by unfold Ch at hpk; omega⟩
    obtain ⟨h3, h4⟩ := hpf_all k (dn n xs k).1 (by rw [h2.length_eq]; exact hl) h1
    exact ⟨h3, h4.trans h2⟩
theorem hpf_still {n : Nat} : ∀ (k : Nat) (xs : List S24), Hp 0 n xs → hpf n k xs = xs
  | 0, xs, _ => rfl
  | k + 1, xs, h => by
    rw [hpf, dn_still h (Nat.zero_le _)]
    exact hpf_still k xs h
theorem hp_half (n : Nat) (xs : List S24) : Hp (n / 2) n xs := fun p c hp hc hpc => by
  unfold Ch at hpc
  omega
theorem hp_min {n : Nat} {xs : List S24} (h : Hp 0 n xs) : ∀ (m c : Nat), c ≤ m → c < n → Le (at_ xs 0) (at_ xs c)
  | 0, c, hm, hc => by
    have : c = 0 := by omega
    subst this
    exact le_refl _
  | m + 1, c, hm, hc => by
    by_cases h0 : c = 0
    · subst h0
      exact le_refl _
    · exact le_trans (hp_min h m ((c - 1) / 2) (by omega) (by omega)) (h _ c (Nat.zero_le _) hc (by unfold Ch; omega))

theorem dn_len' {n : Nat} : ∀ (m : Nat) (xs : List S24) (i : Nat), n - i ≤ m → (dn n xs i).1.length = xs.length
  | 0, xs, i, hm => by rw [dn_end (by omega)]
  | m + 1, xs, i, hm => by
    by_cases h : 2 * i + 1 < n
    · cases h2 : ah (at_ xs (ch n xs i)) (at_ xs i) with
      | false => rw [dn_stop h h2]
      | true =>
        rw [dn_go h h2]
        have hj := ch_or n xs i
        rw [dn_len' m _ _ (by unfold Ch at hj; omega), swp_length]
    · rw [dn_end h]
theorem dn_len (n : Nat) (xs : List S24) (i : Nat) : (dn n xs i).1.length = xs.length := dn_len' _ xs i (Nat.le_refl _)
theorem upw_len' : ∀ (m : Nat) (xs : List S24) (j : Nat), j ≤ m → (upw xs j).length = xs.length
  | 0, xs, j, hm => by
    have : j = 0 := by omega
    subst this
    rw [upw_zero]
  | m + 1, xs, j, hm => by
    by_cases h0 : j = 0
    · subst h0
      rw [upw_zero]
    · cases h2 : ah (at_ xs j) (at_ xs ((j - 1) / 2)) with
      | false => rw [upw_stop h2]
      | true => rw [upw_go h0 h2, upw_len' m _ _ (by omega), swp_length]
theorem upw_len (xs : List S24) (j : Nat) : (upw xs j).length = xs.length := upw_len' j xs j (Nat.le_refl _)

theorem mem_at {xs : List S24} {b : S24} (h : b ∈ xs) : ∃ c, c < xs.length ∧ b = at_ xs c := by
  obtain ⟨c, hc, rfl⟩ := List.mem_iff_getElem.1 h
  exact ⟨c, hc, (at_get hc).symm⟩
theorem last_split {zs : List S24} {n : Nat} (h : zs.length = n + 1) : ∃ rest, zs = rest ++ [at_ zs n] ∧ rest.length = n ∧ ∀ k, k < n → at_ rest k = at_ zs k := by
  have hne : zs ≠ [] := by
    rintro rfl
    simp at h
  refine ⟨zs.dropLast, ?_, by simp [h], fun k hk => ?_⟩
  · have h2 := List.dropLast_concat_getLast hne
    rw [List.getLast_eq_getElem] at h2
    rw [at_get (by omega)]
    have : zs.length - 1 = n := by omega
    simp only [this] at h2
    exact h2.symm
  · rw [at_get (by simp; omega), at_get (by omega), List.getElem_dropLast]
theorem pop_pure {xs : List S24} (h0 : 0 < xs.length) (h : Hp 0 xs.length xs) :
    ∃ rest x, (dn (xs.length - 1) (swp xs 0 (xs.length - 1)) 0).1 = rest ++ [x] ∧ (x :: rest).Perm xs ∧ Hp 0 rest.length rest ∧ ∀ b ∈ rest, Le x b := by
  obtain ⟨n, hn⟩ : ∃ n, xs.length = n + 1 := ⟨xs.length - 1, by omega⟩
  rw [hn, Nat.add_sub_cancel]
  have hsw := fun k => swp_at (xs := xs) (i := 0) (j := n) (by omega) (by omega) k
  obtain ⟨h1, h2, h3, _, _⟩ := dn_all (s := 0) (n := n) n (swp xs 0 n) 0 (by omega) (by rw [swp_length]; omega) (Nat.le_refl _) (by
    refine ⟨fun p c _ hp hc hpc => ?_, fun p c _ hp => by unfold Ch at hp; omega⟩
    rw [hsw, hsw, if_neg (by unfold Ch at hpc; omega), if_neg hp, if_neg (by omega), if_neg (by unfold Ch at hpc; omega)]
    exact h p c (Nat.zero_le _) (by omega) hpc)
  have hp := h2.trans (swp_perm (xs := xs) (i := 0) (j := n) (by omega) (by omega))
  have hx := h3 n (Nat.le_refl _)
  rw [hsw, if_pos rfl] at hx
  generalize (dn n (swp xs 0 n) 0).1 = zs at *
  obtain ⟨rest, e1, e2, e3⟩ := last_split (zs := zs) (n := n) (by rw [hp.length_eq]; exact hn)
  rw [hx] at e1
  have hperm : (at_ xs 0 :: rest).Perm xs := by
    have h5 : (rest ++ [at_ xs 0]).Perm xs := by
      rw [← e1]
      exact hp
    exact (List.perm_append_singleton _ _).symm.trans h5
  refine ⟨rest, at_ xs 0, e1, hperm, ?_, fun b hb => ?_⟩
  · rw [e2]
    intro p c hp0 hc hpc
    rw [e3 p (by unfold Ch at hpc; omega), e3 c hc]
    exact h1 p c hp0 hc hpc
  · obtain ⟨c, hc, rfl⟩ := mem_at (hperm.mem_iff.1 (List.mem_cons_of_mem _ hb))
    exact hp_min h c c (Nat.le_refl _) hc
def Sorted (xs : List S24) : Prop := xs.Pairwise Le
theorem sorted_unique {a b : List S24} (ha : Sorted a) (hb : Sorted b) (h : a.Perm b) : a = b :=
  List.Perm.eq_of_pairwise (le := Le) (fun x y _ _ h1 h2 => le_antisymm h1 h2) ha hb h
theorem hp_sorted {xs : List S24} (h : Sorted xs) : Hp 0 xs.length xs := fun p c _ hc hpc => by
  have h1 : p < c := by unfold Ch at hpc; omega
  rw [at_get hc, at_get (by omega)]
  exact (List.pairwise_iff_getElem.1 h) p c (by omega) hc h1
/-- One is put behind and taken up. -/
theorem push_pure {xs : List S24} (x : S24) (h : Hp 0 xs.length xs) : Hp 0 (upw (xs ++ [x]) xs.length).length (upw (xs ++ [x]) xs.length) ∧ (upw (xs ++ [x]) xs.length).Perm (x :: xs) := by
  have hl : (xs ++ [x]).length = xs.length + 1 := by simp
  obtain ⟨h1, h2⟩ := upw_all (n := xs.length + 1) xs.length (xs ++ [x]) xs.length (Nat.le_refl _) (by omega) (by omega) (by
    refine ⟨fun p c hc1 hc2 hpc => ?_, fun p c _ hc hpc => by unfold Ch at hpc; omega⟩
    have hc3 : c < xs.length := by omega
    have hp3 : p < xs.length := by unfold Ch at hpc; omega
    have := h p c (Nat.zero_le _) hc3 hpc
    rw [at_get hc3, at_get hp3] at this
    rw [at_get (by omega), at_get (by omega), List.getElem_append_left hp3, List.getElem_append_left hc3]
    exact this)
  rw [upw_len, hl]
  exact ⟨h1, h2.trans (List.perm_append_singleton _ _)⟩
/-- One is taken out of a sorted row. -/
theorem drop_pure {xs : List S24} {i : Nat} (hi : i < xs.length) (h : Sorted xs) :
    (¬ (dn (xs.length - 1) (swp xs i (xs.length - 1)) i).2 > i → upw (dn (xs.length - 1) (swp xs i (xs.length - 1)) i).1 i = (dn (xs.length - 1) (swp xs i (xs.length - 1)) i).1) ∧
    ∃ rest, (dn (xs.length - 1) (swp xs i (xs.length - 1)) i).1 = rest ++ [xs[i]] ∧ (xs[i] :: rest).Perm xs ∧ Hp 0 rest.length rest := by
  obtain ⟨n, hn⟩ : ∃ n, xs.length = n + 1 := ⟨xs.length - 1, by omega⟩
  have hle : ∀ p c, p ≤ c → c < xs.length → Le (at_ xs p) (at_ xs c) := fun p c hpc hc => by
    by_cases e : p = c
    · subst e
      exact le_refl _
    · rw [at_get hc, at_get (by omega)]
      exact (List.pairwise_iff_getElem.1 h) p c (by omega) hc (by omega)
  simp only [hn, Nat.add_sub_cancel]
  have hsw := fun k => swp_at (xs := xs) (i := i) (j := n) (by omega) (by omega) k
  obtain ⟨h1, h2, h3, h4, h5⟩ := dn_all (s := 0) (n := n) _ (swp xs i n) i (Nat.le_refl _) (by rw [swp_length]; omega) (Nat.zero_le _) (by
    refine ⟨fun p c _ hp hc hpc => ?_, fun p c _ hp hc hpc => ?_⟩
    · rw [hsw, hsw, if_neg (by unfold Ch at hpc; omega), if_neg hp, if_neg (by omega)]
      by_cases hci : c = i
      · rw [if_pos hci]
        exact hle p n (by unfold Ch at hpc; omega) (by omega)
      · rw [if_neg hci]
        exact hle p c (by unfold Ch at hpc; omega) (by omega)
    · rw [hsw, hsw, if_neg (by unfold Ch at hp hpc; omega), if_neg (by unfold Ch at hp hpc; omega), if_neg (by omega), if_neg (by unfold Ch at hp hpc; omega)]
      exact hle p c (by unfold Ch at hp hpc; omega) (by omega))
  have hp := h2.trans (swp_perm (xs := xs) (i := i) (j := n) (by omega) (by omega))
  have hx := h3 n (Nat.le_refl _)
  rw [hsw, if_pos rfl, at_get hi] at hx
  refine ⟨fun hm => ?_, ?_⟩
  · have hm2 := h5 (by omega)
    rw [hm2]
    by_cases h0 : i = 0
    · subst h0
      exact upw_zero _
    · refine upw_stop ?_
      rw [hsw, hsw, if_neg (c := (i - 1) / 2 = n) (by omega), if_neg (c := (i - 1) / 2 = i) (by omega)]
      by_cases hin : i = n
      · rw [if_pos hin]
        exact hle _ _ (by omega) (by omega)
      · rw [if_neg hin, if_pos rfl]
        exact hle _ _ (by omega) (by omega)
  · generalize (dn n (swp xs i n) i).1 = zs at *
    obtain ⟨rest, e1, e2, e3⟩ := last_split (zs := zs) (n := n) (by rw [hp.length_eq]; exact hn)
    rw [hx] at e1
    refine ⟨rest, e1, ?_, ?_⟩
    · have h6 : (rest ++ [xs[i]]).Perm xs := by
        rw [← e1]
        exact hp
      exact (List.perm_append_singleton _ _).symm.trans h6
    · rw [e2]
      intro p c hp0 hc hpc
      rw [e3 p (by unfold Ch at hpc; omega), e3 c hc]
      exact h1 p c hp0 hc hpc

end Go.Proofs.Ytpkalbokpblhaaa.PA
