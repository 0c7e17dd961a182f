/- container/heap behind its interface: walked. -/
import Derived.Test.YtpkalbokpblhaaaPAx0
import Derived.Test.YtpkalbokpblhaaaPAx1
import Derived.Test.YtpkalbokpblhaaaPAx7
import Derived.Laws.CopyOwn
import Derived.Laws.EntriesVeiled
import Derived.Deep.RegionWith
import Derived.BigRegion
namespace Go.Proofs.Ytpkalbokpblhaaa.PA
open Go.RowKit Go.Proofs.YtpkalbokpblhaaaW.PrintWords Go.Proofs.YtpkalbokpblhaaaW.PrintLast Go.Proofs.YtpkalbokpblhaaaW.PrintMore
attribute [local go_sem] max2_int min2_int max_two min_two max_three min_three max_four min_four
set_option linter.unusedVariables false
set_option linter.unusedSimpArgs false
/-! ### a heap, in plain Lean -/
/-- The model's order. -/
def ah (a b : S24) : Bool := decide (a.f0 < b.f0 ∨ (a.f0 = b.f0 ∧ a.f1 < b.f1))
theorem ahead_ah (a b : S24) : queue_ahead.f a.f0 a.f1 b.f0 b.f1 = some (ah a b) := by
  unfold queue_ahead.f ah
  by_cases h1 : a.f0 < b.f0
  · simp [h1]
  · by_cases h2 : a.f0 = b.f0
    · simp [h2]
    · simp [h1, h2]
/-- a may stand ahead of b. -/
def Le (a b : S24) : Prop := ah b a = false
theorem le_of_ah {a b : S24} (h : ah a b = true) : Le a b := by
  unfold Le ah at *
  simp at *
  omega
theorem le_of_not {a b : S24} (h : ah a b = false) : Le b a := h
theorem le_refl (a : S24) : Le a a := by
  unfold Le ah
  simp
theorem le_trans {a b c : S24} (h : Le a b) (k : Le b c) : Le a c := by
  unfold Le ah at *
  simp at *
  omega
theorem le_total (a b : S24) : Le a b ∨ Le b a := by
  cases h : ah a b with
  | true => exact .inl (le_of_ah h)
  | false => exact .inr h
theorem le_antisymm {a b : S24} (h : Le a b) (k : Le b a) : a = b := by
  cases a
  cases b
  unfold Le ah at *
  simp at *
  omega
/-- Item i. -/
def at_ (xs : List S24) (i : Nat) : S24 := xs.getD i z24
theorem at_get {xs : List S24} {i : Nat} (h : i < xs.length) : at_ xs i = xs[i] := by
  unfold at_
  simp [h]
def swp (xs : List S24) (i j : Nat) : List S24 := (xs.set i (at_ xs j)).set j (at_ xs i)
theorem swp_length (xs : List S24) (i j : Nat) : (swp xs i j).length = xs.length := by simp [swp]
theorem swp_at {xs : List S24} {i j : Nat} (hi : i < xs.length) (hj : j < xs.length) (k : Nat) : at_ (swp xs i j) k = if k = j then at_ xs i else if k = i then at_ xs j else at_ xs k := by
  by_cases hk : k < xs.length
  · rw [at_get (by rw [swp_length]; exact hk)]
    simp only [swp, List.getElem_set]
    by_cases h1 : k = j
    · subst h1
      simp
    · rw [if_neg (Ne.symm h1), if_neg h1]
      by_cases h2 : k = i
      · subst h2
        simp
      · rw [if_neg (Ne.symm h2), if_neg h2, at_get hk]
  · rw [if_neg (by omega), if_neg (by omega)]
    unfold at_
    rw [List.getD_eq_getElem?_getD, List.getD_eq_getElem?_getD, List.getElem?_eq_none (by rw [swp_length]; omega), List.getElem?_eq_none (by omega)]
theorem swp_perm {xs : List S24} {i j : Nat} (hi : i < xs.length) (hj : j < xs.length) : (swp xs i j).Perm xs := by
  unfold swp
  rw [at_get hi, at_get hj]
  exact List.set_set_perm hi hj
theorem swp_self {xs : List S24} {i : Nat} (hi : i < xs.length) : swp xs i i = xs := by
  unfold swp
  rw [at_get hi]
  simp
def Ch (p c : Nat) : Prop := c = 2 * p + 1 ∨ c = 2 * p + 2
/-- The lesser child. -/
def ch (n : Nat) (xs : List S24) (i : Nat) : Nat := if 2 * i + 2 < n then (if ah (at_ xs (2 * i + 2)) (at_ xs (2 * i + 1)) = true then 2 * i + 2 else 2 * i + 1) else 2 * i + 1
theorem ch_or (n : Nat) (xs : List S24) (i : Nat) : Ch i (ch n xs i) := by
  unfold ch Ch
  split
  · split <;> omega
  · omega
theorem ch_lt {n : Nat} (xs : List S24) {i : Nat} (h : 2 * i + 1 < n) : ch n xs i < n := by
  unfold ch
  split
  · split <;> omega
  · omega
theorem ch_min {n : Nat} (xs : List S24) {i c : Nat} (hc : c < n) (h : Ch i c) : Le (at_ xs (ch n xs i)) (at_ xs c) := by
  unfold ch
  rcases h with rfl | rfl
  · by_cases h2 : 2 * i + 2 < n
    · rw [if_pos h2]
      by_cases h3 : ah (at_ xs (2 * i + 2)) (at_ xs (2 * i + 1)) = true
      · rw [if_pos h3]
        exact le_of_ah h3
      · rw [if_neg h3]
        exact le_refl _
    · rw [if_neg h2]
      exact le_refl _
  · rw [if_pos hc]
    by_cases h3 : ah (at_ xs (2 * i + 2)) (at_ xs (2 * i + 1)) = true
    · rw [if_pos h3]
      exact le_refl _
    · rw [if_neg h3]
      exact le_of_not (by simpa using h3)
/-- Down. -/
def dn (n : Nat) (xs : List S24) (i : Nat) : List S24 × Nat :=
  if _h : 2 * i + 1 < n then (if ah (at_ xs (ch n xs i)) (at_ xs i) = true then dn n (swp xs i (ch n xs i)) (ch n xs i) else (xs, i)) else (xs, i)
termination_by n - i
decreasing_by
  have := ch_or n xs i
  have := ch_lt xs _h
  unfold Ch at *
  omega
theorem dn_end {n : Nat} {xs : List S24} {i : Nat} (h : ¬ 2 * i + 1 < n) : dn n xs i = (xs, i) := by
  rw [dn, dif_neg h]
theorem dn_stop {n : Nat} {xs : List S24} {i : Nat} (h : 2 * i + 1 < n) (h2 : ah (at_ xs (ch n xs i)) (at_ xs i) = false) : dn n xs i = (xs, i) := by
  rw [dn, dif_pos h, if_neg (by simp [h2])]
theorem dn_go {n : Nat} {xs : List S24} {i : Nat} (h : 2 * i + 1 < n) (h2 : ah (at_ xs (ch n xs i)) (at_ xs i) = true) : dn n xs i = dn n (swp xs i (ch n xs i)) (ch n xs i) := by
  rw [dn, dif_pos h, if_pos h2]
/-- In order from s on; and but for i. -/
def Hp (s n : Nat) (xs : List S24) : Prop := ∀ p c, s ≤ p → c < n → Ch p c → Le (at_ xs p) (at_ xs c)
def Hx (s n : Nat) (xs : List S24) (i : Nat) : Prop := (∀ p c, s ≤ p → p ≠ i → c < n → Ch p c → Le (at_ xs p) (at_ xs c)) ∧ ∀ p c, s ≤ p → Ch p i → c < n → Ch i c → Le (at_ xs p) (at_ xs c)
theorem dn_all {s n : Nat} : ∀ (m : Nat) (xs : List S24) (i : Nat), n - i ≤ m → n ≤ xs.length → s ≤ i → Hx s n xs i →
    Hp s n (dn n xs i).1 ∧ (dn n xs i).1.Perm xs ∧ (∀ k, n ≤ k → at_ (dn n xs i).1 k = at_ xs k) ∧ i ≤ (dn n xs i).2 ∧ ((dn n xs i).2 = i → (dn n xs i).1 = xs)
  | 0, xs, i, hm, hl, hs, hx => by
    rw [dn_end (by omega)]
    refine ⟨fun p c h1 h2 h3 => ?_, List.Perm.refl _, fun _ _ => rfl, Nat.le_refl _, fun _ => rfl⟩
    by_cases hp : p = i
    · unfold Ch at h3
      omega
    · exact hx.1 p c h1 hp h2 h3
  | m + 1, xs, i, hm, hl, hs, hx => by
    by_cases h : 2 * i + 1 < n
    · cases h2 : ah (at_ xs (ch n xs i)) (at_ xs i) with
      | false =>
        rw [dn_stop h h2]
        refine ⟨fun p c h1 hc h3 => ?_, List.Perm.refl _, fun _ _ => rfl, Nat.le_refl _, fun _ => rfl⟩
        by_cases hp : p = i
        · subst hp
          exact le_trans (le_of_not h2) (ch_min xs hc h3)
        · exact hx.1 p c h1 hp hc h3
      | true =>
        rw [dn_go h h2]
        have hj := ch_or n xs i
        have hjn := ch_lt xs h
        have hmin := fun c hc hch => ch_min (n := n) xs (i := i) (c := c) hc hch
        generalize ch n xs i = j at *
        have hji : i < j := by unfold Ch at hj; omega
        have hsw := fun k => swp_at (xs := xs) (i := i) (j := j) (by omega) (by omega) k
        obtain ⟨h1, h3, h4, h5, h6⟩ := dn_all (s := s) (n := n) m (swp xs i j) j (by omega) (by rw [swp_length]; exact hl) (by omega) (by
          refine ⟨fun p c hp1 hp2 hc hpc => ?_, fun p c hp1 hp2 hc hpc => ?_⟩
          · rw [hsw, hsw, if_neg hp2]
            by_cases hpi : p = i
            · subst hpi
              rw [if_pos rfl]
              by_cases hcj : c = j
              · rw [if_pos hcj]
                exact le_of_ah h2
              · rw [if_neg hcj, if_neg (by unfold Ch at hpc; omega)]
                exact hmin c hc hpc
            · rw [if_neg hpi]
              by_cases hcj : c = j
              · unfold Ch at hpc hj
                omega
              · rw [if_neg hcj]
                by_cases hci : c = i
                · rw [if_pos hci]
                  subst hci
                  exact hx.2 p j hp1 hpc hjn hj
                · rw [if_neg hci]
                  exact hx.1 p c hp1 hpi hc hpc
          · have hpi : p = i := by unfold Ch at hp2 hj; omega
            subst hpi
            rw [hsw, hsw, if_neg (by omega), if_pos rfl, if_neg (by unfold Ch at hpc; omega), if_neg (by unfold Ch at hpc hj; omega)]
            exact hx.1 j c (by omega) (by omega) hc hpc)
        refine ⟨h1, h3.trans (swp_perm (by omega) (by omega)), fun k hk => ?_, by omega, fun he => by omega⟩
        rw [h4 k hk, hsw, if_neg (by omega), if_neg (by omega)]
    · rw [dn_end h]
      refine ⟨fun p c h1 h2 h3 => ?_, List.Perm.refl _, fun _ _ => rfl, Nat.le_refl _, fun _ => rfl⟩
      by_cases hp : p = i
      · unfold Ch at h3
        omega
      · exact hx.1 p c h1 hp h2 h3
theorem dn_still {s n : Nat} {xs : List S24} {i : Nat} (h : Hp s n xs) (hs : s ≤ i) : dn n xs i = (xs, i) := by
  by_cases h1 : 2 * i + 1 < n
  · exact dn_stop h1 (h i _ hs (ch_lt xs h1) (ch_or n xs i))
  · exact dn_end h1
/-- Up. -/
def upw (xs : List S24) (j : Nat) : List S24 :=
  if _h : j = 0 then xs else (if ah (at_ xs j) (at_ xs ((j - 1) / 2)) = true then upw (swp xs ((j - 1) / 2) j) ((j - 1) / 2) else xs)
termination_by j
decreasing_by omega
theorem upw_zero (xs : List S24) : upw xs 0 = xs := by
  rw [upw, dif_pos rfl]
theorem upw_stop {xs : List S24} {j : Nat} (h2 : ah (at_ xs j) (at_ xs ((j - 1) / 2)) = false) : upw xs j = xs := by
  rw [upw]
  split
  · rfl
  · rw [if_neg (by simp [h2])]
theorem upw_go {xs : List S24} {j : Nat} (h : j ≠ 0) (h2 : ah (at_ xs j) (at_ xs ((j - 1) / 2)) = true) : upw xs j = upw (swp xs ((j - 1) / 2) j) ((j - 1) / 2) := by
  rw [upw, dif_neg h, if_pos h2]
def Hu (n : Nat) (xs : List S24) (j : Nat) : Prop := (∀ p c, c ≠ j → c < n → Ch p c → Le (at_ xs p) (at_ xs c)) ∧ ∀ p c, Ch p j → c < n → Ch j c → Le (at_ xs p) (at_ xs c)
theorem upw_all {n : Nat} : ∀ (m : Nat) (xs : List S24) (j : Nat), j ≤ m → n ≤ xs.length → j < n → Hu n xs j →
    Hp 0 n (upw xs j) ∧ (upw xs j).Perm xs
  | 0, xs, j, hm, hl, hn, hx => by
    have : j = 0 := by omega
    subst this
    rw [upw_zero]
    exact ⟨fun p c _ hc hpc => hx.1 p c (by unfold Ch at hpc; omega) hc hpc, List.Perm.refl _⟩
  | m + 1, xs, j, hm, hl, hn, hx => by
    by_cases h0 : j = 0
    · subst h0
      rw [upw_zero]
      exact ⟨fun p c _ hc hpc => hx.1 p c (by unfold Ch at hpc; omega) hc hpc, List.Perm.refl _⟩
    · cases h2 : ah (at_ xs j) (at_ xs ((j - 1) / 2)) with
      | false =>
        rw [upw_stop h2]
        refine ⟨fun p c _ hc hpc => ?_, List.Perm.refl _⟩
        by_cases hcj : c = j
        · subst hcj
          have : p = (c - 1) / 2 := by unfold Ch at hpc; omega
          subst this
          exact h2
        · exact hx.1 p c hcj hc hpc
      | true =>
        rw [upw_go h0 h2]
        have hij : Ch ((j - 1) / 2) j := by unfold Ch; omega
        have hlt : (j - 1) / 2 < j := by omega
        generalize (j - 1) / 2 = i at *
        have hsw := fun k => swp_at (xs := xs) (i := i) (j := j) (by omega) (by omega) k
        obtain ⟨h1, h3⟩ := upw_all (n := n) m (swp xs i j) i (by omega) (by rw [swp_length]; exact hl) (by omega) (by
          refine ⟨fun p c hci hc hpc => ?_, fun p c hpi hc hic => ?_⟩
          · rw [hsw, hsw]
            by_cases hcj : c = j
            · subst hcj
              have : p = i := by unfold Ch at hpc hij; omega
              subst this
              rw [if_neg (by omega), if_pos rfl, if_pos rfl]
              exact le_of_ah h2
            · rw [if_neg hcj, if_neg hci]
              by_cases hpj : p = j
              · subst hpj
                rw [if_pos rfl]
                exact hx.2 i c hij hc hpc
              · rw [if_neg hpj]
                by_cases hpi : p = i
                · subst hpi
                  rw [if_pos rfl]
                  exact le_trans (le_of_ah h2) (hx.1 p c hcj hc hpc)
                · rw [if_neg hpi]
                  exact hx.1 p c hcj hc hpc
          · rw [hsw, hsw, if_neg (by unfold Ch at hpi; omega), if_neg (by unfold Ch at hpi; omega)]
            have hpi' := hx.1 p i (by omega) (by omega) hpi
            by_cases hcj : c = j
            · rw [if_pos hcj]
              exact hpi'
            · rw [if_neg hcj, if_neg (by unfold Ch at hic; omega)]
              exact le_trans hpi' (hx.1 i c hcj hc hic))
        exact ⟨h1, h3.trans (swp_perm (by omega) (by omega))⟩
/-- All turned into a heap. -/
def hpf (n : Nat) : Nat → List S24 → List S24
  | 0, xs => xs
  | k + 1, xs => hpf n k (dn n xs k).1
theorem hpf_all {n : Nat} : ∀ (k : Nat) (xs : List S24), n ≤ xs.length → Hp k n xs → Hp 0 n (hpf n k xs) ∧ (hpf n k xs).Perm xs
  | 0, xs, _, h => ⟨h, List.Perm.refl _⟩
  | k + 1, xs, hl, h => by
    obtain ⟨h1, h2, _⟩ := dn_all (s := k) (n := n) _ xs k (Nat.le_refl _) hl (Nat.le_refl _) ⟨fun p c hp hpk hc hpc => h p c (by omega) hc hpc, fun p c hp hpk => by unfold Ch at hpk; omega⟩
    obtain ⟨h3, h4⟩ := hpf_all k (dn n xs k).1 (by rw [h2.length_eq]; exact hl) h1
    exact ⟨h3, h4.trans h2⟩
theorem hpf_still {n : Nat} : ∀ (k : Nat) (xs : List S24), Hp 0 n xs → hpf n k xs = xs
  | 0, xs, _ => rfl
  | k + 1, xs, h => by
    rw [hpf, dn_still h (Nat.zero_le _)]
    exact hpf_still k xs h
theorem hp_half (n : Nat) (xs : List S24) : Hp (n / 2) n xs := fun p c hp hc hpc => by
  unfold Ch at hpc
  omega
theorem hp_min {n : Nat} {xs : List S24} (h : Hp 0 n xs) : ∀ (m c : Nat), c ≤ m → c < n → Le (at_ xs 0) (at_ xs c)
  | 0, c, hm, hc => by
    have : c = 0 := by omega
    subst this
    exact le_refl _
  | m + 1, c, hm, hc => by
    by_cases h0 : c = 0
    · subst h0
      exact le_refl _
    · exact le_trans (hp_min h m ((c - 1) / 2) (by omega) (by omega)) (h _ c (Nat.zero_le _) hc (by unfold Ch; omega))

theorem dn_len' {n : Nat} : ∀ (m : Nat) (xs : List S24) (i : Nat), n - i ≤ m → (dn n xs i).1.length = xs.length
  | 0, xs, i, hm => by rw [dn_end (by omega)]
  | m + 1, xs, i, hm => by
    by_cases h : 2 * i + 1 < n
    · cases h2 : ah (at_ xs (ch n xs i)) (at_ xs i) with
      | false => rw [dn_stop h h2]
      | true =>
        rw [dn_go h h2]
        have hj := ch_or n xs i
        rw [dn_len' m _ _ (by unfold Ch at hj; omega), swp_length]
    · rw [dn_end h]
theorem dn_len (n : Nat) (xs : List S24) (i : Nat) : (dn n xs i).1.length = xs.length := dn_len' _ xs i (Nat.le_refl _)
theorem upw_len' : ∀ (m : Nat) (xs : List S24) (j : Nat), j ≤ m → (upw xs j).length = xs.length
  | 0, xs, j, hm => by
    have : j = 0 := by omega
    subst this
    rw [upw_zero]
  | m + 1, xs, j, hm => by
    by_cases h0 : j = 0
    · subst h0
      rw [upw_zero]
    · cases h2 : ah (at_ xs j) (at_ xs ((j - 1) / 2)) with
      | false => rw [upw_stop h2]
      | true => rw [upw_go h0 h2, upw_len' m _ _ (by omega), swp_length]
theorem upw_len (xs : List S24) (j : Nat) : (upw xs j).length = xs.length := upw_len' j xs j (Nat.le_refl _)

theorem mem_at {xs : List S24} {b : S24} (h : b ∈ xs) : ∃ c, c < xs.length ∧ b = at_ xs c := by
  obtain ⟨c, hc, rfl⟩ := List.mem_iff_getElem.1 h
  exact ⟨c, hc, (at_get hc).symm⟩
theorem last_split {zs : List S24} {n : Nat} (h : zs.length = n + 1) : ∃ rest, zs = rest ++ [at_ zs n] ∧ rest.length = n ∧ ∀ k, k < n → at_ rest k = at_ zs k := by
  have hne : zs ≠ [] := by
    rintro rfl
    simp at h
  refine ⟨zs.dropLast, ?_, by simp [h], fun k hk => ?_⟩
  · have h2 := List.dropLast_concat_getLast hne
    rw [List.getLast_eq_getElem] at h2
    rw [at_get (by omega)]
    have : zs.length - 1 = n := by omega
    simp only [this] at h2
    exact h2.symm
  · rw [at_get (by simp; omega), at_get (by omega), List.getElem_dropLast]
theorem pop_pure {xs : List S24} (h0 : 0 < xs.length) (h : Hp 0 xs.length xs) :
    ∃ rest x, (dn (xs.length - 1) (swp xs 0 (xs.length - 1)) 0).1 = rest ++ [x] ∧ (x :: rest).Perm xs ∧ Hp 0 rest.length rest ∧ ∀ b ∈ rest, Le x b := by
  obtain ⟨n, hn⟩ : ∃ n, xs.length = n + 1 := ⟨xs.length - 1, by omega⟩
  rw [hn, Nat.add_sub_cancel]
  have hsw := fun k => swp_at (xs := xs) (i := 0) (j := n) (by omega) (by omega) k
  obtain ⟨h1, h2, h3, _, _⟩ := dn_all (s := 0) (n := n) n (swp xs 0 n) 0 (by omega) (by rw [swp_length]; omega) (Nat.le_refl _) (by
    refine ⟨fun p c _ hp hc hpc => ?_, fun p c _ hp => by unfold Ch at hp; omega⟩
    rw [hsw, hsw, if_neg (by unfold Ch at hpc; omega), if_neg hp, if_neg (by omega), if_neg (by unfold Ch at hpc; omega)]
    exact h p c (Nat.zero_le _) (by omega) hpc)
  have hp := h2.trans (swp_perm (xs := xs) (i := 0) (j := n) (by omega) (by omega))
  have hx := h3 n (Nat.le_refl _)
  rw [hsw, if_pos rfl] at hx
  generalize (dn n (swp xs 0 n) 0).1 = zs at *
  obtain ⟨rest, e1, e2, e3⟩ := last_split (zs := zs) (n := n) (by rw [hp.length_eq]; exact hn)
  rw [hx] at e1
  have hperm : (at_ xs 0 :: rest).Perm xs := by
    have h5 : (rest ++ [at_ xs 0]).Perm xs := by
      rw [← e1]
      exact hp
    exact (List.perm_append_singleton _ _).symm.trans h5
  refine ⟨rest, at_ xs 0, e1, hperm, ?_, fun b hb => ?_⟩
  · rw [e2]
    intro p c hp0 hc hpc
    rw [e3 p (by unfold Ch at hpc; omega), e3 c hc]
    exact h1 p c hp0 hc hpc
  · obtain ⟨c, hc, rfl⟩ := mem_at (hperm.mem_iff.1 (List.mem_cons_of_mem _ hb))
    exact hp_min h c c (Nat.le_refl _) hc
def Sorted (xs : List S24) : Prop := xs.Pairwise Le
theorem sorted_unique {a b : List S24} (ha : Sorted a) (hb : Sorted b) (h : a.Perm b) : a = b :=
  List.Perm.eq_of_pairwise (le := Le) (fun x y _ _ h1 h2 => le_antisymm h1 h2) ha hb h
theorem hp_sorted {xs : List S24} (h : Sorted xs) : Hp 0 xs.length xs := fun p c _ hc hpc => by
  have h1 : p < c := by unfold Ch at hpc; omega
  rw [at_get hc, at_get (by omega)]
  exact (List.pairwise_iff_getElem.1 h) p c (by omega) hc h1
/-- One is put behind and taken up. -/
theorem push_pure {xs : List S24} (x : S24) (h : Hp 0 xs.length xs) : Hp 0 (upw (xs ++ [x]) xs.length).length (upw (xs ++ [x]) xs.length) ∧ (upw (xs ++ [x]) xs.length).Perm (x :: xs) := by
  have hl : (xs ++ [x]).length = xs.length + 1 := by simp
  obtain ⟨h1, h2⟩ := upw_all (n := xs.length + 1) xs.length (xs ++ [x]) xs.length (Nat.le_refl _) (by omega) (by omega) (by
    refine ⟨fun p c hc1 hc2 hpc => ?_, fun p c _ hc hpc => by unfold Ch at hpc; omega⟩
    have hc3 : c < xs.length := by omega
    have hp3 : p < xs.length := by unfold Ch at hpc; omega
    have := h p c (Nat.zero_le _) hc3 hpc
    rw [at_get hc3, at_get hp3] at this
    rw [at_get (by omega), at_get (by omega), List.getElem_append_left hp3, List.getElem_append_left hc3]
    exact this)
  rw [upw_len, hl]
  exact ⟨h1, h2.trans (List.perm_append_singleton _ _)⟩
/-- One is taken out of a sorted row. -/
theorem drop_pure {xs : List S24} {i : Nat} (hi : i < xs.length) (h : Sorted xs) :
    (¬ (dn (xs.length - 1) (swp xs i (xs.length - 1)) i).2 > i → upw (dn (xs.length - 1) (swp xs i (xs.length - 1)) i).1 i = (dn (xs.length - 1) (swp xs i (xs.length - 1)) i).1) ∧
    ∃ rest, (dn (xs.length - 1) (swp xs i (xs.length - 1)) i).1 = rest ++ [xs[i]] ∧ (xs[i] :: rest).Perm xs ∧ Hp 0 rest.length rest := by
  obtain ⟨n, hn⟩ : ∃ n, xs.length = n + 1 := ⟨xs.length - 1, by omega⟩
  have hle : ∀ p c, p ≤ c → c < xs.length → Le (at_ xs p) (at_ xs c) := fun p c hpc hc => by
    by_cases e : p = c
    · subst e
      exact le_refl _
    · rw [at_get hc, at_get (by omega)]
      exact (List.pairwise_iff_getElem.1 h) p c (by omega) hc (by omega)
  simp only [hn, Nat.add_sub_cancel]
  have hsw := fun k => swp_at (xs := xs) (i := i) (j := n) (by omega) (by omega) k
  obtain ⟨h1, h2, h3, h4, h5⟩ := dn_all (s := 0) (n := n) _ (swp xs i n) i (Nat.le_refl _) (by rw [swp_length]; omega) (Nat.zero_le _) (by
    refine ⟨fun p c _ hp hc hpc => ?_, fun p c _ hp hc hpc => ?_⟩
    · rw [hsw, hsw, if_neg (by unfold Ch at hpc; omega), if_neg hp, if_neg (by omega)]
      by_cases hci : c = i
      · rw [if_pos hci]
        exact hle p n (by unfold Ch at hpc; omega) (by omega)
      · rw [if_neg hci]
        exact hle p c (by unfold Ch at hpc; omega) (by omega)
    · rw [hsw, hsw, if_neg (by unfold Ch at hp hpc; omega), if_neg (by unfold Ch at hp hpc; omega), if_neg (by omega), if_neg (by unfold Ch at hp hpc; omega)]
      exact hle p c (by unfold Ch at hp hpc; omega) (by omega))
  have hp := h2.trans (swp_perm (xs := xs) (i := i) (j := n) (by omega) (by omega))
  have hx := h3 n (Nat.le_refl _)
  rw [hsw, if_pos rfl, at_get hi] at hx
  refine ⟨fun hm => ?_, ?_⟩
  · have hm2 := h5 (by omega)
    rw [hm2]
    by_cases h0 : i = 0
    · subst h0
      exact upw_zero _
    · refine upw_stop ?_
      rw [hsw, hsw, if_neg (c := (i - 1) / 2 = n) (by omega), if_neg (c := (i - 1) / 2 = i) (by omega)]
      by_cases hin : i = n
      · rw [if_pos hin]
        exact hle _ _ (by omega) (by omega)
      · rw [if_neg hin, if_pos rfl]
        exact hle _ _ (by omega) (by omega)
  · generalize (dn n (swp xs i n) i).1 = zs at *
    obtain ⟨rest, e1, e2, e3⟩ := last_split (zs := zs) (n := n) (by rw [hp.length_eq]; exact hn)
    rw [hx] at e1
    refine ⟨rest, e1, ?_, ?_⟩
    · have h6 : (rest ++ [xs[i]]).Perm xs := by
        rw [← e1]
        exact hp
      exact (List.perm_append_singleton _ _).symm.trans h6
    · rw [e2]
      intro p c hp0 hc hpc
      rw [e3 p (by unfold Ch at hpc; omega), e3 c hc]
      exact h1 p c hp0 hc hpc

/-- The state of a pile: a cell that holds the slice, and the row of its items. -/
structure Pile (W : World) (G B cap : Nat) (xs : List S24) : Prop where
  g : W.heap[G]? = some (.cells #[.slice (some ⟨B, 0, none⟩) xs.length cap] 52 (0, 0))
  row : ∃ cs : Array Value, W.heap[B]? = some (.cells cs 24 (0, 0)) ∧ cs.size = cap * 2 ∧ ∀ i (h : i < xs.length), cs[i * 2]? = some (.int .i64 xs[i].f0) ∧ cs[i * 2 + 1]? = some (.int .i64 xs[i].f1)
  le : xs.length ≤ cap
  sm : cap ≤ maxLen
  len : xs.length ≤ 10000000000000
theorem Pile.ne {W : World} {G B cap : Nat} {xs : List S24} (h : Pile W G B cap xs) : G ≠ B := by
  obtain ⟨cs, h1, _⟩ := h.row
  exact blk_ne h.g h1 (by decide)
/-- Nothing but the pile's two blocks has turned. -/
structure KP (W W' : World) (G B : Nat) : Prop where
  os : W'.os = W.os
  tape : W'.tape = W.tape
  output : W'.output = W.output
  size : W.heap.size ≤ W'.heap.size
  block : ∀ k, k < W.heap.size → k ≠ G → k ≠ B → W'.heap[k]? = W.heap[k]?
theorem KP.refl (W : World) (G B : Nat) : KP W W G B := ⟨rfl, rfl, rfl, Nat.le_refl _, fun _ _ _ _ => rfl⟩
theorem KP.trans {a b c : World} {G B : Nat} (h : KP a b G B) (k : KP b c G B) : KP a c G B :=
  ⟨k.os.trans h.os, k.tape.trans h.tape, k.output.trans h.output, Nat.le_trans h.size k.size, fun i hi h1 h2 => (k.block i (Nat.lt_of_lt_of_le hi h.size) h1 h2).trans (h.block i hi h1 h2)⟩
theorem KP.of_below {w w1 : World} (h : Below w.heap.size w w1) (G B : Nat) : KP w w1 G B := ⟨h.os, h.tape, h.output, h.size, fun k hk _ _ => h.block k hk⟩
theorem KP.below {base G B : Nat} {w W W' : World} (hb : Below base w W) (h : KP W W' G B) (hG : base ≤ G) (hB : base ≤ B) (hs : base ≤ W.heap.size) : Below base w W' :=
  hb.trans ⟨h.os, h.tape, h.output, h.size, fun k hk => h.block k (Nat.lt_of_lt_of_le hk hs) (by omega) (by omega)⟩
theorem Pile.below {W W' : World} {G B cap : Nat} {xs : List S24} (h : Pile W G B cap xs) (hb : Below W.heap.size W W') : Pile W' G B cap xs := by
  obtain ⟨cs, h1, h2, h3⟩ := h.row
  exact ⟨blk_below h.g hb, ⟨cs, blk_below h1 hb, h2, h3⟩, h.le, h.sm, h.len⟩
theorem Pile.cell {W : World} {G B cap : Nat} {xs : List S24} (h : Pile W G B cap xs) (i : Nat) (hi : i < xs.length) :
    W.cell? ⟨B, i * 2, none⟩ = some (.int .i64 xs[i].f0) ∧ W.cell? ⟨B, i * 2 + 1, none⟩ = some (.int .i64 xs[i].f1) := by
  obtain ⟨cs, h1, h2, h3⟩ := h.row
  exact ⟨(blk_cell h1 _).trans (h3 i hi).1, (blk_cell h1 _).trans (h3 i hi).2⟩
set_option maxHeartbeats 1000000 in
set_option maxRecDepth 100000 in
theorem hand_Len {W : World} {G B cap : Nat} {xs : List S24} (hp : Pile W G B cap xs) :
    Calls Try.prog 34 #[.pointer (some ⟨G, 0, none⟩)] W fun e w' => e = .returned (.int .i64 (xs.length : Int)) ∧ W = w' := by
  have hc : W.cell? ⟨G, 0, none⟩ = some (.slice (some ⟨B, 0, none⟩) xs.length cap) := blk_cell hp.g 0
  have hu52 := Try.underlying52
  go_enter Try.func34, Try.ntmps34
  go_wp2_with fail
  go_ret
  exact ⟨rfl, rfl⟩

theorem heap_setCell_size (w : World) (p : Addr) (u : Value) : (w.setCell p u).heap.size = w.heap.size := by
  unfold World.setCell
  split <;> simp
/-- An item is put. -/
theorem Pile.put {W : World} {G B cap : Nat} {xs : List S24} (h : Pile W G B cap xs) (i : Nat) (hi : i < xs.length) (x : S24) :
    Pile ((W.setCell ⟨B, i * 2, none⟩ (.int .i64 x.f0)).setCell ⟨B, i * 2 + 1, none⟩ (.int .i64 x.f1)) G B cap (xs.set i x) ∧ KP W ((W.setCell ⟨B, i * 2, none⟩ (.int .i64 x.f0)).setCell ⟨B, i * 2 + 1, none⟩ (.int .i64 x.f1)) G B := by
  obtain ⟨cs, h1, h2, h3⟩ := h.row
  have hne := h.ne
  have hle := h.le
  refine ⟨⟨?_, ⟨_, blk_set (blk_set h1 (i * 2) _) (i * 2 + 1) _, by simp [h2], ?_⟩, by simpa using h.le, h.sm, by simpa using h.len⟩, ⟨?_, ?_, ?_, ?_, ?_⟩⟩
  · rw [List.length_set]
    exact blk_far (blk_far h.g (p := ⟨B, i * 2, none⟩) hne _) (p := ⟨B, i * 2 + 1, none⟩) hne _
  · intro k hk
    rw [List.length_set] at hk
    have h3k := h3 k hk
    have hs1 : i * 2 < cs.size := by omega
    have hs2 : i * 2 + 1 < cs.size := by omega
    by_cases hik : i = k
    · subst hik
      simp only [Array.getElem?_setIfInBounds, List.getElem_set]
      constructor
      · rw [if_neg (by omega)]
        simp [hs1]
      · simp [hs2]
    · simp only [Array.getElem?_setIfInBounds, List.getElem_set, if_neg hik]
      rw [if_neg (by omega), if_neg (by omega), if_neg (by omega), if_neg (by omega)]
      exact h3k
  all_goals try rfl
  · rw [heap_setCell_size, heap_setCell_size]
    exact Nat.le_refl _
  · intro k _ _ hkB
    rw [Below.heap_setCell _ ⟨B, i * 2 + 1, none⟩ _ k hkB, Below.heap_setCell _ ⟨B, i * 2, none⟩ _ k hkB]
theorem KP.drew {W W' : World} {G B : Nat} (h : KP W W' G B) : KP W W'.drew G B := ⟨h.os, h.tape, h.output, h.size, h.block⟩
theorem Pile.drew {W : World} {G B cap : Nat} {xs : List S24} (h : Pile W G B cap xs) : Pile W.drew G B cap xs := ⟨h.g, h.row, h.le, h.sm, h.len⟩

set_option maxHeartbeats 4000000 in
set_option maxRecDepth 100000 in
theorem hand_Less {W : World} {G B cap : Nat} {xs : List S24} (hp : Pile W G B cap xs) (i j : Nat) (hi : i < xs.length) (hj : j < xs.length) :
    Calls Try.prog 57 #[.pointer (some ⟨G, 0, none⟩), .int .i64 (i : Int), .int .i64 (j : Int)] W fun e w' => e = .returned (.bool (ah xs[i] xs[j])) ∧ Below W.heap.size W w' := by
  have hc : W.cell? ⟨G, 0, none⟩ = some (.slice (some ⟨B, 0, none⟩) xs.length cap) := blk_cell hp.g 0
  have hu52 := Try.underlying52
  have hu24 := Try.underlying24
  have hi0 : (0 : Int) ≤ i := by omega
  have hi1 : (i : Int) < (xs.length : Int) := by omega
  have hj0 : (0 : Int) ≤ j := by omega
  have hj1 : (j : Int) < (xs.length : Int) := by omega
  obtain ⟨hci, hci'⟩ := hp.cell i hi
  obtain ⟨hcj, hcj'⟩ := hp.cell j hj
  replace hp := Aside0.mk hp
  go_enter Try.func57, Try.ntmps57
  go_wp2_with fail
  go_region_with (go_at_call 26; refine (queue_ahead.calls _ _ _ _ _ _ (ahead_ah xs[i] xs[j])).mono ?_; rintro e w' ⟨rfl, hb⟩)
  all_goals (go_wp2_with fail; go_ret)
  all_goals exact ⟨rfl, below_step (below_drew1 (Below.refl _ _)) hb⟩

set_option maxHeartbeats 4000000 in
set_option maxRecDepth 100000 in
theorem hand_Swap {W : World} {G B cap : Nat} {xs : List S24} (hp : Pile W G B cap xs) (i j : Nat) (hi : i < xs.length) (hj : j < xs.length) (hij : i ≠ j) :
    Calls Try.prog 60 #[.pointer (some ⟨G, 0, none⟩), .int .i64 (i : Int), .int .i64 (j : Int)] W fun e w' => e = .returned (.tuple #[]) ∧ Pile w' G B cap ((xs.set i xs[j]).set j xs[i]) ∧ KP W w' G B := by
  have hc : W.cell? ⟨G, 0, none⟩ = some (.slice (some ⟨B, 0, none⟩) xs.length cap) := blk_cell hp.g 0
  have hu52 := Try.underlying52
  have hu24 := Try.underlying24
  have hi0 : (0 : Int) ≤ i := by omega
  have hi1 : (i : Int) < (xs.length : Int) := by omega
  have hj0 : (0 : Int) ≤ j := by omega
  have hj1 : (j : Int) < (xs.length : Int) := by omega
  have hij0 : i * 2 ≠ j * 2 := by omega
  have hij1 : i * 2 ≠ j * 2 + 1 := by omega
  have hij2 : i * 2 + 1 ≠ j * 2 := by omega
  have hij3 : i * 2 + 1 ≠ j * 2 + 1 := by omega
  obtain ⟨hci, hci'⟩ := hp.cell i hi
  obtain ⟨hcj, hcj'⟩ := hp.cell j hj
  obtain ⟨cs, hrow, hsz, hrd⟩ := hp.row
  have hf1 := blk_frozen hrow (i * 2)
  have hf2 := blk_frozen hrow (i * 2 + 1)
  have hf3 := blk_frozen hrow (j * 2)
  have hf4 := blk_frozen hrow (j * 2 + 1)
  have hgb := hp.ne
  replace hrow := Aside0.mk hrow
  replace hrd := Aside0.mk hrd
  replace hp := Aside0.mk hp
  go_enter Try.func60, Try.ntmps60
  go_wp2_with fail
  refine start_ (n := 24) (S := fun w' => w'.cell? ⟨G, 0, none⟩ = some (.slice (some ⟨B, 0, none⟩) xs.length cap) ∧ w'.cell? ⟨B, i * 2, none⟩ = some (.int .i64 xs[i].f0) ∧ w'.cell? ⟨B, i * 2 + 1, none⟩ = some (.int .i64 xs[i].f1) ∧ w'.cell? ⟨B, j * 2, none⟩ = some (.int .i64 xs[j].f0) ∧ w'.cell? ⟨B, j * 2 + 1, none⟩ = some (.int .i64 xs[j].f1)) (ds := [21, 23]) #[false, false, false, false, false, false, false, false, false, false, false, false, false, false, false, false, false, false, false, false, false, false, false, false] (by kernel_rfl) rfl rfl ⟨hc, hci, hci', hcj, hcj'⟩ (fun hHeld => ?_)
  refine pure_ (i := 0) (N := some 6) (v := ?_) (a' := ?_) #[true, false, false, false, false, false, false, false, false, false, false, false, false, false, false, false, false, false, false, false, false, false, false, false] rfl rfl (by kernel_rfl) (fun _ _ _ h => h) (Or.inl ⟨by rfl, ?_⟩) ?_ ?_
  rotate_left
  · intro w'
    go_simp
    with_reducible rfl
  rotate_left
  · simp only [Act.put, List.setIfInBounds_toArray, List.set_cons_zero, List.set_cons_succ, i64_w, i32_w]
    rfl
  refine pure_ (i := 1) (N := some 7) (v := ?_) (a' := ?_) #[true, true, false, false, false, false, false, false, false, false, false, false, false, false, false, false, false, false, false, false, false, false, false, false] rfl rfl (by kernel_rfl) (fun _ _ _ h => h) (Or.inl ⟨by rfl, ?_⟩) ?_ ?_
  rotate_left
  · intro w'
    go_simp
    with_reducible rfl
  rotate_left
  · simp only [Act.put, List.setIfInBounds_toArray, List.set_cons_zero, List.set_cons_succ, i64_w, i32_w]
    rfl
  refine pure_ (i := 3) (N := some 9) (v := ?_) (a' := ?_) #[true, true, false, true, false, false, false, false, false, false, false, false, false, false, false, false, false, false, false, false, false, false, false, false] rfl rfl (by kernel_rfl) (fun _ _ _ h => h) (Or.inl ⟨by rfl, ?_⟩) ?_ ?_
  rotate_left
  · intro w'
    go_simp
    with_reducible rfl
  rotate_left
  · simp only [Act.put, List.setIfInBounds_toArray, List.set_cons_zero, List.set_cons_succ, i64_w, i32_w]
    rfl
  refine pure_ (i := 4) (N := some 10) (v := ?_) (a' := ?_) #[true, true, false, true, true, false, false, false, false, false, false, false, false, false, false, false, false, false, false, false, false, false, false, false] rfl rfl (by kernel_rfl) (fun _ _ _ h => h) (Or.inl ⟨by rfl, ?_⟩) ?_ ?_
  rotate_left
  · intro w'
    go_simp
    with_reducible rfl
  rotate_left
  · simp only [Act.put, List.setIfInBounds_toArray, List.set_cons_zero, List.set_cons_succ, i64_w, i32_w]
    rfl
  refine pure_ (i := 5) (N := some 11) (v := ?_) (a' := ?_) #[true, true, false, true, true, true, false, false, false, false, false, false, false, false, false, false, false, false, false, false, false, false, false, false] rfl rfl (by kernel_rfl) (fun _ _ _ h => h) (Or.inl ⟨by rfl, ?_⟩) ?_ ?_
  rotate_left
  · intro w'
    go_simp
    with_reducible rfl
  rotate_left
  · simp only [Act.put, List.setIfInBounds_toArray, List.set_cons_zero, List.set_cons_succ, i64_w, i32_w]
    rfl
  refine pure_ (i := 7) (N := some 13) (v := ?_) (a' := ?_) #[true, true, false, true, true, true, false, true, false, false, false, false, false, false, false, false, false, false, false, false, false, false, false, false] rfl rfl (by kernel_rfl) (fun _ _ _ h => h) (Or.inl ⟨by rfl, ?_⟩) ?_ ?_
  rotate_left
  · intro w'
    go_simp
    with_reducible rfl
  rotate_left
  · simp only [Act.put, List.setIfInBounds_toArray, List.set_cons_zero, List.set_cons_succ, i64_w, i32_w]
    rfl
  refine pure_ (i := 8) (N := some 14) (v := ?_) (a' := ?_) #[true, true, false, true, true, true, false, true, true, false, false, false, false, false, false, false, false, false, false, false, false, false, false, false] rfl rfl (by kernel_rfl) (fun _ _ _ h => h) (Or.inl ⟨by rfl, ?_⟩) ?_ ?_
  rotate_left
  · intro w'
    go_simp
    with_reducible rfl
  rotate_left
  · simp only [Act.put, List.setIfInBounds_toArray, List.set_cons_zero, List.set_cons_succ, i64_w, i32_w]
    rfl
  refine pure_ (i := 9) (N := some 15) (v := ?_) (a' := ?_) #[true, true, false, true, true, true, false, true, true, true, false, false, false, false, false, false, false, false, false, false, false, false, false, false] rfl rfl (by kernel_rfl) (fun _ _ _ h => h) (Or.inl ⟨by rfl, ?_⟩) ?_ ?_
  rotate_left
  · intro w'
    go_simp
    with_reducible rfl
  rotate_left
  · simp only [Act.put, List.setIfInBounds_toArray, List.set_cons_zero, List.set_cons_succ, i64_w, i32_w]
    rfl
  refine pure_ (i := 11) (N := some 17) (v := ?_) (a' := ?_) #[true, true, false, true, true, true, false, true, true, true, false, true, false, false, false, false, false, false, false, false, false, false, false, false] rfl rfl (by kernel_rfl) (fun _ _ _ h => h) (Or.inl ⟨by rfl, ?_⟩) ?_ ?_
  rotate_left
  · intro w'
    go_simp
    with_reducible rfl
  rotate_left
  · simp only [Act.put, List.setIfInBounds_toArray, List.set_cons_zero, List.set_cons_succ, i64_w, i32_w]
    rfl
  refine pure_ (i := 14) (N := some 20) (v := ?_) (a' := ?_) #[true, true, false, true, true, true, false, true, true, true, false, true, false, false, true, false, false, false, false, false, false, false, false, false] rfl rfl (by kernel_rfl) (fun _ _ _ h => h) (Or.inl ⟨by rfl, ?_⟩) ?_ ?_
  rotate_left
  · intro w'
    go_simp
    with_reducible rfl
  rotate_left
  · simp only [Act.put, List.setIfInBounds_toArray, List.set_cons_zero, List.set_cons_succ, i64_w, i32_w]
    rfl
  refine pure_ (i := 15) (N := some 21) (v := ?_) (a' := ?_) #[true, true, false, true, true, true, false, true, true, true, false, true, false, false, true, true, false, false, false, false, false, false, false, false] rfl rfl (by kernel_rfl) (fun _ _ _ h => h) (Or.inl ⟨by rfl, ?_⟩) ?_ ?_
  rotate_left
  · intro w'
    go_simp
    with_reducible rfl
  rotate_left
  · simp only [Act.put, List.setIfInBounds_toArray, List.set_cons_zero, List.set_cons_succ, i64_w, i32_w]
    rfl
  refine pure_ (i := 17) (N := some 23) (v := ?_) (a' := ?_) #[true, true, false, true, true, true, false, true, true, true, false, true, false, false, true, true, false, true, false, false, false, false, false, false] rfl rfl (by kernel_rfl) (fun _ _ _ h => h) (Or.inl ⟨by rfl, ?_⟩) ?_ ?_
  rotate_left
  · intro w'
    go_simp
    with_reducible rfl
  rotate_left
  · simp only [Act.put, List.setIfInBounds_toArray, List.set_cons_zero, List.set_cons_succ, i64_w, i32_w]
    rfl
  refine take_ (i := 2) (N := some 8) (v := ?_) (a' := ?_) #[true, true, true, true, true, true, false, true, true, true, false, true, false, false, true, true, false, true, false, false, false, false, false, false] rfl rfl (by kernel_rfl) (fun _ _ _ h => h) (Or.inl ⟨by rfl, ?_⟩) hHeld ?_ ?_
  rotate_left
  · rintro w' ⟨s0, s1, s2, s3, s4⟩
    go_simp
    with_reducible rfl
  rotate_left
  · simp only [Act.put, List.setIfInBounds_toArray, List.set_cons_zero, List.set_cons_succ, i64_w, i32_w]
    rfl
  refine take_ (i := 6) (N := some 12) (v := ?_) (a' := ?_) #[true, true, true, true, true, true, true, true, true, true, false, true, false, false, true, true, false, true, false, false, false, false, false, false] rfl rfl (by kernel_rfl) (fun _ _ _ h => h) (Or.inl ⟨by rfl, ?_⟩) hHeld ?_ ?_
  rotate_left
  · rintro w' ⟨s0, s1, s2, s3, s4⟩
    go_simp
    with_reducible rfl
  rotate_left
  · simp only [Act.put, List.setIfInBounds_toArray, List.set_cons_zero, List.set_cons_succ, i64_w, i32_w]
    rfl
  refine take_ (i := 10) (N := some 16) (v := ?_) (a' := ?_) #[true, true, true, true, true, true, true, true, true, true, true, true, false, false, true, true, false, true, false, false, false, false, false, false] rfl rfl (by kernel_rfl) (fun _ _ _ h => h) (Or.inl ⟨by rfl, ?_⟩) hHeld ?_ ?_
  rotate_left
  · rintro w' ⟨s0, s1, s2, s3, s4⟩
    go_simp
    with_reducible rfl
  rotate_left
  · simp only [Act.put, List.setIfInBounds_toArray, List.set_cons_zero, List.set_cons_succ, i64_w, i32_w]
    rfl
  refine pure_ (i := 12) (N := some 18) (v := ?_) (a' := ?_) #[true, true, true, true, true, true, true, true, true, true, true, true, true, false, true, true, false, true, false, false, false, false, false, false] rfl rfl (by kernel_rfl) (fun _ _ _ h => h) (Or.inl ⟨by rfl, ?_⟩) ?_ ?_
  rotate_left
  · intro w'
    go_simp
    with_reducible rfl
  rotate_left
  · simp only [Act.put, List.setIfInBounds_toArray, List.set_cons_zero, List.set_cons_succ, i64_w, i32_w]
    rfl
  refine take_ (i := 13) (N := some 19) (v := ?_) (a' := ?_) #[true, true, true, true, true, true, true, true, true, true, true, true, true, true, true, true, false, true, false, false, false, false, false, false] rfl rfl (by kernel_rfl) (fun _ _ _ h => h) (Or.inl ⟨by rfl, ?_⟩) hHeld ?_ ?_
  rotate_left
  · rintro w' ⟨s0, s1, s2, s3, s4⟩
    go_simp
    with_reducible rfl
  rotate_left
  · simp only [Act.put, List.setIfInBounds_toArray, List.set_cons_zero, List.set_cons_succ, i64_w, i32_w]
    rfl
  refine take_ (i := 16) (N := some 22) (v := ?_) (a' := ?_) #[true, true, true, true, true, true, true, true, true, true, true, true, true, true, true, true, true, true, false, false, false, false, false, false] rfl rfl (by kernel_rfl) (fun _ _ _ h => h) (Or.inl ⟨by rfl, ?_⟩) hHeld ?_ ?_
  rotate_left
  · rintro w' ⟨s0, s1, s2, s3, s4⟩
    go_simp
    with_reducible rfl
  rotate_left
  · simp only [Act.put, List.setIfInBounds_toArray, List.set_cons_zero, List.set_cons_succ, i64_w, i32_w]
    rfl
  refine pure_ (i := 18) (N := some 24) (v := ?_) (a' := ?_) #[true, true, true, true, true, true, true, true, true, true, true, true, true, true, true, true, true, true, true, false, false, false, false, false] rfl rfl (by kernel_rfl) (fun _ _ _ h => h) (Or.inl ⟨by rfl, ?_⟩) ?_ ?_
  rotate_left
  · intro w'
    go_simp
    with_reducible rfl
  rotate_left
  · simp only [Act.put, List.setIfInBounds_toArray, List.set_cons_zero, List.set_cons_succ, i64_w, i32_w]
    rfl
  refine take_ (i := 19) (N := some 25) (v := ?_) (a' := ?_) #[true, true, true, true, true, true, true, true, true, true, true, true, true, true, true, true, true, true, true, true, false, false, false, false] rfl rfl (by kernel_rfl) (fun _ _ _ h => h) (Or.inl ⟨by rfl, ?_⟩) hHeld ?_ ?_
  rotate_left
  · rintro w' ⟨s0, s1, s2, s3, s4⟩
    go_simp
    with_reducible rfl
  rotate_left
  · simp only [Act.put, List.setIfInBounds_toArray, List.set_cons_zero, List.set_cons_succ, i64_w, i32_w]
    rfl
  refine pure_ (i := 20) (N := some 26) (v := ?_) (a' := ?_) #[true, true, true, true, true, true, true, true, true, true, true, true, true, true, true, true, true, true, true, true, true, false, false, false] rfl rfl (by kernel_rfl) (fun _ _ _ h => h) (Or.inl ⟨by rfl, ?_⟩) ?_ ?_
  rotate_left
  · intro w'
    go_simp
    with_reducible rfl
  rotate_left
  · simp only [Act.put, List.setIfInBounds_toArray, List.set_cons_zero, List.set_cons_succ, i64_w, i32_w]
    rfl
  refine last_ (i := 21) (N := none) #[true, true, true, true, true, true, true, true, true, true, true, true, true, true, true, true, true, true, true, true, true, true, false, false] rfl rfl (by kernel_rfl) (by decide) (fun K hK => ?_)
  refine skip_ (w1 := ?_) (by rfl) rfl ?_ ?_
  rotate_left
  · go_simp
    rfl
  refine hK.out _ _ ?_
  clear hK K
  refine pure_ (i := 22) (N := some 27) (v := ?_) (a' := ?_) #[true, true, true, true, true, true, true, true, true, true, true, true, true, true, true, true, true, true, true, true, true, true, true, false] rfl rfl (by kernel_rfl) (fun _ _ _ h => h) (Or.inl ⟨by rfl, ?_⟩) ?_ ?_
  rotate_left
  · intro w'
    go_simp
    with_reducible rfl
  rotate_left
  · simp only [Act.put, List.setIfInBounds_toArray, List.set_cons_zero, List.set_cons_succ, i64_w, i32_w]
    rfl
  refine last_ (i := 23) (N := none) #[true, true, true, true, true, true, true, true, true, true, true, true, true, true, true, true, true, true, true, true, true, true, true, true] rfl rfl (by kernel_rfl) (by decide) (fun K hK => ?_)
  refine skip_ (w1 := ?_) (by rfl) rfl ?_ ?_
  rotate_left
  · go_simp
    rfl
  refine hK.out _ _ ?_
  clear hK K
  refine done_ (by kernel_rfl) ?_

  have h1 := hp.out.put i hi xs[j]
  have h2 := h1.1.put j (by simpa using hj) xs[i]
  exact bodyPost_end (results_none rfl _ _ _) rfl ⟨rfl, h2.1.drew, (h1.2.trans h2.2).drew⟩


set_option maxHeartbeats 4000000 in
set_option maxRecDepth 100000 in
theorem hand_Swap_same {W : World} {G B cap : Nat} {xs : List S24} (hp : Pile W G B cap xs) (i : Nat) (hi : i < xs.length) :
    Calls Try.prog 60 #[.pointer (some ⟨G, 0, none⟩), .int .i64 (i : Int), .int .i64 (i : Int)] W fun e w' => e = .returned (.tuple #[]) ∧ Pile w' G B cap xs ∧ KP W w' G B := by
  have hc : W.cell? ⟨G, 0, none⟩ = some (.slice (some ⟨B, 0, none⟩) xs.length cap) := blk_cell hp.g 0
  have hu52 := Try.underlying52
  have hu24 := Try.underlying24
  have hi0 : (0 : Int) ≤ i := by omega
  have hi1 : (i : Int) < (xs.length : Int) := by omega
  obtain ⟨hci, hci'⟩ := hp.cell i hi
  obtain ⟨cs, hrow, hsz, hrd⟩ := hp.row
  have hf1 := blk_frozen hrow (i * 2)
  have hf2 := blk_frozen hrow (i * 2 + 1)
  have hgb := hp.ne
  replace hrow := Aside0.mk hrow
  replace hrd := Aside0.mk hrd
  replace hp := Aside0.mk hp
  go_enter Try.func60, Try.ntmps60
  go_wp2_with fail
  refine start_ (n := 24) (S := fun w' => w'.cell? ⟨G, 0, none⟩ = some (.slice (some ⟨B, 0, none⟩) xs.length cap) ∧ w'.cell? ⟨B, i * 2, none⟩ = some (.int .i64 xs[i].f0) ∧ w'.cell? ⟨B, i * 2 + 1, none⟩ = some (.int .i64 xs[i].f1) ∧ True ∧ True) (ds := [21, 23]) #[false, false, false, false, false, false, false, false, false, false, false, false, false, false, false, false, false, false, false, false, false, false, false, false] (by kernel_rfl) rfl rfl ⟨hc, hci, hci', trivial, trivial⟩ (fun hHeld => ?_)
  refine pure_ (i := 0) (N := some 6) (v := ?_) (a' := ?_) #[true, false, false, false, false, false, false, false, false, false, false, false, false, false, false, false, false, false, false, false, false, false, false, false] rfl rfl (by kernel_rfl) (fun _ _ _ h => h) (Or.inl ⟨by rfl, ?_⟩) ?_ ?_
  rotate_left
  · intro w'
    go_simp
    with_reducible rfl
  rotate_left
  · simp only [Act.put, List.setIfInBounds_toArray, List.set_cons_zero, List.set_cons_succ, i64_w, i32_w]
    rfl
  refine pure_ (i := 1) (N := some 7) (v := ?_) (a' := ?_) #[true, true, false, false, false, false, false, false, false, false, false, false, false, false, false, false, false, false, false, false, false, false, false, false] rfl rfl (by kernel_rfl) (fun _ _ _ h => h) (Or.inl ⟨by rfl, ?_⟩) ?_ ?_
  rotate_left
  · intro w'
    go_simp
    with_reducible rfl
  rotate_left
  · simp only [Act.put, List.setIfInBounds_toArray, List.set_cons_zero, List.set_cons_succ, i64_w, i32_w]
    rfl
  refine pure_ (i := 3) (N := some 9) (v := ?_) (a' := ?_) #[true, true, false, true, false, false, false, false, false, false, false, false, false, false, false, false, false, false, false, false, false, false, false, false] rfl rfl (by kernel_rfl) (fun _ _ _ h => h) (Or.inl ⟨by rfl, ?_⟩) ?_ ?_
  rotate_left
  · intro w'
    go_simp
    with_reducible rfl
  rotate_left
  · simp only [Act.put, List.setIfInBounds_toArray, List.set_cons_zero, List.set_cons_succ, i64_w, i32_w]
    rfl
  refine pure_ (i := 4) (N := some 10) (v := ?_) (a' := ?_) #[true, true, false, true, true, false, false, false, false, false, false, false, false, false, false, false, false, false, false, false, false, false, false, false] rfl rfl (by kernel_rfl) (fun _ _ _ h => h) (Or.inl ⟨by rfl, ?_⟩) ?_ ?_
  rotate_left
  · intro w'
    go_simp
    with_reducible rfl
  rotate_left
  · simp only [Act.put, List.setIfInBounds_toArray, List.set_cons_zero, List.set_cons_succ, i64_w, i32_w]
    rfl
  refine pure_ (i := 5) (N := some 11) (v := ?_) (a' := ?_) #[true, true, false, true, true, true, false, false, false, false, false, false, false, false, false, false, false, false, false, false, false, false, false, false] rfl rfl (by kernel_rfl) (fun _ _ _ h => h) (Or.inl ⟨by rfl, ?_⟩) ?_ ?_
  rotate_left
  · intro w'
    go_simp
    with_reducible rfl
  rotate_left
  · simp only [Act.put, List.setIfInBounds_toArray, List.set_cons_zero, List.set_cons_succ, i64_w, i32_w]
    rfl
  refine pure_ (i := 7) (N := some 13) (v := ?_) (a' := ?_) #[true, true, false, true, true, true, false, true, false, false, false, false, false, false, false, false, false, false, false, false, false, false, false, false] rfl rfl (by kernel_rfl) (fun _ _ _ h => h) (Or.inl ⟨by rfl, ?_⟩) ?_ ?_
  rotate_left
  · intro w'
    go_simp
    with_reducible rfl
  rotate_left
  · simp only [Act.put, List.setIfInBounds_toArray, List.set_cons_zero, List.set_cons_succ, i64_w, i32_w]
    rfl
  refine pure_ (i := 8) (N := some 14) (v := ?_) (a' := ?_) #[true, true, false, true, true, true, false, true, true, false, false, false, false, false, false, false, false, false, false, false, false, false, false, false] rfl rfl (by kernel_rfl) (fun _ _ _ h => h) (Or.inl ⟨by rfl, ?_⟩) ?_ ?_
  rotate_left
  · intro w'
    go_simp
    with_reducible rfl
  rotate_left
  · simp only [Act.put, List.setIfInBounds_toArray, List.set_cons_zero, List.set_cons_succ, i64_w, i32_w]
    rfl
  refine pure_ (i := 9) (N := some 15) (v := ?_) (a' := ?_) #[true, true, false, true, true, true, false, true, true, true, false, false, false, false, false, false, false, false, false, false, false, false, false, false] rfl rfl (by kernel_rfl) (fun _ _ _ h => h) (Or.inl ⟨by rfl, ?_⟩) ?_ ?_
  rotate_left
  · intro w'
    go_simp
    with_reducible rfl
  rotate_left
  · simp only [Act.put, List.setIfInBounds_toArray, List.set_cons_zero, List.set_cons_succ, i64_w, i32_w]
    rfl
  refine pure_ (i := 11) (N := some 17) (v := ?_) (a' := ?_) #[true, true, false, true, true, true, false, true, true, true, false, true, false, false, false, false, false, false, false, false, false, false, false, false] rfl rfl (by kernel_rfl) (fun _ _ _ h => h) (Or.inl ⟨by rfl, ?_⟩) ?_ ?_
  rotate_left
  · intro w'
    go_simp
    with_reducible rfl
  rotate_left
  · simp only [Act.put, List.setIfInBounds_toArray, List.set_cons_zero, List.set_cons_succ, i64_w, i32_w]
    rfl
  refine pure_ (i := 14) (N := some 20) (v := ?_) (a' := ?_) #[true, true, false, true, true, true, false, true, true, true, false, true, false, false, true, false, false, false, false, false, false, false, false, false] rfl rfl (by kernel_rfl) (fun _ _ _ h => h) (Or.inl ⟨by rfl, ?_⟩) ?_ ?_
  rotate_left
  · intro w'
    go_simp
    with_reducible rfl
  rotate_left
  · simp only [Act.put, List.setIfInBounds_toArray, List.set_cons_zero, List.set_cons_succ, i64_w, i32_w]
    rfl
  refine pure_ (i := 15) (N := some 21) (v := ?_) (a' := ?_) #[true, true, false, true, true, true, false, true, true, true, false, true, false, false, true, true, false, false, false, false, false, false, false, false] rfl rfl (by kernel_rfl) (fun _ _ _ h => h) (Or.inl ⟨by rfl, ?_⟩) ?_ ?_
  rotate_left
  · intro w'
    go_simp
    with_reducible rfl
  rotate_left
  · simp only [Act.put, List.setIfInBounds_toArray, List.set_cons_zero, List.set_cons_succ, i64_w, i32_w]
    rfl
  refine pure_ (i := 17) (N := some 23) (v := ?_) (a' := ?_) #[true, true, false, true, true, true, false, true, true, true, false, true, false, false, true, true, false, true, false, false, false, false, false, false] rfl rfl (by kernel_rfl) (fun _ _ _ h => h) (Or.inl ⟨by rfl, ?_⟩) ?_ ?_
  rotate_left
  · intro w'
    go_simp
    with_reducible rfl
  rotate_left
  · simp only [Act.put, List.setIfInBounds_toArray, List.set_cons_zero, List.set_cons_succ, i64_w, i32_w]
    rfl
  refine take_ (i := 2) (N := some 8) (v := ?_) (a' := ?_) #[true, true, true, true, true, true, false, true, true, true, false, true, false, false, true, true, false, true, false, false, false, false, false, false] rfl rfl (by kernel_rfl) (fun _ _ _ h => h) (Or.inl ⟨by rfl, ?_⟩) hHeld ?_ ?_
  rotate_left
  · rintro w' ⟨s0, s1, s2, s3, s4⟩
    go_simp
    with_reducible rfl
  rotate_left
  · simp only [Act.put, List.setIfInBounds_toArray, List.set_cons_zero, List.set_cons_succ, i64_w, i32_w]
    rfl
  refine take_ (i := 6) (N := some 12) (v := ?_) (a' := ?_) #[true, true, true, true, true, true, true, true, true, true, false, true, false, false, true, true, false, true, false, false, false, false, false, false] rfl rfl (by kernel_rfl) (fun _ _ _ h => h) (Or.inl ⟨by rfl, ?_⟩) hHeld ?_ ?_
  rotate_left
  · rintro w' ⟨s0, s1, s2, s3, s4⟩
    go_simp
    with_reducible rfl
  rotate_left
  · simp only [Act.put, List.setIfInBounds_toArray, List.set_cons_zero, List.set_cons_succ, i64_w, i32_w]
    rfl
  refine take_ (i := 10) (N := some 16) (v := ?_) (a' := ?_) #[true, true, true, true, true, true, true, true, true, true, true, true, false, false, true, true, false, true, false, false, false, false, false, false] rfl rfl (by kernel_rfl) (fun _ _ _ h => h) (Or.inl ⟨by rfl, ?_⟩) hHeld ?_ ?_
  rotate_left
  · rintro w' ⟨s0, s1, s2, s3, s4⟩
    go_simp
    with_reducible rfl
  rotate_left
  · simp only [Act.put, List.setIfInBounds_toArray, List.set_cons_zero, List.set_cons_succ, i64_w, i32_w]
    rfl
  refine pure_ (i := 12) (N := some 18) (v := ?_) (a' := ?_) #[true, true, true, true, true, true, true, true, true, true, true, true, true, false, true, true, false, true, false, false, false, false, false, false] rfl rfl (by kernel_rfl) (fun _ _ _ h => h) (Or.inl ⟨by rfl, ?_⟩) ?_ ?_
  rotate_left
  · intro w'
    go_simp
    with_reducible rfl
  rotate_left
  · simp only [Act.put, List.setIfInBounds_toArray, List.set_cons_zero, List.set_cons_succ, i64_w, i32_w]
    rfl
  refine take_ (i := 13) (N := some 19) (v := ?_) (a' := ?_) #[true, true, true, true, true, true, true, true, true, true, true, true, true, true, true, true, false, true, false, false, false, false, false, false] rfl rfl (by kernel_rfl) (fun _ _ _ h => h) (Or.inl ⟨by rfl, ?_⟩) hHeld ?_ ?_
  rotate_left
  · rintro w' ⟨s0, s1, s2, s3, s4⟩
    go_simp
    with_reducible rfl
  rotate_left
  · simp only [Act.put, List.setIfInBounds_toArray, List.set_cons_zero, List.set_cons_succ, i64_w, i32_w]
    rfl
  refine take_ (i := 16) (N := some 22) (v := ?_) (a' := ?_) #[true, true, true, true, true, true, true, true, true, true, true, true, true, true, true, true, true, true, false, false, false, false, false, false] rfl rfl (by kernel_rfl) (fun _ _ _ h => h) (Or.inl ⟨by rfl, ?_⟩) hHeld ?_ ?_
  rotate_left
  · rintro w' ⟨s0, s1, s2, s3, s4⟩
    go_simp
    with_reducible rfl
  rotate_left
  · simp only [Act.put, List.setIfInBounds_toArray, List.set_cons_zero, List.set_cons_succ, i64_w, i32_w]
    rfl
  refine pure_ (i := 18) (N := some 24) (v := ?_) (a' := ?_) #[true, true, true, true, true, true, true, true, true, true, true, true, true, true, true, true, true, true, true, false, false, false, false, false] rfl rfl (by kernel_rfl) (fun _ _ _ h => h) (Or.inl ⟨by rfl, ?_⟩) ?_ ?_
  rotate_left
  · intro w'
    go_simp
    with_reducible rfl
  rotate_left
  · simp only [Act.put, List.setIfInBounds_toArray, List.set_cons_zero, List.set_cons_succ, i64_w, i32_w]
    rfl
  refine take_ (i := 19) (N := some 25) (v := ?_) (a' := ?_) #[true, true, true, true, true, true, true, true, true, true, true, true, true, true, true, true, true, true, true, true, false, false, false, false] rfl rfl (by kernel_rfl) (fun _ _ _ h => h) (Or.inl ⟨by rfl, ?_⟩) hHeld ?_ ?_
  rotate_left
  · rintro w' ⟨s0, s1, s2, s3, s4⟩
    go_simp
    with_reducible rfl
  rotate_left
  · simp only [Act.put, List.setIfInBounds_toArray, List.set_cons_zero, List.set_cons_succ, i64_w, i32_w]
    rfl
  refine pure_ (i := 20) (N := some 26) (v := ?_) (a' := ?_) #[true, true, true, true, true, true, true, true, true, true, true, true, true, true, true, true, true, true, true, true, true, false, false, false] rfl rfl (by kernel_rfl) (fun _ _ _ h => h) (Or.inl ⟨by rfl, ?_⟩) ?_ ?_
  rotate_left
  · intro w'
    go_simp
    with_reducible rfl
  rotate_left
  · simp only [Act.put, List.setIfInBounds_toArray, List.set_cons_zero, List.set_cons_succ, i64_w, i32_w]
    rfl
  refine last_ (i := 21) (N := none) #[true, true, true, true, true, true, true, true, true, true, true, true, true, true, true, true, true, true, true, true, true, true, false, false] rfl rfl (by kernel_rfl) (by decide) (fun K hK => ?_)
  refine skip_ (w1 := ?_) (by rfl) rfl ?_ ?_
  rotate_left
  · go_simp
    rfl
  refine hK.out _ _ ?_
  clear hK K
  refine pure_ (i := 22) (N := some 27) (v := ?_) (a' := ?_) #[true, true, true, true, true, true, true, true, true, true, true, true, true, true, true, true, true, true, true, true, true, true, true, false] rfl rfl (by kernel_rfl) (fun _ _ _ h => h) (Or.inl ⟨by rfl, ?_⟩) ?_ ?_
  rotate_left
  · intro w'
    go_simp
    with_reducible rfl
  rotate_left
  · simp only [Act.put, List.setIfInBounds_toArray, List.set_cons_zero, List.set_cons_succ, i64_w, i32_w]
    rfl
  refine last_ (i := 23) (N := none) #[true, true, true, true, true, true, true, true, true, true, true, true, true, true, true, true, true, true, true, true, true, true, true, true] rfl rfl (by kernel_rfl) (by decide) (fun K hK => ?_)
  refine skip_ (w1 := ?_) (by rfl) rfl ?_ ?_
  rotate_left
  · go_simp
    rfl
  refine hK.out _ _ ?_
  clear hK K
  refine done_ (by kernel_rfl) ?_

  have h1 := hp.out.put i hi xs[i]
  have h2 := h1.1.put i (by simpa using hi) xs[i]
  simp only [List.set_getElem_self] at h1 h2
  exact bodyPost_end (results_none rfl _ _ _) rfl ⟨rfl, h2.1.drew, (h1.2.trans h2.2).drew⟩


theorem wrap_in (n : Int) (h : -9223372036854775808 ≤ n ∧ n ≤ 9223372036854775807) : wrap64 n = n := by unfold wrap64; omega
/-- The last one is taken. -/
theorem Pile.take {W : World} {G B cap : Nat} {xs : List S24} {x : S24} (h : Pile W G B cap (xs ++ [x])) :
    Pile (W.setCell ⟨G, 0, none⟩ (.slice (some ⟨B, 0, none⟩) xs.length cap)) G B cap xs ∧ KP W (W.setCell ⟨G, 0, none⟩ (.slice (some ⟨B, 0, none⟩) xs.length cap)) G B := by
  obtain ⟨cs, h1, h2, h3⟩ := h.row
  have hne := h.ne
  have hl : (xs ++ [x]).length = xs.length + 1 := by simp
  have hle := h.le
  have hlen := h.len
  refine ⟨⟨blk_put h.g 0 _ rfl, ⟨cs, blk_far (p := ⟨G, 0, none⟩) h1 (Ne.symm hne) _, h2, fun i hi => ?_⟩, by omega, h.sm, by omega⟩, ⟨rfl, rfl, rfl, ?_, ?_⟩⟩
  · have := h3 i (by omega)
    rwa [List.getElem_append_left hi] at this
  · rw [heap_setCell_size]
    exact Nat.le_refl _
  · intro k _ hkG _
    exact Below.heap_setCell _ ⟨G, 0, none⟩ _ k hkG
set_option maxHeartbeats 4000000 in
set_option maxRecDepth 100000 in
theorem hand_PilePop {W : World} {G B cap : Nat} {xs : List S24} {x : S24} (hp : Pile W G B cap (xs ++ [x])) :
    Calls Try.prog 58 #[.pointer (some ⟨G, 0, none⟩)] W fun e w' => e = .returned (.iface 24 (.agg #[.int .i64 x.f0, .int .i64 x.f1])) ∧ Pile w' G B cap xs ∧ KP W w' G B := by
  have hl : (xs ++ [x]).length = xs.length + 1 := by simp
  have hc : W.cell? ⟨G, 0, none⟩ = some (.slice (some ⟨B, 0, none⟩) (xs.length + 1) cap) := hl ▸ blk_cell hp.g 0
  have hu52 := Try.underlying52
  have hu24 := Try.underlying24
  have hle := hp.le
  have hlen := hp.len
  have hi : xs.length < (xs ++ [x]).length := by omega
  obtain ⟨hci, hci'⟩ := hp.cell xs.length hi
  have hx : (xs ++ [x])[xs.length] = x := by simp
  rw [hx] at hci hci'
  have hw : wrap64 (((xs.length + 1 : Nat) : Int) - 1) = (xs.length : Int) := by
    rw [wrap_in _ (by omega)]
    omega
  have hi0 : (0 : Int) ≤ xs.length := by omega
  have hi1 : (xs.length : Int) < ((xs.length + 1 : Nat) : Int) := by omega
  have hi2 : (xs.length : Int) ≤ (cap : Int) := by omega
  have hfz := blk_frozen hp.g 0
  have hb0 := below_alloc (Below.refl W.heap.size W) (.cells #[.int .i64 x.f0, .int .i64 x.f1] 24 (0, 0))
  have hp2 := hp.below hb0
  have ht := hp2.take
  have hca : (W.alloc (.cells #[.int .i64 x.f0, .int .i64 x.f1] 24 (0, 0))).cell? ⟨G, 0, none⟩ = some (.slice (some ⟨B, 0, none⟩) (xs.length + 1) cap) := hl ▸ blk_cell hp2.g 0
  have hfa := blk_frozen hp2.g 0
  have hnG : W.heap.size ≠ G := by
    have := blk_lt hp.g
    omega
  have hn := blk_far (p := ⟨G, 0, none⟩) (blk_new W (.cells #[.int .i64 x.f0, .int .i64 x.f1] 24 (0, 0))) hnG (.slice (some ⟨B, 0, none⟩) xs.length cap)
  have hd0 := (blk_cell hn 0).trans (by rfl : _ = some (.int .i64 x.f0))
  have hd1 := (blk_cell hn 1).trans (by rfl : _ = some (.int .i64 x.f1))
  have hK := (KP.of_below hb0 G B).trans ht.2
  have hP := ht.1
  clear hn ht
  replace hp := Aside0.mk hp
  replace hp2 := Aside0.mk hp2
  replace hb0 := Aside0.mk hb0
  replace hK := Aside0.mk hK
  replace hP := Aside0.mk hP
  go_enter Try.func58, Try.ntmps58
  go_wp2_with fail
  go_ret
  exact ⟨rfl, hP.out, hK.out⟩

theorem meth_Len (G : Nat) (w : World) : (method 180 43 (.pointer (some ⟨G, 0, none⟩)) "Len").run Try.prog w = .ok (34, .pointer (some ⟨G, 0, none⟩)) w := by kernel_rfl
theorem meth_Less (G : Nat) (w : World) : (method 180 43 (.pointer (some ⟨G, 0, none⟩)) "Less").run Try.prog w = .ok (57, .pointer (some ⟨G, 0, none⟩)) w := by kernel_rfl
theorem meth_Swap (G : Nat) (w : World) : (method 180 43 (.pointer (some ⟨G, 0, none⟩)) "Swap").run Try.prog w = .ok (60, .pointer (some ⟨G, 0, none⟩)) w := by kernel_rfl
theorem meth_Push (G : Nat) (w : World) : (method 180 43 (.pointer (some ⟨G, 0, none⟩)) "Push").run Try.prog w = .ok (59, .pointer (some ⟨G, 0, none⟩)) w := by kernel_rfl
theorem meth_Pop (G : Nat) (w : World) : (method 180 43 (.pointer (some ⟨G, 0, none⟩)) "Pop").run Try.prog w = .ok (58, .pointer (some ⟨G, 0, none⟩)) w := by kernel_rfl
theorem hand_LessI {W : World} {G B cap : Nat} {xs : List S24} (hp : Pile W G B cap xs) (i j : Int) (hi : 0 ≤ i ∧ i < xs.length) (hj : 0 ≤ j ∧ j < xs.length) :
    Calls Try.prog 57 #[.pointer (some ⟨G, 0, none⟩), .int .i64 i, .int .i64 j] W fun e w' => e = .returned (.bool (ah (at_ xs i.toNat) (at_ xs j.toNat))) ∧ Below W.heap.size W w' := by
  have h := hand_Less hp i.toNat j.toNat (by omega) (by omega)
  rw [Int.toNat_of_nonneg hi.1, Int.toNat_of_nonneg hj.1, ← at_get, ← at_get] at h
  exact h
theorem hand_SwapI {W : World} {G B cap : Nat} {xs : List S24} (hp : Pile W G B cap xs) (i j : Int) (hi : 0 ≤ i ∧ i < xs.length) (hj : 0 ≤ j ∧ j < xs.length) :
    Calls Try.prog 60 #[.pointer (some ⟨G, 0, none⟩), .int .i64 i, .int .i64 j] W fun e w' => e = .returned (.tuple #[]) ∧ Pile w' G B cap (swp xs i.toNat j.toNat) ∧ KP W w' G B := by
  by_cases hij : i = j
  · subst hij
    have h := hand_Swap_same hp i.toNat (by omega)
    rw [Int.toNat_of_nonneg hi.1] at h
    rw [swp_self (by omega)]
    exact h
  · have h := hand_Swap hp i.toNat j.toNat (by omega) (by omega) (by omega)
    rw [Int.toNat_of_nonneg hi.1, Int.toNat_of_nonneg hj.1, ← at_get, ← at_get] at h
    exact h
/-- What holds while a pile is turned. -/
structure PS (W wr : World) (G B cap : Nat) (xs ys : List S24) : Prop where
  p : Pile wr G B cap ys
  k : KP W wr G B
  l : ys.length = xs.length
theorem PS.below {W wr w' : World} {G B cap : Nat} {xs ys : List S24} (h : PS W wr G B cap xs ys) (hb : Below wr.heap.size wr w') : PS W w' G B cap xs ys := ⟨h.p.below hb, h.k.trans (.of_below hb G B), h.l⟩

theorem hand_LessJ {W : World} {G B cap : Nat} {xs : List S24} (hp : Pile W G B cap xs) (i j : Int) (i' j' : Nat) (hi : i = i') (hj : j = j') (b : Bool) (hb : ah (at_ xs i') (at_ xs j') = b) (hi1 : i' < xs.length) (hj1 : j' < xs.length) :
    Calls Try.prog 57 #[.pointer (some ⟨G, 0, none⟩), .int .i64 i, .int .i64 j] W fun e w' => e = .returned (.bool b) ∧ Below W.heap.size W w' := by
  subst hi hj hb
  exact hand_LessI hp i' j' ⟨by omega, by omega⟩ ⟨by omega, by omega⟩
theorem hand_SwapJ {W : World} {G B cap : Nat} {xs : List S24} (hp : Pile W G B cap xs) (i j : Int) (i' j' : Nat) (hi : i = i') (hj : j = j') (hi1 : i' < xs.length) (hj1 : j' < xs.length) :
    Calls Try.prog 60 #[.pointer (some ⟨G, 0, none⟩), .int .i64 i, .int .i64 j] W fun e w' => e = .returned (.tuple #[]) ∧ Pile w' G B cap (swp xs i' j') ∧ KP W w' G B := by
  subst hi hj
  exact hand_SwapI hp i' j' ⟨by omega, by omega⟩ ⟨by omega, by omega⟩
theorem PS.swap {W wr w' : World} {G B cap : Nat} {xs ys : List S24} {i j : Nat} (h : PS W wr G B cap xs ys) (hp : Pile w' G B cap (swp ys i j)) (hk : KP wr w' G B) : PS W w' G B cap xs (swp ys i j) := ⟨hp, h.k.trans hk, (swp_length ys i j).trans h.l⟩

set_option maxHeartbeats 4000000 in
set_option maxRecDepth 100000 in
theorem hand_down {W : World} {G B cap : Nat} {xs : List S24} (hp : Pile W G B cap xs) (i n : Nat) (hn : n ≤ xs.length) (hi : i ≤ 20000000000000) :
    Calls Try.prog 40 #[.iface 43 (.pointer (some ⟨G, 0, none⟩)), .int .i64 (i : Int), .int .i64 (n : Int)] W fun e w' => e = .returned (.bool (decide ((dn n xs i).2 > i))) ∧ Pile w' G B cap (dn n xs i).1 ∧ KP W w' G B := by
  have hm1 := meth_Less G
  have hm2 := meth_Swap G
  have hs := Aside0.mk (PS.mk hp (KP.refl W G B) (rfl : xs.length = xs.length))
  have hlen := hp.len
  clear hp
  go_enter Try.func40, Try.ntmps40
  go_wp2_with fail
  go_loopw [7] (fun v wr => ∃ (ys : List S24) (a : Nat), v = .int .i64 (a : Int) ∧ a ≤ 20000000000000 ∧ Aside0 (PS W wr G B cap xs ys) ∧ Aside0 (dn n xs i = dn n ys a)) (fun v _ => n - (intOf v).toNat)
  case atStart => exact ⟨xs, i, rfl, hi, hs, ⟨rfl⟩⟩
  case round =>
    clear hs
    obtain ⟨ys, a, rfl, ha, hs, hd⟩ := hrel
    have e1 : wrap64 (2 * (a : Int)) = 2 * (a : Int) := wrap_in _ (by omega)
    have e2 : wrap64 (2 * (a : Int) + 1) = 2 * (a : Int) + 1 := wrap_in _ (by omega)
    have e3 : wrap64 (2 * (a : Int) + 1 + 1) = 2 * (a : Int) + 1 + 1 := wrap_in _ (by omega)
    have hlt0 : decide (2 * (a : Int) + 1 < 0) = false := decide_eq_false (by omega)
    by_cases h1 : 2 * a + 1 < n
    · have d1 : decide ((n : Int) ≤ 2 * (a : Int) + 1) = false := decide_eq_false (by omega)
      have d1' : decide (2 * (a : Int) + 1 ≥ (n : Int)) = false := decide_eq_false (by omega)
      by_cases h2 : 2 * a + 2 < n
      · have d2 : decide (2 * (a : Int) + 1 + 1 < (n : Int)) = true := decide_eq_true (by omega)
        have d2' : decide ((n : Int) > 2 * (a : Int) + 1 + 1) = true := decide_eq_true (by omega)
        cases h3 : ah (at_ ys (2 * a + 2)) (at_ ys (2 * a + 1)) <;> (cases h4 : ah (at_ ys (ch n ys a)) (at_ ys a))
        · have hch : ch n ys a = 2 * a + 1 := by
            unfold ch
            rw [if_pos h2, h3]
            rfl
          go_wp2_with fail
          refine (hand_LessJ hs.out.p (2 * (a : Int) + 1 + 1) (2 * (a : Int) + 1) (2 * a + 2) (2 * a + 1) (by omega) (by omega) _ h3 (by rw [hs.out.l]; omega) (by rw [hs.out.l]; omega)).mono ?_
          rintro e w1 ⟨rfl, hb1⟩
          have hs1 := Aside0.mk (hs.out.below hb1)
          clear hs hb1
          go_wp2_with fail
          have h4t := h4
          have hch2 : ch n ys a = 2 * a + 1 := hch
          rw [hch2] at h4t
          refine (hand_LessJ hs1.out.p (2 * (a : Int) + 1) (a : Int) (2 * a + 1) a (by omega) rfl _ h4t (by rw [hs1.out.l]; omega) (by rw [hs1.out.l]; omega)).mono ?_
          rintro e w2 ⟨rfl, hb2⟩
          have hs2 := Aside0.mk (hs1.out.below hb2)
          clear hs1 hb2
          go_wp2_with fail
          go_ret
          rw [hd.out, dn_stop h1 h4]
          exact ⟨by simp <;> omega, hs2.out.p, hs2.out.k⟩
        · have hch : ch n ys a = 2 * a + 1 := by
            unfold ch
            rw [if_pos h2, h3]
            rfl
          go_wp2_with fail
          refine (hand_LessJ hs.out.p (2 * (a : Int) + 1 + 1) (2 * (a : Int) + 1) (2 * a + 2) (2 * a + 1) (by omega) (by omega) _ h3 (by rw [hs.out.l]; omega) (by rw [hs.out.l]; omega)).mono ?_
          rintro e w1 ⟨rfl, hb1⟩
          have hs1 := Aside0.mk (hs.out.below hb1)
          clear hs hb1
          go_wp2_with fail
          have h4t := h4
          have hch2 : ch n ys a = 2 * a + 1 := hch
          rw [hch2] at h4t
          refine (hand_LessJ hs1.out.p (2 * (a : Int) + 1) (a : Int) (2 * a + 1) a (by omega) rfl _ h4t (by rw [hs1.out.l]; omega) (by rw [hs1.out.l]; omega)).mono ?_
          rintro e w2 ⟨rfl, hb2⟩
          have hs2 := Aside0.mk (hs1.out.below hb2)
          clear hs1 hb2
          go_wp2_with fail
          refine (hand_SwapJ hs2.out.p (a : Int) (2 * (a : Int) + 1) a (2 * a + 1) rfl (by omega) (by rw [hs2.out.l]; omega) (by rw [hs2.out.l]; omega)).mono ?_
          rintro e w3 ⟨rfl, hp3, hk3⟩
          have hs3 := Aside0.mk (hs2.out.swap hp3 hk3)
          clear hs2 hp3 hk3
          go_wp2_with fail
          go_roundw
          case rel => exact ⟨swp ys a (2 * a + 1), 2 * a + 1, by simp <;> omega, by omega, hs3, ⟨by rw [hd.out, dn_go h1 h4, hch]⟩⟩
          case measure => simp [intOf] <;> omega
        · have hch : ch n ys a = 2 * a + 2 := by
            unfold ch
            rw [if_pos h2, h3]
            rfl
          go_wp2_with fail
          refine (hand_LessJ hs.out.p (2 * (a : Int) + 1 + 1) (2 * (a : Int) + 1) (2 * a + 2) (2 * a + 1) (by omega) (by omega) _ h3 (by rw [hs.out.l]; omega) (by rw [hs.out.l]; omega)).mono ?_
          rintro e w1 ⟨rfl, hb1⟩
          have hs1 := Aside0.mk (hs.out.below hb1)
          clear hs hb1
          go_wp2_with fail
          have h4t := h4
          have hch2 : ch n ys a = 2 * a + 2 := hch
          rw [hch2] at h4t
          refine (hand_LessJ hs1.out.p (2 * (a : Int) + 1 + 1) (a : Int) (2 * a + 2) a (by omega) rfl _ h4t (by rw [hs1.out.l]; omega) (by rw [hs1.out.l]; omega)).mono ?_
          rintro e w2 ⟨rfl, hb2⟩
          have hs2 := Aside0.mk (hs1.out.below hb2)
          clear hs1 hb2
          go_wp2_with fail
          go_ret
          rw [hd.out, dn_stop h1 h4]
          exact ⟨by simp <;> omega, hs2.out.p, hs2.out.k⟩
        · have hch : ch n ys a = 2 * a + 2 := by
            unfold ch
            rw [if_pos h2, h3]
            rfl
          go_wp2_with fail
          refine (hand_LessJ hs.out.p (2 * (a : Int) + 1 + 1) (2 * (a : Int) + 1) (2 * a + 2) (2 * a + 1) (by omega) (by omega) _ h3 (by rw [hs.out.l]; omega) (by rw [hs.out.l]; omega)).mono ?_
          rintro e w1 ⟨rfl, hb1⟩
          have hs1 := Aside0.mk (hs.out.below hb1)
          clear hs hb1
          go_wp2_with fail
          have h4t := h4
          have hch2 : ch n ys a = 2 * a + 2 := hch
          rw [hch2] at h4t
          refine (hand_LessJ hs1.out.p (2 * (a : Int) + 1 + 1) (a : Int) (2 * a + 2) a (by omega) rfl _ h4t (by rw [hs1.out.l]; omega) (by rw [hs1.out.l]; omega)).mono ?_
          rintro e w2 ⟨rfl, hb2⟩
          have hs2 := Aside0.mk (hs1.out.below hb2)
          clear hs1 hb2
          go_wp2_with fail
          refine (hand_SwapJ hs2.out.p (a : Int) (2 * (a : Int) + 1 + 1) a (2 * a + 2) rfl (by omega) (by rw [hs2.out.l]; omega) (by rw [hs2.out.l]; omega)).mono ?_
          rintro e w3 ⟨rfl, hp3, hk3⟩
          have hs3 := Aside0.mk (hs2.out.swap hp3 hk3)
          clear hs2 hp3 hk3
          go_wp2_with fail
          go_roundw
          case rel => exact ⟨swp ys a (2 * a + 2), 2 * a + 2, by simp <;> omega, by omega, hs3, ⟨by rw [hd.out, dn_go h1 h4, hch]⟩⟩
          case measure => simp [intOf] <;> omega
      · have d2 : decide (2 * (a : Int) + 1 + 1 < (n : Int)) = false := decide_eq_false (by omega)
        have d2' : decide ((n : Int) > 2 * (a : Int) + 1 + 1) = false := decide_eq_false (by omega)
        have hch : ch n ys a = 2 * a + 1 := by
          unfold ch
          rw [if_neg h2]
        cases h4 : ah (at_ ys (ch n ys a)) (at_ ys a)
        · go_wp2_with fail
          have h4t := h4
          have hch2 : ch n ys a = 2 * a + 1 := hch
          rw [hch2] at h4t
          refine (hand_LessJ hs.out.p (2 * (a : Int) + 1) (a : Int) (2 * a + 1) a (by omega) rfl _ h4t (by rw [hs.out.l]; omega) (by rw [hs.out.l]; omega)).mono ?_
          rintro e w2 ⟨rfl, hb2⟩
          have hs2 := Aside0.mk (hs.out.below hb2)
          clear hs hb2
          go_wp2_with fail
          go_ret
          rw [hd.out, dn_stop h1 h4]
          exact ⟨by simp <;> omega, hs2.out.p, hs2.out.k⟩
        · go_wp2_with fail
          have h4t := h4
          have hch2 : ch n ys a = 2 * a + 1 := hch
          rw [hch2] at h4t
          refine (hand_LessJ hs.out.p (2 * (a : Int) + 1) (a : Int) (2 * a + 1) a (by omega) rfl _ h4t (by rw [hs.out.l]; omega) (by rw [hs.out.l]; omega)).mono ?_
          rintro e w2 ⟨rfl, hb2⟩
          have hs2 := Aside0.mk (hs.out.below hb2)
          clear hs hb2
          go_wp2_with fail
          refine (hand_SwapJ hs2.out.p (a : Int) (2 * (a : Int) + 1) a (2 * a + 1) rfl (by omega) (by rw [hs2.out.l]; omega) (by rw [hs2.out.l]; omega)).mono ?_
          rintro e w3 ⟨rfl, hp3, hk3⟩
          have hs3 := Aside0.mk (hs2.out.swap hp3 hk3)
          clear hs2 hp3 hk3
          go_wp2_with fail
          go_roundw
          case rel => exact ⟨swp ys a (2 * a + 1), 2 * a + 1, by simp <;> omega, by omega, hs3, ⟨by rw [hd.out, dn_go h1 h4, hch]⟩⟩
          case measure => simp [intOf] <;> omega
    · have d1 : decide ((n : Int) ≤ 2 * (a : Int) + 1) = true := decide_eq_true (by omega)
      have d1' : decide (2 * (a : Int) + 1 ≥ (n : Int)) = true := decide_eq_true (by omega)
      go_wp2_with fail
      go_ret
      rw [hd.out, dn_end h1]
      exact ⟨by simp <;> omega, hs.out.p, hs.out.k⟩


set_option maxHeartbeats 4000000 in
set_option maxRecDepth 100000 in
theorem hand_up {W : World} {G B cap : Nat} {xs : List S24} (hp : Pile W G B cap xs) (j : Nat) (hj : j < xs.length) :
    Calls Try.prog 39 #[.iface 43 (.pointer (some ⟨G, 0, none⟩)), .int .i64 (j : Int)] W fun e w' => e = .returned (.tuple #[]) ∧ Pile w' G B cap (upw xs j) ∧ KP W w' G B := by
  have hm1 := meth_Less G
  have hm2 := meth_Swap G
  have hs := Aside0.mk (PS.mk hp (KP.refl W G B) (rfl : xs.length = xs.length))
  have hlen := hp.len
  clear hp
  go_enter Try.func39, Try.ntmps39
  go_wp2_with fail
  go_loopw [1] (fun v wr => ∃ (ys : List S24) (a : Nat), v = .int .i64 (a : Int) ∧ a < xs.length ∧ Aside0 (PS W wr G B cap xs ys) ∧ Aside0 (upw xs j = upw ys a)) (fun v _ => (intOf v).toNat)
  case atStart => exact ⟨xs, j, rfl, hj, hs, ⟨rfl⟩⟩
  case round =>
    clear hs
    obtain ⟨ys, a, rfl, ha, hs, hd⟩ := hrel
    have e1 : wrap64 ((a : Int) - 1) = (a : Int) - 1 := wrap_in _ (by omega)
    by_cases h0 : a = 0
    · subst h0
      go_wp2_with fail
      refine bodyPost_end (results_none rfl _ _ _) rfl ?_
      rw [hd.out, upw_zero]
      exact ⟨rfl, hs.out.p, hs.out.k⟩
    · have e2 : Aside0 (((a : Int) - 1) / 2 = (((a - 1) / 2 : Nat) : Int)) := ⟨by omega⟩
      have e3 : (((a : Int) - 1) / 2 == (a : Int)) = false := by
        rw [beq_eq_false_iff_ne]
        omega
      cases h4 : ah (at_ ys a) (at_ ys ((a - 1) / 2))
      · go_wp2_with fail
        refine (hand_LessJ hs.out.p (a : Int) (((a : Int) - 1) / 2) a ((a - 1) / 2) rfl e2.out _ h4 (by rw [hs.out.l]; omega) (by rw [hs.out.l]; omega)).mono ?_
        rintro e w2 ⟨rfl, hb2⟩
        have hs2 := Aside0.mk (hs.out.below hb2)
        clear hs hb2
        go_wp2_with fail
        refine bodyPost_end (results_none rfl _ _ _) rfl ?_
        rw [hd.out, upw_stop h4]
        exact ⟨rfl, hs2.out.p, hs2.out.k⟩
      · go_wp2_with fail
        refine (hand_LessJ hs.out.p (a : Int) (((a : Int) - 1) / 2) a ((a - 1) / 2) rfl e2.out _ h4 (by rw [hs.out.l]; omega) (by rw [hs.out.l]; omega)).mono ?_
        rintro e w2 ⟨rfl, hb2⟩
        have hs2 := Aside0.mk (hs.out.below hb2)
        clear hs hb2
        go_wp2_with fail
        refine (hand_SwapJ hs2.out.p (((a : Int) - 1) / 2) (a : Int) ((a - 1) / 2) a e2.out rfl (by rw [hs2.out.l]; omega) (by rw [hs2.out.l]; omega)).mono ?_
        rintro e w3 ⟨rfl, hp3, hk3⟩
        have hs3 := Aside0.mk (hs2.out.swap hp3 hk3)
        clear hs2 hp3 hk3
        go_wp2_with fail
        go_roundw
        case rel => exact ⟨swp ys ((a - 1) / 2) a, (a - 1) / 2, by rw [e2.out], by omega, hs3, ⟨by rw [hd.out, upw_go h0 h4]⟩⟩
        case measure => simp [intOf] <;> omega


set_option maxHeartbeats 4000000 in
set_option maxRecDepth 100000 in
theorem hand_Init {W : World} {G B cap : Nat} {xs : List S24} (hp : Pile W G B cap xs) :
    Calls Try.prog 36 #[.iface 43 (.pointer (some ⟨G, 0, none⟩))] W fun e w' => e = .returned (.tuple #[]) ∧ Pile w' G B cap (hpf xs.length (xs.length / 2) xs) ∧ KP W w' G B := by
  have hm1 := meth_Len G
  have hs := Aside0.mk (PS.mk hp (KP.refl W G B) (rfl : xs.length = xs.length))
  have hlen := hp.len
  clear hp
  have e2 : wrap64 ((xs.length : Int) / 2 - 1) = (xs.length : Int) / 2 - 1 := wrap_in _ (by omega)
  go_enter Try.func36, Try.ntmps36
  go_wp2_with fail
  refine (hand_Len hs.out.p).mono ?_
  rintro e w1 ⟨rfl, rfl⟩
  go_wp2_with fail
  go_loopw [3] (fun v wr => ∃ (ys : List S24) (k : Nat), v = .int .i64 ((k : Int) - 1) ∧ k ≤ xs.length ∧ Aside0 (PS W wr G B cap xs ys) ∧ Aside0 (hpf xs.length (xs.length / 2) xs = hpf xs.length k ys)) (fun v _ => (intOf v + 1).toNat)
  case atStart => exact ⟨xs, xs.length / 2, by simp, by omega, hs, ⟨rfl⟩⟩
  case round =>
    clear hs
    obtain ⟨ys, k, rfl, hk, hs, hd⟩ := hrel
    cases k with
    | zero =>
      go_wp2_with fail
      refine bodyPost_end (results_none rfl _ _ _) rfl ?_
      rw [hd.out]
      exact ⟨rfl, hs.out.p, hs.out.k⟩
    | succ k =>
      have e1 : wrap64 ((k : Int) - 1) = (k : Int) - 1 := wrap_in _ (by omega)
      have d1 : decide ((k : Int) ≥ 0) = true := decide_eq_true (by omega)
      have d1' : decide (0 ≤ (k : Int)) = true := decide_eq_true (by omega)
      go_wp2_with fail
      have hl := hs.out.l
      have hdn := hand_down hs.out.p k xs.length (by omega) (by omega)
      refine hdn.mono ?_
      rintro e w3 ⟨rfl, hp3, hk3⟩
      have hl3 : (dn xs.length ys k).1.length = xs.length := by rw [dn_len, hl]
      have hs3 := Aside0.mk (PS.mk (xs := xs) hp3 (hs.out.k.trans hk3) hl3)
      clear hs hp3 hk3 hdn
      go_wp2_with fail
      go_roundw
      case rel => exact ⟨_, k, rfl, by omega, hs3, ⟨hd.out⟩⟩
      case measure => simp [intOf] <;> omega

set_option maxHeartbeats 4000000 in
set_option maxRecDepth 100000 in
theorem hand_HPop {W : World} {G B cap : Nat} {xs rest : List S24} {x : S24} (hp : Pile W G B cap xs) (h0 : 0 < xs.length) (hz : (dn (xs.length - 1) (swp xs 0 (xs.length - 1)) 0).1 = rest ++ [x]) :
    Calls Try.prog 35 #[.iface 43 (.pointer (some ⟨G, 0, none⟩))] W fun e w' => e = .returned (.iface 24 (.agg #[.int .i64 x.f0, .int .i64 x.f1])) ∧ Pile w' G B cap rest ∧ KP W w' G B := by
  have hm1 := meth_Len G
  have hm2 := meth_Swap G
  have hm3 := meth_Pop G
  have hs := Aside0.mk (PS.mk hp (KP.refl W G B) (rfl : xs.length = xs.length))
  have hlen := hp.len
  clear hp
  have e2 : wrap64 ((xs.length : Int) - 1) = (xs.length : Int) - 1 := wrap_in _ (by omega)
  replace hz := Aside0.mk hz
  go_enter Try.func35, Try.ntmps35
  go_wp2_with fail
  refine (hand_Len hs.out.p).mono ?_
  rintro e w1 ⟨rfl, rfl⟩
  go_wp2_with fail
  refine (hand_SwapJ hs.out.p 0 ((xs.length : Int) - 1) 0 (xs.length - 1) rfl (by omega) (by omega) (by omega)).mono ?_
  rintro e w2 ⟨rfl, hp2, hk2⟩
  have hs2 := Aside0.mk (hs.out.swap hp2 hk2)
  clear hs hp2 hk2
  go_wp2_with fail
  have hn : ((xs.length : Int) - 1) = ((xs.length - 1 : Nat) : Int) := by omega
  have hdn := hand_down hs2.out.p 0 (xs.length - 1) (by rw [swp_length]; omega) (by omega)
  rw [← hn] at hdn
  refine hdn.mono ?_
  rintro e w3 ⟨rfl, hp3, hk3⟩
  rw [hz.out] at hp3
  have hs3 := Aside0.mk (And.intro hp3 (hs2.out.k.trans hk3))
  clear hs2 hp3 hk3 hdn
  go_wp2_with fail
  refine (hand_PilePop hs3.out.1).mono ?_
  rintro e w4 ⟨rfl, hp4, hk4⟩
  have hs4 := Aside0.mk (And.intro hp4 (hs3.out.2.trans hk4))
  clear hs3 hp4 hk4
  go_wp2_with fail
  go_ret
  exact ⟨rfl, hs4.out.1, hs4.out.2⟩
set_option maxHeartbeats 4000000 in
set_option maxRecDepth 100000 in
theorem hand_Remove {W : World} {G B cap : Nat} {xs rest : List S24} {x : S24} (hp : Pile W G B cap xs) (i : Nat) (hi : i < xs.length) (hm : ¬ (dn (xs.length - 1) (swp xs i (xs.length - 1)) i).2 > i → upw (dn (xs.length - 1) (swp xs i (xs.length - 1)) i).1 i = (dn (xs.length - 1) (swp xs i (xs.length - 1)) i).1)
    (hz : (dn (xs.length - 1) (swp xs i (xs.length - 1)) i).1 = rest ++ [x]) :
    Calls Try.prog 30 #[.iface 43 (.pointer (some ⟨G, 0, none⟩)), .int .i64 (i : Int)] W fun e w' => e = .returned (.iface 24 (.agg #[.int .i64 x.f0, .int .i64 x.f1])) ∧ Pile w' G B cap rest ∧ KP W w' G B := by
  have hm1 := meth_Len G
  have hm2 := meth_Swap G
  have hm3 := meth_Pop G
  have hs := Aside0.mk (PS.mk hp (KP.refl W G B) (rfl : xs.length = xs.length))
  have hlen := hp.len
  clear hp
  have e2 : wrap64 ((xs.length : Int) - 1) = (xs.length : Int) - 1 := wrap_in _ (by omega)
  replace hm := Aside0.mk hm
  by_cases hin : xs.length - 1 = i
  · have d1 : ((xs.length : Int) - 1 != (i : Int)) = false := by
      rw [bne_eq_false_iff_eq]
      omega
    have hz2 : xs = rest ++ [x] := by
      rw [hin, swp_self hi, dn_end (by omega)] at hz
      exact hz
    replace hz2 := Aside0.mk hz2
    replace hz := Aside0.mk hz
    go_enter Try.func30, Try.ntmps30
    go_wp2_with fail
    refine (hand_Len hs.out.p).mono ?_
    rintro e w1 ⟨rfl, rfl⟩
    go_wp2_with fail
    have hs3 := Aside0.mk (And.intro (hz2.out ▸ hs.out.p : Pile W G B cap (rest ++ [x])) hs.out.k)
    refine (hand_PilePop hs3.out.1).mono ?_
    rintro e w4 ⟨rfl, hp4, hk4⟩
    have hs4 := Aside0.mk (And.intro hp4 (hs3.out.2.trans hk4))
    clear hs3 hp4 hk4
    go_wp2_with fail
    go_ret
    exact ⟨rfl, hs4.out.1, hs4.out.2⟩
  · have d1 : ((xs.length : Int) - 1 != (i : Int)) = true := by
      rw [bne_iff_ne]
      omega
    replace hz := Aside0.mk hz
    go_enter Try.func30, Try.ntmps30
    go_wp2_with fail
    refine (hand_Len hs.out.p).mono ?_
    rintro e w1 ⟨rfl, rfl⟩
    go_wp2_with fail
    refine (hand_SwapJ hs.out.p (i : Int) ((xs.length : Int) - 1) i (xs.length - 1) rfl (by omega) (by omega) (by omega)).mono ?_
    rintro e w2 ⟨rfl, hp2, hk2⟩
    have hs2 := Aside0.mk (hs.out.swap hp2 hk2)
    clear hs hp2 hk2
    go_wp2_with fail
    have hn : ((xs.length : Int) - 1) = ((xs.length - 1 : Nat) : Int) := by omega
    have hdn := hand_down hs2.out.p i (xs.length - 1) (by rw [swp_length]; omega) (by omega)
    rw [← hn] at hdn
    refine hdn.mono ?_
    by_cases hmv : (dn (xs.length - 1) (swp xs i (xs.length - 1)) i).2 > i
    · rw [decide_eq_true hmv]
      rintro e w3 ⟨rfl, hp3, hk3⟩
      rw [hz.out] at hp3
      have hs3 := Aside0.mk (And.intro hp3 (hs2.out.k.trans hk3))
      clear hs2 hp3 hk3 hdn
      go_wp2_with fail
      refine (hand_PilePop hs3.out.1).mono ?_
      rintro e w4 ⟨rfl, hp4, hk4⟩
      have hs4 := Aside0.mk (And.intro hp4 (hs3.out.2.trans hk4))
      clear hs3 hp4 hk4
      go_wp2_with fail
      go_ret
      exact ⟨rfl, hs4.out.1, hs4.out.2⟩
    · rw [decide_eq_false hmv]
      rintro e w3 ⟨rfl, hp3, hk3⟩
      have hs3 := Aside0.mk (And.intro hp3 (hs2.out.k.trans hk3))
      clear hs2 hp3 hk3 hdn
      go_wp2_with fail
      have hup := hand_up hs3.out.1 i (by rw [dn_len, swp_length]; exact hi)
      rw [hm.out hmv, hz.out] at hup
      refine hup.mono ?_
      rintro e w4 ⟨rfl, hp4, hk4⟩
      have hs4 := Aside0.mk (And.intro hp4 (hs3.out.2.trans hk4))
      clear hs3 hp4 hk4 hup
      go_wp2_with fail
      refine (hand_PilePop hs4.out.1).mono ?_
      rintro e w5 ⟨rfl, hp5, hk5⟩
      have hs5 := Aside0.mk (And.intro hp5 (hs4.out.2.trans hk5))
      clear hs4 hp5 hk5
      go_wp2_with fail
      go_ret
      exact ⟨rfl, hs5.out.1, hs5.out.2⟩

end Go.Proofs.Ytpkalbokpblhaaa.PA
