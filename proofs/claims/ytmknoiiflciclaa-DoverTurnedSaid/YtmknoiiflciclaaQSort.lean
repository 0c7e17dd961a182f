/- container/heap behind its interface, and what queue.Sort does: walked. -/
import Derived.Test.YtmknoiiflciclaaDoverB
import Derived.Test.YtmknoiiflciclaaDoverC
import Derived.Test.YtmknoiiflciclaaDoverD
import Derived.Test.YtmknoiiflciclaaDoverSpec
import Derived.Test.YtmknoiiflciclaaPAx0
import Derived.Test.YtmknoiiflciclaaPAx18
import Derived.Test.YtmknoiiflciclaaPAx0
import Derived.Laws.CopyOwn
import Derived.Laws.EntriesVeiled
import Derived.Deep.RegionWith
import Derived.BigRegion
namespace Go.Proofs.Ytmknoiiflciclaa.PA.Q
open Go.RowKit Go.Proofs.YtmknoiiflciclaaW.PrintWords Go.Proofs.YtmknoiiflciclaaW.PrintLast Go.Proofs.YtmknoiiflciclaaW.PrintMore
attribute [local go_sem] max2_int min2_int max_two min_two max_three min_three max_four min_four
set_option linter.unusedVariables false
set_option linter.unusedSimpArgs false
/-! ### a heap, in plain Lean -/
/-- The model's order. -/
def ah (a b : S50) : Bool := decide (a.f0 < b.f0 ∨ (a.f0 = b.f0 ∧ a.f1 < b.f1))
theorem ahead_ah (a b : S50) : queue_ahead.f a.f0 a.f1 b.f0 b.f1 = some (ah a b) := by
  unfold queue_ahead.f ah
  by_cases h1 : a.f0 < b.f0
  · simp [h1]
  · by_cases h2 : a.f0 = b.f0
    · simp [h2]
    · simp [h1, h2]
/-- a may stand ahead of b. -/
def Le (a b : S50) : Prop := ah b a = false
theorem le_of_ah {a b : S50} (h : ah a b = true) : Le a b := by
  unfold Le ah at *
  simp at *
  omega
theorem le_of_not {a b : S50} (h : ah a b = false) : Le b a := h
theorem le_refl (a : S50) : Le a a := by
  unfold Le ah
  simp
theorem le_trans {a b c : S50} (h : Le a b) (k : Le b c) : Le a c := by
  unfold Le ah at *
  simp at *
  omega
theorem le_total (a b : S50) : Le a b ∨ Le b a := by
  cases h : ah a b with
  | true => exact .inl (le_of_ah h)
  | false => exact .inr h
theorem le_antisymm {a b : S50} (h : Le a b) (k : Le b a) : a = b := by
  cases a
  cases b
  unfold Le ah at *
  simp at *
  omega
/-- Item i. -/
def at_ (xs : List S50) (i : Nat) : S50 := xs.getD i z50
theorem at_get {xs : List S50} {i : Nat} (h : i < xs.length) : at_ xs i = xs[i] := by
  unfold at_
  simp [h]
def swp (xs : List S50) (i j : Nat) : List S50 := (xs.set i (at_ xs j)).set j (at_ xs i)
theorem swp_length (xs : List S50) (i j : Nat) : (swp xs i j).length = xs.length := by simp [swp]
theorem swp_at {xs : List S50} {i j : Nat} (hi : i < xs.length) (hj : j < xs.length) (k : Nat) : at_ (swp xs i j) k = if k = j then at_ xs i else if k = i then at_ xs j else at_ xs k := by
  by_cases hk : k < xs.length
  · rw [at_get (by rw [swp_length]; exact hk)]
    simp only [swp, List.getElem_set]
    by_cases h1 : k = j
    · subst h1
      simp
    · rw [if_neg (Ne.symm h1), if_neg h1]
      by_cases h2 : k = i
      · subst h2
        simp
      · rw [if_neg (Ne.symm h2), if_neg h2, at_get hk]
  · rw [if_neg (by omega), if_neg (by omega)]
    unfold at_
    rw [List.getD_eq_getElem?_getD, List.getD_eq_getElem?_getD, List.getElem?_eq_none (by rw [swp_length]; omega), List.getElem?_eq_none (by omega)]
theorem swp_perm {xs : List S50} {i j : Nat} (hi : i < xs.length) (hj : j < xs.length) : (swp xs i j).Perm xs := by
  unfold swp
  rw [at_get hi, at_get hj]
  exact List.set_set_perm hi hj
theorem swp_self {xs : List S50} {i : Nat} (hi : i < xs.length) : swp xs i i = xs := by
  unfold swp
  rw [at_get hi]
  simp
def Ch (p c : Nat) : Prop := c = 2 * p + 1 ∨ c = 2 * p + 2
/-- The lesser child. -/
def ch (n : Nat) (xs : List S50) (i : Nat) : Nat := if 2 * i + 2 < n then (if ah (at_ xs (2 * i + 2)) (at_ xs (2 * i + 1)) = true then 2 * i + 2 else 2 * i + 1) else 2 * i + 1
theorem ch_or (n : Nat) (xs : List S50) (i : Nat) : Ch i (ch n xs i) := by
  unfold ch Ch
  split
  · split <;> omega
  · omega
theorem ch_lt {n : Nat} (xs : List S50) {i : Nat} (h : 2 * i + 1 < n) : ch n xs i < n := by
  unfold ch
  split
  · split <;> omega
  · omega
theorem ch_min {n : Nat} (xs : List S50) {i c : Nat} (hc : c < n) (h : Ch i c) : Le (at_ xs (ch n xs i)) (at_ xs c) := by
  unfold ch
  rcases h with rfl | rfl
  · by_cases h2 : 2 * i + 2 < n
    · rw [if_pos h2]
      by_cases h3 : ah (at_ xs (2 * i + 2)) (at_ xs (2 * i + 1)) = true
      · rw [if_pos h3]
        exact le_of_ah h3
      · rw [if_neg h3]
        exact le_refl _
    · rw [if_neg h2]
      exact le_refl _
  · rw [if_pos hc]
    by_cases h3 : ah (at_ xs (2 * i + 2)) (at_ xs (2 * i + 1)) = true
    · rw [if_pos h3]
      exact le_refl _
    · rw [if_neg h3]
      exact le_of_not (by simpa using h3)
/-- Down. -/
def dn (n : Nat) (xs : List S50) (i : Nat) : List S50 × Nat :=
  if _h : 2 * i + 1 < n then (if ah (at_ xs (ch n xs i)) (at_ xs i) = true then dn n (swp xs i (ch n xs i)) (ch n xs i) else (xs, i)) else (xs, i)
termination_by n - i
decreasing_by
  have := ch_or n xs i
  have := ch_lt xs _h
  unfold Ch at *
  omega
theorem dn_end {n : Nat} {xs : List S50} {i : Nat} (h : ¬ 2 * i + 1 < n) : dn n xs i = (xs, i) := by
  rw [dn, dif_neg h]
theorem dn_stop {n : Nat} {xs : List S50} {i : Nat} (h : 2 * i + 1 < n) (h2 : ah (at_ xs (ch n xs i)) (at_ xs i) = false) : dn n xs i = (xs, i) := by
  rw [dn, dif_pos h, if_neg (by simp [h2])]
theorem dn_go {n : Nat} {xs : List S50} {i : Nat} (h : 2 * i + 1 < n) (h2 : ah (at_ xs (ch n xs i)) (at_ xs i) = true) : dn n xs i = dn n (swp xs i (ch n xs i)) (ch n xs i) := by
  rw [dn, dif_pos h, if_pos h2]
/-- In order from s on; and but for i. -/
def Hp (s n : Nat) (xs : List S50) : Prop := ∀ p c, s ≤ p → c < n → Ch p c → Le (at_ xs p) (at_ xs c)
def Hx (s n : Nat) (xs : List S50) (i : Nat) : Prop := (∀ p c, s ≤ p → p ≠ i → c < n → Ch p c → Le (at_ xs p) (at_ xs c)) ∧ ∀ p c, s ≤ p → Ch p i → c < n → Ch i c → Le (at_ xs p) (at_ xs c)
theorem dn_all {s n : Nat} : ∀ (m : Nat) (xs : List S50) (i : Nat), n - i ≤ m → n ≤ xs.length → s ≤ i → Hx s n xs i →
    Hp s n (dn n xs i).1 ∧ (dn n xs i).1.Perm xs ∧ (∀ k, n ≤ k → at_ (dn n xs i).1 k = at_ xs k) ∧ i ≤ (dn n xs i).2 ∧ ((dn n xs i).2 = i → (dn n xs i).1 = xs)
  | 0, xs, i, hm, hl, hs, hx => by
    rw [dn_end (by omega)]
    refine ⟨fun p c h1 h2 h3 => ?_, List.Perm.refl _, fun _ _ => rfl, Nat.le_refl _, fun _ => rfl⟩
    by_cases hp : p = i
    · unfold Ch at h3
      omega
    · exact hx.1 p c h1 hp h2 h3
  | m + 1, xs, i, hm, hl, hs, hx => by
    by_cases h : 2 * i + 1 < n
    · cases h2 : ah (at_ xs (ch n xs i)) (at_ xs i) with
      | false =>
        rw [dn_stop h h2]
        refine ⟨fun p c h1 hc h3 => ?_, List.Perm.refl _, fun _ _ => rfl, Nat.le_refl _, fun _ => rfl⟩
        by_cases hp : p = i
        · subst hp
          exact le_trans (le_of_not h2) (ch_min xs hc h3)
        · exact hx.1 p c h1 hp hc h3
      | true =>
        rw [dn_go h h2]
        have hj := ch_or n xs i
        have hjn := ch_lt xs h
        have hmin := fun c hc hch => ch_min (n := n) xs (i := i) (c := c) hc hch
        generalize ch n xs i = j at *
        have hji : i < j := by unfold Ch at hj; omega
        have hsw := fun k => swp_at (xs := xs) (i := i) (j := j) (by omega) (by omega) k
        obtain ⟨h1, h3, h4, h5, h6⟩ := dn_all (s := s) (n := n) m (swp xs i j) j (by omega) (by rw [swp_length]; exact hl) (by omega) (by
          refine ⟨fun p c hp1 hp2 hc hpc => ?_, fun p c hp1 hp2 hc hpc => ?_⟩
          · rw [hsw, hsw, if_neg hp2]
            by_cases hpi : p = i
            · subst hpi
              rw [if_pos rfl]
              by_cases hcj : c = j
              · rw [if_pos hcj]
                exact le_of_ah h2
              · rw [if_neg hcj, if_neg (by unfold Ch at hpc; omega)]
                exact hmin c hc hpc
            · rw [if_neg hpi]
              by_cases hcj : c = j
              · unfold Ch at hpc hj
                omega
              · rw [if_neg hcj]
                by_cases hci : c = i
                · rw [if_pos hci]
                  subst hci
                  exact hx.2 p j hp1 hpc hjn hj
                · rw [if_neg hci]
                  exact hx.1 p c hp1 hpi hc hpc
          · have hpi : p = i := by unfold Ch at hp2 hj; omega
            subst hpi
            rw [hsw, hsw, if_neg (by omega), if_pos rfl, if_neg (by unfold Ch at hpc; omega), if_neg (by unfold Ch at hpc hj; omega)]
            exact hx.1 j c (by omega) (by omega) hc hpc)
        refine ⟨h1, h3.trans (swp_perm (by omega) (by omega)), fun k hk => ?_, by omega, fun he => by omega⟩
        rw [h4 k hk, hsw, if_neg (by omega), if_neg (by omega)]
    · rw [dn_end h]
      refine ⟨fun p c h1 h2 h3 => ?_, List.Perm.refl _, fun _ _ => rfl, Nat.le_refl _, fun _ => rfl⟩
      by_cases hp : p = i
      · unfold Ch at h3
        omega
      · exact hx.1 p c h1 hp h2 h3
theorem dn_still {s n : Nat} {xs : List S50} {i : Nat} (h : Hp s n xs) (hs : s ≤ i) : dn n xs i = (xs, i) := by
  by_cases h1 : 2 * i + 1 < n
  · exact dn_stop h1 (h i _ hs (ch_lt xs h1) (ch_or n xs i))
  · exact dn_end h1
/-- Up. -/
def upw (xs : List S50) (j : Nat) : List S50 :=
  if _h : j = 0 then xs else (if ah (at_ xs j) (at_ xs ((j - 1) / 2)) = true then upw (swp xs ((j - 1) / 2) j) ((j - 1) / 2) else xs)
termination_by j
decreasing_by omega
theorem upw_zero (xs : List S50) : upw xs 0 = xs := by
  rw [upw, dif_pos rfl]
theorem upw_stop {xs : List S50} {j : Nat} (h2 : ah (at_ xs j) (at_ xs ((j - 1) / 2)) = false) : upw xs j = xs := by
  rw [upw]
  split
  · rfl
  · rw [if_neg (by simp [h2])]
theorem upw_go {xs : List S50} {j : Nat} (h : j ≠ 0) (h2 : ah (at_ xs j) (at_ xs ((j - 1) / 2)) = true) : upw xs j = upw (swp xs ((j - 1) / 2) j) ((j - 1) / 2) := by
  rw [upw, dif_neg h, if_pos h2]
def Hu (n : Nat) (xs : List S50) (j : Nat) : Prop := (∀ p c, c ≠ j → c < n → Ch p c → Le (at_ xs p) (at_ xs c)) ∧ ∀ p c, Ch p j → c < n → Ch j c → Le (at_ xs p) (at_ xs c)
theorem upw_all {n : Nat} : ∀ (m : Nat) (xs : List S50) (j : Nat), j ≤ m → n ≤ xs.length → j < n → Hu n xs j →
    Hp 0 n (upw xs j) ∧ (upw xs j).Perm xs
  | 0, xs, j, hm, hl, hn, hx => by
    have : j = 0 := by omega
    subst this
    rw [upw_zero]
    exact ⟨fun p c _ hc hpc => hx.1 p c (by unfold Ch at hpc; omega) hc hpc, List.Perm.refl _⟩
  | m + 1, xs, j, hm, hl, hn, hx => by
    by_cases h0 : j = 0
    · subst h0
      rw [upw_zero]
      exact ⟨fun p c _ hc hpc => hx.1 p c (by unfold Ch at hpc; omega) hc hpc, List.Perm.refl _⟩
    · cases h2 : ah (at_ xs j) (at_ xs ((j - 1) / 2)) with
      | false =>
        rw [upw_stop h2]
        refine ⟨fun p c _ hc hpc => ?_, List.Perm.refl _⟩
        by_cases hcj : c = j
        · subst hcj
          have : p = (c - 1) / 2 := by unfold Ch at hpc; omega
          subst this
          exact h2
        · exact hx.1 p c hcj hc hpc
      | true =>
        rw [upw_go h0 h2]
        have hij : Ch ((j - 1) / 2) j := by unfold Ch; omega
        have hlt : (j - 1) / 2 < j := by omega
        generalize (j - 1) / 2 = i at *
        have hsw := fun k => swp_at (xs := xs) (i := i) (j := j) (by omega) (by omega) k
        obtain ⟨h1, h3⟩ := upw_all (n := n) m (swp xs i j) i (by omega) (by rw [swp_length]; exact hl) (by omega) (by
          refine ⟨fun p c hci hc hpc => ?_, fun p c hpi hc hic => ?_⟩
          · rw [hsw, hsw]
            by_cases hcj : c = j
            · subst hcj
              have : p = i := by unfold Ch at hpc hij; omega
              subst this
              rw [if_neg (by omega), if_pos rfl, if_pos rfl]
              exact le_of_ah h2
            · rw [if_neg hcj, if_neg hci]
              by_cases hpj : p = j
              · subst hpj
                rw [if_pos rfl]
                exact hx.2 i c hij hc hpc
              · rw [if_neg hpj]
                by_cases hpi : p = i
                · subst hpi
                  rw [if_pos rfl]
                  exact le_trans (le_of_ah h2) (hx.1 p c hcj hc hpc)
                · rw [if_neg hpi]
                  exact hx.1 p c hcj hc hpc
          · rw [hsw, hsw, if_neg (by unfold Ch at hpi; omega), if_neg (by unfold Ch at hpi; omega)]
            have hpi' := hx.1 p i (by omega) (by omega) hpi
            by_cases hcj : c = j
            · rw [if_pos hcj]
              exact hpi'
            · rw [if_neg hcj, if_neg (by unfold Ch at hic; omega)]
              exact le_trans hpi' (hx.1 i c hcj hc hic))
        exact ⟨h1, h3.trans (swp_perm (by omega) (by omega))⟩
/-- All turned into a heap. -/
def hpf (n : Nat) : Nat → List S50 → List S50
  | 0, xs => xs
  | k + 1, xs => hpf n k (dn n xs k).1
theorem hpf_all {n : Nat} : ∀ (k : Nat) (xs : List S50), n ≤ xs.length → Hp k n xs → Hp 0 n (hpf n k xs) ∧ (hpf n k xs).Perm xs
  | 0, xs, _, h => ⟨h, List.Perm.refl _⟩
  | k + 1, xs, hl, h => by
    obtain ⟨h1, h2, _⟩ := dn_all (s := k) (n := n) _ xs k (Nat.le_refl _) hl (Nat.le_refl _) ⟨fun p c hp hpk hc hpc => h p c (by omega) hc hpc, fun p c hp hpk => by unfold Ch at hpk; omega⟩
    obtain ⟨h3, h4⟩ := hpf_all k (dn n xs k).1 (by rw [h2.length_eq]; exact hl) h1
    exact ⟨h3, h4.trans h2⟩
theorem hpf_still {n : Nat} : ∀ (k : Nat) (xs : List S50), Hp 0 n xs → hpf n k xs = xs
  | 0, xs, _ => rfl
  | k + 1, xs, h => by
    rw [hpf, dn_still h (Nat.zero_le _)]
    exact hpf_still k xs h
theorem hp_half (n : Nat) (xs : List S50) : Hp (n / 2) n xs := fun p c hp hc hpc => by
  unfold Ch at hpc
  omega
theorem hp_min {n : Nat} {xs : List S50} (h : Hp 0 n xs) : ∀ (m c : Nat), c ≤ m → c < n → Le (at_ xs 0) (at_ xs c)
  | 0, c, hm, hc => by
    have : c = 0 := by omega
    subst this
    exact le_refl _
  | m + 1, c, hm, hc => by
    by_cases h0 : c = 0
    · subst h0
      exact le_refl _
    · exact le_trans (hp_min h m ((c - 1) / 2) (by omega) (by omega)) (h _ c (Nat.zero_le _) hc (by unfold Ch; omega))

theorem dn_len' {n : Nat} : ∀ (m : Nat) (xs : List S50) (i : Nat), n - i ≤ m → (dn n xs i).1.length = xs.length
  | 0, xs, i, hm => by rw [dn_end (by omega)]
  | m + 1, xs, i, hm => by
    by_cases h : 2 * i + 1 < n
    · cases h2 : ah (at_ xs (ch n xs i)) (at_ xs i) with
      | false => rw [dn_stop h h2]
      | true =>
        rw [dn_go h h2]
        have hj := ch_or n xs i
        rw [dn_len' m _ _ (by unfold Ch at hj; omega), swp_length]
    · rw [dn_end h]
theorem dn_len (n : Nat) (xs : List S50) (i : Nat) : (dn n xs i).1.length = xs.length := dn_len' _ xs i (Nat.le_refl _)
theorem upw_len' : ∀ (m : Nat) (xs : List S50) (j : Nat), j ≤ m → (upw xs j).length = xs.length
  | 0, xs, j, hm => by
    have : j = 0 := by omega
    subst this
    rw [upw_zero]
  | m + 1, xs, j, hm => by
    by_cases h0 : j = 0
    · subst h0
      rw [upw_zero]
    · cases h2 : ah (at_ xs j) (at_ xs ((j - 1) / 2)) with
      | false => rw [upw_stop h2]
      | true => rw [upw_go h0 h2, upw_len' m _ _ (by omega), swp_length]
theorem upw_len (xs : List S50) (j : Nat) : (upw xs j).length = xs.length := upw_len' j xs j (Nat.le_refl _)

theorem mem_at {xs : List S50} {b : S50} (h : b ∈ xs) : ∃ c, c < xs.length ∧ b = at_ xs c := by
  obtain ⟨c, hc, rfl⟩ := List.mem_iff_getElem.1 h
  exact ⟨c, hc, (at_get hc).symm⟩
theorem last_split {zs : List S50} {n : Nat} (h : zs.length = n + 1) : ∃ rest, zs = rest ++ [at_ zs n] ∧ rest.length = n ∧ ∀ k, k < n → at_ rest k = at_ zs k := by
  have hne : zs ≠ [] := by
    rintro rfl
    simp at h
  refine ⟨zs.dropLast, ?_, by simp [h], fun k hk => ?_⟩
  · have h2 := List.dropLast_concat_getLast hne
    rw [List.getLast_eq_getElem] at h2
    rw [at_get (by omega)]
    have : zs.length - 1 = n := by omega
    simp only [this] at h2
    exact h2.symm
  · rw [at_get (by simp; omega), at_get (by omega), List.getElem_dropLast]
theorem pop_pure {xs : List S50} (h0 : 0 < xs.length) (h : Hp 0 xs.length xs) :
    ∃ rest x, (dn (xs.length - 1) (swp xs 0 (xs.length - 1)) 0).1 = rest ++ [x] ∧ (x :: rest).Perm xs ∧ Hp 0 rest.length rest ∧ ∀ b ∈ rest, Le x b := by
  obtain ⟨n, hn⟩ : ∃ n, xs.length = n + 1 := ⟨xs.length - 1, by omega⟩
  rw [hn, Nat.add_sub_cancel]
  have hsw := fun k => swp_at (xs := xs) (i := 0) (j := n) (by omega) (by omega) k
  obtain ⟨h1, h2, h3, _, _⟩ := dn_all (s := 0) (n := n) n (swp xs 0 n) 0 (by omega) (by rw [swp_length]; omega) (Nat.le_refl _) (by
    refine ⟨fun p c _ hp hc hpc => ?_, fun p c _ hp => by unfold Ch at hp; omega⟩
    rw [hsw, hsw, if_neg (by unfold Ch at hpc; omega), if_neg hp, if_neg (by omega), if_neg (by unfold Ch at hpc; omega)]
    exact h p c (Nat.zero_le _) (by omega) hpc)
  have hp := h2.trans (swp_perm (xs := xs) (i := 0) (j := n) (by omega) (by omega))
  have hx := h3 n (Nat.le_refl _)
  rw [hsw, if_pos rfl] at hx
  generalize (dn n (swp xs 0 n) 0).1 = zs at *
  obtain ⟨rest, e1, e2, e3⟩ := last_split (zs := zs) (n := n) (by rw [hp.length_eq]; exact hn)
  rw [hx] at e1
  have hperm : (at_ xs 0 :: rest).Perm xs := by
    have h5 : (rest ++ [at_ xs 0]).Perm xs := by
      rw [← e1]
      exact hp
    exact (List.perm_append_singleton _ _).symm.trans h5
  refine ⟨rest, at_ xs 0, e1, hperm, ?_, fun b hb => ?_⟩
  · rw [e2]
    intro p c hp0 hc hpc
    rw [e3 p (by unfold Ch at hpc; omega), e3 c hc]
    exact h1 p c hp0 hc hpc
  · obtain ⟨c, hc, rfl⟩ := mem_at (hperm.mem_iff.1 (List.mem_cons_of_mem _ hb))
    exact hp_min h c c (Nat.le_refl _) hc
def Sorted (xs : List S50) : Prop := xs.Pairwise Le
theorem sorted_unique {a b : List S50} (ha : Sorted a) (hb : Sorted b) (h : a.Perm b) : a = b :=
  List.Perm.eq_of_pairwise (le := Le) (fun x y _ _ h1 h2 => le_antisymm h1 h2) ha hb h
theorem hp_sorted {xs : List S50} (h : Sorted xs) : Hp 0 xs.length xs := fun p c _ hc hpc => by
  have h1 : p < c := by unfold Ch at hpc; omega
  rw [at_get hc, at_get (by omega)]
  exact (List.pairwise_iff_getElem.1 h) p c (by omega) hc h1
/-- One is put behind and taken up. -/
theorem push_pure {xs : List S50} (x : S50) (h : Hp 0 xs.length xs) : Hp 0 (upw (xs ++ [x]) xs.length).length (upw (xs ++ [x]) xs.length) ∧ (upw (xs ++ [x]) xs.length).Perm (x :: xs) := by
  have hl : (xs ++ [x]).length = xs.length + 1 := by simp
  obtain ⟨h1, h2⟩ := upw_all (n := xs.length + 1) xs.length (xs ++ [x]) xs.length (Nat.le_refl _) (by omega) (by omega) (by
    refine ⟨fun p c hc1 hc2 hpc => ?_, fun p c _ hc hpc => by unfold Ch at hpc; omega⟩
    have hc3 : c < xs.length := by omega
    have hp3 : p < xs.length := by unfold Ch at hpc; omega
    have := h p c (Nat.zero_le _) hc3 hpc
    rw [at_get hc3, at_get hp3] at this
    rw [at_get (by omega), at_get (by omega), List.getElem_append_left hp3, List.getElem_append_left hc3]
    exact this)
  rw [upw_len, hl]
  exact ⟨h1, h2.trans (List.perm_append_singleton _ _)⟩
/-- One is taken out of a sorted row. -/
theorem drop_pure {xs : List S50} {i : Nat} (hi : i < xs.length) (h : Sorted xs) :
    (¬ (dn (xs.length - 1) (swp xs i (xs.length - 1)) i).2 > i → upw (dn (xs.length - 1) (swp xs i (xs.length - 1)) i).1 i = (dn (xs.length - 1) (swp xs i (xs.length - 1)) i).1) ∧
    ∃ rest, (dn (xs.length - 1) (swp xs i (xs.length - 1)) i).1 = rest ++ [xs[i]] ∧ (xs[i] :: rest).Perm xs ∧ Hp 0 rest.length rest := by
  obtain ⟨n, hn⟩ : ∃ n, xs.length = n + 1 := ⟨xs.length - 1, by omega⟩
  have hle : ∀ p c, p ≤ c → c < xs.length → Le (at_ xs p) (at_ xs c) := fun p c hpc hc => by
    by_cases e : p = c
    · subst e
      exact le_refl _
    · rw [at_get hc, at_get (by omega)]
      exact (List.pairwise_iff_getElem.1 h) p c (by omega) hc (by omega)
  simp only [hn, Nat.add_sub_cancel]
  have hsw := fun k => swp_at (xs := xs) (i := i) (j := n) (by omega) (by omega) k
  obtain ⟨h1, h2, h3, h4, h5⟩ := dn_all (s := 0) (n := n) _ (swp xs i n) i (Nat.le_refl _) (by rw [swp_length]; omega) (Nat.zero_le _) (by
    refine ⟨fun p c _ hp hc hpc => ?_, fun p c _ hp hc hpc => ?_⟩
    · rw [hsw, hsw, if_neg (by unfold Ch at hpc; omega), if_neg hp, if_neg (by omega)]
      by_cases hci : c = i
      · rw [if_pos hci]
        exact hle p n (by unfold Ch at hpc; omega) (by omega)
      · rw [if_neg hci]
        exact hle p c (by unfold Ch at hpc; omega) (by omega)
    · rw [hsw, hsw, if_neg (by unfold Ch at hp hpc; omega), if_neg (by unfold Ch at hp hpc; omega), if_neg (by omega), if_neg (by unfold Ch at hp hpc; omega)]
      exact hle p c (by unfold Ch at hp hpc; omega) (by omega))
  have hp := h2.trans (swp_perm (xs := xs) (i := i) (j := n) (by omega) (by omega))
  have hx := h3 n (Nat.le_refl _)
  rw [hsw, if_pos rfl, at_get hi] at hx
  refine ⟨fun hm => ?_, ?_⟩
  · have hm2 := h5 (by omega)
    rw [hm2]
    by_cases h0 : i = 0
    · subst h0
      exact upw_zero _
    · refine upw_stop ?_
      rw [hsw, hsw, if_neg (c := (i - 1) / 2 = n) (by omega), if_neg (c := (i - 1) / 2 = i) (by omega)]
      by_cases hin : i = n
      · rw [if_pos hin]
        exact hle _ _ (by omega) (by omega)
      · rw [if_neg hin, if_pos rfl]
        exact hle _ _ (by omega) (by omega)
  · generalize (dn n (swp xs i n) i).1 = zs at *
    obtain ⟨rest, e1, e2, e3⟩ := last_split (zs := zs) (n := n) (by rw [hp.length_eq]; exact hn)
    rw [hx] at e1
    refine ⟨rest, e1, ?_, ?_⟩
    · have h6 : (rest ++ [xs[i]]).Perm xs := by
        rw [← e1]
        exact hp
      exact (List.perm_append_singleton _ _).symm.trans h6
    · rw [e2]
      intro p c hp0 hc hpc
      rw [e3 p (by unfold Ch at hpc; omega), e3 c hc]
      exact h1 p c hp0 hc hpc
/-- The state of a pile: a cell that holds the slice, and the row of its items. -/
structure Pile (W : World) (G B cap : Nat) (xs : List S50) : Prop where
  g : W.heap[G]? = some (.cells #[.slice (some ⟨B, 0, none⟩) xs.length cap] 62 (0, 0))
  row : ∃ cs : Array Value, W.heap[B]? = some (.cells cs 50 (0, 0)) ∧ cs.size = cap * 2 ∧ ∀ i (h : i < xs.length), cs[i * 2]? = some (.int .i64 xs[i].f0) ∧ cs[i * 2 + 1]? = some (.int .i64 xs[i].f1)
  le : xs.length ≤ cap
  sm : cap ≤ maxLen
  len : xs.length ≤ 10000000000000
theorem Pile.ne {W : World} {G B cap : Nat} {xs : List S50} (h : Pile W G B cap xs) : G ≠ B := by
  obtain ⟨cs, h1, _⟩ := h.row
  exact blk_ne h.g h1 (by decide)
/-- Nothing but the pile's two blocks has turned. -/
structure KP (W W' : World) (G B : Nat) : Prop where
  os : W'.os = W.os
  tape : W'.tape = W.tape
  output : W'.output = W.output
  size : W.heap.size ≤ W'.heap.size
  block : ∀ k, k < W.heap.size → k ≠ G → k ≠ B → W'.heap[k]? = W.heap[k]?
theorem KP.refl (W : World) (G B : Nat) : KP W W G B := ⟨rfl, rfl, rfl, Nat.le_refl _, fun _ _ _ _ => rfl⟩
theorem KP.trans {a b c : World} {G B : Nat} (h : KP a b G B) (k : KP b c G B) : KP a c G B :=
  ⟨k.os.trans h.os, k.tape.trans h.tape, k.output.trans h.output, Nat.le_trans h.size k.size, fun i hi h1 h2 => (k.block i (Nat.lt_of_lt_of_le hi h.size) h1 h2).trans (h.block i hi h1 h2)⟩
theorem KP.of_below {w w1 : World} (h : Below w.heap.size w w1) (G B : Nat) : KP w w1 G B := ⟨h.os, h.tape, h.output, h.size, fun k hk _ _ => h.block k hk⟩
theorem KP.below {base G B : Nat} {w W W' : World} (hb : Below base w W) (h : KP W W' G B) (hG : base ≤ G) (hB : base ≤ B) (hs : base ≤ W.heap.size) : Below base w W' :=
  hb.trans ⟨h.os, h.tape, h.output, h.size, fun k hk => h.block k (Nat.lt_of_lt_of_le hk hs) (by omega) (by omega)⟩
theorem Pile.below {W W' : World} {G B cap : Nat} {xs : List S50} (h : Pile W G B cap xs) (hb : Below W.heap.size W W') : Pile W' G B cap xs := by
  obtain ⟨cs, h1, h2, h3⟩ := h.row
  exact ⟨blk_below h.g hb, ⟨cs, blk_below h1 hb, h2, h3⟩, h.le, h.sm, h.len⟩
theorem Pile.cell {W : World} {G B cap : Nat} {xs : List S50} (h : Pile W G B cap xs) (i : Nat) (hi : i < xs.length) :
    W.cell? ⟨B, i * 2, none⟩ = some (.int .i64 xs[i].f0) ∧ W.cell? ⟨B, i * 2 + 1, none⟩ = some (.int .i64 xs[i].f1) := by
  obtain ⟨cs, h1, h2, h3⟩ := h.row
  exact ⟨(blk_cell h1 _).trans (h3 i hi).1, (blk_cell h1 _).trans (h3 i hi).2⟩
set_option maxHeartbeats 1000000 in
set_option maxRecDepth 100000 in
theorem hand_Len {W : World} {G B cap : Nat} {xs : List S50} (hp : Pile W G B cap xs) :
    Calls Try.prog 34 #[.pointer (some ⟨G, 0, none⟩)] W fun e w' => e = .returned (.int .i64 (xs.length : Int)) ∧ W = w' := by
  have hc : W.cell? ⟨G, 0, none⟩ = some (.slice (some ⟨B, 0, none⟩) xs.length cap) := blk_cell hp.g 0
  have hu52 := Try.underlying62
  go_enter Try.func34, Try.ntmps34
  go_wp2_with fail
  go_ret
  exact ⟨rfl, rfl⟩

theorem heap_setCell_size (w : World) (p : Addr) (u : Value) : (w.setCell p u).heap.size = w.heap.size := by
  unfold World.setCell
  split <;> simp
/-- An item is put. -/
theorem Pile.put {W : World} {G B cap : Nat} {xs : List S50} (h : Pile W G B cap xs) (i : Nat) (hi : i < xs.length) (x : S50) :
    Pile ((W.setCell ⟨B, i * 2, none⟩ (.int .i64 x.f0)).setCell ⟨B, i * 2 + 1, none⟩ (.int .i64 x.f1)) G B cap (xs.set i x) ∧ KP W ((W.setCell ⟨B, i * 2, none⟩ (.int .i64 x.f0)).setCell ⟨B, i * 2 + 1, none⟩ (.int .i64 x.f1)) G B := by
  obtain ⟨cs, h1, h2, h3⟩ := h.row
  have hne := h.ne
  have hle := h.le
  refine ⟨⟨?_, ⟨_, blk_set (blk_set h1 (i * 2) _) (i * 2 + 1) _, by simp [h2], ?_⟩, by simpa using h.le, h.sm, by simpa using h.len⟩, ⟨?_, ?_, ?_, ?_, ?_⟩⟩
  · rw [List.length_set]
    exact blk_far (blk_far h.g (p := ⟨B, i * 2, none⟩) hne _) (p := ⟨B, i * 2 + 1, none⟩) hne _
  · intro k hk
    rw [List.length_set] at hk
    have h3k := h3 k hk
    have hs1 : i * 2 < cs.size := by omega
    have hs2 : i * 2 + 1 < cs.size := by omega
    by_cases hik : i = k
    · subst hik
      simp only [Array.getElem?_setIfInBounds, List.getElem_set]
      constructor
      · rw [if_neg (by omega)]
        simp [hs1]
      · simp [hs2]
    · simp only [Array.getElem?_setIfInBounds, List.getElem_set, if_neg hik]
      rw [if_neg (by omega), if_neg (by omega), if_neg (by omega), if_neg (by omega)]
      exact h3k
  all_goals try rfl
  · rw [heap_setCell_size, heap_setCell_size]
    exact Nat.le_refl _
  · intro k _ _ hkB
    rw [Below.heap_setCell _ ⟨B, i * 2 + 1, none⟩ _ k hkB, Below.heap_setCell _ ⟨B, i * 2, none⟩ _ k hkB]
theorem KP.drew {W W' : World} {G B : Nat} (h : KP W W' G B) : KP W W'.drew G B := ⟨h.os, h.tape, h.output, h.size, h.block⟩
theorem Pile.drew {W : World} {G B cap : Nat} {xs : List S50} (h : Pile W G B cap xs) : Pile W.drew G B cap xs := ⟨h.g, h.row, h.le, h.sm, h.len⟩

set_option maxHeartbeats 4000000 in
set_option maxRecDepth 100000 in
theorem hand_Less {W : World} {G B cap : Nat} {xs : List S50} (hp : Pile W G B cap xs) (i j : Nat) (hi : i < xs.length) (hj : j < xs.length) :
    Calls Try.prog 59 #[.pointer (some ⟨G, 0, none⟩), .int .i64 (i : Int), .int .i64 (j : Int)] W fun e w' => e = .returned (.bool (ah xs[i] xs[j])) ∧ Below W.heap.size W w' := by
  have hc : W.cell? ⟨G, 0, none⟩ = some (.slice (some ⟨B, 0, none⟩) xs.length cap) := blk_cell hp.g 0
  have hu52 := Try.underlying62
  have hu24 := Try.underlying50
  have hi0 : (0 : Int) ≤ i := by omega
  have hi1 : (i : Int) < (xs.length : Int) := by omega
  have hj0 : (0 : Int) ≤ j := by omega
  have hj1 : (j : Int) < (xs.length : Int) := by omega
  obtain ⟨hci, hci'⟩ := hp.cell i hi
  obtain ⟨hcj, hcj'⟩ := hp.cell j hj
  replace hp := Aside0.mk hp
  go_enter Try.func59, Try.ntmps59
  go_wp2_with fail
  go_region_with (go_at_call 62; refine (queue_ahead.calls _ _ _ _ _ _ (ahead_ah xs[i] xs[j])).mono ?_; rintro e w' ⟨rfl, hb⟩)
  all_goals (go_wp2_with fail; go_ret)
  all_goals exact ⟨rfl, below_step (below_drew1 (Below.refl _ _)) hb⟩

set_option maxHeartbeats 4000000 in
set_option maxRecDepth 100000 in
theorem hand_Swap {W : World} {G B cap : Nat} {xs : List S50} (hp : Pile W G B cap xs) (i j : Nat) (hi : i < xs.length) (hj : j < xs.length) (hij : i ≠ j) :
    Calls Try.prog 61 #[.pointer (some ⟨G, 0, none⟩), .int .i64 (i : Int), .int .i64 (j : Int)] W fun e w' => e = .returned (.tuple #[]) ∧ Pile w' G B cap ((xs.set i xs[j]).set j xs[i]) ∧ KP W w' G B := by
  have hc : W.cell? ⟨G, 0, none⟩ = some (.slice (some ⟨B, 0, none⟩) xs.length cap) := blk_cell hp.g 0
  have hu52 := Try.underlying62
  have hu24 := Try.underlying50
  have hi0 : (0 : Int) ≤ i := by omega
  have hi1 : (i : Int) < (xs.length : Int) := by omega
  have hj0 : (0 : Int) ≤ j := by omega
  have hj1 : (j : Int) < (xs.length : Int) := by omega
  have hij0 : i * 2 ≠ j * 2 := by omega
  have hij1 : i * 2 ≠ j * 2 + 1 := by omega
  have hij2 : i * 2 + 1 ≠ j * 2 := by omega
  have hij3 : i * 2 + 1 ≠ j * 2 + 1 := by omega
  obtain ⟨hci, hci'⟩ := hp.cell i hi
  obtain ⟨hcj, hcj'⟩ := hp.cell j hj
  obtain ⟨cs, hrow, hsz, hrd⟩ := hp.row
  have hf1 := blk_frozen hrow (i * 2)
  have hf2 := blk_frozen hrow (i * 2 + 1)
  have hf3 := blk_frozen hrow (j * 2)
  have hf4 := blk_frozen hrow (j * 2 + 1)
  have hgb := hp.ne
  replace hrow := Aside0.mk hrow
  replace hrd := Aside0.mk hrd
  replace hp := Aside0.mk hp
  go_enter Try.func61, Try.ntmps61
  go_wp2_with fail
  refine start_ (n := 24) (S := fun w' => w'.cell? ⟨G, 0, none⟩ = some (.slice (some ⟨B, 0, none⟩) xs.length cap) ∧ w'.cell? ⟨B, i * 2, none⟩ = some (.int .i64 xs[i].f0) ∧ w'.cell? ⟨B, i * 2 + 1, none⟩ = some (.int .i64 xs[i].f1) ∧ w'.cell? ⟨B, j * 2, none⟩ = some (.int .i64 xs[j].f0) ∧ w'.cell? ⟨B, j * 2 + 1, none⟩ = some (.int .i64 xs[j].f1)) (ds := [21, 23]) #[false, false, false, false, false, false, false, false, false, false, false, false, false, false, false, false, false, false, false, false, false, false, false, false] (by kernel_rfl) rfl rfl ⟨hc, hci, hci', hcj, hcj'⟩ (fun hHeld => ?_)
  refine pure_ (i := 0) (N := some 6) (v := ?_) (a' := ?_) #[true, false, false, false, false, false, false, false, false, false, false, false, false, false, false, false, false, false, false, false, false, false, false, false] rfl rfl (by kernel_rfl) (fun _ _ _ h => h) (Or.inl ⟨by rfl, ?_⟩) ?_ ?_
  rotate_left
  · intro w'
    go_simp
    with_reducible rfl
  rotate_left
  · simp only [Act.put, List.setIfInBounds_toArray, List.set_cons_zero, List.set_cons_succ, i64_w, i32_w]
    rfl
  refine pure_ (i := 1) (N := some 7) (v := ?_) (a' := ?_) #[true, true, false, false, false, false, false, false, false, false, false, false, false, false, false, false, false, false, false, false, false, false, false, false] rfl rfl (by kernel_rfl) (fun _ _ _ h => h) (Or.inl ⟨by rfl, ?_⟩) ?_ ?_
  rotate_left
  · intro w'
    go_simp
    with_reducible rfl
  rotate_left
  · simp only [Act.put, List.setIfInBounds_toArray, List.set_cons_zero, List.set_cons_succ, i64_w, i32_w]
    rfl
  refine pure_ (i := 3) (N := some 9) (v := ?_) (a' := ?_) #[true, true, false, true, false, false, false, false, false, false, false, false, false, false, false, false, false, false, false, false, false, false, false, false] rfl rfl (by kernel_rfl) (fun _ _ _ h => h) (Or.inl ⟨by rfl, ?_⟩) ?_ ?_
  rotate_left
  · intro w'
    go_simp
    with_reducible rfl
  rotate_left
  · simp only [Act.put, List.setIfInBounds_toArray, List.set_cons_zero, List.set_cons_succ, i64_w, i32_w]
    rfl
  refine pure_ (i := 4) (N := some 10) (v := ?_) (a' := ?_) #[true, true, false, true, true, false, false, false, false, false, false, false, false, false, false, false, false, false, false, false, false, false, false, false] rfl rfl (by kernel_rfl) (fun _ _ _ h => h) (Or.inl ⟨by rfl, ?_⟩) ?_ ?_
  rotate_left
  · intro w'
    go_simp
    with_reducible rfl
  rotate_left
  · simp only [Act.put, List.setIfInBounds_toArray, List.set_cons_zero, List.set_cons_succ, i64_w, i32_w]
    rfl
  refine pure_ (i := 5) (N := some 11) (v := ?_) (a' := ?_) #[true, true, false, true, true, true, false, false, false, false, false, false, false, false, false, false, false, false, false, false, false, false, false, false] rfl rfl (by kernel_rfl) (fun _ _ _ h => h) (Or.inl ⟨by rfl, ?_⟩) ?_ ?_
  rotate_left
  · intro w'
    go_simp
    with_reducible rfl
  rotate_left
  · simp only [Act.put, List.setIfInBounds_toArray, List.set_cons_zero, List.set_cons_succ, i64_w, i32_w]
    rfl
  refine pure_ (i := 7) (N := some 13) (v := ?_) (a' := ?_) #[true, true, false, true, true, true, false, true, false, false, false, false, false, false, false, false, false, false, false, false, false, false, false, false] rfl rfl (by kernel_rfl) (fun _ _ _ h => h) (Or.inl ⟨by rfl, ?_⟩) ?_ ?_
  rotate_left
  · intro w'
    go_simp
    with_reducible rfl
  rotate_left
  · simp only [Act.put, List.setIfInBounds_toArray, List.set_cons_zero, List.set_cons_succ, i64_w, i32_w]
    rfl
  refine pure_ (i := 8) (N := some 14) (v := ?_) (a' := ?_) #[true, true, false, true, true, true, false, true, true, false, false, false, false, false, false, false, false, false, false, false, false, false, false, false] rfl rfl (by kernel_rfl) (fun _ _ _ h => h) (Or.inl ⟨by rfl, ?_⟩) ?_ ?_
  rotate_left
  · intro w'
    go_simp
    with_reducible rfl
  rotate_left
  · simp only [Act.put, List.setIfInBounds_toArray, List.set_cons_zero, List.set_cons_succ, i64_w, i32_w]
    rfl
  refine pure_ (i := 9) (N := some 15) (v := ?_) (a' := ?_) #[true, true, false, true, true, true, false, true, true, true, false, false, false, false, false, false, false, false, false, false, false, false, false, false] rfl rfl (by kernel_rfl) (fun _ _ _ h => h) (Or.inl ⟨by rfl, ?_⟩) ?_ ?_
  rotate_left
  · intro w'
    go_simp
    with_reducible rfl
  rotate_left
  · simp only [Act.put, List.setIfInBounds_toArray, List.set_cons_zero, List.set_cons_succ, i64_w, i32_w]
    rfl
  refine pure_ (i := 11) (N := some 17) (v := ?_) (a' := ?_) #[true, true, false, true, true, true, false, true, true, true, false, true, false, false, false, false, false, false, false, false, false, false, false, false] rfl rfl (by kernel_rfl) (fun _ _ _ h => h) (Or.inl ⟨by rfl, ?_⟩) ?_ ?_
  rotate_left
  · intro w'
    go_simp
    with_reducible rfl
  rotate_left
  · simp only [Act.put, List.setIfInBounds_toArray, List.set_cons_zero, List.set_cons_succ, i64_w, i32_w]
    rfl
  refine pure_ (i := 14) (N := some 20) (v := ?_) (a' := ?_) #[true, true, false, true, true, true, false, true, true, true, false, true, false, false, true, false, false, false, false, false, false, false, false, false] rfl rfl (by kernel_rfl) (fun _ _ _ h => h) (Or.inl ⟨by rfl, ?_⟩) ?_ ?_
  rotate_left
  · intro w'
    go_simp
    with_reducible rfl
  rotate_left
  · simp only [Act.put, List.setIfInBounds_toArray, List.set_cons_zero, List.set_cons_succ, i64_w, i32_w]
    rfl
  refine pure_ (i := 15) (N := some 21) (v := ?_) (a' := ?_) #[true, true, false, true, true, true, false, true, true, true, false, true, false, false, true, true, false, false, false, false, false, false, false, false] rfl rfl (by kernel_rfl) (fun _ _ _ h => h) (Or.inl ⟨by rfl, ?_⟩) ?_ ?_
  rotate_left
  · intro w'
    go_simp
    with_reducible rfl
  rotate_left
  · simp only [Act.put, List.setIfInBounds_toArray, List.set_cons_zero, List.set_cons_succ, i64_w, i32_w]
    rfl
  refine pure_ (i := 17) (N := some 23) (v := ?_) (a' := ?_) #[true, true, false, true, true, true, false, true, true, true, false, true, false, false, true, true, false, true, false, false, false, false, false, false] rfl rfl (by kernel_rfl) (fun _ _ _ h => h) (Or.inl ⟨by rfl, ?_⟩) ?_ ?_
  rotate_left
  · intro w'
    go_simp
    with_reducible rfl
  rotate_left
  · simp only [Act.put, List.setIfInBounds_toArray, List.set_cons_zero, List.set_cons_succ, i64_w, i32_w]
    rfl
  refine take_ (i := 2) (N := some 8) (v := ?_) (a' := ?_) #[true, true, true, true, true, true, false, true, true, true, false, true, false, false, true, true, false, true, false, false, false, false, false, false] rfl rfl (by kernel_rfl) (fun _ _ _ h => h) (Or.inl ⟨by rfl, ?_⟩) hHeld ?_ ?_
  rotate_left
  · rintro w' ⟨s0, s1, s2, s3, s4⟩
    go_simp
    with_reducible rfl
  rotate_left
  · simp only [Act.put, List.setIfInBounds_toArray, List.set_cons_zero, List.set_cons_succ, i64_w, i32_w]
    rfl
  refine take_ (i := 6) (N := some 12) (v := ?_) (a' := ?_) #[true, true, true, true, true, true, true, true, true, true, false, true, false, false, true, true, false, true, false, false, false, false, false, false] rfl rfl (by kernel_rfl) (fun _ _ _ h => h) (Or.inl ⟨by rfl, ?_⟩) hHeld ?_ ?_
  rotate_left
  · rintro w' ⟨s0, s1, s2, s3, s4⟩
    go_simp
    with_reducible rfl
  rotate_left
  · simp only [Act.put, List.setIfInBounds_toArray, List.set_cons_zero, List.set_cons_succ, i64_w, i32_w]
    rfl
  refine take_ (i := 10) (N := some 16) (v := ?_) (a' := ?_) #[true, true, true, true, true, true, true, true, true, true, true, true, false, false, true, true, false, true, false, false, false, false, false, false] rfl rfl (by kernel_rfl) (fun _ _ _ h => h) (Or.inl ⟨by rfl, ?_⟩) hHeld ?_ ?_
  rotate_left
  · rintro w' ⟨s0, s1, s2, s3, s4⟩
    go_simp
    with_reducible rfl
  rotate_left
  · simp only [Act.put, List.setIfInBounds_toArray, List.set_cons_zero, List.set_cons_succ, i64_w, i32_w]
    rfl
  refine pure_ (i := 12) (N := some 18) (v := ?_) (a' := ?_) #[true, true, true, true, true, true, true, true, true, true, true, true, true, false, true, true, false, true, false, false, false, false, false, false] rfl rfl (by kernel_rfl) (fun _ _ _ h => h) (Or.inl ⟨by rfl, ?_⟩) ?_ ?_
  rotate_left
  · intro w'
    go_simp
    with_reducible rfl
  rotate_left
  · simp only [Act.put, List.setIfInBounds_toArray, List.set_cons_zero, List.set_cons_succ, i64_w, i32_w]
    rfl
  refine take_ (i := 13) (N := some 19) (v := ?_) (a' := ?_) #[true, true, true, true, true, true, true, true, true, true, true, true, true, true, true, true, false, true, false, false, false, false, false, false] rfl rfl (by kernel_rfl) (fun _ _ _ h => h) (Or.inl ⟨by rfl, ?_⟩) hHeld ?_ ?_
  rotate_left
  · rintro w' ⟨s0, s1, s2, s3, s4⟩
    go_simp
    with_reducible rfl
  rotate_left
  · simp only [Act.put, List.setIfInBounds_toArray, List.set_cons_zero, List.set_cons_succ, i64_w, i32_w]
    rfl
  refine take_ (i := 16) (N := some 22) (v := ?_) (a' := ?_) #[true, true, true, true, true, true, true, true, true, true, true, true, true, true, true, true, true, true, false, false, false, false, false, false] rfl rfl (by kernel_rfl) (fun _ _ _ h => h) (Or.inl ⟨by rfl, ?_⟩) hHeld ?_ ?_
  rotate_left
  · rintro w' ⟨s0, s1, s2, s3, s4⟩
    go_simp
    with_reducible rfl
  rotate_left
  · simp only [Act.put, List.setIfInBounds_toArray, List.set_cons_zero, List.set_cons_succ, i64_w, i32_w]
    rfl
  refine pure_ (i := 18) (N := some 24) (v := ?_) (a' := ?_) #[true, true, true, true, true, true, true, true, true, true, true, true, true, true, true, true, true, true, true, false, false, false, false, false] rfl rfl (by kernel_rfl) (fun _ _ _ h => h) (Or.inl ⟨by rfl, ?_⟩) ?_ ?_
  rotate_left
  · intro w'
    go_simp
    with_reducible rfl
  rotate_left
  · simp only [Act.put, List.setIfInBounds_toArray, List.set_cons_zero, List.set_cons_succ, i64_w, i32_w]
    rfl
  refine take_ (i := 19) (N := some 25) (v := ?_) (a' := ?_) #[true, true, true, true, true, true, true, true, true, true, true, true, true, true, true, true, true, true, true, true, false, false, false, false] rfl rfl (by kernel_rfl) (fun _ _ _ h => h) (Or.inl ⟨by rfl, ?_⟩) hHeld ?_ ?_
  rotate_left
  · rintro w' ⟨s0, s1, s2, s3, s4⟩
    go_simp
    with_reducible rfl
  rotate_left
  · simp only [Act.put, List.setIfInBounds_toArray, List.set_cons_zero, List.set_cons_succ, i64_w, i32_w]
    rfl
  refine pure_ (i := 20) (N := some 26) (v := ?_) (a' := ?_) #[true, true, true, true, true, true, true, true, true, true, true, true, true, true, true, true, true, true, true, true, true, false, false, false] rfl rfl (by kernel_rfl) (fun _ _ _ h => h) (Or.inl ⟨by rfl, ?_⟩) ?_ ?_
  rotate_left
  · intro w'
    go_simp
    with_reducible rfl
  rotate_left
  · simp only [Act.put, List.setIfInBounds_toArray, List.set_cons_zero, List.set_cons_succ, i64_w, i32_w]
    rfl
  refine last_ (i := 21) (N := none) #[true, true, true, true, true, true, true, true, true, true, true, true, true, true, true, true, true, true, true, true, true, true, false, false] rfl rfl (by kernel_rfl) (by decide) (fun K hK => ?_)
  refine skip_ (w1 := ?_) (by rfl) rfl ?_ ?_
  rotate_left
  · go_simp
    rfl
  refine hK.out _ _ ?_
  clear hK K
  refine pure_ (i := 22) (N := some 27) (v := ?_) (a' := ?_) #[true, true, true, true, true, true, true, true, true, true, true, true, true, true, true, true, true, true, true, true, true, true, true, false] rfl rfl (by kernel_rfl) (fun _ _ _ h => h) (Or.inl ⟨by rfl, ?_⟩) ?_ ?_
  rotate_left
  · intro w'
    go_simp
    with_reducible rfl
  rotate_left
  · simp only [Act.put, List.setIfInBounds_toArray, List.set_cons_zero, List.set_cons_succ, i64_w, i32_w]
    rfl
  refine last_ (i := 23) (N := none) #[true, true, true, true, true, true, true, true, true, true, true, true, true, true, true, true, true, true, true, true, true, true, true, true] rfl rfl (by kernel_rfl) (by decide) (fun K hK => ?_)
  refine skip_ (w1 := ?_) (by rfl) rfl ?_ ?_
  rotate_left
  · go_simp
    rfl
  refine hK.out _ _ ?_
  clear hK K
  refine done_ (by kernel_rfl) ?_

  have h1 := hp.out.put i hi xs[j]
  have h2 := h1.1.put j (by simpa using hj) xs[i]
  exact bodyPost_end (results_none rfl _ _ _) rfl ⟨rfl, h2.1.drew, (h1.2.trans h2.2).drew⟩


set_option maxHeartbeats 4000000 in
set_option maxRecDepth 100000 in
theorem hand_Swap_same {W : World} {G B cap : Nat} {xs : List S50} (hp : Pile W G B cap xs) (i : Nat) (hi : i < xs.length) :
    Calls Try.prog 61 #[.pointer (some ⟨G, 0, none⟩), .int .i64 (i : Int), .int .i64 (i : Int)] W fun e w' => e = .returned (.tuple #[]) ∧ Pile w' G B cap xs ∧ KP W w' G B := by
  have hc : W.cell? ⟨G, 0, none⟩ = some (.slice (some ⟨B, 0, none⟩) xs.length cap) := blk_cell hp.g 0
  have hu52 := Try.underlying62
  have hu24 := Try.underlying50
  have hi0 : (0 : Int) ≤ i := by omega
  have hi1 : (i : Int) < (xs.length : Int) := by omega
  obtain ⟨hci, hci'⟩ := hp.cell i hi
  obtain ⟨cs, hrow, hsz, hrd⟩ := hp.row
  have hf1 := blk_frozen hrow (i * 2)
  have hf2 := blk_frozen hrow (i * 2 + 1)
  have hgb := hp.ne
  replace hrow := Aside0.mk hrow
  replace hrd := Aside0.mk hrd
  replace hp := Aside0.mk hp
  go_enter Try.func61, Try.ntmps61
  go_wp2_with fail
  refine start_ (n := 24) (S := fun w' => w'.cell? ⟨G, 0, none⟩ = some (.slice (some ⟨B, 0, none⟩) xs.length cap) ∧ w'.cell? ⟨B, i * 2, none⟩ = some (.int .i64 xs[i].f0) ∧ w'.cell? ⟨B, i * 2 + 1, none⟩ = some (.int .i64 xs[i].f1) ∧ True ∧ True) (ds := [21, 23]) #[false, false, false, false, false, false, false, false, false, false, false, false, false, false, false, false, false, false, false, false, false, false, false, false] (by kernel_rfl) rfl rfl ⟨hc, hci, hci', trivial, trivial⟩ (fun hHeld => ?_)
  refine pure_ (i := 0) (N := some 6) (v := ?_) (a' := ?_) #[true, false, false, false, false, false, false, false, false, false, false, false, false, false, false, false, false, false, false, false, false, false, false, false] rfl rfl (by kernel_rfl) (fun _ _ _ h => h) (Or.inl ⟨by rfl, ?_⟩) ?_ ?_
  rotate_left
  · intro w'
    go_simp
    with_reducible rfl
  rotate_left
  · simp only [Act.put, List.setIfInBounds_toArray, List.set_cons_zero, List.set_cons_succ, i64_w, i32_w]
    rfl
  refine pure_ (i := 1) (N := some 7) (v := ?_) (a' := ?_) #[true, true, false, false, false, false, false, false, false, false, false, false, false, false, false, false, false, false, false, false, false, false, false, false] rfl rfl (by kernel_rfl) (fun _ _ _ h => h) (Or.inl ⟨by rfl, ?_⟩) ?_ ?_
  rotate_left
  · intro w'
    go_simp
    with_reducible rfl
  rotate_left
  · simp only [Act.put, List.setIfInBounds_toArray, List.set_cons_zero, List.set_cons_succ, i64_w, i32_w]
    rfl
  refine pure_ (i := 3) (N := some 9) (v := ?_) (a' := ?_) #[true, true, false, true, false, false, false, false, false, false, false, false, false, false, false, false, false, false, false, false, false, false, false, false] rfl rfl (by kernel_rfl) (fun _ _ _ h => h) (Or.inl ⟨by rfl, ?_⟩) ?_ ?_
  rotate_left
  · intro w'
    go_simp
    with_reducible rfl
  rotate_left
  · simp only [Act.put, List.setIfInBounds_toArray, List.set_cons_zero, List.set_cons_succ, i64_w, i32_w]
    rfl
  refine pure_ (i := 4) (N := some 10) (v := ?_) (a' := ?_) #[true, true, false, true, true, false, false, false, false, false, false, false, false, false, false, false, false, false, false, false, false, false, false, false] rfl rfl (by kernel_rfl) (fun _ _ _ h => h) (Or.inl ⟨by rfl, ?_⟩) ?_ ?_
  rotate_left
  · intro w'
    go_simp
    with_reducible rfl
  rotate_left
  · simp only [Act.put, List.setIfInBounds_toArray, List.set_cons_zero, List.set_cons_succ, i64_w, i32_w]
    rfl
  refine pure_ (i := 5) (N := some 11) (v := ?_) (a' := ?_) #[true, true, false, true, true, true, false, false, false, false, false, false, false, false, false, false, false, false, false, false, false, false, false, false] rfl rfl (by kernel_rfl) (fun _ _ _ h => h) (Or.inl ⟨by rfl, ?_⟩) ?_ ?_
  rotate_left
  · intro w'
    go_simp
    with_reducible rfl
  rotate_left
  · simp only [Act.put, List.setIfInBounds_toArray, List.set_cons_zero, List.set_cons_succ, i64_w, i32_w]
    rfl
  refine pure_ (i := 7) (N := some 13) (v := ?_) (a' := ?_) #[true, true, false, true, true, true, false, true, false, false, false, false, false, false, false, false, false, false, false, false, false, false, false, false] rfl rfl (by kernel_rfl) (fun _ _ _ h => h) (Or.inl ⟨by rfl, ?_⟩) ?_ ?_
  rotate_left
  · intro w'
    go_simp
    with_reducible rfl
  rotate_left
  · simp only [Act.put, List.setIfInBounds_toArray, List.set_cons_zero, List.set_cons_succ, i64_w, i32_w]
    rfl
  refine pure_ (i := 8) (N := some 14) (v := ?_) (a' := ?_) #[true, true, false, true, true, true, false, true, true, false, false, false, false, false, false, false, false, false, false, false, false, false, false, false] rfl rfl (by kernel_rfl) (fun _ _ _ h => h) (Or.inl ⟨by rfl, ?_⟩) ?_ ?_
  rotate_left
  · intro w'
    go_simp
    with_reducible rfl
  rotate_left
  · simp only [Act.put, List.setIfInBounds_toArray, List.set_cons_zero, List.set_cons_succ, i64_w, i32_w]
    rfl
  refine pure_ (i := 9) (N := some 15) (v := ?_) (a' := ?_) #[true, true, false, true, true, true, false, true, true, true, false, false, false, false, false, false, false, false, false, false, false, false, false, false] rfl rfl (by kernel_rfl) (fun _ _ _ h => h) (Or.inl ⟨by rfl, ?_⟩) ?_ ?_
  rotate_left
  · intro w'
    go_simp
    with_reducible rfl
  rotate_left
  · simp only [Act.put, List.setIfInBounds_toArray, List.set_cons_zero, List.set_cons_succ, i64_w, i32_w]
    rfl
  refine pure_ (i := 11) (N := some 17) (v := ?_) (a' := ?_) #[true, true, false, true, true, true, false, true, true, true, false, true, false, false, false, false, false, false, false, false, false, false, false, false] rfl rfl (by kernel_rfl) (fun _ _ _ h => h) (Or.inl ⟨by rfl, ?_⟩) ?_ ?_
  rotate_left
  · intro w'
    go_simp
    with_reducible rfl
  rotate_left
  · simp only [Act.put, List.setIfInBounds_toArray, List.set_cons_zero, List.set_cons_succ, i64_w, i32_w]
    rfl
  refine pure_ (i := 14) (N := some 20) (v := ?_) (a' := ?_) #[true, true, false, true, true, true, false, true, true, true, false, true, false, false, true, false, false, false, false, false, false, false, false, false] rfl rfl (by kernel_rfl) (fun _ _ _ h => h) (Or.inl ⟨by rfl, ?_⟩) ?_ ?_
  rotate_left
  · intro w'
    go_simp
    with_reducible rfl
  rotate_left
  · simp only [Act.put, List.setIfInBounds_toArray, List.set_cons_zero, List.set_cons_succ, i64_w, i32_w]
    rfl
  refine pure_ (i := 15) (N := some 21) (v := ?_) (a' := ?_) #[true, true, false, true, true, true, false, true, true, true, false, true, false, false, true, true, false, false, false, false, false, false, false, false] rfl rfl (by kernel_rfl) (fun _ _ _ h => h) (Or.inl ⟨by rfl, ?_⟩) ?_ ?_
  rotate_left
  · intro w'
    go_simp
    with_reducible rfl
  rotate_left
  · simp only [Act.put, List.setIfInBounds_toArray, List.set_cons_zero, List.set_cons_succ, i64_w, i32_w]
    rfl
  refine pure_ (i := 17) (N := some 23) (v := ?_) (a' := ?_) #[true, true, false, true, true, true, false, true, true, true, false, true, false, false, true, true, false, true, false, false, false, false, false, false] rfl rfl (by kernel_rfl) (fun _ _ _ h => h) (Or.inl ⟨by rfl, ?_⟩) ?_ ?_
  rotate_left
  · intro w'
    go_simp
    with_reducible rfl
  rotate_left
  · simp only [Act.put, List.setIfInBounds_toArray, List.set_cons_zero, List.set_cons_succ, i64_w, i32_w]
    rfl
  refine take_ (i := 2) (N := some 8) (v := ?_) (a' := ?_) #[true, true, true, true, true, true, false, true, true, true, false, true, false, false, true, true, false, true, false, false, false, false, false, false] rfl rfl (by kernel_rfl) (fun _ _ _ h => h) (Or.inl ⟨by rfl, ?_⟩) hHeld ?_ ?_
  rotate_left
  · rintro w' ⟨s0, s1, s2, s3, s4⟩
    go_simp
    with_reducible rfl
  rotate_left
  · simp only [Act.put, List.setIfInBounds_toArray, List.set_cons_zero, List.set_cons_succ, i64_w, i32_w]
    rfl
  refine take_ (i := 6) (N := some 12) (v := ?_) (a' := ?_) #[true, true, true, true, true, true, true, true, true, true, false, true, false, false, true, true, false, true, false, false, false, false, false, false] rfl rfl (by kernel_rfl) (fun _ _ _ h => h) (Or.inl ⟨by rfl, ?_⟩) hHeld ?_ ?_
  rotate_left
  · rintro w' ⟨s0, s1, s2, s3, s4⟩
    go_simp
    with_reducible rfl
  rotate_left
  · simp only [Act.put, List.setIfInBounds_toArray, List.set_cons_zero, List.set_cons_succ, i64_w, i32_w]
    rfl
  refine take_ (i := 10) (N := some 16) (v := ?_) (a' := ?_) #[true, true, true, true, true, true, true, true, true, true, true, true, false, false, true, true, false, true, false, false, false, false, false, false] rfl rfl (by kernel_rfl) (fun _ _ _ h => h) (Or.inl ⟨by rfl, ?_⟩) hHeld ?_ ?_
  rotate_left
  · rintro w' ⟨s0, s1, s2, s3, s4⟩
    go_simp
    with_reducible rfl
  rotate_left
  · simp only [Act.put, List.setIfInBounds_toArray, List.set_cons_zero, List.set_cons_succ, i64_w, i32_w]
    rfl
  refine pure_ (i := 12) (N := some 18) (v := ?_) (a' := ?_) #[true, true, true, true, true, true, true, true, true, true, true, true, true, false, true, true, false, true, false, false, false, false, false, false] rfl rfl (by kernel_rfl) (fun _ _ _ h => h) (Or.inl ⟨by rfl, ?_⟩) ?_ ?_
  rotate_left
  · intro w'
    go_simp
    with_reducible rfl
  rotate_left
  · simp only [Act.put, List.setIfInBounds_toArray, List.set_cons_zero, List.set_cons_succ, i64_w, i32_w]
    rfl
  refine take_ (i := 13) (N := some 19) (v := ?_) (a' := ?_) #[true, true, true, true, true, true, true, true, true, true, true, true, true, true, true, true, false, true, false, false, false, false, false, false] rfl rfl (by kernel_rfl) (fun _ _ _ h => h) (Or.inl ⟨by rfl, ?_⟩) hHeld ?_ ?_
  rotate_left
  · rintro w' ⟨s0, s1, s2, s3, s4⟩
    go_simp
    with_reducible rfl
  rotate_left
  · simp only [Act.put, List.setIfInBounds_toArray, List.set_cons_zero, List.set_cons_succ, i64_w, i32_w]
    rfl
  refine take_ (i := 16) (N := some 22) (v := ?_) (a' := ?_) #[true, true, true, true, true, true, true, true, true, true, true, true, true, true, true, true, true, true, false, false, false, false, false, false] rfl rfl (by kernel_rfl) (fun _ _ _ h => h) (Or.inl ⟨by rfl, ?_⟩) hHeld ?_ ?_
  rotate_left
  · rintro w' ⟨s0, s1, s2, s3, s4⟩
    go_simp
    with_reducible rfl
  rotate_left
  · simp only [Act.put, List.setIfInBounds_toArray, List.set_cons_zero, List.set_cons_succ, i64_w, i32_w]
    rfl
  refine pure_ (i := 18) (N := some 24) (v := ?_) (a' := ?_) #[true, true, true, true, true, true, true, true, true, true, true, true, true, true, true, true, true, true, true, false, false, false, false, false] rfl rfl (by kernel_rfl) (fun _ _ _ h => h) (Or.inl ⟨by rfl, ?_⟩) ?_ ?_
  rotate_left
  · intro w'
    go_simp
    with_reducible rfl
  rotate_left
  · simp only [Act.put, List.setIfInBounds_toArray, List.set_cons_zero, List.set_cons_succ, i64_w, i32_w]
    rfl
  refine take_ (i := 19) (N := some 25) (v := ?_) (a' := ?_) #[true, true, true, true, true, true, true, true, true, true, true, true, true, true, true, true, true, true, true, true, false, false, false, false] rfl rfl (by kernel_rfl) (fun _ _ _ h => h) (Or.inl ⟨by rfl, ?_⟩) hHeld ?_ ?_
  rotate_left
  · rintro w' ⟨s0, s1, s2, s3, s4⟩
    go_simp
    with_reducible rfl
  rotate_left
  · simp only [Act.put, List.setIfInBounds_toArray, List.set_cons_zero, List.set_cons_succ, i64_w, i32_w]
    rfl
  refine pure_ (i := 20) (N := some 26) (v := ?_) (a' := ?_) #[true, true, true, true, true, true, true, true, true, true, true, true, true, true, true, true, true, true, true, true, true, false, false, false] rfl rfl (by kernel_rfl) (fun _ _ _ h => h) (Or.inl ⟨by rfl, ?_⟩) ?_ ?_
  rotate_left
  · intro w'
    go_simp
    with_reducible rfl
  rotate_left
  · simp only [Act.put, List.setIfInBounds_toArray, List.set_cons_zero, List.set_cons_succ, i64_w, i32_w]
    rfl
  refine last_ (i := 21) (N := none) #[true, true, true, true, true, true, true, true, true, true, true, true, true, true, true, true, true, true, true, true, true, true, false, false] rfl rfl (by kernel_rfl) (by decide) (fun K hK => ?_)
  refine skip_ (w1 := ?_) (by rfl) rfl ?_ ?_
  rotate_left
  · go_simp
    rfl
  refine hK.out _ _ ?_
  clear hK K
  refine pure_ (i := 22) (N := some 27) (v := ?_) (a' := ?_) #[true, true, true, true, true, true, true, true, true, true, true, true, true, true, true, true, true, true, true, true, true, true, true, false] rfl rfl (by kernel_rfl) (fun _ _ _ h => h) (Or.inl ⟨by rfl, ?_⟩) ?_ ?_
  rotate_left
  · intro w'
    go_simp
    with_reducible rfl
  rotate_left
  · simp only [Act.put, List.setIfInBounds_toArray, List.set_cons_zero, List.set_cons_succ, i64_w, i32_w]
    rfl
  refine last_ (i := 23) (N := none) #[true, true, true, true, true, true, true, true, true, true, true, true, true, true, true, true, true, true, true, true, true, true, true, true] rfl rfl (by kernel_rfl) (by decide) (fun K hK => ?_)
  refine skip_ (w1 := ?_) (by rfl) rfl ?_ ?_
  rotate_left
  · go_simp
    rfl
  refine hK.out _ _ ?_
  clear hK K
  refine done_ (by kernel_rfl) ?_

  have h1 := hp.out.put i hi xs[i]
  have h2 := h1.1.put i (by simpa using hi) xs[i]
  simp only [List.set_getElem_self] at h1 h2
  exact bodyPost_end (results_none rfl _ _ _) rfl ⟨rfl, h2.1.drew, (h1.2.trans h2.2).drew⟩
theorem wrap_in (n : Int) (h : -9223372036854775808 ≤ n ∧ n ≤ 9223372036854775807) : wrap64 n = n := by unfold wrap64; omega
/-- The last one is taken. -/
theorem Pile.take {W : World} {G B cap : Nat} {xs : List S50} {x : S50} (h : Pile W G B cap (xs ++ [x])) :
    Pile (W.setCell ⟨G, 0, none⟩ (.slice (some ⟨B, 0, none⟩) xs.length cap)) G B cap xs ∧ KP W (W.setCell ⟨G, 0, none⟩ (.slice (some ⟨B, 0, none⟩) xs.length cap)) G B := by
  obtain ⟨cs, h1, h2, h3⟩ := h.row
  have hne := h.ne
  have hl : (xs ++ [x]).length = xs.length + 1 := by simp
  have hle := h.le
  have hlen := h.len
  refine ⟨⟨blk_put h.g 0 _ rfl, ⟨cs, blk_far (p := ⟨G, 0, none⟩) h1 (Ne.symm hne) _, h2, fun i hi => ?_⟩, by omega, h.sm, by omega⟩, ⟨rfl, rfl, rfl, ?_, ?_⟩⟩
  · have := h3 i (by omega)
    rwa [List.getElem_append_left hi] at this
  · rw [heap_setCell_size]
    exact Nat.le_refl _
  · intro k _ hkG _
    exact Below.heap_setCell _ ⟨G, 0, none⟩ _ k hkG
set_option maxHeartbeats 4000000 in
set_option maxRecDepth 100000 in
theorem hand_PilePop {W : World} {G B cap : Nat} {xs : List S50} {x : S50} (hp : Pile W G B cap (xs ++ [x])) :
    Calls Try.prog 60 #[.pointer (some ⟨G, 0, none⟩)] W fun e w' => e = .returned (.iface 50 (.agg #[.int .i64 x.f0, .int .i64 x.f1])) ∧ Pile w' G B cap xs ∧ KP W w' G B := by
  have hl : (xs ++ [x]).length = xs.length + 1 := by simp
  have hc : W.cell? ⟨G, 0, none⟩ = some (.slice (some ⟨B, 0, none⟩) (xs.length + 1) cap) := hl ▸ blk_cell hp.g 0
  have hu52 := Try.underlying62
  have hu24 := Try.underlying50
  have hle := hp.le
  have hlen := hp.len
  have hi : xs.length < (xs ++ [x]).length := by omega
  obtain ⟨hci, hci'⟩ := hp.cell xs.length hi
  have hx : (xs ++ [x])[xs.length] = x := by simp
  rw [hx] at hci hci'
  have hw : wrap64 (((xs.length + 1 : Nat) : Int) - 1) = (xs.length : Int) := by
    rw [wrap_in _ (by omega)]
    omega
  have hi0 : (0 : Int) ≤ xs.length := by omega
  have hi1 : (xs.length : Int) < ((xs.length + 1 : Nat) : Int) := by omega
  have hi2 : (xs.length : Int) ≤ (cap : Int) := by omega
  have hfz := blk_frozen hp.g 0
  have hb0 := below_alloc (Below.refl W.heap.size W) (.cells #[.int .i64 x.f0, .int .i64 x.f1] 50 (0, 0))
  have hp2 := hp.below hb0
  have ht := hp2.take
  have hca : (W.alloc (.cells #[.int .i64 x.f0, .int .i64 x.f1] 50 (0, 0))).cell? ⟨G, 0, none⟩ = some (.slice (some ⟨B, 0, none⟩) (xs.length + 1) cap) := hl ▸ blk_cell hp2.g 0
  have hfa := blk_frozen hp2.g 0
  have hnG : W.heap.size ≠ G := by
    have := blk_lt hp.g
    omega
  have hn := blk_far (p := ⟨G, 0, none⟩) (blk_new W (.cells #[.int .i64 x.f0, .int .i64 x.f1] 50 (0, 0))) hnG (.slice (some ⟨B, 0, none⟩) xs.length cap)
  have hd0 := (blk_cell hn 0).trans (by rfl : _ = some (.int .i64 x.f0))
  have hd1 := (blk_cell hn 1).trans (by rfl : _ = some (.int .i64 x.f1))
  have hK := (KP.of_below hb0 G B).trans ht.2
  have hP := ht.1
  clear hn ht
  replace hp := Aside0.mk hp
  replace hp2 := Aside0.mk hp2
  replace hb0 := Aside0.mk hb0
  replace hK := Aside0.mk hK
  replace hP := Aside0.mk hP
  go_enter Try.func60, Try.ntmps60
  go_wp2_with fail
  go_ret
  exact ⟨rfl, hP.out, hK.out⟩

theorem meth_Len (G : Nat) (w : World) : (method 180 56 (.pointer (some ⟨G, 0, none⟩)) "Len").run Try.prog w = .ok (34, .pointer (some ⟨G, 0, none⟩)) w := by kernel_rfl
theorem meth_Less (G : Nat) (w : World) : (method 180 56 (.pointer (some ⟨G, 0, none⟩)) "Less").run Try.prog w = .ok (59, .pointer (some ⟨G, 0, none⟩)) w := by kernel_rfl
theorem meth_Swap (G : Nat) (w : World) : (method 180 56 (.pointer (some ⟨G, 0, none⟩)) "Swap").run Try.prog w = .ok (61, .pointer (some ⟨G, 0, none⟩)) w := by kernel_rfl
theorem meth_Pop (G : Nat) (w : World) : (method 180 56 (.pointer (some ⟨G, 0, none⟩)) "Pop").run Try.prog w = .ok (60, .pointer (some ⟨G, 0, none⟩)) w := by kernel_rfl
theorem hand_LessI {W : World} {G B cap : Nat} {xs : List S50} (hp : Pile W G B cap xs) (i j : Int) (hi : 0 ≤ i ∧ i < xs.length) (hj : 0 ≤ j ∧ j < xs.length) :
    Calls Try.prog 59 #[.pointer (some ⟨G, 0, none⟩), .int .i64 i, .int .i64 j] W fun e w' => e = .returned (.bool (ah (at_ xs i.toNat) (at_ xs j.toNat))) ∧ Below W.heap.size W w' := by
  have h := hand_Less hp i.toNat j.toNat (by omega) (by omega)
  rw [Int.toNat_of_nonneg hi.1, Int.toNat_of_nonneg hj.1, ← at_get, ← at_get] at h
  exact h
theorem hand_SwapI {W : World} {G B cap : Nat} {xs : List S50} (hp : Pile W G B cap xs) (i j : Int) (hi : 0 ≤ i ∧ i < xs.length) (hj : 0 ≤ j ∧ j < xs.length) :
    Calls Try.prog 61 #[.pointer (some ⟨G, 0, none⟩), .int .i64 i, .int .i64 j] W fun e w' => e = .returned (.tuple #[]) ∧ Pile w' G B cap (swp xs i.toNat j.toNat) ∧ KP W w' G B := by
  by_cases hij : i = j
  · subst hij
    have h := hand_Swap_same hp i.toNat (by omega)
    rw [Int.toNat_of_nonneg hi.1] at h
    rw [swp_self (by omega)]
    exact h
  · have h := hand_Swap hp i.toNat j.toNat (by omega) (by omega) (by omega)
    rw [Int.toNat_of_nonneg hi.1, Int.toNat_of_nonneg hj.1, ← at_get, ← at_get] at h
    exact h
/-- What holds while a pile is turned. -/
structure PS (W wr : World) (G B cap : Nat) (xs ys : List S50) : Prop where
  p : Pile wr G B cap ys
  k : KP W wr G B
  l : ys.length = xs.length
theorem PS.below {W wr w' : World} {G B cap : Nat} {xs ys : List S50} (h : PS W wr G B cap xs ys) (hb : Below wr.heap.size wr w') : PS W w' G B cap xs ys := ⟨h.p.below hb, h.k.trans (.of_below hb G B), h.l⟩

theorem hand_LessJ {W : World} {G B cap : Nat} {xs : List S50} (hp : Pile W G B cap xs) (i j : Int) (i' j' : Nat) (hi : i = i') (hj : j = j') (b : Bool) (hb : ah (at_ xs i') (at_ xs j') = b) (hi1 : i' < xs.length) (hj1 : j' < xs.length) :
    Calls Try.prog 59 #[.pointer (some ⟨G, 0, none⟩), .int .i64 i, .int .i64 j] W fun e w' => e = .returned (.bool b) ∧ Below W.heap.size W w' := by
  subst hi hj hb
  exact hand_LessI hp i' j' ⟨by omega, by omega⟩ ⟨by omega, by omega⟩
theorem hand_SwapJ {W : World} {G B cap : Nat} {xs : List S50} (hp : Pile W G B cap xs) (i j : Int) (i' j' : Nat) (hi : i = i') (hj : j = j') (hi1 : i' < xs.length) (hj1 : j' < xs.length) :
    Calls Try.prog 61 #[.pointer (some ⟨G, 0, none⟩), .int .i64 i, .int .i64 j] W fun e w' => e = .returned (.tuple #[]) ∧ Pile w' G B cap (swp xs i' j') ∧ KP W w' G B := by
  subst hi hj
  exact hand_SwapI hp i' j' ⟨by omega, by omega⟩ ⟨by omega, by omega⟩
theorem PS.swap {W wr w' : World} {G B cap : Nat} {xs ys : List S50} {i j : Nat} (h : PS W wr G B cap xs ys) (hp : Pile w' G B cap (swp ys i j)) (hk : KP wr w' G B) : PS W w' G B cap xs (swp ys i j) := ⟨hp, h.k.trans hk, (swp_length ys i j).trans h.l⟩

set_option maxHeartbeats 4000000 in
set_option maxRecDepth 100000 in
theorem hand_down {W : World} {G B cap : Nat} {xs : List S50} (hp : Pile W G B cap xs) (i n : Nat) (hn : n ≤ xs.length) (hi : i ≤ 20000000000000) :
    Calls Try.prog 40 #[.iface 56 (.pointer (some ⟨G, 0, none⟩)), .int .i64 (i : Int), .int .i64 (n : Int)] W fun e w' => e = .returned (.bool (decide ((dn n xs i).2 > i))) ∧ Pile w' G B cap (dn n xs i).1 ∧ KP W w' G B := by
  have hm1 := meth_Less G
  have hm2 := meth_Swap G
  have hs := Aside0.mk (PS.mk hp (KP.refl W G B) (rfl : xs.length = xs.length))
  have hlen := hp.len
  clear hp
  go_enter Try.func40, Try.ntmps40
  go_wp2_with fail
  go_loopw [7] (fun v wr => ∃ (ys : List S50) (a : Nat), v = .int .i64 (a : Int) ∧ a ≤ 20000000000000 ∧ Aside0 (PS W wr G B cap xs ys) ∧ Aside0 (dn n xs i = dn n ys a)) (fun v _ => n - (intOf v).toNat)
  case atStart => exact ⟨xs, i, rfl, hi, hs, ⟨rfl⟩⟩
  case round =>
    clear hs
    obtain ⟨ys, a, rfl, ha, hs, hd⟩ := hrel
    have e1 : wrap64 (2 * (a : Int)) = 2 * (a : Int) := wrap_in _ (by omega)
    have e2 : wrap64 (2 * (a : Int) + 1) = 2 * (a : Int) + 1 := wrap_in _ (by omega)
    have e3 : wrap64 (2 * (a : Int) + 1 + 1) = 2 * (a : Int) + 1 + 1 := wrap_in _ (by omega)
    have hlt0 : decide (2 * (a : Int) + 1 < 0) = false := decide_eq_false (by omega)
    by_cases h1 : 2 * a + 1 < n
    · have d1 : decide ((n : Int) ≤ 2 * (a : Int) + 1) = false := decide_eq_false (by omega)
      have d1' : decide (2 * (a : Int) + 1 ≥ (n : Int)) = false := decide_eq_false (by omega)
      by_cases h2 : 2 * a + 2 < n
      · have d2 : decide (2 * (a : Int) + 1 + 1 < (n : Int)) = true := decide_eq_true (by omega)
        have d2' : decide ((n : Int) > 2 * (a : Int) + 1 + 1) = true := decide_eq_true (by omega)
        cases h3 : ah (at_ ys (2 * a + 2)) (at_ ys (2 * a + 1)) <;> (cases h4 : ah (at_ ys (ch n ys a)) (at_ ys a))
        · have hch : ch n ys a = 2 * a + 1 := by
            unfold ch
            rw [if_pos h2, h3]
            rfl
          go_wp2_with fail
          refine (hand_LessJ hs.out.p (2 * (a : Int) + 1 + 1) (2 * (a : Int) + 1) (2 * a + 2) (2 * a + 1) (by omega) (by omega) _ h3 (by rw [hs.out.l]; omega) (by rw [hs.out.l]; omega)).mono ?_
          rintro e w1 ⟨rfl, hb1⟩
          have hs1 := Aside0.mk (hs.out.below hb1)
          clear hs hb1
          go_wp2_with fail
          have h4t := h4
          have hch2 : ch n ys a = 2 * a + 1 := hch
          rw [hch2] at h4t
          refine (hand_LessJ hs1.out.p (2 * (a : Int) + 1) (a : Int) (2 * a + 1) a (by omega) rfl _ h4t (by rw [hs1.out.l]; omega) (by rw [hs1.out.l]; omega)).mono ?_
          rintro e w2 ⟨rfl, hb2⟩
          have hs2 := Aside0.mk (hs1.out.below hb2)
          clear hs1 hb2
          go_wp2_with fail
          go_ret
          rw [hd.out, dn_stop h1 h4]
          exact ⟨by simp <;> omega, hs2.out.p, hs2.out.k⟩
        · have hch : ch n ys a = 2 * a + 1 := by
            unfold ch
            rw [if_pos h2, h3]
            rfl
          go_wp2_with fail
          refine (hand_LessJ hs.out.p (2 * (a : Int) + 1 + 1) (2 * (a : Int) + 1) (2 * a + 2) (2 * a + 1) (by omega) (by omega) _ h3 (by rw [hs.out.l]; omega) (by rw [hs.out.l]; omega)).mono ?_
          rintro e w1 ⟨rfl, hb1⟩
          have hs1 := Aside0.mk (hs.out.below hb1)
          clear hs hb1
          go_wp2_with fail
          have h4t := h4
          have hch2 : ch n ys a = 2 * a + 1 := hch
          rw [hch2] at h4t
          refine (hand_LessJ hs1.out.p (2 * (a : Int) + 1) (a : Int) (2 * a + 1) a (by omega) rfl _ h4t (by rw [hs1.out.l]; omega) (by rw [hs1.out.l]; omega)).mono ?_
          rintro e w2 ⟨rfl, hb2⟩
          have hs2 := Aside0.mk (hs1.out.below hb2)
          clear hs1 hb2
          go_wp2_with fail
          refine (hand_SwapJ hs2.out.p (a : Int) (2 * (a : Int) + 1) a (2 * a + 1) rfl (by omega) (by rw [hs2.out.l]; omega) (by rw [hs2.out.l]; omega)).mono ?_
          rintro e w3 ⟨rfl, hp3, hk3⟩
          have hs3 := Aside0.mk (hs2.out.swap hp3 hk3)
          clear hs2 hp3 hk3
          go_wp2_with fail
          go_roundw
          case rel => exact ⟨swp ys a (2 * a + 1), 2 * a + 1, by simp <;> omega, by omega, hs3, ⟨by rw [hd.out, dn_go h1 h4, hch]⟩⟩
          case measure => simp [intOf] <;> omega
        · have hch : ch n ys a = 2 * a + 2 := by
            unfold ch
            rw [if_pos h2, h3]
            rfl
          go_wp2_with fail
          refine (hand_LessJ hs.out.p (2 * (a : Int) + 1 + 1) (2 * (a : Int) + 1) (2 * a + 2) (2 * a + 1) (by omega) (by omega) _ h3 (by rw [hs.out.l]; omega) (by rw [hs.out.l]; omega)).mono ?_
          rintro e w1 ⟨rfl, hb1⟩
          have hs1 := Aside0.mk (hs.out.below hb1)
          clear hs hb1
          go_wp2_with fail
          have h4t := h4
          have hch2 : ch n ys a = 2 * a + 2 := hch
          rw [hch2] at h4t
          refine (hand_LessJ hs1.out.p (2 * (a : Int) + 1 + 1) (a : Int) (2 * a + 2) a (by omega) rfl _ h4t (by rw [hs1.out.l]; omega) (by rw [hs1.out.l]; omega)).mono ?_
          rintro e w2 ⟨rfl, hb2⟩
          have hs2 := Aside0.mk (hs1.out.below hb2)
          clear hs1 hb2
          go_wp2_with fail
          go_ret
          rw [hd.out, dn_stop h1 h4]
          exact ⟨by simp <;> omega, hs2.out.p, hs2.out.k⟩
        · have hch : ch n ys a = 2 * a + 2 := by
            unfold ch
            rw [if_pos h2, h3]
            rfl
          go_wp2_with fail
          refine (hand_LessJ hs.out.p (2 * (a : Int) + 1 + 1) (2 * (a : Int) + 1) (2 * a + 2) (2 * a + 1) (by omega) (by omega) _ h3 (by rw [hs.out.l]; omega) (by rw [hs.out.l]; omega)).mono ?_
          rintro e w1 ⟨rfl, hb1⟩
          have hs1 := Aside0.mk (hs.out.below hb1)
          clear hs hb1
          go_wp2_with fail
          have h4t := h4
          have hch2 : ch n ys a = 2 * a + 2 := hch
          rw [hch2] at h4t
          refine (hand_LessJ hs1.out.p (2 * (a : Int) + 1 + 1) (a : Int) (2 * a + 2) a (by omega) rfl _ h4t (by rw [hs1.out.l]; omega) (by rw [hs1.out.l]; omega)).mono ?_
          rintro e w2 ⟨rfl, hb2⟩
          have hs2 := Aside0.mk (hs1.out.below hb2)
          clear hs1 hb2
          go_wp2_with fail
          refine (hand_SwapJ hs2.out.p (a : Int) (2 * (a : Int) + 1 + 1) a (2 * a + 2) rfl (by omega) (by rw [hs2.out.l]; omega) (by rw [hs2.out.l]; omega)).mono ?_
          rintro e w3 ⟨rfl, hp3, hk3⟩
          have hs3 := Aside0.mk (hs2.out.swap hp3 hk3)
          clear hs2 hp3 hk3
          go_wp2_with fail
          go_roundw
          case rel => exact ⟨swp ys a (2 * a + 2), 2 * a + 2, by simp <;> omega, by omega, hs3, ⟨by rw [hd.out, dn_go h1 h4, hch]⟩⟩
          case measure => simp [intOf] <;> omega
      · have d2 : decide (2 * (a : Int) + 1 + 1 < (n : Int)) = false := decide_eq_false (by omega)
        have d2' : decide ((n : Int) > 2 * (a : Int) + 1 + 1) = false := decide_eq_false (by omega)
        have hch : ch n ys a = 2 * a + 1 := by
          unfold ch
          rw [if_neg h2]
        cases h4 : ah (at_ ys (ch n ys a)) (at_ ys a)
        · go_wp2_with fail
          have h4t := h4
          have hch2 : ch n ys a = 2 * a + 1 := hch
          rw [hch2] at h4t
          refine (hand_LessJ hs.out.p (2 * (a : Int) + 1) (a : Int) (2 * a + 1) a (by omega) rfl _ h4t (by rw [hs.out.l]; omega) (by rw [hs.out.l]; omega)).mono ?_
          rintro e w2 ⟨rfl, hb2⟩
          have hs2 := Aside0.mk (hs.out.below hb2)
          clear hs hb2
          go_wp2_with fail
          go_ret
          rw [hd.out, dn_stop h1 h4]
          exact ⟨by simp <;> omega, hs2.out.p, hs2.out.k⟩
        · go_wp2_with fail
          have h4t := h4
          have hch2 : ch n ys a = 2 * a + 1 := hch
          rw [hch2] at h4t
          refine (hand_LessJ hs.out.p (2 * (a : Int) + 1) (a : Int) (2 * a + 1) a (by omega) rfl _ h4t (by rw [hs.out.l]; omega) (by rw [hs.out.l]; omega)).mono ?_
          rintro e w2 ⟨rfl, hb2⟩
          have hs2 := Aside0.mk (hs.out.below hb2)
          clear hs hb2
          go_wp2_with fail
          refine (hand_SwapJ hs2.out.p (a : Int) (2 * (a : Int) + 1) a (2 * a + 1) rfl (by omega) (by rw [hs2.out.l]; omega) (by rw [hs2.out.l]; omega)).mono ?_
          rintro e w3 ⟨rfl, hp3, hk3⟩
          have hs3 := Aside0.mk (hs2.out.swap hp3 hk3)
          clear hs2 hp3 hk3
          go_wp2_with fail
          go_roundw
          case rel => exact ⟨swp ys a (2 * a + 1), 2 * a + 1, by simp <;> omega, by omega, hs3, ⟨by rw [hd.out, dn_go h1 h4, hch]⟩⟩
          case measure => simp [intOf] <;> omega
    · have d1 : decide ((n : Int) ≤ 2 * (a : Int) + 1) = true := decide_eq_true (by omega)
      have d1' : decide (2 * (a : Int) + 1 ≥ (n : Int)) = true := decide_eq_true (by omega)
      go_wp2_with fail
      go_ret
      rw [hd.out, dn_end h1]
      exact ⟨by simp <;> omega, hs.out.p, hs.out.k⟩
set_option maxHeartbeats 4000000 in
set_option maxRecDepth 100000 in
theorem hand_Init {W : World} {G B cap : Nat} {xs : List S50} (hp : Pile W G B cap xs) :
    Calls Try.prog 37 #[.iface 56 (.pointer (some ⟨G, 0, none⟩))] W fun e w' => e = .returned (.tuple #[]) ∧ Pile w' G B cap (hpf xs.length (xs.length / 2) xs) ∧ KP W w' G B := by
  have hm1 := meth_Len G
  have hs := Aside0.mk (PS.mk hp (KP.refl W G B) (rfl : xs.length = xs.length))
  have hlen := hp.len
  clear hp
  have e2 : wrap64 ((xs.length : Int) / 2 - 1) = (xs.length : Int) / 2 - 1 := wrap_in _ (by omega)
  go_enter Try.func37, Try.ntmps37
  go_wp2_with fail
  refine (hand_Len hs.out.p).mono ?_
  rintro e w1 ⟨rfl, rfl⟩
  go_wp2_with fail
  go_loopw [3] (fun v wr => ∃ (ys : List S50) (k : Nat), v = .int .i64 ((k : Int) - 1) ∧ k ≤ xs.length ∧ Aside0 (PS W wr G B cap xs ys) ∧ Aside0 (hpf xs.length (xs.length / 2) xs = hpf xs.length k ys)) (fun v _ => (intOf v + 1).toNat)
  case atStart => exact ⟨xs, xs.length / 2, by simp, by omega, hs, ⟨rfl⟩⟩
  case round =>
    clear hs
    obtain ⟨ys, k, rfl, hk, hs, hd⟩ := hrel
    cases k with
    | zero =>
      go_wp2_with fail
      refine bodyPost_end (results_none rfl _ _ _) rfl ?_
      rw [hd.out]
      exact ⟨rfl, hs.out.p, hs.out.k⟩
    | succ k =>
      have e1 : wrap64 ((k : Int) - 1) = (k : Int) - 1 := wrap_in _ (by omega)
      have d1 : decide ((k : Int) ≥ 0) = true := decide_eq_true (by omega)
      have d1' : decide (0 ≤ (k : Int)) = true := decide_eq_true (by omega)
      go_wp2_with fail
      have hl := hs.out.l
      have hdn := hand_down hs.out.p k xs.length (by omega) (by omega)
      refine hdn.mono ?_
      rintro e w3 ⟨rfl, hp3, hk3⟩
      have hl3 : (dn xs.length ys k).1.length = xs.length := by rw [dn_len, hl]
      have hs3 := Aside0.mk (PS.mk (xs := xs) hp3 (hs.out.k.trans hk3) hl3)
      clear hs hp3 hk3 hdn
      go_wp2_with fail
      go_roundw
      case rel => exact ⟨_, k, rfl, by omega, hs3, ⟨hd.out⟩⟩
      case measure => simp [intOf] <;> omega

set_option maxHeartbeats 4000000 in
set_option maxRecDepth 100000 in
theorem hand_HPop {W : World} {G B cap : Nat} {xs rest : List S50} {x : S50} (hp : Pile W G B cap xs) (h0 : 0 < xs.length) (hz : (dn (xs.length - 1) (swp xs 0 (xs.length - 1)) 0).1 = rest ++ [x]) :
    Calls Try.prog 35 #[.iface 56 (.pointer (some ⟨G, 0, none⟩))] W fun e w' => e = .returned (.iface 50 (.agg #[.int .i64 x.f0, .int .i64 x.f1])) ∧ Pile w' G B cap rest ∧ KP W w' G B := by
  have hm1 := meth_Len G
  have hm2 := meth_Swap G
  have hm3 := meth_Pop G
  have hs := Aside0.mk (PS.mk hp (KP.refl W G B) (rfl : xs.length = xs.length))
  have hlen := hp.len
  clear hp
  have e2 : wrap64 ((xs.length : Int) - 1) = (xs.length : Int) - 1 := wrap_in _ (by omega)
  replace hz := Aside0.mk hz
  go_enter Try.func35, Try.ntmps35
  go_wp2_with fail
  refine (hand_Len hs.out.p).mono ?_
  rintro e w1 ⟨rfl, rfl⟩
  go_wp2_with fail
  refine (hand_SwapJ hs.out.p 0 ((xs.length : Int) - 1) 0 (xs.length - 1) rfl (by omega) (by omega) (by omega)).mono ?_
  rintro e w2 ⟨rfl, hp2, hk2⟩
  have hs2 := Aside0.mk (hs.out.swap hp2 hk2)
  clear hs hp2 hk2
  go_wp2_with fail
  have hn : ((xs.length : Int) - 1) = ((xs.length - 1 : Nat) : Int) := by omega
  have hdn := hand_down hs2.out.p 0 (xs.length - 1) (by rw [swp_length]; omega) (by omega)
  rw [← hn] at hdn
  refine hdn.mono ?_
  rintro e w3 ⟨rfl, hp3, hk3⟩
  rw [hz.out] at hp3
  have hs3 := Aside0.mk (And.intro hp3 (hs2.out.k.trans hk3))
  clear hs2 hp3 hk3 hdn
  go_wp2_with fail
  refine (hand_PilePop hs3.out.1).mono ?_
  rintro e w4 ⟨rfl, hp4, hk4⟩
  have hs4 := Aside0.mk (And.intro hp4 (hs3.out.2.trans hk4))
  clear hs3 hp4 hk4
  go_wp2_with fail
  go_ret
  exact ⟨rfl, hs4.out.1, hs4.out.2⟩
theorem tass (a b : Int) (w : World) : Sem.run Try.prog (Instr.typeAssert (.iface 50 (.agg #[.int .i64 a, .int .i64 b])) 20 50 true) w = .ok (.tuple #[.agg #[.int .i64 a, .int .i64 b], .bool true]) w := by kernel_rfl
theorem below_setG {base G : Nat} {w : World} (h : base ≤ G) (u : Value) : Below base w (w.setCell ⟨G, 0, none⟩ u) := ⟨rfl, rfl, rfl, Nat.le_of_eq (heap_setCell_size _ _ _).symm, fun k hk => Below.heap_setCell _ ⟨G, 0, none⟩ _ k (fun e => by subst e; exact Nat.lt_irrefl _ (Nat.lt_of_lt_of_le hk h))⟩
/-- A pile, its row any. -/
structure PV (W : World) (base G : Nat) (v : Value) (xs : List S50) : Prop where
  g : W.heap[G]? = some (.cells #[v] 62 (0, 0))
  r : k50.R 50 W base (fun k => k ≠ G) v xs
  b : base ≤ W.heap.size
theorem PV.below {W W' : World} {base G : Nat} {v : Value} {xs : List S50} (h : PV W base G v xs) (hb : Below W.heap.size W W') : PV W' base G v xs := ⟨blk_below h.g hb, Kd.R_below h.r hb, Nat.le_trans h.b hb.size⟩
theorem PV.pile {W : World} {base G : Nat} {v : Value} {xs : List S50} (h : PV W base G v xs) (h0 : 0 < xs.length) (hlen : xs.length ≤ 10000000000000) :
    ∃ B cap, v = .slice (some ⟨B, 0, none⟩) xs.length cap ∧ base ≤ B ∧ Pile W G B cap xs := by
  obtain ⟨hok, inner, hown, hr⟩ := h.r
  rcases hown.2 with ⟨_, hn⟩ | ⟨B, cap, cur, rfl, hb, hh, hc1, hc2, hc3, hc4⟩
  · omega
  · refine ⟨B, cap, rfl, hb, h.g, ⟨cur, hh, hc3, fun i hi => ?_⟩, hc1, hc2, hlen⟩
    have hi2 := k50_openM (hr.2 i xs[i] (List.getElem?_eq_getElem hi))
    have hsz : k50.sz = 2 := rfl
    rw [hsz] at hi2 hc4
    rw [← hc4] at hi2
    have e0 : ((List.take 2 (List.drop (i * 2) (List.take (xs.length * 2) cur.toList)))[0]?) = some (.int .i64 xs[i].f0) := by rw [hi2]; rfl
    have e1 : ((List.take 2 (List.drop (i * 2) (List.take (xs.length * 2) cur.toList)))[1]?) = some (.int .i64 xs[i].f1) := by rw [hi2]; rfl
    rw [List.getElem?_take, if_pos (by omega), List.getElem?_drop, List.getElem?_take, if_pos (by omega)] at e0 e1
    simpa using And.intro e0 e1
theorem eqnil_some (ad : Addr) (n c : Nat) (w : World) : Sem.run Try.prog (binOp BinOp.eql 48 (.slice (some ad) n c) (.slice none 0 0)) w = .ok (.bool false) w := by kernel_rfl
theorem eqnil_none (n c : Nat) (w : World) : Sem.run Try.prog (binOp BinOp.eql 48 (.slice none n c) (.slice none 0 0)) w = .ok (.bool true) w := by kernel_rfl
set_option maxHeartbeats 4000000 in
set_option maxRecDepth 100000 in
theorem hand_Clone (A0 : Option Addr) (c0 : Nat) (l0 : List S50) (w : World) (hr0 : Kd.C k50 w A0 l0.length l0) (hc0 : l0.length ≤ c0) (hl : l0.length < 8796093022208) :
    Calls Try.prog 36 #[.slice A0 l0.length c0] w fun e w' => ∃ v0_ : Value, e = .returned (v0_) ∧ Kd.R k50 50 w' w.heap.size (fun _ => True) v0_ l0 ∧ Below w.heap.size w w' := by
  have hu22 := Try.underlying48
  have hu24 := Try.underlying50
  have hen := eqnil_none
  have hes := eqnil_some
  replace hr0 := Aside0.mk hr0
  cases A0 with
  | none =>
    have h0 : l0 = [] := by
      rcases Nat.eq_zero_or_pos l0.length with h | h
      · exact List.eq_nil_of_length_eq_zero h
      · obtain ⟨ad, h, _⟩ := hr0.out.2.2 h
        cases h
    subst h0
    go_enter Try.func36, Try.ntmps36
    go_wp2_with fail
    go_ret
    exact ⟨_, rfl, Kd.R_nil _ _ _ _ _, Below.refl _ _⟩
  | some ad =>
    have hb0 := Aside0.mk (below_alloc (Below.refl w.heap.size w) (.cells #[] 50 (0, 0)))
    have hO : Aside0 (Kd.R k50 50 (w.alloc (.cells #[] 50 (0, 0))) w.heap.size (fun _ => True) (.slice (some ⟨w.heap.size, 0, none⟩) 0 0) ([] : List S50)) :=
      ⟨fun _ _ => trivial, [], ⟨rfl, .inr ⟨w.heap.size, 0, #[], rfl, Nat.le_refl _, blk_new w _, Nat.le_refl _, Nat.zero_le _, rfl, rfl⟩⟩, Reps.none _ _⟩
    go_enter Try.func36, Try.ntmps36
    go_wp2_with ((with_reducible refine gate_builtin (b := .append) (xs := #[.tmp 5, .tmp 6]) rfl ?_); at_builtin; go_loud (refine Kd.R_append_rows k50 (w0 := w) w.heap.size rfl (.tmp 5) (.tmp 6) 48 50 (.agg #[(.int .i64 0), (.int .i64 0)]) 16 rfl Try.underlying48 info50 rfl (by decide) (by omega) (.slice (some ⟨w.heap.size, 0, none⟩) 0 0) ([] : List S50) l0 (some ad) l0.length c0 (fun _ => True) (fun _ => False) rfl rfl ?aO ?aR (fun _ _ h => h) (fun _ h => h.elim) ?aF ?aB ?aS ?aL ?_); (case aO => exact hO.out); (case aR => exact Kd.C_below hr0.out hb0.out); (case aF => exact fun _ _ => trivial); (case aB => exact hb0.out); (case aS => exact below_size hb0.out); (case aL => simp; omega); intro v1 w1 ho hb hg hat; clear hg hat; replace ho := Aside0.mk ho; replace hb := Aside0.mk hb)
    go_ret
    exact ⟨_, rfl, ho.out, hb.out⟩

theorem Pile.pv {W : World} {base G B cap : Nat} {xs : List S50} (h : Pile W G B cap xs) (hB : base ≤ B) (hb : base ≤ W.heap.size) : PV W base G (.slice (some ⟨B, 0, none⟩) xs.length cap) xs := by
  have hne := h.ne
  have hle := h.le
  obtain ⟨cs, h1, h2, h3⟩ := h.row
  refine ⟨h.g, ⟨fun k hk => ?_, cs.toList.take (xs.length * 2), ⟨?_, .inr ⟨B, cap, cs, rfl, hB, h1, h.le, h.sm, h2, rfl⟩⟩, ?_, fun i x hx => ?_⟩, hb⟩
  · simp [Value.ownBlock] at hk
    subst hk
    exact Ne.symm hne
  · have hsz : k50.sz = 2 := rfl
    simp [hsz]
    omega
  · have hsz : k50.sz = 2 := rfl
    simp [hsz]
    omega
  · have hsz : k50.sz = 2 := rfl
    rw [hsz]
    obtain ⟨hi, rfl⟩ := List.getElem?_eq_some_iff.1 hx
    obtain ⟨e0, e1⟩ := h3 i hi
    have : List.take 2 (List.drop (i * 2) (List.take (xs.length * 2) cs.toList)) = [.int .i64 xs[i].f0, .int .i64 xs[i].f1] := by
      apply List.ext_getElem?
      intro j
      rw [List.getElem?_take]
      by_cases hj : j < 2
      · rw [if_pos hj, List.getElem?_drop, List.getElem?_take, if_pos (by omega)]
        have : j = 0 ∨ j = 1 := by omega
        rcases this with rfl | rfl
        · simpa using e0
        · simpa using e1
      · rw [if_neg hj, List.getElem?_eq_none (by simp; omega)]
    rw [this]
    exact k50_mkM _ _ _ _
set_option maxHeartbeats 1000000 in
set_option maxRecDepth 100000 in
theorem hand_LenV {W : World} {G : Nat} {A : Option Addr} {n c : Nat} (hp : W.heap[G]? = some (.cells #[.slice A n c] 62 (0, 0))) :
    Calls Try.prog 34 #[.pointer (some ⟨G, 0, none⟩)] W fun e w' => e = .returned (.int .i64 (n : Int)) ∧ W = w' := by
  have hc : W.cell? ⟨G, 0, none⟩ = some (.slice A n c) := blk_cell hp 0
  have hu52 := Try.underlying62
  go_enter Try.func34, Try.ntmps34
  go_wp2_with fail
  go_ret
  exact ⟨rfl, rfl⟩
set_option maxHeartbeats 4000000 in
set_option maxRecDepth 100000 in
theorem hand_Init0 {W : World} {G : Nat} {A : Option Addr} {c : Nat} (hp : W.heap[G]? = some (.cells #[.slice A 0 c] 62 (0, 0))) :
    Calls Try.prog 37 #[.iface 56 (.pointer (some ⟨G, 0, none⟩))] W fun e w' => e = .returned (.tuple #[]) ∧ W = w' := by
  have hm1 := meth_Len G
  replace hp := Aside0.mk hp
  have e2 : wrap64 (-1) = -1 := wrap_in _ (by omega)
  go_enter Try.func37, Try.ntmps37
  go_wp2_with fail
  refine (hand_LenV hp.out).mono ?_
  rintro e w1 ⟨rfl, rfl⟩
  go_wp2_with fail
  go_loopw [3] (fun v wr => v = .int .i64 (-1) ∧ W = wr) (fun v _ => 0)
  case atStart => exact ⟨rfl, rfl⟩
  case round =>
    obtain ⟨rfl, rfl⟩ := hrel
    go_wp2_with fail
    exact bodyPost_end (results_none rfl _ _ _) rfl ⟨rfl, rfl⟩
/-- What 'of' hands back. -/
structure Of (w w' : World) (G : Nat) (xs : List S50) : Prop where
  g : w.heap.size ≤ G
  b : Below w.heap.size w w'
  p : ∃ v, PV w' w.heap.size G v xs
set_option maxHeartbeats 4000000 in
set_option maxRecDepth 100000 in
theorem hand_of (A0 : Option Addr) (c0 : Nat) (l0 : List S50) (w : World) (hr0 : Kd.C k50 w A0 l0.length l0) (hc0 : l0.length ≤ c0) (hl : l0.length ≤ 8796093022207) :
    Calls Try.prog 32 #[.slice A0 l0.length c0] w fun e w' => ∃ G, e = .returned (.pointer (some ⟨G, 0, none⟩)) ∧ Of w w' G (hpf l0.length (l0.length / 2) l0) := by
  have hu52 := Try.underlying62
  have hu22 := Try.underlying48
  replace hr0 := Aside0.mk hr0
  go_enter Try.func32, Try.ntmps32
  go_wp2_with fail
  refine (hand_Clone A0 c0 l0 w hr0.out hc0 (by omega)).mono ?_
  rintro e w1 ⟨v0, rfl, hR, hB⟩
  obtain ⟨A1, c1, rfl⟩ := Kd.R_slice hR
  have hs1 := hB.size
  have hb1 := below_alloc (Below.refl w1.heap.size w1) (.cells #[.slice A1 l0.length c1] 62 (0, 0))
  have hpv : PV (w1.alloc (.cells #[.slice A1 l0.length c1] 62 (0, 0))) w.heap.size w1.heap.size (.slice A1 l0.length c1) l0 :=
    ⟨blk_new w1 _, Kd.R_mono (Kd.R_bound (Kd.R_below hR hb1)) (fun k hk hkk => by
      obtain ⟨_, _, _, q, hq, cells', hc⟩ := hk
      subst hkk
      have := blk_new w1 (.cells #[.slice A1 l0.length c1] 62 (0, 0))
      rw [hc] at this
      injection this with this
      injection this with _ this
      subst this
      revert hq
      decide), Nat.le_trans hs1 hb1.size⟩
  have hB2 := Aside0.mk (below_step hB hb1)
  replace hpv := Aside0.mk hpv
  clear hR hB hb1
  go_wp2_with fail
  by_cases h0 : 0 < l0.length
  · obtain ⟨B, cap, hv, hBB, hpile⟩ := hpv.out.pile h0 (by omega)
    clear hv
    refine (hand_Init hpile).mono ?_
    clear hpile
    rintro e w2 ⟨rfl, hp2, hk2⟩
    have hsz := hk2.size
    have hs := Aside0.mk (And.intro hp2 hk2)
    clear hp2 hk2
    go_wp2_with fail
    go_ret
    exact ⟨w1.heap.size, rfl, ⟨hs1, KP.below hB2.out hs.out.2 hs1 hBB hpv.out.b, ⟨_, hs.out.1.pv hBB (Nat.le_trans hpv.out.b hsz)⟩⟩⟩
  · have h0 : l0 = [] := List.eq_nil_of_length_eq_zero (by omega)
    subst h0
    refine (hand_Init0 hpv.out.g).mono ?_
    rintro e w2 ⟨rfl, rfl⟩
    go_wp2_with fail
    go_ret
    exact ⟨w1.heap.size, rfl, ⟨hs1, hB2.out, ⟨_, hpv.out⟩⟩⟩
def lenOf : Value → Nat
  | .slice _ n _ => n
  | _ => 0
theorem Pile.grown {W w1 : World} {G B cap : Nat} {xs : List S50} (h : Pile W G B cap xs) {row : Option Nat} (hg : W.grownBy w1 row) (h1 : some G ≠ row) (h2 : some B ≠ row) : Pile w1 G B cap xs := by
  obtain ⟨cs, e1, e2, e3⟩ := h.row
  exact ⟨blk_grown h.g hg h1, ⟨cs, blk_grown e1 hg h2, e2, e3⟩, h.le, h.sm, h.len⟩
/-- Where the taking stands. -/
structure AllS (W wr : World) (base G B cap : Nat) (xs rest : List S50) (v : Value) (out : List S50) : Prop where
  p : Pile wr G B cap rest
  r : Kd.R k50 50 wr W.heap.size (fun _ => True) v out
  b : Below base W wr
  s : W.heap.size ≤ wr.heap.size
  hp : Hp 0 rest.length rest
  so : Sorted out
  le : ∀ a ∈ out, ∀ c ∈ rest, Le a c
  pm : (out ++ rest).Perm xs
theorem AllS.pop {W wr w' : World} {base G B cap : Nat} {xs rest rest' : List S50} {x : S50} {v : Value} {out : List S50} (h : AllS W wr base G B cap xs rest v out) (hp : Pile w' G B cap rest') (hk : KP wr w' G B)
    (hG : base ≤ G) (hB : base ≤ B) (hGW : G < W.heap.size) (hBW : B < W.heap.size) (hb : base ≤ W.heap.size) : Pile w' G B cap rest' ∧ Kd.R k50 50 w' W.heap.size (fun _ => True) v out ∧ Below base W w' ∧ W.heap.size ≤ w'.heap.size :=
  ⟨hp, Kd.R_mono (Kd.R_move (Kd.R_bound h.r) (fun k hk2 => hk.block k hk2.2.2.1 (by have := hk2.2.1; omega) (by have := hk2.2.1; omega))) (fun _ _ => trivial), KP.below h.b hk hG hB (Nat.le_trans hb h.s), Nat.le_trans h.s hk.size⟩
set_option maxHeartbeats 4000000 in
set_option maxRecDepth 100000 in
theorem hand_all {W : World} {base G B cap : Nat} {xs : List S50} (hp : Pile W G B cap xs) (hh : Hp 0 xs.length xs) (hG : base ≤ G) (hB : base ≤ B) (hb : base ≤ W.heap.size) (hlen : xs.length ≤ 8796093022207) :
    Calls Try.prog 31 #[.pointer (some ⟨G, 0, none⟩)] W fun e w' => ∃ v0_ out, e = .returned v0_ ∧ Kd.R k50 50 w' base (fun _ => True) v0_ out ∧ Below base W w' ∧ Sorted out ∧ out.Perm xs := by
  have hu22 := Try.underlying48
  have hu24 := Try.underlying50
  have hta := tass
  have hGW := blk_lt hp.g
  have hBW : B < W.heap.size := by
    obtain ⟨cs, e1, _⟩ := hp.row
    exact blk_lt e1
  have hs : Aside0 (AllS W W base G B cap xs xs (.slice none 0 0) []) := ⟨⟨hp, Kd.R_nil _ _ _ _ _, Below.refl _ _, Nat.le_refl _, hh, List.Pairwise.nil, fun a h => absurd h (by simp), List.Perm.refl _⟩⟩
  clear hp hh
  go_enter Try.func31, Try.ntmps31
  go_wp2_with fail
  go_loopw [3] (fun v wr => ∃ out rest, lenOf v + rest.length = xs.length ∧ Aside0 (AllS W wr base G B cap xs rest v out)) (fun v _ => xs.length - lenOf v)
  case atStart => exact ⟨[], xs, by simp [lenOf], hs⟩
  case round =>
    clear hs
    obtain ⟨out, rest, hn, hs⟩ := hrel
    go_wp2_with fail
    refine (hand_Len hs.out.p).mono ?_
    rintro e w1 ⟨rfl, rfl⟩
    by_cases h0 : 0 < rest.length
    · have d0 : decide ((rest.length : Int) > 0) = true := decide_eq_true (by omega)
      have d0' : decide (0 < (rest.length : Int)) = true := decide_eq_true (by omega)
      obtain ⟨rest', x, hz, hperm, hp', hmin⟩ := pop_pure h0 hs.out.hp
      go_wp2_with fail
      refine (hand_HPop hs.out.p h0 hz).mono ?_
      rintro e w2 ⟨rfl, hp2, hk2⟩
      have hs2 := Aside0.mk (hs.out.pop (x := x) hp2 hk2 hG hB hGW hBW hb)
      have hlx : out.length ≤ 8796093022207 := by
        have h9 := hs.out.pm.length_eq
        rw [List.length_append] at h9
        omega
      have hL : Aside0 ((out.length + 1) * 16 ≤ 140737488355328) := ⟨by omega⟩
      have hGe : Aside0 (∀ k, u3.ownBlock = some k → W.heap.size ≤ k) := ⟨fun k hk => ((Kd.R_bound hs2.out.2.1).1 k hk).2.1⟩
      have hb0 := below_alloc (Below.refl w2.heap.size w2) (.cells #[.int .i64 x.f0, .int .i64 x.f1] 50 (0, 0))
      have hR0 := Aside0.mk (Kd.R_below hs2.out.2.1 hb0)
      have hP0 := Aside0.mk (hs2.out.1.below hb0)
      have hB0 := Aside0.mk (hs2.out.2.2.1.trans (hb0.mono (Nat.le_trans hb hs2.out.2.2.2)))
      have hS0 := Aside0.mk (Nat.le_trans hs2.out.2.2.2 hb0.size)
      clear hb0
      clear hp2 hk2
      go_upto_region 6 with fail
      have hZ0 := blk_new w2 (.cells #[.int .i64 x.f0, .int .i64 x.f1] 50 (0, 0))
      obtain ⟨W0, hW0⟩ : ∃ W0, W0 = w2.alloc (.cells #[.int .i64 x.f0, .int .i64 x.f1] 50 (0, 0)) := ⟨_, rfl⟩
      rw [← hW0] at hR0 hP0 hB0 hS0 hZ0 ⊢
      clear hW0
      obtain ⟨z, hz0⟩ : ∃ z, z = w2.heap.size := ⟨_, rfl⟩
      rw [← hz0] at hZ0 ⊢
      clear hz0
      have hzc0 : W0.cell? ⟨z, 0, none⟩ = some (.int .i64 x.f0) := (blk_cell hZ0 0).trans rfl
      have hzc1 : W0.cell? ⟨z, 1, none⟩ = some (.int .i64 x.f1) := (blk_cell hZ0 1).trans rfl
      clear hZ0
      go_wp2_with ((with_reducible refine gate_builtin (b := .append) (xs := #[.tmp 20, .tmp 22]) rfl ?_); at_builtin; go_loud (refine Kd.R_append k50 (w0 := W0) (W := W0) W.heap.size rfl (.tmp 20) (.tmp 22) 48 50 (.agg #[(.int .i64 0), (.int .i64 0)]) 16 rfl Try.underlying48 info50 rfl (by decide) (by omega) u3 out x [.int .i64 x.f0, .int .i64 x.f1] (fun _ => True) (fun _ => False) rfl rfl ?aP (fun _ hk => hk.elim) ?aF ?aO ?aB ?aS ?aL ?_); (case aP => exact k50_mkM _ _ _ x); (case aF => exact fun _ _ => trivial); (case aO => exact hR0.out); (case aB => exact Below.refl _ _); (case aS => exact hS0.out); (case aL => exact hL.out); intro v1 w3 ho hb3 hg hat; clear hat; replace ho := Aside0.mk ho; replace hb3 := Aside0.mk hb3; replace hg := Aside0.mk hg)
      go_roundw
      case rel =>
        obtain ⟨A1, c1, rfl⟩ := Kd.R_slice ho.out
        have hlr : rest.length = rest'.length + 1 := by
          rw [← hperm.length_eq]
          simp
        have hlo : lenOf u3 = out.length := by
          obtain ⟨A2, c2, e2⟩ := Kd.R_slice hs.out.r
          rw [e2]
          rfl
        refine ⟨out ++ [x], rest', by simp [lenOf]; omega, ⟨⟨?_, ho.out, ?_, ?_, hp', ?_, ?_, ?_⟩⟩⟩
        · exact hP0.out.grown hg.out (fun h => by have := hGe.out G h.symm; omega) (fun h => by have := hGe.out B h.symm; omega)
        · exact hB0.out.trans (hb3.out.mono hb)
        · exact Nat.le_trans hS0.out hb3.out.size
        · refine List.pairwise_append.2 ⟨hs.out.so, by simp, fun a ha c hc => ?_⟩
          rw [List.mem_singleton] at hc
          subst hc
          exact hs.out.le a ha c (hperm.mem_iff.1 List.mem_cons_self)
        · intro a ha c hc
          rcases List.mem_append.1 ha with ha | ha
          · exact hs.out.le a ha c (hperm.mem_iff.1 (List.mem_cons_of_mem _ hc))
          · rw [List.mem_singleton] at ha
            subst ha
            exact hmin c hc
        · rw [List.append_assoc]
          exact (List.Perm.append_left out hperm).trans hs.out.pm
      case measure =>
        obtain ⟨A1, c1, rfl⟩ := Kd.R_slice ho.out
        have hlo : lenOf u3 = out.length := by
          obtain ⟨A2, c2, e2⟩ := Kd.R_slice hs.out.r
          rw [e2]
          rfl
        show xs.length - lenOf (.slice A1 (out ++ [x]).length c1) < xs.length - lenOf u3
        rw [hlo] at hn ⊢
        simp only [lenOf, List.length_append, List.length_singleton]
        omega
    · have d0 : decide ((rest.length : Int) > 0) = false := decide_eq_false (by omega)
      have d0' : decide (0 < (rest.length : Int)) = false := decide_eq_false (by omega)
      go_wp2_with fail
      go_ret
      have hr0 : rest = [] := List.eq_nil_of_length_eq_zero (by omega)
      subst hr0
      have hpm := hs.out.pm
      rw [List.append_nil] at hpm
      exact ⟨_, out, rfl, Kd.R_lower hs.out.r hb, hs.out.b, hs.out.so, hpm⟩
set_option maxHeartbeats 4000000 in
set_option maxRecDepth 100000 in
theorem hand_all0 {W : World} {base G : Nat} {v : Value} (hp : PV W base G v []) :
    Calls Try.prog 31 #[.pointer (some ⟨G, 0, none⟩)] W fun e w' => ∃ v0_, e = .returned v0_ ∧ Kd.R k50 50 w' base (fun _ => True) v0_ ([] : List S50) ∧ Below base W w' := by
  obtain ⟨A, c, rfl⟩ := Kd.R_slice hp.r
  have hg : Aside0 (W.heap[G]? = some (.cells #[.slice A 0 c] 62 (0, 0))) := ⟨hp.g⟩
  clear hp
  go_enter Try.func31, Try.ntmps31
  go_wp2_with fail
  go_loopw [3] (fun v wr => v = .slice none 0 0 ∧ W = wr) (fun v _ => 0)
  case atStart => exact ⟨rfl, rfl⟩
  case round =>
    obtain ⟨rfl, rfl⟩ := hrel
    go_wp2_with fail
    refine (hand_LenV hg.out).mono ?_
    rintro e w1 ⟨rfl, rfl⟩
    go_wp2_with fail
    go_ret
    exact ⟨_, rfl, Kd.R_nil _ _ _ _ _, Below.refl _ _⟩
theorem hand_allPV {W : World} {base G : Nat} {v : Value} {xs : List S50} (hp : PV W base G v xs) (hh : Hp 0 xs.length xs) (hG : base ≤ G) (hlen : xs.length ≤ 8796093022207) :
    Calls Try.prog 31 #[.pointer (some ⟨G, 0, none⟩)] W fun e w' => ∃ v0_ out, e = .returned v0_ ∧ Kd.R k50 50 w' base (fun _ => True) v0_ out ∧ Below base W w' ∧ Sorted out ∧ out.Perm xs := by
  by_cases h0 : 0 < xs.length
  · obtain ⟨B, cap, hv, hB, hpile⟩ := hp.pile h0 (by omega)
    exact hand_all hpile hh hG hB hp.b hlen
  · have h0 : xs = [] := List.eq_nil_of_length_eq_zero (by omega)
    subst h0
    refine (hand_all0 hp).mono ?_
    rintro e w' ⟨v0, rfl, hR, hB⟩
    exact ⟨v0, [], rfl, hR, hB, List.Pairwise.nil, List.Perm.refl _⟩
set_option maxHeartbeats 4000000 in
set_option maxRecDepth 100000 in
theorem hand_Sort (A0 : Option Addr) (c0 : Nat) (l0 : List S50) (w : World) (hr0 : Kd.C k50 w A0 l0.length l0) (hc0 : l0.length ≤ c0) (hl : l0.length ≤ 8796093022207) :
    Calls Try.prog 27 #[.slice A0 l0.length c0] w fun e w' => ∃ v0_ out, e = .returned v0_ ∧ Kd.R k50 50 w' w.heap.size (fun _ => True) v0_ out ∧ Below w.heap.size w w' ∧ Sorted out ∧ out.Perm l0 := by
  obtain ⟨hh0, hpm⟩ := hpf_all (n := l0.length) (l0.length / 2) l0 (Nat.le_refl _) (hp_half _ _)
  have hh : Hp 0 (hpf l0.length (l0.length / 2) l0).length (hpf l0.length (l0.length / 2) l0) := by
    rw [hpm.length_eq]
    exact hh0
  clear hh0
  have hll := hpm.length_eq
  replace hr0 := Aside0.mk hr0
  replace hh := Aside0.mk hh
  replace hpm := Aside0.mk hpm
  replace hll := Aside0.mk hll
  go_enter Try.func27, Try.ntmps27
  go_wp2_with fail
  refine (hand_of A0 c0 l0 w hr0.out hc0 hl).mono ?_
  rintro e w1 ⟨G, rfl, hof⟩
  obtain ⟨hg, hb, v, hpv⟩ := hof
  replace hb := Aside0.mk hb
  replace hpv := Aside0.mk hpv
  go_wp2_with fail
  have hl2 : (hpf l0.length (l0.length / 2) l0).length ≤ 8796093022207 := by rw [hll.out]; exact hl
  have hh2 : Hp 0 (hpf l0.length (l0.length / 2) l0).length (hpf l0.length (l0.length / 2) l0) := hh.out
  refine (hand_allPV hpv.out hh2 hg hl2).mono ?_
  clear hl2 hh2
  rintro e w2 ⟨v0, out, rfl, hR, hB, hs, hp⟩
  replace hR := Aside0.mk hR
  replace hB := Aside0.mk hB
  replace hs := Aside0.mk hs
  replace hp := Aside0.mk hp
  go_wp2_with fail
  go_ret
  exact ⟨_, out, rfl, hR.out, hb.out.trans hB.out, hs.out, hp.out.trans hpm.out⟩
end Go.Proofs.Ytmknoiiflciclaa.PA.Q
namespace Go.Proofs.Ytmknoiiflciclaa.PA
open Go.RowKit Go.Proofs.YtmknoiiflciclaaW.PrintWords Go.Proofs.YtmknoiiflciclaaW.PrintLast Go.Proofs.YtmknoiiflciclaaW.PrintMore
set_option linter.unusedVariables false
set_option linter.unusedSimpArgs false
def insI : List S50 → S50 → List S50
  | [], x => [x]
  | y :: ys, x => if Q.ah x y = true then x :: y :: ys else y :: insI ys x
/-- Items, ordered. -/
def isortI (l : List S50) : List S50 := l.foldr (fun x acc => insI acc x) []
theorem insI_perm : ∀ (ys : List S50) (x : S50), (insI ys x).Perm (x :: ys)
  | [], x => List.Perm.refl _
  | y :: ys, x => by
    rw [insI]
    split
    · exact List.Perm.refl _
    · exact ((insI_perm ys x).cons y).trans (List.Perm.swap x y ys)
theorem isortI_perm : ∀ l : List S50, (isortI l).Perm l
  | [] => List.Perm.refl _
  | x :: l => (insI_perm (isortI l) x).trans ((isortI_perm l).cons x)
theorem ah_iff (a b : S50) : Q.ah a b = true ↔ a.f0 < b.f0 ∨ a.f0 = b.f0 ∧ a.f1 < b.f1 := by
  unfold Q.ah
  rw [decide_eq_true_iff]
theorem ah_false (a b : S50) : Q.ah a b = false ↔ b.f0 < a.f0 ∨ b.f0 = a.f0 ∧ b.f1 ≤ a.f1 := by
  unfold Q.ah
  rw [decide_eq_false_iff_not]
  omega
theorem insI_ord : ∀ (ys : List S50) (x : S50), Q.Sorted ys → Q.Sorted (insI ys x)
  | [], x, _ => by simp [insI, Q.Sorted]
  | y :: ys, x, h => by
    obtain ⟨h1, h2⟩ := List.pairwise_cons.1 h
    rw [insI]
    split
    · rename_i hx
      refine List.pairwise_cons.2 ⟨fun z hz => ?_, h⟩
      rw [ah_iff] at hx
      show Q.ah z x = false
      rw [ah_false]
      rcases List.mem_cons.1 hz with rfl | hz
      · omega
      · have := h1 z hz
        have : Q.ah z y = false := this
        rw [ah_false] at this
        omega
    · rename_i hx
      have hx := Bool.eq_false_iff.mpr hx
      refine List.pairwise_cons.2 ⟨fun z hz => ?_, insI_ord ys x h2⟩
      rcases List.mem_cons.1 ((insI_perm ys x).mem_iff.1 hz) with rfl | hz
      · exact hx
      · exact h1 z hz
theorem isortI_ord : ∀ l : List S50, Q.Sorted (isortI l)
  | [] => List.Pairwise.nil
  | x :: l => insI_ord _ x (isortI_ord l)
theorem isortI_unique {l l' : List S50} (h : Q.Sorted l') (p : l'.Perm l) : isortI l = l' := Q.sorted_unique (isortI_ord l) h ((isortI_perm l).trans p.symm)
end Go.Proofs.Ytmknoiiflciclaa.PA
