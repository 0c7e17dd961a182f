/- The law DoverTurned as a statement on rows. -/
import Derived.Test.YtmknoiiflciclaaDoverCanA
import Derived.Test.YtmknoiiflciclaaDoverE
import Derived.Test.YtmknoiiflciclaaDoverFit
import Derived.Test.YtmknoiiflciclaaDoverOrder
import Derived.Test.YtmknoiiflciclaaDoverSpec
import Derived.Test.YtmknoiiflciclaaDoverVal
import Derived.Test.YtmknoiiflciclaaPAx0
import Derived.Test.YtmknoiiflciclaaPAx16
import Derived.Test.YtmknoiiflciclaaPAx20
import Derived.Test.YtmknoiiflciclaaPAx22
import Derived.Test.YtmknoiiflciclaaPAx3
import Derived.Test.YtmknoiiflciclaaPAx4
import Derived.Test.YtmknoiiflciclaaPAx8
import Derived.Test.YtmknoiiflciclaaPAx9
import Derived.Test.YtmknoiiflciclaaDoverFit
import Derived.Test.YtmknoiiflciclaaDoverCanA
import Derived.Test.YtmknoiiflciclaaDoverOrder
namespace Go.Proofs.Ytmknoiiflciclaa.Pure
set_option linter.unusedVariables false
set_option linter.unusedSimpArgs false
open Go.RowKit Go.Proofs.Ytmknoiiflciclaa.PA Go.Proofs.YtmknoiiflciclaaW.PrintWords Go.Proofs.YtmknoiiflciclaaW.PrintLast
theorem turned_awake : ∀ m, fuseelaw13_awake.f (60 + m) = some true
  | 0 => by kernel_rfl
  | m + 1 => fuseelaw13_awake.mono (60 + m) _ (turned_awake m)
theorem tsucc {i : Nat} (h : i < 1000000) : wrap64 ((i : Int) + 1) = ((i + 1 : Nat) : Int) := by
  rw [show wrap64 ((i : Int) + 1) = (i : Int) + 1 from by unfold wrap64; omega]
  omega
theorem trd_get {G : List Int} {i : Nat} (h : i < G.length) : rd G (i : Int) = G[i] := by
  unfold rd
  rw [Int.toNat_natCast, List.getD_eq_getElem?_getD, List.getElem?_eq_getElem h, Option.getD_some]
/-! ### the same jobs in another order -/
theorem getM_perm {M M' : List S29} (hn : Apart M) (p : M.Perm M') (k : Int) : getM M k = getM M' k := by
  cases h : getM M' k with
  | none =>
    rw [getM_none] at h ⊢
    exact fun e => h ((p.map (·.f0)).mem_iff.1 e)
  | some a =>
    obtain ⟨h1, h2⟩ := getM_mem h
    rw [← h2]
    exact getM_of hn (p.mem_iff.2 h1)
theorem delM_filter : ∀ {M : List S29} (hn : Apart M) (k : Int), delM M k = M.filter (fun a => decide (a.f0 ≠ k))
  | [], _, _ => rfl
  | a :: M, hn, k => by
    obtain ⟨h1, h2⟩ := hn.cons
    rw [delM]
    by_cases h : a.f0 = k
    · rw [if_pos h, List.filter_cons_of_neg (by simp [h])]
      refine (List.filter_eq_self.2 fun x hx => ?_).symm
      rw [decide_eq_true_iff]
      exact fun e => h1 (List.mem_map.2 ⟨x, hx, by rw [e, h]⟩)
    · rw [if_neg h, List.filter_cons_of_pos (by simp [h]), delM_filter h2 k]
theorem picks_perm {now : Int} : ∀ (T M M' : List S29) (G G' : List Int) (cur : Int), M.Perm M' → Apart M → G.Perm G' →
    (picks T now M G cur).1.Perm (picks T now M' G' cur).1 ∧ Apart (picks T now M G cur).1 ∧ (picks T now M G cur).2.1.Perm (picks T now M' G' cur).2.1 ∧ (picks T now M G cur).2.2 = (picks T now M' G' cur).2.2
  | [], M, M', G, G', cur, p, hn, q => ⟨p, hn, q, rfl⟩
  | a :: T, M, M', G, G', cur, p, hn, q => by
    have hb : beatenS M cur a = beatenS M' cur a := by
      unfold beatenS
      rw [getM_perm hn p]
    rw [picks, picks, ← hb]
    by_cases c1 : a.f0 = cur ∨ laxS a now > 0
    · rw [if_pos c1, if_pos c1]
      exact picks_perm T M M' G G' cur p hn q
    · rw [if_neg c1, if_neg c1]
      by_cases c2 : beatenS M cur a = true
      · rw [if_pos c2, if_pos c2]
        exact picks_perm T M M' G G' a.f0 p hn q
      · rw [if_neg c2, if_neg c2]
        refine picks_perm T _ _ _ _ cur ?_ (hn.sub (delM_sub M a.f0)) (q.append_right _)
        rw [delM_filter hn, delM_filter (hn.perm p.symm)]
        exact p.filter _
theorem pick_perm {l l' : List S29} {cur now : Int} (h : MayP l now) (p : l'.Perm l) : (pickS l' cur now).1 = (pickS l cur now).1 ∧ (pickS l' cur now).2.Perm (pickS l cur now).2 := by
  have h' := h.perm p
  obtain ⟨M, G, hs⟩ : ∃ M G, (M, G) = struck l now [] [] := ⟨_, _, rfl⟩
  obtain ⟨M', G', hs'⟩ : ∃ M G, (M, G) = struck l' now [] [] := ⟨_, _, rfl⟩
  obtain ⟨h1, h2, h3, h4⟩ := start_there h hs
  obtain ⟨h1', h2', h3', h4'⟩ := start_there h' hs'
  have pM : M'.Perm M := by
    rw [h1, h1']
    exact p.filter _
  have pG : G'.Perm G := by
    rw [h2, h2']
    exact (p.filter _).map _
  have hst : stillS M' = stillS M := by
    funext a
    rw [Bool.eq_iff_iff, h3, h3', p.mem_iff]
  have his : isort l' = isort l := isort_perm_eq p h'.ap
  unfold pickS
  rw [if_pos ((mayS_iff _ _).2 h), if_pos ((mayS_iff _ _).2 h'), ← hs, ← hs']
  simp only []
  rw [hst, his]
  generalize (isort l).filter (stillS M) = T
  cases T with
  | nil => exact ⟨rfl, pG⟩
  | cons a T =>
    simp only []
    by_cases hf : fitsS (a :: T) now = true
    · rw [if_pos hf, if_pos hf]
      exact ⟨rfl, pG⟩
    · rw [if_neg hf, if_neg hf]
      obtain ⟨q1, q2, q3, q4⟩ := picks_perm (now := now) (a :: T) M' M G' G cur pM h4' pG
      obtain ⟨A, B, C, e⟩ : ∃ A B C, picks (a :: T) now M' G' cur = (A, B, C) := ⟨_, _, _, rfl⟩
      obtain ⟨A', B', C', e'⟩ : ∃ A B C, picks (a :: T) now M G cur = (A, B, C) := ⟨_, _, _, rfl⟩
      rw [e, e'] at q1 q3 q4
      rw [e] at q2
      rw [e, e']
      simp only [] at q1 q2 q3 q4 ⊢
      subst q4
      have hst2 : stillS A = stillS A' := by
        funext x
        unfold stillS
        rw [getM_perm q2 q1]
      unfold lastS
      rw [getM_perm q2 q1, hst2]
      by_cases hc : (getM A' C).isSome = true
      · rw [if_pos hc, if_pos hc]
        exact ⟨rfl, q3⟩
      · rw [if_neg hc, if_neg hc]
        cases (a :: T).find? (stillS A') with
        | none => exact ⟨rfl, q3⟩
        | some b => exact ⟨rfl, q3⟩
theorem tints_l0 (G : List Int) (hG : G.length ≤ 1000) : ∀ (m k i : Nat), m + i = G.length → m < k → fuseeref13_Ints.l0 k G G (i : Int) = some true
  | 0, k, i, hm, hk => by
    obtain ⟨k, rfl⟩ : ∃ k', k = k' + 1 := ⟨k - 1, by omega⟩
    rw [fuseeref13_Ints.l0, if_neg (by omega)]
  | m + 1, k, i, hm, hk => by
    obtain ⟨k, rfl⟩ : ∃ k', k = k' + 1 := ⟨k - 1, by omega⟩
    rw [fuseeref13_Ints.l0, if_pos (by omega), if_pos (by omega), if_pos (by omega), if_pos rfl, tsucc (by omega), tints_l0 G hG m k (i + 1) (by omega) (by omega)]
theorem tints_self {G : List Int} {k : Nat} (hG : G.length ≤ 1000) (hk : G.length < k) : fuseeref13_Ints.f k G G = some true := by
  rw [fuseeref13_Ints.f, if_pos rfl]
  exact tints_l0 G hG G.length k 0 (by omega) hk
/-! ### the walk's loops -/
section
variable (l back : List S29) (now id id' : Int) (G H : List Int)
theorem turned_l2 (hG : G.length ≤ 100) (hH : H.length ≤ 100) (i : Nat) (hi : i < G.length) : ∀ (m k j : Nat) (b : Bool), m + j = H.length → (b = true ∨ ∃ c, j ≤ c ∧ ∃ hc : c < H.length, H[c] = G[i]) →
    fuseelaw13_DoverTurned.l2 (k + m + 1) l now back id G id' H (i : Int) b (j : Int) = fuseelaw13_DoverTurned.l1 k l now back id G id' H ((i + 1 : Nat) : Int)
  | 0, k, j, b, hm, hb => by
    have hbt : b = true := by
      rcases hb with h | ⟨c, h1, h2, _⟩
      · exact h
      · omega
    rw [fuseelaw13_DoverTurned.l2, if_neg (by omega), if_pos hbt, tsucc (by omega)]
  | m + 1, k, j, b, hm, hb => by
    rw [fuseelaw13_DoverTurned.l2, if_pos (by omega), tsucc (by omega)]
    by_cases hbt : b = true
    · rw [if_pos hbt]
      exact turned_l2 hG hH i hi m k (j + 1) true (by omega) (.inl rfl)
    · rw [if_neg hbt, if_pos (by omega), if_pos (by omega), if_pos (by omega), trd_get hi, trd_get (show j < H.length by omega)]
      refine turned_l2 hG hH i hi m k (j + 1) _ (by omega) ?_
      by_cases he : H[j]'(by omega) = G[i]
      · exact .inl (by simp [he])
      · refine .inr ?_
        rcases hb with h | ⟨c, h1, h2, h3⟩
        · exact absurd h hbt
        · refine ⟨c, ?_, h2, h3⟩
          rcases Nat.lt_or_ge j c with h4 | h4
          · exact h4
          · have : j = c := by omega
            subst this
            exact absurd h3 he
theorem turned_l1 (hG : G.length ≤ 100) (hH : H.length ≤ 100) (hm' : ∀ g ∈ G, g ∈ H) (hid : id = id') (hlen : G.length = H.length) (fin : ∀ k, 500 < k → ((dover_Fits.f k l now).bind fun t278 => ((dover_Fits.f k back now).bind fun t279 => (if (t278 == t279) = true then ((dover_Order.f k l).bind fun t280 => ((dover_Order.f k back).bind fun t283 => ((fuseeref13_Ints.f k t280 t283).bind fun t286 => (some t286)))) else (some false)))) = some true) : ∀ (m k i : Nat), m + i = G.length → 501 < k →
    fuseelaw13_DoverTurned.l1 (k + m * (H.length + 2)) l now back id G id' H (i : Int) = some true
  | 0, k, i, hm, hk => by
    obtain ⟨k, rfl⟩ : ∃ k', k = k' + 1 := ⟨k - 1, by omega⟩
    rw [Nat.zero_mul, Nat.add_zero, fuseelaw13_DoverTurned.l1, if_neg (by omega), if_pos hid, if_pos (by omega)]
    exact fin k (by omega)
  | m + 1, k, i, hm, hk => by
    have hi : i < G.length := by omega
    obtain ⟨c, hc, hce⟩ := List.mem_iff_getElem.1 (hm' G[i] (List.getElem_mem _))
    rw [show k + (m + 1) * (H.length + 2) = ((k + m * (H.length + 2)) + H.length + 1) + 1 from by rw [Nat.add_mul]; omega, fuseelaw13_DoverTurned.l1, if_pos (by omega)]
    have := turned_l2 l back now id id' G H hG hH i hi H.length (k + m * (H.length + 2)) 0 false (by omega) (.inr ⟨c, Nat.zero_le _, hc, hce⟩)
    rw [show ((0 : Nat) : Int) = 0 from rfl] at this
    rw [this]
    exact turned_l1 hG hH hm' hid hlen fin m k (i + 1) (by omega) hk
end
theorem turned_l0 (l : List S29) (cur now : Int) (hl : l.length ≤ 100) : ∀ (i k : Nat) (o : List S29), i ≤ l.length → o.length + i ≤ 100 → 
    fuseelaw13_DoverTurned.l0 (k + i + 1) l cur now o (i : Int) = fuseelaw13_DoverTurned.l0 (k + 1) l cur now (o ++ (l.take i).reverse) 0
  | 0, k, o, hi, ho => by simp
  | i + 1, k, o, hi, ho => by
    have hw : wrap64 (((i + 1 : Nat) : Int) - 1) = (i : Int) := by
      rw [show ((i + 1 : Nat) : Int) - 1 = (i : Int) from by omega, w64 (by omega)]
    rw [fuseelaw13_DoverTurned.l0, if_pos (by omega), hw, if_pos (by omega), if_pos (by omega), if_pos (by omega), rd_at]
    have := turned_l0 l cur now hl i k (o ++ [at_ l i]) (by omega) (by simp; omega)
    rw [show k + (i + 1) = k + i + 1 from rfl]
    refine Eq.trans this ?_
    rw [List.take_succ_eq_append_getElem (show i < l.length by omega), List.reverse_append, at_get (show i < l.length by omega)]
    simp
theorem DoverTurned : ∀ (l0 : List S29) (a1 a2 : Int), l0.length ≤ 9223372036854775807 → (Lit.int .i64 a1).wf = true → (Lit.int .i64 a2).wf = true → ∃ k, fuseelaw13_DoverTurned.f k l0 a1 a2 = some true := by
  intro l cur now _ _ _
  refine ⟨5002, ?_⟩
  unfold fuseelaw13_DoverTurned.f dover_May.f
  rw [show fuseelaw13_awake.f 5002 = some true from turned_awake 4942, Option.bind_some, if_pos rfl, Option.bind_some]
  cases hm : mayS l now with
  | false => rw [fuseelaw13_DoverTurned.j0, Bool.not_false, if_pos rfl]
  | true =>
    have h := (mayS_iff l now).1 hm
    have hle := h.le
    have p : l.reverse.Perm l := List.reverse_perm l
    obtain ⟨p1, p2⟩ := pick_perm (cur := cur) h p
    have hg := pick_ok (cur := cur) h
    have hgl : (pickS l cur now).2.length ≤ 4 := by
      rcases hg.is with ⟨_, e⟩ | ⟨_, _, _, _, e⟩ <;> omega
    have hgl' := p2.length_eq
    rw [fuseelaw13_DoverTurned.j0, Bool.not_true, if_neg (by simp)]
    obtain ⟨k, hk⟩ : ∃ k, 5001 = k + l.length + 1 ∧ 4000 < k := ⟨5001 - l.length - 1, by omega, by omega⟩
    rw [hk.1, turned_l0 l cur now (by omega) l.length k [] (Nat.le_refl _) (by simp; omega), List.take_length, List.nil_append, fuseelaw13_DoverTurned.l0, if_neg (by omega)]
    unfold dover_Pick.f
    rw [Option.bind_some, Option.bind_some]
    obtain ⟨K, hK⟩ : ∃ K, k = K + (pickS l cur now).2.length * ((pickS l.reverse cur now).2.length + 2) ∧ 501 < K := ⟨k - (pickS l cur now).2.length * ((pickS l.reverse cur now).2.length + 2), by
      have : (pickS l cur now).2.length * ((pickS l.reverse cur now).2.length + 2) ≤ 4 * 6 := Nat.mul_le_mul hgl (by omega)
      omega, by
      have : (pickS l cur now).2.length * ((pickS l.reverse cur now).2.length + 2) ≤ 4 * 6 := Nat.mul_le_mul hgl (by omega)
      omega⟩
    rw [hK.1]
    have := turned_l1 l l.reverse now (pickS l cur now).1 (pickS l.reverse cur now).1 (pickS l cur now).2 (pickS l.reverse cur now).2 (by omega) (by omega) (fun g hgm => p2.mem_iff.2 hgm) p1.symm hgl'.symm (fun k hk => by
      rw [fits_f (by omega) (by omega), fits_f (by simp; omega) (by omega), Option.bind_some, Option.bind_some]
      have hfe : fitsS l.reverse now = fitsS l now := by
        unfold fitsS
        rw [isort_perm_eq p (h.perm p).ap]
      rw [hfe, if_pos (by simp), order_f (by omega) (by omega), order_f (by simp; omega) (by omega), Option.bind_some, Option.bind_some, order_perm p, tints_self (by rw [List.length_map, (isortI_perm _).length_eq, List.length_map]; omega) (by rw [List.length_map, (isortI_perm _).length_eq, List.length_map]; omega)]
      rfl) (pickS l cur now).2.length K 0 (by omega) hK.2
    exact this
end Go.Proofs.Ytmknoiiflciclaa.Pure
