/- The law DoverRival as a statement on rows. -/
import Derived.Test.YtmknoiiflciclaaDoverE
import Derived.Test.YtmknoiiflciclaaDoverFit
import Derived.Test.YtmknoiiflciclaaDoverSpec
import Derived.Test.YtmknoiiflciclaaDoverVal
import Derived.Test.YtmknoiiflciclaaPAx0
import Derived.Test.YtmknoiiflciclaaPAx12
import Derived.Test.YtmknoiiflciclaaPAx3
import Derived.Test.YtmknoiiflciclaaPAx8
import Derived.Test.YtmknoiiflciclaaPAx9
import Derived.Test.YtmknoiiflciclaaDoverFit
namespace Go.Proofs.Ytmknoiiflciclaa.Pure
set_option linter.unusedVariables false
set_option linter.unusedSimpArgs false
open Go.RowKit Go.Proofs.Ytmknoiiflciclaa.PA Go.Proofs.YtmknoiiflciclaaW.PrintWords Go.Proofs.YtmknoiiflciclaaW.PrintLast
theorem rival_awake : ∀ m, fuseelaw13_awake.f (60 + m) = some true
  | 0 => by kernel_rfl
  | m + 1 => fuseelaw13_awake.mono (60 + m) _ (rival_awake m)
theorem rsucc {i : Nat} (h : i < 1000000) : wrap64 ((i : Int) + 1) = ((i + 1 : Nat) : Int) := by
  rw [show wrap64 ((i : Int) + 1) = (i : Int) + 1 from by unfold wrap64; omega]
  omega
/-- One runs, if it is the one, is not ended, and must not have ended. -/
def tick (w τ : Int) (x : S29) : S29 := if x.f0 = w then (if x.f4 < x.f2 then (if τ < x.f1 then ⟨x.f0, x.f1, x.f2, x.f3, wrap64 (x.f4 + 1)⟩ else x) else x) else x
def ticks : List Int → Int → Nat → List S29 → List S29
  | [], _, _, L => L
  | w :: ws, now, t, L => ticks ws now (t + 1) (L.map (tick w (wrap64 (now + (t : Int)))))
/-- What is left of those that must have ended by D. -/
def due : List S29 → Int → Int
  | [], _ => 0
  | a :: s, D => (if a.f1 ≤ D then a.f2 - a.f4 else 0) + due s D
theorem due_perm {s s' : List S29} (p : s.Perm s') (D : Int) : due s D = due s' D := by
  induction p with
  | nil => rfl
  | cons a _ ih => rw [due, due, ih]
  | swap a b l =>
    rw [due, due, due, due]
    omega
  | trans _ _ h1 h2 => rw [h1, h2]
def Inv (L : List S29) : Prop := ∀ x ∈ L, 0 ≤ x.f4 ∧ x.f2 ≤ 40
theorem tick_inv {w τ : Int} {x : S29} (h : 0 ≤ x.f4 ∧ x.f2 ≤ 40) : 0 ≤ (tick w τ x).f4 ∧ (tick w τ x).f2 ≤ 40 := by
  unfold tick
  split
  · split
    · split
      · simp only []
        rw [w64 (by omega)]
        omega
      · exact h
    · exact h
  · exact h
theorem tick_f0 (w τ : Int) (x : S29) : (tick w τ x).f0 = x.f0 := by
  unfold tick
  split
  · split
    · split <;> rfl
    · rfl
  · rfl
theorem Inv.map {L : List S29} (h : Inv L) (w τ : Int) : Inv (L.map (tick w τ)) := fun x hx => by
  obtain ⟨y, hy, rfl⟩ := List.mem_map.1 hx
  exact tick_inv (h y hy)
theorem apart_tick {L : List S29} (h : Apart L) (w τ : Int) : Apart (L.map (tick w τ)) := by
  unfold Apart at h ⊢
  rw [List.map_map]
  have : L.map ((fun x => x.f0) ∘ tick w τ) = L.map (fun x => x.f0) := List.map_congr_left (fun x _ => tick_f0 w τ x)
  rw [this]
  exact h
theorem tick_none : ∀ (L : List S29) (w τ : Int), (∀ x ∈ L, x.f0 ≠ w) → L.map (tick w τ) = L
  | [], _, _, _ => rfl
  | x :: L, w, τ, h => by
    have hx : tick w τ x = x := by
      unfold tick
      rw [if_neg (h x (List.mem_cons_self ..))]
    rw [List.map_cons, hx, tick_none L w τ (fun y hy => h y (List.mem_cons_of_mem _ hy))]
theorem due_tick : ∀ (L : List S29) (w τ D : Int), Apart L → Inv L → due L D ≤ due (L.map (tick w τ)) D + (if τ < D then 1 else 0)
  | [], w, τ, D, _, _ => by
    rw [List.map_nil, due]
    split <;> omega
  | x :: L, w, τ, D, hn, hi => by
    obtain ⟨h1, h2⟩ := hn.cons
    have hx := hi x (List.mem_cons_self ..)
    rw [List.map_cons, due, due]
    by_cases hw : x.f0 = w
    · rw [tick_none L w τ (fun y hy e => h1 (List.mem_map.2 ⟨y, hy, by rw [e, hw]⟩))]
      unfold tick
      rw [if_pos hw]
      by_cases c1 : x.f4 < x.f2
      · rw [if_pos c1]
        by_cases c2 : τ < x.f1
        · rw [if_pos c2]
          simp only []
          rw [w64 (x := x.f4 + 1) (by omega)]
          by_cases c3 : x.f1 ≤ D
          · rw [if_pos c3, if_pos c3, if_pos (by omega)]
            omega
          · rw [if_neg c3, if_neg c3]
            split <;> omega
        · rw [if_neg c2]
          split <;> split <;> omega
      · rw [if_neg c1]
        split <;> split <;> omega
    · have hx2 : tick w τ x = x := by
        unfold tick
        rw [if_neg hw]
      have ih := due_tick L w τ D h2 (fun y hy => hi y (List.mem_cons_of_mem _ hy))
      rw [hx2]
      omega
theorem due_ticks : ∀ (ws : List Int) (now : Int) (t : Nat) (L : List S29) (D : Int), 0 ≤ now → now ≤ 274877906944 → t + ws.length ≤ 1000 → Apart L → Inv L → due L D ≤ due (ticks ws now t L) D + (if now + (t : Int) < D then D - (now + (t : Int)) else 0)
  | [], now, t, L, D, _, _, _, _, _ => by
    rw [ticks]
    split <;> omega
  | w :: ws, now, t, L, D, h0, h1, ht, hn, hi => by
    rw [List.length_cons] at ht
    have e1 : wrap64 (now + (t : Int)) = now + (t : Int) := w64 (by omega)
    rw [ticks, e1]
    have a := due_tick L w (now + (t : Int)) D hn hi
    have b := due_ticks ws now (t + 1) (L.map (tick w (now + (t : Int)))) D h0 h1 (by omega) (apart_tick hn _ _) (hi.map _ _)
    by_cases c : now + (t : Int) < D
    · rw [if_pos c] at a ⊢
      split at b <;> omega
    · rw [if_neg c] at a ⊢
      rw [if_neg (by omega)] at b
      omega
theorem ticks_inv : ∀ (ws : List Int) (now : Int) (t : Nat) (L : List S29), (ticks ws now t L).length = L.length
  | [], now, t, L => rfl
  | w :: ws, now, t, L => by
    rw [ticks, ticks_inv ws]
    simp
theorem due_done : ∀ (L : List S29) (D : Int), (∀ x ∈ L, ¬ x.f4 < x.f2) → due L D ≤ 0
  | [], D, _ => Int.le_refl _
  | x :: L, D, h => by
    have := h x (List.mem_cons_self ..)
    have ih := due_done L D (fun y hy => h y (List.mem_cons_of_mem _ hy))
    rw [due]
    split <;> omega
theorem due_pos : ∀ (L : List S29) (D : Int), (∀ x ∈ L, x.f4 ≤ x.f2) → 0 ≤ due L D
  | [], D, _ => Int.le_refl _
  | x :: L, D, h => by
    have := h x (List.mem_cons_self ..)
    have ih := due_pos L D (fun y hy => h y (List.mem_cons_of_mem _ hy))
    rw [due]
    split <;> omega
theorem due_mem : ∀ (L : List S29) (D : Int), (∀ x ∈ L, x.f4 ≤ x.f2) → ∀ x ∈ L, x.f1 ≤ D → x.f2 - x.f4 ≤ due L D
  | [], D, _, x, hx, _ => by simp at hx
  | y :: L, D, h, x, hx, hD => by
    have hp := due_pos L D (fun z hz => h z (List.mem_cons_of_mem _ hz))
    rw [due]
    rcases List.mem_cons.1 hx with rfl | hx
    · rw [if_pos hD]
      omega
    · have := due_mem L D (fun z hz => h z (List.mem_cons_of_mem _ hz)) x hx hD
      have := h y (List.mem_cons_self ..)
      split <;> omega
theorem fits_of_due : ∀ (s : List S29) (now : Int), Ord s → (∀ x ∈ s, 1 ≤ x.f2 - x.f4 ∧ x.f2 - x.f4 ≤ 40 ∧ leftS x = x.f2 - x.f4) → 0 ≤ now → now + 40 * (s.length : Int) ≤ 1000000000000000 → (∀ x ∈ s, due s x.f1 ≤ x.f1 - now) → fitsL s now = true
  | [], now, _, _, _, _, _ => rfl
  | a :: s, now, ho, hs, h0, hm, hd => by
    obtain ⟨o1, o2⟩ := List.pairwise_cons.1 ho
    obtain ⟨a1, a2, a3⟩ := hs a (List.mem_cons_self ..)
    rw [List.length_cons] at hm
    have hda := hd a (List.mem_cons_self ..)
    rw [due, if_pos (Int.le_refl _)] at hda
    have hp := due_pos s a.f1 (fun x hx => by have := hs x (List.mem_cons_of_mem _ hx); omega)
    rw [fitsL, a3, w64 (x := now + (a.f2 - a.f4)) (by omega), if_neg (by omega)]
    refine fits_of_due s _ o2 (fun x hx => hs x (List.mem_cons_of_mem _ hx)) (by omega) (by omega) (fun x hx => ?_)
    have hdx := hd x (List.mem_cons_of_mem _ hx)
    have hax := o1 x hx
    rw [ahd_false] at hax
    rw [due, if_pos (by omega)] at hdx
    omega
theorem rival_fits {l : List S29} {now : Int} (h : MayP l now) (hn : now ≤ 274877906944) (who : List Int) (hw : who.length ≤ 400) (hd : ∀ x ∈ ticks who now 0 l, ¬ x.f4 < x.f2) : fitsS l now = true := by
  have hle := h.le
  have hn0 := h.n0
  have hil : (isort l).length ≤ 4 := by
    rw [(isort_perm l).length_eq]
    exact hle
  refine fits_of_due (isort l) now (isort_ord l) (fun x hx => ?_) hn0 (by omega) (fun x hx => ?_)
  · have hx := (isort_perm l).mem_iff.1 hx
    have := h.ok x hx
    rw [h.left hx]
    omega
  · have hx := (isort_perm l).mem_iff.1 hx
    have a := due_ticks who now 0 l x.f1 hn0 hn (by omega) h.ap (fun y hy => by have := h.ok y hy; omega)
    have b := due_done (ticks who now 0 l) x.f1 hd
    rw [due_perm (isort_perm l)]
    have hok := h.ok x hx
    by_cases c : now + ((0 : Nat) : Int) < x.f1
    · rw [if_pos c] at a
      omega
    · rw [if_neg c] at a
      have hpos : x.f2 - x.f4 ≤ due l x.f1 := due_mem l x.f1 (fun y hy => by have := h.ok y hy; omega) x hx (Int.le_refl _)
      omega
theorem rrd_get {G : List Int} {i : Nat} (h : i < G.length) : rd G (i : Int) = G[i] := by
  unfold rd
  rw [Int.toNat_natCast, List.getD_eq_getElem?_getD, List.getElem?_eq_getElem h, Option.getD_some]
theorem rival_l1 (l : List S29) (now : Int) (who : List Int) (hw : who.length ≤ 400) (t : Nat) (ht : t < who.length) : ∀ (R A : List S29) (k : Nat), A.length + R.length ≤ 100 →
    fuseelaw13_DoverRival.l1 (k + R.length + 1) l now who (A ++ R) (t : Int) (A.length : Int) = fuseelaw13_DoverRival.l0 k l now who (A ++ R.map (tick who[t] (wrap64 (now + (t : Int))))) ((t + 1 : Nat) : Int)
  | [], A, k, hl => by
    rw [fuseelaw13_DoverRival.l1, if_neg (by simp), rsucc (by omega)]
    rfl
  | x :: R, A, k, hl => by
    rw [List.length_cons] at hl
    have hx : rd_T29 (A ++ x :: R) (A.length : Int) = x := by
      rw [rd_at]
      exact at_append
    have step : ∀ y : S29, fuseelaw13_DoverRival.l1 (k + (x :: R).length) l now who (A ++ y :: R) (t : Int) ((A.length + 1 : Nat) : Int) = fuseelaw13_DoverRival.l0 k l now who (A ++ y :: R.map (tick who[t] (wrap64 (now + (t : Int))))) ((t + 1 : Nat) : Int) := fun y => by
      have := rival_l1 l now who hw t ht R (A ++ [y]) k (by simp; omega)
      rw [show k + (x :: R).length = k + R.length + 1 from by rw [List.length_cons]; omega]
      simpa using this
    rw [fuseelaw13_DoverRival.l1, if_pos (by simp; omega), if_pos (by omega), if_pos (by omega), if_pos (by omega), hx, rrd_get ht, rsucc (by omega), Int.toNat_natCast, set_append_self, List.map_cons]
    unfold tick
    by_cases c1 : x.f0 = who[t]
    · rw [if_pos c1, if_pos c1]
      by_cases c2 : x.f4 < x.f2
      · rw [if_pos c2, if_pos c2]
        by_cases c3 : wrap64 (now + (t : Int)) < x.f1
        · rw [if_pos c3, if_pos c3]
          exact step _
        · rw [if_neg c3, if_neg c3]
          exact step _
      · rw [if_neg c2, if_neg c2]
        exact step _
    · rw [if_neg c1, if_neg c1]
      exact step _
theorem rival_l0 (l : List S29) (now : Int) (who : List Int) (hw : who.length ≤ 400) : ∀ (m t k : Nat) (L : List S29), m + t = who.length → L.length ≤ 100 →
    fuseelaw13_DoverRival.l0 (k + m * (L.length + 2) + 1) l now who L (t : Int) = fuseelaw13_DoverRival.l2 k l now (ticks (who.drop t) now t L) 0
  | 0, t, k, L, hm, hl => by
    rw [fuseelaw13_DoverRival.l0, if_neg (by omega), List.drop_eq_nil_of_le (by omega), ticks, Nat.zero_mul]
    rfl
  | m + 1, t, k, L, hm, hl => by
    have ht : t < who.length := by omega
    rw [fuseelaw13_DoverRival.l0, if_pos (by omega), show k + (m + 1) * (L.length + 2) = (k + m * (L.length + 2) + 1) + L.length + 1 from by rw [Nat.add_mul]; omega]
    have h1 := rival_l1 l now who hw t ht L [] (k + m * (L.length + 2) + 1) (by simpa using hl)
    simp only [List.nil_append, List.length_nil] at h1
    rw [show ((0 : Nat) : Int) = 0 from rfl] at h1
    have hl2 : (L.map (tick who[t] (wrap64 (now + (t : Int))))).length = L.length := by simp
    have h2 := rival_l0 l now who hw m (t + 1) k (L.map (tick who[t] (wrap64 (now + (t : Int))))) (by omega) (by omega)
    rw [hl2] at h2
    rw [h1, h2, List.drop_eq_getElem_cons ht, ticks]
theorem rival_l2 (l : List S29) (now : Int) (L : List S29) (hl : L.length ≤ 100) (hf : (∀ x ∈ L, ¬ x.f4 < x.f2) → ∀ k, 20 < k → dover_Fits.f k l now = some true) : ∀ (m i k : Nat), m + i = L.length → m + 30 < k → (∀ c, c < i → ¬ (at_ L c).f4 < (at_ L c).f2) → fuseelaw13_DoverRival.l2 k l now L (i : Int) = some true
  | 0, i, k, hm, hk, hn => by
    obtain ⟨k, rfl⟩ : ∃ k', k = k' + 1 := ⟨k - 1, by omega⟩
    rw [fuseelaw13_DoverRival.l2, if_neg (by omega), hf (fun x hx => by
      obtain ⟨c, hc, rfl⟩ := List.mem_iff_getElem.1 hx
      have := hn c (by omega)
      rw [at_get hc] at this
      exact this) k (by omega)]
    rfl
  | m + 1, i, k, hm, hk, hn => by
    obtain ⟨k, rfl⟩ : ∃ k', k = k' + 1 := ⟨k - 1, by omega⟩
    rw [fuseelaw13_DoverRival.l2, if_pos (by omega), if_pos (by omega), rd_at]
    by_cases h : (at_ L i).f4 < (at_ L i).f2
    · rw [if_pos h]
    · rw [if_neg h, rsucc (by omega)]
      exact rival_l2 l now L hl hf m (i + 1) k (by omega) (by omega) (fun c hc => by
        rcases Nat.lt_or_ge c i with h1 | h1
        · exact hn c h1
        · rw [show c = i from by omega]
          exact h)
theorem DoverRival : ∀ (l0 : List S29) (a1 : Int) (l2 : List Int), l0.length ≤ 9223372036854775807 → (Lit.int .i64 a1).wf = true → (∀ x ∈ l2, (Lit.int .i64 x).wf = true) → l2.length * 8 ≤ 140737488351232 → ∃ k, fuseelaw13_DoverRival.f k l0 a1 l2 = some true := by
  intro l now who _ _ _ _
  obtain ⟨K, hK⟩ : ∃ K, K = 200 + who.length * (l.length + 2) + 1 := ⟨_, rfl⟩
  refine ⟨K + 1, ?_⟩
  have full : fuseelaw13_DoverRival.j0 (K + 1) l now who true true = some true := by
    rw [fuseelaw13_DoverRival.j0, if_pos rfl]
  have haw : fuseelaw13_awake.f (K + 1) = some true := by
    have := rival_awake (K + 1 - 60)
    rwa [show 60 + (K + 1 - 60) = K + 1 from by omega] at this
  unfold fuseelaw13_DoverRival.f dover_May.f
  rw [haw, Option.bind_some, if_pos rfl, Option.bind_some]
  cases hm : mayS l now with
  | false => rw [if_neg (by simp), full]
  | true =>
    have h := (mayS_iff l now).1 hm
    have hle := h.le
    rw [if_pos rfl]
    by_cases c1 : (who.length : Int) > 400
    · rw [if_pos c1, full]
    · rw [if_neg c1]
      by_cases c2 : now > 274877906944
      · rw [decide_eq_true c2, full]
      · rw [decide_eq_false c2, fuseelaw13_DoverRival.j0, if_neg (by simp), if_pos (by simp; omega), List.nil_append, hK]
        have e := rival_l0 l now who (by omega) who.length 0 200 l (by omega) (by omega)
        rw [show ((0 : Nat) : Int) = 0 from rfl, List.drop_zero] at e
        rw [e]
        have hlen := ticks_inv who now 0 l
        have := rival_l2 l now (ticks who now 0 l) (by omega) (fun hd k hk => by
          rw [fits_f (by omega) hk, rival_fits h (by omega) who (by omega) hd]) (ticks who now 0 l).length 0 200 (by omega) (by omega) (fun c hc => absurd hc (Nat.not_lt_zero _))
        exact this
end Go.Proofs.Ytmknoiiflciclaa.Pure
