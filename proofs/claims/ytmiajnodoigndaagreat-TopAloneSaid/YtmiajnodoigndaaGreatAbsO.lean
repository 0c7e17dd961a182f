/- Own: What is let go, and what is told anew, at a loop's head. -/
import Derived.Test.YtmiajnodoigndaaGreatAbsN
namespace Go.Abs
open Go.RowKit
set_option linter.unusedVariables false
section
variable {X : Nat → Prop} {N0 : Nat} {W0 W : World} {ρ : Ren} {h : Heap}
theorem HR.re (H : HR X N0 W0 ρ h W) {ρ' : Ren} {h' : Heap} (src : Nat → Nat)
 (hc : ∀ b c, cellAt h' b = some c → ∃ inf, ρ' b = some inf ∧ CellOK ρ' W b c inf ∧ ((inf.ph = true ∧ ∀ l, c.rows ≠ .ops l) ∨ ∃ c0, cellAt h (src b) = some c0 ∧ ρ (src b) = some inf ∧ (c.wr = true → c0.wr = true) ∧ ∀ l, c.rows = .ops l → c0.rows = .ops l))
 (hi : ∀ b c b' c' inf inf', cellAt h' b = some c → cellAt h' b' = some c' → c.wr = true → b ≠ b' → ρ' b = some inf → ρ' b' = some inf' → inf.ph = false → inf'.ph = false → src b ≠ src b') (hd : ∀ b, h'.length ≤ b → ρ' b = none) : HR X N0 W0 ρ' h' W := by
 have real : ∀ b c inf, cellAt h' b = some c → ρ' b = some inf → inf.ph = false → ∃ c0, cellAt h (src b) = some c0 ∧ ρ (src b) = some inf ∧ (c.wr = true → c0.wr = true) ∧ ∀ l, c.rows = .ops l → c0.rows = .ops l := by
  intro b c inf e hρ hp
  obtain ⟨inf0, h1, h2, h3⟩ := hc b c e
  rw [hρ] at h1
  cases h1
  rcases h3 with h3 | h3
  · rw [hp] at h3; cases h3.1
  · exact h3
 refine ⟨fun b c e => ?_, fun b c b' c' inf inf' e hw e' hne hρ hρ' hp hp' => ?_, fun b c inf e hw hρ hp => ?_, fun b c inf e hρ hp => ?_, hd, H.fr, H.n0, fun b c l inf e hr hρ => ?_⟩
 · obtain ⟨inf, h1, h2, _⟩ := hc b c e
   exact ⟨inf, h1, h2⟩
 · obtain ⟨c0, k1, k2, k3, _⟩ := real b c inf e hρ hp
   obtain ⟨c0', k1', k2', k3', _⟩ := real b' c' inf' e' hρ' hp'
   exact H.inj _ _ _ _ _ _ k1 (k3 hw) k1' (hi b c b' c' inf inf' e e' hw hne hρ hρ' hp hp') k2 k2' hp hp'
 · obtain ⟨c0, k1, k2, k3, _⟩ := real b c inf e hρ hp
   exact H.own _ _ _ k1 (k3 hw) k2 hp
 · obtain ⟨c0, k1, k2, k3, _⟩ := real b c inf e hρ hp
   exact H.lt _ _ _ k1 k2 hp
 · obtain ⟨inf0, h1, h2, h3⟩ := hc b c e
   rw [hρ] at h1
   cases h1
   rcases h3 with h3 | ⟨c0, k1, k2, k3, k4⟩
   · exact absurd hr (h3.2 l)
   · exact H.inn _ _ l _ k1 (k4 l hr) k2
end
theorem memB_iff {b : Nat} : ∀ {l : List Nat}, memB b l = true ↔ b ∈ l
 | [] => by simp [memB]
 | x :: l => by
  unfold memB
  cases hq : Nat.beq x b with
  | true => simp [Nat.eq_of_beq_eq_true hq]
  | false =>
   have : x ≠ b := fun e => by subst e; simp at hq
   simp only [cond_false, List.mem_cons]
   rw [memB_iff]
   exact ⟨.inr, fun h => h.resolve_left (fun e => this e.symm)⟩
theorem idx_some {b : Nat} : ∀ {l : List Nat} {i : Nat}, idx b l = some i → l[i]? = some b
 | [], i, h => by cases h
 | x :: l, i, h => by
  unfold idx at h
  cases hq : Nat.beq x b with
  | true =>
   rw [hq] at h
   cases h
   simp [Nat.eq_of_beq_eq_true hq]
  | false =>
   rw [hq] at h
   simp only [cond_false] at h
   split at h
   · rename_i j hj
     cases h
     simpa using idx_some hj
   · cases h
theorem idx_of {b : Nat} : ∀ {l : List Nat} {i : Nat}, l.Nodup → l[i]? = some b → idx b l = some i
 | [], i, _, h => by simp at h
 | x :: l, i, hn, h => by
  unfold idx
  cases i with
  | zero =>
   simp at h
   subst h
   simp
  | succ i =>
   have hm : b ∈ l := List.mem_of_getElem? (by simpa using h)
   have hne : x ≠ b := fun e => by subst e; exact (List.nodup_cons.1 hn).1 hm
   have : Nat.beq x b = false := by
    cases hq : Nat.beq x b with
    | false => rfl
    | true => exact absurd (Nat.eq_of_beq_eq_true hq) hne
   rw [this, idx_of (List.nodup_cons.1 hn).2 (by simpa using h)]
   rfl
theorem reach_spec (h : Heap) (np : Nat) : ∀ (n : Nat) (todo done : List Nat), done.Nodup → (∀ b ∈ done, np ≤ b ∧ ∃ c, cellAt h b = some c) → (reach h np n todo done).Nodup ∧ ∀ b ∈ reach h np n todo done, np ≤ b ∧ ∃ c, cellAt h b = some c
 | 0, _, done, h1, h2 => ⟨h1, h2⟩
 | _ + 1, [], done, h1, h2 => ⟨h1, h2⟩
 | n + 1, b :: todo, done, h1, h2 => by
  unfold reach
  cases hq : (Nat.blt b np || memB b done) with
  | true => exact reach_spec h np n todo done h1 h2
  | false =>
   simp only [Bool.or_eq_false_iff] at hq
   have hb : np ≤ b := by
    rcases Nat.lt_or_ge b np with h | h
    · rw [Nat.blt_eq.mpr h] at hq; cases hq.1
    · exact h
   have hm : b ∉ done := fun hm => by rw [memB_iff.2 hm] at hq; cases hq.2
   simp only [cond_false]
   split
   · rename_i c hc
     refine reach_spec h np n _ _ ?_ ?_
     · rw [List.nodup_append]
       exact ⟨h1, by simp, fun a ha b' hb' e => by simp at hb'; subst hb'; subst e; exact hm ha⟩
     · intro b' hb'
       rcases List.mem_append.1 hb' with h | h
       · exact h2 b' h
       · simp at h; subst h; exact ⟨hb, c, hc⟩
   · exact reach_spec h np n todo done h1 h2
theorem cellAt_renHeap (f : Nat → Option Nat) : ∀ (h : Heap) (b : Nat), cellAt (renHeap f h) b = (cellAt h b).map (Cell.ren f)
 | [], b => by simp [renHeap, cellAt]
 | some c :: l, 0 => rfl
 | none :: l, 0 => rfl
 | some c :: l, b + 1 => by simpa [renHeap, cellAt] using cellAt_renHeap f l b
 | none :: l, b + 1 => by simpa [renHeap, cellAt] using cellAt_renHeap f l b
theorem renHeap_length (f : Nat → Option Nat) : ∀ h : Heap, (renHeap f h).length = h.length
 | [] => rfl
 | some _ :: l => by simp [renHeap, renHeap_length f l]
 | none :: l => by simp [renHeap, renHeap_length f l]
theorem cellAt_pickHeap (f : Nat → Option Nat) (h : Heap) : ∀ (l : List Nat) (i : Nat), cellAt (pickHeap f h l) i = (match l[i]? with | some b => (cellAt h b).map (Cell.ren f) | none => none)
 | [], i => by simp [pickHeap, cellAt]
 | b :: l, 0 => by
  show (match (some (match cellAt h b with | some c => some (c.ren f) | none => none) : Option (Option Cell)) with | some (some c) => some c | _ => none) = (cellAt h b).map (Cell.ren f)
  cases cellAt h b <;> rfl
 | b :: l, i + 1 => by simpa [pickHeap, cellAt] using cellAt_pickHeap f h l i
theorem pickHeap_length (f : Nat → Option Nat) (h : Heap) : ∀ l : List Nat, (pickHeap f h l).length = l.length
 | [] => rfl
 | _ :: l => by simp [pickHeap, pickHeap_length f h l]
theorem cellAt_take {h : Heap} {n b : Nat} (hb : b < n) : cellAt (h.take n) b = cellAt h b := by
 unfold cellAt
 rw [List.getElem?_take_of_lt hb]
theorem envGet_mask (live : List Nat) : ∀ (l : List AV) (i t : Nat), envGet (mask live i l) t = envGet l t ∨ envGet (mask live i l) t = .dead
 | [], i, t => .inl rfl
 | v :: l, i, 0 => by
  simp only [mask, envGet, List.getElem?_cons_zero]
  cases memB i live <;> simp
 | v :: l, i, t + 1 => by simpa [mask, envGet] using envGet_mask live l (i + 1) t
theorem mask_length (live : List Nat) : ∀ (l : List AV) (i : Nat), (mask live i l).length = l.length
 | [], _ => rfl
 | _ :: l, i => by simp [mask, mask_length live l]
def Same (n0 : Nat) (st st' : St) : Prop := n0 ≤ st'.h.length ∧ ∀ (X : Nat → Prop) (N0 : Nat) (W0 : World) (ρ : Ren) (W : World) (a : Act), StR X N0 W0 ρ st a W → ∃ ρ', StR X N0 W0 ρ' st' a W ∧ Agr n0 ρ ρ'
theorem Same.refl {n0 : Nat} {st : St} (h : n0 ≤ st.h.length) : Same n0 st st := ⟨h, fun X N0 W0 ρ W a hS => ⟨ρ, hS, Agr.refl _ _⟩⟩
theorem Same.trans {n0 : Nat} {a b c : St} (h : Same n0 a b) (k : Same n0 b c) : Same n0 a c := ⟨k.1, fun X N0 W0 ρ W act hS => by
 obtain ⟨ρ1, s1, a1⟩ := h.2 X N0 W0 ρ W act hS
 obtain ⟨ρ2, s2, a2⟩ := k.2 X N0 W0 ρ1 W act s1
 exact ⟨ρ2, s2, a1.trans a2 (Nat.le_refl _)⟩⟩
theorem Same.mono {n n0 : Nat} {a b : St} (h : Same n0 a b) (hn : n ≤ n0) : Same n a b := ⟨Nat.le_trans hn h.1, fun X N0 W0 ρ W act hS => by
 obtain ⟨ρ1, s1, a1⟩ := h.2 X N0 W0 ρ W act hS
 exact ⟨ρ1, s1, fun b hb => a1 b (Nat.lt_of_lt_of_le hb hn)⟩⟩
theorem gcL_sound (live : List Nat) {n0 : Nat} {st : St} (hn : n0 ≤ st.h.length) : Same n0 st (gcL live n0 st) := by
 unfold gcL gc
 show Same n0 st ⟨renL (gcMap n0 (reach st.h n0 200 (refsL (mask live 0 st.env) ++ heapRefs (st.h.take n0)) [])) (mask live 0 st.env),
  renHeap (gcMap n0 (reach st.h n0 200 (refsL (mask live 0 st.env) ++ heapRefs (st.h.take n0)) [])) (st.h.take n0) ++ pickHeap (gcMap n0 (reach st.h n0 200 (refsL (mask live 0 st.env) ++ heapRefs (st.h.take n0)) [])) st.h (reach st.h n0 200 (refsL (mask live 0 st.env) ++ heapRefs (st.h.take n0)) [])⟩
 generalize hperm : reach st.h n0 200 (refsL (mask live 0 st.env) ++ heapRefs (st.h.take n0)) [] = perm
 obtain ⟨hnd, hp⟩ := reach_spec st.h n0 200 (refsL (mask live 0 st.env) ++ heapRefs (st.h.take n0)) [] .nil (fun b h => by simp at h)
 rw [hperm] at hnd hp
 have htl : (st.h.take n0).length = n0 := by simp [hn]
 have hlen : (renHeap (gcMap n0 perm) (st.h.take n0) ++ pickHeap (gcMap n0 perm) st.h perm).length = n0 + perm.length := by
  rw [List.length_append, renHeap_length, pickHeap_length, htl]
 refine ⟨by show n0 ≤ (renHeap (gcMap n0 perm) (st.h.take n0) ++ pickHeap (gcMap n0 perm) st.h perm).length; omega, fun X N0 W0 ρ W a hS => ?_⟩
 let src : Nat → Nat := fun b => if b < n0 then b else perm.getD (b - n0) 0
 let ρ' : Ren := fun b => if b < n0 then ρ b else match perm[b - n0]? with | some b0 => ρ b0 | none => none
 have hf : ∀ b b' inf, gcMap n0 perm b = some b' → ρ b = some inf → ρ' b' = some inf := by
  intro b b' inf h1 h2
  unfold gcMap at h1
  cases hq : Nat.blt b n0 with
  | true =>
   rw [hq] at h1
   cases h1
   show (if b < n0 then ρ b else _) = _
   rw [if_pos (Nat.blt_eq.mp hq)]
   exact h2
  | false =>
   rw [hq] at h1
   simp only [cond_false] at h1
   split at h1
   · rename_i i hi
     cases h1
     have := idx_some hi
     show (if n0 + i < n0 then _ else match perm[n0 + i - n0]? with | some b0 => ρ b0 | none => none) = _
     rw [if_neg (by omega), show n0 + i - n0 = i by omega, this]
     exact h2
   · cases h1
 have agr : Agr n0 ρ ρ' := fun b hb => if_pos hb
 have from' : ∀ b c, cellAt (renHeap (gcMap n0 perm) (st.h.take n0) ++ pickHeap (gcMap n0 perm) st.h perm) b = some c → ∃ c0, cellAt st.h (src b) = some c0 ∧ c = c0.ren (gcMap n0 perm) ∧ gcMap n0 perm (src b) = some b ∧ (b < n0 ∨ (n0 ≤ b ∧ perm[b - n0]? = some (src b))) := by
  intro b c e
  rcases Nat.lt_or_ge b n0 with hb | hb
  · rw [cellAt_append_left (by rw [renHeap_length, htl]; exact hb), cellAt_renHeap, cellAt_take hb] at e
    obtain ⟨c0, h1, h2⟩ := Option.map_eq_some_iff.1 e
    have hs : src b = b := if_pos hb
    rw [hs]
    exact ⟨c0, h1, h2.symm, by unfold gcMap; rw [Nat.blt_eq.mpr hb]; rfl, .inl hb⟩
  · rw [cellAt_append_right (by rw [renHeap_length, htl]; exact hb), renHeap_length, htl, cellAt_pickHeap] at e
    split at e
    · rename_i b0 hb0
      obtain ⟨c0, h1, h2⟩ := Option.map_eq_some_iff.1 e
      have hs : src b = b0 := by
       show (if b < n0 then b else perm.getD (b - n0) 0) = b0
       rw [if_neg (by omega), List.getD_eq_getElem?_getD, hb0]
       rfl
      rw [hs]
      have hge := (hp b0 (List.mem_of_getElem? hb0)).1
      refine ⟨c0, h1, h2.symm, ?_, .inr ⟨hb, hb0⟩⟩
      unfold gcMap
      rw [blt_false (by omega), idx_of hnd hb0]
      simp only [cond_false]
      congr 1
      omega
    · cases e
 refine ⟨ρ', ⟨hS.1.re src (fun b c e => ?_) (fun b c b' c' inf inf' e e' hw hne hρ hρ' hp1 hp2 heq => ?_) (fun b hb => ?_), ⟨?_, fun t => ?_⟩, hS.2.2⟩, agr⟩
 · obtain ⟨c0, h1, h2, h3, h4⟩ := from' b c e
   obtain ⟨inf, h5, ok⟩ := hS.1.ok _ _ h1
   refine ⟨inf, hf _ _ _ h3 h5, by rw [h2]; exact ok.ren hf h3, .inr ⟨c0, h1, h5, by rw [h2]; exact fun h => h, fun l hl => ?_⟩⟩
   rw [h2] at hl
   have : c0.rows.ren (gcMap n0 perm) = .ops l := hl
   cases hrr : c0.rows <;> rw [hrr] at this <;> simp [Rows.ren] at this
   rw [this]
 · obtain ⟨_, _, _, h3, _⟩ := from' b c e
   obtain ⟨_, _, _, h3', _⟩ := from' b' c' e'
   rw [heq, h3'] at h3
   cases h3
   exact hne rfl
 · show (if b < n0 then ρ b else match perm[b - n0]? with | some b0 => ρ b0 | none => none) = none
   have hb' : n0 + perm.length ≤ b := by rw [← hlen]; exact hb
   rw [if_neg (by omega), List.getElem?_eq_none (by omega)]
 · show (renL (gcMap n0 perm) (mask live 0 st.env)).length = a.tmps.size
   rw [renL_map, List.length_map, mask_length]
   exact hS.2.1.1
 · show VR ρ' (envGet (renL (gcMap n0 perm) (mask live 0 st.env)) t) _
   have h1 : envGet (renL (gcMap n0 perm) (mask live 0 st.env)) t = (envGet (mask live 0 st.env) t).ren (gcMap n0 perm) := by
    unfold envGet
    rw [renL_map, List.getElem?_map]
    cases (mask live 0 st.env)[t]? <;> rfl
   rw [h1]
   rcases envGet_mask live st.env 0 t with h2 | h2 <;> rw [h2]
   · exact (hS.2.1.2 t).ren hf
   · exact .dead
end Go.Abs
