/- Own: Regions that draw their order: if what each operation does is fixed beforehand, whichever order is drawn comes to the sa -/
import Derived.Test.YtmiajnodoigndaaGreatAbsK
namespace Go.Abs
open Go.RowKit Classical
set_option linter.unusedVariables false
noncomputable def last {α : Type} (a : α) (w : Nat → Prop) (val : Nat → α) (S : Nat → Prop) : Nat → α
 | 0 => a
 | j + 1 => if S j ∧ w j then val j else last a w val S j
theorem last_canon {α : Type} {w S : Nat → Prop} {c : Nat → α} {j : Nat} : ∀ (n : Nat), (∀ i, i < n → ¬ w i → c (i + 1) = c i) → (∀ i, i < n → w i → (S i ↔ i < j)) → last (c 0) w (fun i => c (i + 1)) S n = c (min j n)
 | 0, _, _ => by simp [last]
 | n + 1, hf, hs => by
  have ih := last_canon (j := j) n (fun i hi => hf i (by omega)) (fun i hi => hs i (by omega))
  unfold last
  by_cases hw : w n
  · by_cases hj : n < j
    · rw [if_pos ⟨(hs n (by omega) hw).2 hj, hw⟩, show min j (n + 1) = n + 1 by omega]
    · rw [if_neg (fun h => hj ((hs n (by omega) hw).1 h.1)), ih, show min j (n + 1) = j by omega, show min j n = j by omega]
  · rw [if_neg (fun h => hw h.2), ih]
    by_cases hj : n < j
    · rw [show min j (n + 1) = n + 1 by omega, show min j n = n by omega, hf n (by omega) hw]
    · rw [show min j (n + 1) = j by omega, show min j n = j by omega]
theorem last_add {α : Type} {a : α} {w S : Nat → Prop} {val : Nat → α} {j : Nat} : ∀ (n : Nat), (∀ i, j < i → i < n → S i → w j → ¬ w i) → last a w val (fun i => S i ∨ i = j) n = if j < n ∧ w j then val j else last a w val S n
 | 0, _ => by simp [last]
 | n + 1, h => by
  have ih := last_add (a := a) (val := val) n fun i h1 h2 => h i h1 (by omega)
  unfold last
  rcases Nat.lt_trichotomy n j with hn | hn | hn
  · rw [ih]
    have h1 : ¬ n = j := by omega
    simp only [h1, or_false]
    rw [if_neg (show ¬ (j < n ∧ w j) from fun h => by omega), if_neg (show ¬ (j < n + 1 ∧ w j) from fun h => by omega)]
  · subst hn
    by_cases hw : w n
    · rw [if_pos ⟨.inr rfl, hw⟩, if_pos ⟨by omega, hw⟩]
    · rw [if_neg (fun h => hw h.2), if_neg (fun h => hw h.2), if_neg (fun h => hw h.2), ih, if_neg (fun h => hw h.2)]
  · have h1 : ¬ n = j := by omega
    simp only [h1, or_false]
    rw [ih]
    by_cases hw : w j
    · rw [if_pos (show j < n ∧ w j from ⟨hn, hw⟩), if_pos (show j < n + 1 ∧ w j from ⟨by omega, hw⟩), if_neg]
      exact fun hh => h n hn (by omega) hh.1 hw hh.2
    · rw [if_neg (show ¬ (j < n ∧ w j) from fun h => hw h.2), if_neg (show ¬ (j < n + 1 ∧ w j) from fun h => hw h.2)]
theorem last_same {α : Type} {a : α} {w : Nat → Prop} {val : Nat → α} {S S' : Nat → Prop} : ∀ (n : Nat), (∀ i, i < n → (S i ↔ S' i)) → last a w val S n = last a w val S' n
 | 0, _ => rfl
 | n + 1, h => by
  unfold last
  rw [last_same n fun i hi => h i (by omega)]
  by_cases hw : w n
  · by_cases hs : S n
    · rw [if_pos ⟨hs, hw⟩, if_pos ⟨(h n (by omega)).1 hs, hw⟩]
    · rw [if_neg (fun h => hs h.1), if_neg (fun h' => hs ((h n (by omega)).2 h'.1))]
  · rw [if_neg (fun h => hw h.2), if_neg (fun h => hw h.2)]
structure StepW (P : Program) (ops : Array Oper) (j : Nat) (o : Oper) (st st' : St) (w r z : Nat → Prop) (v : AV) : Prop where
 env : st'.env = put st.env o.dst v
 fr : ∀ b, ¬ w b → cellAt st'.h b = cellAt st.h b
 len : st.h.length ≤ st'.h.length
 zz : ∀ b, z b → st.h.length ≤ b
 run : ∀ (X : Nat → Prop) (N0 : Nat) (W0 : World) (ρ : Ren) (W : World) (a : Act) (g : Heap), st'.h.length ≤ g.length → HR X N0 W0 ρ g W → (∀ b, r b → cellAt g b = cellAt st.h b) → (∀ b, z b → ρ b = none) →
  OpsR ρ st.env a o.op.operands.toList → GuardR ρ ops o st.env a → ∀ (N : Act → World → Prop) (Q : Exit → Act → World → Prop),
  (∀ ρ' W' v' g', g'.length = g.length → (∀ b, cellAt g' b = if w b then cellAt st'.h b else cellAt g b) → HR X N0 W0 ρ' g' W' → Ext ρ ρ' → (∀ b inf, ρ' b = some inf → ρ b = some inf ∨ (st.h.length ≤ b ∧ b < st'.h.length)) → VR ρ' v v' → N (a.put o.dst v') W') →
  wpOp P ops Q j N a W
theorem EnvR.congr {ρ : Ren} {e e' : List AV} {a : Act} (h : EnvR ρ e a) (hl : e'.length = e.length) (hg : ∀ t, envGet e' t = envGet e t) : EnvR ρ e' a := ⟨hl.trans h.1, fun t => by rw [hg]; exact h.2 t⟩
theorem envGet_range {n : Nat} {f : Nat → AV} (t : Nat) : envGet ((List.range n).map f) t = if t < n then f t else .dead := by
 unfold envGet
 by_cases h : t < n
 · simp [h]
 · simp [h]
theorem cellAt_range {n : Nat} {f : Nat → Option Cell} (b : Nat) : cellAt ((List.range n).map f) b = if b < n then f b else none := by
 unfold cellAt
 by_cases h : b < n
 · simp [h]
   cases f b <;> rfl
 · simp [h]
theorem cellAt_ge {h : Heap} {b : Nat} (hb : h.length ≤ b) : cellAt h b = none := by simp [cellAt, List.getElem?_eq_none hb]
theorem HR.congr {X : Nat → Prop} {N0 : Nat} {W0 W : World} {ρ : Ren} {h h' : Heap} (H : HR X N0 W0 ρ h W) (hc : ∀ b, cellAt h' b = cellAt h b) (hd : ∀ b, h'.length ≤ b → ρ b = none) : HR X N0 W0 ρ h' W where
 ok := fun b c e => H.ok b c (by rw [← hc]; exact e)
 inj := fun b c b' c' i i' e1 hw e2 => H.inj b c b' c' i i' (by rw [← hc]; exact e1) hw (by rw [← hc]; exact e2)
 own := fun b c i e => H.own b c i (by rw [← hc]; exact e)
 lt := fun b c i e => H.lt b c i (by rw [← hc]; exact e)
 dom := hd
 fr := H.fr
 n0 := H.n0
 inn := fun b c l i e => H.inn b c l i (by rw [← hc]; exact e)
section
variable {P : Program} {ops : Array Oper} {T : Nat → St} {w r z : Nat → Nat → Prop} {v : Nat → AV} {ord : Nat → Nat → Prop}
def dstIs (ops : Array Oper) (t j : Nat) : Prop := (ops[j]?).bind (·.dst) = some t
noncomputable def heapS (n : Nat) (T : Nat → St) (w : Nat → Nat → Prop) (S : Nat → Prop) : Heap := (List.range (T n).h.length).map fun b => last (cellAt (T 0).h b) (fun j => w j b) (fun j => cellAt (T (j + 1)).h b) S n
noncomputable def envS (ops : Array Oper) (T : Nat → St) (S : Nat → Prop) : List AV := (List.range (T 0).env.length).map fun t => last (envGet (T 0).env t) (dstIs ops t) (fun j => envGet (T (j + 1)).env t) S ops.size
structure Free (P : Program) (ops : Array Oper) (T : Nat → St) (w r z : Nat → Nat → Prop) (v : Nat → AV) (ord : Nat → Nat → Prop) : Prop where
 step : ∀ j o, ops[j]? = some o → StepW P ops j o (T j) (T (j + 1)) (w j) (r j) (z j) (v j)
 topo : ∀ (j : Nat) (o : Oper) (e : Edge), ops[j]? = some o → e ∈ o.after → Region.binds .any e = true → e.on < j
 lt : ∀ p j, ord p j → p < j
 back : ∀ (p j : Nat) (o : Oper), ops[j]? = some o → ord p j → ∃ e ∈ o.after, Region.binds .any e = true ∧ (p = e.on ∨ ord p e.on)
 apart : ∀ (i j : Nat) (oi oj : Oper), i < j → ops[i]? = some oi → ops[j]? = some oj → ¬ ord i j → oi.apart ops oj = true
 fit : ∀ i j, i ≠ j → i < ops.size → j < ops.size → ¬ ord i j → ¬ ord j i → ∀ b, w i b → ¬ r j b ∧ ¬ w j b ∧ ¬ (z j b ∧ (T i).h.length ≤ b ∧ b < (T (i + 1)).h.length)
 made : ∀ j b, j < ops.size → (T j).h.length ≤ b → b < (T (j + 1)).h.length → w j b
theorem Free.env_len (F : Free P ops T w r z v ord) : ∀ j, j ≤ ops.size → (T j).env.length = (T 0).env.length
 | 0, _ => rfl
 | j + 1, h => by
  have ho : ops[j]? = some ops[j] := Array.getElem?_eq_getElem (by omega)
  rw [(F.step j _ ho).env, ← F.env_len j (by omega)]
  cases (ops[j]).dst <;> simp [put]
theorem Free.heap_le (F : Free P ops T w r z v ord) {i : Nat} : ∀ j, i ≤ j → j ≤ ops.size → (T i).h.length ≤ (T j).h.length
 | 0, h, _ => by rw [show i = 0 by omega]; exact Nat.le_refl _
 | j + 1, h, hj => by
  rcases Nat.lt_or_ge i (j + 1) with h1 | h1
  · exact Nat.le_trans (F.heap_le j (by omega) (by omega)) (F.step j _ (Array.getElem?_eq_getElem (by omega))).len
  · rw [show i = j + 1 by omega]; exact Nat.le_refl _
theorem Free.env_fr (F : Free P ops T w r z v ord) {j t : Nat} (hj : j < ops.size) (hd : ¬ dstIs ops t j) : envGet (T (j + 1)).env t = envGet (T j).env t := by
 have ho : ops[j]? = some ops[j] := Array.getElem?_eq_getElem hj
 rw [(F.step j _ ho).env]
 cases hdst : (ops[j]).dst with
 | none => rfl
 | some d =>
  have hne : t ≠ d := fun e => hd (by simp [dstIs, ho, hdst, e])
  show envGet ((T j).env.set d (v j)) t = _
  rw [envGet_set, if_neg (fun h => hne h.1)]
theorem looks_tmp {o : Oper} {t : Nat} (h : Operand.tmp t ∈ o.op.operands.toList) : t ∈ o.looksAt ops := by
 unfold Oper.looksAt
 exact List.mem_append_left _ (List.mem_filterMap.2 ⟨_, h, rfl⟩)
theorem looks_guard {o : Oper} {g t : Nat} {want : Bool} (hg : o.guard = some (g, want)) (hd : (ops[g]?).bind (·.dst) = some t) : t ∈ o.looksAt ops := by
 unfold Oper.looksAt
 rw [hg]
 simp only [hd]
 exact List.mem_append_right _ (by simp)
theorem count_set : ∀ (l : List Bool) (j : Nat), l[j]? = some false → ((l.set j true).filter (!·)).length + 1 = (l.filter (!·)).length
 | [], j, h => by simp at h
 | b :: l, 0, h => by simp at h; subst h; simp
 | b :: l, j + 1, h => by
  have ih := count_set l j (by simpa using h)
  cases b <;> simp <;> omega
theorem listed_lt {l : Array Bool} {i : Nat} (h : l.getD i false = true) : i < l.size := by
 rcases Nat.lt_or_ge i l.size with h' | h'
 · exact h'
 · simp [Array.getElem?_eq_none h'] at h
theorem Free.any (F : Free P ops T w r z v ord) {X : Nat → Prop} {N0 : Nat} {W0 : World} {ρ0 : Ren} {Q : Exit → Act → World → Prop}
 (hQ : ∀ ρ' W' a', StR X N0 W0 ρ' (T ops.size) a' W' → Agr (T 0).h.length ρ0 ρ' → Q .normal a' W') :
 ∀ (fuel : Nat) (l : Array Bool) (a : Act) (W : World) (ρ : Ren), l.size = ops.size → (l.toList.filter (!·)).length = fuel → (∀ i p, l.getD i false = true → ord p i → l.getD p false = true) →
  HR X N0 W0 ρ (heapS ops.size T w fun i => l.getD i false = true) W → EnvR ρ (envS ops T fun i => l.getD i false = true) a → a.defers = [] → Agr (T 0).h.length ρ0 ρ →
  (∀ b inf, (T 0).h.length ≤ b → ρ b = some inf → ∃ i, l.getD i false = true ∧ (T i).h.length ≤ b ∧ b < (T (i + 1)).h.length) →
  wpAny P .any ops Q fuel l a W := by
 have done : ∀ (l : Array Bool) (a : Act) (W : World) (ρ : Ren), l.size = ops.size → (∀ i, i < ops.size → l.getD i false = true) →
  HR X N0 W0 ρ (heapS ops.size T w fun i => l.getD i false = true) W → EnvR ρ (envS ops T fun i => l.getD i false = true) a → a.defers = [] → Agr (T 0).h.length ρ0 ρ → Q .normal a W := by
  intro l a W ρ hl hall H E hdf hag
  refine hQ ρ W a ⟨H.congr ?_ ?_, E.congr ?_ ?_, hdf⟩ hag
  · intro b
    unfold heapS
    rw [cellAt_range]
    split
    · rw [last_canon (c := fun j => cellAt (T j).h b) (j := ops.size) ops.size (fun i hi hw => (F.step i _ (Array.getElem?_eq_getElem hi)).fr b hw) (fun i hi _ => ⟨fun _ => hi, fun _ => hall i hi⟩)]
      simp
    · exact cellAt_ge (by omega)
  · intro b hb
    exact H.dom b (by simp [heapS]; exact hb)
  · rw [F.env_len _ (Nat.le_refl _)]
    simp [envS]
  · intro t
    unfold envS
    rw [envGet_range]
    split
    · rw [last_canon (c := fun j => envGet (T j).env t) (j := ops.size) ops.size (fun i hi hw => F.env_fr hi hw) (fun i hi _ => ⟨fun _ => hi, fun _ => hall i hi⟩)]
      simp
    · unfold envGet
      rw [List.getElem?_eq_none (by rw [F.env_len _ (Nat.le_refl _)]; omega)]
 have allListed : ∀ (l : Array Bool), l.size = ops.size → Region.ready .any ops l = [] → ∀ i, i < ops.size → l.getD i false = true := by
  intro l hl hr i
  induction i using Nat.strongRecOn with
  | _ i ih =>
   intro hi
   cases hb : l.getD i false with
   | true => rfl
   | false =>
    exfalso
    have : i ∈ Region.ready .any ops l := by
     rw [mem_ready]
     refine ⟨?_, ops[i], Array.getElem?_eq_getElem hi, fun e he hbn => ih e.on (F.topo i _ e (Array.getElem?_eq_getElem hi) he hbn) (Nat.lt_trans (F.topo i _ e (Array.getElem?_eq_getElem hi) he hbn) hi)⟩
     have hlt : i < l.size := by omega
     simp [Array.getD_eq_getD_getElem?, hlt] at hb ⊢
     exact hb
    rw [hr] at this
    simp at this
 intro fuel
 induction fuel with
 | zero =>
  intro l a W ρ hl hf hdc H E hdf hag hmk
  have hall : ∀ i, i < ops.size → l.getD i false = true := by
   intro i hi
   have hlt : i < l.size := by omega
   have h0 := List.eq_nil_of_length_eq_zero hf
   rw [List.filter_eq_nil_iff] at h0
   have := h0 l[i] (by simp)
   simp [Array.getD_eq_getD_getElem?, hlt]
   simpa using this
  refine ⟨?_, done l a W ρ hl hall H E hdf hag⟩
  rw [List.eq_nil_iff_forall_not_mem]
  intro i hi
  rw [mem_ready] at hi
  obtain ⟨h1, o, ho, _⟩ := hi
  have hlt : i < ops.size := (Array.getElem?_eq_some_iff.1 ho).1
  have h2 := hall i hlt
  have hl2 : i < l.size := by omega
  simp [Array.getD_eq_getD_getElem?, hl2] at h1 h2
  rw [h1] at h2
  cases h2
 | succ fuel ih =>
  intro l a W ρ hl hf hdc H E hdf hag hmk
  refine ⟨fun hr => done l a W ρ hl (allListed l hl hr) H E hdf hag, fun j hj => ?_⟩
  rw [mem_ready] at hj
  obtain ⟨hj0, o, ho, hpre⟩ := hj
  have hjn : j < ops.size := (Array.getElem?_eq_some_iff.1 ho).1
  have hjl : j < l.size := by omega
  have hj1 : ¬ l.getD j false = true := by
   simp [Array.getD_eq_getD_getElem?, hjl] at hj0 ⊢
   exact hj0
  have hS := F.step j o ho
  have ahead : ∀ p, ord p j → l.getD p false = true := by
   intro p hp
   obtain ⟨e, he, hb, h⟩ := F.back p j o ho hp
   have h1 := hpre e he hb
   rcases h with rfl | h
   · exact h1
   · exact hdc _ _ h1 h
  have behind : ∀ i, l.getD i false = true → ¬ ord j i := fun i hi h => hj1 (hdc i j hi h)
  have ltn : ∀ i, l.getD i false = true → i < ops.size := fun i hi => by have := listed_lt hi; omega
  have neq : ∀ i, l.getD i false = true → i ≠ j := fun i hi e => hj1 (e ▸ hi)
  have heapEq : ∀ b, r j b → cellAt (heapS ops.size T w fun i => l.getD i false = true) b = cellAt (T j).h b := by
   intro b hb
   unfold heapS
   rw [cellAt_range]
   split
   · rw [last_canon (c := fun j => cellAt (T j).h b) (j := j) ops.size (fun i hi hw => (F.step i _ (Array.getElem?_eq_getElem hi)).fr b hw)]
     · simp [Nat.min_eq_left (Nat.le_of_lt hjn)]
     · intro i hi hw
       constructor
       · intro hSi
         by_cases hij : ord i j
         · exact F.lt i j hij
         · exact absurd hb (F.fit i j (neq i hSi) hi hjn hij (behind i hSi) b hw).1
       · intro hij
         by_cases ho' : ord i j
         · exact ahead i ho'
         · exact absurd hb (F.fit i j (by omega) hi hjn ho' (fun h => by have := F.lt j i h; omega) b hw).1
   · rename_i hb'
     exact (cellAt_ge (Nat.le_trans (F.heap_le ops.size (Nat.le_of_lt hjn) (Nat.le_refl _)) (by omega))).symm
  have envEq : ∀ t, t ∈ o.looksAt ops → envGet (envS ops T fun i => l.getD i false = true) t = envGet (T j).env t := by
   intro t ht
   unfold envS
   rw [envGet_range]
   split
   · rw [last_canon (c := fun j => envGet (T j).env t) (j := j) ops.size (fun i hi hw => F.env_fr hi hw)]
     · simp [Nat.min_eq_left (Nat.le_of_lt hjn)]
     · intro i hi hw
       have hoi : ops[i]? = some ops[i] := Array.getElem?_eq_getElem hi
       have hdi : (ops[i]).dst = some t := by simpa [dstIs, hoi] using hw
       constructor
       · intro hSi
         rcases Nat.lt_trichotomy i j with h | h | h
         · exact h
         · exact absurd h (neq i hSi)
         · exfalso
           exact (Oper.apart_spec (F.apart j i o _ h ho hoi (behind i hSi))).2.2 t hdi ht
       · intro hij
         by_cases ho' : ord i j
         · exact ahead i ho'
         · exfalso
           exact (Oper.apart_spec (F.apart i j _ o hij hoi ho ho')).1 t hdi ht
   · rename_i hb'
     unfold envGet
     rw [List.getElem?_eq_none (by rw [F.env_len j (Nat.le_of_lt hjn)]; omega)]
  have hO : OpsR ρ (T j).env a o.op.operands.toList := by
   intro y hy
   have h1 := evalO_sound E.2 y
   cases y with
   | tmp t => rw [show evalO (T j).env (.tmp t) = evalO (envS ops T fun i => l.getD i false = true) (.tmp t) from (envEq t (looks_tmp hy)).symm]; exact h1
   | const v => exact h1
   | global g => exact h1
   | func f => exact h1
  have hG : GuardR ρ ops o (T j).env a := by
   intro g want t hg hd
   rw [← envEq t (looks_guard hg hd)]
   exact E.2 t
  have hz : ∀ b, z j b → ρ b = none := by
   intro b hb
   cases hρ : ρ b with
   | none => rfl
   | some inf =>
    exfalso
    have hbj := hS.zz b hb
    obtain ⟨i, hi, h1, h2⟩ := hmk b inf (Nat.le_trans (F.heap_le j (Nat.zero_le _) (Nat.le_of_lt hjn)) hbj) hρ
    by_cases hij : ord i j
    · have := F.lt i j hij
      have := F.heap_le (i := i + 1) j (by omega) (Nat.le_of_lt hjn)
      omega
    · exact (F.fit i j (neq i hi) (ltn i hi) hjn hij (behind i hi) b (F.made i b (ltn i hi) h1 h2)).2.2 ⟨hb, h1, h2⟩
  have newS : ∀ i, i < ops.size → (((l.setIfInBounds j true).getD i false = true) ↔ (l.getD i false = true ∨ i = j)) := by
   intro i hi
   by_cases hij : j = i
   · subst hij
     simp [Array.getD_eq_getD_getElem?, hjl]
   · rw [getD_set_ne false hij]
     exact ⟨.inl, fun h => h.resolve_right (fun e => hij e.symm)⟩
  refine hS.run X N0 W0 ρ W a (heapS ops.size T w fun i => l.getD i false = true) ?_ H heapEq hz hO hG _ Q fun ρ' W' v' g' hgl hgc H' hx hnew hv => ?_
  · simp only [heapS, List.length_map, List.length_range]
    exact F.heap_le (i := j + 1) ops.size (by omega) (Nat.le_refl _)
  refine ih (l.setIfInBounds j true) _ W' ρ' (by simp [hl]) ?_ ?_ ?_ ?_ (by rw [put_defers']; exact hdf) ?_ ?_
  · have h1 : l.toList[j]? = some false := by
     simp [Array.getD_eq_getD_getElem?, hjl] at hj0
     simp [hjl, hj0]
    have := count_set l.toList j h1
    rw [Array.toList_setIfInBounds]
    omega
  · intro i p hi hp
    by_cases hij : i = j
    · subst hij
      exact getD_set_true (ahead p hp)
    · rw [getD_set_ne false (Ne.symm hij)] at hi
      exact getD_set_true (hdc i p hi hp)
  · refine H'.congr (fun b => ?_) (fun b hb => H'.dom b (by rw [hgl]; simp [heapS] at hb ⊢; exact hb))
    rw [hgc b]
    unfold heapS
    rw [cellAt_range, cellAt_range]
    rw [last_same (S' := fun i => l.getD i false = true ∨ i = j) ops.size newS]
    split
    · rw [last_add]
      · simp [hjn]
      · intro i h1 h2 h3 h4 h5
        exact (F.fit i j (neq i h3) (ltn i h3) hjn (fun h => by have := F.lt i j h; omega) (behind i h3) b h5).2.1 h4
    · rename_i hb
      split
      · exact (cellAt_ge (Nat.le_trans (F.heap_le (i := j + 1) ops.size (by omega) (Nat.le_refl _)) (by omega))).symm
      · rfl
  · refine ((E.mono hx).put hv o.dst).congr ?_ fun t => ?_
    · cases o.dst <;> simp [envS, put]
    · unfold envS
      rw [envGet_range, last_same (S' := fun i => l.getD i false = true ∨ i = j) ops.size newS]
      rw [last_add]
      · simp only [hjn, true_and]
        cases hd : o.dst with
        | none =>
         rw [if_neg (show ¬ dstIs ops t j by simp [dstIs, ho, hd])]
         show _ = envGet ((List.range (T 0).env.length).map _) t
         rw [envGet_range]
        | some d =>
         show _ = envGet (((List.range (T 0).env.length).map _).set d (v j)) t
         rw [envGet_set, envGet_range]
         by_cases htd : t = d
         · subst htd
           rw [if_pos (show dstIs ops t j by simp [dstIs, ho, hd])]
           by_cases htl : t < (T 0).env.length
           · rw [if_pos htl, if_pos ⟨rfl, by simpa using htl⟩, hS.env, hd]
             show envGet ((T j).env.set t (v j)) t = _
             rw [envGet_set, if_pos ⟨rfl, by rw [F.env_len j (Nat.le_of_lt hjn)]; exact htl⟩]
           · rw [if_neg htl, if_neg (c := t = t ∧ _) (fun h => htl (by simpa using h.2)), if_neg htl]
         · rw [if_neg (show ¬ dstIs ops t j by simp [dstIs, ho, hd]; exact fun e => htd e.symm), if_neg (c := t = d ∧ _) (fun h => htd h.1)]
      · intro i h1 h2 h3 h4 h5
        have hoi : ops[i]? = some ops[i] := Array.getElem?_eq_getElem h2
        have hdi : (ops[i]).dst = some t := by simpa [dstIs, hoi] using h5
        have hdj : o.dst = some t := by simpa [dstIs, ho] using h4
        exact (Oper.apart_spec (F.apart j i o _ h1 ho hoi (behind i h3))).2.1 t hdj hdi
  · intro b hb
    have h0 := F.heap_le (i := 0) j (Nat.zero_le _) (Nat.le_of_lt hjn)
    cases hρ' : ρ' b with
    | none =>
     cases hρ : ρ b with
     | none => rw [← hag b hb, hρ]
     | some inf => rw [hx b inf hρ] at hρ'; cases hρ'
    | some inf =>
     rcases hnew b inf hρ' with h | h
     · rw [← hag b hb, h]
     · omega
  · intro b inf hb hρ'
    rcases hnew b inf hρ' with h | h
    · obtain ⟨i, h1, h2⟩ := hmk b inf hb h
      exact ⟨i, getD_set_true h1, h2⟩
    · exact ⟨j, (newS j hjn).2 (.inr rfl), h⟩
end
end Go.Abs
