/- Own: Regions that draw their order: what the interpreter tells of them holds. -/
import Derived.Test.YtmiajnodoigndaaGreatAbsM
namespace Go.Abs
open Go.RowKit
set_option linter.unusedVariables false
section
variable {P : Program} {K : Kinds} {R : Type} {x : R} {ops : Array Oper} {qs : Bool} {as : List Nat} {n0 : Nat} {wb : List Nat}
inductive Tag (P : Program) (K : Kinds) (qs : Bool) (ops : Array Oper) (as : List Nat) (n0 : Nat) (wb : List Nat) (j : Nat) (o : Oper) (own : List Nat) (st st' : St) : (w r z : Nat → Prop) → Prop
 | none (hl : st'.h.length = st.h.length) : Tag P K qs ops as n0 wb j o own st st' (fun _ => False) (fun _ => False) (fun _ => False)
 | quiet (h : kindOf P K qs o = .quiet) (n : Nat) (hn : st'.h.length = n) : Tag P K qs ops as n0 wb j o own st st' (fun b => st.h.length ≤ b ∧ b < n) (fun b => (seen n0 own (as.getD j 0) (bif looseStore P K qs as j (as.getD j 0) ops.toList as 0 then wb else []) b).isSome = true) (fun b => st.h.length ≤ b ∧ b < n)
 | store (hl : st'.h.length = st.h.length) (h : kindOf P K qs o = .store) (b0 : Nat) (hf : storeFits P K qs ops.toList as n0 own (as.getD j 0) wb j b0 = true) : Tag P K qs ops as n0 wb j o own st st' (fun b => b = b0) (fun b => b = b0) (fun _ => False)
 | loud (h : kindOf P K qs o = .loud) : Tag P K qs ops as n0 wb j o own st st' (fun _ => True) (fun _ => True) (fun b => st.h.length ≤ b)
structure Rec where
 st : St
 own : List Nat
 w : Nat → Prop
 r : Nat → Prop
 z : Nat → Prop
 v : AV
theorem opStore_local {t : TypeId} {a v : AV} {h h' : Heap} (he : opStore P t a v h some = some h') : ∃ b i o c c', a = .ptr b i o ∧ cellAt h b = some c ∧ h' = h.set b (some c') ∧ ∀ g, cellAt g b = some c → opStore P t a v g some = some (g.set b (some c')) := by
 unfold opStore at he
 simp only [cond_eq_ite] at he
 split at he
 case h_2 => cases he
 rename_i b i o cs n h1 h2
 split at he
 case isFalse => cases he
 rename_i hn
 split at he
 · cases he
 · rename_i c hc
   split at he
   case isFalse => cases he
   rename_i hw
   rw [Rows.get_bind] at he
   obtain ⟨row, hr, he⟩ := Option.bind_eq_some_iff.1 he
   split at he
   · cases he
   · rename_i row' hp
     rw [Rows.set_bind] at he
     obtain ⟨rows, hs, he⟩ := Option.bind_eq_some_iff.1 he
     cases he
     refine ⟨b, i, o, c, _, rfl, hc, rfl, fun g hg => ?_⟩
     unfold opStore
     simp only [cond_eq_ite, h1, h2, hn, if_true, hg, hw]
     rw [Rows.get_bind, hr]
     simp only [Option.bind_some, hp]
     rw [Rows.set_bind, hs]
     rfl
theorem draw_trace {orc : Orc R} (hK : Known P K) (hC : OrcOK P orc) {k : St → Option R} : ∀ (os : List Oper) (j : Nat) (own : List Nat) (st : St), ops.toList.drop j = os → j + os.length = ops.size → own.length + n0 = st.h.length → evDraw P K qs orc ops as n0 wb os j own st k = some x →
 ∃ T : Nat → Rec, (T j).st = st ∧ (T j).own = own ∧ k (T ops.size).st = some x ∧ ∀ i o, j ≤ i → ops[i]? = some o →
  StepW P ops i o (T i).st (T (i + 1)).st (T i).w (T i).r (T i).z (T i).v ∧ Tag P K qs ops as n0 wb i o (T i).own (T i).st (T (i + 1)).st (T i).w (T i).r (T i).z ∧
  (T (i + 1)).own = (T i).own ++ List.replicate ((T (i + 1)).st.h.length - (T i).st.h.length) i ∧ (T i).own.length + n0 = (T i).st.h.length
 | [], j, own, st, hd, hl, hlen, he => by
  refine ⟨fun _ => ⟨st, own, fun _ => False, fun _ => False, fun _ => False, .dead⟩, rfl, rfl, he, fun i o hi ho => ?_⟩
  have := (Array.getElem?_eq_some_iff.1 ho).1
  simp at hl
  omega
 | o :: os, j, own, st, hd, hl, hlen, he => by
  have hi : ops[j]? = some o := by
   have := congrArg (·[0]?) hd
   simpa using this
  have hd' : ops.toList.drop (j + 1) = os := by
   rw [← List.drop_drop, hd]; rfl
  have glue : ∀ (st1 : St) (own1 : List Nat) (w r z : Nat → Prop) (v : AV), own1 = own ++ List.replicate (st1.h.length - st.h.length) j → st.h.length ≤ st1.h.length → StepW P ops j o st st1 w r z v → Tag P K qs ops as n0 wb j o own st st1 w r z →
   evDraw P K qs orc ops as n0 wb os (j + 1) own1 st1 k = some x → ∃ T : Nat → Rec, (T j).st = st ∧ (T j).own = own ∧ k (T ops.size).st = some x ∧ ∀ i o, j ≤ i → ops[i]? = some o →
   StepW P ops i o (T i).st (T (i + 1)).st (T i).w (T i).r (T i).z (T i).v ∧ Tag P K qs ops as n0 wb i o (T i).own (T i).st (T (i + 1)).st (T i).w (T i).r (T i).z ∧
   (T (i + 1)).own = (T i).own ++ List.replicate ((T (i + 1)).st.h.length - (T i).st.h.length) i ∧ (T i).own.length + n0 = (T i).st.h.length := by
   intro st1 own1 w r z v ho1 hle hs ht he1
   obtain ⟨T, t1, t2, t3, t4⟩ := draw_trace hK hC os (j + 1) own1 st1 hd' (by simp at hl ⊢; omega) (by rw [ho1, List.length_append, List.length_replicate]; omega) he1
   refine ⟨fun i => if i = j then ⟨st, own, w, r, z, v⟩ else T i, by simp, by simp, ?_, fun i o' hij ho' => ?_⟩
   · have : ¬ ops.size = j := by simp at hl; omega
     simp only [this, if_false]
     exact t3
   · by_cases hq : i = j
     · subst hq
       rw [hi] at ho'
       cases ho'
       have : ¬ i + 1 = i := by omega
       simp only [this, if_false, if_true, t1, t2]
       exact ⟨hs, ht, ho1, hlen⟩
     · have h1 : ¬ i + 1 = j := by omega
       simp only [hq, h1, if_false]
       exact t4 i o' (by omega) ho'
  unfold evDraw at he
  rcases guarded_some he with ⟨he, hg⟩ | ⟨he, hg⟩
  · split at he
    · rename_i hkind
      obtain ⟨v, h', hk, hop⟩ := evOp_sound hK hC he
      have hf : ∀ b b', seen n0 own (as.getD j 0) (bif looseStore P K qs as j (as.getD j 0) ops.toList as 0 then wb else []) b = some b' → b' = b ∧ b < st.h.length := by
       intro b b' hs
       unfold seen at hs
       cases hb : Nat.blt b n0 with
       | true =>
        rw [hb] at hs
        have hb : b < n0 := by simpa using hb
        simp only [cond_true] at hs
        generalize memB b _ = m at hs
        cases m <;> cases hs
        exact ⟨rfl, by omega⟩
       | false =>
        rw [hb] at hs
        have hb : ¬ b < n0 := fun h => by rw [Nat.blt_eq.mpr h] at hb; cases hb
        simp only [cond_false] at hs
        split at hs
        · rename_i c hc
          have := (List.getElem?_eq_some_iff.1 hc).1
          generalize Nat.testBit _ c = m at hs
          cases m <;> cases hs
          exact ⟨rfl, by omega⟩
        · cases hs
      have hl' : st.h.length ≤ h'.length := by have := hop.1; rwa [roHeap_length] at this
      have hlen' : (st.h ++ ownOnly (h'.drop st.h.length)).length = h'.length := by
       rw [List.length_append, ownOnly_length, List.length_drop]; omega
      refine glue _ _ _ _ _ _ ?_ ?_ (StepW.quiet hi hg hf hop) (.quiet hkind _ hlen') hk
      · show own ++ List.replicate (ownOnly (h'.drop st.h.length)).length j = own ++ List.replicate ((st.h ++ ownOnly (h'.drop st.h.length)).length - st.h.length) j
        rw [List.length_append]
        congr 2
        omega
      · show st.h.length ≤ (st.h ++ ownOnly (h'.drop st.h.length)).length
        omega
    · rename_i hkind
      split at he
      · rename_i t a u hop
        split at he
        · rename_i b i off ha
          simp only [cond_eq_ite] at he
          split at he
          case isFalse => cases he
          rename_i hfit
          unfold evOp at he
          rw [hop] at he
          simp only [] at he
          rw [opStore_bind] at he
          obtain ⟨h', h1, hk⟩ := Option.bind_eq_some_iff.1 he
          obtain ⟨b', i', o', c, c', e1, e2, e3, e4⟩ := opStore_local h1
          rw [ha] at e1
          cases e1
          subst e3
          have hb := cellAt_lt e2
          refine glue ⟨put st.env o.dst (.tup []), st.h.set b (some c')⟩ own _ _ _ _ ?_ ?_ (StepW.store hi hg hb (c' := c') fun g hgc => ?_) (.store (by simp) hkind b hfit) hk
          · simp
          · simp
          · have h2 := e4 g (hgc.trans e2)
            refine OpOK.unit (by simp) fun X N0 W0 ρ W a' hH hO => ?_
            obtain ⟨h3, W', hr, hH', e0, _⟩ := opStore_sound hH (hO a (by simp [hop, Op.operands])) (hO u (by simp [hop, Op.operands])) h2
            cases e0
            exact ⟨W', .inl (by simp only [execOp, hop]; exact run_u hr), hH'⟩
        · cases he
      · cases he
    · rename_i hq hs
      cases hkind : kindOf P K qs o with
      | quiet => exact absurd hkind hq
      | store => exact absurd hkind hs
      | pure =>
       rw [evOp_pure hkind] at he
       obtain ⟨v, h1, hk⟩ := Option.bind_eq_some_iff.1 he
       refine glue _ _ _ _ _ _ ?_ ?_ (StepW.pure hi hg fun g => ?_) (.none rfl) hk
       · rfl
       · exact Nat.le_refl _
       · have h2 : evOp P K (Orc.none : Orc (AV × Heap)) o st.env g pr = some (v, g) := by
          rw [evOp_pure hkind, h1]; rfl
         obtain ⟨v2, h3, e0, hop⟩ := evOp_sound hK (fun f args h k x he => by cases he) h2
         cases e0
         exact hop
      | loud =>
       obtain ⟨v, h', hk, hop⟩ := evOp_sound hK hC he
       exact glue _ _ _ _ _ _ rfl hop.1 (StepW.loud hi hg hop) (.loud hkind) hk
  · refine glue ⟨put st.env o.dst (.tup []), st.h⟩ own _ _ _ _ ?_ (Nat.le_refl _) (StepW.off hi hg) (.none rfl) he
    simp
theorem aheadOf_bit (acc : List Nat) (p : Nat) : ∀ (l : List Edge) (s : Nat), (l.foldl (fun s e => bif Region.binds .any e then s ||| (2 ^ e.on ||| acc.getD e.on 0) else s) s).testBit p = true → s.testBit p = true ∨ ∃ e ∈ l, Region.binds .any e = true ∧ (p = e.on ∨ (acc.getD e.on 0).testBit p = true)
 | [], s, h => .inl h
 | e :: l, s, h => by
  rw [List.foldl_cons] at h
  rcases aheadOf_bit acc p l _ h with h | ⟨e', he, h⟩
  · cases hb : Region.binds .any e with
    | false => rw [hb] at h; exact .inl h
    | true =>
     rw [hb] at h
     simp only [cond_true, Nat.testBit_or, Nat.testBit_two_pow, Bool.or_eq_true, decide_eq_true_eq] at h
     rcases h with h | h | h
     · exact .inl h
     · exact .inr ⟨e, .head _, hb, .inl h.symm⟩
     · exact .inr ⟨e, .head _, hb, .inr h⟩
  · exact .inr ⟨e', .tail _ he, h⟩
theorem aheads_spec : ∀ (os : List Oper) (acc : List Nat), (∃ t, aheads os acc = acc ++ t) ∧ (aheads os acc).length = acc.length + os.length ∧ ∀ i o, os[i]? = some o → ∃ m, (aheads os acc)[acc.length + i]? = some m ∧ m = aheadOf ((aheads os acc).take (acc.length + i)) o
 | [], acc => ⟨⟨[], by simp [aheads]⟩, by simp [aheads], fun i o h => by simp at h⟩
 | o :: os, acc => by
  obtain ⟨⟨t, ht⟩, hl, h⟩ := aheads_spec os (acc ++ [aheadOf acc o])
  have hd : aheads (o :: os) acc = aheads os (acc ++ [aheadOf acc o]) := rfl
  rw [hd]
  refine ⟨⟨aheadOf acc o :: t, by rw [ht]; simp⟩, by rw [hl]; simp; omega, fun i o' ho => ?_⟩
  cases i with
  | zero =>
   simp at ho
   subst ho
   refine ⟨aheadOf acc o, by rw [ht]; simp, ?_⟩
   rw [ht, Nat.add_zero, List.append_assoc, List.take_left']
   rfl
  | succ i =>
   obtain ⟨m, h1, h2⟩ := h i o' (by simpa using ho)
   simp only [List.length_append, List.length_cons, List.length_nil, Nat.zero_add] at h1 h2
   rw [show acc.length + 1 + i = acc.length + (i + 1) by omega] at h1 h2
   exact ⟨m, h1, h2⟩
theorem fitsAll_spec {oi : Oper} {i : Nat} : ∀ (l : List Oper) (as : List Nat) (j : Nat), fitsAll P K qs ops l i oi as j = true → ∀ (q : Nat) (oj : Oper) (a : Nat), l[q]? = some oj → as[q]? = some a → a.testBit i = true ∨ (oi.apart ops oj = true ∧ kindsFit (kindOf P K qs oi) (kindOf P K qs oj) = true)
 | l, [], j, h, q, oj, a, h1, h2 => by simp at h2
 | [], a0 :: as, j, h, q, oj, a, h1, h2 => by simp at h1
 | o :: l, a0 :: as, j, h, q, oj, a, h1, h2 => by
  simp only [fitsAll, Bool.and_eq_true, Bool.or_eq_true] at h
  cases q with
  | zero =>
   simp at h1 h2
   subst h1 h2
   exact h.1
  | succ q => exact fitsAll_spec l as (j + 1) h.2 q oj a (by simpa using h1) (by simpa using h2)
theorem drawFits_spec : ∀ (os : List Oper) (as : List Nat) (s : Nat), os.length = as.length → drawFits P K qs ops os as s = true →
 (∀ (q : Nat) (o : Oper) (e : Edge), os[q]? = some o → e ∈ o.after → Region.binds .any e = true → e.on < s + q) ∧ ∀ (p q : Nat) (oi oj : Oper) (a : Nat), p < q → os[p]? = some oi → os[q]? = some oj → as[q]? = some a → a.testBit (s + p) = true ∨ (oi.apart ops oj = true ∧ kindsFit (kindOf P K qs oi) (kindOf P K qs oj) = true)
 | [], as, s, hl, h => ⟨fun q o e ho => by simp at ho, fun p q oi oj a _ ho => by simp at ho⟩
 | o :: os, [], s, hl, h => by simp at hl
 | o :: os, a0 :: as, s, hl, h => by
  simp only [drawFits, Bool.and_eq_true] at h
  obtain ⟨h1, h2, h3⟩ := h
  obtain ⟨r1, r2⟩ := drawFits_spec os as (s + 1) (by simpa using hl) h3
  refine ⟨fun q o' e ho he hb => ?_, fun p q oi oj a hpq hp hq ha => ?_⟩
  · cases q with
    | zero =>
     simp at ho
     subst ho
     have := (List.all_eq_true.1 h1) e (by simpa using he)
     simpa [hb] using this
    | succ q =>
     have := r1 q o' e (by simpa using ho) he hb
     omega
  · cases q with
    | zero => omega
    | succ q =>
     cases p with
     | zero =>
      simp at hp
      subst hp
      exact fitsAll_spec os as (s + 1) h2 q oj a (by simpa using hq) (by simpa using ha)
     | succ p =>
      have := r2 p q oi oj a (by omega) (by simpa using hp) (by simpa using hq) (by simpa using ha)
      rwa [show s + 1 + p = s + (p + 1) by omega] at this
theorem looseStore_of {as0 : List Nat} {j mine : Nat} : ∀ (os : List Oper) (as : List Nat) (s q : Nat) (o : Oper) (a : Nat), os[q]? = some o → as[q]? = some a → kindOf P K qs o = .store → s + q ≠ j → (bif Nat.blt (s + q) j then mine.testBit (s + q) else a.testBit j) = false → looseStore P K qs as0 j mine os as s = true
 | [], as, s, q, o, a, h1, _, _, _, _ => by simp at h1
 | o0 :: os, [], s, q, o, a, _, h2, _, _, _ => by simp at h2
 | o0 :: os, a0 :: as, s, q, o, a, h1, h2, h3, h4, h5 => by
  unfold looseStore
  rw [Bool.or_eq_true]
  cases q with
  | zero =>
   simp at h1 h2
   subst h1 h2
   refine .inl ?_
   rw [h3]
   have : Nat.beq s j = false := by
    cases hq : Nat.beq s j with
    | false => rfl
    | true => exact absurd (Nat.eq_of_beq_eq_true hq) (by omega)
   rw [Nat.add_zero] at h5
   simp [this, h5]
  | succ q => exact .inr (looseStore_of os as (s + 1) q o a (by simpa using h1) (by simpa using h2) h3 (by omega) (by rwa [show s + 1 + q = s + (q + 1) by omega]))
theorem looseQuiet_of {j mine : Nat} {t : Nat → Bool} : ∀ (os : List Oper) (as : List Nat) (s q : Nat) (o : Oper) (a : Nat), os[q]? = some o → as[q]? = some a → kindOf P K qs o = .quiet → s + q ≠ j → (bif Nat.blt (s + q) j then mine.testBit (s + q) else a.testBit j) = false → t a = true → looseQuiet P K qs j mine t os as s = true
 | [], as, s, q, o, a, h1, _, _, _, _, _ => by simp at h1
 | o0 :: os, [], s, q, o, a, _, h2, _, _, _, _ => by simp at h2
 | o0 :: os, a0 :: as, s, q, o, a, h1, h2, h3, h4, h5, h6 => by
  unfold looseQuiet
  rw [Bool.or_eq_true]
  cases q with
  | zero =>
   simp at h1 h2
   subst h1 h2
   refine .inl ?_
   rw [h3]
   have : Nat.beq s j = false := by
    cases hq : Nat.beq s j with
    | false => rfl
    | true => exact absurd (Nat.eq_of_beq_eq_true hq) (by omega)
   rw [Nat.add_zero] at h5
   simp [this, h5, h6]
  | succ q => exact .inr (looseQuiet_of os as (s + 1) q o a (by simpa using h1) (by simpa using h2) h3 (by omega) (by rwa [show s + 1 + q = s + (q + 1) by omega]) h6)
theorem blt_false {a b : Nat} (h : ¬ a < b) : Nat.blt a b = false := by
 cases hq : Nat.blt a b with
 | false => rfl
 | true => exact absurd (Nat.blt_eq.mp hq) h
theorem kindsFit_comm (a b : Kind) : kindsFit a b = kindsFit b a := by cases a <;> cases b <;> rfl
theorem draw_free {T : Nat → Rec} (has : as = aheads ops.toList []) (hfit : drawFits P K qs ops ops.toList as 0 = true) (h0 : (T 0).own = [])
 (hT : ∀ i o, ops[i]? = some o → StepW P ops i o (T i).st (T (i + 1)).st (T i).w (T i).r (T i).z (T i).v ∧ Tag P K qs ops as n0 wb i o (T i).own (T i).st (T (i + 1)).st (T i).w (T i).r (T i).z ∧
  (T (i + 1)).own = (T i).own ++ List.replicate ((T (i + 1)).st.h.length - (T i).st.h.length) i ∧ (T i).own.length + n0 = (T i).st.h.length) :
 Free P ops (fun i => (T i).st) (fun i => (T i).w) (fun i => (T i).r) (fun i => (T i).z) (fun i => (T i).v) (fun p j => (as.getD j 0).testBit p = true) := by
 have hlen : as.length = ops.size := by rw [has, (aheads_spec _ _).2.1]; simp
 have hat : ∀ i, i < ops.size → as[i]? = some (as.getD i 0) := fun i hi => by
  rw [List.getD_eq_getElem?_getD, List.getElem?_eq_getElem (by omega)]
  rfl
 obtain ⟨htopo, hfits⟩ := drawFits_spec ops.toList as 0 (by simp [hlen]) hfit
 have topo : ∀ (j : Nat) (o : Oper) (e : Edge), ops[j]? = some o → e ∈ o.after → Region.binds .any e = true → e.on < j := fun j o e ho he hb => by
  have := htopo j o e (by simpa using ho) he hb
  omega
 have back : ∀ (p j : Nat) (o : Oper), ops[j]? = some o → (as.getD j 0).testBit p = true → ∃ e ∈ o.after, Region.binds .any e = true ∧ (p = e.on ∨ (as.getD e.on 0).testBit p = true) := by
  intro p j o ho hp
  have hj : j < ops.size := (Array.getElem?_eq_some_iff.1 ho).1
  obtain ⟨m, h1, h2⟩ := (aheads_spec ops.toList []).2.2 j o (by simpa using ho)
  rw [← has] at h1 h2
  simp only [List.length_nil, Nat.zero_add] at h1 h2
  rw [hat j hj] at h1
  cases h1
  rw [h2] at hp
  unfold aheadOf at hp
  rcases aheadOf_bit _ p _ 0 hp with h | ⟨e, he, hb, h⟩
  · simp at h
  · refine ⟨e, by simpa using he, hb, h.imp id fun h => ?_⟩
    have hlt := topo j o e ho (by simpa using he) hb
    rw [List.getD_eq_getElem?_getD, List.getElem?_take_of_lt hlt, ← List.getD_eq_getElem?_getD] at h
    exact h
 have lt : ∀ j p, (as.getD j 0).testBit p = true → p < j := by
  intro j
  induction j using Nat.strongRecOn with
  | _ j ih =>
   intro p hp
   rcases Nat.lt_or_ge j ops.size with hj | hj
   · have ho : ops[j]? = some ops[j] := Array.getElem?_eq_getElem hj
     obtain ⟨e, he, hb, h⟩ := back p j _ ho hp
     have := topo j _ e ho he hb
     rcases h with rfl | h
     · exact this
     · have := ih e.on this p h
       omega
   · rw [List.getD_eq_getElem?_getD, List.getElem?_eq_none (by omega)] at hp
     simp at hp
 have hap : ∀ (i j : Nat) (oi oj : Oper), i < j → ops[i]? = some oi → ops[j]? = some oj → ¬ (as.getD j 0).testBit i = true → oi.apart ops oj = true ∧ kindsFit (kindOf P K qs oi) (kindOf P K qs oj) = true := by
  intro i j oi oj hij hi hj hn
  have hjl : j < ops.size := (Array.getElem?_eq_some_iff.1 hj).1
  have := hfits i j oi oj _ hij (by simpa using hi) (by simpa using hj) (hat j hjl)
  rw [Nat.zero_add] at this
  exact this.resolve_left hn
 have hle : ∀ i j, i ≤ j → j ≤ ops.size → (T i).st.h.length ≤ (T j).st.h.length := by
  intro i j
  induction j with
  | zero => intro h _; rw [show i = 0 by omega]; exact Nat.le_refl _
  | succ j ih =>
   intro h hj
   rcases Nat.lt_or_ge i (j + 1) with h1 | h1
   · exact Nat.le_trans (ih (by omega) (by omega)) (hT j _ (Array.getElem?_eq_getElem (by omega))).1.len
   · rw [show i = j + 1 by omega]; exact Nat.le_refl _
 have maker : ∀ m, m ≤ ops.size → ∀ q c, (T m).own[q]? = some c → c < m ∧ (T c).st.h.length ≤ q + n0 ∧ q + n0 < (T (c + 1)).st.h.length := by
  intro m
  induction m with
  | zero => intro _ q c h; rw [h0] at h; simp at h
  | succ m ih =>
   intro hm q c h
   obtain ⟨h1, h2, h3, h4⟩ := hT m _ (Array.getElem?_eq_getElem (show m < ops.size by omega))
   rw [h3] at h
   rcases Nat.lt_or_ge q (T m).own.length with hq | hq
   · rw [List.getElem?_append_left hq] at h
     obtain ⟨k1, k2⟩ := ih (by omega) q c h
     exact ⟨by omega, k2⟩
   · rw [List.getElem?_append_right hq, List.getElem?_replicate] at h
     split at h
     · rename_i hlt
       cases h
       exact ⟨by omega, by omega, by omega⟩
     · cases h
 have uniq : ∀ i c b, i < ops.size → c < ops.size → (T i).st.h.length ≤ b → b < (T (i + 1)).st.h.length → (T c).st.h.length ≤ b → b < (T (c + 1)).st.h.length → i = c := by
  intro i c b hi hc h1 h2 h3 h4
  rcases Nat.lt_trichotomy i c with h | h | h
  · have := hle (i + 1) c h (by omega); omega
  · exact h
  · have := hle (c + 1) i h (by omega); omega
 have hn0 : ∀ i, i < ops.size → n0 ≤ (T i).st.h.length := fun i hi => by
  have := (hT i _ (Array.getElem?_eq_getElem hi)).2.2.2
  omega
 have storeB : ∀ j b, j < ops.size → storeFits P K qs ops.toList as n0 (T j).own (as.getD j 0) wb j b = true →
  (b < n0 ∧ (looseQuiet P K qs j (as.getD j 0) (fun _ => true) ops.toList as 0 = true → memB b wb = true)) ∨
  (n0 ≤ b ∧ ∃ c, (T j).own[b - n0]? = some c ∧ (as.getD j 0).testBit c = true ∧ looseQuiet P K qs j (as.getD j 0) (fun a => a.testBit c) ops.toList as 0 = false ∧ c < j ∧ (T c).st.h.length ≤ b ∧ b < (T (c + 1)).st.h.length) := by
  intro j b hj h
  unfold storeFits at h
  rcases Nat.lt_or_ge b n0 with hb | hb
  · rw [Nat.blt_eq.mpr hb] at h
    simp only [cond_true, Bool.or_eq_true, Bool.not_eq_true'] at h
    refine .inl ⟨hb, fun hq => ?_⟩
    rcases h with h | h
    · rw [h] at hq; cases hq
    · exact h
  · rw [blt_false (Nat.not_lt.2 hb)] at h
    simp only [cond_false] at h
    split at h
    · rename_i c hc
      simp only [Bool.and_eq_true, Bool.not_eq_true'] at h
      obtain ⟨k1, k2, k3⟩ := maker j (by omega) _ c hc
      rw [show b - n0 + n0 = b by omega] at k2 k3
      exact .inr ⟨hb, c, hc, h.1, h.2, k1, k2, k3⟩
    · cases h
 have unseen : ∀ i j b, i ≠ j → i < ops.size → j < ops.size → ¬ (as.getD j 0).testBit i = true → ¬ (as.getD i 0).testBit j = true → kindOf P K qs ops[i]! = .store → kindOf P K qs ops[j]! = .quiet →
  storeFits P K qs ops.toList as n0 (T i).own (as.getD i 0) wb i b = true → ¬ (seen n0 (T j).own (as.getD j 0) (bif looseStore P K qs as j (as.getD j 0) ops.toList as 0 then wb else []) b).isSome = true := by
  intro i j b hne hi hj h1 h2 hks hkq hsf hs
  have hoi : ops.toList[i]? = some ops[i]! := by simp [hi]
  have hoj : ops.toList[j]? = some ops[j]! := by simp [hj]
  have b1 : (bif Nat.blt i j then (as.getD j 0).testBit i else (as.getD i 0).testBit j) = false := by
   cases Nat.blt i j <;> simp only [cond_true, cond_false]
   · simpa using h2
   · simpa using h1
  have b2 : (bif Nat.blt j i then (as.getD i 0).testBit j else (as.getD j 0).testBit i) = false := by
   cases Nat.blt j i <;> simp only [cond_true, cond_false]
   · simpa using h1
   · simpa using h2
  have ls : looseStore P K qs as j (as.getD j 0) ops.toList as 0 = true := looseStore_of ops.toList as 0 i _ _ hoi (hat i hi) hks (by omega) (by rwa [Nat.zero_add])
  rw [ls] at hs
  unfold seen at hs
  rcases storeB i b hi hsf with ⟨hb, hw⟩ | ⟨hb, c, hc, hm, hq, hci, hc1, hc2⟩
  · have := hw (looseQuiet_of ops.toList as 0 j _ _ hoj (hat j hj) hkq (by omega) (by rwa [Nat.zero_add]) rfl)
    rw [Nat.blt_eq.mpr hb] at hs
    simp [this] at hs
  · rw [blt_false (Nat.not_lt.2 hb)] at hs
    simp only [cond_false] at hs
    split at hs
    · rename_i c' hc'
      obtain ⟨k1, k2, k3⟩ := maker j (by omega) _ c' hc'
      rw [show b - n0 + n0 = b by omega] at k2 k3
      have := uniq c c' b (by omega) (by omega) hc1 hc2 k2 k3
      subst this
      cases hbit : (as.getD j 0).testBit c with
      | false => rw [hbit] at hs; simp at hs
      | true =>
       have := looseQuiet_of (t := fun a => a.testBit c) (mine := as.getD i 0) (j := i) ops.toList as 0 j _ _ hoj (hat j hj) hkq (by omega) (by rwa [Nat.zero_add]) hbit
       rw [this] at hq
       cases hq
    · simp at hs
 have unmade : ∀ i j b, i ≠ j → i < ops.size → j < ops.size → ¬ (as.getD i 0).testBit j = true → storeFits P K qs ops.toList as n0 (T i).own (as.getD i 0) wb i b = true → ¬ ((T j).st.h.length ≤ b ∧ b < (T (j + 1)).st.h.length) := by
  intro i j b hne hi hj h2 hsf ⟨hb1, hb2⟩
  have := hn0 j hj
  rcases storeB i b hi hsf with ⟨hb, hw⟩ | ⟨hb, c, hc, hm, hq, hci, hc1, hc2⟩
  · omega
  · have := uniq c j b (by omega) hj hc1 hc2 hb1 hb2
    subst this
    exact h2 hm
 refine ⟨fun j o ho => (hT j o ho).1, topo, fun p j h => lt j p h, back, fun i j oi oj hij hi hj hn => (hap i j oi oj hij hi hj hn).1, fun i j hne hi hj h1 h2 b hw => ?_, fun j b hj hb1 hb2 => ?_⟩
 · have hoi : ops[i]? = some ops[i]! := by simp [hi]
   have hoj : ops[j]? = some ops[j]! := by simp [hj]
   have kf : kindsFit (kindOf P K qs ops[i]!) (kindOf P K qs ops[j]!) = true := by
    rcases Nat.lt_or_ge i j with h | h
    · exact (hap i j _ _ h hoi hoj h1).2
    · rw [kindsFit_comm]
      exact (hap j i _ _ (by omega) hoj hoi h2).2
   have ti := (hT i _ hoi).2.1
   have tj := (hT j _ hoj).2.1
   have hno := hn0 i hi
   have hli := (hT i _ hoi).2.2.2
   have hlj := (hT j _ hoj).2.2.2
   generalize hwi : (T i).w = wi at ti hw
   generalize hri : (T i).r = ri at ti
   generalize hzi : (T i).z = zi at ti
   show ¬ (T j).r b ∧ ¬ (T j).w b ∧ ¬ ((T j).z b ∧ _)
   generalize hwj : (T j).w = wj at tj ⊢
   generalize hrj : (T j).r = rj at tj ⊢
   generalize hzj : (T j).z = zj at tj ⊢
   cases ti with
   | none _ => exact hw.elim
   | quiet hk n hn =>
    subst hn
    cases tj with
    | none _ => exact ⟨fun h => h, fun h => h, fun h => h.1⟩
    | quiet hk' n' hn' =>
     subst hn'
     refine ⟨fun hs => ?_, fun h => hne (uniq i j b hi hj hw.1 hw.2 h.1 h.2), fun h => hne (uniq i j b hi hj hw.1 hw.2 h.1.1 h.1.2)⟩
     have hs : (seen n0 (T j).own (as.getD j 0) (bif looseStore P K qs as j (as.getD j 0) ops.toList as 0 then wb else []) b).isSome = true := hs
     unfold seen at hs
     rw [blt_false (show ¬ b < n0 by omega)] at hs
     simp only [cond_false] at hs
     split at hs
     · rename_i c hc
       obtain ⟨k1, k2, k3⟩ := maker j (by omega) _ c hc
       rw [show b - n0 + n0 = b by omega] at k2 k3
       have := uniq i c b hi (by omega) hw.1 hw.2 k2 k3
       subst this
       cases hbit : (as.getD j 0).testBit i with
       | false => rw [hbit] at hs; simp at hs
       | true => exact h1 hbit
     · simp at hs
    | store hl' hk' b0 hf =>
     refine ⟨fun h => ?_, fun h => ?_, fun h => h.1⟩
     · subst h; exact unmade j i _ (Ne.symm hne) hj hi h1 hf hw
     · subst h; exact unmade j i _ (Ne.symm hne) hj hi h1 hf hw
    | loud hk' => rw [hk, hk'] at kf; cases kf
   | store hl hk b0 hf =>
    subst hw
    cases tj with
    | none _ => exact ⟨fun h => h, fun h => h, fun h => h.1⟩
    | quiet hk' n' hn' =>
     subst hn'
     exact ⟨unseen i j b hne hi hj h1 h2 hk hk' hf, unmade i j b hne hi hj h2 hf, fun h => unmade i j b hne hi hj h2 hf h.1⟩
    | store hl' hk' b1 hf' => rw [hk, hk'] at kf; cases kf
    | loud hk' => rw [hk, hk'] at kf; cases kf
   | loud hk =>
    cases tj with
    | none _ => exact ⟨fun h => h, fun h => h, fun h => h.1⟩
    | quiet hk' n' hn' => rw [hk, hk'] at kf; cases kf
    | store hl' hk' b1 hf' => rw [hk, hk'] at kf; cases kf
    | loud hk' => rw [hk, hk'] at kf; cases kf
 · have hoj : ops[j]? = some ops[j]! := by simp [hj]
   have tj := (hT j _ hoj).2.1
   have sj := (hT j _ hoj).1
   show (T j).w b
   generalize hwj : (T j).w = wj at tj sj ⊢
   generalize hrj : (T j).r = rj at tj sj
   generalize hzj : (T j).z = zj at tj sj
   cases tj with
   | none hl => omega
   | quiet hk n hn => subst hn; exact ⟨hb1, hb2⟩
   | store hl hk b0 hf => omega
   | loud hk => trivial
theorem draw_sound {orc : Orc R} (hK : Known P K) (hC : OrcOK P orc) (hm : P.follows .mixedOrders = true) {k : St → Option R} {st : St} (id : Nat) (hfit : drawFits P K qs ops ops.toList (aheads ops.toList []) 0 = true)
 (he : evDraw P K qs orc ops (aheads ops.toList []) st.h.length wb ops.toList 0 [] st k = some x) : ∃ st', k st' = some x ∧ CodeOK P (.region id ops true) st .normal st' := by
 obtain ⟨T, t1, t2, t3, t4⟩ := draw_trace hK hC ops.toList 0 [] st rfl (by simp) (by simp) he
 have F := draw_free rfl hfit t2 fun i o ho => t4 i o (Nat.zero_le _) ho
 refine ⟨_, t3, ?_, fun X N0 W0 ρ W a hS Q hQ => wp_region_any hm ?_⟩
 · have := F.heap_le (i := 0) ops.size (Nat.zero_le _) (Nat.le_refl _)
   simp only [t1] at this
   exact this
 · have hnone : ∀ i, ¬ (Array.replicate ops.size false).getD i false = true := by
    intro i h
    rw [Array.getD_eq_getD_getElem?, Array.getElem?_replicate] at h
    split at h <;> simp at h
   have h1 : ∀ b, cellAt (heapS ops.size (fun i => (T i).st) (fun i => (T i).w) fun i => (Array.replicate ops.size false).getD i false = true) b = cellAt st.h b := by
    intro b
    unfold heapS
    rw [cellAt_range]
    split
    · rw [last_canon (c := fun j => cellAt (T j).st.h b) (j := 0) ops.size (fun i hi hw => (F.step i _ (Array.getElem?_eq_getElem hi)).fr b hw) (fun i hi _ => ⟨fun h => (hnone i h).elim, fun h => by omega⟩)]
      simp [t1]
    · rename_i hb
      have := F.heap_le (i := 0) ops.size (Nat.zero_le _) (Nat.le_refl _)
      simp only [t1] at this
      exact (cellAt_ge (Nat.le_trans this (Nat.le_of_not_lt hb))).symm
   refine F.any (ρ0 := ρ) (fun ρ' W' a' h ha => hQ ρ' W' a' h (by simpa [t1] using ha)) ops.size _ a _ ρ (by simp) ?_ (fun i p h => (hnone i h).elim) ?_ ?_ hS.2.2 (Agr.refl _ _) ?_
   · simp
   · refine HR.congr (hS.1.drew) h1 fun b hb => hS.1.dom b ?_
     have := F.heap_le (i := 0) ops.size (Nat.zero_le _) (Nat.le_refl _)
     simp only [t1] at this
     simp only [heapS, List.length_map, List.length_range] at hb
     exact Nat.le_trans this hb
   · refine hS.2.1.congr ?_ fun t => ?_
     · simp [envS, t1]
     · unfold envS
       rw [envGet_range]
       split
       · rw [last_canon (c := fun j => envGet (T j).st.env t) (j := 0) ops.size (fun i hi hw => F.env_fr hi hw) (fun i hi _ => ⟨fun h => (hnone i h).elim, fun h => by omega⟩)]
         simp [t1]
       · rename_i hb
         simp only [t1] at hb
         unfold envGet
         rw [List.getElem?_eq_none (by omega)]
   · intro b inf hb hρ
     simp only [t1] at hb
     rw [hS.1.dom b hb] at hρ
     cases hρ
end
end Go.Abs
