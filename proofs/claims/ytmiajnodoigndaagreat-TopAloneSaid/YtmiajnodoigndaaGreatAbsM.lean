/- Own: What each kind of operation does, whatever else is there. -/
import Derived.Test.YtmiajnodoigndaaGreatAbsL
namespace Go.Abs
open Go.RowKit
set_option linter.unusedVariables false
theorem renLL_map (f : Nat → Option Nat) : ∀ l, renLL f l = l.map (renL f)
  | [] => rfl
  | _ :: l => by simp [renLL, renLL_map f l]
theorem renL_map (f : Nat → Option Nat) : ∀ l, renL f l = l.map (AV.ren f)
  | [] => rfl
  | _ :: l => by simp [renL, renL_map f l]
theorem renL_rowOf (f : Nat → Option Nat) (c : TC) (x : El c) : renL f (rowOf c x) = rowOf c x := by cases c <;> rfl
theorem renL_ops (f : Nat → Option Nat) {b b' : Nat} (hb : f b = some b') (x : OpD) (i : Nat) : renL f (OpD.row x b i) = OpD.row x b' i := by
  simp [OpD.row, renL, AV.ren, hb]
theorem opsRows_ren (f : Nat → Option Nat) {b b' : Nat} (hb : f b = some b') : ∀ (i : Nat) (l : List OpD), (opsRows b i l).map (renL f) = opsRows b' i l
  | _, [] => rfl
  | i, x :: l => by simp [opsRows, renL_ops f hb, opsRows_ren f hb (i + 1) l]
theorem Rows.ren_list (f : Nat → Option Nat) {b b' : Nat} (hb : f b = some b') (r : Rows) : (r.ren f).list b' = (r.list b).map (renL f) := by
  cases r <;> simp [Rows.ren, Rows.list, renLL_map, renL_rowOf, opsRows_ren f hb]
theorem renM_map (f : Nat → Option Nat) : ∀ l, renM f l = l.map fun x => (x.1, renL f x.2)
  | [] => rfl
  | _ :: l => by simp [renM, renM_map f l]
theorem Rows.ren_ents (f : Nat → Option Nat) (r : Rows) : (r.ren f).ents = r.ents.map (renM f) := by
  cases r <;> simp [Rows.ren, Rows.ents, renM_map, renL_rowOf]
theorem Rows.ren_flat (f : Nat → Option Nat) (r : Rows) : (r.ren f).flat = r.flat ∧ (r.ren f).sz = r.sz ∧ (r.ren f).len = r.len := by
  cases r <;> simp [Rows.ren, Rows.flat, Rows.sz, Rows.len, renLL_map, renM_map]
theorem valOf_ren (f : Nat → Option Nat) (agg : Bool) (row : List AV) : valOf agg (renL f row) = (valOf agg row).ren f := by
  cases agg with
  | true => simp [valOf, AV.ren]
  | false =>
    match row with
    | [] => rfl
    | [v] => rfl
    | _ :: _ :: _ => rfl
theorem MapR.ren {ρ ρ' : Ren} {f : Nat → Option Nat} (hf : ∀ b b' inf, f b = some b' → ρ b = some inf → ρ' b' = some inf) {agg : Bool} : ∀ {es : List MapEntry} {l : List (Int × List AV)}, MapR ρ agg es l → MapR ρ' agg es (renM f l)
  | _, _, .nil => .nil
  | _, _, .cons hk hv hs => .cons hk (by rw [valOf_ren]; exact hv.ren hf) (hs.ren hf)
theorem CellOK.ren {ρ ρ' : Ren} {f : Nat → Option Nat} {W : World} {b b' : Nat} {c : Cell} {inf : BI} (ok : CellOK ρ W b c inf) (hf : ∀ b b' inf, f b = some b' → ρ b = some inf → ρ' b' = some inf) (hb : f b = some b') : CellOK ρ' W b' (c.ren f) inf := by
  obtain ⟨h1, h2, h3⟩ := Rows.ren_flat f c.rows
  refine ⟨fun h => ?_, fun h => ?_, fun i row hi => ?_, fun i row j u hi hj => ?_, ok.wr, fun h => ?_, ok.nn, fun h h' h'' => ?_, fun l hl => ?_⟩
  · rw [show (c.ren f).rows.sz = c.rows.sz from h2]; exact ok.sz (h1.symm.trans h)
  · exact ⟨h3.trans (ok.ph h).1, h1.trans (ok.ph h).2⟩
  · rw [show (c.ren f).rows.list b' = (c.rows.list b).map (renL f) from Rows.ren_list f hb c.rows] at hi
    rw [List.getElem?_map] at hi
    obtain ⟨row0, h0, rfl⟩ := Option.map_eq_some_iff.1 hi
    rw [renL_map, List.length_map]
    exact ok.row i row0 h0
  · rw [show (c.ren f).rows.list b' = (c.rows.list b).map (renL f) from Rows.ren_list f hb c.rows] at hi
    rw [List.getElem?_map] at hi
    obtain ⟨row0, h0, rfl⟩ := Option.map_eq_some_iff.1 hi
    rw [renL_map, List.getElem?_map] at hj
    obtain ⟨u0, h4, rfl⟩ := Option.map_eq_some_iff.1 hj
    obtain ⟨u', h5, h6, h7⟩ := ok.cell i row0 j u0 h0 h4
    exact ⟨u', h5, h6.ren hf, h7⟩
  · obtain ⟨h5, A, cap, h6⟩ := ok.sl h
    exact ⟨h1.trans h5, A, cap, by rw [show (c.ren f).rows.len = c.rows.len from h3]; exact h6⟩
  · rw [show (c.ren f).rows.len = c.rows.len from h3]
    exact ok.own h h' h''
  · rw [show (c.ren f).rows.ents = c.rows.ents.map (renM f) from Rows.ren_ents f c.rows] at hl
    obtain ⟨l0, h4, rfl⟩ := Option.map_eq_some_iff.1 hl
    obtain ⟨h5, es, clock, h6, h7⟩ := ok.mp l0 h4
    exact ⟨h5, es, clock, h6, h7.ren hf⟩
theorem CellOK.ro {ρ : Ren} {W : World} {b : Nat} {c : Cell} {inf : BI} (ok : CellOK ρ W b c inf) : CellOK ρ W b ⟨false, c.sl, c.nn, c.elem, c.rows⟩ inf :=
  ⟨ok.sz, ok.ph, ok.row, ok.cell, (fun h => by cases h), ok.sl, ok.nn, (fun h => by cases h), ok.mp⟩
theorem cellAt_roHeap (f : Nat → Option Nat) : ∀ (h : Heap) (s b : Nat), cellAt (roHeap f s h) b = (match cellAt h b, f (s + b) with | some c, some _ => some (c.renRo f) | _, _ => none)
  | [], s, b => by simp [roHeap, cellAt]
  | some c :: l, s, 0 => by
    simp only [roHeap, cellAt, List.getElem?_cons_zero, Nat.add_zero]
    cases f s <;> rfl
  | none :: l, s, 0 => by simp [roHeap, cellAt]
  | some c :: l, s, b + 1 => by
    have ih := cellAt_roHeap f l (s + 1) b
    rw [show s + 1 + b = s + (b + 1) by omega] at ih
    simpa [roHeap, cellAt] using ih
  | none :: l, s, b + 1 => by
    have ih := cellAt_roHeap f l (s + 1) b
    rw [show s + 1 + b = s + (b + 1) by omega] at ih
    simpa [roHeap, cellAt] using ih
theorem roHeap_length (f : Nat → Option Nat) : ∀ (h : Heap) (s : Nat), (roHeap f s h).length = h.length
  | [], _ => rfl
  | some _ :: l, s => by simp [roHeap, roHeap_length f l]
  | none :: l, s => by simp [roHeap, roHeap_length f l]
theorem ownOnly_length : ∀ h : Heap, (ownOnly h).length = h.length
  | [] => rfl
  | some _ :: l => by simp [ownOnly, ownOnly_length l]
  | none :: l => by simp [ownOnly, ownOnly_length l]
theorem cellAt_ownOnly : ∀ (h : Heap) (b : Nat) (c : Cell), cellAt (ownOnly h) b = some c → cellAt h b = some c ∧ c.wr = true ∧ c.rows.notOps = true
  | [], b, c, e => by simp [ownOnly, cellAt] at e
  | some c0 :: l, 0, c, e => by
    simp only [ownOnly, cellAt, List.getElem?_cons_zero, cond_eq_ite] at e ⊢
    by_cases hw : (c0.wr && c0.rows.notOps) = true
    · rw [if_pos hw] at e
      cases e
      simp at hw
      exact ⟨rfl, hw.1, hw.2⟩
    · rw [if_neg hw] at e
      cases e
  | none :: l, 0, c, e => by simp [ownOnly, cellAt] at e
  | some c0 :: l, b + 1, c, e => by
    have := cellAt_ownOnly l b c
    simp only [ownOnly, cellAt, List.getElem?_cons_succ] at e this ⊢
    exact this e
  | none :: l, b + 1, c, e => by
    have := cellAt_ownOnly l b c
    simp only [ownOnly, cellAt, List.getElem?_cons_succ] at e this ⊢
    exact this e
section
variable {X : Nat → Prop} {N0 : Nat} {W0 W : World} {ρ : Ren} {g h : Heap} {f : Nat → Option Nat}
def ρro (f : Nat → Option Nat) (ρ : Ren) : Ren := fun b => if (f b).isSome then ρ b else none
theorem ρro_some {b : Nat} {inf : BI} : ρro f ρ b = some inf ↔ (f b).isSome = true ∧ ρ b = some inf := by
  unfold ρro
  split <;> simp_all
theorem HR.ro (H : HR X N0 W0 ρ g W) (hf : ∀ b b', f b = some b' → b' = b ∧ b < h.length) (hc : ∀ b, (f b).isSome = true → cellAt g b = cellAt h b) : HR (fun _ => False) W.heap.size W (ρro f ρ) (roHeap f 0 h) W := by
  have old : ∀ b c, cellAt (roHeap f 0 h) b = some c → ∃ c0, cellAt g b = some c0 ∧ f b = some b ∧ c = c0.renRo f := by
    intro b c e
    rw [cellAt_roHeap, Nat.zero_add] at e
    split at e
    · rename_i c0 b' h1 h2
      cases e
      have := (hf b _ h2).1
      subst this
      exact ⟨c0, by rw [hc _ (by rw [h2]; rfl)]; exact h1, h2, rfl⟩
    · cases e
  have hfr : ∀ b b' inf, f b = some b' → ρ b = some inf → ρro f ρ b' = some inf := by
    intro b b' inf h1 h2
    have := (hf b b' h1).1
    subst this
    exact ρro_some.2 ⟨by rw [h1]; rfl, h2⟩
  refine ⟨fun b c e => ?_, fun b c b' c' i i' e hw => ?_, fun b c i e hw => ?_, fun b c i e hi hp => ?_, fun b hb => ?_, Fr.refl _ _ _, Nat.le_refl _, fun b c l i e hr hi => ?_⟩
  · obtain ⟨c0, h1, h2, rfl⟩ := old b c e
    obtain ⟨inf, h3, ok⟩ := H.ok b c0 h1
    refine ⟨inf, hfr b b inf h2 h3, ?_⟩
    exact (ok.ren hfr h2).ro
  · obtain ⟨c0, h1, h2, rfl⟩ := old b c e
    cases hw
  · obtain ⟨c0, h1, h2, rfl⟩ := old b c e
    cases hw
  · obtain ⟨c0, h1, h2, rfl⟩ := old b c e
    exact H.lt b c0 i h1 (ρro_some.1 hi).2 hp
  · rw [roHeap_length] at hb
    unfold ρro
    split
    · rename_i hs
      obtain ⟨b', hb'⟩ := Option.isSome_iff_exists.1 hs
      have := (hf b b' hb').2
      omega
    · rfl
  · obtain ⟨c0, h1, h2, rfl⟩ := old b c e
    have hr0 : c0.rows = .ops l := by
      have : c0.rows.ren f = .ops l := hr
      cases hrr : c0.rows <;> rw [hrr] at this <;> simp [Rows.ren] at this
      rw [this]
    intro q y hy
    obtain ⟨i1, i2, i3⟩ := H.inn b c0 l i h1 hr0 (ρro_some.1 hi).2 q y hy
    refine ⟨i1, i2, fun h0 => ?_⟩
    obtain ⟨m, o, j1, j2, j3, j4⟩ := i3 h0
    refine ⟨m, o, j1, Nat.lt_of_lt_of_le j2 H.n0, fun h => h, fun j d hd => ?_⟩
    rw [World.cell?_of_block (H.fr.block m j2 j3)]
    exact j4 j d hd
end
section
variable {P : Program} {K : Kinds} {R : Type} {x : R} {ops : Array Oper} {j : Nat} {o : Oper} {st : St}
theorem StepW.off (ho : ops[j]? = some o) (hg : ∀ ρ a, GuardR ρ ops o st.env a → Region.wanted o (yielded ops a.tmps) = false) :
    StepW P ops j o st ⟨put st.env o.dst (.tup []), st.h⟩ (fun _ => False) (fun _ => False) (fun _ => False) (.tup []) := by
  refine ⟨rfl, fun b _ => rfl, Nat.le_refl _, fun b h => h.elim, fun X N0 W0 ρ W a g hg1 H hr hz hO hG N Q hN => ?_⟩
  rw [wpOp, ho]
  simp only [hg ρ a hG]
  exact hN ρ W _ g rfl (fun b => by simp) H (Ext.refl _) (fun b inf h => .inl h) (.tup .nil)
theorem StepW.pure {v : AV} (ho : ops[j]? = some o) (hg : ∀ ρ a, GuardR ρ ops o st.env a → Region.wanted o (yielded ops a.tmps) = true) (hop : ∀ g, OpOK P o st.env g v g) :
    StepW P ops j o st ⟨put st.env o.dst v, st.h⟩ (fun _ => False) (fun _ => False) (fun _ => False) v := by
  refine ⟨rfl, fun b _ => rfl, Nat.le_refl _, fun b h => h.elim, fun X N0 W0 ρ W a g hg1 H hr hz hO hG N Q hN => ?_⟩
  rw [wpOp, ho]
  simp only [hg ρ a hG, if_true]
  refine .inl ((hop g).2 X N0 W0 ρ W a H hO N Q fun ρ' W' v' H' ha hv => hN ρ' W' v' g rfl (fun b => by simp) H' (H.ext ha) (fun b inf h => .inl ?_) hv)
  rcases Nat.lt_or_ge b g.length with hb | hb
  · rw [← ha b hb]; exact h
  · rw [H'.dom b hb] at h; cases h
theorem StepW.store {b0 : Nat} {c' : Cell} (ho : ops[j]? = some o) (hg : ∀ ρ a, GuardR ρ ops o st.env a → Region.wanted o (yielded ops a.tmps) = true) (hb0 : b0 < st.h.length)
    (hop : ∀ g, cellAt g b0 = cellAt st.h b0 → OpOK P o st.env g (.tup []) (g.set b0 (some c'))) :
    StepW P ops j o st ⟨put st.env o.dst (.tup []), st.h.set b0 (some c')⟩ (fun b => b = b0) (fun b => b = b0) (fun _ => False) (.tup []) := by
  refine ⟨rfl, fun b hb => cellAt_set_other (fun e => hb e.symm), by simp, fun b h => h.elim, fun X N0 W0 ρ W a g hg1 H hr hz hO hG N Q hN => ?_⟩
  rw [wpOp, ho]
  simp only [hg ρ a hG, if_true]
  have hl : b0 < g.length := by simp at hg1; omega
  refine .inl ((hop g (hr b0 rfl)).2 X N0 W0 ρ W a H hO N Q fun ρ' W' v' H' ha hv => hN ρ' W' v' (g.set b0 (some c')) (by simp) (fun b => ?_) H' (H.ext ha) (fun b inf h => .inl ?_) hv)
  · split
    · rename_i hb
      subst hb
      rw [cellAt_set_same hl, cellAt_set_same hb0]
    · rename_i hb
      exact cellAt_set_other (fun e => hb e.symm)
  · rcases Nat.lt_or_ge b g.length with hb | hb
    · rw [← ha b hb]; exact h
    · rw [H'.dom b (by simpa using hb)] at h; cases h
theorem StepW.loud {v : AV} {h' : Heap} (ho : ops[j]? = some o) (hg : ∀ ρ a, GuardR ρ ops o st.env a → Region.wanted o (yielded ops a.tmps) = true) (hop : OpOK P o st.env st.h v h') :
    StepW P ops j o st ⟨put st.env o.dst v, h'⟩ (fun _ => True) (fun _ => True) (fun b => st.h.length ≤ b) v := by
  refine ⟨rfl, fun b h => absurd trivial h, hop.1, fun b h => h, fun X N0 W0 ρ W a g hg1 H hr hz hO hG N Q hN => ?_⟩
  rw [wpOp, ho]
  simp only [hg ρ a hG, if_true]
  have H1 : HR X N0 W0 ρ st.h W := H.congr (fun b => (hr b trivial).symm) hz
  refine .inl (hop.2 X N0 W0 ρ W a H1 hO N Q fun ρ' W' v' H' ha hv => hN ρ' W' v' (h' ++ List.replicate (g.length - h'.length) none) ?_ (fun b => ?_) ?_ (H1.ext ha) (fun b inf h => ?_) hv)
  · have hg2 : h'.length ≤ g.length := hg1
    simp; omega
  · simp only [if_true]
    rcases Nat.lt_or_ge b h'.length with hb | hb
    · exact cellAt_append_left hb
    · rw [cellAt_append_right hb, cellAt_ge hb]
      unfold cellAt
      by_cases hb2 : b - h'.length < g.length - h'.length <;> simp [hb2]
  · refine H'.congr (fun b => ?_) fun b hb => H'.dom b (by simp at hb; omega)
    rcases Nat.lt_or_ge b h'.length with hb | hb
    · exact cellAt_append_left hb
    · rw [cellAt_append_right hb, cellAt_ge hb]
      unfold cellAt
      by_cases hb2 : b - h'.length < g.length - h'.length <;> simp [hb2]
  · rcases Nat.lt_or_ge b st.h.length with hb | hb
    · rw [ha b hb] at h; exact .inl h
    · refine .inr ⟨hb, ?_⟩
      rcases Nat.lt_or_ge b h'.length with hb' | hb'
      · exact hb'
      · rw [H'.dom b hb'] at h; cases h
open Classical in
theorem StepW.quiet {f : Nat → Option Nat} {v : AV} {h' : Heap} (ho : ops[j]? = some o) (hg : ∀ ρ a, GuardR ρ ops o st.env a → Region.wanted o (yielded ops a.tmps) = true) (hf : ∀ b b', f b = some b' → b' = b ∧ b < st.h.length)
    (hop : OpOK P o (renL f st.env) (roHeap f 0 st.h) v h') :
    StepW P ops j o st ⟨put st.env o.dst v, st.h ++ ownOnly (h'.drop st.h.length)⟩ (fun b => st.h.length ≤ b ∧ b < h'.length) (fun b => (f b).isSome = true) (fun b => st.h.length ≤ b ∧ b < h'.length) v := by
  have hl : st.h.length ≤ h'.length := by have := hop.1; rwa [roHeap_length] at this
  have hlen : (st.h ++ ownOnly (h'.drop st.h.length)).length = h'.length := by
    rw [List.length_append, ownOnly_length, List.length_drop]; omega
  refine ⟨rfl, fun b hb => ?_, by show st.h.length ≤ (st.h ++ ownOnly (h'.drop st.h.length)).length; omega, fun b h => h.1, fun X N0 W0 ρ W a g hg1 H hr hz hO hG N Q hN => ?_⟩
  · show cellAt (st.h ++ ownOnly (h'.drop st.h.length)) b = _
    rcases Nat.lt_or_ge b st.h.length with h1 | h1
    · exact cellAt_append_left h1
    · rw [cellAt_ge h1, cellAt_ge]
      rw [hlen]
      exact Nat.le_of_not_lt fun h2 => hb ⟨h1, h2⟩
  rw [wpOp, ho]
  simp only [hg ρ a hG, if_true]
  have Hr : HR (fun _ => False) W.heap.size W (ρro f ρ) (roHeap f 0 st.h) W := H.ro hf hr
  have hOr : OpsR (ρro f ρ) (renL f st.env) a o.op.operands.toList := by
    intro y hy
    have h1 := hO y hy
    have h2 : evalO (renL f st.env) y = (evalO st.env y).ren f ∨ ∃ v, y = .const v ∨ ∃ g, y = .func g := by
      cases y with
      | tmp t =>
        refine .inl ?_
        show envGet (renL f st.env) t = (envGet st.env t).ren f
        unfold envGet
        rw [renL_map, List.getElem?_map]
        cases st.env[t]? <;> rfl
      | const v => exact .inr ⟨v, .inl rfl⟩
      | global g => exact .inl rfl
      | func g => exact .inr ⟨.nilFunc, .inr ⟨g, rfl⟩⟩
    have hren : ∀ b b' inf, f b = some b' → ρ b = some inf → ρro f ρ b' = some inf := by
      intro b b' inf h1 h2
      have := (hf b b' h1).1
      subst this
      exact ρro_some.2 ⟨by rw [h1]; rfl, h2⟩
    rcases h2 with h2 | ⟨u, rfl | ⟨g, rfl⟩⟩
    · rw [h2]; exact h1.ren hren
    · exact absConst_sound _ u
    · exact .fn .nil .nil
  refine .inl (hop.2 _ _ _ _ W a Hr hOr N Q fun ρ1 W' v' H1 ha hv => ?_)
  rw [roHeap_length] at ha
  let ρ2 : Ren := fun b => if st.h.length ≤ b ∧ b < h'.length then ρ1 b else ρ b
  have x1 : Ext ρ1 ρ2 := by
    intro b inf e
    show (if st.h.length ≤ b ∧ b < h'.length then ρ1 b else ρ b) = _
    split
    · exact e
    · rename_i hn
      rcases Nat.lt_or_ge b st.h.length with hb | hb
      · rw [ha b hb] at e
        exact (ρro_some.1 e).2
      · rw [H1.dom b (Nat.le_of_not_lt fun h2 => hn ⟨hb, h2⟩)] at e
        cases e
  have x0 : Ext ρ ρ2 := by
    intro b inf e
    show (if st.h.length ≤ b ∧ b < h'.length then ρ1 b else ρ b) = _
    split
    · rename_i hn
      rw [hz b hn] at e
      cases e
    · exact e
  have hfr : Fr X N0 W W' := ⟨H1.fr.os, H1.fr.tape, H1.fr.output, H1.fr.size, fun k hk _ => H1.fr.block k (Nat.lt_of_lt_of_le hk H.n0) (fun h => h)⟩
  have hg2 : h'.length ≤ g.length := by
    have : (st.h ++ ownOnly (h'.drop st.h.length)).length ≤ g.length := hg1
    omega
  let g' : Heap := (List.range g.length).map fun b => if st.h.length ≤ b ∧ b < h'.length then cellAt (st.h ++ ownOnly (h'.drop st.h.length)) b else cellAt g b
  have gc : ∀ b, cellAt g' b = if st.h.length ≤ b ∧ b < h'.length then cellAt (st.h ++ ownOnly (h'.drop st.h.length)) b else cellAt g b := by
    intro b
    show cellAt ((List.range g.length).map _) b = _
    rw [cellAt_range]
    split
    · rfl
    · rw [if_neg (fun h => by omega), cellAt_ge (by omega)]
  have old : ∀ b c, cellAt g' b = some c → (st.h.length ≤ b ∧ b < h'.length ∧ cellAt h' b = some c ∧ c.wr = true ∧ c.rows.notOps = true ∧ ρ2 b = ρ1 b) ∨ (cellAt g b = some c ∧ ρ2 b = ρ b) := by
    intro b c e
    rw [gc b] at e
    split at e
    · rename_i hn
      rw [cellAt_append_right hn.1] at e
      obtain ⟨h1, h2, h3⟩ := cellAt_ownOnly _ _ _ e
      refine .inl ⟨hn.1, hn.2, ?_, h2, h3, if_pos hn⟩
      unfold cellAt at h1 ⊢
      rw [List.getElem?_drop, show st.h.length + (b - st.h.length) = b by omega] at h1
      exact h1
    · rename_i hn
      exact .inr ⟨e, if_neg hn⟩
  have newm : ∀ b c inf, cellAt h' b = some c → c.wr = true → ρ1 b = some inf → inf.ph = false → W.heap.size ≤ inf.m := fun b c inf e hw hi hp => (H1.own b c inf e hw hi hp).resolve_left (fun h => h)
  refine hN ρ2 W' v' g' (by simp [g']) (fun b => by rw [gc b]; by_cases hn : st.h.length ≤ b ∧ b < h'.length <;> simp [hn]) ⟨fun b c e => ?_, fun b c b' c' i i' e hw e' hne hi hi' hp hp' => ?_, fun b c i e hw hi hp => ?_, fun b c i e hi hp => ?_, fun b hb => ?_, H.fr.trans hfr, Nat.le_trans H.n0 hfr.size, fun b c l i e hr' hi => ?_⟩ x0 (fun b inf h => ?_) (hv.mono x1)
  · rcases old b c e with ⟨h1, h2, h3, h4, h5, h6⟩ | ⟨h1, h2⟩
    · obtain ⟨inf, hi, ok⟩ := H1.ok b c h3
      exact ⟨inf, h6.trans hi, ok.keep x1 (Nat.le_refl _) fun _ _ => rfl⟩
    · obtain ⟨inf, hi, ok⟩ := H.ok b c h1
      exact ⟨inf, h2.trans hi, ok.keep x0 hfr.size fun hp hl => H1.fr.block _ hl (fun h => h)⟩
  · rcases old b c e with ⟨h1, h2, h3, h4, h5, h6⟩ | ⟨h1, h2⟩
    · rcases old b' c' e' with ⟨k1, k2, k3, k4, k5, k6⟩ | ⟨k1, k2⟩
      · exact H1.inj b c b' c' i i' h3 hw k3 hne (h6.symm.trans hi) (k6.symm.trans hi') hp hp'
      · have m1 := newm b c i h3 hw (h6.symm.trans hi) hp
        have m2 := H.lt b' c' i' k1 (k2.symm.trans hi') hp'
        omega
    · rcases old b' c' e' with ⟨k1, k2, k3, k4, k5, k6⟩ | ⟨k1, k2⟩
      · have m1 := newm b' c' i' k3 k4 (k6.symm.trans hi') hp'
        have m2 := H.lt b c i h1 (h2.symm.trans hi) hp
        omega
      · exact H.inj b c b' c' i i' h1 hw k1 hne (h2.symm.trans hi) (k2.symm.trans hi') hp hp'
  · rcases old b c e with ⟨h1, h2, h3, h4, h5, h6⟩ | ⟨h1, h2⟩
    · exact .inr (Nat.le_trans H.n0 (newm b c i h3 hw (h6.symm.trans hi) hp))
    · exact H.own b c i h1 hw (h2.symm.trans hi) hp
  · rcases old b c e with ⟨h1, h2, h3, h4, h5, h6⟩ | ⟨h1, h2⟩
    · exact H1.lt b c i h3 (h6.symm.trans hi) hp
    · exact Nat.lt_of_lt_of_le (H.lt b c i h1 (h2.symm.trans hi) hp) hfr.size
  · show (if st.h.length ≤ b ∧ b < h'.length then ρ1 b else ρ b) = none
    have hb' : g.length ≤ b := by simpa [g'] using hb
    rw [if_neg (fun h => by omega)]
    exact H.dom b hb'
  · rcases old b c e with ⟨h1, h2, h3, h4, h5, h6⟩ | ⟨h1, h2⟩
    · rw [hr'] at h5
      cases h5
    · exact H.inn b c l i h1 hr' (h2.symm.trans hi)
  · by_cases hn : st.h.length ≤ b ∧ b < h'.length
    · refine .inr ⟨hn.1, ?_⟩
      show b < (st.h ++ ownOnly (h'.drop st.h.length)).length
      omega
    · refine .inl ?_
      have : ρ2 b = ρ b := if_neg hn
      rw [← this]
      exact h
theorem evOp_pure {qs : Bool} {orc : Orc R} {e : List AV} {h : Heap} {k : AV → Heap → Option R} (hk : kindOf P K qs o = .pure) : evOp P K orc o e h k = (evOp P K (Orc.none : Orc AV) o e [] (fun v _ => some v)).bind fun v => k v h := by
  unfold kindOf at hk
  unfold evOp
  split at hk
  all_goals first | (cases hk; done) | skip
  all_goals rename_i heq
  all_goals simp only [heq]
  all_goals first | rfl | skip
  all_goals first
    | (try simp only [cond_eq_ite]
       (repeat' split) <;> first | rfl | contradiction)
    | exact opIndex_bind _ _ _ _
    | (split at hk
       · cases hk
       · simp only [cond_eq_ite] at hk
         split at hk <;> cases hk)
    | (unfold opCall
       split at hk <;> first
         | (simp only [cond_eq_ite] at hk; split at hk <;> cases hk; done)
         | (cases hk; done)
         | (rename_i hcal; simp only [hcal]; (repeat' split) <;> first | rfl | contradiction; done))
end
end Go.Abs
