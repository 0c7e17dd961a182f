/- Own: Stores and new blocks. -/
import Derived.Test.YtmiajnodoigndaaGreatAbsC
namespace Go.Abs
open Go.RowKit
set_option linter.unusedVariables false
theorem heap_setCells_other (b : Nat) : ∀ (vs : List Value) (o : Nat) (w : World) (k : Nat), k ≠ b → (w.setCells b o vs).heap[k]? = w.heap[k]?
 | [], _, _, _, _ => rfl
 | v :: r, o, w, k, hk => by
  rw [World.setCells, heap_setCells_other b r (o + 1) _ k hk]
  exact Below.heap_setCell w ⟨b, o, none⟩ v k hk
theorem heap_setCells_same (b : Nat) : ∀ (vs : List Value) (o : Nat) (w : World) (cur : Array Value) (e : TypeId) (fr : Nat × Nat), w.heap[b]? = some (.cells cur e fr) →
 ∃ cur', (w.setCells b o vs).heap[b]? = some (.cells cur' e fr) ∧ cur'.size = cur.size
 | [], _, w, cur, e, fr, h => ⟨cur, h, rfl⟩
 | v :: r, o, w, cur, e, fr, h => by
  have h1 : (w.setCell ⟨b, o, none⟩ v).heap[b]? = some (.cells (cur.setIfInBounds o v) e fr) := by
   obtain ⟨lo, hi⟩ := fr
   simp only [World.setCell, Array.getElem?_modify, ↓reduceIte, h, Option.map_some]
   simp
  obtain ⟨cur', h2, h3⟩ := heap_setCells_same b r (o + 1) (w.setCell ⟨b, o, none⟩ v) _ e fr h1
  exact ⟨cur', h2, by rw [h3]; simp⟩
theorem size_setCells (b : Nat) : ∀ (vs : List Value) (o : Nat) (w : World), (w.setCells b o vs).heap.size = w.heap.size
 | [], _, _ => rfl
 | v :: r, o, w => by rw [World.setCells, size_setCells b r]; simp
theorem misc_setCells (b : Nat) : ∀ (vs : List Value) (o : Nat) (w : World), (w.setCells b o vs).os = w.os ∧ (w.setCells b o vs).tape = w.tape ∧ (w.setCells b o vs).output = w.output
 | [], _, _ => ⟨rfl, rfl, rfl⟩
 | v :: r, o, w => by rw [World.setCells]; exact misc_setCells b r (o + 1) (w.setCell ⟨b, o, none⟩ v)
theorem grown_setCells (b : Nat) (vs : List Value) (o : Nat) (w : World) : w.grownBy (w.setCells b o vs) (some b) :=
 ⟨(misc_setCells b vs o w).1, (misc_setCells b vs o w).2.1, (misc_setCells b vs o w).2.2, by rw [size_setCells]; exact Nat.le_refl _, fun k _ hk => heap_setCells_other b vs o w k (fun e => hk (by rw [e]))⟩
theorem patch_some {row cs row' : List AV} {o : Nat} (h : patch row o cs = some row') : o + cs.length ≤ row.length ∧ row' = row.take o ++ (cs ++ row.drop (o + cs.length)) := by
 unfold patch at h
 simp only [cond_eq_ite, Nat.ble_eq] at h
 split at h
 · rename_i hl
   exact ⟨hl, (Option.some.inj h).symm⟩
 · cases h
theorem patch_get {row cs row' : List AV} {o : Nat} (h : patch row o cs = some row') (j : Nat) : row'[j]? = if o ≤ j ∧ j < o + cs.length then cs[j - o]? else row[j]? := by
 obtain ⟨hl, rfl⟩ := patch_some h
 have ht : (row.take o).length = o := by simp; omega
 by_cases h1 : j < o
 · rw [List.getElem?_append_left (by omega), List.getElem?_take, if_pos h1, if_neg (by omega)]
 · rw [List.getElem?_append_right (by omega), ht]
   by_cases h2 : j < o + cs.length
   · rw [List.getElem?_append_left (by omega), if_pos (by omega)]
   · rw [List.getElem?_append_right (by omega), List.getElem?_drop, if_neg (by omega)]
     congr 1
     omega
theorem patch_len {row cs row' : List AV} {o : Nat} (h : patch row o cs = some row') : row'.length = row.length := by
 obtain ⟨hl, rfl⟩ := patch_some h
 simp
 omega
section
variable {P : Program} {X : Nat → Prop} {N0 : Nat} {W0 W : World} {ρ : Ren} {h : Heap} {R : Type} {x : R}
theorem HR.write (H : HR X N0 W0 ρ h W) {b i o : Nat} {c : Cell} {row row' cs : List AV} {cs' : List Value} {rows' : Rows} {inf : BI} (hc : cellAt h b = some c) (hw : c.wr = true) (hi : ρ b = some inf)
 (hrow : (c.rows.list b)[i]? = some row) (hp : patch row o cs = some row') (hl : rows'.list b = (c.rows.list b).set i row') (hsz : rows'.sz = c.rows.sz) (hlen : rows'.len = c.rows.len) (hfl : rows'.flat = true) (hno : ∀ l, rows' ≠ .ops l)
 (hcs : VRs ρ cs cs') (h1 : ∀ u ∈ cs', u.oneCell' = true) :
 HR X N0 W0 ρ (h.set b (some ⟨c.wr, c.sl, c.nn, c.elem, rows'⟩)) (W.setCells inf.m (inf.base + i * inf.sz + o) cs') := by
 obtain ⟨inf', hi', ok⟩ := H.ok b c hc
 rw [hi] at hi'
 cases hi'
 have hph : inf.ph = false := by
  cases hp' : inf.ph with
  | false => rfl
  | true =>
   obtain ⟨h0, hf⟩ := ok.ph hp'
   have := Rows.list_length b _ hf
   rw [h0] at this
   rw [List.eq_nil_of_length_eq_zero this] at hrow
   simp at hrow
 have hrl := ok.row i row hrow
 have hpl := (patch_some hp).1
 have hll := hcs.length
 have hg := grown_setCells inf.m cs' (inf.base + i * inf.sz + o) W
 obtain ⟨hml, hfz⟩ := ok.wr hw hph
 have hown := H.own b c inf hc hw hi hph
 have hfr : Fr X N0 W (W.setCells inf.m (inf.base + i * inf.sz + o) cs') := Fr.of_grown hg H.n0 hown
 have hb := cellAt_lt hc
 have there : ∀ j, j < cs'.length → (W.cell? ⟨inf.m, inf.base + i * inf.sz + o + j, none⟩).isSome = true := by
  intro j hj
  have hj' : o + j < row.length := by omega
  obtain ⟨u', hu, _⟩ := ok.cell i row (o + j) _ hrow (List.getElem?_eq_getElem hj')
  rw [Nat.add_assoc, hu]
  rfl
 have other : ∀ b' c' inf', cellAt h b' = some c' → b ≠ b' → ρ b' = some inf' → inf'.ph = false → inf'.m ≠ inf.m := fun b' c' inf' e hne hi' hp' => fun e' =>
  H.inj b c b' c' inf inf' hc hw e hne hi hi' hph hp' e'.symm
 have old : ∀ b' c', cellAt (h.set b (some ⟨c.wr, c.sl, c.nn, c.elem, rows'⟩)) b' = some c' → (b' = b ∧ c' = ⟨c.wr, c.sl, c.nn, c.elem, rows'⟩) ∨ (b ≠ b' ∧ cellAt h b' = some c') := by
  intro b' c' e
  by_cases hne : b = b'
  · subst hne
    rw [cellAt_set_same hb] at e
    exact .inl ⟨rfl, (Option.some.inj e).symm⟩
  · rw [cellAt_set_other hne] at e
    exact .inr ⟨hne, e⟩
 have hfc : c.rows.flat = true := by
  cases hr : c.rows with
  | mp c l => rw [hr] at hrow; simp [Rows.list] at hrow
  | mg l => rw [hr] at hrow; simp [Rows.list] at hrow
  | _ => rfl
 refine ⟨?_, ?_, ?_, ?_, ?_, H.fr.trans hfr, Nat.le_trans H.n0 hfr.size, ?_⟩
 · intro b' c' e
   rcases old b' c' e with ⟨rfl, rfl⟩ | ⟨hne, e'⟩
   · refine ⟨inf, hi, ?_⟩
     have rowAt : ∀ (i' : Nat) (r : List AV), (rows'.list b')[i']? = some r → (i' = i ∧ r = row') ∨ (i' ≠ i ∧ (c.rows.list b')[i']? = some r) := by
      intro i' r hr
      rw [hl] at hr
      by_cases hii : i = i'
      · subst hii
        rw [List.getElem?_set_self (List.getElem?_eq_some_iff.1 hrow).1] at hr
        exact .inl ⟨rfl, (Option.some.inj hr).symm⟩
      · rw [List.getElem?_set_ne hii] at hr
        exact .inr ⟨fun e => hii e.symm, hr⟩
     refine ⟨fun _ => (ok.sz hfc).trans hsz.symm, fun hp' => (by rw [hph] at hp'; cases hp'), ?_, ?_, ?_, ?_, ?_, ?_, ?_⟩
     · intro i' r hr
       rcases rowAt i' r hr with ⟨rfl, rfl⟩ | ⟨_, hr'⟩
       · rw [patch_len hp, hrl]
       · exact ok.row i' r hr'
     · intro i' r j u hr hu
       rcases rowAt i' r hr with ⟨rfl, rfl⟩ | ⟨hne, hr'⟩
       · rw [patch_get hp] at hu
         split at hu
         · rename_i hj
           obtain ⟨u', hu', hv⟩ := hcs.get hu
           have hj' : j - o < cs'.length := (List.getElem?_eq_some_iff.1 hu').1
           refine ⟨u', ?_, hv, h1 u' (List.mem_of_getElem? hu')⟩
           have := World.cell?_setCells_in inf.m cs' (inf.base + i' * inf.sz + o) W there (j - o) hj'
           rw [show inf.base + i' * inf.sz + j = inf.base + i' * inf.sz + o + (j - o) by omega, this, ← hu']
           exact (List.getElem?_eq_getElem hj').symm
         · rename_i hj
           obtain ⟨u', h2, h3, h4⟩ := ok.cell i' row j u hrow hu
           refine ⟨u', ?_, h3, h4⟩
           rw [World.cell?_setCells_out inf.m cs' _ W _ (fun _ _ => by simp only []; omega)]
           exact h2
       · obtain ⟨u', h2, h3, h4⟩ := ok.cell i' r j u hr' hu
         refine ⟨u', ?_, h3, h4⟩
         have hjl : j < inf.sz := by
          have := (List.getElem?_eq_some_iff.1 hu).1
          rw [ok.row i' r hr'] at this
          exact this
         rw [World.cell?_setCells_out inf.m cs' _ W _ (fun _ _ => ?_)]
         · exact h2
         · simp only []
           rcases Nat.lt_or_gt_of_ne hne with hlt | hlt
           · left
             have : (i' + 1) * inf.sz ≤ i * inf.sz := Nat.mul_le_mul_right _ hlt
             rw [Nat.add_mul] at this
             omega
           · right
             have : (i + 1) * inf.sz ≤ i' * inf.sz := Nat.mul_le_mul_right _ hlt
             rw [Nat.add_mul] at this
             omega
     · intro _ _
       exact ⟨by rw [size_setCells]; exact hml, fun off => by rw [World.frozen?_setCells]; exact hfz off⟩
     · intro hsl
       simp only [hlen]
       exact ⟨hfl, (ok.sl hsl).2⟩
     · exact ok.nn
     · intro _ hsl hel
       simp only [hlen]
       rcases ok.own hw hsl hel with ⟨hp', _⟩ | ⟨_, hb0, cap, cur, hv, hh, ha, hbb, hcc⟩
       · rw [hph] at hp'; cases hp'
       · obtain ⟨cur', h2, h3⟩ := heap_setCells_same inf.m cs' (inf.base + i * inf.sz + o) W cur c.elem (0, 0) hh
         exact .inr ⟨hph, hb0, cap, cur', hv, h2, ha, hbb, h3.trans hcc⟩
     · intro l hl'
       rw [ents_flat hl'] at hfl
       cases hfl
   · obtain ⟨inf', hi', ok'⟩ := H.ok b' c' e'
     refine ⟨inf', hi', ok'.keep (Ext.refl _) hfr.size fun hp' hm' => ?_⟩
     exact heap_setCells_other _ _ _ _ _ (other b' c' inf' e' hne hi' hp')
 · intro b1 c1 b2 c2 i1 i2 e1 hw1 e2 hne h1' h2' hp1 hp2
   rcases old b1 c1 e1 with ⟨rfl, rfl⟩ | ⟨hn1, e1'⟩
   · rcases old b2 c2 e2 with ⟨rfl, rfl⟩ | ⟨hn2, e2'⟩
     · exact absurd rfl hne
     · exact H.inj _ c _ c2 i1 i2 hc hw e2' hne h1' h2' hp1 hp2
   · rcases old b2 c2 e2 with ⟨rfl, rfl⟩ | ⟨hn2, e2'⟩
     · exact H.inj _ c1 _ c i1 i2 e1' hw1 hc hne h1' h2' hp1 hp2
     · exact H.inj _ c1 _ c2 i1 i2 e1' hw1 e2' hne h1' h2' hp1 hp2
 · intro b1 c1 i1 e1 hw1 h1' hp1
   rcases old b1 c1 e1 with ⟨rfl, rfl⟩ | ⟨hn1, e1'⟩
   · exact H.own _ c i1 hc hw h1' hp1
   · exact H.own _ c1 i1 e1' hw1 h1' hp1
 · intro b1 c1 i1 e1 h1' hp1
   rw [size_setCells]
   rcases old b1 c1 e1 with ⟨rfl, rfl⟩ | ⟨hn1, e1'⟩
   · exact H.lt _ c i1 hc h1' hp1
   · exact H.lt _ c1 i1 e1' h1' hp1
 · intro b' hb'
   exact H.dom b' (by simpa using hb')
 · intro b1 c1 l i1 e1 hr h1'
   rcases old b1 c1 e1 with ⟨rfl, rfl⟩ | ⟨hn1, e1'⟩
   · exact absurd hr (hno l)
   · exact H.inn _ c1 l i1 e1' hr h1'
theorem opStore_sound {t : TypeId} {a v : AV} {a' v' : Value} {k : Heap → Option R} (H : HR X N0 W0 ρ h W) (ha : VR ρ a a') (hv : VR ρ v v') (he : opStore P t a v h k = some x) :
 ∃ h' W', (Instr.storeAt t a' v').run P W = .ok () W' ∧ HR X N0 W0 ρ h' W' ∧ k h' = some x ∧ h'.length = h.length := by
 unfold opStore at he
 split at he
 case h_2 => cases he
 rename_i b i o cs n hcs hn
 simp only [cond_eq_ite, Nat.beq_eq] at he
 split at he
 case isFalse => cases he
 rename_i hcn
 split at he
 case h_1 => cases he
 rename_i c hc
 split at he
 case isFalse => cases he
 rename_i hw
 obtain ⟨row, hrow, he⟩ := Rows.get_some he
 split at he
 case h_1 => cases he
 rename_i row' hp
 obtain ⟨rows', he, hl, hsz, hlen, _, hfl, hno, _⟩ := Rows.set_some (b := b) he
 obtain ⟨inf, hi, ok⟩ := H.ok b c hc
 cases ha
 rename_i inf' hi'
 rw [hi] at hi'
 cases hi'
 obtain ⟨hVs, h1⟩ := cellsOf_sound hv hcs
 have hlen' := hVs.length
 have hph : inf.ph = false := by
  cases hp' : inf.ph with
  | false => rfl
  | true =>
   obtain ⟨h0, hf⟩ := ok.ph hp'
   have := Rows.list_length b _ hf
   rw [h0] at this
   rw [List.eq_nil_of_length_eq_zero this] at hrow
   simp at hrow
 obtain ⟨hml, hfz⟩ := ok.wr hw hph
 have hpl := (patch_some hp).1
 have hst := run_storeCells_cells (P := P) inf.m (inf.base + i * inf.sz + o) v'.cells.toList 0 W (fun j hj => by
  have hj' : o + j < row.length := by omega
  obtain ⟨u', hu, _⟩ := ok.cell i row (o + j) _ hrow (List.getElem?_eq_getElem hj')
  rw [show inf.base + i * inf.sz + o + 0 + j = inf.base + i * inf.sz + (o + j) by omega, hu]
  rfl) (fun j _ => hfz _) h1
 simp only [Nat.add_zero] at hst
 refine ⟨_, _, ?_, H.write hc hw hi hrow hp hl hsz hlen hfl hno hVs h1, he, by simp⟩
 simp only [sizeT] at hn
 cases hti : P.info? t with
 | none => rw [hti] at hn; cases hn
 | some ti =>
  rw [hti] at hn
  have hn' : ti.size = n := by simpa using hn
  have hsz' : v'.cells.size = ti.size := by
   rw [← Array.length_toList]
   omega
  simp only [Instr.storeAt, Instr.sureAddr, storeVar]
  simp [sizeOf, typeInfo, hti, hsz', hst]
theorem opNew_sound {row : List AV} {cells : Array Value} {e : TypeId} {k : AV → Heap → Option R} (H : HR X N0 W0 ρ h W) (hr : VRs ρ row cells.toList) (h1 : ∀ u ∈ cells.toList, u.oneCell' = true)
 (he : opNew row h k = some x) : Leads X N0 W0 ρ h.length k x (.pointer (some ⟨W.heap.size, 0, none⟩)) (W.alloc (.cells cells e)) := by
 have hfr : Fr X N0 W (W.alloc (.cells cells e)) := Fr.of_below ⟨rfl, rfl, rfl, by simp, fun k hk => Below.heap_alloc _ _ _ hk⟩ H.n0
 have hx := H.ext_upd ⟨W.heap.size, 0, row.length, false, .nilFunc, fun _ => (none, 0, 0)⟩
 refine ⟨_, _, upd ρ h.length ⟨W.heap.size, 0, row.length, false, .nilFunc, fun _ => (none, 0, 0)⟩, he, ?_, ?_, agr_upd _ _, by simp⟩
 · have := VR.ptr (ρ := upd ρ h.length ⟨W.heap.size, 0, row.length, false, .nilFunc, fun _ => (none, 0, 0)⟩) (i := 0) (o := 0) (upd_same ρ h.length _)
   simpa using this
 · refine H.push hfr (fun k hk _ => Below.heap_alloc _ _ _ hk) ?_ (fun _ hl => by cases hl) (fun _ => ⟨.inr H.n0, by simp, fun b c' i e hi hp => by have := H.lt b c' i e hi hp; simp only []; omega⟩)
   refine ⟨fun _ => rfl, fun hp => (by cases hp), ?_, ?_, ?_, fun hs => (by cases hs), fun hs => (by cases hs), fun _ hs => (by cases hs), fun _ hl => (by cases hl)⟩
   · intro i r hr'
     simp only [Rows.list] at hr'
     match i, hr' with
     | 0, hr' =>
      simp at hr'
      rw [← hr']
     | i + 1, hr' => simp at hr'
   · intro i r j u hr' hu
     simp only [Rows.list] at hr'
     match i, hr' with
     | 0, hr' =>
      simp at hr'
      subst hr'
      obtain ⟨u', h2, h3⟩ := hr.get hu
      refine ⟨u', ?_, h3.mono hx, h1 u' (List.mem_of_getElem? h2)⟩
      simpa using h2
     | i + 1, hr' => simp at hr'
   · intro _ _
     refine ⟨by simp, fun off => ?_⟩
     simp
end
end Go.Abs
