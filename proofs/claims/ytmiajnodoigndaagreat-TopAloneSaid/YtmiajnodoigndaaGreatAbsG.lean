/- Own: Rows that are made, that grow, that are cleared; tables. -/
import Derived.Test.YtmiajnodoigndaaGreatAbsF
import Derived.Laws.Tables
import Derived.ArgAppend
import Derived.Great.BuildSlice
import Derived.Laws.AppendOwnNone
import Derived.Maps.Own
import Derived.Maps.OwnOps
import Derived.Maps.Keyed
namespace Go.Abs
open Go.RowKit
set_option linter.unusedVariables false
set_option linter.unusedSimpArgs false
section
variable {P : Program} {K : Kinds} {X : Nat → Prop} {N0 : Nat} {W0 W : World} {ρ : Ren} {h : Heap} {R : Type} {x : R}
theorem HR.writeG (H : HR X N0 W0 ρ h W) {b lo : Nat} {c : Cell} {cs : List AV} {cs' : List Value} {rows' : Rows} {inf : BI} (hc : cellAt h b = some c) (hw : c.wr = true) (hi : ρ b = some inf)
 (hph : inf.ph = false) (hfc : c.rows.flat = true) (hsz : rows'.sz = c.rows.sz) (hlen : rows'.len = c.rows.len) (hfl : rows'.flat = true) (hno : ∀ l, rows' ≠ .ops l)
 (there : ∀ j, j < cs'.length → (W.cell? ⟨inf.m, inf.base + lo + j, none⟩).isSome = true)
 (hrow : ∀ (i : Nat) (row : List AV), (rows'.list b)[i]? = some row → row.length = inf.sz)
 (hcell : ∀ (i : Nat) (row : List AV) (j : Nat) (u : AV), (rows'.list b)[i]? = some row → row[j]? = some u → (∃ q, i * inf.sz + j = lo + q ∧ cs[q]? = some u) ∨ ((∀ q, q < cs'.length → i * inf.sz + j ≠ lo + q) ∧ ∃ row0, (c.rows.list b)[i]? = some row0 ∧ row0[j]? = some u))
 (hcs : VRs ρ cs cs') (h1 : ∀ u ∈ cs', u.oneCell' = true) :
 HR X N0 W0 ρ (h.set b (some ⟨c.wr, c.sl, c.nn, c.elem, rows'⟩)) (W.setCells inf.m (inf.base + lo) cs') := by
 obtain ⟨inf', hi', ok⟩ := H.ok b c hc
 rw [hi] at hi'
 cases hi'
 have hg := grown_setCells inf.m cs' (inf.base + lo) W
 obtain ⟨hml, hfz⟩ := ok.wr hw hph
 have hown := H.own b c inf hc hw hi hph
 have hfr : Fr X N0 W (W.setCells inf.m (inf.base + lo) cs') := Fr.of_grown hg H.n0 hown
 have hb := cellAt_lt hc
 have hll := hcs.length
 have other : ∀ b' c' inf', cellAt h b' = some c' → b ≠ b' → ρ b' = some inf' → inf'.ph = false → inf'.m ≠ inf.m := fun b' c' inf' e hne hi' hp' => fun e' =>
  H.inj b c b' c' inf inf' hc hw e hne hi hi' hph hp' e'.symm
 have old : ∀ b' c', cellAt (h.set b (some ⟨c.wr, c.sl, c.nn, c.elem, rows'⟩)) b' = some c' → (b' = b ∧ c' = ⟨c.wr, c.sl, c.nn, c.elem, rows'⟩) ∨ (b ≠ b' ∧ cellAt h b' = some c') := by
  intro b' c' e
  by_cases hne : b = b'
  · subst hne
    rw [cellAt_set_same hb] at e
    exact .inl ⟨rfl, (Option.some.inj e).symm⟩
  · rw [cellAt_set_other hne] at e
    exact .inr ⟨hne, e⟩
 refine ⟨?_, ?_, ?_, ?_, ?_, H.fr.trans hfr, Nat.le_trans H.n0 hfr.size, ?_⟩
 · intro b' c' e
   rcases old b' c' e with ⟨rfl, rfl⟩ | ⟨hne, e'⟩
   · refine ⟨inf, hi, ?_⟩
     refine ⟨fun _ => (ok.sz hfc).trans hsz.symm, fun hp' => (by rw [hph] at hp'; cases hp'), ?_, ?_, ?_, ?_, ?_, ?_, ?_⟩
     · exact hrow
     · intro i' r j u hr hu
       rcases hcell i' r j u hr hu with ⟨q, hq, hcq⟩ | ⟨hout, row0, h0, h0j⟩
       · obtain ⟨u', hu', hv⟩ := hcs.get hcq
         have hj' : q < cs'.length := (List.getElem?_eq_some_iff.1 hu').1
         refine ⟨u', ?_, hv, h1 u' (List.mem_of_getElem? hu')⟩
         have := World.cell?_setCells_in inf.m cs' (inf.base + lo) W there q hj'
         rw [show inf.base + i' * inf.sz + j = inf.base + lo + q by omega, this, ← hu']
         exact (List.getElem?_eq_getElem hj').symm
       · obtain ⟨u', h2, h3, h4⟩ := ok.cell i' row0 j u h0 h0j
         refine ⟨u', ?_, h3, h4⟩
         rw [World.cell?_setCells_out inf.m cs' _ W _ (fun _ _ => ?_)]
         · exact h2
         · simp only []
           rcases Nat.lt_or_ge (inf.base + i' * inf.sz + j) (inf.base + lo) with hlt | hge
           · omega
           · rcases Nat.lt_or_ge (inf.base + i' * inf.sz + j) (inf.base + lo + cs'.length) with hlt' | hge'
             · exact absurd (show i' * inf.sz + j = lo + (i' * inf.sz + j - lo) by omega) (hout _ (by omega))
             · omega
     · intro _ _
       exact ⟨by rw [size_setCells]; exact hml, fun off => by rw [World.frozen?_setCells]; exact hfz off⟩
     · intro hsl
       simp only [hlen]
       exact ⟨hfl, (ok.sl hsl).2⟩
     · exact ok.nn
     · intro _ hsl hel
       simp only [hlen]
       rcases ok.own hw hsl hel with ⟨hp', _⟩ | ⟨_, hb0, cap, cur, hv, hh, ha, hbb, hcc⟩
       · rw [hph] at hp'; cases hp'
       · obtain ⟨cur', h2, h3⟩ := heap_setCells_same inf.m cs' (inf.base + lo) W cur c.elem (0, 0) hh
         exact .inr ⟨hph, hb0, cap, cur', hv, h2, ha, hbb, h3.trans hcc⟩
     · intro l hl'
       rw [ents_flat hl'] at hfl
       cases hfl
   · obtain ⟨inf', hi', ok'⟩ := H.ok b' c' e'
     refine ⟨inf', hi', ok'.keep (Ext.refl _) hfr.size fun hp' hm' => ?_⟩
     exact heap_setCells_other _ _ _ _ _ (other b' c' inf' e' hne hi' hp')
 · intro b1 c1 b2 c2 i1 i2 e1 hw1 e2 hne h1' h2' hp1 hp2
   rcases old b1 c1 e1 with ⟨rfl, rfl⟩ | ⟨hn1, e1'⟩
   · rcases old b2 c2 e2 with ⟨rfl, rfl⟩ | ⟨hn2, e2'⟩
     · exact absurd rfl hne
     · exact H.inj _ c _ c2 i1 i2 hc hw e2' hne h1' h2' hp1 hp2
   · rcases old b2 c2 e2 with ⟨rfl, rfl⟩ | ⟨hn2, e2'⟩
     · exact H.inj _ c1 _ c i1 i2 e1' hw1 hc hne h1' h2' hp1 hp2
     · exact H.inj _ c1 _ c2 i1 i2 e1' hw1 e2' hne h1' h2' hp1 hp2
 · intro b1 c1 i1 e1 hw1 h1' hp1
   rcases old b1 c1 e1 with ⟨rfl, rfl⟩ | ⟨hn1, e1'⟩
   · exact H.own _ c i1 hc hw h1' hp1
   · exact H.own _ c1 i1 e1' hw1 h1' hp1
 · intro b1 c1 i1 e1 h1' hp1
   rw [size_setCells]
   rcases old b1 c1 e1 with ⟨rfl, rfl⟩ | ⟨hn1, e1'⟩
   · exact H.lt _ c i1 hc h1' hp1
   · exact H.lt _ c1 i1 e1' h1' hp1
 · intro b' hb'
   exact H.dom b' (by simpa using hb')
 · intro b1 c1 l i1 e1 hr h1'
   rcases old b1 c1 e1 with ⟨rfl, rfl⟩ | ⟨hn1, e1'⟩
   · exact absurd hr (hno l)
   · exact H.inn _ c1 l i1 e1' hr h1'
def KCode (P : Program) (K : Kinds) : Prop := ∀ (e : TypeId) (c : TC) (s : Nat), K.code e = some c → sizeT P e = some s → width c = s
theorem flat_len {α : Type} {sz : Nat} : ∀ (rows : List (List α)), (∀ r ∈ rows, r.length = sz) → rows.flatten.length = rows.length * sz
 | [], _ => by simp
 | r :: rows, h => by
  rw [List.flatten_cons, List.length_append, flat_len rows fun q hq => h q (List.mem_cons_of_mem _ hq), h r List.mem_cons_self, List.length_cons, Nat.succ_mul]
  omega
theorem flat_get {α : Type} {sz : Nat} : ∀ (rows : List (List α)) (i j : Nat), (∀ r ∈ rows, r.length = sz) → j < sz → rows.flatten[i * sz + j]? = (rows[i]?).bind (·[j]?)
 | [], i, j, _, _ => by simp
 | r :: rows, 0, j, h, hj => by
  have := h r List.mem_cons_self
  rw [List.flatten_cons, List.getElem?_append_left (by omega)]
  simp
 | r :: rows, i + 1, j, h, hj => by
  have hr := h r List.mem_cons_self
  rw [List.flatten_cons, List.getElem?_append_right (by rw [hr, Nat.succ_mul]; omega), hr, Nat.succ_mul]
  rw [show i * sz + sz + j - sz = i * sz + j by omega, flat_get rows i j (fun q hq => h q (List.mem_cons_of_mem _ hq)) hj]
  simp
theorem flat_set {sz : Nat} {cs : List AV} : ∀ (rows : List (List AV)) (i : Nat), (∀ r ∈ rows, r.length = sz) → cs.length = sz → i < rows.length → patch rows.flatten (i * sz) cs = some (rows.set i cs).flatten
 | [], i, _, _, hi => by simp at hi
 | r :: rows, 0, h, hc, hi => by
  have hr := h r List.mem_cons_self
  unfold patch
  rw [cond_eq_ite, if_pos (by simp; omega)]
  simp [hc, ← hr]
 | r :: rows, i + 1, h, hc, hi => by
  have hr := h r List.mem_cons_self
  have ih := flat_set rows i (fun q hq => h q (List.mem_cons_of_mem _ hq)) hc (by simpa using hi)
  have hl := (patch_some ih).1
  obtain ⟨_, he⟩ := patch_some ih
  unfold patch
  rw [cond_eq_ite, if_pos (by simp; rw [Nat.succ_mul]; simp at hl; omega)]
  rw [List.set_cons_succ, List.flatten_cons, List.flatten_cons, he, List.take_append, List.drop_append]
  have e1 : (i + 1) * sz - r.length = i * sz := by rw [hr, Nat.succ_mul]; omega
  have e2 : (i + 1) * sz + cs.length - r.length = i * sz + cs.length := by rw [hr, Nat.succ_mul]; omega
  rw [e1, e2, List.take_of_length_le (by rw [hr, Nat.succ_mul]; omega), List.drop_eq_nil_of_le (by rw [hr, Nat.succ_mul]; omega)]
  simp
theorem fillRows_fill {sz : Nat} : ∀ (parts : List (Nat × AV)) (rows rows' : List (List AV)), (∀ r ∈ rows, r.length = sz) → fillRows sz rows parts = some rows' →
 fillRow (fun i => some (i * sz, sz)) rows.flatten parts = some rows'.flatten ∧ (∀ r ∈ rows', r.length = sz) ∧ rows'.length = rows.length
 | [], rows, rows', h, he => by
  cases he
  exact ⟨rfl, h, rfl⟩
 | (i, v) :: parts, rows, rows', h, he => by
  simp only [fillRows] at he
  split at he
  case h_2 => cases he
  rename_i cs hcs
  simp only [cond_eq_ite, Bool.and_eq_true, Nat.beq_eq, Nat.blt_eq] at he
  split at he
  case isFalse => cases he
  rename_i hi
  obtain ⟨h1, h2, h3⟩ := fillRows_fill parts (rows.set i cs) rows' (fun r hr => by rcases List.mem_or_eq_of_mem_set hr with h' | h'; exact h r h'; rw [h']; exact hi.1) he
  refine ⟨?_, h2, by simpa using h3⟩
  simp only [fillRow, hcs]
  rw [cond_eq_ite, if_pos (by simpa using hi.1), flat_set rows i h hi.1 hi.2]
  exact h1
theorem replRow_all (z : List AV) : ∀ n, (∀ r ∈ replRow z n, r = z) ∧ (replRow z n).length = n
 | 0 => by simp [replRow]
 | n + 1 => by
  obtain ⟨h1, h2⟩ := replRow_all z n
  refine ⟨fun r hr => ?_, by simp [replRow, h2]⟩
  simp only [replRow, List.mem_cons] at hr
  rcases hr with rfl | hr
  · rfl
  · exact h1 r hr
theorem repl_cells {z : List AV} {zc : Array Value} {s : Nat} (hz : VRs ρ z zc.toList) (hs : z.length = s) (n : Nat) : VRs ρ (replRow z n).flatten ((Array.range (n * s)).map (zc[· % zc.size]!)).toList := by
 have hzs : zc.size = s := by have := hz.length; rw [← Array.length_toList]; omega
 have hall : ∀ r ∈ replRow z n, r.length = s := fun r hr => by rw [(replRow_all z n).1 r hr]; exact hs
 refine VRs.of_get (by rw [flat_len _ hall]; simp [(replRow_all z n).2]) fun k v v' hv hv' => ?_
 have hk : k < n * s := by
  have := (List.getElem?_eq_some_iff.1 hv).1
  rw [flat_len _ hall, (replRow_all z n).2] at this
  exact this
 have hspos : 0 < s := by
  rcases Nat.eq_zero_or_pos s with h0 | h0
  · rw [h0] at hk; omega
  · exact h0
 have hkm := Nat.mod_lt k hspos
 rw [← Nat.div_add_mod k s, Nat.mul_comm s, flat_get _ _ _ hall hkm] at hv
 have hq : (replRow z n)[k / s]? = some z := by
  have hlt : k / s < (replRow z n).length := by rw [(replRow_all z n).2]; exact Nat.div_lt_of_lt_mul (by rw [Nat.mul_comm]; exact hk)
  rw [List.getElem?_eq_getElem hlt]
  rw [(replRow_all z n).1 _ (List.getElem_mem hlt)]
 rw [hq] at hv
 simp only [Option.bind_some] at hv
 obtain ⟨u, hu, hr⟩ := hz.get hv
 have : v' = u := by
  simp only [Array.toList_map, Array.toList_range, List.getElem?_map, List.getElem?_range hk, Option.map_some, Option.some.injEq] at hv'
  rw [← hv', hzs]
  rw [Array.getElem?_toList] at hu
  rw [getElem!_def, hu]
 rw [this]
 exact hr
theorem opBuildSlice_sound {t : TypeId} {len : Nat} {parts : List (Nat × AV)} {parts' : Array (Nat × Value)} {k : AV → Heap → Option R} (hK : KCode P K) (H : HR X N0 W0 ρ h W) (hp : PartsR ρ parts parts'.toList)
 (he : opBuildSlice P K t len parts h k = some x) : ∃ v' W', (Instr.buildSlice t len parts').run P W = .ok v' W' ∧ Leads X N0 W0 ρ h.length k x v' W' ∧ W.grownBy W' none := by
 unfold opBuildSlice at he
 split at he
 case h_2 => cases he
 rename_i e hu
 split at he
 case h_2 => cases he
 rename_i z s hz hs
 simp only [cond_eq_ite, Bool.and_eq_true, Nat.beq_eq, Nat.ble_eq] at he
 split at he
 case isFalse => cases he
 rename_i hzs
 split at he
 case h_2 => cases he
 rename_i rows hrows
 split at he
 case h_2 => cases he
 rename_i r hr
 obtain ⟨ti, zv, hti, hzv, hzr, hz1⟩ := zeroRow_some hz ρ
 obtain ⟨ti', hti', hts⟩ := sizeT_some hs
 rw [hti] at hti'
 cases hti'
 have hall : ∀ q ∈ replRow z len, q.length = s := fun q hq => by rw [(replRow_all z len).1 q hq]; exact hzs.1.1
 obtain ⟨hf, hlen, hn⟩ := fillRows_fill parts (replRow z len) rows hall hrows
 rw [(replRow_all z len).2] at hn
 have hzc : zv.cells.size = s := by have := hzr.length; rw [← Array.length_toList]; omega
 have hcells := repl_cells (ρ := ρ) hzr hzs.1.1 len
 have hone : ∀ u ∈ ((Array.range (len * s)).map (zv.cells[· % zv.cells.size]!)).toList, u.oneCell' = true := by
  intro u hu'
  simp only [Array.toList_map, Array.toList_range, List.mem_map, List.mem_range] at hu'
  obtain ⟨q, hq, rfl⟩ := hu'
  have hs0 : 0 < s := by
   rcases Nat.eq_zero_or_pos s with h0 | h0
   · rw [h0] at hq; omega
   · exact h0
  have hm := Nat.mod_lt q hs0
  rw [hzc, getElem!_pos zv.cells (q % s) (by omega)]
  exact hz1 _ (by simp)
 obtain ⟨cells', e1, e2, e3⟩ := fill_sound hp hcells hone hf
 have hrun : (Instr.buildSlice t len parts').run P W = .ok (.slice (some ⟨W.heap.size, 0, none⟩) len len) (W.alloc (.cells cells' e)) := by
  subst hts
  by_cases h0 : len * ti.size = 0
  · have hc0 : (Array.range (len * ti.size)).map (zv.cells[· % zv.cells.size]!) = (Array.range (len * ti.size)).map ((#[] : Array Value)[· % (#[] : Array Value).size]!) := by rw [h0]; simp
    rw [hc0] at e1
    simp [Instr.buildSlice, run_underlying hu, sizeOf, typeInfo, hti, h0, newRow] at e1 ⊢
    rw [e1]
    simp
  · exact run_buildSlice W t e len parts' cells' ti zv hu hti hzv (by omega) h0 e1
 have hcl := e2.length
 rw [flat_len rows hlen, hn, Array.length_toList] at hcl
 obtain ⟨hl1, hl2, hl3, hl4, hl5⟩ := codeT_some h.length hr (fun c hc => hK e c s hc hs)
 let inf : BI := ⟨W.heap.size, 0, s, false, .slice (some ⟨W.heap.size, 0, none⟩) len len, fun _ => (none, 0, 0)⟩
 have hx := H.ext_upd inf
 refine ⟨_, _, hrun, ⟨_, _, upd ρ h.length inf, he, .whole (upd_same ρ h.length inf) rfl, ?_, agr_upd _ _, by simp⟩, ⟨rfl, rfl, rfl, by simp, fun k hk _ => Below.heap_alloc _ _ _ hk⟩⟩
 have hfr : Fr X N0 W (W.alloc (.cells cells' e)) := Fr.of_below ⟨rfl, rfl, rfl, by simp, fun k hk => Below.heap_alloc _ _ _ hk⟩ H.n0
 refine H.push hfr (fun k hk _ => Below.heap_alloc _ _ _ hk) ?_ (fun l hl => absurd hl (hl4 l)) (fun _ => ⟨.inr H.n0, by simp [inf], fun b c' i e hi hp => by have := H.lt b c' i e hi hp; simp only [inf]; omega⟩)
 have hrl : r.len = len := by rw [hl5, hn]
 refine ⟨fun _ => hl2.symm, fun hp => (by cases hp), ?_, ?_, ?_, ?_, ?_, ?_, ?_⟩
 · intro i row hrow
   rw [hl1] at hrow
   exact hlen row (List.mem_of_getElem? hrow)
 · intro i row j u hrow hju
   rw [hl1] at hrow
   have hj : j < s := by
    have := (List.getElem?_eq_some_iff.1 hju).1
    rw [hlen row (List.mem_of_getElem? hrow)] at this
    exact this
   have hfl : rows.flatten[i * s + j]? = some u := by rw [flat_get rows i j hlen hj, hrow]; exact hju
   obtain ⟨u', h2, h3⟩ := e2.get hfl
   refine ⟨u', ?_, h3.mono hx, e3 u' (List.mem_of_getElem? h2)⟩
   simp only [inf, Nat.zero_add]
   rw [Array.getElem?_toList] at h2
   simpa using h2
 · intro _ _
   exact ⟨by simp [inf], fun off => by simp [inf]⟩
 · intro _
   exact ⟨hl3, some ⟨W.heap.size, 0, none⟩, len, by rw [hrl], Nat.le_of_eq hrl, fun _ => rfl⟩
 · intro _ _
   exact ⟨_, _, _, rfl⟩
 · intro _ _ _
   refine .inr ⟨rfl, rfl, len, cells', by rw [hrl], heap_alloc_new W _, Nat.le_of_eq hrl, ?_, by simp only [inf]; omega⟩
   have := hzs.2
   unfold maxLen
   omega
 · intro l hl
   rw [ents_flat hl] at hl3
   cases hl3
theorem rows_plain {r : Rows} (h : r.plain = true) : r.flat = true ∧ (∀ l, r ≠ .ops l) ∧ ∀ b b', r.list b = r.list b' := by
 cases r <;> simp_all [Rows.plain, Rows.flat, Rows.list]
theorem gather {b : Nat} {c : Cell} {inf : BI} (ok : CellOK ρ W b c inf) (hf : c.rows.flat = true) (i0 n : Nat) (hn : i0 + n ≤ c.rows.len) :
 ∃ news : List Value, news.length = n * inf.sz ∧ (∀ (q : Nat) (u : Value), news[q]? = some u → W.cell? ⟨inf.m, inf.base + i0 * inf.sz + q, none⟩ = some u) ∧ (∀ u ∈ news, u.oneCell' = true) ∧
  VRs ρ (((c.rows.list b).drop i0).take n).flatten news := by
 have hll := Rows.list_length b c.rows hf
 have hall : ∀ r ∈ ((c.rows.list b).drop i0).take n, r.length = inf.sz := fun r hr => by
  obtain ⟨i, hi⟩ := List.mem_iff_getElem?.1 (List.mem_of_mem_drop (List.mem_of_mem_take hr))
  exact ok.row i r hi
 have hlen : (((c.rows.list b).drop i0).take n).length = n := by simp; omega
 have get : ∀ q, q < n * inf.sz → ∃ u u', (((c.rows.list b).drop i0).take n).flatten[q]? = some u ∧ W.cell? ⟨inf.m, inf.base + i0 * inf.sz + q, none⟩ = some u' ∧ VR ρ u u' ∧ u'.oneCell' = true := by
  intro q hq
  have hs0 : 0 < inf.sz := by
   rcases Nat.eq_zero_or_pos inf.sz with h0 | h0
   · rw [h0] at hq; omega
   · exact h0
  have hj := Nat.mod_lt q hs0
  have hi : q / inf.sz < n := Nat.div_lt_of_lt_mul (by rw [Nat.mul_comm]; exact hq)
  obtain ⟨row, hrow⟩ : ∃ row, (((c.rows.list b).drop i0).take n)[q / inf.sz]? = some row := ⟨_, List.getElem?_eq_getElem (by omega)⟩
  have hrl : row.length = inf.sz := hall _ (List.mem_of_getElem? hrow)
  obtain ⟨u, hu⟩ : ∃ u, row[q % inf.sz]? = some u := ⟨_, List.getElem?_eq_getElem (by omega)⟩
  have hrow' : (c.rows.list b)[i0 + q / inf.sz]? = some row := by
   rw [← hrow, List.getElem?_take, if_pos hi, List.getElem?_drop]
  obtain ⟨u', h1, h2, h3⟩ := ok.cell _ _ _ _ hrow' hu
  have hq' : q / inf.sz * inf.sz + q % inf.sz = q := by rw [Nat.mul_comm]; exact Nat.div_add_mod q inf.sz
  refine ⟨u, u', ?_, ?_, h2, h3⟩
  · have key := flat_get (((c.rows.list b).drop i0).take n) (q / inf.sz) (q % inf.sz) hall hj
    rw [hq', hrow] at key
    rw [key]
    exact hu
  · rw [← h1]
    congr 2
    rw [Nat.add_mul]
    omega
 let f : Nat → Value := fun q => (W.cell? ⟨inf.m, inf.base + i0 * inf.sz + q, none⟩).getD undef
 refine ⟨(List.range (n * inf.sz)).map f, by simp, ?_, ?_, ?_⟩
 · intro q u hu
   rw [List.getElem?_map] at hu
   have hq : q < n * inf.sz := by
    by_cases hq : q < n * inf.sz
    · exact hq
    · rw [List.getElem?_eq_none (by simpa using hq)] at hu; cases hu
   rw [List.getElem?_range hq] at hu
   simp only [Option.map_some, Option.some.injEq] at hu
   obtain ⟨_, u', _, h1, _⟩ := get q hq
   rw [← hu]
   simp [f, h1]
 · intro u hu
   obtain ⟨q, hq, rfl⟩ := List.mem_map.1 hu
   obtain ⟨_, u', _, h1, _, h3⟩ := get q (List.mem_range.1 hq)
   simpa [f, h1] using h3
 · refine VRs.of_get (by rw [flat_len _ hall, hlen]; simp) fun q v v' hv hv' => ?_
   rw [List.getElem?_map] at hv'
   have hq : q < n * inf.sz := by
    have := (List.getElem?_eq_some_iff.1 hv).1
    rw [flat_len _ hall, hlen] at this
    exact this
   rw [List.getElem?_range hq] at hv'
   simp only [Option.map_some, Option.some.injEq] at hv'
   obtain ⟨u, u', h0, h1, h2, _⟩ := get q hq
   rw [h0] at hv
   cases hv
   rw [← hv']
   simpa [f, h1] using h2
theorem rowsOf_sound {y : AV} {y' : Value} {k : Option Rows → Option R} (H : HR X N0 W0 ρ h W) (hy : VR ρ y y') (he : rowsOf h y k = some x) :
 (k none = some x ∧ y' = .slice none 0 0) ∨ ∃ (b i0 : Nat) (c : Cell) (inf : BI) (rows : Rows) (A : Option Addr) (cc : Nat), k (some rows) = some x ∧ cellAt h b = some c ∧ ρ b = some inf ∧ rows.plain = true ∧ rows.sz = inf.sz ∧ c.rows.flat = true ∧
  i0 + rows.len ≤ c.rows.len ∧ (∀ b', rows.list b' = ((c.rows.list b).drop i0).take rows.len) ∧ y' = .slice A rows.len cc ∧ (0 < rows.len → A = some ⟨inf.m, inf.base + i0 * inf.sz, none⟩) := by
 have sub_plain : ∀ (r : Rows) (i n : Nat), r.plain = true → (r.sub i n).plain = true ∧ (r.sub i n).sz = r.sz ∧ (i + n ≤ r.len → (r.sub i n).len = n) ∧ ∀ b b', (r.sub i n).list b' = ((r.list b).drop i).take n := by
  intro r i n hp
  cases r <;> simp_all [Rows.plain, Rows.sub, Rows.sz, Rows.len, Rows.list, List.map_take, List.map_drop] <;> omega
 unfold rowsOf at he
 split at he
 case h_1 b =>
  split at he
  case h_2 => cases he
  rename_i c hc
  simp only [cond_eq_ite, Bool.and_eq_true] at he
  split at he
  case isFalse => cases he
  rename_i hs
  obtain ⟨inf, hi, ok⟩ := H.ok b c hc
  obtain ⟨inf', A, n, cap, hi', rfl, hv⟩ := hy.whole_inv
  rw [hi] at hi'
  cases hi'
  obtain ⟨hfl, A', cap', hv', hle, hA⟩ := ok.sl hs.1
  rw [hv] at hv'
  cases hv'
  refine .inr ⟨b, 0, c, inf, c.rows, A, cap, he, hc, hi, hs.2, (ok.sz hfl).symm, hfl, by omega, fun b' => ?_, rfl, by simpa using hA⟩
  rw [(rows_plain hs.2).2.2 b' b, List.drop_zero, List.take_of_length_le (Nat.le_of_eq (Rows.list_length b _ hfl))]
 case h_2 b i n =>
  split at he
  case h_2 => cases he
  rename_i c hc
  simp only [cond_eq_ite, Bool.and_eq_true, Nat.ble_eq] at he
  split at he
  case isFalse => cases he
  rename_i hs
  split at he
  case isFalse => cases he
  rename_i hfit
  obtain ⟨inf, hi, ok⟩ := H.ok b c hc
  obtain ⟨inf', A, cap, hi', rfl, hcn, _, hA⟩ := hy.part_inv
  rw [hi] at hi'
  cases hi'
  obtain ⟨hfl, _⟩ := ok.sl hs.1
  obtain ⟨s1, s2, s3, s4⟩ := sub_plain c.rows i n hs.2
  have s3 := s3 hfit
  refine .inr ⟨b, i, c, inf, c.rows.sub i n, A, cap, he, hc, hi, s1, s2.trans (ok.sz hfl).symm, hfl, by omega, fun b' => by rw [s3]; exact s4 b b', by rw [s3], by rw [s3]; exact hA⟩
 case h_3 b i n =>
  split at he
  case h_2 => cases he
  rename_i c hc
  simp only [cond_eq_ite, Bool.and_eq_true, Nat.ble_eq] at he
  split at he
  case isFalse => cases he
  rename_i hs
  split at he
  case isFalse => cases he
  rename_i hfit
  obtain ⟨inf, hi, ok⟩ := H.ok b c hc
  obtain ⟨inf', A, cap, hi', rfl, hcn, hA, _⟩ := hy.lim_inv
  rw [hi] at hi'
  cases hi'
  obtain ⟨hfl, _⟩ := ok.sl hs.1
  obtain ⟨s1, s2, s3, s4⟩ := sub_plain c.rows i n hs.2
  have s3 := s3 hfit
  refine .inr ⟨b, i, c, inf, c.rows.sub i n, A, cap, he, hc, hi, s1, s2.trans (ok.sz hfl).symm, hfl, by omega, fun b' => by rw [s3]; exact s4 b b', by rw [s3], by rw [s3]; exact hA⟩
 case h_4 =>
  cases hy
  exact .inl ⟨he, rfl⟩
 case h_5 => cases he
end
end Go.Abs
