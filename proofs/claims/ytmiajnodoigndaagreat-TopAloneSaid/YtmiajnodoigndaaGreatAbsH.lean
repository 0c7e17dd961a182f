/- Own: Rows that grow, and rows that are cleared. -/
import Derived.Test.YtmiajnodoigndaaGreatAbsG
namespace Go.Abs
open Go.RowKit
set_option linter.unusedVariables false
set_option linter.unusedSimpArgs false
section
variable {P : Program} {K : Kinds} {X : Nat → Prop} {N0 : Nat} {W0 W : World} {ρ : Ren} {h : Heap} {R : Type} {x : R}
theorem run_storeNone (W : World) (a : Addr) : (storeCells a []).run P W = .ok () W := by simp [storeCells]
theorem run_append_zero (W : World) (t ty e : TypeId) (i : TypeInfo) (ht : P.underlying t = some (.slice e)) (hi : P.info? e = some i) (B : Option Addr) (n cap cc : Nat) (hn : n ≤ cap) :
 (Builtin.append_ #[t, t] ty #[.slice B n cap, .slice none 0 cc]).run P W = .ok (.slice B n cap) W := by
 cases B <;> simp [Builtin.append_, run_underlying ht, sizeOf, typeInfo, hi, Builtin.lenOf, hn, Builtin.firstCells, run_storeNone]
theorem elemT_some {e : TypeId} {s : Nat} (h : elemT P e = some s) : ∃ i z, P.info? e = some i ∧ i.zero = some z ∧ z.cells.size = i.size ∧ 0 < i.size ∧ i.bytes ≤ 1000000 ∧ e ≠ 0 ∧ i.size = s := by
 unfold elemT at h
 split at h
 case h_2 => cases h
 rename_i i hi
 split at h
 case h_2 => cases h
 rename_i z hz
 simp only [cond_eq_ite, Bool.and_eq_true, Nat.beq_eq, Nat.blt_eq, Nat.ble_eq] at h
 split at h
 case isFalse => cases h
 rename_i hc
 exact ⟨i, z, hi, hz, hc.1, hc.2.1, hc.2.2.1, fun e0 => by have := hc.2.2.2; rw [e0] at this; simp at this, Option.some.inj h⟩
def ownsE (W : World) (e : TypeId) (size : Nat) (v : Value) (n : Nat) (xs : List Value) : Prop := W.ownsRow 0 e size v n xs ∨ ∃ A, v = .slice A 0 0 ∧ n = 0 ∧ xs = []
def blkE : Value → Option Nat
 | .slice (some a) _ (_ + 1) => some a.block
 | _ => none
theorem blkE_own {v : Value} {g : Nat} (h : blkE v = some g) : v.ownBlock = some g := by
 unfold blkE at h
 split at h
 · exact h
 · cases h
theorem append_run (W : World) (t ty e : TypeId) (i : TypeInfo) (z : Value) (ht : P.underlying t = some (.slice e)) (hi : P.info? e = some i) (hz : i.zero = some z) (hzs : z.cells.size = i.size) (hsz : 0 < i.size) (hby : i.bytes ≤ 1000000)
 (v : Value) (n : Nat) (xs : List Value) (hown : ownsE W e i.size v n xs) (A : Option Addr) (m cc : Nat) (news : List Value) (hl : news.length = m * i.size)
 (hA : 0 < m → ∃ a, A = some a ∧ ∀ (j : Nat) (u : Value), news[j]? = some u → W.cell? (a.add j) = some u) (h1 : ∀ u ∈ news, u.oneCell' = true) (hnm : n + m ≤ maxRows) :
 ∃ v' W', (Builtin.append_ #[t, t] ty #[v, .slice A m cc]).run P W = .ok v' W' ∧ ownsE W' e i.size v' (n + m) (xs ++ news) ∧ W.grownBy W' (blkE v) ∧ ∀ g', blkE v' = some g' → blkE v = some g' ∨ W.heap.size ≤ g' := by
 have hml : n + m ≤ maxLen := by unfold maxRows at hnm; unfold maxLen; omega
 have hb : (n + m) * i.bytes ≤ 140737488355328 := by
  calc (n + m) * i.bytes ≤ 100000 * 1000000 := Nat.mul_le_mul hnm hby
   _ ≤ 140737488355328 := by decide
 rcases Nat.eq_zero_or_pos m with rfl | hm
 · have hnil : news = [] := List.eq_nil_of_length_eq_zero (by simpa using hl)
   subst hnil
   have hsame : ownsE W e i.size v (n + 0) (xs ++ []) := by simpa using hown
   have hrun : (Builtin.append_ #[t, t] ty #[v, .slice A 0 cc]).run P W = .ok v W := by
    rcases hown with ⟨_, ⟨rfl, rfl⟩ | ⟨g, cap, cur, rfl, _, _, hnc, _⟩⟩ | ⟨B, rfl, rfl, rfl⟩
    rotate_left 2
    · cases A with
      | none => exact run_append_zero W t ty e i ht hi B 0 0 cc (Nat.le_refl _)
      | some a => cases B <;> simp [Builtin.append_, run_underlying ht, sizeOf, typeInfo, hi, Builtin.lenOf, Builtin.firstCells, loadCells, loadCellsFrom, run_storeNone]
    · cases A with
      | none => exact run_append_zero W t ty e i ht hi none 0 0 cc (Nat.le_refl _)
      | some a => simp [Builtin.append_, run_underlying ht, sizeOf, typeInfo, hi, Builtin.lenOf, Builtin.firstCells, loadCells, loadCellsFrom]
    · cases A with
      | none => exact run_append_zero W t ty e i ht hi _ n cap cc hnc
      | some a => simp [Builtin.append_, run_underlying ht, sizeOf, typeInfo, hi, Builtin.lenOf, hnc, Builtin.firstCells, loadCells, loadCellsFrom, run_storeNone]
   exact ⟨v, W, hrun, hsame, ⟨rfl, rfl, rfl, Nat.le_refl _, fun _ _ _ => rfl⟩, fun g' hg => .inl hg⟩
 · obtain ⟨a, rfl, hnews⟩ := hA hm
   rcases hown with ⟨hown1, ⟨rfl, rfl⟩ | ⟨g, cap, cur, rfl, hg0, hg, hnc, hcm, hcs, htake⟩⟩ | ⟨B, rfl, rfl, rfl⟩
   rotate_left 2
   · cases B with
     | some B =>
      obtain ⟨v', W', hrun, ho, hgr⟩ := run_append_arg_grows (P := P) W t ty e i z i.size i.bytes ht hi hz rfl rfl hzs hsz B 0 0 [] (by simp) (fun j u hj => by simp at hj) a m cc news hl hnews (by omega) hml hb
      refine ⟨v', W', hrun, .inl ⟨ho.1, ?_⟩, hgr, fun g' hg' => .inr (ho.lt g' (blkE_own hg')).1⟩
      rcases ho.2 with h0 | ⟨g, cap, cur, e1, _, e3⟩
      · exact .inl h0
      · exact .inr ⟨g, cap, cur, e1, Nat.zero_le _, e3⟩
     | none =>
      obtain ⟨v', W', hrun, ho, hgr, _⟩ := run_append_own (P := P) W W.heap.size t ty e i z i.size i.bytes ht hi hz rfl rfl hzs hsz (.slice none 0 0) 0 [] ⟨by simp, .inl ⟨rfl, rfl⟩⟩ a m cc news hl hnews h1 hml hb (Nat.le_refl _)
      refine ⟨v', W', hrun, .inl ⟨ho.1, ?_⟩, hgr, fun g' hg' => .inr (ho.lt g' (blkE_own hg')).1⟩
      rcases ho.2 with h0 | ⟨g, cap, cur, e1, _, e3⟩
      · exact .inl h0
      · exact .inr ⟨g, cap, cur, e1, Nat.zero_le _, e3⟩
   · have hx : xs = [] := List.eq_nil_of_length_eq_zero (by simpa using hown1)
     subst hx
     obtain ⟨v', W', hrun, ho, hgr, _⟩ := run_append_own (P := P) W W.heap.size t ty e i z i.size i.bytes ht hi hz rfl rfl hzs hsz (.slice none 0 0) 0 [] ⟨by simp, .inl ⟨rfl, rfl⟩⟩ a m cc news hl hnews h1 hml hb (Nat.le_refl _)
     refine ⟨v', W', hrun, .inl ⟨ho.1, ?_⟩, hgr, fun g' hg' => .inr (ho.lt g' (blkE_own hg')).1⟩
     rcases ho.2 with h0 | ⟨g, cap, cur, e1, _, e3⟩
     · exact .inl h0
     · exact .inr ⟨g, cap, cur, e1, Nat.zero_le _, e3⟩
   · by_cases hroom : n + m ≤ cap
     · have hfit : n * i.size + news.length ≤ cur.size := by rw [hl, hcs, ← Nat.add_mul]; exact Nat.mul_le_mul_right _ hroom
       have hr := run_append_room (P := P) W t ty e i ht hi g n cap cur hg a m cc news hl hnews h1 hroom hfit
       obtain ⟨cap, rfl⟩ : ∃ c, cap = c + 1 := ⟨cap - 1, by omega⟩
       refine ⟨_, _, hr, .inl ⟨by rw [List.length_append, hown1, hl, Nat.add_mul], .inr ⟨g, cap + 1, _, rfl, Nat.zero_le _, setRow_heap W g cur _ e _ hg, hroom, hcm, ?_, ?_⟩⟩, ⟨rfl, rfl, rfl, by simp, fun k _ hk => setRow_other W g k _ (fun e => hk (by simp [blkE, e]))⟩, fun g' hg' => .inl hg'⟩
       · simp only [List.size_toArray, List.length_append, List.length_take, List.length_drop, Array.length_toList]
         omega
       · rw [htake, Nat.add_mul, ← hl, ← hown1, ← List.length_append]
         exact List.take_left
     · have holds : ∀ j u, xs[j]? = some u → W.cell? ((⟨g, 0, none⟩ : Addr).add j) = some u := World.ownsRow.cells (w := W) (base := 0) (e := e) (size := i.size) (v := .slice (some ⟨g, 0, none⟩) n cap) (n := n) ⟨hown1, .inr ⟨g, cap, cur, rfl, hg0, hg, hnc, hcm, hcs, htake⟩⟩ (g := g) rfl
       obtain ⟨v', W', hrun, ho, hgr⟩ := run_append_arg_grows (P := P) W t ty e i z i.size i.bytes ht hi hz rfl rfl hzs hsz ⟨g, 0, none⟩ n cap xs hown1 holds a m cc news hl hnews (by omega) hml hb
       refine ⟨v', W', hrun, .inl ⟨ho.1, ?_⟩, ⟨hgr.os, hgr.tape, hgr.output, hgr.size, fun k hk _ => hgr.block k hk (by simp)⟩, fun g' hg' => .inr (ho.lt g' (blkE_own hg')).1⟩
       rcases ho.2 with h0 | ⟨g, cap, cur, e1, _, e3⟩
       · exact .inl h0
       · exact .inr ⟨g, cap, cur, e1, Nat.zero_le _, e3⟩
theorem owns_row {b : Nat} {c : Cell} {inf : BI} (ok : CellOK ρ W b c inf) (hw : c.wr = true) (hs : c.sl = true) (he : c.elem ≠ 0) :
 ∃ xs, ownsE W c.elem inf.sz inf.v c.rows.len xs ∧ VRs ρ (c.rows.list b).flatten xs ∧ ∀ u ∈ xs, u.oneCell' = true := by
 obtain ⟨hfl, _⟩ := ok.sl hs
 obtain ⟨xs, h1, h2, h3, h4⟩ := gather ok hfl 0 c.rows.len (by omega)
 have hll := Rows.list_length b c.rows hfl
 rw [List.drop_zero, List.take_of_length_le (Nat.le_of_eq hll)] at h4
 refine ⟨xs, ?_, h4, h3⟩
 rcases ok.own hw hs he with ⟨hp, A, hv⟩ | ⟨hp, hb, cap, cur, hv, hh, hle, hcm, hcs⟩
 · have h0 := (ok.ph hp).1
   exact .inr ⟨A, hv, h0, List.eq_nil_of_length_eq_zero (by rw [h1, h0]; simp)⟩
 · refine .inl ⟨h1, ?_⟩
   refine .inr ⟨inf.m, cap, cur, hv, Nat.zero_le _, hh, hle, hcm, hcs, ?_⟩
   refine List.ext_getElem? fun q => ?_
   rw [List.getElem?_take]
   by_cases hq : q < c.rows.len * inf.sz
   · rw [if_pos hq]
     obtain ⟨u, hu⟩ : ∃ u, xs[q]? = some u := ⟨_, List.getElem?_eq_getElem (by omega)⟩
     have := h2 q u hu
     rw [hu, ← this, hb]
     simp [World.cell?, hh]
   · rw [if_neg hq, List.getElem?_eq_none (by omega)]
theorem HR.pushRow (H : HR X N0 W0 ρ h W) {W' : World} {e : TypeId} {size : Nat} {v : Value} {r : Rows} {xs : List Value} (hs0 : 0 < size) (ho : ownsE W' e size v r.len xs) (hr : VRs ρ (r.list h.length).flatten xs) (h1 : ∀ u ∈ xs, u.oneCell' = true)
 (hall : ∀ q ∈ r.list h.length, q.length = size) (hp : r.plain = true) (hsz : r.sz = size) (hf : Fr X N0 W W')
 (hb : ∀ k, k < W.heap.size → (∃ b c inf, cellAt h b = some c ∧ ρ b = some inf ∧ inf.ph = false ∧ inf.m = k) → W'.heap[k]? = W.heap[k]?)
 (hn : ∀ g, blkE v = some g → (X g ∨ N0 ≤ g) ∧ ∀ b c' i, cellAt h b = some c' → ρ b = some i → i.ph = false → i.m ≠ g) :
 ∃ inf, HR X N0 W0 (upd ρ h.length inf) (h ++ [some ⟨true, true, false, e, r⟩]) W' ∧ VR (upd ρ h.length inf) (.whole h.length) v := by
 obtain ⟨hfl, hno, hli⟩ := rows_plain hp
 have hll := Rows.list_length h.length r hfl
 have ho' : (r.len = 0 ∧ ∃ A, v = .slice A 0 0) ∨ (xs.length = r.len * size ∧ ∃ g cap cur, v = .slice (some ⟨g, 0, none⟩) r.len (cap + 1) ∧ W'.heap[g]? = some (.cells cur e (0, 0)) ∧ r.len ≤ cap + 1 ∧ cap + 1 ≤ maxLen ∧ cur.size = (cap + 1) * size ∧ cur.toList.take (r.len * size) = xs) := by
  rcases ho with ⟨h0, ⟨h1, h2⟩ | ⟨g, cap, cur, hv, _, hg, hnc, hcm, hcs, htake⟩⟩ | ⟨A, h1, h2, _⟩
  · exact .inl ⟨h2, none, h1⟩
  · cases cap with
    | zero =>
     have : r.len = 0 := by omega
     exact .inl ⟨this, _, by rw [hv, this]⟩
    | succ cap => exact .inr ⟨h0, g, cap, cur, hv, hg, hnc, hcm, hcs, htake⟩
  · exact .inl ⟨h2, A, h1⟩
 rcases ho' with ⟨h0, A, hv⟩ | ⟨hxl, g, cap, cur, hv, hg, hnc, hcm, hcs, htake⟩
 · refine ⟨⟨0, 0, size, true, v, fun _ => (none, 0, 0)⟩, ?_, by subst hv; exact .whole (upd_same _ _ _) rfl⟩
   refine H.push hf hb ?_ (fun l hl => absurd hl (hno l)) (fun hp => by cases hp)
   have hnil : r.list h.length = [] := List.eq_nil_of_length_eq_zero (by omega)
   refine ⟨fun _ => hsz.symm, fun _ => ⟨h0, hfl⟩, fun i row hi => (by rw [hnil] at hi; simp at hi), fun i row j u hi => (by rw [hnil] at hi; simp at hi), fun _ hp => (by cases hp), fun _ => ⟨hfl, A, 0, by rw [h0]; exact hv, by simp only []; omega, fun hp => by simp only [] at hp; omega⟩,
    fun _ hn => (by cases hn), fun _ _ _ => .inl ⟨rfl, A, hv⟩, fun l hl => by rw [ents_flat hl] at hfl; cases hfl⟩
 · have hgl : g < W'.heap.size := (Array.getElem?_eq_some_iff.1 hg).1
   have hob : blkE v = some g := by rw [hv]; rfl
   have hx := H.ext_upd ⟨g, 0, size, false, v, fun _ => (none, 0, 0)⟩
   refine ⟨⟨g, 0, size, false, v, fun _ => (none, 0, 0)⟩, ?_, by subst hv; exact .whole (upd_same _ _ _) rfl⟩
   refine H.push hf hb ?_ (fun l hl => absurd hl (hno l)) (fun _ => ⟨(hn g hob).1, hgl, (hn g hob).2⟩)
   refine ⟨fun _ => hsz.symm, fun hp => (by cases hp), fun i row hi => hall row (List.mem_of_getElem? hi), ?_, fun _ _ => ⟨hgl, fun off => ?_⟩, fun _ => ⟨hfl, some ⟨g, 0, none⟩, cap + 1, hv, hnc, fun _ => rfl⟩, fun _ hn => (by cases hn), fun _ _ _ => .inr ⟨rfl, rfl, cap + 1, cur, hv, hg, hnc, hcm, hcs⟩, fun l hl => by rw [ents_flat hl] at hfl; cases hfl⟩
   · intro i row j u hi hj
     have hjl : j < size := by
      have := (List.getElem?_eq_some_iff.1 hj).1
      rw [hall row (List.mem_of_getElem? hi)] at this
      exact this
     have key := flat_get (r.list h.length) i j hall hjl
     rw [hi] at key
     obtain ⟨u', h2, h3⟩ := hr.get (key.trans hj)
     refine ⟨u', ?_, h3.mono hx, h1 u' (List.mem_of_getElem? h2)⟩
     have : xs[i * size + j]? = cur[i * size + j]? := by
      rw [← htake, List.getElem?_take]
      have hlt : i * size + j < r.len * size := by
       have := (List.getElem?_eq_some_iff.1 h2).1
       rw [hxl] at this
       exact this
      rw [if_pos hlt]
      simp
     simp [World.cell?, hg, ← this, h2]
   · simp [World.frozen?, hg]
theorem app_plain {r y t : Rows} (h : r.app y = some t) : t.plain = true := by
 cases r <;> cases y <;> simp only [Rows.app, cond_eq_ite] at h <;> first | (cases h; done) | (split at h <;> first | (cases h; rfl) | cases h)
theorem kill_old {b0 b : Nat} {c : Cell} (e : cellAt (h.set b0 none) b = some c) : b0 ≠ b ∧ cellAt h b = some c := by
 by_cases hb : b0 = b
 · subst hb
   have hl := cellAt_lt e
   simp at hl
   rw [cellAt_set_same hl] at e
   cases e
 · rw [cellAt_set_other hb] at e
   exact ⟨hb, e⟩
theorem over_some {r y t : Rows} {i : Nat} (b : Nat) (h : r.over i y = some t) (hi : i + y.len ≤ r.len) : t.list b = (r.list b).take i ++ (y.list b ++ (r.list b).drop (i + y.len)) ∧ t.sz = r.sz ∧ y.sz = r.sz ∧ t.len = r.len ∧ t.plain = true ∧ r.plain = true := by
 cases r with
 | gen sz l =>
  cases y with
  | gen sz' l' =>
   simp only [Rows.over, cond_eq_ite, Nat.beq_eq] at h
   split at h
   · rename_i hs
     cases h
     simp only [Rows.len] at hi
     exact ⟨rfl, rfl, hs.symm, by simp [Rows.len]; omega, rfl, rfl⟩
   · cases h
  | _ => cases h
 | typ c l =>
  cases y with
  | typ c' l' =>
   simp only [Rows.over] at h
   split at h
   · rename_i hs
     subst hs
     cases h
     simp only [Rows.len] at hi
     exact ⟨by simp [Rows.list, Rows.len], rfl, rfl, by simp [Rows.len]; omega, rfl, rfl⟩
   · cases h
  | _ => cases h
 | _ => cases h
theorem zero_some {r t : Rows} {i n : Nat} {z : List AV} (b : Nat) (h : r.zero i n z = some t) (hi : i + n ≤ r.len) : t.list b = (r.list b).take i ++ (List.replicate n z ++ (r.list b).drop (i + n)) ∧ t.sz = r.sz ∧ z.length = r.sz ∧ t.len = r.len ∧ t.plain = true ∧ r.plain = true := by
 cases r with
 | gen sz l =>
  simp only [Rows.zero, cond_eq_ite, Nat.beq_eq] at h
  split at h
  · rename_i hs
    cases h
    simp only [Rows.len] at hi
    exact ⟨rfl, rfl, hs, by simp [Rows.len]; omega, rfl, rfl⟩
  · cases h
 | typ c l =>
  simp only [Rows.zero] at h
  split at h
  · rename_i zz hz
    cases h
    have hr := unRow_some hz
    simp only [Rows.len] at hi
    refine ⟨by simp [Rows.list, hr, List.map_take, List.map_drop], rfl, by rw [← hr]; exact rowOf_length c zz, by simp [Rows.len]; omega, rfl, rfl⟩
  · cases h
 | _ => cases h
theorem HR.splice (H : HR X N0 W0 ρ h W) {b p m : Nat} {c : Cell} {inf : BI} {t : Rows} {ins : List (List AV)} {news : List Value} (hc : cellAt h b = some c) (hw : c.wr = true) (hi : ρ b = some inf) (hpl : c.rows.plain = true) (htp : t.plain = true)
 (hm : ins.length = m) (hfit : p + m ≤ c.rows.len) (hl : t.list b = (c.rows.list b).take p ++ (ins ++ (c.rows.list b).drop (p + m))) (hsz : t.sz = c.rows.sz) (hlen : t.len = c.rows.len) (hall : ∀ q ∈ ins, q.length = inf.sz) (hns : VRs ρ ins.flatten news) (h1 : ∀ u ∈ news, u.oneCell' = true) :
 HR X N0 W0 ρ (h.set b (some ⟨c.wr, c.sl, c.nn, c.elem, t⟩)) (W.setCells inf.m (inf.base + p * inf.sz) news) ∧ (∀ j, j < news.length → (W.cell? ⟨inf.m, inf.base + p * inf.sz + j, none⟩).isSome = true) ∧ (news ≠ [] → inf.ph = false ∧ ∀ off, W.frozen? ⟨inf.m, off, none⟩ = false) := by
 obtain ⟨hfl, hno, _⟩ := rows_plain hpl
 obtain ⟨htfl, htno, _⟩ := rows_plain htp
 obtain ⟨inf', hi', ok⟩ := H.ok b c hc
 rw [hi] at hi'
 cases hi'
 have hll := Rows.list_length b c.rows hfl
 have hnl : news.length = m * inf.sz := by rw [← hns.length, flat_len ins hall, hm]
 have there : ∀ j, j < news.length → (W.cell? ⟨inf.m, inf.base + p * inf.sz + j, none⟩).isSome = true := by
  obtain ⟨olds, g1, g2, _⟩ := gather ok hfl p m hfit
  intro j hj
  obtain ⟨u, hu⟩ : ∃ u, olds[j]? = some u := ⟨_, List.getElem?_eq_getElem (by omega)⟩
  rw [g2 j u hu]
  rfl
 have hph : news ≠ [] → inf.ph = false := by
  intro hne
  cases hp : inf.ph with
  | false => rfl
  | true =>
   have := (ok.ph hp).1
   have : m = 0 := by omega
   rw [this] at hnl
   exact absurd (List.eq_nil_of_length_eq_zero (by simpa using hnl)) hne
 rcases Bool.eq_false_or_eq_true inf.ph with hp | hp
 ·
  have hz := (ok.ph hp).1
  have hn0 : news = [] := by
   by_cases hne : news = []
   · exact hne
   · have := hph hne
     rw [hp] at this
     cases this
  subst hn0
  have hp0 : p = 0 := by omega
  have hm0 : m = 0 := by omega
  have hcl : c.rows.list b = [] := List.eq_nil_of_length_eq_zero (by omega)
  have hins : ins = [] := List.eq_nil_of_length_eq_zero (by omega)
  have htl : t.list b = [] := by rw [hl, hcl, hins]; simp
  refine ⟨?_, there, fun hne => absurd rfl hne⟩
  have hb := cellAt_lt hc
  have old : ∀ b' c', cellAt (h.set b (some ⟨c.wr, c.sl, c.nn, c.elem, t⟩)) b' = some c' → (b' = b ∧ c' = ⟨c.wr, c.sl, c.nn, c.elem, t⟩) ∨ (b ≠ b' ∧ cellAt h b' = some c') := by
   intro b' c' e
   by_cases hne : b = b'
   · subst hne
     rw [cellAt_set_same hb] at e
     exact .inl ⟨rfl, (Option.some.inj e).symm⟩
   · rw [cellAt_set_other hne] at e
     exact .inr ⟨hne, e⟩
  refine ⟨fun b' c' e => ?_, fun b1 c1 b2 c2 i1 i2 e1 hw1 e2 hne h1' h2' hp1 hp2 => ?_, fun b1 c1 i1 e1 hw1 h1' hp1 => ?_, fun b1 c1 i1 e1 h1' hp1 => ?_, fun b' hb' => H.dom b' (by simpa using hb'), H.fr, H.n0, fun b1 c1 l i1 e1 hr h1' => ?_⟩
  · rcases old b' c' e with ⟨rfl, rfl⟩ | ⟨_, e'⟩
    · refine ⟨inf, hi, fun _ => (ok.sz hfl).trans hsz.symm, fun _ => ⟨by rw [hlen]; exact hz, htfl⟩, fun i row hr => (by simp only [] at hr; rw [htl] at hr; simp at hr), fun i row j u hr => (by simp only [] at hr; rw [htl] at hr; simp at hr), ok.wr, fun hs => ⟨htfl, by simp only [hlen]; exact (ok.sl hs).2⟩, ok.nn, fun h1 h2 h3 => (by simp only [hlen]; exact ok.own h1 h2 h3), fun l hl' => by rw [ents_flat hl'] at htfl; cases htfl⟩
    · exact H.ok b' c' e'
  · rcases old b1 c1 e1 with ⟨rfl, rfl⟩ | ⟨_, e1'⟩
    · rw [hi] at h1'; cases h1'; rw [hp] at hp1; cases hp1
    · rcases old b2 c2 e2 with ⟨rfl, rfl⟩ | ⟨_, e2'⟩
      · rw [hi] at h2'; cases h2'; rw [hp] at hp2; cases hp2
      · exact H.inj b1 c1 b2 c2 i1 i2 e1' hw1 e2' hne h1' h2' hp1 hp2
  · rcases old b1 c1 e1 with ⟨rfl, rfl⟩ | ⟨_, e1'⟩
    · rw [hi] at h1'; cases h1'; rw [hp] at hp1; cases hp1
    · exact H.own b1 c1 i1 e1' hw1 h1' hp1
  · rcases old b1 c1 e1 with ⟨rfl, rfl⟩ | ⟨_, e1'⟩
    · rw [hi] at h1'; cases h1'; rw [hp] at hp1; cases hp1
    · exact H.lt b1 c1 i1 e1' h1' hp1
  · rcases old b1 c1 e1 with ⟨rfl, rfl⟩ | ⟨_, e1'⟩
    · exact absurd hr (htno l)
    · exact H.inn b1 c1 l i1 e1' hr h1'
 · refine ⟨?_, there, fun _ => ⟨hp, (ok.wr hw hp).2⟩⟩
   have rowAt : ∀ (i' : Nat) (r : List AV), (t.list b)[i']? = some r → (i' < p ∧ (c.rows.list b)[i']? = some r) ∨ (p ≤ i' ∧ i' < p + m ∧ ins[i' - p]? = some r) ∨ (p + m ≤ i' ∧ (c.rows.list b)[i']? = some r) := by
    intro i' r hr
    rw [hl] at hr
    by_cases h1 : i' < p
    · rw [List.getElem?_append_left (by simp; omega), List.getElem?_take, if_pos h1] at hr
      exact .inl ⟨h1, hr⟩
    · rw [List.getElem?_append_right (by simp; omega)] at hr
      have hmin : ((c.rows.list b).take p).length = p := by simp; omega
      rw [hmin] at hr
      by_cases h2 : i' < p + m
      · rw [List.getElem?_append_left (by omega)] at hr
        exact .inr (.inl ⟨by omega, h2, hr⟩)
      · rw [List.getElem?_append_right (by omega), List.getElem?_drop, hm] at hr
        exact .inr (.inr ⟨by omega, by rw [← hr]; congr 1; omega⟩)
   refine H.writeG hc hw hi hp hfl hsz hlen htfl htno (by
    have := there
    intro j hj
    exact there j hj) ?_ ?_ hns h1
   · intro i' r hr
     rcases rowAt i' r hr with ⟨_, h⟩ | ⟨_, _, h⟩ | ⟨_, h⟩
     · exact ok.row i' r h
     · exact hall r (List.mem_of_getElem? h)
     · exact ok.row i' r h
   · intro i' r j u hr hu
     rcases rowAt i' r hr with ⟨hlt, h⟩ | ⟨hge, hlt, h⟩ | ⟨hge, h⟩
     · refine .inr ⟨fun q _ => ?_, r, h, hu⟩
       have hj : j < inf.sz := by have := (List.getElem?_eq_some_iff.1 hu).1; rw [ok.row i' r h] at this; exact this
       have : (i' + 1) * inf.sz ≤ p * inf.sz := Nat.mul_le_mul_right _ hlt
       rw [Nat.add_mul] at this
       omega
     · refine .inl ⟨(i' - p) * inf.sz + j, ?_, ?_⟩
       · rw [← Nat.add_assoc, ← Nat.add_mul]
         congr 2
         omega
       · have hj : j < inf.sz := by have := (List.getElem?_eq_some_iff.1 hu).1; rw [hall r (List.mem_of_getElem? h)] at this; exact this
         rw [flat_get ins (i' - p) j hall hj, h]
         exact hu
     · refine .inr ⟨fun q hq => ?_, r, h, hu⟩
       have : (p + m) * inf.sz ≤ i' * inf.sz := Nat.mul_le_mul_right _ hge
       rw [Nat.add_mul] at this
       omega
theorem opAppend_sound {t : TypeId} {a y : AV} {a' y' : Value} {k : AV → Heap → Option R} (H : HR X N0 W0 ρ h W) (ha : VR ρ a a') (hy : VR ρ y y') (he : opAppend P t a y h k = some x) (ty : TypeId) :
 ∃ v' W', (Builtin.append_ #[t, t] ty #[a', y']).run P W = .ok v' W' ∧ Leads X N0 W0 ρ h.length k x v' W' := by
 unfold opAppend at he
 split at he
 case h_2 => cases he
 rename_i e hu
 split at he
 case h_2 => cases he
 rename_i s hes
 obtain ⟨ti, z, hti, hz, hzs, hsz, hby, he0, hts⟩ := elemT_some hes
 have hsrc := rowsOf_sound H hy he
 clear he
 cases a with
 | whole b =>
  rcases hsrc with ⟨hk, _⟩ | ⟨b2, i0, c2, inf2, ys, A, cc, hk, hc2, hi2, hyp, hysz, hfl2, hfit, hyl, rfl, hA⟩
  · simp only at hk
    split at hk
    · simp only [cond_eq_ite] at hk
      split at hk <;> cases hk
    · cases hk
  simp only at hk
  split at hk
  case h_2 => cases hk
  rename_i c hc
  simp only [cond_eq_ite, Bool.and_eq_true, Nat.beq_eq, Nat.ble_eq] at hk
  split at hk
  case isFalse => cases hk
  rename_i hcond
  obtain ⟨⟨⟨hw, hsl⟩, hel⟩, hss⟩ := hcond
  split at hk
  case h_2 => cases hk
  rename_i r hr
  split at hk
  case isFalse => cases hk
  rename_i hmax
  obtain ⟨inf, hi, ok⟩ := H.ok b c hc
  obtain ⟨inf', A1, n1, c1, hi', rfl, hv⟩ := ha.whole_inv
  rw [hi] at hi'
  cases hi'
  obtain ⟨hfl, _⟩ := ok.sl hsl
  have hz2 := ok.sz hfl
  obtain ⟨xs, hown, hxs, hxs1⟩ := owns_row ok hw hsl (by rw [hel]; exact he0)
  rw [hv, hel, hz2, ← hss, ← hts] at hown
  obtain ⟨inf2', hi2', ok2⟩ := H.ok b2 c2 hc2
  rw [hi2] at hi2'
  cases hi2'
  obtain ⟨news, g1, g2, g3, g4⟩ := gather ok2 hfl2 i0 ys.len hfit
  obtain ⟨r1, r2, r3, r4, r5, r6, r7, r8, r9⟩ := Rows.app_some b hr
  have hsz2 : inf2.sz = ti.size := by rw [← hysz, r3, ← hss, hts]
  obtain ⟨v', W', hrun, ho, hg, hfresh⟩ := append_run (P := P) W t ty e ti z hu hti hz hzs hsz hby _ c.rows.len xs hown A ys.len cc news (by rw [g1, hsz2]) (fun hm => ⟨_, hA hm, fun j u hj => by rw [add_off]; exact g2 j u hj⟩) g3 (by rw [← r4]; exact hmax)
  have hHk := H.kill b
  have hrl : r.list (h.set b none).length = c.rows.list b ++ ys.list b := (r8 _).trans r1
  have hob : ∀ g, blkE (Value.slice A1 n1 c1) = some g → inf.ph = false ∧ inf.m = g := by
   intro g hg'
   rcases ok.own hw hsl (by rw [hel]; exact he0) with ⟨_, A2, hv2⟩ | ⟨hp, _, cap, cur, hv2, _⟩
   · have : blkE (.slice A1 n1 c1) = none := by rw [← hv, hv2]; cases A2 <;> rfl
     rw [this] at hg'
     cases hg'
   · rw [hv] at hv2
     cases hv2
     have := blkE_own hg'
     cases this
     exact ⟨hp, rfl⟩
  have hfr : Fr X N0 W W' := ⟨hg.os, hg.tape, hg.output, hg.size, fun k hk hx => hg.block k (Nat.lt_of_lt_of_le hk H.n0) (fun e' => by
   have e' := e'.symm
   obtain ⟨h1, h2⟩ := hob k e'
   rcases H.own b c inf hc hw hi h1 with h3 | h3
   · exact hx (h2 ▸ h3)
   · omega)⟩
  have hother : ∀ b1 c1' i1, cellAt (h.set b none) b1 = some c1' → ρ b1 = some i1 → i1.ph = false → ∀ g, blkE (Value.slice A1 n1 c1) = some g → i1.m ≠ g := by
   intro b1 c1' i1 e1 h1 hp1 g hg'
   obtain ⟨hne, e1'⟩ := kill_old e1
   obtain ⟨h3, h4⟩ := hob g hg'
   exact fun e' => H.inj b c b1 c1' inf i1 hc hw e1' hne hi h1 h3 hp1 (h4.trans e'.symm)
  obtain ⟨infn, HN, hvn⟩ := HR.pushRow hHk (e := e) (size := ti.size) (v := v') (r := r) (xs := xs ++ news) hsz (by rw [r4]; exact ho)
   (by rw [hrl, List.flatten_append]; refine hxs.append ?_; rw [hyl b]; exact g4) (fun u hu' => by
    rcases List.mem_append.1 hu' with h' | h'
    · exact hxs1 u h'
    · exact g3 u h')
   (fun q hq => by
    rw [hrl] at hq
    rcases List.mem_append.1 hq with h' | h'
    · obtain ⟨i, hi⟩ := List.mem_iff_getElem?.1 h'
      rw [ok.row i q hi, hz2, ← hss, hts]
    · rw [hyl b] at h'
      obtain ⟨i, hi⟩ := List.mem_iff_getElem?.1 (List.mem_of_mem_drop (List.mem_of_mem_take h'))
      rw [ok2.row i q hi, hsz2])
   (app_plain hr) (by rw [r2, ← hss, hts]) hfr
   (fun k hk ⟨b1, c1', i1, e1, h1, hp1, hm1⟩ => hg.block k hk (fun e' => hother b1 c1' i1 e1 h1 hp1 k e'.symm hm1))
   (fun g hg' => ⟨by
    rcases hfresh g hg' with h' | h'
    · obtain ⟨h3, h4⟩ := hob g h'
      exact h4 ▸ H.own b c inf hc hw hi h3
    · exact .inr (Nat.le_trans H.n0 h'), fun b1 c1' i1 e1 h1 hp1 => by
    rcases hfresh g hg' with h' | h'
    · exact hother b1 c1' i1 e1 h1 hp1 g h'
    · have := hHk.lt b1 c1' i1 e1 h1 hp1
      omega⟩)
  have hlen : (h.set b none).length = h.length := by simp
  rw [hlen] at HN hvn
  exact ⟨v', W', hrun, _, _, _, hk, hvn, HN, agr_upd _ _, by simp⟩
 | nils =>
  cases ha
  rcases hsrc with ⟨hk, rfl⟩ | ⟨b2, i0, c2, inf2, ys, A, cc, hk, hc2, hi2, hyp, hysz, hfl2, hfit, hyl, rfl, hA⟩
  · exact ⟨_, W, run_append_zero W t ty e ti hu hti none 0 0 0 (Nat.le_refl _), Leads.same H hk .nils⟩
  simp only [cond_eq_ite, Nat.beq_eq, Nat.ble_eq] at hk
  split at hk
  case isFalse => cases hk
  rename_i hss
  split at hk
  case isFalse => cases hk
  rename_i hmax
  obtain ⟨inf2', hi2', ok2⟩ := H.ok b2 c2 hc2
  rw [hi2] at hi2'
  cases hi2'
  obtain ⟨news, g1, g2, g3, g4⟩ := gather ok2 hfl2 i0 ys.len hfit
  have hsz2 : inf2.sz = ti.size := by rw [← hysz, ← hss, hts]
  obtain ⟨v', W', hrun, ho, hg, hfresh⟩ := append_run (P := P) W t ty e ti z hu hti hz hzs hsz hby (.slice none 0 0) 0 [] (.inl ⟨by simp, .inl ⟨rfl, rfl⟩⟩) A ys.len cc news (by rw [g1, hsz2]) (fun hm => ⟨_, hA hm, fun j u hj => by rw [add_off]; exact g2 j u hj⟩) g3 (by omega)
  rw [Nat.zero_add, List.nil_append] at ho
  have hfr : Fr X N0 W W' := ⟨hg.os, hg.tape, hg.output, hg.size, fun k hk hx => hg.block k (Nat.lt_of_lt_of_le hk H.n0) (by simp [blkE])⟩
  obtain ⟨infn, HN, hvn⟩ := HR.pushRow H (e := e) (size := ti.size) (v := v') (r := ys) (xs := news) hsz ho (by rw [hyl]; exact g4) g3
   (fun q hq => by
    rw [hyl] at hq
    obtain ⟨i, hi⟩ := List.mem_iff_getElem?.1 (List.mem_of_mem_drop (List.mem_of_mem_take hq))
    rw [ok2.row i q hi, hsz2])
   hyp (by rw [hysz, hsz2]) hfr (fun k hk _ => hg.block k hk (by simp [blkE]))
   (fun g hg' => by
    rcases hfresh g hg' with h' | h'
    · simp [blkE] at h'
    · exact ⟨.inr (Nat.le_trans H.n0 h'), fun b1 c1' i1 e1 h1 hp1 => by have := H.lt b1 c1' i1 e1 h1 hp1; omega⟩)
  exact ⟨v', W', hrun, _, _, _, hk, hvn, HN, agr_upd _ _, by simp⟩
 | part b i n =>
  rcases hsrc with ⟨hk, _⟩ | ⟨b2, i0, c2, inf2, ys, A, cc, hk, hc2, hi2, hyp, hysz, hfl2, hfit, hyl, rfl, hA⟩
  · simp only at hk
    split at hk
    · rename_i h0
      cases h0
    · cases hk
  simp only at hk
  split at hk
  case h_2 => cases hk
  rename_i c ys' hc hys
  cases hys
  simp only [cond_eq_ite, Bool.and_eq_true, Nat.beq_eq, Nat.ble_eq] at hk
  split at hk
  case isFalse => cases hk
  rename_i hcond
  obtain ⟨⟨⟨hw, hsl⟩, hel⟩, hss⟩ := hcond
  split at hk
  case isFalse => cases hk
  rename_i hroom
  split at hk
  case h_2 => cases hk
  rename_i r hr
  obtain ⟨inf, hi, ok⟩ := H.ok b c hc
  obtain ⟨inf', A1, c1, hi', rfl, hcn, ⟨A0, l0, cap0, hv, hcap, hAc, hl0, hA00⟩, hA1⟩ := ha.part_inv
  rw [hi] at hi'
  cases hi'
  obtain ⟨hfl, A', cap', hv', hle, hA0⟩ := ok.sl hsl
  rw [hv] at hv'
  cases hv'
  have hz2 := ok.sz hfl
  obtain ⟨inf2', hi2', ok2⟩ := H.ok b2 c2 hc2
  rw [hi2] at hi2'
  cases hi2'
  obtain ⟨news, g1, g2, g3, g4⟩ := gather ok2 hfl2 i0 ys.len hfit
  obtain ⟨o1, o2, o3, o4, o5, o6⟩ := over_some b hr hroom
  have hsz2 : inf2.sz = ti.size := by rw [← hysz, o3, ← hss, hts]
  have hinf : inf.sz = ti.size := by rw [hz2, ← hss, hts]
  have hyall : ∀ q ∈ ys.list b, q.length = inf.sz := fun q hq => by
   rw [hyl] at hq
   obtain ⟨i, hi⟩ := List.mem_iff_getElem?.1 (List.mem_of_mem_drop (List.mem_of_mem_take hq))
   rw [ok2.row i q hi, hsz2, hinf]
  obtain ⟨HN, there, hfz⟩ := H.splice (p := i + n) (m := ys.len) (ins := ys.list b) (news := news) (t := r) hc hw hi o6 o5 (Rows.list_length b ys (rows_plain hyp).1) hroom o1 o2 o4 hyall (by rw [hyl]; exact g4) g3
  have hel' : (some (⟨true, true, c.nn, e, r⟩ : Cell)) = some ⟨c.wr, c.sl, c.nn, c.elem, r⟩ := by rw [hw, hsl, hel]
  rw [hel'] at hk
  have hvr : VR ρ (.part b i (n + ys.len)) (.slice A1 (n + ys.len) c1) := by
   refine .part hi (by omega) ⟨A0, _, cap0, hv, hcap, hAc, by omega, hA00⟩ fun h0 => ?_
   rw [hAc (by omega), hA0 (by omega)]
   simp [add_off]
  rcases Nat.eq_zero_or_pos ys.len with hm | hm
  · have hnil : news = [] := List.eq_nil_of_length_eq_zero (by rw [g1, hm]; simp)
    subst hnil
    have hrun : (Builtin.append_ #[t, t] ty #[.slice A1 n c1, .slice A ys.len cc]).run P W = .ok (.slice A1 (n + ys.len) c1) W := by
     rw [hm]
     cases A with
     | none => exact run_append_zero W t ty e ti hu hti A1 n c1 cc hcn
     | some a => cases A1 <;> simp [Builtin.append_, run_underlying hu, sizeOf, typeInfo, hti, Builtin.lenOf, hcn, Builtin.firstCells, loadCells, loadCellsFrom, run_storeNone]
    exact ⟨_, W, hrun, _, _, ρ, hk, hvr, HN, Agr.refl _ _, by simp⟩
  · have hApos : A1 = some ⟨inf.m, inf.base + i * inf.sz, none⟩ := by
     rw [hAc (by omega), hA0 (by omega)]
     simp [add_off]
    subst hApos
    have hne : news ≠ [] := by
     intro h0
     rw [h0, List.length_nil] at g1
     have := Nat.mul_pos hm (show 0 < inf2.sz by omega)
     omega
    obtain ⟨hp, hfz⟩ := hfz hne
    have hrun := run_append_room_cells (P := P) W t ty e ti hu hti inf.m (inf.base + i * inf.sz) n c1 ⟨inf2.m, inf2.base + i0 * inf2.sz, none⟩ ys.len cc news (by rw [g1, hsz2]) (fun j u hj => by rw [add_off]; exact g2 j u hj) g3 (by omega)
     (fun j hj => by have := there j hj; rw [Nat.add_mul, ← Nat.add_assoc] at this; rw [← hinf]; exact this) (fun j _ => hfz _)
    rw [← hA hm] at hrun
    refine ⟨_, _, hrun, _, _, ρ, hk, hvr, ?_, Agr.refl _ _, by simp⟩
    rw [Nat.add_mul, ← Nat.add_assoc, hinf] at HN
    rw [hinf]
    exact HN
 | _ =>
  rcases hsrc with ⟨hk, _⟩ | ⟨b2, i0, c2, inf2, ys, A, cc, hk, _⟩ <;> cases hk
theorem replRow_eq (z : List AV) : ∀ n, replRow z n = List.replicate n z
 | 0 => rfl
 | n + 1 => by rw [replRow, replRow_eq z n, List.replicate_succ]
theorem opClear_sound {t : TypeId} {a : AV} {a' : Value} {k : Heap → Option R} (H : HR X N0 W0 ρ h W) (ha : VR ρ a a') (he : opClear P t a h k = some x) (ty : TypeId) :
 ∃ h' W', (Builtin.clear_ #[t] ty #[a']).run P W = .ok (.tuple #[]) W' ∧ HR X N0 W0 ρ h' W' ∧ k h' = some x ∧ h'.length = h.length := by
 unfold opClear at he
 split at he
 case h_2 => cases he
 rename_i e b i n hu
 split at he
 case h_2 => cases he
 rename_i c z s hc hz hes
 obtain ⟨ti, zv, hti, hzv, hzs, hsz, hby, he0, hts⟩ := elemT_some hes
 simp only [cond_eq_ite, Bool.and_eq_true, Nat.beq_eq, Nat.ble_eq] at he
 split at he
 case isFalse => cases he
 rename_i hcond
 obtain ⟨⟨hw, hsl⟩, hss⟩ := hcond
 split at he
 case isFalse => cases he
 rename_i hfit
 split at he
 case h_2 => cases he
 rename_i r hr
 obtain ⟨inf, hi, ok⟩ := H.ok b c hc
 obtain ⟨inf', A1, c1, hi', rfl, hcn, _, hA1⟩ := ha.part_inv
 rw [hi] at hi'
 cases hi'
 obtain ⟨hfl, _⟩ := ok.sl hsl
 have hz2 := ok.sz hfl
 obtain ⟨o1, o2, o3, o4, o5, o6⟩ := zero_some b hr hfit
 obtain ⟨ti', zv', hti', hzv', hzr, hz1⟩ := zeroRow_some hz ρ
 rw [hti] at hti'
 cases hti'
 rw [hzv] at hzv'
 cases hzv'
 have hinf : inf.sz = ti.size := by rw [hz2, ← hss, hts]
 have hns := repl_cells (ρ := ρ) hzr o3 n
 rw [replRow_eq] at hns
 have hrs : c.rows.sz = zv.cells.size := by rw [← hss, ← hts, hzs]
 have h1 : ∀ u ∈ ((Array.range (n * c.rows.sz)).map (zv.cells[· % zv.cells.size]!)).toList, u.oneCell' = true := by
  intro u hu'
  simp only [Array.toList_map, Array.toList_range, List.mem_map, List.mem_range] at hu'
  obtain ⟨q, hq, rfl⟩ := hu'
  have hm := Nat.mod_lt q (show 0 < zv.cells.size by omega)
  rw [getElem!_pos zv.cells (q % zv.cells.size) hm]
  exact hz1 _ (by simp)
 obtain ⟨HN, there, hfz⟩ := H.splice (p := i) (m := n) (ins := List.replicate n z) (news := ((Array.range (n * c.rows.sz)).map (zv.cells[· % zv.cells.size]!)).toList) (t := r) hc hw hi o6 o5 (by simp) hfit o1 o2 o4
  (fun q hq => by rw [(List.mem_replicate.1 hq).2, o3, hz2]) hns h1
 rcases Nat.eq_zero_or_pos n with rfl | hn
 · refine ⟨_, W, ?_, ?_, he, by simp⟩
   · cases A1 <;> simp [Builtin.clear_, run_underlying hu]
   · simpa [World.setCells] using HN
 · have hA := hA1 hn
   subst hA
   have hne : ((Array.range (n * c.rows.sz)).map (zv.cells[· % zv.cells.size]!)).toList ≠ [] := by
    intro h0
    have hlen : ((Array.range (n * c.rows.sz)).map (zv.cells[· % zv.cells.size]!)).toList.length = n * c.rows.sz := by simp
    rw [h0, List.length_nil] at hlen
    have := Nat.mul_pos hn (show 0 < c.rows.sz by omega)
    omega
   obtain ⟨hp, hfz⟩ := hfz hne
   have hst := run_storeCells_cells (P := P) inf.m (inf.base + i * inf.sz) _ 0 W (fun j hj => by simpa using there j hj) (fun j _ => hfz _) h1
   refine ⟨_, _, ?_, HN, he, by simp⟩
   have hzc : (Builtin.zeroCells zv.cells n).toList = ((Array.range (n * c.rows.sz)).map (zv.cells[· % zv.cells.size]!)).toList := by rw [hrs]; rfl
   simp only [Nat.add_zero] at hst
   rw [← hzc] at hst ⊢
   obtain ⟨n', rfl⟩ : ∃ n', n = n' + 1 := ⟨n - 1, by omega⟩
   simp [Builtin.clear_, run_underlying hu, zeroValue, typeInfo, hti, hzv, hst]
end
end Go.Abs
