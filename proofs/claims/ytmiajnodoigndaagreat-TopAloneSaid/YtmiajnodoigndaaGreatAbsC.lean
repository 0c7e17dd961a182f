/- Own: A heap of one's own blocks beside a world: what holds, and that what code does keeps it. -/
import Derived.Test.YtmiajnodoigndaaGreatAbsB
namespace Go.Abs
open Go.RowKit
set_option linter.unusedVariables false
inductive MapR (ρ : Ren) (agg : Bool) : List MapEntry → List (Int × List AV) → Prop
 | nil : MapR ρ agg [] []
 | cons {e : MapEntry} {x : Int} {row : List AV} {es : List MapEntry} {l : List (Int × List AV)} (hk : e.key = .int .i64 x) (hv : VR ρ (valOf agg row) e.val) (hs : MapR ρ agg es l) : MapR ρ agg (e :: es) ((x, row) :: l)
theorem MapR.mono {ρ ρ' : Ren} {agg : Bool} (hf : Ext ρ ρ') : ∀ {es : List MapEntry} {l : List (Int × List AV)}, MapR ρ agg es l → MapR ρ' agg es l
 | _, _, .nil => .nil
 | _, _, .cons hk hv hs => .cons hk (hv.mono hf) (hs.mono hf)
def Rows.ents : Rows → Option (List (Int × List AV))
 | .mp c l => some (l.map fun x => (x.1, rowOf c x.2))
 | .mg l => some l
 | _ => none
structure CellOK (ρ : Ren) (W : World) (b : Nat) (c : Cell) (inf : BI) : Prop where
 sz : c.rows.flat = true → inf.sz = c.rows.sz
 ph : inf.ph = true → c.rows.len = 0 ∧ c.rows.flat = true
 row : ∀ (i : Nat) (row : List AV), (c.rows.list b)[i]? = some row → row.length = inf.sz
 cell : ∀ (i : Nat) (row : List AV) (j : Nat) (u : AV), (c.rows.list b)[i]? = some row → row[j]? = some u →
  ∃ u', W.cell? ⟨inf.m, inf.base + i * inf.sz + j, none⟩ = some u' ∧ VR ρ u u' ∧ u'.oneCell' = true
 wr : c.wr = true → inf.ph = false → inf.m < W.heap.size ∧ ∀ off, W.frozen? ⟨inf.m, off, none⟩ = false
 sl : c.sl = true → c.rows.flat = true ∧ ∃ A cap, inf.v = .slice A c.rows.len cap ∧ c.rows.len ≤ cap ∧ (0 < c.rows.len → A = some ⟨inf.m, inf.base, none⟩)
 nn : c.sl = true → c.nn = true → ∃ a n cap, inf.v = .slice (some a) n cap
 own : c.wr = true → c.sl = true → c.elem ≠ 0 → (inf.ph = true ∧ ∃ A, inf.v = .slice A 0 0) ∨ (inf.ph = false ∧ inf.base = 0 ∧ ∃ cap cur, inf.v = .slice (some ⟨inf.m, 0, none⟩) c.rows.len cap ∧
  W.heap[inf.m]? = some (.cells cur c.elem (0, 0)) ∧ c.rows.len ≤ cap ∧ cap ≤ maxLen ∧ cur.size = cap * inf.sz)
 mp : ∀ l, c.rows.ents = some l → inf.ph = false ∧ ∃ es clock, W.heap[inf.m]? = some (.map es clock) ∧ MapR ρ c.nn es.toList l
theorem World.block_lt {W : World} {a : Addr} {v : Value} (h : W.cell? a = some v) : a.block < W.heap.size := World.block_lt_of_cell? W a h
theorem ents_flat {r : Rows} {l : List (Int × List AV)} (h : r.ents = some l) : r.flat = false := by cases r <;> simp_all [Rows.ents, Rows.flat]
theorem CellOK.keep {ρ ρ' : Ren} {W W' : World} {b : Nat} {c : Cell} {inf : BI} (h : CellOK ρ W b c inf) (hρ : Ext ρ ρ') (hs : W.heap.size ≤ W'.heap.size)
 (hm : inf.ph = false → inf.m < W.heap.size → W'.heap[inf.m]? = W.heap[inf.m]?) : CellOK ρ' W' b c inf where
 sz := h.sz
 ph := h.ph
 row := h.row
 cell := fun i row j u hi hj => by
  obtain ⟨u', h1, h2, h3⟩ := h.cell i row j u hi hj
  have hp : inf.ph = false := by
   cases hp : inf.ph with
   | false => rfl
   | true =>
    obtain ⟨h0, hf⟩ := h.ph hp
    have := Rows.list_length b _ hf
    rw [h0] at this
    rw [List.eq_nil_of_length_eq_zero this] at hi
    simp at hi
  have hb := World.block_lt h1
  exact ⟨u', by rw [World.cell?_of_block (hm hp hb)]; exact h1, h2.mono hρ, h3⟩
 wr := fun hw hp => by
  obtain ⟨h1, h2⟩ := h.wr hw hp
  exact ⟨Nat.lt_of_lt_of_le h1 hs, fun off => by rw [World.frozen?_of_block (hm hp h1)]; exact h2 off⟩
 sl := h.sl
 nn := h.nn
 own := fun hw hsl he => by
  rcases h.own hw hsl he with h1 | ⟨h1, h2, cap, cur, h3, h4, h5⟩
  · exact .inl h1
  · exact .inr ⟨h1, h2, cap, cur, h3, (hm h1 (h.wr hw h1).1).trans h4, h5⟩
 mp := fun l hl => by
  obtain ⟨h1, es, clock, h2, h3⟩ := h.mp l hl
  have hlt : inf.m < W.heap.size := (Array.getElem?_eq_some_iff.1 h2).1
  exact ⟨h1, es, clock, (hm h1 hlt).trans h2, h3.mono hρ⟩
structure Fr (X : Nat → Prop) (N0 : Nat) (w w' : World) : Prop where
 os : w'.os = w.os
 tape : w'.tape = w.tape
 output : w'.output = w.output
 size : w.heap.size ≤ w'.heap.size
 block : ∀ k, k < N0 → ¬ X k → w'.heap[k]? = w.heap[k]?
theorem Fr.refl (X : Nat → Prop) (N0 : Nat) (w : World) : Fr X N0 w w := ⟨rfl, rfl, rfl, Nat.le_refl _, fun _ _ _ => rfl⟩
theorem Fr.trans {X : Nat → Prop} {N0 : Nat} {a b c : World} (h : Fr X N0 a b) (k : Fr X N0 b c) : Fr X N0 a c :=
 ⟨k.os.trans h.os, k.tape.trans h.tape, k.output.trans h.output, Nat.le_trans h.size k.size, fun i hi hx => (k.block i hi hx).trans (h.block i hi hx)⟩
theorem Fr.of_below {X : Nat → Prop} {N0 : Nat} {w w' : World} (h : Below w.heap.size w w') (hN : N0 ≤ w.heap.size) : Fr X N0 w w' :=
 ⟨h.os, h.tape, h.output, h.size, fun k hk _ => h.block k (Nat.lt_of_lt_of_le hk hN)⟩
theorem Fr.of_grown {X : Nat → Prop} {N0 : Nat} {w w' : World} {g : Nat} (h : w.grownBy w' (some g)) (hN : N0 ≤ w.heap.size) (hg : X g ∨ N0 ≤ g) : Fr X N0 w w' :=
 ⟨h.os, h.tape, h.output, h.size, fun k hk hx => h.block k (Nat.lt_of_lt_of_le hk hN) (fun e => by injection e with e; subst e; rcases hg with hg | hg; exact hx hg; omega)⟩
def Inner (X : Nat → Prop) (N0 : Nat) (W0 : World) (D : List Int) (v : Option Addr × Nat × Nat) : Prop :=
 v.2.1 = D.length ∧ D.length ≤ v.2.2 ∧ (0 < D.length → ∃ m o, v.1 = some ⟨m, o, none⟩ ∧ m < N0 ∧ ¬ X m ∧ ∀ (j : Nat) (d : Int), D[j]? = some d → W0.cell? ⟨m, o + j, none⟩ = some (.int .i64 d))
structure HR (X : Nat → Prop) (N0 : Nat) (W0 : World) (ρ : Ren) (h : Heap) (W : World) : Prop where
 ok : ∀ b c, cellAt h b = some c → ∃ inf, ρ b = some inf ∧ CellOK ρ W b c inf
 inj : ∀ b c b' c' inf inf', cellAt h b = some c → c.wr = true → cellAt h b' = some c' → b ≠ b' → ρ b = some inf → ρ b' = some inf' → inf.ph = false → inf'.ph = false → inf.m ≠ inf'.m
 own : ∀ b c inf, cellAt h b = some c → c.wr = true → ρ b = some inf → inf.ph = false → X inf.m ∨ N0 ≤ inf.m
 lt : ∀ b c inf, cellAt h b = some c → ρ b = some inf → inf.ph = false → inf.m < W.heap.size
 dom : ∀ b, h.length ≤ b → ρ b = none
 fr : Fr X N0 W0 W
 n0 : N0 ≤ W.heap.size
 inn : ∀ b c l inf, cellAt h b = some c → c.rows = .ops l → ρ b = some inf → ∀ (i : Nat) (x : OpD), l[i]? = some x → Inner X N0 W0 x.D (inf.inn i)
theorem cellAt_lt {h : Heap} {b : Nat} {c : Cell} (e : cellAt h b = some c) : b < h.length := by
 unfold cellAt at e
 split at e
 · rename_i c' hb
   exact (List.getElem?_eq_some_iff.1 hb).1
 · cases e
theorem cellAt_append_left {h t : Heap} {b : Nat} (hb : b < h.length) : cellAt (h ++ t) b = cellAt h b := by simp [cellAt, List.getElem?_append_left hb]
theorem cellAt_append_right {h t : Heap} {b : Nat} (hb : h.length ≤ b) : cellAt (h ++ t) b = cellAt t (b - h.length) := by simp [cellAt, List.getElem?_append_right hb]
theorem cellAt_new (h : Heap) (c : Cell) : cellAt (h ++ [some c]) h.length = some c := by simp [cellAt]
theorem cellAt_set_same {h : Heap} {b : Nat} {o : Option Cell} (hb : b < h.length) : cellAt (h.set b o) b = o := by
 cases o <;> simp [cellAt, hb]
theorem cellAt_set_other {h : Heap} {b b' : Nat} {o : Option Cell} (hne : b ≠ b') : cellAt (h.set b o) b' = cellAt h b' := by simp [cellAt, List.getElem?_set_ne hne]
theorem cellAt_mem {h : Heap} {b : Nat} {c : Cell} (e : cellAt h b = some c) : h[b]? = some (some c) := by
 unfold cellAt at e
 split at e
 · rename_i c' hb
   cases e
   exact hb
 · cases e
section
variable {X : Nat → Prop} {N0 : Nat} {W0 W W' : World} {ρ : Ren} {h : Heap}
theorem HR.world (H : HR X N0 W0 ρ h W) (hf : Fr X N0 W W') (hb : ∀ k, k < W.heap.size → (∃ b c inf, cellAt h b = some c ∧ ρ b = some inf ∧ inf.ph = false ∧ inf.m = k) → W'.heap[k]? = W.heap[k]?) : HR X N0 W0 ρ h W' where
 ok := fun b c e => by
  obtain ⟨inf, hi, ho⟩ := H.ok b c e
  exact ⟨inf, hi, ho.keep (Ext.refl _) hf.size fun hp hl => hb _ hl ⟨b, c, inf, e, hi, hp, rfl⟩⟩
 inj := H.inj
 own := H.own
 lt := fun b c inf e hi hp => Nat.lt_of_lt_of_le (H.lt b c inf e hi hp) hf.size
 dom := H.dom
 fr := H.fr.trans hf
 n0 := Nat.le_trans H.n0 hf.size
 inn := H.inn
theorem HR.below (H : HR X N0 W0 ρ h W) (hb : Below W.heap.size W W') : HR X N0 W0 ρ h W' :=
 H.world (Fr.of_below hb H.n0) fun k hk _ => hb.block k hk
theorem HR.drew (H : HR X N0 W0 ρ h W) : HR X N0 W0 ρ h W.drew := H.below (Below.refl _ _).drew
def upd (ρ : Ren) (b : Nat) (inf : BI) : Ren := fun b' => if b' = b then some inf else ρ b'
theorem upd_same (ρ : Ren) (b : Nat) (inf : BI) : upd ρ b inf b = some inf := by simp [upd]
theorem upd_other {ρ : Ren} {b b' : Nat} {inf : BI} (h : b' ≠ b) : upd ρ b inf b' = ρ b' := by simp [upd, h]
theorem HR.ext_upd (H : HR X N0 W0 ρ h W) (inf : BI) : Ext ρ (upd ρ h.length inf) := fun b i e => by
 rw [upd_other]
 · exact e
 · rintro rfl
   rw [H.dom h.length (Nat.le_refl _)] at e
   cases e
theorem HR.push (H : HR X N0 W0 ρ h W) {c : Cell} {inf : BI} (hf : Fr X N0 W W')
 (hb : ∀ k, k < W.heap.size → (∃ b c inf, cellAt h b = some c ∧ ρ b = some inf ∧ inf.ph = false ∧ inf.m = k) → W'.heap[k]? = W.heap[k]?)
 (hc : CellOK (upd ρ h.length inf) W' h.length c inf) (hin : ∀ l, c.rows = .ops l → ∀ (i : Nat) (x : OpD), l[i]? = some x → Inner X N0 W0 x.D (inf.inn i)) (hn : inf.ph = false → (X inf.m ∨ N0 ≤ inf.m) ∧ inf.m < W'.heap.size ∧ ∀ b c' i, cellAt h b = some c' → ρ b = some i → i.ph = false → i.m ≠ inf.m) :
 HR X N0 W0 (upd ρ h.length inf) (h ++ [some c]) W' := by
 have H' := H.world hf hb
 have hx := H.ext_upd inf
 have old : ∀ b c', cellAt (h ++ [some c]) b = some c' → (b < h.length ∧ cellAt h b = some c' ∧ upd ρ h.length inf b = ρ b) ∨ (b = h.length ∧ c' = c) := by
  intro b c' e
  have hl := cellAt_lt e
  simp at hl
  rcases Nat.lt_or_ge b h.length with hb' | hb'
  · rw [cellAt_append_left hb'] at e
    exact .inl ⟨hb', e, upd_other (by omega)⟩
  · have : b = h.length := by omega
    subst this
    rw [cellAt_new] at e
    exact .inr ⟨rfl, (Option.some.inj e).symm⟩
 refine ⟨?_, ?_, ?_, ?_, ?_, H'.fr, H'.n0, ?_⟩
 · intro b c' e
   rcases old b c' e with ⟨_, e', hu⟩ | ⟨rfl, rfl⟩
   · obtain ⟨i, hi, ho⟩ := H'.ok b c' e'
     exact ⟨i, hu.trans hi, ho.keep hx (Nat.le_refl _) (fun _ _ => rfl)⟩
   · exact ⟨inf, upd_same _ _ _, hc⟩
 · intro b c1 b' c2 i i' e1 hw e2 hne h1 h2 hp hp'
   rcases old b c1 e1 with ⟨_, e1', hu1⟩ | ⟨rfl, rfl⟩
   · rw [hu1] at h1
     rcases old b' c2 e2 with ⟨_, e2', hu2⟩ | ⟨rfl, rfl⟩
     · rw [hu2] at h2
       exact H.inj b c1 b' c2 i i' e1' hw e2' hne h1 h2 hp hp'
     · rw [upd_same] at h2
       cases h2
       exact (hn hp').2.2 b c1 i e1' h1 hp
   · rw [upd_same] at h1
     cases h1
     rcases old b' c2 e2 with ⟨_, e2', hu2⟩ | ⟨rfl, rfl⟩
     · rw [hu2] at h2
       exact fun e => (hn hp).2.2 b' c2 i' e2' h2 hp' e.symm
     · exact absurd rfl hne
 · intro b c1 i e1 hw h1 hp
   rcases old b c1 e1 with ⟨_, e1', hu1⟩ | ⟨rfl, rfl⟩
   · rw [hu1] at h1
     exact H.own b c1 i e1' hw h1 hp
   · rw [upd_same] at h1
     cases h1
     exact (hn hp).1
 · intro b c1 i e1 h1 hp
   rcases old b c1 e1 with ⟨_, e1', hu1⟩ | ⟨rfl, rfl⟩
   · rw [hu1] at h1
     exact H'.lt b c1 i e1' h1 hp
   · rw [upd_same] at h1
     cases h1
     exact (hn hp).2.1
 · intro b hb'
   simp at hb'
   rw [upd_other (by omega)]
   exact H.dom b (by omega)
 · intro b c1 l i e1 hl h1
   rcases old b c1 e1 with ⟨_, e1', hu1⟩ | ⟨rfl, rfl⟩
   · rw [hu1] at h1
     exact H.inn b c1 l i e1' hl h1
   · rw [upd_same] at h1
     cases h1
     exact hin l hl
theorem HR.kill (H : HR X N0 W0 ρ h W) (b0 : Nat) : HR X N0 W0 ρ (h.set b0 none) W := by
 have old : ∀ b c, cellAt (h.set b0 none) b = some c → cellAt h b = some c := by
  intro b c e
  by_cases hb : b0 = b
  · subst hb
    have hl := cellAt_lt e
    simp at hl
    rw [cellAt_set_same hl] at e
    cases e
  · rwa [cellAt_set_other hb] at e
 exact ⟨fun b c e => H.ok b c (old b c e), fun b c b' c' i i' e hw e' => H.inj b c b' c' i i' (old _ _ e) hw (old _ _ e'), fun b c i e => H.own b c i (old _ _ e),
  fun b c i e => H.lt b c i (old _ _ e), fun b hb => H.dom b (by simpa using hb), H.fr, H.n0, fun b c l i e => H.inn b c l i (old _ _ e)⟩
end
def Agr (n : Nat) (ρ ρ' : Ren) : Prop := ∀ b, b < n → ρ' b = ρ b
theorem Agr.refl (n : Nat) (ρ : Ren) : Agr n ρ ρ := fun _ _ => rfl
theorem Agr.trans {n n' : Nat} {a b c : Ren} (h : Agr n a b) (h' : Agr n' b c) (hn : n ≤ n') : Agr n a c := fun i hi => (h' i (Nat.lt_of_lt_of_le hi hn)).trans (h i hi)
theorem HR.ext {X : Nat → Prop} {N0 : Nat} {W0 W : World} {ρ ρ' : Ren} {h : Heap} (H : HR X N0 W0 ρ h W) (ha : Agr h.length ρ ρ') : Ext ρ ρ' := fun b inf e => by
 rcases Nat.lt_or_ge b h.length with hb | hb
 · rw [ha b hb]; exact e
 · rw [H.dom b hb] at e; cases e
theorem agr_upd {n : Nat} (ρ : Ren) (inf : BI) : Agr n ρ (upd ρ n inf) := fun b hb => upd_other (by omega)
def Leads {R : Type} (X : Nat → Prop) (N0 : Nat) (W0 : World) (ρ : Ren) (n : Nat) (k : AV → Heap → Option R) (x : R) (v' : Value) (W' : World) : Prop :=
 ∃ v h' ρ', k v h' = some x ∧ VR ρ' v v' ∧ HR X N0 W0 ρ' h' W' ∧ Agr n ρ ρ' ∧ n ≤ h'.length
section ops
variable {P : Program} {X : Nat → Prop} {N0 : Nat} {W0 W : World} {ρ : Ren} {h : Heap} {R : Type} {x : R}
theorem Leads.same {k : AV → Heap → Option R} {v : AV} {v' : Value} (H : HR X N0 W0 ρ h W) (hk : k v h = some x) (hv : VR ρ v v') : Leads X N0 W0 ρ h.length k x v' W :=
 ⟨v, h, ρ, hk, hv, H, Agr.refl _ _, Nat.le_refl _⟩
theorem add_off (m o n : Nat) : (⟨m, o, none⟩ : Addr).add n = ⟨m, o + n, none⟩ := by
 unfold Addr.add
 split
 · subst_vars; rfl
 · rfl
theorem isAggT_run {t : TypeId} {d : TypeDesc} (hu : P.underlying t = some d) (W : World) : (isAgg t).run P W = .ok (isAggT P t) W := by
 unfold isAggT isAgg
 cases d <;> simp [run_underlying hu, hu]
theorem opLoad_sound {t : TypeId} {a : AV} {a' : Value} {k : AV → Option R} (H : HR X N0 W0 ρ h W) (ha : VR ρ a a') (he : opLoad P t a h k = some x) :
 ∃ v v', (Instr.loadAt t a').run P W = .ok v' W ∧ VR ρ v v' ∧ k v = some x := by
 unfold opLoad at he
 split at he
 case h_2 => cases he
 rename_i b i o
 split at he
 case h_1 => cases he
 rename_i c hc
 have hu : ∃ d, P.underlying t = some d := by
  cases hu : P.underlying t with
  | none => rw [hu] at he; cases he
  | some d => exact ⟨d, rfl⟩
 obtain ⟨d, hu⟩ := hu
 rw [hu] at he
 obtain ⟨row, hrow, he⟩ := Rows.get_some (show c.rows.get b i _ = some x from he)
 obtain ⟨inf, hi, ok⟩ := H.ok b c hc
 cases ha
 rename_i inf' hi'
 rw [hi] at hi'
 cases hi'
 have hag := isAggT_run hu W
 have hl := ok.row i row hrow
 cases hA : isAggT P t with
 | true =>
  rw [hA] at he hag
  simp only [sizeT] at he
  cases hs : P.info? t with
  | none => rw [hs] at he; cases he
  | some ti =>
   rw [hs] at he
   simp only [cond_eq_ite, Nat.ble_eq] at he
   split at he
   case isFalse => cases he
   rename_i hle
   have cells : ∀ j u, ((row.drop o).take ti.size)[j]? = some u → ∃ u', W.cell? ⟨inf.m, inf.base + i * inf.sz + o + j, none⟩ = some u' ∧ VR ρ u u' ∧ u'.oneCell' = true := by
    intro j u hj
    rw [List.getElem?_take] at hj
    split at hj
    case isFalse => cases hj
    rw [List.getElem?_drop] at hj
    obtain ⟨u', h1, h2, h3⟩ := ok.cell i row (o + j) u hrow hj
    exact ⟨u', by rw [← h1]; congr 2; omega, h2, h3⟩
   have hlen : ((row.drop o).take ti.size).length = ti.size := by simp; omega
   let f : Nat → Value := fun j => (W.cell? ⟨inf.m, inf.base + i * inf.sz + o + j, none⟩).getD undef
   have hf : ∀ j, j < ti.size → W.cell? ((⟨inf.m, inf.base + i * inf.sz + o, none⟩ : Addr).add j) = some (f j) := by
    intro j hj
    have hj' : j < ((row.drop o).take ti.size).length := by omega
    obtain ⟨u', h1, _⟩ := cells j _ (List.getElem?_eq_getElem hj')
    rw [add_off, h1]
    simp [f, h1]
   have hr := run_loadCells (P := P) W ⟨inf.m, inf.base + i * inf.sz + o, none⟩ ti.size f hf
   refine ⟨_, .agg ((List.range ti.size).map f).toArray, ?_, ?_, he⟩
   · simp only [Instr.loadAt, Instr.sureAddr, loadVar]
     simp [hag, sizeOf, typeInfo, hs, hr]
   · refine .agg (VRs.of_get (by simp; omega) fun j v v' hv hv' => ?_) fun u hu' => ?_
     · obtain ⟨u', h1, h2, _⟩ := cells j v hv
       have hj : j < ti.size := by
        have := (List.getElem?_eq_some_iff.1 hv).1
        omega
       rw [List.getElem?_map, List.getElem?_range hj] at hv'
       simp only [Option.map_some, Option.some.injEq] at hv'
       subst hv'
       simpa [f, h1] using h2
     · obtain ⟨j, hj, rfl⟩ := List.mem_map.1 hu'
       have hj := List.mem_range.1 hj
       have hj' : j < ((row.drop o).take ti.size).length := by omega
       obtain ⟨u', h1, _, h3⟩ := cells j _ (List.getElem?_eq_getElem hj')
       simpa [f, h1] using h3
 | false =>
  rw [hA] at he hag
  simp only at he
  split at he
  case h_2 => cases he
  rename_i v hv
  obtain ⟨u', h1, h2, _⟩ := ok.cell i row o v hrow hv
  refine ⟨v, u', ?_, h2, he⟩
  simp only [Instr.loadAt, Instr.sureAddr, loadVar]
  simp [hag, h1]
end ops
end Go.Abs
