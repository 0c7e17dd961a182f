/- Own: Contracts: what is told of results is handed to the caller; a call by what is known of the function. -/
import Derived.Test.YtmiajnodoigndaaGreatAbsT
namespace Go.Abs
open Go.RowKit
set_option linter.unusedVariables false
def Fresh (ρ : Ren) (hc : Heap) (ρ2 : Ren) (h2 : Heap) (used : List Nat) : Prop := ∀ b c i, cellAt hc b = some c → ρ b = some i → i.ph = false → ∀ b2 c2 i2, cellAt h2 b2 = some c2 → c2.wr = true → memB b2 used = false → ρ2 b2 = some i2 → i2.ph = false → i.m ≠ i2.m
def Hands (X : Nat → Prop) (N0 : Nat) (W0 W : World) (ρ2 : Ren) (h2 : Heap) (u u' : List Nat) (hand : Nat → List AV × Heap) (vs' : List Value) : Prop :=
  (∀ b, memB b u' = true → memB b u = true ∨ ∃ c, cellAt h2 b = some c ∧ c.sl = true) ∧ ∀ ρ hc, HR X N0 W0 ρ hc W → Fresh ρ hc ρ2 h2 u → ∃ ρ', HR X N0 W0 ρ' (hc ++ (hand hc.length).2) W ∧ Agr hc.length ρ ρ' ∧ VRs ρ' (hand hc.length).1 vs' ∧ Fresh ρ' (hc ++ (hand hc.length).2) ρ2 h2 u'
section
variable {X O : Nat → Prop} {N0 Nc : Nat} {W0 Wc W : World} {ρ2 : Ren} {h2 : Heap} {R : Type} {x : R}
theorem VRs.agr {X : Nat → Prop} {N0 : Nat} {W0 W : World} {ρ ρ' : Ren} {h : Heap} {l : List AV} {l' : List Value} (hv : VRs ρ l l') (H : HR X N0 W0 ρ h W) (ha : Agr h.length ρ ρ') : VRs ρ' l l' := hv.mono (H.ext ha)
theorem Hands.nil {u : List Nat} : Hands X N0 W0 W ρ2 h2 u u (fun _ => ([], [])) [] := ⟨fun _ h => .inl h, fun ρ hc H F => ⟨ρ, by simpa using H, Agr.refl _ _, .nil, by simpa using F⟩⟩
theorem Hands.plain {u : List Nat} {v : AV} {v' : Value} (h : ∀ ρ, VR ρ v v') : Hands X N0 W0 W ρ2 h2 u u (fun _ => ([v], [])) [v'] := ⟨fun _ h => .inl h, fun ρ hc H F => ⟨ρ, by simpa using H, Agr.refl _ _, .cons (h ρ) .nil, by simpa using F⟩⟩
theorem Hands.append {u u1 u2 : List Nat} {f g : Nat → List AV × Heap} {vs' ws' : List Value} (hf : Hands X N0 W0 W ρ2 h2 u u1 f vs') (hg : Hands X N0 W0 W ρ2 h2 u1 u2 g ws') :
    Hands X N0 W0 W ρ2 h2 u u2 (fun n => ((f n).1 ++ (g (n + (f n).2.length)).1, (f n).2 ++ (g (n + (f n).2.length)).2)) (vs' ++ ws') := ⟨fun b h => (hg.1 b h).elim (fun h => hf.1 b h) .inr, fun ρ hc H F => by
  obtain ⟨ρ1, H1, a1, v1, F1⟩ := hf.2 ρ hc H F
  obtain ⟨ρ3, H3, a3, v3, F3⟩ := hg.2 ρ1 _ H1 F1
  rw [List.append_assoc] at H3 F3
  rw [List.length_append] at H3 a3 v3 F3
  exact ⟨ρ3, H3, a1.trans a3 (by omega), (v1.mono (H1.ext (by rw [List.length_append]; exact a3))).append v3, F3⟩⟩
theorem Hands.row (H2 : HR O Nc Wc ρ2 h2 W) (hX : ∀ m, O m ∨ Nc ≤ m → X m ∨ N0 ≤ m) {u : List Nat} {b : Nat} {c2 : Cell} {inf inf' : BI} (hc2 : cellAt h2 b = some c2) (hw : c2.wr = true) (hsl : c2.sl = true) (hu : memB b u = false) (hi : ρ2 b = some inf) {c : Cell} {v' : Value}
    (hph : inf'.ph = false → inf.ph = false ∧ inf'.m = inf.m) (hok : ∀ ρ n, ρ n = some inf' → CellOK ρ W n c inf') (hops : ∀ l, c.rows ≠ .ops l) (hv : ∀ ρ n, ρ n = some inf' → VR ρ (.whole n) v') :
    Hands X N0 W0 W ρ2 h2 u (b :: u) (fun n => ([.whole n], [some c])) [v'] := by
  refine ⟨fun b' h => ?_, fun ρ hc H F => ?_⟩
  · simp only [memB, cond_eq_ite] at h
    split at h
    · rename_i hq
      have := beq_eq hq
      subst this
      exact .inr ⟨c2, hc2, hsl⟩
    · exact .inl h
  refine ⟨upd ρ hc.length inf', ?_, agr_upd _ _, .cons (hv _ _ (upd_same _ _ _)) .nil, ?_⟩
  · refine H.push (Fr.refl _ _ _) (fun _ _ _ => rfl) (hok _ _ (upd_same _ _ _)) (fun l hl => absurd hl (hops l)) fun hp => ?_
    obtain ⟨hp2, hm⟩ := hph hp
    rw [hm]
    exact ⟨hX _ (H2.own b c2 inf hc2 hw hi hp2), H2.lt b c2 inf hc2 hi hp2, fun b' c' i e hi' hp' => F b' c' i e hi' hp' b c2 inf hc2 hw hu hi hp2⟩
  · intro b1 c1 i1 e1 r1 p1 b3 c3 i3 e3 w3 m3 r3 p3
    have hl := cellAt_lt e1
    simp at hl
    have hm3 : b3 ≠ b ∧ memB b3 u = false := by
      simp only [memB, cond_eq_ite] at m3
      split at m3
      · cases m3
      · rename_i hne
        exact ⟨fun e => hne (by rw [e]; simp), m3⟩
    rcases Nat.lt_or_ge b1 hc.length with hb | hb
    · rw [cellAt_append_left hb] at e1
      rw [upd_other (by omega)] at r1
      exact F b1 c1 i1 e1 r1 p1 b3 c3 i3 e3 w3 hm3.2 r3 p3
    · have : b1 = hc.length := by omega
      subst this
      rw [upd_same] at r1
      cases r1
      obtain ⟨hp2, hm⟩ := hph p1
      rw [hm]
      exact H2.inj b c2 b3 c3 inf i3 hc2 hw e3 (Ne.symm hm3.1) hi r3 hp2 p3
theorem Hands.empty {u : List Nat} (c : TC) (e : TypeId) : Hands X N0 W0 W ρ2 h2 u u (fun n => ([.whole n], [some ⟨true, true, false, e, .typ c []⟩])) [.slice none 0 0] := by
  refine ⟨fun _ h => .inl h, fun ρ hc H F => ?_⟩
  refine ⟨upd ρ hc.length (phant c), H.phant c e, agr_upd _ _, .cons (.whole (upd_same _ _ _) rfl) .nil, ?_⟩
  intro b1 c1 i1 e1 r1 p1 b3 c3 i3 e3 w3 m3 r3 p3
  have hl := cellAt_lt e1
  simp at hl
  rcases Nat.lt_or_ge b1 hc.length with hb | hb
  · rw [cellAt_append_left hb] at e1
    rw [upd_other (by omega)] at r1
    exact F b1 c1 i1 e1 r1 p1 b3 c3 i3 e3 w3 m3 r3 p3
  · have : b1 = hc.length := by omega
    subst this
    rw [upd_same] at r1
    cases r1
    cases p1
theorem notMem {b : Nat} {u : List Nat} (h : (!memB b u) = true) : memB b u = false := by
  cases hq : memB b u with
  | false => rfl
  | true => rw [hq] at h; cases h
theorem CellOK.typ {ρ ρ' : Ren} {b n : Nat} {c : TC} {l : List (El c)} {wr sl nn nn' : Bool} {e e' : TypeId} {inf : BI} (ok : CellOK ρ W b ⟨wr, sl, nn, e, .typ c l⟩ inf) (hn : nn' = true → nn = true) (he : e' ≠ 0 → e' = e) : CellOK ρ' W n ⟨wr, sl, nn', e', .typ c l⟩ inf where
  sz := ok.sz
  ph := ok.ph
  row := ok.row
  cell := fun i row j u hi hj => by
    simp only [Rows.list, List.getElem?_map, Option.map_eq_some_iff] at hi
    obtain ⟨y, k1, rfl⟩ := hi
    obtain ⟨u', k2, k3, k4⟩ := typ_cell ok k1 hj
    have hs : inf.sz = width c := ok.sz rfl
    exact ⟨u', by rw [hs]; exact k2, k3 ρ', k4⟩
  wr := ok.wr
  sl := ok.sl
  nn := fun h1 h2 => ok.nn h1 (hn h2)
  own := fun h1 h2 h3 => by
    have := he h3
    subst this
    exact ok.own h1 h2 h3
  mp := fun l h => by cases h
theorem CellOK.typ_part {ρ ρ' : Ren} {b n i m : Nat} {c : TC} {l : List (El c)} {nn : Bool} {e : TypeId} {inf : BI} {A : Option Addr} {cap : Nat} (ok : CellOK ρ W b ⟨true, true, nn, e, .typ c l⟩ inf) (him : i + m ≤ l.length) (hm : m ≤ cap) (hA : 0 < m → A = some ⟨inf.m, inf.base + i * inf.sz, none⟩) :
    CellOK ρ' W n ⟨true, true, false, 0, .typ c ((l.drop i).take m)⟩ ⟨inf.m, inf.base + i * inf.sz, inf.sz, inf.ph, .slice A m cap, inf.inn⟩ where
  sz := fun _ => ok.sz rfl
  ph := fun h => by
    have := (ok.ph h).1
    simp only [Rows.len] at this ⊢
    exact ⟨by simp; omega, rfl⟩
  row := fun i row hi => by
    simp only [Rows.list, List.getElem?_map, Option.map_eq_some_iff] at hi
    obtain ⟨y, k1, rfl⟩ := hi
    exact (rowOf_length c y).trans (ok.sz rfl).symm
  cell := fun i' row j u hi hj => by
    simp only [Rows.list, List.getElem?_map, Option.map_eq_some_iff] at hi
    obtain ⟨y, k1, rfl⟩ := hi
    rw [List.getElem?_take] at k1
    split at k1
    case isFalse => cases k1
    rw [List.getElem?_drop] at k1
    obtain ⟨u', k2, k3, k4⟩ := typ_cell ok k1 hj
    have hs : inf.sz = width c := ok.sz rfl
    refine ⟨u', ?_, k3 ρ', k4⟩
    rw [← k2, hs, Nat.add_mul]
    simp only
    congr 2
    omega
  wr := fun h hp => ok.wr h hp
  sl := fun _ => by
    have hl : ((l.drop i).take m).length = m := by simp; omega
    exact ⟨rfl, A, cap, by simp only [Rows.len]; rw [hl], by simp only [Rows.len]; rw [hl]; exact hm, fun h => hA (by simp only [Rows.len] at h; rw [hl] at h; exact h)⟩
  nn := fun _ h => by cases h
  own := fun _ _ h => absurd rfl h
  mp := fun l h => by cases h
theorem CellOK.typ_take {ρ ρ' : Ren} {b n m : Nat} {c : TC} {l : List (El c)} {nn : Bool} {e : TypeId} {inf : BI} {A : Option Addr} {cap : Nat} (ok : CellOK ρ W b ⟨true, true, nn, e, .typ c l⟩ inf) (him : m ≤ l.length) (hm : m ≤ cap) (hA : 0 < m → A = some ⟨inf.m, inf.base, none⟩)
    (hv : ∃ l0, inf.v = .slice A l0 cap) : CellOK ρ' W n ⟨true, true, false, e, .typ c (l.take m)⟩ ⟨inf.m, inf.base, inf.sz, inf.ph, .slice A m cap, inf.inn⟩ := by
  have := ok.typ_part (ρ' := ρ') (n := n) (i := 0) (m := m) (A := A) (cap := cap) (by omega) hm (by simpa using hA)
  simp only [List.drop_zero, Nat.zero_mul, Nat.add_zero] at this
  refine ⟨this.sz, this.ph, this.row, this.cell, this.wr, this.sl, this.nn, fun h1 h2 h3 => ?_, this.mp⟩
  have hl : (l.take m).length = m := by simp; omega
  obtain ⟨l0, hv⟩ := hv
  rcases ok.own rfl rfl h3 with ⟨hp, A0, hv0⟩ | ⟨hp, hb, cap0, cur, hv0, k1, k2, k3, k4⟩
  · rw [hv0] at hv
    cases hv
    have : m = 0 := by omega
    subst this
    exact .inl ⟨hp, _, rfl⟩
  · rw [hv0] at hv
    cases hv
    refine .inr ⟨hp, hb, cap, cur, ?_, k1, ?_, k3, k4⟩
    · simp only [Rows.len]; rw [hl]
    · simp only [Rows.len]; rw [hl]; exact hm
theorem tellC_hand (H2 : HR O Nc Wc ρ2 h2 W) (hX : ∀ m, O m ∨ Nc ≤ m → X m ∨ N0 ≤ m) {c : RC} {v : AV} {v' : Value} {u : List Nat} {k : c.D → List Nat → Option R} (hv : VR ρ2 v v') (he : tellC c v h2 u k = some x) :
    ∃ d u', k d u' = some x ∧ Hands X N0 W0 W ρ2 h2 u u' (fun n => ([(handC c d n).1], (handC c d n).2)) [v'] := by
  unfold tellC at he
  split at he
  · exact ⟨_, _, he, .plain fun ρ => hv.plain rfl ρ⟩
  · exact ⟨_, _, he, .plain fun ρ => hv.plain rfl ρ⟩
  · exact ⟨_, _, he, .plain fun ρ => hv.plain rfl ρ⟩
  · rename_i c e b k
    split at he
    case h_2 => cases he
    rename_i nn e' c' l hc
    simp only [cond_eq_ite, Bool.and_eq_true] at he
    split at he
    case isFalse => cases he
    rename_i hq
    split at he
    case isFalse => cases he
    rename_i heq
    subst heq
    have := beq_eq hq.1
    subst this
    obtain ⟨inf, hi, ok⟩ := H2.ok _ _ hc
    refine ⟨_, _, he, .row H2 hX hc rfl rfl (notMem hq.2) hi (inf' := inf) (fun hp => ⟨hp, rfl⟩) (fun ρ n h => ok.typ (fun h => by cases h) (fun _ => rfl)) (fun l h => by cases h) fun ρ n h => ?_⟩
    obtain ⟨inf2, A, a1, a2, k1, rfl, k2⟩ := hv.whole_inv
    rw [hi] at k1
    cases k1
    exact .whole h k2
  · rename_i c e b m k
    split at he
    case h_2 => cases he
    rename_i nn e' c' l hc
    simp only [cond_eq_ite, Bool.and_eq_true, Nat.ble_eq] at he
    split at he
    case isFalse => cases he
    rename_i hq
    split at he
    case isFalse => cases he
    rename_i heq
    subst heq
    have := beq_eq hq.1
    subst this
    obtain ⟨inf, hi, ok⟩ := H2.ok _ _ hc
    obtain ⟨inf2, A, cap, k1, rfl, hcn, ⟨A0, l0, cap0, hv0, hcap, hAc, hl0, hA00⟩, hA⟩ := hv.part_inv
    rw [hi] at k1
    cases k1
    have hA0 := hA00 rfl
    subst hA0
    have hcc : cap = cap0 := by omega
    subst hcc
    refine ⟨_, _, he, .row H2 hX hc rfl rfl (notMem hq.2.1) hi (inf' := ⟨inf.m, inf.base, inf.sz, inf.ph, .slice A m cap, inf.inn⟩) (fun hp => ⟨hp, rfl⟩) (fun ρ n h => ok.typ_take hq.2.2 hcn (fun h => by simpa using hA h) ⟨l0, hv0⟩) (fun l h => by cases h) fun ρ n h => .whole h rfl⟩
  · cases hv
    exact ⟨_, _, he, .empty _ _⟩
  · rename_i c b k
    split at he
    case h_2 => cases he
    rename_i nn e' c' l hc
    simp only [cond_eq_ite] at he
    split at he
    case isFalse => cases he
    rename_i hq
    split at he
    case isFalse => cases he
    rename_i heq
    subst heq
    obtain ⟨inf, hi, ok⟩ := H2.ok _ _ hc
    refine ⟨_, _, he, .row H2 hX hc rfl rfl (notMem hq) hi (inf' := inf) (fun hp => ⟨hp, rfl⟩) (fun ρ n h => ok.typ (fun h => by cases h) (fun h => absurd rfl h)) (fun l h => by cases h) fun ρ n h => ?_⟩
    obtain ⟨inf2, A, a1, a2, k1, rfl, k2⟩ := hv.whole_inv
    rw [hi] at k1
    cases k1
    exact .whole h k2
  · rename_i c b i m k
    split at he
    case h_2 => cases he
    rename_i nn e' c' l hc
    simp only [cond_eq_ite] at he
    split at he
    case isFalse => cases he
    rename_i hq
    split at he
    case isFalse => cases he
    rename_i heq
    subst heq
    obtain ⟨inf, hi, ok⟩ := H2.ok _ _ hc
    obtain ⟨inf2, A, cap, k1, rfl, hcn, ⟨A0, l0, cap0, hv0, hcap, hAc, hl0, hA00⟩, hA⟩ := hv.part_inv
    rw [hi] at k1
    cases k1
    obtain ⟨_, A', cap', h1, h3, h4⟩ := ok.sl rfl
    rw [hv0] at h1
    cases h1
    refine ⟨_, _, he, .row H2 hX hc rfl rfl (notMem hq) hi (inf' := ⟨inf.m, inf.base + i * inf.sz, inf.sz, inf.ph, .slice A m cap, inf.inn⟩) (fun hp => ⟨hp, rfl⟩) (fun ρ n h => ok.typ_part hl0 hcn hA) (fun l h => by cases h) fun ρ n h => .whole h rfl⟩
  · cases hv
    exact ⟨_, _, he, .empty _ _⟩
  · cases he
theorem tellL_hand (H2 : HR O Nc Wc ρ2 h2 W) (hX : ∀ m, O m ∨ Nc ≤ m → X m ∨ N0 ≤ m) : ∀ {l : List RC} {vs : List AV} {vs' : List Value} {u : List Nat} {k : RL l → List Nat → Option R}, VRs ρ2 vs vs' → tellL l vs h2 u k = some x →
    ∃ d u', k d u' = some x ∧ Hands X N0 W0 W ρ2 h2 u u' (fun n => handL l d n) vs'
  | [], [], _, u, k, .nil, he => ⟨(), u, he, .nil⟩
  | [c], [v], _, u, k, .cons hv .nil, he => tellC_hand H2 hX hv he
  | c :: d :: l, v :: vs, _, u, k, .cons hv hs, he => by
    unfold tellL at he
    obtain ⟨y, u1, h1, h3⟩ := tellC_hand (X := X) (N0 := N0) (W0 := W0) H2 hX hv he
    obtain ⟨z, u2, h4, h5⟩ := tellL_hand H2 hX hs h1
    exact ⟨(y, z), u2, h4, h3.append h5⟩
  | [], _ :: _, _, _, _, _, he => by cases he
  | [_], [], _, _, _, _, he => by cases he
  | [_], _ :: _ :: _, _, _, _, _, he => by cases he
  | _ :: _ :: _, [], _, _, _, _, he => by cases he
theorem tell1_hand (H2 : HR O Nc Wc ρ2 h2 W) (hX : ∀ m, O m ∨ Nc ≤ m → X m ∨ N0 ≤ m) {c : R1} {v : AV} {v' : Value} {u : List Nat} {k : c.D → List Nat → Option R} (hv : VR ρ2 v v') (he : tell1 c v h2 u k = some x) :
    ∃ d u', k d u' = some x ∧ Hands X N0 W0 W ρ2 h2 u u' (fun n => ([(hand1 c d n).1], (hand1 c d n).2)) [v'] := by
  unfold tell1 at he
  split at he
  · exact tellC_hand H2 hX hv he
  · rename_i c row k
    split at he
    case h_2 => cases he
    rename_i y hy
    cases hv with | agg h1 h3 =>
    rw [← unRow_some hy] at h1
    exact ⟨_, _, he, .plain fun ρ => .agg (h1.mem (rowOf_plain c y) ρ) h3⟩
  · rename_i l row k
    cases hv with | agg h1 h3 =>
    obtain ⟨d, u', h4, h5⟩ := tellL_hand (X := X) (N0 := N0) (W0 := W0) H2 hX h1 he
    refine ⟨d, u', h4, h5.1, fun ρ hc H F => ?_⟩
    obtain ⟨ρ', k1, k2, k3, k4⟩ := h5.2 ρ hc H F
    exact ⟨ρ', k1, k2, .cons (.agg k3 h3) .nil, k4⟩
  · cases he
theorem tellR_hand (H2 : HR O Nc Wc ρ2 h2 W) (hX : ∀ m, O m ∨ Nc ≤ m → X m ∨ N0 ≤ m) : ∀ {l : List R1} {vs : List AV} {vs' : List Value} {u : List Nat} {k : DR l → List Nat → Option R}, VRs ρ2 vs vs' → tellR l vs h2 u k = some x →
    ∃ d u', k d u' = some x ∧ Hands X N0 W0 W ρ2 h2 u u' (fun n => handR l d n) vs'
  | [], [], _, u, k, .nil, he => ⟨(), u, he, .nil⟩
  | [c], [v], _, u, k, .cons hv .nil, he => tell1_hand H2 hX hv he
  | c :: d :: l, v :: vs, _, u, k, .cons hv hs, he => by
    unfold tellR at he
    obtain ⟨y, u1, h1, h3⟩ := tell1_hand (X := X) (N0 := N0) (W0 := W0) H2 hX hv he
    obtain ⟨z, u2, h4, h5⟩ := tellR_hand H2 hX hs h1
    exact ⟨(y, z), u2, h4, h3.append h5⟩
  | [], _ :: _, _, _, _, _, he => by cases he
  | [_], [], _, _, _, _, he => by cases he
  | [_], _ :: _ :: _, _, _, _, _, he => by cases he
  | _ :: _ :: _, [], _, _, _, _, he => by cases he
theorem tellC_some {c : RC} {v : AV} {u : List Nat} {k : c.D → List Nat → Option R} (he : tellC c v h2 u k = some x) : ∃ d u', k d u' = some x := by
  unfold tellC at he
  simp only [cond_eq_ite] at he
  split at he
  all_goals first
    | exact ⟨_, _, he⟩
    | (cases he; done)
    | (split at he
       · split at he
         · split at he
           · rename_i heq
             subst heq
             exact ⟨_, _, he⟩
           · cases he
         · cases he
       · cases he)
theorem tellL_some : ∀ {l : List RC} {vs : List AV} {u : List Nat} {k : RL l → List Nat → Option R}, tellL l vs h2 u k = some x → ∃ d u', k d u' = some x
  | [], [], u, k, he => ⟨_, _, he⟩
  | [c], [v], u, k, he => tellC_some he
  | c :: d :: l, v :: vs, u, k, he => by
    unfold tellL at he
    obtain ⟨y, u1, h⟩ := tellC_some he
    obtain ⟨z, u2, h⟩ := tellL_some h
    exact ⟨_, _, h⟩
  | [], _ :: _, _, _, he => by cases he
  | [_], [], _, _, he => by cases he
  | [_], _ :: _ :: _, _, _, he => by cases he
  | _ :: _ :: _, [], _, _, he => by cases he
theorem tell1_some {c : R1} {v : AV} {u : List Nat} {k : c.D → List Nat → Option R} (he : tell1 c v h2 u k = some x) : ∃ d u', k d u' = some x := by
  unfold tell1 at he
  split at he
  · exact tellC_some he
  · split at he
    · exact ⟨_, _, he⟩
    · cases he
  · exact tellL_some he
  · cases he
theorem tellR_length : ∀ {l : List R1} {vs : List AV} {u : List Nat} {k : DR l → List Nat → Option R}, tellR l vs h2 u k = some x → vs.length = l.length
  | [], [], u, k, he => rfl
  | [c], [v], u, k, he => rfl
  | c :: d :: l, v :: vs, u, k, he => by
    unfold tellR at he
    obtain ⟨y, u1, h⟩ := tell1_some he
    simp [tellR_length h]
  | [], _ :: _, _, _, he => by cases he
  | [_], [], _, _, he => by cases he
  | [_], _ :: _ :: _, _, _, he => by cases he
  | _ :: _ :: _, [], _, _, he => by cases he
theorem resList_sound {ρ : Ren} {l : List R1} {v : AV} {vs : List AV} {v' : Value} (h : resList l v = some vs) (hl : vs.length = l.length) (hv : VR ρ v v') : ∃ vs', VRs ρ vs vs' ∧ v' = tupOf vs' := by
  unfold resList at h
  split at h
  · cases h
    cases hv with | tup h => exact ⟨_, h, by cases h; rfl⟩
  · cases h
    exact ⟨[v'], .cons hv .nil, rfl⟩
  · cases h
    cases hv with | tup h =>
    refine ⟨_, h, ?_⟩
    cases h with
    | nil => cases hl
    | cons h hs =>
      cases hs with
      | nil => cases hl
      | cons h hs => rfl
  · cases h
theorem readSl_bind (c : TC) (v : AV) (h : Heap) (k : List (El c) → Option R) : readSl c v h k = (readSl c v h some).bind k := by
  unfold readSl
  split
  case h_5 =>
    split
    · rename_i cl hc
      rw [Rows.get_bind]
      rw [Rows.get_bind (R := List (El c))]
      cases cl.rows.get _ _ some with
      | none => rfl
      | some row =>
        simp only [Option.bind_some, cond_eq_ite]
        split
        · split <;> rfl
        · rfl
    · rfl
  case h_6 =>
    rename_i b i
    rcases cellAt h b with _ | ⟨_, _, _, _, rows⟩
    · rfl
    · cases rows with
      | ops l => cases c with
        | int =>
          show (match l[i]? with | some x => k x.D | none => none) = (match l[i]? with | some x => some x.D | none => none).bind k
          cases l[i]? <;> rfl
        | _ => rfl
      | _ => cases c <;> rfl
  all_goals first
    | rfl
    | (split
       · split <;> rfl
       · rfl)
theorem readC_bind (c : C0) (v : AV) (h : Heap) (k : c.D → Option R) : readC c v h k = (readC c v h some).bind k := by
  cases c with
  | sl c => exact readSl_bind _ _ _ _
  | mp agg c => cases v with
    | mapv b =>
      simp only [readC, cond_eq_ite]
      split
      · split
        · split <;> rfl
        · rfl
      · rfl
    | _ => rfl
  | _ => cases v with
    | int kd n => cases kd <;> rfl
    | _ => rfl
theorem readL_bind : ∀ {R : Type} (l : List C0) (vs : List AV) (h : Heap) (k : DL l → Option R), readL l vs h k = (readL l vs h some).bind k
  | _, [], [], h, k => rfl
  | _, c :: l, v :: vs, h, k => by
    have e1 : ∀ {R' : Type} (k' : DL (c :: l) → Option R'), readL (c :: l) (v :: vs) h k' = (readC c v h some).bind fun x => (readL l vs h some).bind fun y => k' (x, y) := fun k' => by
      refine (readC_bind c v h _).trans ?_
      congr 1
      funext x
      exact readL_bind l vs h _
    rw [e1 k, e1 some]
    cases readC c v h some with
    | none => rfl
    | some y =>
      show ((readL l vs h some).bind _) = ((readL l vs h some).bind _).bind k
      cases readL l vs h some <;> rfl
  | _, [], _ :: _, _, _ => rfl
  | _, _ :: _, [], _, _ => rfl
theorem readLL_cons {R : Type} (c : List C0) (l : List (List C0)) (v : AV) (vs : List AV) (h : Heap) : (∀ (k : DLL (c :: l) → Option R), readLL (c :: l) (v :: vs) h k = none) ∧ (readLL (c :: l) (v :: vs) h some = none) ∨
    ∃ row, ∀ {R' : Type} (k : DLL (c :: l) → Option R'), readLL (c :: l) (v :: vs) h k = readL c row h fun x => readLL l vs h fun y => k (x, y) := by
  by_cases hb : ∃ b, v = .ptr b 0 0
  · obtain ⟨b, rfl⟩ := hb
    have hk : ∀ {R' : Type} (k : DLL (c :: l) → Option R'), readLL (c :: l) (.ptr b 0 0 :: vs) h k = (match cellAt h b with
      | some ⟨_, _, _, _, .gen _ [row]⟩ => readL c row h fun x => readLL l vs h fun y => k (x, y)
      | _ => none) := fun k => rfl
    rcases hc : cellAt h b with _ | ⟨_, _, _, _, rows⟩
    · exact .inl ⟨fun k => by rw [hk, hc], by rw [hk, hc]⟩
    · rcases rows with ⟨sz, _ | ⟨row, _ | ⟨_, _⟩⟩⟩ | _ | _ | _ | _
      case gen.cons.nil => exact .inr ⟨row, fun k => by rw [hk, hc]⟩
      all_goals exact .inl ⟨fun k => (by rw [hk, hc]), (by rw [hk, hc])⟩
  · have no : ∀ {R' : Type} (k : DLL (c :: l) → Option R'), readLL (c :: l) (v :: vs) h k = none := fun k => by
      unfold readLL
      split
      case h_1 e _ _ => cases e
      case h_2 e1 e2 e3 =>
        injection e2 with e4 e5
        exact absurd ⟨_, e4⟩ hb
      case h_3 => rfl
    exact .inl ⟨fun k => no k, no some⟩
theorem readLL_bind : ∀ {R : Type} (l : List (List C0)) (vs : List AV) (h : Heap) (k : DLL l → Option R), readLL l vs h k = (readLL l vs h some).bind k
  | _, [], [], h, k => rfl
  | R, c :: l, v :: vs, h, k => by
    rcases readLL_cons (R := R) c l v vs h with ⟨h1, h2⟩ | ⟨row, h1⟩
    · rw [h1, h2]; rfl
    · have e1 : ∀ {R' : Type} (k' : DLL (c :: l) → Option R'), readLL (c :: l) (v :: vs) h k' = (readL c row h some).bind fun x => (readLL l vs h some).bind fun y => k' (x, y) := fun k' => by
        rw [h1]
        refine (readL_bind c row h _).trans ?_
        congr 1
        funext x
        exact readLL_bind l vs h _
      rw [e1 k, e1 some]
      cases readL c row h some with
      | none => rfl
      | some y =>
        show ((readLL l vs h some).bind _) = ((readLL l vs h some).bind _).bind k
        cases readLL l vs h some <;> rfl
  | _, [], _ :: _, _, _ => rfl
  | _, _ :: _, [], _, _ => rfl
theorem readP_bind (c : PSh) (v : AV) (h g : Heap) (k : c.D → Option R) : readP c v h g k = (readP c v h g some).bind k := by
  cases c with
  | cell c => exact readC_bind _ _ _ _
  | el c => cases v with
    | agg row => simp only [readP]; split <;> rfl
    | _ => rfl
  | agg l => cases v with
    | agg row => exact readL_bind _ _ _ _
    | _ => rfl
  | clo t ls => cases v with
    | fn f fs cs => cases f with
      | func f => cases fs with
        | nil =>
          simp only [readP, cond_eq_ite]
          split
          · exact readLL_bind _ _ _ _
          · rfl
        | cons _ _ => rfl
      | _ => rfl
    | _ => rfl
  | own c e => cases v with
    | whole b =>
      simp only [readP, cond_eq_ite]
      split
      · split
        · split <;> rfl
        · rfl
      · rfl
    | _ => rfl
theorem readA_bind : ∀ {R : Type} (l : List PSh) (vs : List AV) (h g : Heap) (k : DA l → Option R), readA l vs h g k = (readA l vs h g some).bind k
  | _, [], [], h, g, k => rfl
  | _, c :: l, v :: vs, h, g, k => by
    have e1 : ∀ {R' : Type} (k' : DA (c :: l) → Option R'), readA (c :: l) (v :: vs) h g k' = (readP c v h g some).bind fun x => (readA l vs (killOwn c v h) g some).bind fun y => k' (x, y) := fun k' => by
      refine (readP_bind c v h g _).trans ?_
      congr 1
      funext x
      exact readA_bind l vs _ g _
    rw [e1 k, e1 some]
    cases readP c v h g some with
    | none => rfl
    | some y =>
      show ((readA l vs (killOwn c v h) g some).bind _) = ((readA l vs (killOwn c v h) g some).bind _).bind k
      cases readA l vs (killOwn c v h) g some <;> rfl
  | _, [], _ :: _, _, _, _ => rfl
  | _, _ :: _, [], _, _, _ => rfl
def Meets (P : Program) (f : FuncId) (s : Sig) (d : DA s.args) (r : DR s.res) : Prop :=
  ∃ v2 h2 vs, resList s.res v2 = some vs ∧ (tellR s.res vs h2 [] fun r _ => some r) = some r ∧ CallOK P f (layA s.args d 0).1 (layA s.args d 0).2 v2 h2
def MeetsW (P : Program) (f : FuncId) (s : Sig) (d : DA s.args) (r : DR s.res) : Prop :=
  (∃ fn, P.funcs[f]? = some fn ∧ fn.body.isNone = false ∧ (fn.name == "runtime.NumGoroutine") = false) ∧
  ∀ (O : Nat → Prop) (ρ : Ren) (W : World) (args' : List Value), HR O W.heap.size W ρ (layA s.args d 0).2 W → VRs ρ (layA s.args d 0).1 args' → Calls P f args'.toArray W fun e W' =>
    ∃ v' ρ2 v2 h2 vs, e = .returned v' ∧ HR O W.heap.size W ρ2 h2 W' ∧ VR ρ2 v2 v' ∧ resList s.res v2 = some vs ∧ (tellR s.res vs h2 [] fun r _ => some r) = some r
theorem Meets.toW {P : Program} {f : FuncId} {s : Sig} {d : DA s.args} {r : DR s.res} (h : Meets P f s d r) : MeetsW P f s d r := by
  obtain ⟨v2, h2, vs, h3, h4, _, h5, h6⟩ := h
  exact ⟨h5, fun O ρ W args' H hv => (h6 O _ _ ρ W args' H hv).mono fun e W' ⟨v', ρ2, k1, k2, _, k3⟩ => ⟨v', ρ2, v2, h2, vs, k1, k2, k3, h3, h4⟩⟩
theorem contract_sound {P : Program} {s : Sig} {F : DA s.args → Option (DR s.res)} {f : FuncId} (hF : ∀ d r, F d = some r → MeetsW P f s d r) {args : List AV} {h : Heap} {k : AV → Heap → Option R} (he : contract s F args h k = some x) :
    ∃ v h', k v h' = some x ∧ CallOK P f args h v h' := by
  unfold contract at he
  rw [readA_bind] at he
  obtain ⟨d, hd, he⟩ := Option.bind_eq_some_iff.1 he
  split at he
  case h_1 => cases he
  rename_i r hr
  obtain ⟨⟨fn, hfn, hb, hnm⟩, hcall⟩ := hF d r hr
  have hul := useUp_length s.args args h
  refine ⟨_, _, he, by simp [hul], ⟨fn, hfn, hb, hnm⟩, fun X N0 W0 ρ W args' H hv => ?_⟩
  have Hg : HR X N0 W0 ρ (useUp s.args args h) W := H.sub (fun b c => useUp_cell) hul
  obtain ⟨d', infs, hd', hlaid⟩ := readA_laid (x := d) (k := some) (n := 0) Hg H (fun _ _ e => e) hv (fun b c _ e => e) (fun b c i e hw e0 hi hp hs => by
    rcases hs with ⟨b', c', i', k1, k2, k3, k4⟩ | ⟨k1, k2⟩
    · refine H.inj b c b' c' i i' e hw (useUp_cell k1) ?_ hi k2 hp k3 k4.symm
      rintro rfl
      rw [e0] at k1
      cases k1
    · rcases H.own b c i e hw hi hp with h1 | h1
      · exact k2 h1
      · omega) hd
  have hd' : d' = d := Option.some.inj hd'
  subst hd'
  have hX : ∀ m, Own ρ h (useUp s.args args h) m ∨ W.heap.size ≤ m → X m ∨ N0 ≤ m := by
    rintro m (⟨b, c, i, k1, k2, _, k4, k5, rfl⟩ | hm)
    · exact H.own b c i k1 k2 k4 k5
    · exact .inr (Nat.le_trans H.n0 hm)
  refine (hcall _ _ _ _ hlaid.heap (hlaid.val _ fun i inf e => by simpa using e)).mono fun e W' ⟨v', ρ2, v2, h2, vs, he', H2, hv2, hres, htell⟩ => ?_
  obtain ⟨vs', hvs, rfl⟩ := resList_sound hres (tellR_length htell) hv2
  have HW : HR X N0 W0 ρ (useUp s.args args h) W' := by
    refine Hg.world ⟨H2.fr.os, H2.fr.tape, H2.fr.output, H2.fr.size, fun k hk hx => H2.fr.block k (Nat.lt_of_lt_of_le hk H.n0) fun ho => ?_⟩ fun k hk ⟨b, c, i, e, hi, hp, hm⟩ => H2.fr.block k hk fun ⟨b', c', i', k1, k2, k3, k4, k5, k6⟩ => ?_
    · rcases hX k (.inl ho) with h1 | h1
      · exact hx h1
      · omega
    · refine H.inj b' c' b c i' i k1 k2 (useUp_cell e) ?_ k4 hi k5 hp (k6.trans hm.symm)
      rintro rfl
      rw [k3] at e
      cases e
  obtain ⟨r', u', hr', hh⟩ := tellR_hand (X := X) (N0 := N0) (W0 := W0) H2 hX hvs htell
  have hr' : r' = r := Option.some.inj hr'
  subst hr'
  obtain ⟨ρ', k1, k2, k3, _⟩ := hh.2 ρ _ HW (fun b c i e hi hp b2 c2 i2 e2 hw2 _ hi2 hp2 hm => by
    have hlt := Hg.lt b c i e hi hp
    rcases H2.own b2 c2 i2 e2 hw2 hi2 hp2 with ⟨b', c', i', k1, k2, k3, k4, k5, k6⟩ | h1
    · refine H.inj b' c' b c i' i k1 k2 (useUp_cell e) ?_ k4 hi k5 hp (k6.trans hm.symm)
      rintro rfl
      rw [k3] at e
      cases e
    · omega)
  rw [hul] at k1 k2 k3
  exact ⟨_, ρ', he', k1, k2, single_sound k3⟩
theorem Meets.of_evC {P : Program} {K : Kinds} {s : Sig} {f : FuncId} {orc : Orc (DR s.res)} {lorc : LOrc (DR s.res)} (G : Ground P K) (hC : OrcOK P orc) (hL : LOrcOK P K lorc) {d : DA s.args} {r : DR s.res} (he : evC P K orc lorc f s.args d = some r) : Meets P f s d r := by
  unfold evC at he
  obtain ⟨v, h', hk, hc⟩ := evFun_sound G hC hL he
  split at hk
  · cases hk
  · rename_i vs hvs
    exact ⟨v, h', vs, hvs, hk, hc⟩
theorem OrcOK.add {P : Program} {s : Sig} {F : DA s.args → Option (DR s.res)} {f : FuncId} (hF : ∀ d r, F d = some r → MeetsW P f s d r) {cond : List AV → Bool} {rest : Orc R} (hR : OrcOK P rest) :
    OrcOK P fun g args h k => bif Nat.beq g f && cond args then contract s F args h k else rest g args h k := fun g args h k x he => by
  dsimp only at he
  cases hq : (Nat.beq g f && cond args) with
  | false => rw [hq] at he; exact hR g args h k x he
  | true =>
    rw [hq] at he
    simp only [Bool.and_eq_true] at hq
    have := beq_eq hq.1
    subst this
    exact contract_sound hF he
theorem OrcOK.add1 {P : Program} {s : Sig} {F : DA s.args → Option (DR s.res)} {f : FuncId} (hF : ∀ d r, F d = some r → MeetsW P f s d r) {rest : Orc R} (hR : OrcOK P rest) :
    OrcOK P fun g args h k => bif Nat.beq g f then contract s F args h k else rest g args h k := fun g args h k x he => by
  dsimp only at he
  cases hq : Nat.beq g f with
  | false => rw [hq] at he; exact hR g args h k x he
  | true =>
    rw [hq] at he
    have := beq_eq hq
    subst this
    exact contract_sound hF he
end
end Go.Abs
