/- Own: Contracts: what is read of arguments is laid anew for the function that is called. -/
import Derived.Test.YtmiajnodoigndaaGreatAbsS
namespace Go.Abs
open Go.RowKit
set_option linter.unusedVariables false
def AV.plainB : AV → Bool
 | .int .. => true
 | .bool _ => true
 | _ => false
theorem VR.plain {ρ : Ren} {v : AV} {v' : Value} (hp : v.plainB = true) (h : VR ρ v v') (ρ' : Ren) : VR ρ' v v' := by
 cases h <;> first | (cases hp; done) | exact .bool _ | exact .int _ _
theorem rowOf_plain (c : TC) (x : El c) : ∀ u ∈ rowOf c x, u.plainB = true := by
 have : (rowOf c x).all AV.plainB = true := by cases c <;> rfl
 exact fun u hu => List.all_eq_true.1 this u hu
theorem VRs.mem {ρ : Ren} : ∀ {l : List AV} {l' : List Value}, VRs ρ l l' → (∀ u ∈ l, u.plainB = true) → ∀ ρ', VRs ρ' l l'
 | _, _, .nil, _, _ => .nil
 | _, _, .cons h hs, hp, ρ' => .cons (h.plain (hp _ (.head _)) ρ') (hs.mem (fun u hu => hp u (.tail _ hu)) ρ')
def At (ρ : Ren) (n : Nat) (infs : List BI) : Prop := ∀ (i : Nat) (inf : BI), infs[i]? = some inf → ρ (n + i) = some inf
theorem At.left {ρ : Ren} {n : Nat} {a b : List BI} (h : At ρ n (a ++ b)) : At ρ n a := fun i inf e => h i inf (by rw [List.getElem?_append_left (List.getElem?_eq_some_iff.1 e).1]; exact e)
theorem At.right {ρ : Ren} {n : Nat} {a b : List BI} (h : At ρ n (a ++ b)) : At ρ (n + a.length) b := fun i inf e => by
 have := h (a.length + i) inf (by rw [List.getElem?_append_right (by omega)]; simpa using e)
 rwa [← Nat.add_assoc] at this
structure Laid (S O : Nat → Prop) (W : World) (n : Nat) (vs : List AV) (hs : Heap) (vs' : List Value) (infs : List BI) : Prop where
 len : infs.length = hs.length
 val : ∀ ρ, At ρ n infs → VRs ρ vs vs'
 cell : ∀ ρ, At ρ n infs → ∀ i c inf, cellAt hs i = some c → infs[i]? = some inf → CellOK ρ W (n + i) c inf
 src : ∀ i c inf, cellAt hs i = some c → infs[i]? = some inf → inf.ph = false → inf.m < W.heap.size ∧ (c.wr = false → S inf.m) ∧ (c.wr = true → O inf.m)
 ops : ∀ i c l, cellAt hs i = some c → c.rows ≠ .ops l
 apart : ∀ i j c c' inf inf', cellAt hs i = some c → cellAt hs j = some c' → c.wr = true → i ≠ j → infs[i]? = some inf → infs[j]? = some inf' → inf.ph = false → inf'.ph = false → inf.m ≠ inf'.m
theorem cellAt_nil (b : Nat) : cellAt [] b = none := by simp [cellAt]
theorem cellAt_one {c c' : Cell} {b : Nat} (h : cellAt [some c] b = some c') : b = 0 ∧ c' = c := by
 cases b with
 | zero => cases h; exact ⟨rfl, rfl⟩
 | succ b => cases h
namespace Laid
variable {S O O1 O2 : Nat → Prop} {W : World} {n : Nat}
theorem nil : Laid S O W n [] [] [] [] :=
 ⟨rfl, fun _ _ => .nil, fun _ _ i _ inf _ e => (by simp at e), fun i _ inf _ e => (by simp at e), fun i c l e => (by rw [cellAt_nil] at e; cases e), fun i _ c _ inf _ e => (by rw [cellAt_nil] at e; cases e)⟩
theorem monoS {S' : Nat → Prop} {vs : List AV} {hs : Heap} {vs' : List Value} {infs : List BI} (h : Laid S O W n vs hs vs' infs) (ho : ∀ m, S m → S' m) : Laid S' O W n vs hs vs' infs :=
 ⟨h.len, h.val, h.cell, fun i c inf e e' hp => ⟨(h.src i c inf e e' hp).1, fun hw => ho _ ((h.src i c inf e e' hp).2.1 hw), (h.src i c inf e e' hp).2.2⟩, h.ops, h.apart⟩
theorem mono {vs : List AV} {hs : Heap} {vs' : List Value} {infs : List BI} (h : Laid S O1 W n vs hs vs' infs) (ho : ∀ m, O1 m → O2 m) : Laid S O2 W n vs hs vs' infs :=
 ⟨h.len, h.val, h.cell, fun i c inf e e' hp => ⟨(h.src i c inf e e' hp).1, (h.src i c inf e e' hp).2.1, fun hw => ho _ ((h.src i c inf e e' hp).2.2 hw)⟩, h.ops, h.apart⟩
theorem plain {v : AV} {v' : Value} (h : ∀ ρ, VR ρ v v') : Laid S O W n [v] [] [v'] [] :=
 ⟨rfl, fun ρ _ => .cons (h ρ) .nil, fun _ _ i _ inf _ e => (by simp at e), fun i _ inf _ e => (by simp at e), fun i c l e => (by rw [cellAt_nil] at e; cases e), fun i _ c _ inf _ e => (by rw [cellAt_nil] at e; cases e)⟩
theorem one {v : AV} {v' : Value} {c : Cell} {inf : BI} (hv : ∀ ρ, ρ n = some inf → VR ρ v v') (hc : ∀ ρ, ρ n = some inf → CellOK ρ W n c inf)
 (hs : inf.ph = false → inf.m < W.heap.size ∧ (c.wr = false → S inf.m) ∧ (c.wr = true → O inf.m)) (ho : ∀ l, c.rows ≠ .ops l) : Laid S O W n [v] [some c] [v'] [inf] := by
 refine ⟨rfl, fun ρ h => .cons (hv ρ (h 0 inf rfl)) .nil, fun ρ h i c' inf' e e' => ?_, fun i c' inf' e e' hp => ?_, fun i c' l e => ?_, fun i j c1 c2 i1 i2 e e' _ hne => ?_⟩
 · obtain ⟨rfl, rfl⟩ := cellAt_one e
   cases e'
   exact hc ρ (h 0 inf rfl)
 · obtain ⟨rfl, rfl⟩ := cellAt_one e
   cases e'
   exact hs hp
 · obtain ⟨rfl, rfl⟩ := cellAt_one e
   exact ho l
 · obtain ⟨rfl, rfl⟩ := cellAt_one e
   obtain ⟨rfl, rfl⟩ := cellAt_one e'
   exact absurd rfl hne
theorem append {vs ws : List AV} {hs gs : Heap} {vs' ws' : List Value} {infs jnfs : List BI} (h : Laid S O1 W n vs hs vs' infs) (g : Laid S O2 W (n + hs.length) ws gs ws' jnfs)
 (d1 : ∀ m, S m → ¬ O1 m) (d2 : ∀ m, S m → ¬ O2 m) (d : ∀ m, O1 m → ¬ O2 m) : Laid S (fun m => O1 m ∨ O2 m) W n (vs ++ ws) (hs ++ gs) (vs' ++ ws') (infs ++ jnfs) := by
 have cut : ∀ {i : Nat} {c : Cell} {inf : BI}, cellAt (hs ++ gs) i = some c → (infs ++ jnfs)[i]? = some inf → (i < hs.length ∧ cellAt hs i = some c ∧ infs[i]? = some inf) ∨
  (hs.length ≤ i ∧ cellAt gs (i - hs.length) = some c ∧ jnfs[i - hs.length]? = some inf) := by
  intro i c inf e e'
  rcases Nat.lt_or_ge i hs.length with hi | hi
  · rw [cellAt_append_left hi] at e
    rw [List.getElem?_append_left (by rw [h.len]; exact hi)] at e'
    exact .inl ⟨hi, e, e'⟩
  · rw [cellAt_append_right hi] at e
    rw [List.getElem?_append_right (by rw [h.len]; exact hi), h.len] at e'
    exact .inr ⟨hi, e, e'⟩
 have src : ∀ i c inf, cellAt (hs ++ gs) i = some c → (infs ++ jnfs)[i]? = some inf → inf.ph = false → inf.m < W.heap.size ∧ (c.wr = false → S inf.m) ∧ (c.wr = true → O1 inf.m ∨ O2 inf.m) := by
  intro i c inf e e' hp
  rcases cut e e' with ⟨_, k1, k2⟩ | ⟨_, k1, k2⟩
  · exact ⟨(h.src _ _ _ k1 k2 hp).1, (h.src _ _ _ k1 k2 hp).2.1, fun hw => .inl ((h.src _ _ _ k1 k2 hp).2.2 hw)⟩
  · exact ⟨(g.src _ _ _ k1 k2 hp).1, (g.src _ _ _ k1 k2 hp).2.1, fun hw => .inr ((g.src _ _ _ k1 k2 hp).2.2 hw)⟩
 refine ⟨by simp [h.len, g.len], fun ρ ha => (h.val ρ ha.left).append (g.val ρ (by have := ha.right; rwa [h.len] at this)), fun ρ ha i c inf e e' => ?_, src, fun i c l e => ?_, fun i j c c' inf inf' e1 e2 hw hne r1 r2 p1 p2 => ?_⟩
 · rcases cut e e' with ⟨_, k1, k2⟩ | ⟨hi, k1, k2⟩
   · exact h.cell ρ ha.left _ _ _ k1 k2
   · have := g.cell ρ (by have := ha.right; rwa [h.len] at this) _ _ _ k1 k2
     rwa [show n + hs.length + (i - hs.length) = n + i by omega] at this
 · rcases Nat.lt_or_ge i hs.length with hi | hi
   · rw [cellAt_append_left hi] at e
     exact h.ops _ _ _ e
   · rw [cellAt_append_right hi] at e
     exact g.ops _ _ _ e
 · rcases cut e1 r1 with ⟨hi, k1, k2⟩ | ⟨hi, k1, k2⟩ <;> rcases cut e2 r2 with ⟨hj, m1, m2⟩ | ⟨hj, m1, m2⟩
   · exact h.apart _ _ _ _ _ _ k1 m1 hw hne k2 m2 p1 p2
   · have o1 := (h.src _ _ _ k1 k2 p1).2.2 hw
     have s2 := g.src _ _ _ m1 m2 p2
     intro e
     rw [e] at o1
     cases hw' : c'.wr with
     | false => exact d1 _ (s2.2.1 hw') o1
     | true => exact d _ o1 (s2.2.2 hw')
   · have o2 := (g.src _ _ _ k1 k2 p1).2.2 hw
     have s1 := h.src _ _ _ m1 m2 p2
     intro e
     rw [e] at o2
     cases hw' : c'.wr with
     | false => exact d2 _ (s1.2.1 hw') o2
     | true => exact d _ (s1.2.2 hw') o2
   · exact g.apart _ _ _ _ _ _ k1 m1 hw (by omega) k2 m2 p1 p2
abbrev No : Nat → Prop := fun _ => False
theorem app0 {vs ws : List AV} {hs gs : Heap} {vs' ws' : List Value} {infs jnfs : List BI} (h : Laid S No W n vs hs vs' infs) (g : Laid S No W (n + hs.length) ws gs ws' jnfs) : Laid S No W n (vs ++ ws) (hs ++ gs) (vs' ++ ws') (infs ++ jnfs) :=
 (h.append g (fun _ _ h => h) (fun _ _ h => h) (fun _ h => h.elim)).mono fun _ h => h.elim id id
theorem genOK {ρ : Ren} {b : Nat} {vs : List AV} {vs' : List Value} {wr : Bool} {inf : BI} (h : VRs ρ vs vs') (hp : inf.ph = false) (hsz : inf.sz = vs.length) (hm : inf.m < W.heap.size)
 (hcell : ∀ (j : Nat) (u' : Value), vs'[j]? = some u' → W.cell? ⟨inf.m, inf.base + j, none⟩ = some u' ∧ u'.oneCell' = true) (hfr : wr = true → ∀ off, W.frozen? ⟨inf.m, off, none⟩ = false) {sz : Nat} (hz : sz = vs.length) : CellOK ρ W b ⟨wr, false, false, 0, .gen sz [vs]⟩ inf where
 sz := fun _ => hsz.trans hz.symm
 ph := fun h => by rw [hp] at h; cases h
 row := fun i row e => by
  cases i with
  | zero => cases e; exact hsz.symm
  | succ i => simp [Rows.list] at e
 cell := fun i row j u e e' => by
  cases i with
  | zero =>
   cases e
   obtain ⟨u', h1, h2⟩ := h.get e'
   obtain ⟨h3, h4⟩ := hcell j u' h1
   exact ⟨u', by simpa using h3, h2, h4⟩
  | succ i => simp [Rows.list] at e
 wr := fun hw _ => ⟨hm, hfr hw⟩
 sl := fun h => by cases h
 nn := fun h => by cases h
 own := fun _ h => by cases h
 mp := fun l h => by cases h
theorem boxL {vs : List AV} {hs : Heap} {vs' : List Value} {infs : List BI} (h : Laid S No W n vs hs vs' infs) {inf : BI} (hp : inf.ph = false) (hsz : inf.sz = vs.length) (hm : inf.m < W.heap.size)
 (hcell : ∀ (j : Nat) (u' : Value), vs'[j]? = some u' → W.cell? ⟨inf.m, inf.base + j, none⟩ = some u' ∧ u'.oneCell' = true) (hS : S inf.m) {sz : Nat} (hz : sz = vs.length) :
 Laid S No W n [.ptr (n + hs.length) 0 0] (hs ++ [some ⟨false, false, false, 0, .gen sz [vs]⟩]) [.pointer (some ⟨inf.m, inf.base, none⟩)] (infs ++ [inf]) := by
 have cut : ∀ {i : Nat} {c : Cell} {i0 : BI}, cellAt (hs ++ [some ⟨false, false, false, 0, .gen sz [vs]⟩]) i = some c → (infs ++ [inf])[i]? = some i0 → (cellAt hs i = some c ∧ infs[i]? = some i0) ∨
  (i = hs.length ∧ c = ⟨false, false, false, 0, .gen sz [vs]⟩ ∧ i0 = inf) := by
  intro i c i0 e e'
  rcases Nat.lt_or_ge i hs.length with hi | hi
  · rw [cellAt_append_left hi] at e
    rw [List.getElem?_append_left (by rw [h.len]; exact hi)] at e'
    exact .inl ⟨e, e'⟩
  · rw [cellAt_append_right hi] at e
    obtain ⟨h0, rfl⟩ := cellAt_one e
    rw [List.getElem?_append_right (by rw [h.len]; exact hi), h.len, h0] at e'
    cases e'
    exact .inr ⟨by omega, rfl, rfl⟩
 have notwr : ∀ i c, cellAt (hs ++ [some ⟨false, false, false, 0, .gen sz [vs]⟩]) i = some c → c.wr = true → ∃ i0, infs[i]? = some i0 ∧ cellAt hs i = some c := by
  intro i c e hw
  rcases Nat.lt_or_ge i hs.length with hi | hi
  · rw [cellAt_append_left hi] at e
    exact ⟨infs[i]'(by rw [h.len]; exact hi), List.getElem?_eq_getElem _, e⟩
  · rw [cellAt_append_right hi] at e
    obtain ⟨h0, rfl⟩ := cellAt_one e
    cases hw
 refine ⟨by simp [h.len], fun ρ ha => ?_, fun ρ ha i c i0 e e' => ?_, fun i c i0 e e' hp' => ?_, fun i c l e => ?_, fun i j c c' i1 i2 e1 e2 hw hne r1 r2 p1 p2 => ?_⟩
 · have h1 : ρ (n + hs.length) = some inf := by
    have := ha hs.length inf (by rw [← h.len]; simp)
    exact this
   have h2 := VR.ptr (i := 0) (o := 0) h1
   simp only [Nat.zero_mul, Nat.add_zero] at h2
   exact .cons h2 .nil
 · rcases cut e e' with ⟨k1, k2⟩ | ⟨rfl, rfl, rfl⟩
   · exact h.cell ρ ha.left _ _ _ k1 k2
   · exact genOK (h.val ρ ha.left) hp hsz hm hcell (fun h => by cases h) hz
 · rcases cut e e' with ⟨k1, k2⟩ | ⟨rfl, rfl, rfl⟩
   · exact h.src _ _ _ k1 k2 hp'
   · exact ⟨hm, fun _ => hS, fun h => by cases h⟩
 · rcases Nat.lt_or_ge i hs.length with hi | hi
   · rw [cellAt_append_left hi] at e
     exact h.ops _ _ _ e
   · rw [cellAt_append_right hi] at e
     obtain ⟨h0, rfl⟩ := cellAt_one e
     exact fun h => by cases h
 · rcases cut e1 r1 with ⟨k1, k2⟩ | ⟨_, rfl, _⟩
   · exact ((h.src _ _ _ k1 k2 p1).2.2 hw).elim
   · cases hw
theorem boxF {vs : List AV} {hs : Heap} {vs' : List Value} {infs : List BI} (h : Laid S O1 W (n + 1) vs hs vs' infs) {inf : BI} (hp : inf.ph = false) (hsz : inf.sz = vs.length) (hm : inf.m < W.heap.size)
 (hcell : ∀ (j : Nat) (u' : Value), vs'[j]? = some u' → W.cell? ⟨inf.m, inf.base + j, none⟩ = some u' ∧ u'.oneCell' = true) (hfr : ∀ off, W.frozen? ⟨inf.m, off, none⟩ = false) (hS : ¬ S inf.m) (hO : ¬ O1 inf.m) {sz : Nat} (hz : sz = vs.length) :
 Laid S (fun m => O1 m ∨ m = inf.m) W n [.ptr n 0 0] (some ⟨true, false, false, 0, .gen sz [vs]⟩ :: hs) [.pointer (some ⟨inf.m, inf.base, none⟩)] (inf :: infs) := by
 have tail : ∀ {ρ : Ren}, At ρ n (inf :: infs) → At ρ (n + 1) infs := fun ha i i0 e => by
  have := ha (i + 1) i0 (by simpa using e)
  rwa [show n + 1 + i = n + (i + 1) by omega]
 have cut : ∀ {i : Nat} {c : Cell} {i0 : BI}, cellAt (some ⟨true, false, false, 0, .gen sz [vs]⟩ :: hs) i = some c → (inf :: infs)[i]? = some i0 → (∃ j, i = j + 1 ∧ cellAt hs j = some c ∧ infs[j]? = some i0) ∨
  (i = 0 ∧ c = ⟨true, false, false, 0, .gen sz [vs]⟩ ∧ i0 = inf) := by
  intro i c i0 e e'
  cases i with
  | zero => cases e; cases e'; exact .inr ⟨rfl, rfl, rfl⟩
  | succ i => exact .inl ⟨i, rfl, by simpa [cellAt] using e, by simpa using e'⟩
 have far : ∀ {j : Nat} {c : Cell} {i0 : BI}, cellAt hs j = some c → infs[j]? = some i0 → i0.ph = false → i0.m ≠ inf.m := by
  intro j c i0 e e' hp' em
  obtain ⟨_, s1, s2⟩ := h.src _ _ _ e e' hp'
  cases hw : c.wr with
  | false => exact hS (em ▸ s1 hw)
  | true => exact hO (em ▸ s2 hw)
 refine ⟨by simp [h.len], fun ρ ha => ?_, fun ρ ha i c i0 e e' => ?_, fun i c i0 e e' hp' => ?_, fun i c l e => ?_, fun i j c c' i1 i2 e1 e2 hw hne r1 r2 p1 p2 => ?_⟩
 · have h2 := VR.ptr (i := 0) (o := 0) (ha 0 inf rfl)
   simp only [Nat.zero_mul, Nat.add_zero] at h2
   exact .cons h2 .nil
 · rcases cut e e' with ⟨j, rfl, k1, k2⟩ | ⟨rfl, rfl, rfl⟩
   · have := h.cell ρ (tail ha) _ _ _ k1 k2
     rwa [show n + 1 + j = n + (j + 1) by omega] at this
   · exact genOK (h.val ρ (tail ha)) hp hsz hm hcell (fun _ => hfr) hz
 · rcases cut e e' with ⟨j, rfl, k1, k2⟩ | ⟨rfl, rfl, rfl⟩
   · obtain ⟨s0, s1, s2⟩ := h.src _ _ _ k1 k2 hp'
     exact ⟨s0, s1, fun hw => .inl (s2 hw)⟩
   · exact ⟨hm, fun h => (by cases h), fun _ => .inr rfl⟩
 · cases i with
   | zero => cases e; exact fun h => by cases h
   | succ i => exact h.ops i c l (by simpa [cellAt] using e)
 · rcases cut e1 r1 with ⟨i', rfl, k1, k2⟩ | ⟨rfl, rfl, rfl⟩ <;> rcases cut e2 r2 with ⟨j', rfl, m1, m2⟩ | ⟨rfl, rfl, rfl⟩
   · exact h.apart _ _ _ _ _ _ k1 m1 hw (by omega) k2 m2 p1 p2
   · exact far k1 k2 p1
   · exact fun e => far m1 m2 p2 e.symm
   · exact absurd rfl hne
theorem row {c : TC} {l : List (El c)} {A : Option Addr} {cap m base : Nat} (hc : l.length ≤ cap) (hA : 0 < l.length → A = some ⟨m, base, none⟩ ∧ m < W.heap.size ∧ S m)
 (hcell : ∀ (i : Nat) (x : El c) (j : Nat) (u : AV), l[i]? = some x → (rowOf c x)[j]? = some u → ∃ u', W.cell? ⟨m, base + i * width c + j, none⟩ = some u' ∧ (∀ ρ, VR ρ u u') ∧ u'.oneCell' = true) :
 ∃ inf, Laid S No W n [.whole n] [some ⟨false, true, false, 0, .typ c l⟩] [.slice A l.length cap] [inf] := by
 have rows : ∀ {i : Nat} {r : List AV} {b : Nat}, (Rows.list b (.typ c l))[i]? = some r → ∃ x, l[i]? = some x ∧ r = rowOf c x := by
  intro i r b e
  simp only [Rows.list, List.getElem?_map, Option.map_eq_some_iff] at e
  obtain ⟨x, h1, h2⟩ := e
  exact ⟨x, h1, h2.symm⟩
 rcases Nat.eq_zero_or_pos l.length with h0 | h0
 · have hl := List.eq_nil_of_length_eq_zero h0
   subst hl
   refine ⟨⟨0, 0, width c, true, .slice A 0 cap, fun _ => (none, 0, 0)⟩, one (fun ρ h => .whole h rfl) (fun ρ h => ?_) (fun h => by cases h) (fun l h => by cases h)⟩
   exact ⟨fun _ => rfl, fun _ => ⟨rfl, rfl⟩, fun i r hi => (by simp [Rows.list] at hi), fun i r j u hi => (by simp [Rows.list] at hi), fun h => (by cases h), fun _ => ⟨rfl, A, cap, rfl, Nat.zero_le _, fun h => (by cases h)⟩, fun _ h => (by cases h), fun h => (by cases h), fun l hl => (by cases hl)⟩
 · obtain ⟨h1, h2, h3⟩ := hA h0
   refine ⟨⟨m, base, width c, false, .slice A l.length cap, fun _ => (none, 0, 0)⟩, one (fun ρ h => .whole h rfl) (fun ρ h => ?_) (fun _ => ⟨h2, fun _ => h3, fun h => by cases h⟩) (fun l h => by cases h)⟩
   refine ⟨fun _ => rfl, fun h => (by cases h), fun i r hi => ?_, fun i r j u hi hj => ?_, fun h => (by cases h), fun _ => ⟨rfl, A, cap, rfl, hc, fun _ => h1⟩, fun _ h => (by cases h), fun h => (by cases h), fun l hl => (by cases hl)⟩
   · obtain ⟨x, k1, rfl⟩ := rows hi
     exact rowOf_length c x
   · obtain ⟨x, k1, rfl⟩ := rows hi
     obtain ⟨u', k2, k3, k4⟩ := hcell i x j u k1 hj
     exact ⟨u', k2, k3 ρ, k4⟩
end Laid
def Src (X : Nat → Prop) (N0 : Nat) (ρ : Ren) (g : Heap) (m : Nat) : Prop := (∃ b c i, cellAt g b = some c ∧ ρ b = some i ∧ i.ph = false ∧ i.m = m) ∨ (m < N0 ∧ ¬ X m)
section
variable {X : Nat → Prop} {N0 : Nat} {W0 W : World} {ρ : Ren} {g : Heap} {R : Type} {x : R} {n : Nat}
open Laid
theorem typ_cell {b : Nat} {c : TC} {l : List (El c)} {wr sl nn : Bool} {e : TypeId} {inf : BI} (ok : CellOK ρ W b ⟨wr, sl, nn, e, .typ c l⟩ inf) {i : Nat} {y : El c} {j : Nat} {u : AV} (h1 : l[i]? = some y) (h2 : (rowOf c y)[j]? = some u) :
 ∃ u', W.cell? ⟨inf.m, inf.base + i * width c + j, none⟩ = some u' ∧ (∀ ρ, VR ρ u u') ∧ u'.oneCell' = true := by
 obtain ⟨u', k1, k2, k3⟩ := ok.cell i (rowOf c y) j u (by simp [Rows.list, h1]) h2
 have hs := ok.sz rfl
 rw [hs] at k1
 exact ⟨u', k1, fun ρ' => k2.plain (rowOf_plain c y u (List.mem_of_getElem? h2)) ρ', k3⟩
theorem typ_noph {b : Nat} {c : TC} {l : List (El c)} {wr sl nn : Bool} {e : TypeId} {inf : BI} (ok : CellOK ρ W b ⟨wr, sl, nn, e, .typ c l⟩ inf) (h : 0 < l.length) : inf.ph = false := by
 cases hp : inf.ph with
 | false => rfl
 | true =>
  have := (ok.ph hp).1
  simp only [Rows.len] at this
  omega
theorem unRow_one {c : TC} {v : AV} {x : El c} (h : unRow c [v] = some x) : rowOf c x = [v] ∧ width c = 1 := by
 have h1 := unRow_some h
 have h2 := rowOf_length c x
 rw [h1] at h2
 exact ⟨h1, h2.symm⟩
theorem chop_get : ∀ (l : List AV) (i : Nat), (chop l)[i]? = (l[i]?).map fun v => [v]
 | [], i => by simp [chop]
 | v :: l, 0 => by simp [chop]
 | v :: l, i + 1 => by simp [chop, chop_get l i]
theorem readSl_laid (H : HR X N0 W0 ρ g W) {c : TC} {v : AV} {v' : Value} {k : List (El c) → Option R} (hv : VR ρ v v') (he : readSl c v g k = some x) :
 ∃ l inf, k l = some x ∧ Laid (Src X N0 ρ g) No W n [.whole n] [some ⟨false, true, false, 0, .typ c l⟩] [v'] [inf] := by
 unfold readSl at he
 split at he
 case h_7 => cases he
 case h_1 =>
  cases hv
  obtain ⟨inf, h⟩ := row (S := Src X N0 ρ g) (W := W) (n := n) (c := c) (l := []) (A := none) (cap := 0) (m := 0) (base := 0) (Nat.le_refl _) (fun h => by cases h) (fun i x j u h => by simp at h)
  exact ⟨_, inf, he, h⟩
 case h_2 b =>
  split at he
  case h_2 => cases he
  rename_i wr nn e c' l hc
  split at he
  case isFalse => cases he
  rename_i heq
  subst heq
  obtain ⟨inf, hi, ok⟩ := H.ok _ _ hc
  obtain ⟨inf', A, cp, cap, hi', rfl, hv'⟩ := hv.whole_inv
  rw [hi] at hi'
  cases hi'
  obtain ⟨_, A', cap', h1, h2, h3⟩ := ok.sl rfl
  rw [hv'] at h1
  cases h1
  obtain ⟨inf2, h⟩ := row (S := Src X N0 ρ g) (W := W) (n := n) (l := l) (A := A) (cap := cap) (m := inf.m) (base := inf.base) h2
   (fun h0 => ⟨h3 h0, H.lt _ _ _ hc hi (typ_noph ok h0), .inl ⟨b, _, inf, hc, hi, typ_noph ok h0, rfl⟩⟩) (fun i y j u e1 e2 => typ_cell ok e1 e2)
  exact ⟨_, inf2, he, h⟩
 case h_3 b i0 m0 =>
  split at he
  case h_2 => cases he
  rename_i wr nn e c' l hc
  split at he
  case isFalse => cases he
  rename_i heq
  subst heq
  obtain ⟨inf, hi, ok⟩ := H.ok _ _ hc
  obtain ⟨inf', A, cap, hi', rfl, hcn, ⟨A0, l0, cap0, hv0, hcap, hAc, hl0, hA00⟩, hA⟩ := hv.part_inv
  rw [hi] at hi'
  cases hi'
  obtain ⟨_, A', cap', h1, h2, h3⟩ := ok.sl rfl
  rw [hv0] at h1
  cases h1
  simp only [Rows.len] at hl0 h3
  have hlen : ((l.drop i0).take m0).length = m0 := by simp; omega
  obtain ⟨inf2, h⟩ := row (S := Src X N0 ρ g) (W := W) (n := n) (l := (l.drop i0).take m0) (A := A) (cap := cap) (m := inf.m) (base := inf.base + i0 * inf.sz) (by omega)
   (fun h0 => by
    have hp : inf.ph = false := typ_noph ok (by omega)
    exact ⟨hA (by omega), H.lt _ _ _ hc hi hp, .inl ⟨b, _, inf, hc, hi, hp, rfl⟩⟩) (fun i y j u e1 e2 => by
    rw [List.getElem?_take] at e1
    split at e1
    case isFalse => cases e1
    rw [List.getElem?_drop] at e1
    obtain ⟨u', k1, k2⟩ := typ_cell ok e1 e2
    have hs : inf.sz = width c' := ok.sz rfl
    refine ⟨u', ?_, k2⟩
    rw [← k1, hs, Nat.add_mul]
    congr 2
    omega)
  rw [hlen] at h
  exact ⟨_, inf2, he, h⟩
 case h_4 b i0 m0 =>
  split at he
  case h_2 => cases he
  rename_i wr nn e c' l hc
  split at he
  case isFalse => cases he
  rename_i heq
  subst heq
  obtain ⟨inf, hi, ok⟩ := H.ok _ _ hc
  obtain ⟨inf', A, cap, hi', rfl, hcn, hA, hll⟩ := hv.lim_inv
  rw [hi] at hi'
  cases hi'
  obtain ⟨_, A', cap', h1, h2, h3⟩ := ok.sl rfl
  have hl0 : 0 < m0 → i0 + m0 ≤ l.length := fun h0 => by
   obtain ⟨A0, l0, cap0, hv0, hl0⟩ := hll h0
   rw [hv0] at h1
   cases h1
   exact hl0
  have hlen : ((l.drop i0).take m0).length = m0 := by simp; omega
  obtain ⟨inf2, h⟩ := row (S := Src X N0 ρ g) (W := W) (n := n) (l := (l.drop i0).take m0) (A := A) (cap := cap) (m := inf.m) (base := inf.base + i0 * inf.sz) (by omega)
   (fun h0 => by
    have hp : inf.ph = false := typ_noph ok (by omega)
    exact ⟨hA (by omega), H.lt _ _ _ hc hi hp, .inl ⟨b, _, inf, hc, hi, hp, rfl⟩⟩) (fun i y j u e1 e2 => by
    rw [List.getElem?_take] at e1
    split at e1
    case isFalse => cases e1
    rw [List.getElem?_drop] at e1
    obtain ⟨u', k1, k2⟩ := typ_cell ok e1 e2
    have hs : inf.sz = width c' := ok.sz rfl
    refine ⟨u', ?_, k2⟩
    rw [← k1, hs, Nat.add_mul]
    congr 2
    omega)
  rw [hlen] at h
  exact ⟨_, inf2, he, h⟩
 case h_5 b i0 o0 m0 =>
  split at he
  case h_2 => cases he
  rename_i cl hc
  obtain ⟨row0, hrow, he⟩ := Rows.get_some he
  simp only [cond_eq_ite, Nat.ble_eq] at he
  split at he
  case isFalse => cases he
  rename_i hfit
  split at he
  case h_2 => cases he
  rename_i l hl
  obtain ⟨inf, hi, ok⟩ := H.ok _ _ hc
  cases hv with | arr hi' =>
  rw [hi] at hi'
  cases hi'
  have hmap := unRows_some hl
  have hlen : l.length = m0 := by
   have h1 := congrArg List.length hmap
   have h2 : ∀ l : List AV, (chop l).length = l.length := fun l => by induction l <;> simp_all [chop]
   simp [h2] at h1
   omega
  have hp : 0 < l.length → inf.ph = false := fun h0 => by
   cases hp : inf.ph with
   | false => rfl
   | true =>
    obtain ⟨k1, k2⟩ := ok.ph hp
    have := Rows.list_length b cl.rows k2
    rw [k1] at this
    rw [List.eq_nil_of_length_eq_zero this] at hrow
    simp at hrow
  obtain ⟨inf2, h⟩ := row (S := Src X N0 ρ g) (W := W) (n := n) (l := l) (A := some ⟨inf.m, inf.base + i0 * inf.sz + o0, none⟩) (cap := m0) (m := inf.m) (base := inf.base + i0 * inf.sz + o0) (by omega)
   (fun h0 => ⟨rfl, H.lt _ _ _ hc hi (hp h0), .inl ⟨b, _, inf, hc, hi, hp h0, rfl⟩⟩) (fun i y j u e1 e2 => by
    have h1 : (chop ((row0.drop o0).take m0))[i]? = some (rowOf c y) := by rw [← hmap]; simp [e1]
    rw [chop_get, List.getElem?_take] at h1
    split at h1
    case isFalse => cases h1
    rw [List.getElem?_drop] at h1
    obtain ⟨w, h2, h3⟩ := Option.map_eq_some_iff.1 h1
    have hw : width c = 1 := by rw [← rowOf_length c y, ← h3]; rfl
    rw [← h3] at e2
    cases j with
    | succ j => simp at e2
    | zero =>
     have e3 : w = u := by simpa using e2
     subst e3
     obtain ⟨u', k1, k2, k3⟩ := ok.cell i0 row0 (o0 + i) w hrow h2
     refine ⟨u', ?_, fun ρ' => k2.plain (rowOf_plain c y w (by rw [← h3]; simp)) ρ', k3⟩
     rw [← k1, hw]
     congr 2
     omega)
  rw [hlen] at h
  exact ⟨_, inf2, he, h⟩
 case h_6 b i0 =>
  split at he
  case h_2 => cases he
  rename_i wr sl nn e l k hc
  split at he
  case h_2 => cases he
  rename_i y hy
  obtain ⟨inf, hi, ok⟩ := H.ok _ _ hc
  cases hv with | inn hi' =>
  rw [hi] at hi'
  cases hi'
  have hin := H.inn _ _ l inf hc rfl hi i0 y hy
  obtain ⟨h1, h2, h3⟩ := hin
  rw [h1]
  rcases Nat.eq_zero_or_pos y.D.length with h0 | h0
  · have hD : y.D = [] := List.eq_nil_of_length_eq_zero h0
    obtain ⟨inf2, h⟩ := row (S := Src X N0 ρ g) (W := W) (n := n) (c := .int) (l := y.D) (A := (inf.inn i0).1) (cap := (inf.inn i0).2.2) (m := 0) (base := 0) h2 (fun h => absurd h (Nat.not_lt.2 (Nat.le_of_eq h0))) (fun i z j u e => (by rw [show (y.D : List (El .int)) = [] from hD] at e; cases e))
    exact ⟨_, inf2, he, h⟩
  · obtain ⟨m, o, k1, k2, k3, k4⟩ := h3 h0
    obtain ⟨inf2, h⟩ := row (S := Src X N0 ρ g) (W := W) (n := n) (c := .int) (l := y.D) (A := (inf.inn i0).1) (cap := (inf.inn i0).2.2) (m := m) (base := o) h2 (fun _ => ⟨k1, Nat.lt_of_lt_of_le k2 H.n0, .inr ⟨k2, k3⟩⟩) (fun i z j u e e2 => by
     cases j with
     | succ j => simp [rowOf] at e2
     | zero =>
      cases e2
      refine ⟨.int .i64 z, ?_, fun ρ' => .int _ _, rfl⟩
      rw [World.cell?_of_block (H.fr.block m k2 k3)]
      simpa [width] using k4 i z e)
    exact ⟨_, inf2, he, h⟩
theorem Laid.nilOf : ∀ {vs' : List Value} {S : Nat → Prop}, VRs ρ [] vs' → Laid S No W n [] [] vs' []
 | _, _, .nil => Laid.nil
theorem readC_laid (H : HR X N0 W0 ρ g W) {c : C0} {v : AV} {v' : Value} {k : c.D → Option R} (hv : VR ρ v v') (he : readC c v g k = some x) :
 ∃ d infs, k d = some x ∧ Laid (Src X N0 ρ g) No W n [(layC c d n).1] (layC c d n).2 [v'] infs := by
 unfold readC at he
 split at he
 · exact ⟨_, [], he, .plain fun ρ' => hv.plain rfl ρ'⟩
 · exact ⟨_, [], he, .plain fun ρ' => hv.plain rfl ρ'⟩
 · exact ⟨_, [], he, .plain fun ρ' => hv.plain rfl ρ'⟩
 · obtain ⟨l, inf, h1, h2⟩ := readSl_laid (n := n) H hv he
   exact ⟨l, [inf], h1, h2⟩
 · rename_i agg c b k
   split at he
   case h_2 => cases he
   rename_i wr sl nn e c' l hc
   simp only [cond_eq_ite] at he
   split at he
   case isFalse => cases he
   rename_i hag
   split at he
   case isFalse => cases he
   rename_i heq
   subst heq
   have hag := eqB_eq hag
   subst hag
   obtain ⟨inf, hi, ok⟩ := H.ok _ _ hc
   cases hv with | mapv hi' =>
   rw [hi] at hi'
   cases hi'
   refine ⟨l, [inf], he, .one (fun ρ' h => .mapv h) (fun ρ' h => ?_) (fun hp => ⟨H.lt _ _ _ hc hi hp, fun _ => .inl ⟨b, _, inf, hc, hi, hp, rfl⟩, fun h => (by cases h)⟩) (fun l h => by cases h)⟩
   obtain ⟨h1, es, clock, h2, h3⟩ := ok.mp _ rfl
   refine ⟨fun h => (by cases h), fun h => (by rw [h1] at h; cases h), fun i r hi => (by simp [Rows.list] at hi), fun i r j u hi => (by simp [Rows.list] at hi), fun h => (by cases h), fun h => (by cases h), fun h => (by cases h), fun h => (by cases h), fun l' hl => ?_⟩
   cases hl
   refine ⟨h1, es, clock, h2, ?_⟩
   have mv : ∀ {es : List MapEntry} {l : List (Int × El c')}, MapR ρ nn es (l.map fun x => (x.1, rowOf c' x.2)) → MapR ρ' nn es (l.map fun x => (x.1, rowOf c' x.2)) := by
    intro es l
    induction l generalizing es with
    | nil => intro h; cases h; exact .nil
    | cons y l ih =>
     intro h
     cases h with | @cons e _ _ _ _ hk hv hs =>
     refine .cons hk ?_ (ih hs)
     have hpl := rowOf_plain c' y.2
     generalize rowOf c' y.2 = r at hv hpl
     unfold valOf at hv ⊢
     split at hv
     · generalize e.val = w at hv ⊢
       cases hv with | agg h1 h2 => exact .agg (h1.mem hpl ρ') h2
     · exact hv.plain (hpl _ (.head _)) ρ'
     · exact .dead
   exact mv h3
 · cases he
theorem readL_laid (H : HR X N0 W0 ρ g W) : ∀ {l : List C0} {vs : List AV} {vs' : List Value} {n : Nat} {k : DL l → Option R}, VRs ρ vs vs' → readL l vs g k = some x →
 ∃ d infs, k d = some x ∧ Laid (Src X N0 ρ g) No W n (layL l d n).1 (layL l d n).2 vs' infs
 | [], [], _, n, k, hv, he => ⟨(), [], he, .nilOf hv⟩
 | c :: l, v :: vs, _, n, k, .cons hv hs, he => by
  unfold readL at he
  obtain ⟨d, is1, h1, h2⟩ := readC_laid (n := n) H hv he
  obtain ⟨e, is2, h3, h4⟩ := readL_laid H (n := n + (layC c d n).2.length) hs h1
  exact ⟨(d, e), is1 ++ is2, h3, h2.app0 h4⟩
 | [], _ :: _, _, _, _, _, he => by cases he
 | _ :: _, [], _, _, _, _, he => by cases he
theorem readLL_laid (H : HR X N0 W0 ρ g W) : ∀ {l : List (List C0)} {vs : List AV} {vs' : List Value} {n : Nat} {k : DLL l → Option R}, VRs ρ vs vs' → readLL l vs g k = some x →
 ∃ d infs, k d = some x ∧ Laid (Src X N0 ρ g) No W n (layLL l d n).1 (layLL l d n).2 vs' infs
 | [], [], _, n, k, hv, he => ⟨(), [], he, .nilOf hv⟩
 | c :: l, v :: vs, _, n, k, .cons (v' := v') hv hs, he => by
  have no : ∀ v, (∀ b, v ≠ .ptr b 0 0) → readLL (R := R) (c :: l) (v :: vs) g k = none := fun v hv => by
   unfold readLL
   split
   case h_1 e1 _ _ => cases e1
   case h_2 e1 e2 e3 =>
    injection e2 with e4 e5
    exact absurd e4 (hv _)
   case h_3 => rfl
  by_cases hb : ∃ b, v = .ptr b 0 0
  case neg =>
   rw [no v fun b e => hb ⟨b, e⟩] at he
   cases he
  obtain ⟨b, rfl⟩ := hb
  have he : (match cellAt g b with
   | some ⟨_, _, _, _, .gen _ [row]⟩ => readL c row g fun x => readLL l vs g fun y => k (x, y)
   | _ => none) = some x := he
  split at he
  case h_2 => cases he
  rename_i wr sl nn e sz row hc
  obtain ⟨inf, hi, ok⟩ := H.ok _ _ hc
  obtain ⟨inf', hi', rfl⟩ := hv.ptr_inv
  rw [hi] at hi'
  cases hi'
  have hp : inf.ph = false := by
   cases hp : inf.ph with
   | false => rfl
   | true => have := (ok.ph hp).1; simp [Rows.len] at this
  have hrow : (Rows.list b (.gen sz [row]))[0]? = some row := rfl
  have hlen := ok.row 0 row hrow
  have hcells : ∀ j u, row[j]? = some u → ∃ u', W.cell? ⟨inf.m, inf.base + j, none⟩ = some u' ∧ VR ρ u u' ∧ u'.oneCell' = true := fun j u hj => by
   obtain ⟨u', h1, h2⟩ := ok.cell 0 row j u hrow hj
   exact ⟨u', by simpa using h1, h2⟩
  let f : Nat → Value := fun j => (W.cell? ⟨inf.m, inf.base + j, none⟩).getD undef
  have hus : VRs ρ row ((List.range row.length).map f) := VRs.of_get (by simp) fun j u u' hj hu => by
   obtain ⟨u2, h1, h2, _⟩ := hcells j u hj
   rw [List.getElem?_map, List.getElem?_range (List.getElem?_eq_some_iff.1 hj).1] at hu
   simp only [Option.map_some, Option.some.injEq] at hu
   subst hu
   simpa [f, h1] using h2
  obtain ⟨d, is1, h1, h2⟩ := readL_laid (n := n) H hus he
  have hl2 : (layL c d n).1.length = row.length := by
   have := (h2.val (fun i => if i < n then none else is1[i - n]?) (fun i inf e => by simpa using e)).length
   simpa using this
  have hl3 : ∀ (c : List C0) (d : DL c) (n : Nat), (layL c d n).1.length = c.length := fun c => by
   induction c with
   | nil => intros; rfl
   | cons c l ih => intro d n; simp [layL, ih]
  obtain ⟨e2, is2, h3, h4⟩ := readLL_laid H (n := n + (layL c d n).2.length + 1) hs h1
  have hbox := h2.boxL (inf := inf) (sz := c.length) hp (by rw [hl2, hlen]) (H.lt _ _ _ hc hi hp) (fun j u' hj => by
   have hjl : j < row.length := by
    have := (List.getElem?_eq_some_iff.1 hj).1
    simpa using this
   obtain ⟨u2, k1, k2, k3⟩ := hcells j _ (List.getElem?_eq_getElem hjl)
   rw [List.getElem?_map, List.getElem?_range hjl] at hj
   simp only [Option.map_some, Option.some.injEq] at hj
   subst hj
   simpa [f, k1] using k3) (.inl ⟨b, _, inf, hc, hi, hp, rfl⟩) (hl3 c d n).symm
  have h5 := hbox.app0 (by simpa [Nat.add_assoc] using h4)
  refine ⟨(d, e2), is1 ++ [inf] ++ is2, h3, ?_⟩
  simpa [layLL, Nat.add_assoc] using h5
 | [], _ :: _, _, _, _, _, he => by cases he
 | _ :: _, [], _, _, _, _, he => by cases he
def Own (ρ : Ren) (h g : Heap) (m : Nat) : Prop := ∃ b c i, cellAt h b = some c ∧ c.wr = true ∧ cellAt g b = none ∧ ρ b = some i ∧ i.ph = false ∧ i.m = m
theorem killOwn_cell {c : PSh} {v : AV} {h : Heap} {b : Nat} {d : Cell} (e : cellAt (killOwn c v h) b = some d) : cellAt h b = some d := by
 unfold killOwn at e
 split at e
 · exact (kill_old e).2
 · exact e
theorem killOwn_length (c : PSh) (v : AV) (h : Heap) : (killOwn c v h).length = h.length := by
 unfold killOwn
 split <;> simp
theorem useUp_cell : ∀ {l : List PSh} {vs : List AV} {h : Heap} {b : Nat} {d : Cell}, cellAt (useUp l vs h) b = some d → cellAt h b = some d
 | [], [], _, _, _, e => e
 | [], _ :: _, _, _, _, e => e
 | _ :: _, [], _, _, _, e => e
 | c :: l, v :: vs, h, b, d, e => killOwn_cell (useUp_cell (l := l) (vs := vs) e)
theorem useUp_length : ∀ (l : List PSh) (vs : List AV) (h : Heap), (useUp l vs h).length = h.length
 | [], [], _ => rfl
 | [], _ :: _, _ => rfl
 | _ :: _, [], _ => rfl
 | c :: l, v :: vs, h => (useUp_length l vs _).trans (killOwn_length c v h)
theorem HR.sub {h h' : Heap} (H : HR X N0 W0 ρ h W) (hs : ∀ b c, cellAt h' b = some c → cellAt h b = some c) (hl : h'.length = h.length) : HR X N0 W0 ρ h' W :=
 ⟨fun b c e => H.ok b c (hs b c e), fun b c b' c' i i' e hw e' => H.inj b c b' c' i i' (hs _ _ e) hw (hs _ _ e'), fun b c i e => H.own b c i (hs _ _ e),
  fun b c i e => H.lt b c i (hs _ _ e), fun b hb => H.dom b (hl ▸ hb), H.fr, H.n0, fun b c l i e => H.inn b c l i (hs _ _ e)⟩
theorem readP_laid {h h0 : Heap} (H : HR X N0 W0 ρ g W) (Hh : HR X N0 W0 ρ h0 W) (hh : ∀ b c, cellAt h b = some c → cellAt h0 b = some c) {c : PSh} {v : AV} {v' : Value} {k : c.D → Option R} (hv : VR ρ v v') (hkill : ∀ b d, cellAt h b = some d → cellAt (killOwn c v h) b = none → cellAt g b = none) (he : readP c v h g k = some x) :
 ∃ d infs O, k d = some x ∧ Laid (Src X N0 ρ g) O W n [(layP c d n).1] (layP c d n).2 [v'] infs ∧ ∀ m, O m → ∃ b d i, cellAt h b = some d ∧ d.wr = true ∧ cellAt (killOwn c v h) b = none ∧ cellAt g b = none ∧ ρ b = some i ∧ i.ph = false ∧ i.m = m := by
 unfold readP at he
 split at he
 · obtain ⟨d, infs, h1, h2⟩ := readC_laid (n := n) H hv he
   exact ⟨d, infs, No, h1, h2, fun m hm => hm.elim⟩
 · rename_i c row k
   split at he
   case h_2 => cases he
   rename_i y hy
   refine ⟨y, [], No, he, .plain fun ρ' => ?_, fun m hm => hm.elim⟩
   cases hv with | agg h1 h2 =>
   rw [← unRow_some hy] at h1
   exact .agg (h1.mem (rowOf_plain c y) ρ') h2
 · rename_i l row k
   cases hv with | agg h1 h2 =>
   obtain ⟨d, infs, h3, h4⟩ := readL_laid (n := n) H h1 he
   exact ⟨d, infs, No, h3, ⟨h4.len, fun ρ' ha => .cons (.agg (h4.val ρ' ha) h2) .nil, h4.cell, h4.src, h4.ops, h4.apart⟩, fun m hm => hm.elim⟩
 · rename_i t ls f cs k
   simp only [cond_eq_ite] at he
   split at he
   case isFalse => cases he
   rename_i heq
   have heq := beq_eq heq
   subst heq
   cases hv with | fn h1 h2 =>
   obtain ⟨d, infs, h3, h4⟩ := readLL_laid (n := n) H h2 he
   cases h1
   exact ⟨d, infs, No, h3, ⟨h4.len, fun ρ' ha => .cons (.fn .nil (h4.val ρ' ha)) .nil, h4.cell, h4.src, h4.ops, h4.apart⟩, fun m hm => hm.elim⟩
 · rename_i c e b k
   split at he
   case h_2 => cases he
   rename_i nn e' c' l hc
   simp only [cond_eq_ite] at he
   split at he
   case isFalse => cases he
   rename_i heq
   have heq := beq_eq heq
   subst heq
   split at he
   case isFalse => cases he
   rename_i heq
   subst heq
   obtain ⟨inf, hi, ok⟩ := Hh.ok _ _ (hh _ _ hc)
   have hd : cellAt (h.set b none) b = none := by rw [cellAt_set_same (cellAt_lt hc)]
   refine ⟨l, [inf], fun m => inf.ph = false ∧ m = inf.m, he, .one (fun ρ' h' => ?_) (fun ρ' h' => ?_) (fun hp => ⟨Hh.lt _ _ _ (hh _ _ hc) hi hp, fun h => (by cases h), fun _ => ⟨hp, rfl⟩⟩) (fun l h => by cases h), ?_⟩
   · obtain ⟨inf2, A, a1, a2, h2, rfl, h3⟩ := hv.whole_inv
     rw [hi] at h2
     cases h2
     exact .whole h' h3
   · refine ⟨fun _ => ok.sz rfl, fun h => ok.ph h, fun i r hi => ok.row i r hi, fun i r j u hi hj => ?_, fun h hp => ok.wr rfl hp, fun _ => ok.sl rfl, fun _ h => (by cases h), fun _ _ hne => ok.own rfl rfl hne, fun l hl => (by cases hl)⟩
     simp only [Rows.list, List.getElem?_map, Option.map_eq_some_iff] at hi
     obtain ⟨y, k1, rfl⟩ := hi
     obtain ⟨u', k2, k3, k4⟩ := typ_cell ok k1 hj
     have hs : inf.sz = width c' := ok.sz rfl
     exact ⟨u', by rw [hs]; exact k2, k3 ρ', k4⟩
   · rintro m ⟨hp, rfl⟩
     exact ⟨b, _, inf, hc, rfl, hd, hkill b _ hc hd, hi, hp, rfl⟩
 · cases he
theorem readA_laid (H : HR X N0 W0 ρ g W) : ∀ {l : List PSh} {vs : List AV} {vs' : List Value} {h h0 : Heap} {n : Nat} {k : DA l → Option R}, HR X N0 W0 ρ h0 W → (∀ b c, cellAt h b = some c → cellAt h0 b = some c) → VRs ρ vs vs' →
 (∀ b d, cellAt h b = some d → cellAt (useUp l vs h) b = none → cellAt g b = none) → (∀ b d i, cellAt h b = some d → d.wr = true → cellAt g b = none → ρ b = some i → i.ph = false → ¬ Src X N0 ρ g i.m) → readA l vs h g k = some x →
 ∃ d infs, k d = some x ∧ Laid (Src X N0 ρ g) (Own ρ h g) W n (layA l d n).1 (layA l d n).2 vs' infs
 | [], [], _, h, h0, n, k, Hh, hh, .nil, _, _, he => ⟨(), [], he, Laid.nil⟩
 | c :: l, v :: vs, _, h, h0, n, k, Hh, hh, .cons hv hs, hg, hsep, he => by
  unfold readA at he
  have hsub : ∀ b d, cellAt (killOwn c v h) b = some d → cellAt h b = some d := fun b d => killOwn_cell
  obtain ⟨d, is1, O, h1, h2, h3⟩ := readP_laid (n := n) H Hh hh hv (fun b d e e' => hg b d e (by
   cases hq : cellAt (useUp (c :: l) (v :: vs) h) b with
   | none => rfl
   | some q =>
    have := useUp_cell (l := l) (vs := vs) (h := killOwn c v h) hq
    rw [e'] at this
    cases this)) he
  obtain ⟨e, is2, h4, h5⟩ := readA_laid H (n := n + (layP c d n).2.length) Hh (fun b d e => hh b d (hsub b d e)) hs (fun b d e => hg b d (hsub b d e)) (fun b d i e => hsep b d i (hsub b d e)) h1
  refine ⟨(d, e), is1 ++ is2, h4, (h2.append h5 (fun m hm ho => ?_) (fun m hm ho => ?_) (fun m ho ho' => ?_)).mono fun m ho => ?_⟩
  · obtain ⟨b, d, i, e1, e2, _, e3, e4, e5, rfl⟩ := h3 m ho
    exact hsep b d i e1 e2 e3 e4 e5 hm
  · obtain ⟨b, d, i, e1, e2, e3, e4, e5, rfl⟩ := ho
    exact hsep b d i (hsub _ _ e1) e2 e3 e4 e5 hm
  · obtain ⟨b, d, i, e1, e2, e0, e3, e4, e5, e6⟩ := h3 m ho
    obtain ⟨b', d', i', k1, k2, k3, k4, k5, k6⟩ := ho'
    refine Hh.inj b d b' d' i i' (hh _ _ e1) e2 (hh _ _ (hsub _ _ k1)) ?_ e4 k4 e5 k5 (e6.trans k6.symm)
    rintro rfl
    rw [e0] at k1
    cases k1
  · rcases ho with ho | ho
    · obtain ⟨b, d, i, e1, e2, _, e3, e4, e5, e6⟩ := h3 m ho
      exact ⟨b, d, i, e1, e2, e3, e4, e5, e6⟩
    · obtain ⟨b, d, i, e1, e2, e3, e4, e5, e6⟩ := ho
      exact ⟨b, d, i, hsub _ _ e1, e2, e3, e4, e5, e6⟩
 | [], _ :: _, _, _, _, _, _, _, _, _, _, _, he => by cases he
 | _ :: _, [], _, _, _, _, _, _, _, _, _, _, he => by cases he
theorem Laid.heap {S O : Nat → Prop} {vs : List AV} {hs : Heap} {vs' : List Value} {infs : List BI} (h : Laid S O W 0 vs hs vs' infs) : HR O W.heap.size W (fun b => infs[b]?) hs W := by
 have ha : At (fun b => infs[b]?) 0 infs := fun i inf e => by simpa using e
 have hget : ∀ b c, cellAt hs b = some c → ∃ inf, infs[b]? = some inf := fun b c e => ⟨infs[b]'(by rw [h.len]; exact cellAt_lt e), List.getElem?_eq_getElem _⟩
 refine ⟨fun b c e => ?_, fun b c b' c' i i' e hw e' hne => h.apart b b' c c' i i' e e' hw hne, fun b c i e hw hi hp => .inl ((h.src b c i e hi hp).2.2 hw), fun b c i e hi hp => (h.src b c i e hi hp).1, fun b hb => ?_, Fr.refl _ _ _, Nat.le_refl _, fun b c l i e hl => absurd hl (h.ops b c l e)⟩
 · obtain ⟨inf, hi⟩ := hget b c e
   exact ⟨inf, hi, by simpa using h.cell _ ha b c inf e hi⟩
 · exact List.getElem?_eq_none (by rw [h.len]; exact hb)
end
end Go.Abs
