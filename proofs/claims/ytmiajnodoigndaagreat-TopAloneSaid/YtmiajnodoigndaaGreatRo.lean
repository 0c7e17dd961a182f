/- Own: How a slice of ops reads as an argument. -/
import Derived.Test.YtmiajnodoigndaaGreatAbsC
import Derived.Test.YtmiajnodoigndaaGreatProg
import Derived.Deep.Slices
import Derived.Deep.Fields
import Derived.ChangeSlices
import Derived.ChangeArms
import Derived.WalkKit
import Derived.ProofKit
import Derived.OpenShut
import Derived.ShutString
import Derived.ChangeOld
import Derived.Below
import Derived.SizedLaws
import Derived.Carry
import Derived.KernelRfl
namespace Go.Abs
open Go.ChangeShapes Go.WideShapes Go.ChangeAt Go.RowKit Go.Deep Go.Proofs
set_option linter.unusedVariables false
set_option linter.constructorNameAsVariable false
set_option maxRecDepth 100000
set_option linter.unusedSimpArgs false
section
variable {H : Type} {enc : TypeId × Value → H} {w : World} {base : Nat} {spare : Nat → Bool} {held : Bool}
theorem cells47 : Tryz.prog.cellsOf 47 = 14 := by kernel_rfl
theorem cells45 : Tryz.prog.cellsOf 45 = 6 := by kernel_rfl
theorem cells39 : Tryz.prog.cellsOf 39 = 1 := by kernel_rfl
theorem cells3 : Tryz.prog.cellsOf 3 = 1 := by kernel_rfl
theorem spot_none {a : Addr} {v : Value} (h : w.cell? a = some v) : a.spot = none := by
 unfold World.cell? at h
 split at h
 · split at h
   · cases h
   · rename_i hs
     cases hq : a.spot with
     | none => rfl
     | some x => rw [hq] at hs; exact absurd rfl hs
 · cases h
theorem addr_add (m o n : Nat) : (⟨m, o, none⟩ : Addr).add n = ⟨m, o + n, none⟩ := by
 unfold Addr.add
 split
 · rename_i h
   subst h
   rfl
 · rfl
def InnOK (w : World) (D : List Int) (v : Option Addr × Nat × Nat) : Prop :=
 v.2.1 = D.length ∧ D.length ≤ v.2.2 ∧ D.length ≤ 9223372036854775807 ∧ (0 < D.length → ∃ m o, v.1 = some ⟨m, o, none⟩ ∧ m < w.heap.size ∧ ∀ (j : Nat) (d : Int), D[j]? = some d → w.cell? ⟨m, o + j, none⟩ = some (.int .i64 d))
theorem inn_of {n : Nat} {c : Value} {y : DataW H × List MemPlace} (h : DataW.trod enc Tryz.prog w base spare held n 39 [c] = some y) : ∃ (D : List Int) (v : Option Addr × Nat × Nat), c = .slice v.1 v.2.1 v.2.2 ∧ InnOK w D v := by
 rcases open_ints Tryz.underlying39 Tryz.underlying3 cells3 h with ⟨hcs, _⟩ | ⟨a, len, cap, zs, hcs, _, hl, hm, hz, _, hcell, _⟩
 · simp only [List.cons.injEq, and_true] at hcs
   exact ⟨[], (none, 0, 0), hcs, rfl, Nat.le_refl _, by simp, fun h => by simp at h⟩
 · simp only [List.cons.injEq, and_true] at hcs
   have hlz : len ≤ zs.length := by
    rw [hz]
    split <;> omega
   have hlt : (zs.take len).length = len := by
    rw [List.length_take]
    omega
   refine ⟨zs.take len, (some a, len, cap), hcs, hlt.symm, by rw [hlt]; exact hl, by rw [hlt]; exact Nat.le_trans hl hm, fun h0 => ?_⟩
   have h0 : 0 < len := by omega
   have hc0 := hcell 0 (by omega)
   have hsp := spot_none hc0
   have hsp : a.spot = none := hsp
   obtain ⟨m, o, s⟩ := a
   subst hsp
   refine ⟨m, o, rfl, World.block_lt_of_cell? w _ hc0, fun j d hd => ?_⟩
   have hj : j < len := by
    have := (List.getElem?_eq_some_iff.1 hd).1
    omega
   have := hcell j (by omega)
   rw [List.getElem?_take, if_pos hj] at hd
   rw [List.getD_eq_getElem?_getD, hd] at this
   rw [addr_add] at this
   exact this
theorem int_of {n : Nat} {c : Value} {y : DataW H × List MemPlace} (h : DataW.trod enc Tryz.prog w base spare held n 3 [c] = some y) : ∃ z, c = .int .i64 z := by
 obtain ⟨z, e, _⟩ := DataW.trod_int Tryz.underlying3 h
 exact ⟨z, by simpa using e⟩
theorem spec_of {n : Nat} {c0 c1 c2 c3 c4 c5 : Value} {y : DataW H × List MemPlace} (h : DataW.trod enc Tryz.prog w base spare held n 45 [c0, c1, c2, c3, c4, c5] = some y) :
 ∃ s : Spec, c0 = .int .i64 s.C ∧ c1 = .int .i64 s.T ∧ c2 = .int .i64 s.Max ∧ c3 = .int .i64 s.M ∧ c4 = .int .i64 s.K ∧ c5 = .int .i64 s.E := by
 obtain ⟨xs, m, _, _, _, hlen, hg⟩ := DataW.trod_struct Tryz.underlying45 h
 match xs, hlen with
 | [y0, y1, y2, y3, y4, y5], _ =>
  have g0 : DataW.trod enc Tryz.prog w base spare held m 3 (([c0, c1, c2, c3, c4, c5].drop 0).take (Tryz.prog.cellsOf 3)) = some y0 := hg 0 _ rfl
  rw [cells3] at g0
  have g1 : DataW.trod enc Tryz.prog w base spare held m 3 (([c0, c1, c2, c3, c4, c5].drop 1).take (Tryz.prog.cellsOf 3)) = some y1 := hg 1 _ rfl
  rw [cells3] at g1
  have g2 : DataW.trod enc Tryz.prog w base spare held m 3 (([c0, c1, c2, c3, c4, c5].drop 2).take (Tryz.prog.cellsOf 3)) = some y2 := hg 2 _ rfl
  rw [cells3] at g2
  have g3 : DataW.trod enc Tryz.prog w base spare held m 3 (([c0, c1, c2, c3, c4, c5].drop 3).take (Tryz.prog.cellsOf 3)) = some y3 := hg 3 _ rfl
  rw [cells3] at g3
  have g4 : DataW.trod enc Tryz.prog w base spare held m 3 (([c0, c1, c2, c3, c4, c5].drop 4).take (Tryz.prog.cellsOf 3)) = some y4 := hg 4 _ rfl
  rw [cells3] at g4
  have g5 : DataW.trod enc Tryz.prog w base spare held m 3 (([c0, c1, c2, c3, c4, c5].drop 5).take (Tryz.prog.cellsOf 3)) = some y5 := hg 5 _ rfl
  rw [cells3] at g5
  obtain ⟨z0, e0⟩ := int_of g0
  obtain ⟨z1, e1⟩ := int_of g1
  obtain ⟨z2, e2⟩ := int_of g2
  obtain ⟨z3, e3⟩ := int_of g3
  obtain ⟨z4, e4⟩ := int_of g4
  obtain ⟨z5, e5⟩ := int_of g5
  exact ⟨⟨z0, z1, z2, z3, z4, z5⟩, e0, e1, e2, e3, e4, e5⟩
theorem op_of {n : Nat} {cs : List Value} {y : DataW H × List MemPlace} (h : DataW.trod enc Tryz.prog w base spare held n 47 cs = some y) :
 ∃ (o : OpD) (v : Option Addr × Nat × Nat), cs = [.int .i64 o.Kind, .int .i64 o.ID, .int .i64 o.S.C, .int .i64 o.S.T, .int .i64 o.S.Max, .int .i64 o.S.M, .int .i64 o.S.K, .int .i64 o.S.E, .int .i64 o.T, .int .i64 o.Max, .int .i64 o.Within, .int .i64 o.C, .int .i64 o.V, .slice v.1 v.2.1 v.2.2] ∧ InnOK w o.D v := by
 obtain ⟨xs, m, _, _, hcl, hlen, hg⟩ := DataW.trod_struct Tryz.underlying47 h
 rw [cells47] at hcl
 match cs, hcl with
 | [c0, c1, c2, c3, c4, c5, c6, c7, c8, c9, c10, c11, c12, c13], _ =>
 match xs, hlen with
 | [y0, y1, y2, y3, y4, y5, y6, y7, y8], _ =>
  have g0 : DataW.trod enc Tryz.prog w base spare held m 3 (([c0, c1, c2, c3, c4, c5, c6, c7, c8, c9, c10, c11, c12, c13].drop 0).take (Tryz.prog.cellsOf 3)) = some y0 := hg 0 _ rfl
  rw [cells3] at g0
  have g1 : DataW.trod enc Tryz.prog w base spare held m 3 (([c0, c1, c2, c3, c4, c5, c6, c7, c8, c9, c10, c11, c12, c13].drop 1).take (Tryz.prog.cellsOf 3)) = some y1 := hg 1 _ rfl
  rw [cells3] at g1
  have g2 : DataW.trod enc Tryz.prog w base spare held m 45 (([c0, c1, c2, c3, c4, c5, c6, c7, c8, c9, c10, c11, c12, c13].drop 2).take (Tryz.prog.cellsOf 45)) = some y2 := hg 2 _ rfl
  rw [cells45] at g2
  have g3 : DataW.trod enc Tryz.prog w base spare held m 3 (([c0, c1, c2, c3, c4, c5, c6, c7, c8, c9, c10, c11, c12, c13].drop 8).take (Tryz.prog.cellsOf 3)) = some y3 := hg 3 _ rfl
  rw [cells3] at g3
  have g4 : DataW.trod enc Tryz.prog w base spare held m 3 (([c0, c1, c2, c3, c4, c5, c6, c7, c8, c9, c10, c11, c12, c13].drop 9).take (Tryz.prog.cellsOf 3)) = some y4 := hg 4 _ rfl
  rw [cells3] at g4
  have g5 : DataW.trod enc Tryz.prog w base spare held m 3 (([c0, c1, c2, c3, c4, c5, c6, c7, c8, c9, c10, c11, c12, c13].drop 10).take (Tryz.prog.cellsOf 3)) = some y5 := hg 5 _ rfl
  rw [cells3] at g5
  have g6 : DataW.trod enc Tryz.prog w base spare held m 3 (([c0, c1, c2, c3, c4, c5, c6, c7, c8, c9, c10, c11, c12, c13].drop 11).take (Tryz.prog.cellsOf 3)) = some y6 := hg 6 _ rfl
  rw [cells3] at g6
  have g7 : DataW.trod enc Tryz.prog w base spare held m 3 (([c0, c1, c2, c3, c4, c5, c6, c7, c8, c9, c10, c11, c12, c13].drop 12).take (Tryz.prog.cellsOf 3)) = some y7 := hg 7 _ rfl
  rw [cells3] at g7
  have g8 : DataW.trod enc Tryz.prog w base spare held m 39 (([c0, c1, c2, c3, c4, c5, c6, c7, c8, c9, c10, c11, c12, c13].drop 13).take (Tryz.prog.cellsOf 39)) = some y8 := hg 8 _ rfl
  rw [cells39] at g8
  obtain ⟨z0, e0⟩ := int_of g0
  obtain ⟨z1, e1⟩ := int_of g1
  obtain ⟨s, s0, s1, s2, s3, s4, s5⟩ := spec_of g2
  obtain ⟨z3, e3⟩ := int_of g3
  obtain ⟨z4, e4⟩ := int_of g4
  obtain ⟨z5, e5⟩ := int_of g5
  obtain ⟨z6, e6⟩ := int_of g6
  obtain ⟨z7, e7⟩ := int_of g7
  obtain ⟨D, v, e8, hD⟩ := inn_of g8
  exact ⟨⟨z0, z1, s, z3, z4, z5, z6, z7, D⟩, v, by rw [e0, e1, s0, s1, s2, s3, s4, s5, e3, e4, e5, e6, e7, e8], hD⟩
theorem list_of {α : Type} {n : Nat} {Q : Nat → α → Prop} (h : ∀ i, i < n → ∃ x, Q i x) : ∃ l : List α, l.length = n ∧ ∀ i x, l[i]? = some x → Q i x := by
 induction n with
 | zero => exact ⟨[], rfl, fun i x h => by simp at h⟩
 | succ n ih =>
  obtain ⟨l, hl, hq⟩ := ih (fun i hi => h i (by omega))
  obtain ⟨x, hx⟩ := h n (by omega)
  refine ⟨l ++ [x], by simp [hl], fun i y hy => ?_⟩
  by_cases hi : i < l.length
  · rw [List.getElem?_append_left hi] at hy
    exact hq i y hy
  · obtain ⟨hi2, _⟩ := List.getElem?_eq_some_iff.1 hy
    simp at hi2
    have : i = n := by omega
    subst this
    rw [← hl] at hy
    simp at hy
    subst hy
    exact hx
theorem opsRows_at (b : Nat) : ∀ (l : List OpD) (i k : Nat) (row : List AV), (opsRows b k l)[i]? = some row → ∃ x, l[i]? = some x ∧ row = OpD.row x b (k + i)
 | [], i, k, row, h => by simp [opsRows] at h
 | x :: l, 0, k, row, h => ⟨x, rfl, by simpa [opsRows] using h.symm⟩
 | x :: l, i + 1, k, row, h => by
  obtain ⟨y, h1, h2⟩ := opsRows_at b l i (k + 1) row (by simpa [opsRows] using h)
  exact ⟨y, by simpa using h1, by rw [h2]; congr 1; omega⟩
theorem ops_of {r : Reach} {b0 : Nat} {v : Value} {d : DataW H} {p : List MemPlace} (hv : Value.okWide Tryz.prog w r b0 22 v) (h : DataW.Trod enc Tryz.prog w base spare held 22 v d p) :
 ∃ (l : List OpD) (ρ : Ren), HR (fun _ => False) w.heap.size w ρ [some ⟨false, true, false, 0, .ops l⟩] w ∧ VR ρ (.whole 0) v ∧ ∀ o ∈ l, o.D.length ≤ 9223372036854775807 := by
 have one : ∀ {c : Cell} {b : Nat} {e : Cell}, cellAt [some c] b = some e → b = 0 ∧ e = c := fun {c b e} h => by
  have := cellAt_lt h
  have hb : b = 0 := by simp at this; omega
  subst hb
  exact ⟨rfl, by simpa [cellAt] using h.symm⟩
 obtain ⟨A, len, cap, rfl⟩ := okWide_slice Tryz.underlying22 hv
 obtain ⟨fuel, hf⟩ := h
 have build : ∀ (l : List OpD) (inf : BI), CellOK (fun b => if b = 0 then some inf else none) w 0 ⟨false, true, false, 0, .ops l⟩ inf → (inf.ph = false → inf.m < w.heap.size) → inf.v = .slice A len cap → (∀ (i : Nat) (x : OpD), l[i]? = some x → InnOK w x.D (inf.inn i)) →
  ∃ (l : List OpD) (ρ : Ren), HR (fun _ => False) w.heap.size w ρ [some ⟨false, true, false, 0, .ops l⟩] w ∧ VR ρ (.whole 0) (.slice A len cap) ∧ ∀ o ∈ l, o.D.length ≤ 9223372036854775807 := fun l inf hok hm hv hin => by
  refine ⟨l, fun b => if b = 0 then some inf else none, ⟨fun b c e => ?_, fun b c b' c' i i' e hw => ?_, fun b c i e hw => ?_, fun b c i e hi hp => ?_, fun b hb => ?_, Fr.refl _ _ _, Nat.le_refl _, fun b c l' i e hr hi j x hx => ?_⟩, .whole (inf := inf) (by simp) hv, fun o ho => ?_⟩
  · obtain ⟨rfl, rfl⟩ := one e
    exact ⟨inf, by simp, hok⟩
  · obtain ⟨rfl, rfl⟩ := one e
    cases hw
  · obtain ⟨rfl, rfl⟩ := one e
    cases hw
  · obtain ⟨rfl, rfl⟩ := one e
    simp at hi
    subst hi
    exact hm hp
  · have hb : 1 ≤ b := by simpa using hb
    exact if_neg (by omega)
  · obtain ⟨rfl, rfl⟩ := one e
    cases hr
    simp at hi
    subst hi
    obtain ⟨k1, k2, _, k4⟩ := hin j x hx
    exact ⟨k1, k2, fun h0 => by
     obtain ⟨m, o, q1, q2, q3⟩ := k4 h0
     exact ⟨m, o, q1, q2, fun h => h, q3⟩⟩
  · obtain ⟨j, hj⟩ := List.mem_iff_getElem?.1 ho
    exact (hin j o hj).2.2.1
 rcases open_slice Tryz.underlying22 hf with ⟨hcs, _⟩ | ⟨a, len', cap', m, n, Dd, Pl, hcs, _, hl, hm, hmm, _, hi⟩
 · simp [Value.cells] at hcs
   obtain ⟨rfl, rfl, rfl⟩ := hcs
   exact build [] ⟨0, 0, 14, true, .slice none 0 0, fun _ => (none, 0, 0)⟩ ⟨fun _ => rfl, fun _ => ⟨rfl, rfl⟩, fun i row hi => (by simp [Rows.list, opsRows] at hi), fun i row j u hi => (by simp [Rows.list, opsRows] at hi), fun h => (by cases h), fun _ => ⟨rfl, none, 0, rfl, Nat.le_refl _, fun h => by simp [Rows.len] at h⟩, fun _ h => (by cases h), fun h => (by cases h), fun l hl => (by simp [Rows.ents] at hl)⟩ (fun h => by cases h) rfl (fun i x hx => by simp at hx)
 · simp [Value.cells] at hcs
   obtain ⟨rfl, rfl, rfl⟩ := hcs
   have hmm2 : len ≤ m := by
    rw [hmm]
    split <;> omega
   obtain ⟨l, hll, hq⟩ := list_of (n := len) (Q := fun i (x : OpD × (Option Addr × Nat × Nat)) => InnOK w x.1.D x.2 ∧ ∀ (j : Nat) (u : Value), [Value.int .i64 x.1.Kind, .int .i64 x.1.ID, .int .i64 x.1.S.C, .int .i64 x.1.S.T, .int .i64 x.1.S.Max, .int .i64 x.1.S.M, .int .i64 x.1.S.K, .int .i64 x.1.S.E, .int .i64 x.1.T, .int .i64 x.1.Max, .int .i64 x.1.Within, .int .i64 x.1.C, .int .i64 x.1.V, .slice x.2.1 x.2.2.1 x.2.2.2][j]? = some u → w.cell? ((a.add (i * 14)).add j) = some u) (fun i hil => by
    obtain ⟨cs', hc, ht⟩ := hi i (by omega)
    obtain ⟨o, v, rfl, hD⟩ := op_of ht
    rw [cells47] at hc
    obtain ⟨_, _, hat⟩ := World.cells?_some hc
    refine ⟨(o, v), hD, fun j u hj => ?_⟩
    have hjl : j < 14 := by
     have := (List.getElem?_eq_some_iff.1 hj).1
     simpa using this
    rw [hat j hjl]
    exact hj)
   rcases Nat.eq_zero_or_pos len with h0 | h0
   · subst h0
     exact build [] ⟨0, 0, 14, true, .slice (some a) 0 cap, fun _ => (none, 0, 0)⟩ ⟨fun _ => rfl, fun _ => ⟨rfl, rfl⟩, fun i row hi => (by simp [Rows.list, opsRows] at hi), fun i row j u hi => (by simp [Rows.list, opsRows] at hi), fun h => (by cases h), fun _ => ⟨rfl, some a, cap, rfl, Nat.zero_le _, fun h => by simp [Rows.len] at h⟩, fun _ h => (by cases h), fun h => (by cases h), fun l hl => (by simp [Rows.ents] at hl)⟩ (fun h => by cases h) rfl (fun i x hx => by simp at hx)
   · have hl0 : l[0]? = some (l[0]'(by omega)) := List.getElem?_eq_getElem (by omega)
     have hc0 := (hq 0 _ hl0).2 0 _ rfl
     have hsp : a.spot = none := spot_none hc0
     have hblk : a.block < w.heap.size := World.block_lt_of_cell? w _ hc0
     obtain ⟨mb, mo, ms⟩ := a
     subst hsp
     have hlen : (l.map (·.1)).length = len := by simp [hll]
     refine build (l.map (·.1)) ⟨mb, mo, 14, false, .slice (some ⟨mb, mo, none⟩) len cap, fun i => ((l[i]?).map (·.2)).getD (none, 0, 0)⟩ ⟨fun _ => rfl, fun h => (by cases h), fun i row hi => ?_, fun i row j u hi hj => ?_, fun h => (by cases h), fun _ => ⟨rfl, some ⟨mb, mo, none⟩, cap, ?_, ?_, fun _ => rfl⟩, fun _ h => (by cases h), fun h => (by cases h), fun l hl => (by simp [Rows.ents] at hl)⟩ (fun _ => hblk) rfl (fun i x hx => ?_)
     · obtain ⟨x, _, rfl⟩ := opsRows_at 0 _ i 0 row hi
       rfl
     · obtain ⟨x, hx, rfl⟩ := opsRows_at 0 _ i 0 row hi
       rw [List.getElem?_map] at hx
       obtain ⟨y, hy, rfl⟩ := Option.map_eq_some_iff.1 hx
       obtain ⟨_, hcell⟩ := hq i y hy
       have hadd : ∀ j, ((⟨mb, mo, none⟩ : Addr).add (i * 14)).add j = ⟨mb, mo + i * 14 + j, none⟩ := fun j => by rw [addr_add, addr_add]
       have go : ∀ (j : Nat) (u' : Value) (u : AV), w.cell? (((⟨mb, mo, none⟩ : Addr).add (i * 14)).add j) = some u' → VR (fun b => if b = 0 then some ⟨mb, mo, 14, false, .slice (some ⟨mb, mo, none⟩) len cap, fun i => ((l[i]?).map (·.2)).getD (none, 0, 0)⟩ else none) u u' → u'.oneCell' = true → ∃ u', w.cell? ⟨mb, mo + i * 14 + j, none⟩ = some u' ∧ VR (fun b => if b = 0 then some ⟨mb, mo, 14, false, .slice (some ⟨mb, mo, none⟩) len cap, fun i => ((l[i]?).map (·.2)).getD (none, 0, 0)⟩ else none) u u' ∧ u'.oneCell' = true := fun j u' u h1 h2 h3 => ⟨u', by rw [← hadd]; exact h1, h2, h3⟩
       match j, hj with
       | 0, hj => cases hj; exact go 0 _ _ (hcell 0 _ rfl) (.int _ _) rfl
       | 1, hj => cases hj; exact go 1 _ _ (hcell 1 _ rfl) (.int _ _) rfl
       | 2, hj => cases hj; exact go 2 _ _ (hcell 2 _ rfl) (.int _ _) rfl
       | 3, hj => cases hj; exact go 3 _ _ (hcell 3 _ rfl) (.int _ _) rfl
       | 4, hj => cases hj; exact go 4 _ _ (hcell 4 _ rfl) (.int _ _) rfl
       | 5, hj => cases hj; exact go 5 _ _ (hcell 5 _ rfl) (.int _ _) rfl
       | 6, hj => cases hj; exact go 6 _ _ (hcell 6 _ rfl) (.int _ _) rfl
       | 7, hj => cases hj; exact go 7 _ _ (hcell 7 _ rfl) (.int _ _) rfl
       | 8, hj => cases hj; exact go 8 _ _ (hcell 8 _ rfl) (.int _ _) rfl
       | 9, hj => cases hj; exact go 9 _ _ (hcell 9 _ rfl) (.int _ _) rfl
       | 10, hj => cases hj; exact go 10 _ _ (hcell 10 _ rfl) (.int _ _) rfl
       | 11, hj => cases hj; exact go 11 _ _ (hcell 11 _ rfl) (.int _ _) rfl
       | 12, hj => cases hj; exact go 12 _ _ (hcell 12 _ rfl) (.int _ _) rfl
       | 13, hj =>
        cases hj
        refine go 13 _ _ (hcell 13 _ rfl) ?_ rfl
        rw [Nat.zero_add]
        have := VR.inn (ρ := fun b => if b = 0 then some (⟨mb, mo, 14, false, .slice (some ⟨mb, mo, none⟩) len cap, fun i => ((l[i]?).map (·.2)).getD (none, 0, 0)⟩ : BI) else none) (b := 0) (i := i) rfl
        simp only [hy, Option.map_some, Option.getD_some] at this
        exact this
       | j + 14, hj => simp [OpD.row] at hj
     · show _ = Value.slice _ (l.map (·.1)).length _
       rw [hlen]
     · show (l.map (·.1)).length ≤ cap
       omega
     · rw [List.getElem?_map] at hx
       obtain ⟨y, hy, rfl⟩ := Option.map_eq_some_iff.1 hx
       show InnOK w y.1.D (((l[i]?).map (·.2)).getD (none, 0, 0))
       rw [hy]
       exact (hq i y hy).1
end
end Go.Abs
