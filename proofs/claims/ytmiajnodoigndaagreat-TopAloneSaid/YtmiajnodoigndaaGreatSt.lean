/- Own: A loop over an iterator of one's own: the ends of jobs up to a time. -/
import Derived.Test.YtmiajnodoigndaaGreatGr
import Derived.Test.YtmiajnodoigndaaGreatPlA
import Derived.RangeFuncFrom
import Derived.RangeFuncLeaves
import Derived.Shelf.Abstract
import Derived.WalkKit
import Derived.OwnWalkIn
import Derived.TacticsInMore
import Derived.LoopNIn
import Derived.LoopIn
import Derived.Maps.AppendAt
import Derived.OwnWalk
namespace Go.Abs
open Go.RowKit Go.Proofs Go.Shelf
set_option linter.unusedVariables false
set_option linter.unusedSimpArgs false
attribute [local go_sem] Oper.semAt_some
theorem stLen (by_ : Int) : ∀ (n : Nat) (from_ : Int), (stepsL from_ by_ n).length = n
  | 0, _ => rfl
  | n + 1, _ => by rw [stepsL, List.length_cons, stLen by_ n]
def stLeft (by_ upto : Int) : Value → Nat
  | .int _ n => ((upto - n) / by_ + 1).toNat
  | _ => 0
theorem st_none {n by_ upto : Int} (hb : 1 ≤ by_) (h : ¬ n ≤ upto) : ((upto - n) / by_ + 1).toNat = 0 := by
  have hq : (upto - n) / by_ < 0 := Int.ediv_neg_of_neg_of_pos (by omega) (by omega)
  omega
theorem st_more {n by_ upto : Int} (hb : 1 ≤ by_) (h : n ≤ upto) : ((upto - n) / by_ + 1).toNat = ((upto - (n + by_)) / by_ + 1).toNat + 1 := by
  have e : upto - n = (upto - (n + by_)) + 1 * by_ := by omega
  have hq : 0 ≤ (upto - n) / by_ := Int.ediv_nonneg (by omega) (by omega)
  rw [e, Int.add_mul_ediv_right _ _ (by omega)] at hq ⊢
  omega
set_option maxRecDepth 100000 in
set_option maxHeartbeats 1000000 in
theorem each1_in (F : Fence) (n : Nat) (h201 : F.fn 201) (hro : F.round = none) (hn : 1 ≤ n) (l Bn : Nat) (from_ by_ upto : Int) (hb : 1 ≤ by_ ∧ by_ ≤ 1000000) (hf : 0 ≤ from_) (hu : upto ≤ 2199023255552) (J Jx : List Int → World → Prop)
    (hY : ∀ pre x W, J pre W → pre.length < (stepsP from_ by_ upto).length → YieldAt F (n - 1) P l #[.int .i64 x] W fun e W' =>
      (e = .returned (.bool true) ∧ J (pre ++ [x]) W' ∧ W'.heap[Bn]? = W.heap[Bn]?) ∨ (e = .returned (.bool false) ∧ Jx (pre ++ [x]) W'))
    (W : World) (hB : W.heap[Bn]? = some (.cells #[.int .i64 from_, .int .i64 by_, .int .i64 upto] 256 (0, 0))) (h0 : J [] W) :
    CallsIn F n P 201 #[.func (.yield l) #[] #[], .pointer (some ⟨Bn, 0, none⟩)] W fun e W' => (∃ v, e = .returned v) ∧
      ((∃ ys, ys = stepsP from_ by_ upto ∧ J ys W') ∨ (∃ pre, pre <+: stepsP from_ by_ upto ∧ Jx pre W')) := by
  have hc0 : W.cell? ⟨Bn, 0, none⟩ = some (.int .i64 from_) := by simp [World.cell?, hB]
  refine callsIn_of_wp Tryz.func201 rfl h201 ?_ hro
  simp only [Tryz.ntmps201, List.size_toArray, List.length_cons, List.length_nil, Nat.reduceAdd, Nat.reduceSub, Array.replicate_succ, Array.replicate_zero, List.push_toArray, List.append_toArray, List.nil_append, List.cons_append]
  gi_wp2
  gi_loopw [3] (fun p wr => ∃ (pre : List Int) (m : Int), p = .int .i64 m ∧ stepsP from_ by_ upto = pre ++ stepsL m by_ ((upto - m) / by_ + 1).toNat ∧ 0 ≤ m ∧ J pre wr ∧ wr.heap[Bn]? = some (.cells #[.int .i64 from_, .int .i64 by_, .int .i64 upto] 256 (0, 0)))
    (fun p wr => stLeft by_ upto p)
  case atStart => exact ⟨[], from_, rfl, rfl, hf, h0, hB⟩
  case round =>
    obtain ⟨pre, m, rfl, hx, hm, hJs, hBs⟩ := hrel
    have hc1 : wr.cell? ⟨Bn, 1, none⟩ = some (.int .i64 by_) := by simp [World.cell?, hBs]
    have hc2 : wr.cell? ⟨Bn, 2, none⟩ = some (.int .i64 upto) := by simp [World.cell?, hBs]
    by_cases hle : m ≤ upto
    · have hmore := st_more hb.1 hle
      rw [hmore, stepsL] at hx
      have hw : wI (m + by_) = m + by_ := wI_eq (by omega) (by omega)
      rw [hw] at hx
      obtain ⟨fn, tmps, assign, body, hy, hR⟩ := hY pre m wr hJs (by rw [hx]; simp)
      gi_wp2
      refine hR.mono ?_
      rintro e W3 (⟨rfl, hJ3, hk3⟩ | ⟨rfl, hJx3⟩)
      · have hBs3 := hk3.trans hBs
        have hd1 : W3.cell? ⟨Bn, 1, none⟩ = some (.int .i64 by_) := by simp [World.cell?, hBs3]
        gi_wp2
        go_roundw
        case rel => exact ⟨pre ++ [m], m + by_, rfl, by rw [hx]; simp, by omega, hJ3, hBs3⟩
        case measure =>
          show ((upto - (m + by_)) / by_ + 1).toNat < ((upto - m) / by_ + 1).toNat
          omega
      · gi_wp2
        go_end0
        exact ⟨⟨_, rfl⟩, .inr ⟨pre ++ [m], ⟨stepsL (m + by_) by_ ((upto - (m + by_)) / by_ + 1).toNat, by rw [hx]; simp⟩, hJx3⟩⟩
    · have hnone := st_none hb.1 hle
      rw [hnone] at hx
      gi_wp2
      refine ⟨fun f h => (by cases h), ?_⟩
      gi_wp2
      go_end0
      exact ⟨⟨_, rfl⟩, .inl ⟨pre, by rw [hx]; simp [stepsL], hJs⟩⟩
set_option maxHeartbeats 1000000 in
theorem each_in (F : Fence) (n : Nat) (h191 : F.fn 191) (hro : F.round = none) (from_ by_ upto : Int) (w : World) :
    CallsIn F n P 191 #[.agg #[.int .i64 from_, .int .i64 by_, .int .i64 upto]] w fun e w' => e = .returned (.func (.func 201) #[] #[.pointer (some ⟨w.heap.size, 0, none⟩)]) ∧ w' = w.alloc (.cells #[.int .i64 from_, .int .i64 by_, .int .i64 upto] 256) := by
  refine callsIn_of_wp Tryz.func191 rfl h191 ?_ hro
  simp only [Tryz.ntmps191, List.size_toArray, List.length_cons, List.length_nil, Nat.reduceAdd, Nat.reduceSub, Array.replicate_succ, Array.replicate_zero, List.push_toArray, List.append_toArray, List.nil_append, List.cons_append]
  gi_wp2
  go_ret
  exact ⟨rfl, rfl⟩
theorem each_stops (F : Fence) (n : Nat) (h201 : F.fn 201) (hro : F.round = none) (hn : 1 ≤ n) (Bn : Nat) (from_ by_ upto : Int) (hb : 1 ≤ by_ ∧ by_ ≤ 1000000) (hf : 0 ≤ from_) (hu : upto ≤ 2199023255552) (w : World) (hBn : Bn < w.heap.size)
    (hc : w.heap[Bn]? = some (.cells #[.int .i64 from_, .int .i64 by_, .int .i64 upto] 256 (0, 0))) :
    SeqStopsK F n P 201 #[.pointer (some ⟨Bn, 0, none⟩)] (fun x : Int => #[Value.int .i64 x]) (fun A B => B.heap[Bn]? = A.heap[Bn]?) (fun ys => ys = stepsP from_ by_ upto) (fun pre => pre <+: stepsP from_ by_ upto) (stepsP from_ by_ upto).length w := fun l J Jx W hW _ _ hY h0 =>
  each1_in F n h201 hro hn l Bn from_ by_ upto hb hf hu J Jx hY W ((hW.block Bn hBn).trans hc) h0
theorem ownsRow_far {W : World} {base : Nat} {e : TypeId} {size : Nat} {v : Value} {k : Nat} {xs : List Value} (h : W.ownsRow base e size v k xs) {j : Nat} {o : Obj} (hj : W.heap[j]? = some o) (hno : ∀ cur, o ≠ .cells cur e (0, 0)) :
    v.ownBlock = none ∨ v.ownBlock ≠ some j := by
  rcases h.2 with ⟨rfl, _⟩ | ⟨g, cap, cur, rfl, _, hgb, _⟩
  · exact .inl rfl
  · refine .inr fun e' => ?_
    have : g = j := by simpa [Value.ownBlock] using e'
    subst this; rw [hgb] at hj; cases hj; exact hno cur rfl
theorem cell_box {W : World} {B : Nat} {v : Value} {t : TypeId} (h : W.heap[B]? = some (.cells #[v] t (0, 0))) : W.cell? ⟨B, 0, none⟩ = some v ∧ W.frozen? ⟨B, 0, none⟩ = false := by
  constructor <;> simp [World.cell?, World.frozen?, h]
theorem grown_setCell (W : World) (b : Nat) (v : Value) : W.grownBy (W.setCell ⟨b, 0, none⟩ v) (some b) :=
  ⟨rfl, rfl, rfl, (KeepsWalks.setCell W _ v).size, fun k _ hk => Below.heap_setCell _ _ _ k (fun e => hk (by rw [e]))⟩
theorem setCell_box {W : World} {B : Nat} {v : Value} {t : TypeId} (v' : Value) (h : W.heap[B]? = some (.cells #[v] t (0, 0))) : (W.setCell ⟨B, 0, none⟩ v').heap[B]? = some (.cells #[v'] t (0, 0)) := by
  obtain ⟨hlt, hk⟩ := Array.getElem?_eq_some_iff.1 h
  show (W.heap.modify B _)[B]? = _
  rw [Array.getElem?_eq_getElem (by rw [Array.size_modify]; exact hlt), Array.getElem_modify_self, hk]
  rfl
structure Out (w0 : World) (B : Nat) (row : Array Value) (xs : List Int) (W : World) : Prop where
  box : ∃ v, W.heap[B]? = some (.cells #[v] 39 (0, 0)) ∧ W.ownsRow w0.heap.size 3 1 v xs.length (xs.map (Value.int .i64))
  below : Below w0.heap.size w0 W
  arg : W.heap[B + 1]? = some (.cells row 256 (0, 0))
theorem own_cells {W : World} {base : Nat} {e : TypeId} {size : Nat} {v : Value} {k : Nat} {xs : List Value} (h : W.ownsRow base e size v k xs) : ∀ (j : Nat) (o : Obj), v.ownBlock = some j → W.heap[j]? = some o → o.isCells = true := by
  intro j o hj ho
  rcases h.2 with ⟨rfl, _⟩ | ⟨g, cap, cur, rfl, _, hgb, _⟩
  · simp [Value.ownBlock] at hj
  · have : g = j := by simpa [Value.ownBlock] using hj
    subst this; rw [hgb] at ho; cases ho; rfl
theorem out_from (w0 : World) (B n : Nat) (a : Array Value) (hB : B + 1 < n) (h0 : w0.heap.size ≤ n) : OwnFrom n (Out w0 B a) := fun s W W' row h hg hr => by
  obtain ⟨v, hv, hrow⟩ := h.box
  have hlt : B < W.heap.size := (Array.getElem?_eq_some_iff.1 hv).1
  refine ⟨⟨v, (hg.block B hlt (fun e => ?_)).trans hv, hrow.kept hg ?_⟩, h.below.grown hg h.below.size (fun k e => Nat.le_trans h0 (hr k e).1), (hg.block (B + 1) (Array.getElem?_eq_some_iff.1 h.arg).1 (fun e => ?_)).trans h.arg⟩
  rotate_left
  rotate_left
  · have := (hr (B + 1) e.symm).1
    omega
  · have := (hr B e.symm).1
    omega
  · cases row with
    | none => cases hv : v.ownBlock <;> simp
    | some r =>
      obtain ⟨_, o, ho, hc⟩ := hr r rfl
      exact ownsRow_far hrow ho (fun cur e => by rw [e] at hc; cases hc)
theorem und39 : P.underlying 39 = some (.slice 3) := by kernel_rfl
theorem inf3 : (P.info? 3).map (fun i => (i.zero, i.size, i.bytes)) = some (some (.int .i64 0), 1, 8) := by kernel_rfl
set_option maxRecDepth 100000 in
set_option maxHeartbeats 2000000 in
theorem list_in (F : Fence) (n : Nat) (h165 : F.fn 165) (h191 : F.fn 191) (h201 : F.fn 201) (hro : F.round = none) (hn : 3 ≤ n) (from_ by_ upto : Int) (hb : 1 ≤ by_ ∧ by_ ≤ 1000000) (hf : 0 ≤ from_) (hu : upto ≤ 2199023255552) (hN : (stepsP from_ by_ upto).length ≤ 100000) (w : World) :
    CallsIn F n P 165 #[.agg #[.int .i64 from_, .int .i64 by_, .int .i64 upto]] w fun e W' => ∃ v, e = .returned v ∧ W'.ownsRow w.heap.size 3 1 v (stepsP from_ by_ upto).length ((stepsP from_ by_ upto).map (Value.int .i64)) ∧ Below w.heap.size w W' := by
  have h1 : 1 ≤ n := by omega
  refine callsIn_of_wp_marks Tryz.func165 rfl h165 ?_ hro
  simp only [Tryz.ntmps165, List.size_toArray, List.length_cons, List.length_nil, Nat.reduceAdd, Nat.reduceSub, Array.replicate_succ, Array.replicate_zero, List.push_toArray, List.append_toArray, List.nil_append, List.cons_append]
  gi_wp2_with (gi_at_call 191; refine (each_in F (n - 1) h191 hro _ _ _ _).mono ?_; rintro e w' ⟨rfl, rfl⟩)
  obtain ⟨W0, hW0⟩ : ∃ W0, ((w.alloc (Obj.cells #[Value.int IntKind.i64 from_, Value.int IntKind.i64 by_, Value.int IntKind.i64 upto] 256)).alloc (Obj.cells #[Value.slice none 0 0] 39)).alloc (Obj.cells #[Value.int IntKind.i64 from_, Value.int IntKind.i64 by_, Value.int IntKind.i64 upto] 256) = W0 := ⟨_, rfl⟩
  rw [hW0]
  have hs : W0.heap.size = w.heap.size + 3 := by rw [← hW0]; simp
  have hb0 : Below w.heap.size w W0 := by rw [← hW0]; exact (((Below.refl _ w).alloc (Nat.le_refl _) _).alloc (by simp) _).alloc (by simp; omega) _
  have hout : W0.heap[w.heap.size + 1]? = some (.cells #[.slice none 0 0] 39 (0, 0)) := by
    rw [← hW0]
    refine (Below.heap_alloc _ _ _ (by simp)).trans ?_
    have := World.alloc_heap_new (w.alloc (Obj.cells #[Value.int IntKind.i64 from_, Value.int IntKind.i64 by_, Value.int IntKind.i64 upto] 256)) (Obj.cells #[Value.slice none 0 0] 39)
    rwa [World.size_alloc] at this
  have hx : W0.heap[w.heap.size + 1 + 1]? = some (.cells #[.int .i64 from_, .int .i64 by_, .int .i64 upto] 256 (0, 0)) := by
    rw [← hW0]
    have := World.alloc_heap_new ((w.alloc (Obj.cells #[Value.int IntKind.i64 from_, Value.int IntKind.i64 by_, Value.int IntKind.i64 upto] 256)).alloc (Obj.cells #[Value.slice none 0 0] 39)) (Obj.cells #[Value.int IntKind.i64 from_, Value.int IntKind.i64 by_, Value.int IntKind.i64 upto] 256)
    rwa [World.size_alloc, World.size_alloc] at this
  clear hW0
  obtain ⟨i0, hi, hz0, hz1, hz2⟩ := info_parts inf3
  refine wpIn_rangeFunc_ownF hro h1 (gf := 201) (lb := #[.pointer (some ⟨w.heap.size + 1 + 1, 0, none⟩)]) rfl h201 (enters_of Tryz.func201 (by kernel_rfl) rfl)
    (each_stops F (n - 1) h201 hro (by omega) (w.heap.size + 1 + 1) from_ by_ upto hb hf hu W0 (by omega) hx) (fun h k => k.trans h) (fun W l o o' hl _ _ _ => World.putObj_heap_other (by omega)) (Below.refl _ _) (fun _ => rfl)
    (Out w (w.heap.size + 1) #[.int .i64 from_, .int .i64 by_, .int .i64 upto]) (fun _ _ _ => False)
    (out_from w _ _ _ (by omega) (by omega)) (fun _ _ _ _ _ h _ _ => h)
    ⟨⟨_, hout, rfl, .inl ⟨rfl, rfl⟩⟩, hb0, hx⟩
    (fun x => { tmps := #[.agg #[.int .i64 from_, .int .i64 by_, .int .i64 upto], .pointer (some ⟨w.heap.size, 0, none⟩), .slice none 0 0, .func (.func 191) #[] #[], .pointer (some ⟨w.heap.size + 1, 0, none⟩), .int .i64 x, .func (.func 191) #[] #[], .agg #[.int .i64 from_, .int .i64 by_, .int .i64 upto], .func (.func 201) #[] #[.pointer (some ⟨w.heap.size + 1 + 1, 0, none⟩)], .int .i64 x, undef, undef, undef, undef, undef], defers := [] }) ?assign ?body ?done ?stop
  case assign =>
    intro l x W K hK
    gi_wp2
    exact hK
  case body =>
    rintro l pre x W ⟨⟨v, hv, hrow⟩, hB, harg⟩ hlen
    obtain ⟨hc, hfz⟩ := cell_box hv
    have hlt : w.heap.size + 1 < W.heap.size := (Array.getElem?_eq_some_iff.1 hv).1
    have ne_of : ∀ {j : Nat} {o : Obj}, W.heap[j]? = some o → (∀ cur, o ≠ .cells cur 3 (0, 0)) → some j ≠ v.ownBlock := fun hj hno => by
      rcases ownsRow_far hrow hj hno with e | e
      · rw [e]; simp
      · exact fun e' => e e'.symm
    gi_wp2_with (first
      | (gi_at_builtin; refine wpListIn_append_own _ rfl _ _ 39 rfl w.heap.size 3 i0 (.int .i64 0) 1 8 und39 hi hz0 hz1 hz2 rfl (by decide) _ _ _ rfl (hrow.alloc _) ⟨W.heap.size, 0, none⟩ 1 1 [.int .i64 x] rfl rfl (cell_one_new _ _ _) (by simp [Value.oneCell']) (by show pre.length + 1 ≤ 9223372036854775807; omega) (by omega) (by have := hB.size; simp; omega) ?_; intro v' w3 hown' hg3 hnil3
         have hv3 : w3.heap[w.heap.size + 1]? = some (.cells #[v] 39 (0, 0)) := (hg3.block _ (by simp; omega) (ne_of hv (fun cur e => by cases e))).trans ((Below.heap_alloc _ _ _ hlt).trans hv)
         obtain ⟨hc3, hf3⟩ := cell_box hv3
         obtain ⟨g', cap', cur', rfl, hg1, hg2⟩ : ∃ g' cap' cur', v' = .slice (some ⟨g', 0, none⟩) (pre.length + 1) cap' ∧ w.heap.size ≤ g' ∧ w3.heap[g']? = some (.cells cur' 3 (0, 0)) := by
           rcases hown'.2 with ⟨_, h0⟩ | ⟨g', cap', cur', h1, h2, h3, _⟩
           · exact absurd h0 (by omega)
           · exact ⟨g', cap', cur', h1, h2, h3⟩
         simp only [Act.put, List.setIfInBounds_toArray, List.set_cons_succ, List.set_cons_zero]))
    have hg3' : (W.alloc (.cells #[.int .i64 x] 3)).grownBy w3 v.ownBlock := hg3
    have hk4 := grown_setCell w3 (w.heap.size + 1) (.slice (some ⟨g', 0, none⟩) (pre.length + 1) cap')
    have hv4 := setCell_box (.slice (some ⟨g', 0, none⟩) (pre.length + 1) cap') hv3
    have hrow4 := hown'.kept hk4 (ownsRow_far hown' hv3 (fun cur e => by cases e))
    have hb3 : Below w.heap.size w w3 := (hB.alloc hB.size _).grown hg3' (by have := hB.size; simp; omega) (fun k e => (hrow.lt k e).1)
    have hb4 := hb3.grown hk4 hb3.size (fun k e => by cases e; omega)
    have hal : w.heap.size + 1 + 1 < W.heap.size := (Array.getElem?_eq_some_iff.1 harg).1
    have harg3 : w3.heap[w.heap.size + 1 + 1]? = some (.cells #[.int .i64 from_, .int .i64 by_, .int .i64 upto] 256 (0, 0)) := (hg3.block _ (by simp; omega) (ne_of harg (fun cur e => by cases e))).trans ((Below.heap_alloc _ _ _ hal).trans harg)
    have harg4 := (hk4.block _ (Array.getElem?_eq_some_iff.1 harg3).1 (by simp)).trans harg3
    refine ⟨((KeepsOthers.alloc _ _).trans (KeepsOthers.of_grownBy hg3' (own_cells (hrow.alloc _)))).trans (KeepsOthers.setCell _ _ _), harg4.trans harg.symm, ⟨_, hv4, ?_⟩, hb4, harg4⟩
    simpa using hrow4
  case done =>
    rintro D ys W hD rfl ⟨⟨v, hv, hrow⟩, hB, harg⟩ hK
    obtain ⟨hc, hfz⟩ := cell_box hv
    gi_wp2
    refine ⟨by simp, .inl ⟨_, _, rfl, run_takeDeferred hK, ?_⟩⟩
    exact ⟨_, results_tmp rfl _ _ _, v, rfl, hrow.kept (grownBy_putObj' _ _ _) (ownsRow_far hrow hK (fun cur e => by cases e)), hB.grown (grownBy_putObj' _ _ _) hB.size (fun k e => by cases e; omega)⟩
  case stop =>
    rintro D c pre W _ _ h _
    exact h.elim
theorem own_base {W : World} {base : Nat} {e : TypeId} {size : Nat} {v : Value} {k : Nat} {xs : List Value} (h : W.ownsRow base e size v k xs) : W.ownsRow 0 e size v k xs := by
  refine ⟨h.1, ?_⟩
  rcases h.2 with hn | ⟨g, cap, cur, hv, hbg, rest⟩
  · exact .inl hn
  · exact .inr ⟨g, cap, cur, hv, Nat.zero_le _, rest⟩
theorem vrs_ints (ρ : Ren) : ∀ l : List Int, VRs ρ (l.map fun x => [AV.int .i64 x]).flatten (l.map (Value.int .i64))
  | [] => .nil
  | x :: l => .cons (.int .i64 x) (vrs_ints ρ l)
theorem stepsB_some {a b c : Int} {r : List Int} (h : stepsB a b c = some r) : r = stepsP a b c ∧ (1 ≤ b ∧ b ≤ 1000000) ∧ 0 ≤ a ∧ c ≤ 2199023255552 ∧ r.length ≤ 100000 := by
  unfold stepsB at h
  generalize hq : (decide (1 ≤ b) && (decide (b ≤ 1000000) && (decide (0 ≤ a) && (decide (c ≤ 2199023255552) && decide (c - a ≤ 10000))))) = q at h
  cases q with
  | false => cases h
  | true =>
    simp only [cond_true, Option.some.injEq] at h
    simp only [Bool.and_eq_true, decide_eq_true_eq] at hq
    refine ⟨h.symm, ⟨hq.1, hq.2.1⟩, hq.2.2.1, hq.2.2.2.1, ?_⟩
    rw [← h]
    unfold stepsP
    rw [stLen]
    rcases Int.lt_or_le c a with h2 | h2
    · rw [st_none hq.1 (by omega)]
      omega
    · have := Int.ediv_le_self b (show 0 ≤ c - a by omega)
      omega
theorem me165 (d : DA g165.args) (r : DR g165.res) (h : stepsB d.1.1 d.1.2.1 d.1.2.2.1 = some r) : MeetsW P 165 g165 d r := by
  obtain ⟨⟨a, b, c, ⟨⟩⟩, ⟨⟩⟩ := d
  obtain ⟨rfl, hb, hf, hu, hl⟩ := stepsB_some h
  refine ⟨⟨Tryz.f165, Tryz.func165, rfl, by kernel_rfl⟩, fun O ρ W args' H hv => ?_⟩
  have H : HR O W.heap.size W ρ [] W := H
  have hvs : VRs ρ [.agg [.int .i64 a, .int .i64 b, .int .i64 c]] args' := hv
  clear hv
  cases hvs with | cons hv hn =>
  cases hn
  cases hv with | agg hv h1 =>
  cases hv with | cons v1 hv =>
  cases hv with | cons v2 hv =>
  cases hv with | cons v3 hv =>
  cases hv
  cases v1
  cases v2
  cases v3
  refine (callsIn_wide.1 (list_in Fence.wide 3 trivial trivial trivial rfl (by decide) a b c hb hf hu hl W)).mono fun e W' ⟨v, he, hrow, hB⟩ => ?_
  obtain ⟨inf, H2, hv2⟩ := H.pushRow (W' := W') (e := 3) (size := 1) (v := v) (r := .typ .int (stepsP a b c)) (xs := (stepsP a b c).map (Value.int .i64)) (by decide) (.inl (own_base hrow)) (vrs_ints ρ _) (fun u hu => by
      obtain ⟨x, _, rfl⟩ := List.mem_map.1 hu
      rfl) (fun q hq => by
      obtain ⟨x, _, rfl⟩ := List.mem_map.1 hq
      rfl) rfl rfl (Fr.of_below hB (Nat.le_refl _)) (fun k hk _ => hB.block k hk) (fun g hg => ⟨.inr (hrow.lt g (blkE_own hg)).1, fun b' c' i e => by simp [cellAt] at e⟩)
  refine ⟨v, _, .whole 0, [some ⟨true, true, false, 3, .typ .int (stepsP a b c)⟩], [.whole 0], he, H2, hv2, rfl, ?_⟩
  simp [tellR, tell1, tellC, cellAt, memB]
  rfl
end Go.Abs
