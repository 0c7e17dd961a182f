/- The map of jobs by their IDs: what the operations do. -/
import Derived.Test.YtmknoiiflciclaaDoverSpec
import Derived.Maps.Own
import Derived.Maps.OwnOps
import Derived.Maps.Keyed
import Derived.OwnWalk
namespace Go.Proofs.Ytmknoiiflciclaa.PA
open Go.RowKit Go.MapKept Go.Proofs.YtmknoiiflciclaaW.PrintWords Go.Proofs.YtmknoiiflciclaaW.PrintLast Go.Proofs.YtmknoiiflciclaaW.PrintMore
open Go.ChangeMaps (setBlock)
set_option linter.unusedVariables false
set_option linter.unusedSimpArgs false
/-- Block b holds the table M. -/
def MapAt (w : World) (b : Nat) (M : List S29) : Prop := ∃ es clock, w.heap[b]? = some (.map es clock) ∧ es.toList.map (fun e => (e.key, e.val)) = M.map (fun a => (Value.int .i64 a.f0, apeV a))
theorem find3 (x : Int) : ∀ (L : List MapEntry) (M : List S29) (i : Nat), L.map (fun e => (e.key, e.val)) = M.map (fun a => (Value.int .i64 a.f0, apeV a)) →
    (Instr.findNow (.int .i64) (.int .i64 x) L i = some none ∧ getM M x = none ∧ delM M x = M ∧ ∀ a : S29, a.f0 = x → putM M a = M ++ [a]) ∨
    ∃ j e a, Instr.findNow (.int .i64) (.int .i64 x) L i = some (some (i + j, e.val)) ∧ L[j]? = some e ∧ getM M x = some a ∧ e.val = apeV a ∧ e.key = .int .i64 x ∧ delM M x = M.eraseIdx j ∧ ∀ b : S29, b.f0 = x → putM M b = M.set j b
  | [], [], i, _ => .inl ⟨rfl, rfl, rfl, fun _ _ => rfl⟩
  | [], _ :: _, i, h => by simp at h
  | _ :: _, [], i, h => by simp at h
  | e :: L, a :: M, i, h => by
    rw [List.map_cons, List.map_cons, List.cons.injEq, Prod.mk.injEq] at h
    obtain ⟨⟨hk, hv⟩, ht⟩ := h
    by_cases hx : a.f0 = x
    · refine .inr ⟨0, e, a, ?_, rfl, ?_, hv, by rw [hk, hx], ?_, fun b hb => ?_⟩
      · unfold Instr.findNow
        rw [hk]
        simp [Instr.sameNow, hx]
      · simp [getM, hx]
      · simp [delM, hx]
      · simp [putM, hx, hb]
    · have hn : Instr.findNow (.int .i64) (.int .i64 x) (e :: L) i = Instr.findNow (.int .i64) (.int .i64 x) L (i + 1) := by
        rw [Instr.findNow, hk]
        have : (x == a.f0) = false := by
          rw [beq_eq_false_iff_ne]
          exact fun e => hx e.symm
        simp [Instr.sameNow, this]
      rw [hn]
      rcases find3 x L M (i + 1) ht with ⟨h1, h2, h3, h4⟩ | ⟨j, e', a', h1, h2, h3, h4, h5, h6, h7⟩
      · refine .inl ⟨h1, by simp [getM, hx, h2], by simp [delM, hx, h3], fun b hb => ?_⟩
        rw [putM, if_neg (by rw [hb]; exact hx), h4 b hb]
        rfl
      · refine .inr ⟨j + 1, e', a', by rw [h1, show i + 1 + j = i + (j + 1) from by omega], by simpa using h2, by simp [getM, hx, h3], h4, h5, by simp [delM, hx, h6], fun b hb => ?_⟩
        rw [putM, if_neg (by rw [hb]; exact hx), h7 b hb]
        rfl
theorem run_find {P : Program} {k : TypeId} (hk : P.underlying k = some (.int .i64)) (w : World) (x : Int) (L : List MapEntry) {r : Option (Nat × Value)} (h : Instr.findNow (.int .i64) (.int .i64 x) L 0 = some r) :
    (Instr.findKey k (.int .i64 x) L).run P w = .ok r w := by
  simp [Instr.findKey, run_underlying hk, h, Result.andThen]
theorem run_check {P : Program} {k : TypeId} (hk : P.underlying k = some (.int .i64)) (w : World) (em : Bool) (x : Int) : (Instr.checkKey em 10000 k (.int .i64 x)).run P w = .ok () w := by
  unfold Instr.checkKey
  simp [run_underlying hk, Result.andThen]
theorem run_stays {P : Program} (w : World) (x : Int) : (Instr.keyThatStays (.int .i64 x) (.int .i64 x)).run P w = .ok (.int .i64 x) w := by
  simp [Instr.keyThatStays, Instr.sameBits]
theorem zero29 (w : World) : (zeroValue 29).run Try.prog w = .ok (.agg #[.int .i64 0, .int .i64 0, .int .i64 0, .int .i64 0, .int .i64 0]) w := by kernel_rfl
theorem MapAt.made (w : World) : MapAt (w.alloc (.map #[] 0)) w.heap.size [] := ⟨#[], 0, (MapKept.heap_alloc w _).1, rfl⟩
theorem MapAt.lt {w : World} {b : Nat} {M : List S29} (h : MapAt w b M) : b < w.heap.size := by
  obtain ⟨es, clock, hb, _⟩ := h
  exact (Array.getElem?_eq_some_iff.1 hb).1
theorem MapAt.size {w : World} {b : Nat} {M : List S29} (h : MapAt w b M) : ∃ es clock, w.heap[b]? = some (.map es clock) ∧ es.size = M.length := by
  obtain ⟨es, clock, hb, he⟩ := h
  refine ⟨es, clock, hb, ?_⟩
  have := congrArg List.length he
  simpa using this
theorem MapAt.len_run {w : World} {b : Nat} {M : List S29} (h : MapAt w b M) (ty : TypeId) : (Builtin.len_ #[39] ty #[.map (some b)]).run Try.prog w = .ok (.int .i64 (M.length : Int)) w := by
  obtain ⟨es, clock, hb, he⟩ := h.size
  have hrun := run_len_map (P := Try.prog) (w := w) 39 ty b es clock Try.underlying39 hb
  rw [he] at hrun
  exact hrun
/-- Look-up. -/
theorem MapAt.look {w : World} {b : Nat} {M : List S29} (h : MapAt w b M) (x : Int) : (Instr.lookup 39 (.map (some b)) (.int .i64 x) true).run Try.prog w = .ok (.tuple #[apeV ((getM M x).getD z29), .bool (getM M x).isSome]) w := by
  obtain ⟨es, clock, hb, he⟩ := h
  rcases find3 x es.toList M 0 he with ⟨h1, h2, _⟩ | ⟨j, e, a, h1, h2, h3, h4, _⟩
  · simp [Instr.lookup, run_underlying Try.underlying39, MapKept.run_getObj_map hb, run_check Try.underlying3, run_find Try.underlying3 w x _ h1, zero29, Result.andThen, h2, apeV, z29]
  · simp [Instr.lookup, run_underlying Try.underlying39, MapKept.run_getObj_map hb, run_check Try.underlying3, run_find Try.underlying3 w x _ h1, Result.andThen, h3, h4]
/-- A store. -/
theorem MapAt.store {w : World} {b : Nat} {M : List S29} (h : MapAt w b M) (a : S29) : ∃ w', (Instr.mapUpdate 39 (.map (some b)) (.int .i64 a.f0) (apeV a)).run Try.prog w = .ok () w' ∧ MapAt w' b (putM M a) ∧ w.grownBy w' (some b) := by
  obtain ⟨es, clock, hb, he⟩ := h
  rcases find3 a.f0 es.toList M 0 he with ⟨h1, h2, _, h4⟩ | ⟨j, e, c, h1, h2, h3, h4, h5, h6, h7⟩
  · refine ⟨setBlock w b (.map (es.push ⟨.int .i64 a.f0, apeV a, clock⟩) (clock + 1)), ?_, ⟨_, _, ChangeMaps.heap_setBlock_same hb _, ?_⟩, ⟨rfl, rfl, rfl, by simp [setBlock], fun i _ hi => ChangeMaps.heap_setBlock_other hb _ (fun e => hi (by rw [e]))⟩⟩
    · simp [Instr.mapUpdate, run_underlying Try.underlying39, MapKept.run_getObj_map hb, run_check Try.underlying3, run_find Try.underlying3 w a.f0 _ h1, MapKept.run_setObj_map _ hb, Result.andThen, setBlock]
    · rw [Array.toList_push, List.map_append, he, h4 a rfl, List.map_append]
      rfl
  · have hj : es[j]? = some e := by simpa using h2
    refine ⟨setBlock w b (.map (es.modify j fun e => { e with key := .int .i64 a.f0, val := apeV a }) clock), ?_, ⟨_, _, ChangeMaps.heap_setBlock_same hb _, ?_⟩, ⟨rfl, rfl, rfl, by simp [setBlock], fun i _ hi => ChangeMaps.heap_setBlock_other hb _ (fun e => hi (by rw [e]))⟩⟩
    · simp [Instr.mapUpdate, run_underlying Try.underlying39, MapKept.run_getObj_map hb, run_check Try.underlying3, run_find Try.underlying3 w a.f0 _ h1, hj, h5, run_stays, MapKept.run_setObj_map _ hb, Result.andThen, setBlock]
    · rw [h7 a rfl, Array.toList_modify, List.map_set, ← he]
      apply List.ext_getElem?
      intro i
      simp only [List.getElem?_map, List.getElem?_modify, List.getElem?_set]
      by_cases hij : j = i
      · subst hij
        have hl : j < es.toList.length := (List.getElem?_eq_some_iff.1 h2).1
        simp [h2, hl]
        simpa using hl
      · simp [hij]
/-- A delete. -/
theorem MapAt.drop {w : World} {b : Nat} {M : List S29} (h : MapAt w b M) (x : Int) (ty : TypeId) : ∃ w', (Builtin.delete_ #[39, 3] ty #[.map (some b), .int .i64 x]).run Try.prog w = .ok (.tuple #[]) w' ∧ MapAt w' b (delM M x) ∧ w.grownBy w' (some b) := by
  obtain ⟨es, clock, hb, he⟩ := h
  rcases find3 x es.toList M 0 he with ⟨h1, h2, h3, h4⟩ | ⟨j, e, c, h1, h2, h3, h4, h5, h6, h7⟩
  · refine ⟨setBlock w b (.map es clock), ?_, ⟨_, _, ChangeMaps.heap_setBlock_same hb _, ?_⟩, ⟨rfl, rfl, rfl, by simp [setBlock], fun i _ hi => ChangeMaps.heap_setBlock_other hb _ (fun e => hi (by rw [e]))⟩⟩
    · simp [Builtin.delete_, run_underlying Try.underlying39, MapKept.run_getObj_map hb, run_check Try.underlying3, run_find Try.underlying3 w x _ h1, MapKept.run_setObj_map _ hb, Result.andThen, setBlock]
    · rw [he, h3]
  · have hjl : j < es.toList.length := (List.getElem?_eq_some_iff.1 h2).1
    have hjs : j < es.size := by simpa using hjl
    have hsub : (es.eraseIdxIfInBounds j).toList = es.toList.eraseIdx j := by
      unfold Array.eraseIdxIfInBounds
      rw [dif_pos hjs]
      simp
    refine ⟨setBlock w b (.map (es.eraseIdxIfInBounds j) clock), ?_, ⟨_, _, ChangeMaps.heap_setBlock_same hb _, ?_⟩, ⟨rfl, rfl, rfl, by simp [setBlock], fun i _ hi => ChangeMaps.heap_setBlock_other hb _ (fun e => hi (by rw [e]))⟩⟩
    · simp [Builtin.delete_, run_underlying Try.underlying39, MapKept.run_getObj_map hb, run_check Try.underlying3, run_find Try.underlying3 w x _ h1, MapKept.run_setObj_map _ hb, Result.andThen, setBlock]
    · rw [hsub, ChangeMaps.map_eraseIdx, he, h6, ChangeMaps.map_eraseIdx]
theorem MapAt.below {w w' : World} {b : Nat} {M : List S29} (h : MapAt w b M) (hb : Below w.heap.size w w') : MapAt w' b M := by
  obtain ⟨es, clock, h1, h2⟩ := h
  exact ⟨es, clock, blk_below h1 hb, h2⟩
theorem MapAt.kept {w w' : World} {row : Option Nat} {b : Nat} {M : List S29} (h : MapAt w b M) (hg : w.grownBy w' row) (hne : some b ≠ row) : MapAt w' b M := by
  have hlt := h.lt
  obtain ⟨es, clock, h1, h2⟩ := h
  exact ⟨es, clock, (hg.block b hlt hne).trans h1, h2⟩
theorem MapAt.alloc {w : World} {b : Nat} {M : List S29} (h : MapAt w b M) (o : Obj) : MapAt (w.alloc o) b M := h.kept (World.grownBy_alloc w o none) (by simp)
theorem MapAt.drew {w : World} {b : Nat} {M : List S29} (h : MapAt w b M) : MapAt w.drew b M := h
theorem MapAt.setCell {w : World} {b : Nat} {M : List S29} (h : MapAt w b M) (p : Addr) (v : Value) (hp : p.block ≠ b) : MapAt (w.setCell p v) b M := by
  obtain ⟨es, clock, h1, h2⟩ := h
  exact ⟨es, clock, (Below.heap_setCell _ p _ b (fun e => hp e.symm)).trans h1, h2⟩
section
variable {w : World} {ops : Array Oper} {rest : List Oper} {o : Oper} {a : Act} {Q : Exit → Act → World → Prop}
/-- A store, at the operation. -/
theorem wpM_store (hg : o.guard = none) (m x v : Operand) (hop : o.op = Op.mapUpdate 39 m x v) (b : Nat) (M : List S29) (hm : a.eval m = .map (some b)) (hM : MapAt w b M) (y : S29) (hx : a.eval x = .int .i64 y.f0) (hv : a.eval v = apeV y)
    (hK : ∀ w', MapAt w' b (putM M y) → w.grownBy w' (some b) → wpList Try.prog ops Q rest (a.put o.dst undef) w') :
    wpList Try.prog ops Q (o :: rest) a w := by
  refine wpList_plain hg fun K' hK' => ?_
  obtain ⟨w', hrun, r1, r2⟩ := hM.store y
  unfold Oper.wp
  simp [execOp, hop, hm, hx, hv, hrun, Result.andThen]
  exact hK' _ _ (hK w' r1 r2)
/-- A delete, at the operation. -/
theorem wpM_drop (hg : o.guard = none) (m x : Operand) (hop : o.op = Op.call { callee := Callee.builtin Builtin.delete, args := #[m, x], argTypes := #[39, 3] }) (b : Nat) (M : List S29) (hm : a.eval m = .map (some b)) (hM : MapAt w b M) (y : Int) (hx : a.eval x = .int .i64 y)
    (hK : ∀ w', MapAt w' b (delM M y) → w.grownBy w' (some b) → wpList Try.prog ops Q rest (a.put o.dst (.tuple #[])) w') :
    wpList Try.prog ops Q (o :: rest) a w := by
  refine wpList_plain hg fun K' hK' => ?_
  obtain ⟨w', hrun, r1, r2⟩ := hM.drop y o.type
  unfold Oper.wp
  simp [execOp, hop, resolve, invoke, builtin, hm, hx, hrun, Result.andThen]
  exact hK' _ _ (hK w' r1 r2)
/-- The length, at the operation. -/
theorem wpM_len (hg : o.guard = none) (m : Operand) (hop : o.op = Op.call { callee := Callee.builtin Builtin.len, args := #[m], argTypes := #[39] }) (b : Nat) (M : List S29) (hm : a.eval m = .map (some b)) (hM : MapAt w b M)
    (hK : wpList Try.prog ops Q rest (a.put o.dst (.int .i64 (M.length : Int))) w) :
    wpList Try.prog ops Q (o :: rest) a w := by
  refine wpList_plain hg fun K' hK' => ?_
  obtain ⟨es, clock, hb, he⟩ := hM.size
  have hrun := run_len_map (P := Try.prog) (w := w) 39 o.type b es clock Try.underlying39 hb
  rw [he] at hrun
  unfold Oper.wp
  simp [execOp, hop, resolve, invoke, builtin, hm, hrun, Result.andThen]
  exact hK' _ _ hK
end
end Go.Proofs.Ytmknoiiflciclaa.PA
