/- Own: What each operation leads to, whatever the world is that a heap of one's own stands beside. -/
import Derived.Test.YtmiajnodoigndaaGreatAbsI
namespace Go.Abs
open Go.RowKit
set_option linter.unusedVariables false
section
variable {P : Program} {K : Kinds} {R : Type}
theorem Rows.get_bind (r : Rows) (b i : Nat) (k : List AV → Option R) : r.get b i k = (r.get b i some).bind k := by
 unfold Rows.get; cases r <;> simp only [] <;> (repeat' split) <;> rfl
theorem Rows.set_bind (r : Rows) (i : Nat) (row : List AV) (k : Rows → Option R) : r.set i row k = (r.set i row some).bind k := by
 unfold Rows.set; cases r <;> simp only [cond_eq_ite] <;> (repeat' split) <;> rfl
theorem bound_bind (x : Option AV) (d m : Nat) (k : Nat → Option R) : bound x d m k = (bound x d m some).bind k := by
 unfold bound; simp only [cond_eq_ite]; (repeat' split) <;> rfl
theorem upTo_bind (j : Int) (k : Nat → Option R) : ∀ n s, upTo n s j k = (upTo n s j some).bind k
 | 0, s => rfl
 | n + 1, s => by
  unfold upTo; simp only [cond_eq_ite]; split
  · rfl
  · exact upTo_bind j k n (s + 1)
theorem rowsOf_bind (h : Heap) (y : AV) (k : Option Rows → Option R) : rowsOf h y k = (rowsOf h y some).bind k := by
 unfold rowsOf; simp only [cond_eq_ite]; (repeat' split) <;> rfl
theorem opLoad_bind (t : TypeId) (a : AV) (h : Heap) (k : AV → Option R) : opLoad P t a h k = (opLoad P t a h some).bind k := by
 unfold opLoad; simp only [cond_eq_ite]
 split
 · split
   · rfl
   · split
     · rfl
     · rw [Rows.get_bind]
       rw [Rows.get_bind (R := AV)]
       cases Rows.get _ _ _ some with
       | none => rfl
       | some row =>
        simp only [Option.bind_some]
        (repeat' split) <;> rfl
 · rfl
theorem opStore_bind (t : TypeId) (a v : AV) (h : Heap) (k : Heap → Option R) : opStore P t a v h k = (opStore P t a v h some).bind k := by
 unfold opStore; simp only [cond_eq_ite]
 split
 · split
   · split
     · rfl
     · split
       · rw [Rows.get_bind]
         rw [Rows.get_bind (R := Heap)]
         cases Rows.get _ _ _ some with
         | none => rfl
         | some row =>
          simp only [Option.bind_some]
          split
          · rfl
          · rw [Rows.set_bind]
            rw [Rows.set_bind (R := Heap)]
            cases Rows.set _ _ _ some <;> rfl
       · rfl
   · rfl
 · rfl
abbrev pr (v : AV) (h : Heap) : Option (AV × Heap) := some (v, h)
abbrev un (k : AV → Heap → Option R) (p : AV × Heap) : Option R := k p.1 p.2
theorem opBuildSlice_bind (t : TypeId) (n : Nat) (ps : List (Nat × AV)) (h : Heap) (k : AV → Heap → Option R) : opBuildSlice P K t n ps h k = (opBuildSlice P K t n ps h pr).bind (un k) := by
 unfold opBuildSlice; simp only [cond_eq_ite]; (repeat' split) <;> rfl
theorem opIndexAddr_bind (t : TypeId) (x ix : AV) (h : Heap) (k : AV → Option R) : opIndexAddr P t x ix h k = (opIndexAddr P t x ix h some).bind k := by
 unfold opIndexAddr; simp only [cond_eq_ite]
 (repeat' split) <;> first | rfl | skip
 rw [upTo_bind, upTo_bind (R := AV)]
 cases upTo _ _ _ some <;> rfl
theorem opIndex_bind (t : TypeId) (x ix : AV) (k : AV → Option R) : opIndex P t x ix k = (opIndex P t x ix some).bind k := by
 unfold opIndex; simp only [cond_eq_ite]
 split
 · split
   · rw [upTo_bind, upTo_bind (R := AV)]
     cases upTo _ _ _ some with
     | none => rfl
     | some i => simp only [Option.bind_some]; split <;> rfl
   · rw [upTo_bind, upTo_bind (R := AV)]
     cases upTo _ _ _ some with
     | none => rfl
     | some i => simp only [Option.bind_some]; split <;> rfl
   · rfl
 · rfl
theorem bound3_bind {R : Type} (mx hi lo : Option AV) (d0 m0 : Nat) (d1 m1 : Nat → Nat) (k : Nat → Nat → Nat → Option R) :
 (bound mx d0 m0 fun m => bound hi (d1 m) (m1 m) fun hi => bound lo 0 hi fun lo => k m hi lo) =
 (bound mx d0 m0 fun m => bound hi (d1 m) (m1 m) fun hi => bound lo 0 hi fun lo => some (m, hi, lo)).bind fun p => k p.1 p.2.1 p.2.2 := by
 rw [bound_bind, bound_bind (R := Nat × Nat × Nat)]
 cases bound mx _ _ some with
 | none => rfl
 | some m =>
  simp only [Option.bind_some]
  rw [bound_bind, bound_bind (R := Nat × Nat × Nat)]
  cases bound hi _ _ some with
  | none => rfl
  | some hi =>
   simp only [Option.bind_some]
   rw [bound_bind, bound_bind (R := Nat × Nat × Nat)]
   cases bound lo _ _ some <;> rfl
theorem opSlice_bind (t : TypeId) (x : AV) (lo hi mx : Option AV) (h : Heap) (k : AV → Heap → Option R) : opSlice P t x lo hi mx h k = (opSlice P t x lo hi mx h pr).bind (un k) := by
 unfold opSlice; simp only [cond_eq_ite]
 split
 · split
   · split
     · rw [bound_bind, bound_bind (R := AV × Heap)]
       cases bound mx _ _ some with
       | none => rfl
       | some m =>
        simp only [Option.bind_some]
        rw [bound_bind, bound_bind (R := AV × Heap)]
        cases bound hi _ _ some with
        | none => rfl
        | some hi =>
         simp only [Option.bind_some]
         rw [bound_bind, bound_bind (R := AV × Heap)]
         cases bound lo _ _ some with
         | none => rfl
         | some lo => simp only [Option.bind_some]; split <;> rfl
     · rfl
   · rfl
 · split
   · split
     · split
       · split
         · rw [bound_bind, bound_bind (R := AV × Heap)]
           cases bound hi _ _ some with
           | none => rfl
           | some hi =>
            simp only [Option.bind_some]
            rw [bound_bind, bound_bind (R := AV × Heap)]
            cases bound lo _ _ some <;> rfl
         · rfl
       · split
         · rw [bound_bind, bound_bind (R := AV × Heap)]
           cases bound _ _ _ some with
           | none => rfl
           | some m =>
            simp only [Option.bind_some]
            rw [bound_bind, bound_bind (R := AV × Heap)]
            cases bound hi _ _ some with
            | none => rfl
            | some hi =>
             simp only [Option.bind_some]
             rw [bound_bind, bound_bind (R := AV × Heap)]
             cases bound lo _ _ some <;> rfl
         · rfl
     · rfl
   · rfl
 · split
   · split
     · rw [bound_bind, bound_bind (R := AV × Heap)]
       cases bound mx _ _ some with
       | none => rfl
       | some m =>
        simp only [Option.bind_some]
        rw [bound_bind, bound_bind (R := AV × Heap)]
        cases bound hi _ _ some with
        | none => rfl
        | some hi =>
         simp only [Option.bind_some]
         rw [bound_bind, bound_bind (R := AV × Heap)]
         cases bound lo _ _ some <;> rfl
     · rfl
   · rfl
 · (repeat' split) <;> rfl
 · rfl
theorem opAppend_bind (t : TypeId) (x y : AV) (h : Heap) (k : AV → Heap → Option R) : opAppend P t x y h k = (opAppend P t x y h pr).bind (un k) := by
 unfold opAppend; simp only [cond_eq_ite]
 split
 · split
   · rw [rowsOf_bind, rowsOf_bind (R := AV × Heap)]
     cases rowsOf _ _ some with
     | none => rfl
     | some ys => simp only [Option.bind_some]; (repeat' split) <;> rfl
   · rfl
 · rfl
theorem opClear_bind (t : TypeId) (x : AV) (h : Heap) (k : Heap → Option R) : opClear P t x h k = (opClear P t x h some).bind k := by
 unfold opClear; simp only [cond_eq_ite]; (repeat' split) <;> rfl
theorem opBin_bind (op : BinOp) (t : TypeId) (x y : AV) (h : Heap) (k : AV → Option R) : opBin P K op t x y h k = (opBin P K op t x y h some).bind k := by
 unfold opBin; simp only [cond_eq_ite]; (repeat' split) <;> rfl
theorem opMakeMap_bind (t : TypeId) (r : Option AV) (h : Heap) (k : AV → Heap → Option R) : opMakeMap P K t r h k = (opMakeMap P K t r h pr).bind (un k) := by
 unfold opMakeMap; (repeat' split) <;> rfl
theorem askM_bind (j : Int) (d : Option R) (k : List AV → Option R) : ∀ l, askM l j d k = (askM l j (some none) (fun r => some (some r))).bind fun o => (match o with | none => d | some r => k r)
 | [] => rfl
 | x :: l => by
  unfold askM; simp only [cond_eq_ite]; split
  · rfl
  · exact askM_bind j d k l
theorem opLookup_bind (t : TypeId) (x ix : AV) (ok : Bool) (h : Heap) (k : AV → Option R) : opLookup P t x ix ok h k = (opLookup P t x ix ok h some).bind k := by
 unfold opLookup; simp only [cond_eq_ite]
 split
 · split
   · split
     · split
       · split <;> rfl
       · rw [askM_bind, askM_bind (R := AV)]
         cases askM _ _ (some none) _ with
         | none => rfl
         | some o => cases o <;> rfl
       · rfl
     · rfl
   · rfl
 · rfl
theorem opUpdate_bind (t : TypeId) (x ix v : AV) (h : Heap) (k : Heap → Option R) : opUpdate P t x ix v h k = (opUpdate P t x ix v h some).bind k := by
 unfold opUpdate; simp only [cond_eq_ite]; (repeat' split) <;> rfl
theorem opDelete_bind (t : TypeId) (x ix : AV) (h : Heap) (k : Heap → Option R) : opDelete P t x ix h k = (opDelete P t x ix h some).bind k := by
 unfold opDelete; simp only [cond_eq_ite]; (repeat' split) <;> rfl
end
def EnvR (ρ : Ren) (e : List AV) (a : Act) : Prop := e.length = a.tmps.size ∧ ∀ t, VR ρ (envGet e t) (a.eval (.tmp t))
def OpsR (ρ : Ren) (e : List AV) (a : Act) (l : List Operand) : Prop := ∀ x ∈ l, VR ρ (evalO e x) (a.eval x)
theorem evalO_sound {ρ : Ren} {e : List AV} {a : Act} (h : ∀ t, VR ρ (envGet e t) (a.eval (.tmp t))) (x : Operand) : VR ρ (evalO e x) (a.eval x) := by
 cases x with
 | tmp t => exact h t
 | const v => exact absConst_sound ρ v
 | global g => exact .dead
 | func f => exact .fn .nil .nil
theorem EnvR.ops {ρ : Ren} {e : List AV} {a : Act} (h : EnvR ρ e a) (l : List Operand) : OpsR ρ e a l := fun x _ => evalO_sound h.2 x
theorem EnvR.mono {ρ ρ' : Ren} {e : List AV} {a : Act} (h : EnvR ρ e a) (hx : Ext ρ ρ') : EnvR ρ' e a := ⟨h.1, fun t => (h.2 t).mono hx⟩
theorem envGet_set {e : List AV} {t t' : Nat} {v : AV} : envGet (e.set t v) t' = if t' = t ∧ t < e.length then v else envGet e t' := by
 unfold envGet
 by_cases h : t' = t
 · subst h
   by_cases hl : t' < e.length
   · simp [hl]
   · simp [hl]
 · simp [h, List.getElem?_set_ne (fun e => h e.symm)]
theorem eval_put_tmp {a : Act} {t t' : Nat} {v : Value} : (a.put (some t) v).eval (.tmp t') = if t' = t ∧ t < a.tmps.size then v else a.eval (.tmp t') := by
 simp only [Act.put, Act.eval, Array.getD_eq_getD_getElem?, Array.getElem?_setIfInBounds]
 by_cases h : t' = t
 · subst h
   by_cases hl : t' < a.tmps.size
   · simp [hl]
   · simp [hl]
 · have h' : ¬ t = t' := fun e => h e.symm
   simp [h, h']
theorem EnvR.put {ρ : Ren} {e : List AV} {a : Act} (h : EnvR ρ e a) {v : AV} {v' : Value} (hv : VR ρ v v') (d : Option Tmp) : EnvR ρ (put e d v) (a.put d v') := by
 cases d with
 | none => exact h
 | some d =>
  refine ⟨by simp [Abs.put, Act.put, h.1], fun t => ?_⟩
  show VR ρ (envGet (e.set d v) t) _
  rw [envGet_set, eval_put_tmp, h.1]
  split
  · exact hv
  · exact h.2 t
theorem evalAll_sound {ρ : Ren} {e : List AV} {a : Act} : ∀ {l : List Operand}, OpsR ρ e a l → VRs ρ (evalAll e l) (l.map a.eval)
 | [], _ => .nil
 | x :: l, h => .cons (h x (.head _)) (evalAll_sound fun y hy => h y (.tail _ hy))
theorem evalParts_sound {ρ : Ren} {e : List AV} {a : Act} : ∀ {l : List (Nat × Operand)}, OpsR ρ e a (l.map (·.2)) → PartsR ρ (evalParts e l) (l.map fun (i, x) => (i, a.eval x))
 | [], _ => .nil
 | (i, x) :: l, h => .cons (h x (by simp)) (evalParts_sound fun y hy => h y (by simp only [List.map_cons]; exact .tail _ hy))
theorem mapO_sound {ρ : Ren} {e : List AV} {a : Act} {o : Option Operand} (h : ∀ x, o = some x → VR ρ (evalO e x) (a.eval x)) : VRo ρ (o.map (evalO e)) (o.map a.eval) := by
 cases o with
 | none => exact .none
 | some x => exact .some (h x rfl)
def OpOK (P : Program) (o : Oper) (e : List AV) (h : Heap) (v : AV) (h' : Heap) : Prop :=
 h.length ≤ h'.length ∧ ∀ (X : Nat → Prop) (N0 : Nat) (W0 : World) (ρ : Ren) (W : World) (a : Act), HR X N0 W0 ρ h W → OpsR ρ e a o.op.operands.toList →
  ∀ (N : Act → World → Prop) (Q : Exit → Act → World → Prop), (∀ ρ' W' v', HR X N0 W0 ρ' h' W' → Agr h.length ρ ρ' → VR ρ' v v' → N (a.put o.dst v') W') → o.wp P a W N Q
def CallOK (P : Program) (f : FuncId) (args : List AV) (h : Heap) (v : AV) (h' : Heap) : Prop :=
 h.length ≤ h'.length ∧ (∃ fn, P.funcs[f]? = some fn ∧ fn.body.isNone = false ∧ (fn.name == "runtime.NumGoroutine") = false) ∧
  ∀ (X : Nat → Prop) (N0 : Nat) (W0 : World) (ρ : Ren) (W : World) (args' : List Value), HR X N0 W0 ρ h W → VRs ρ args args' →
   Calls P f args'.toArray W fun e W' => ∃ v' ρ', e = .returned v' ∧ HR X N0 W0 ρ' h' W' ∧ Agr h.length ρ ρ' ∧ VR ρ' v v'
def OrcOK (P : Program) {R : Type} (orc : Orc R) : Prop := ∀ f args h (k : AV → Heap → Option R) x, orc f args h k = some x → ∃ v h', k v h' = some x ∧ CallOK P f args h v h'
def KMeth (P : Program) (K : Kinds) : Prop := ∀ (t : TypeId) (m : String) (f : FuncId), K.meth t m = some f → ∀ (v : Value) (args : Array Value) (W : World), (callMethod (.iface t v) m args).run P W = (callFunc f (#[v] ++ args)).run P W
structure Known (P : Program) (K : Kinds) : Prop where
 eq : KEq P K
 code : KCode P K
 zero : ZeroAgg P
 meth : KMeth P K
section
variable {P : Program} {K : Kinds} {R : Type} {x : R} {o : Oper} {e : List AV} {h : Heap}
theorem run_v {s : Sem Value} {W W' : World} {v : Value} (hs : s.run P W = .ok v W') : (do pure (Next.value (← s)) : Sem Next).run P W = .ok (.value v) W' := by
 simp [hs, Result.andThen]
theorem run_u {s : Sem Unit} {W W' : World} (hs : s.run P W = .ok () W') : (do s; pure Next.skip : Sem Next).run P W = .ok .skip W' := by
 simp [hs, Result.andThen]
theorem OpOK.val {v : AV} (H : ∀ (X : Nat → Prop) (N0 : Nat) (W0 : World) (ρ : Ren) (W : World) (a : Act), HR X N0 W0 ρ h W → OpsR ρ e a o.op.operands.toList → ∃ v', (execOp a.eval o).run P W = .ok (.value v') W ∧ VR ρ v v') : OpOK P o e h v h := by
 refine ⟨Nat.le_refl _, fun X N0 W0 ρ W a hH hO N Q hN => ?_⟩
 obtain ⟨v', hr, hv⟩ := H X N0 W0 ρ W a hH hO
 unfold Oper.wp
 rw [hr]
 exact hN ρ W v' hH (Agr.refl _ _) hv
theorem OpOK.lead {v : AV} {h' : Heap} (hl : h.length ≤ h'.length) (H : ∀ (X : Nat → Prop) (N0 : Nat) (W0 : World) (ρ : Ren) (W : World) (a : Act), HR X N0 W0 ρ h W → OpsR ρ e a o.op.operands.toList →
 ∃ v' W', (execOp a.eval o).run P W = .ok (.value v') W' ∧ Leads X N0 W0 ρ h.length pr (v, h') v' W') : OpOK P o e h v h' := by
 refine ⟨hl, fun X N0 W0 ρ W a hH hO N Q hN => ?_⟩
 obtain ⟨v', W', hr, v0, h0, ρ', he, hv, hH', ha, _⟩ := H X N0 W0 ρ W a hH hO
 cases he
 unfold Oper.wp
 rw [hr]
 exact hN ρ' W' v' hH' ha hv
theorem OpOK.unit {h' : Heap} (hl : h'.length = h.length) (H : ∀ (X : Nat → Prop) (N0 : Nat) (W0 : World) (ρ : Ren) (W : World) (a : Act), HR X N0 W0 ρ h W → OpsR ρ e a o.op.operands.toList →
 ∃ W', ((execOp a.eval o).run P W = .ok .skip W' ∨ (execOp a.eval o).run P W = .ok (.value (.tuple #[])) W') ∧ HR X N0 W0 ρ h' W') : OpOK P o e h (.tup []) h' := by
 refine ⟨Nat.le_of_eq hl.symm, fun X N0 W0 ρ W a hH hO N Q hN => ?_⟩
 obtain ⟨W', hr, hH'⟩ := H X N0 W0 ρ W a hH hO
 have hu : VR ρ (.tup []) (.tuple #[]) := .tup .nil
 unfold Oper.wp
 rcases hr with hr | hr <;> rw [hr] <;> exact hN ρ W' _ hH' (Agr.refl _ _) hu
theorem bind2 {F : Option (AV × Heap)} {k : AV → Heap → Option R} (he : F.bind (un k) = some x) : ∃ v h', F = some (v, h') ∧ k v h' = some x := by
 obtain ⟨p, h1, h2⟩ := Option.bind_eq_some_iff.1 he
 exact ⟨p.1, p.2, h1, h2⟩
theorem run_enter {f : FuncId} {fn : Func} (hf : P.funcs[f]? = some fn) (hb : fn.body.isNone = false) (hn : (fn.name == "runtime.NumGoroutine") = false) (args : Array Value) (W : World) : (callFunc f args).run P W = .ok (.enter f args) W := by
 have hn' : ¬ fn.name = "runtime.NumGoroutine" := by simpa using hn
 have hb' : ¬ fn.body = none := fun e => by rw [e] at hb; cases hb
 simp [callFunc, hf, hb', hn']
theorem OpOK.call {f : FuncId} {args : List AV} {v : AV} {h' : Heap} (hc : CallOK P f args h v h')
 (H : ∀ (ρ : Ren) (W : World) (a : Act), OpsR ρ e a o.op.operands.toList → ∃ args', VRs ρ args args' ∧ (execOp a.eval o).run P W = (callFunc f args'.toArray).run P W) : OpOK P o e h v h' := by
 obtain ⟨hl, ⟨fn, hf, hb, hn⟩, hcall⟩ := hc
 refine ⟨hl, fun X N0 W0 ρ W a hH hO N Q hN => ?_⟩
 obtain ⟨args', ha, hr⟩ := H ρ W a hO
 unfold Oper.wp
 rw [hr, run_enter hf hb hn, Oper.upon_enter]
 refine (hcall X N0 W0 ρ W args' hH ha).mono fun e W' ⟨v', ρ', he, hH', hag, hv⟩ => ?_
 subst he
 exact hN ρ' W' v' hH' hag hv
theorem run_extract {vs : Array Value} {i : Nat} {v : Value} (hv : vs[i]? = some v) (W : World) : (Instr.extract (.tuple vs) i).run P W = .ok v W := by
 simp [Instr.extract, hv]
theorem isIface_run {t : TypeId} (hi : isIface P t = some false) : ∃ d, P.underlying t = some d ∧ ∀ ms, d ≠ .interface ms := by
 unfold isIface at hi
 split at hi
 · cases hi
 · rename_i d hu hne
   exact ⟨_, hne, fun ms e => hu ms e⟩
 · cases hi
theorem run_makeInterface {t : TypeId} (hi : isIface P t = some false) (v : Value) (W : World) : (Instr.makeInterface t v).run P W = .ok (.iface t v) W := by
 obtain ⟨d, hu, hd⟩ := isIface_run hi
 cases d <;> first | exact absurd rfl (hd _) | simp [Instr.makeInterface, run_underlying hu]
theorem opAssert_sound (hZ : ZeroAgg P) {a v : AV} {a' : Value} {t xt : TypeId} {ok : Bool} {ρ : Ren} (ha : VR ρ a a') (he : opAssert P a t ok = some v) (W : World) : ∃ v', (Instr.typeAssert a' xt t ok).run P W = .ok v' W ∧ VR ρ v v' := by
 have fail : ∀ z w, isIface P t = some false → zeroRow P t = some z → ofRow P t z = some w → ok = true → ∃ zv, (zeroValue t).run P W = .ok zv W ∧ VR ρ w zv := by
  intro z w hi hz ho hok
  obtain ⟨d, hu, hd⟩ := isIface_run hi
  obtain ⟨zv, hr, hv⟩ := zero_val (ρ := ρ) hu hz (hZ t) W
  refine ⟨zv, hr, ?_⟩
  unfold ofRow at ho
  cases hA : isAggT P t with
  | true => rw [hA] at ho hv; cases ho; exact hv
  | false =>
   rw [hA] at ho hv
   match z, ho, hv with
   | [u], ho, hv => cases ho; exact hv
 unfold opAssert at he
 split at he
 · rename_i hi
   obtain ⟨d, hu, hd⟩ := isIface_run hi
   simp only [cond_eq_ite] at he
   cases ha with | iface hv =>
   rename_i t' u u'
   split at he
   · rename_i hq
     cases he
     have hq : t' = t := by simpa using hq
     refine ⟨if ok then .tuple #[u', .bool true] else u', ?_, withOk_sound hv⟩
     cases d <;> first | exact absurd rfl (hd _) | (cases ok <;> simp [Instr.typeAssert, run_underlying hu, hq])
   · rename_i hq
     have hq : ¬ t' = t := by simpa using hq
     split at he
     · rename_i z hz
       split at he
       · rename_i w ho
         cases he
         obtain ⟨zv, hr, hw⟩ := fail z w hi hz ho rfl
         refine ⟨.tuple #[zv, .bool false], ?_, .tup (l' := [zv, .bool false]) (.cons hw (.cons (.bool _) .nil))⟩
         cases d <;> first | exact absurd rfl (hd _) | simp [Instr.typeAssert, run_underlying hu, hq, hr, Result.andThen]
       · cases he
     · cases he
 · rename_i hi
   obtain ⟨d, hu, hd⟩ := isIface_run hi
   cases ha
   split at he
   · rename_i z hz
     split at he
     · rename_i w ho
       cases he
       obtain ⟨zv, hr, hw⟩ := fail z w hi hz ho rfl
       refine ⟨.tuple #[zv, .bool false], ?_, .tup (l' := [zv, .bool false]) (.cons hw (.cons (.bool _) .nil))⟩
       cases d <;> first | exact absurd rfl (hd _) | simp [Instr.typeAssert, run_underlying hu, hr, Result.andThen]
     · cases he
   · cases he
 · cases he
theorem lenOf_sound {X : Nat → Prop} {N0 : Nat} {W0 W : World} {ρ : Ren} {y : AV} {y' : Value} {n : Nat} (H : HR X N0 W0 ρ h W) (hy : VR ρ y y') (hl : lenOf h y = some n) : ∃ A c, y' = .slice A n c := by
 unfold lenOf at hl
 split at hl
 · rename_i b
   split at hl
   · rename_i c hc
     simp only [cond_eq_ite] at hl
     split at hl
     · rename_i hs
       cases hl
       obtain ⟨inf, hi, ok⟩ := H.ok b c hc
       obtain ⟨_, A, cap, hv, _⟩ := ok.sl hs
       cases hy with | whole hi' hv' =>
       rw [hi] at hi'
       cases hi'
       rw [hv] at hv'
       cases hv'
       exact ⟨_, _, rfl⟩
     · cases hl
   · cases hl
 · cases hl; cases hy; exact ⟨_, _, rfl⟩
 · cases hl; cases hy; exact ⟨_, _, rfl⟩
 · cases hl; cases hy; exact ⟨_, _, rfl⟩
 · cases hl
theorem opAppend_len {t : TypeId} {x y v : AV} {h h' : Heap} (he : opAppend P t x y h pr = some (v, h')) : h.length ≤ h'.length := by
 unfold opAppend at he
 simp only [cond_eq_ite] at he
 split at he
 · split at he
   · rw [rowsOf_bind] at he
     obtain ⟨ys, _, he⟩ := Option.bind_eq_some_iff.1 he
     (repeat' split at he) <;> first | (cases he; done) | (cases he; simp)
   · cases he
 · cases he
theorem opClear_len {t : TypeId} {x : AV} {h h' : Heap} (he : opClear P t x h some = some h') : h'.length = h.length := by
 unfold opClear at he
 simp only [cond_eq_ite] at he
 (repeat' split at he) <;> first | (cases he; done) | (cases he; simp)
theorem opDelete_len {t : TypeId} {x y : AV} {h h' : Heap} (he : opDelete P t x y h some = some h') : h'.length = h.length := by
 unfold opDelete at he
 simp only [cond_eq_ite] at he
 (repeat' split at he) <;> first | (cases he; done) | (cases he; simp)
theorem opUpdate_len {t : TypeId} {x y v : AV} {h h' : Heap} (he : opUpdate P t x y v h some = some h') : h'.length = h.length := by
 unfold opUpdate at he
 simp only [cond_eq_ite] at he
 (repeat' split at he) <;> first | (cases he; done) | (cases he; simp)
theorem opStore_len {t : TypeId} {x v : AV} {h h' : Heap} (he : opStore P t x v h some = some h') : h'.length = h.length := by
 unfold opStore at he
 simp only [cond_eq_ite] at he
 split at he
 · split at he
   · split at he
     · cases he
     · split at he
       · rw [Rows.get_bind] at he
         obtain ⟨row, _, he⟩ := Option.bind_eq_some_iff.1 he
         split at he
         · cases he
         · rw [Rows.set_bind] at he
           obtain ⟨row, _, he⟩ := Option.bind_eq_some_iff.1 he
           cases he
           simp
       · cases he
   · cases he
 · cases he
theorem opBuildSlice_len {t : TypeId} {n : Nat} {ps : List (Nat × AV)} {v : AV} {h h' : Heap} (he : opBuildSlice P K t n ps h pr = some (v, h')) : h.length ≤ h'.length := by
 unfold opBuildSlice at he
 simp only [cond_eq_ite] at he
 (repeat' split at he) <;> first | (cases he; done) | (cases he; simp)
theorem opMakeMap_len {t : TypeId} {r : Option AV} {v : AV} {h h' : Heap} (he : opMakeMap P K t r h pr = some (v, h')) : h.length ≤ h'.length := by
 unfold opMakeMap at he
 (repeat' split at he) <;> first | (cases he; done) | (cases he; simp)
theorem opSlice_same {t : TypeId} {y v : AV} {lo hi mx : Option AV} {h h' : Heap} (he : opSlice P t y lo hi mx h pr = some (v, h')) : h' = h := by
 have b3 : ∀ {z : Option AV} {d m : Nat} {f : Nat → Option (AV × Heap)}, bound z d m f = some (v, h') → ∃ n, f n = some (v, h') := fun hb => by
  rw [bound_bind] at hb
  obtain ⟨n, _, hf⟩ := Option.bind_eq_some_iff.1 hb
  exact ⟨n, hf⟩
 unfold opSlice at he
 simp only [cond_eq_ite] at he
 split at he
 · split at he
   · split at he
     · obtain ⟨_, he⟩ := b3 he
       obtain ⟨_, he⟩ := b3 he
       obtain ⟨_, he⟩ := b3 he
       split at he <;> (cases he; rfl)
     · cases he
   · cases he
 · split at he
   · split at he
     · split at he
       · split at he
         · obtain ⟨_, he⟩ := b3 he
           obtain ⟨_, he⟩ := b3 he
           cases he; rfl
         · cases he
       · split at he
         · obtain ⟨_, he⟩ := b3 he
           obtain ⟨_, he⟩ := b3 he
           obtain ⟨_, he⟩ := b3 he
           cases he; rfl
         · cases he
     · cases he
   · cases he
 · split at he
   · split at he
     · obtain ⟨_, he⟩ := b3 he
       obtain ⟨_, he⟩ := b3 he
       obtain ⟨_, he⟩ := b3 he
       cases he; rfl
     · cases he
   · cases he
 · (repeat' split at he) <;> (cases he; try rfl)
 · cases he
theorem opCall_sound {orc : Orc R} (hK : Known P K) (hC : OrcOK P orc) {c : Call} {k : AV → Heap → Option R} (ho : o.op = .call c) (he : opCall P K orc c e h k = some x) : ∃ v h', k v h' = some x ∧ OpOK P o e h v h' := by
 have hops : ∀ {ρ : Ren} {a : Act}, OpsR ρ e a o.op.operands.toList → OpsR ρ e a c.args.toList := fun hO y hy => hO y (by rw [ho]; simp [Op.operands, Call.operands]; exact .inr (by simpa using hy))
 have hargs : ∀ {ρ : Ren} {a : Act}, OpsR ρ e a o.op.operands.toList → VRs ρ (evalAll e c.args.toList) (c.args.map a.eval).toList := fun hO => by
  rw [Array.toList_map]; exact evalAll_sound (hops hO)
 unfold opCall at he
 split at he
 · rename_i f hcal
   have hf : ∀ {ρ : Ren} {a : Act}, OpsR ρ e a o.op.operands.toList → VR ρ (evalO e f) (a.eval f) := fun hO => hO f (by rw [ho]; simp [Op.operands, Call.operands, hcal])
   split at he
   · rename_i g first cap hv
     obtain ⟨v, h', hk, hcall⟩ := hC _ _ _ _ _ he
     refine ⟨v, h', hk, OpOK.call hcall fun ρ W a hO => ?_⟩
     have h1 := hf hO
     rw [hv] at h1
     generalize hw : a.eval f = w at h1
     cases h1 with | fn h1 h2 =>
     rename_i fs' cs'
     refine ⟨fs' ++ ((c.args.map a.eval).toList ++ cs'), h1.append ((hargs hO).append h2), ?_⟩
     have : (resolve a.eval c o.type).run P W = .ok { target := .fn (.func g) cs'.toArray, args := fs'.toArray ++ c.args.map a.eval } W := by
      simp [resolve, hcal, hw, Deferred.ofValue]
     simp only [execOp, ho, Sem.run_bind, this, Result.andThen, invoke]
     congr 2
     simp
   · cases he
 · rename_i r m hcal
   have hf : ∀ {ρ : Ren} {a : Act}, OpsR ρ e a o.op.operands.toList → VR ρ (evalO e r) (a.eval r) := fun hO => hO r (by rw [ho]; simp [Op.operands, Call.operands, hcal])
   split at he
   · rename_i t u hv
     split at he
     · rename_i g hm
       obtain ⟨v, h', hk, hcall⟩ := hC _ _ _ _ _ he
       refine ⟨v, h', hk, OpOK.call hcall fun ρ W a hO => ?_⟩
       have h1 := hf hO
       rw [hv] at h1
       generalize hw : a.eval r = w at h1
       cases h1 with | iface h1 =>
       rename_i u'
       refine ⟨u' :: (c.args.map a.eval).toList, .cons h1 (hargs hO), ?_⟩
       have : (resolve a.eval c o.type).run P W = .ok { target := .fn (.method m) #[], args := #[.iface t u'] ++ c.args.map a.eval } W := by
        simp [resolve, hcal, hw]
       simp only [execOp, ho, Sem.run_bind, this, Result.andThen, invoke]
       have e1 : (#[Value.iface t u'] ++ c.args.map a.eval)[0]? = some (.iface t u') := by rw [Array.getElem?_append_left (by simp)]; rfl
       rw [e1]
       have e2 : (#[Value.iface t u'] ++ c.args.map a.eval).extract 1 (#[Value.iface t u'] ++ c.args.map a.eval).size = c.args.map a.eval := by
        apply Array.toList_inj.1
        simp
        exact List.take_of_length_le (by simp)
       simp only [e2]
       rw [hK.meth t m g hm]
       congr 2
       simp
     · cases he
   · cases he
 · rename_i b hcal
   have hres : ∀ {a : Act} {W : World}, (execOp a.eval o).run P W = (builtin b c.argTypes o.type (c.args.map fun | .const _ => true | _ => false) (c.args.map a.eval)).run P W := fun {a W} => by
    have : (resolve a.eval c o.type).run P W = .ok { target := .builtin b c.argTypes o.type (c.args.map fun | .const _ => true | _ => false), args := c.args.map a.eval } W := by
     simp only [resolve, hcal, Sem.run_pure]
     rfl
    simp only [execOp, ho, Sem.run_bind, this, Result.andThen, invoke]
   have two : ∀ {ρ : Ren} {a : Act} {y z : AV}, evalAll e c.args.toList = [y, z] → OpsR ρ e a o.op.operands.toList → ∃ y' z', c.args.map a.eval = #[y', z'] ∧ VR ρ y y' ∧ VR ρ z z' := fun hl hO => by
    have h1 := hargs hO
    rw [hl] at h1
    generalize hw : Array.map _ c.args = w at h1
    obtain ⟨w⟩ := w
    cases h1 with | cons h1 h2 =>
    cases h2 with | cons h2 h3 =>
    cases h3
    exact ⟨_, _, rfl, h1, h2⟩
   have one : ∀ {ρ : Ren} {a : Act} {y : AV}, evalAll e c.args.toList = [y] → OpsR ρ e a o.op.operands.toList → ∃ y', c.args.map a.eval = #[y'] ∧ VR ρ y y' := fun hl hO => by
    have h1 := hargs hO
    rw [hl] at h1
    generalize hw : Array.map _ c.args = w at h1
    obtain ⟨w⟩ := w
    cases h1 with | cons h1 h2 =>
    cases h2
    exact ⟨_, rfl, h1⟩
   have tys1 : ∀ {t : TypeId}, c.argTypes.toList = [t] → c.argTypes = #[t] := fun hl => Array.toList_inj.1 hl
   have tys2 : ∀ {t u : TypeId}, c.argTypes.toList = [t, u] → c.argTypes = #[t, u] := fun hl => Array.toList_inj.1 hl
   split at he
   · rename_i bb tt hal hty
     split at he
     · rename_i d1 d2 cc hu hc
       split at he
       · rename_i tc l hr
         refine ⟨_, _, he, OpOK.val fun X N0 W0 ρ W a hH hO => ?_⟩
         obtain ⟨y', hy, hv⟩ := one hal hO
         obtain ⟨inf, hi, okc⟩ := hH.ok _ _ hc
         obtain ⟨_, es, clock, hb, hm⟩ := okc.mp _ (by rw [hr]; rfl)
         cases hv with | mapv hi' =>
         rw [hi] at hi'
         cases hi'
         refine ⟨.int .i64 l.length, ?_, .int _ _⟩
         rw [hres, hy, tys1 hty]
         have hlen := hm.length
         simp at hlen
         simp [builtin, Builtin.len_, run_underlying hu, MapKept.run_getObj_map hb, Result.andThen, hlen, goInt]
       · cases he
     · cases he
   · rename_i y tt _ hal hty
     split at he
     · rename_i e1 n hu hn
       refine ⟨_, _, he, OpOK.val fun X N0 W0 ρ W a hH hO => ?_⟩
       obtain ⟨y', hy, hv⟩ := one hal hO
       obtain ⟨A, cap, rfl⟩ := lenOf_sound hH hv hn
       refine ⟨.int .i64 n, ?_, .int _ _⟩
       rw [hres, hy, tys1 hty]
       simp [builtin, Builtin.len_, run_underlying hu, goInt]
     · cases he
   · rename_i y z t t' hal hty
     simp only [cond_eq_ite] at he
     split at he
     · rename_i hq
       have hq : t = t' := by simpa using hq
       subst hq
       rw [opAppend_bind] at he
       obtain ⟨v, h', h1, hk⟩ := bind2 he
       refine ⟨v, h', hk, OpOK.lead (opAppend_len h1) fun X N0 W0 ρ W a hH hO => ?_⟩
       · obtain ⟨y', z', hy, hv, hv2⟩ := two hal hO
         obtain ⟨v', W', hr, hl⟩ := opAppend_sound hH hv hv2 h1 o.type
         refine ⟨v', W', ?_, hl⟩
         rw [hres, hy, tys2 hty]
         exact run_v hr
     · cases he
   · rename_i y t hal hty
     rw [opClear_bind] at he
     obtain ⟨h', h1, hk⟩ := Option.bind_eq_some_iff.1 he
     refine ⟨_, _, hk, OpOK.unit (opClear_len h1) fun X N0 W0 ρ W a hH hO => ?_⟩
     · obtain ⟨y', hy, hv⟩ := one hal hO
       obtain ⟨h2, W', hr, hH', he2, _⟩ := opClear_sound hH hv h1 o.type
       cases he2
       refine ⟨W', .inr ?_, hH'⟩
       rw [hres, hy, tys1 hty]
       exact run_v hr
   · rename_i y z t t' hal hty
     rw [opDelete_bind] at he
     obtain ⟨h', h1, hk⟩ := Option.bind_eq_some_iff.1 he
     refine ⟨_, _, hk, OpOK.unit (opDelete_len h1) fun X N0 W0 ρ W a hH hO => ?_⟩
     · obtain ⟨y', z', hy, hv, hv2⟩ := two hal hO
       obtain ⟨h2, W', hr, hH', he2, _⟩ := opDelete_sound (tk := t') hH hv hv2 h1 o.type
       cases he2
       refine ⟨W', .inr ?_, hH'⟩
       rw [hres, hy, tys2 hty]
       exact run_v hr
   · rename_i p q hal
     refine ⟨_, _, he, OpOK.val fun X N0 W0 ρ W a hH hO => ?_⟩
     obtain ⟨y', z', hy, hv, hv2⟩ := two hal hO
     cases hv
     cases hv2
     refine ⟨_, ?_, .int _ _⟩
     rw [hres, hy]
     have : max p q = if q > p then q else p := by omega
     simp [builtin, Builtin.max_, Builtin.max2, this]
   · rename_i p q hal
     refine ⟨_, _, he, OpOK.val fun X N0 W0 ρ W a hH hO => ?_⟩
     obtain ⟨y', z', hy, hv, hv2⟩ := two hal hO
     cases hv
     cases hv2
     refine ⟨_, ?_, .int _ _⟩
     rw [hres, hy]
     have : min p q = if q < p then q else p := by omega
     simp [builtin, Builtin.min_, Builtin.min2, this]
   · cases he
theorem evOp_sound {orc : Orc R} (hK : Known P K) (hC : OrcOK P orc) {k : AV → Heap → Option R} (he : evOp P K orc o e h k = some x) : ∃ v h', k v h' = some x ∧ OpOK P o e h v h' := by
 unfold evOp at he
 split at he
 · rename_i y ho
   exact ⟨_, _, he, OpOK.val fun X N0 W0 ρ W a hH hO => ⟨a.eval y, by simp [execOp, ho], hO y (by simp [ho, Op.operands])⟩⟩
 · rename_i y ho
   exact ⟨_, _, he, OpOK.val fun X N0 W0 ρ W a hH hO => ⟨a.eval y, by simp [execOp, ho], hO y (by simp [ho, Op.operands])⟩⟩
 · rename_i c y z ho
   split at he
   · rename_i t hc
     have hcv : ∀ {ρ a}, OpsR ρ e a o.op.operands.toList → a.eval c = .bool t := fun {ρ a} hO => by
      have := hO c (by simp [ho, Op.operands])
      rw [hc] at this
      generalize a.eval c = w at this
      cases this
      rfl
     split at he
     · rename_i p q hy hz
       refine ⟨_, _, he, OpOK.val fun X N0 W0 ρ W a hH hO => ⟨if t then a.eval y else a.eval z, by cases t <;> simp [execOp, ho, hcv hO, asBool], ?_⟩⟩
       have h1 := hO y (by simp [ho, Op.operands])
       have h2 := hO z (by simp [ho, Op.operands])
       rw [hy] at h1
       rw [hz] at h2
       cases t
       · simpa using h2
       · simpa using h1
     · simp only [cond_eq_ite] at he
       cases t with
       | true => exact ⟨_, _, he, OpOK.val fun X N0 W0 ρ W a hH hO => ⟨a.eval y, by simp [execOp, ho, hcv hO, asBool], hO y (by simp [ho, Op.operands])⟩⟩
       | false => exact ⟨_, _, he, OpOK.val fun X N0 W0 ρ W a hH hO => ⟨a.eval z, by simp [execOp, ho, hcv hO, asBool], hO z (by simp [ho, Op.operands])⟩⟩
   · cases he
 · rename_i t ho
   split at he
   · rename_i row hz
     unfold opNew at he
     refine ⟨_, _, he, OpOK.lead (by simp) fun X N0 W0 ρ W a hH hO => ?_⟩
     obtain ⟨ti, v, hti, hv, hr, h1⟩ := zeroRow_some hz ρ
     refine ⟨_, _, ?_, opNew_sound (e := t) (k := pr) hH hr h1 rfl⟩
     simp only [execOp, ho]
     refine run_v ?_
     have e1 : (zeroValue t).run P W = .ok v W := by simp [zeroValue, typeInfo, hti, hv]
     simp [Instr.alloc, e1, Result.andThen, newVar, newRow]
   · cases he
 · rename_i t y ho
   split at he
   · rename_i row hz
     unfold opNew at he
     refine ⟨_, _, he, OpOK.lead (by simp) fun X N0 W0 ρ W a hH hO => ?_⟩
     have hy := hO y (by simp [ho, Op.operands])
     obtain ⟨hr, h1⟩ := cellsOf_sound hy hz
     refine ⟨_, _, ?_, opNew_sound (e := t) (k := pr) hH hr h1 rfl⟩
     simp only [execOp, ho]
     refine run_v ?_
     simp [Instr.box, newVar, newRow]
   · cases he
 · rename_i t ps ho
   split at he
   · rename_i v hv
     refine ⟨_, _, he, OpOK.val fun X N0 W0 ρ W a hH hO => ?_⟩
     have hp : PartsR ρ (evalParts e ps.toList) (ps.map fun (i, x) => (i, a.eval x)).toList := by
      rw [Array.toList_map]
      exact evalParts_sound fun y hy => hO y (by simp only [ho, Op.operands]; simpa using hy)
     obtain ⟨v', hr, hv'⟩ := opBuild_sound hp hv W
     exact ⟨v', by simp only [execOp, ho]; exact run_v hr, hv'⟩
   · cases he
 · rename_i t n ps ho
   rw [opBuildSlice_bind] at he
   obtain ⟨v, h', h1, hk⟩ := bind2 he
   refine ⟨v, h', hk, OpOK.lead (opBuildSlice_len h1) fun X N0 W0 ρ W a hH hO => ?_⟩
   have hp : PartsR ρ (evalParts e ps.toList) (ps.map fun (i, x) => (i, a.eval x)).toList := by
    rw [Array.toList_map]
    exact evalParts_sound fun y hy => hO y (by simp only [ho, Op.operands]; simpa using hy)
   obtain ⟨v', W', hr, hl, _⟩ := opBuildSlice_sound hK.code hH hp h1
   exact ⟨v', W', by simp only [execOp, ho]; exact run_v hr, hl⟩
 · rename_i t y ho
   rw [opLoad_bind] at he
   obtain ⟨v, h1, hk⟩ := Option.bind_eq_some_iff.1 he
   refine ⟨v, h, hk, OpOK.val fun X N0 W0 ρ W a hH hO => ?_⟩
   obtain ⟨v0, v', hr, hv, e0⟩ := opLoad_sound hH (hO y (by simp [ho, Op.operands])) h1
   cases e0
   exact ⟨v', by simp only [execOp, ho]; exact run_v hr, hv⟩
 · rename_i t y z ho
   rw [opStore_bind] at he
   obtain ⟨h', h1, hk⟩ := Option.bind_eq_some_iff.1 he
   refine ⟨_, h', hk, OpOK.unit (opStore_len h1) fun X N0 W0 ρ W a hH hO => ?_⟩
   obtain ⟨h2, W', hr, hH', e0, _⟩ := opStore_sound hH (hO y (by simp [ho, Op.operands])) (hO z (by simp [ho, Op.operands])) h1
   cases e0
   exact ⟨W', .inl (by simp only [execOp, ho]; exact run_u hr), hH'⟩
 · rename_i y ho
   split at he
   · rename_i b i j hy
     refine ⟨_, _, he, OpOK.val fun X N0 W0 ρ W a hH hO => ?_⟩
     have h1 := hO y (by simp [ho, Op.operands])
     rw [hy] at h1
     refine ⟨a.eval y, ?_, h1⟩
     generalize hw : a.eval y = w at h1
     cases h1
     simp [execOp, ho, hw]
   · rename_i f fs cs hy
     refine ⟨_, _, he, OpOK.val fun X N0 W0 ρ W a hH hO => ?_⟩
     have h1 := hO y (by simp [ho, Op.operands])
     rw [hy] at h1
     refine ⟨a.eval y, ?_, h1⟩
     generalize hw : a.eval y = w at h1
     cases h1
     simp [execOp, ho, hw]
   · cases he
 · rename_i op t y z w ho
   rw [opBin_bind] at he
   obtain ⟨v, h1, hk⟩ := Option.bind_eq_some_iff.1 he
   refine ⟨v, h, hk, OpOK.val fun X N0 W0 ρ W a hH hO => ?_⟩
   obtain ⟨v0, v', hr, hv, e0⟩ := opBin_sound hK.eq hH (hO y (by simp [ho, Op.operands])) (hO z (by simp [ho, Op.operands])) h1 y z
   cases e0
   exact ⟨v', by simp only [execOp, ho]; exact run_v hr, hv⟩
 · rename_i op t y ho
   split at he
   · rename_i v hv
     refine ⟨_, _, he, OpOK.val fun X N0 W0 ρ W a hH hO => ?_⟩
     obtain ⟨v', hr, hv'⟩ := opUn_sound (P := P) (hO y (by simp [ho, Op.operands])) hv W
     exact ⟨v', by simp only [execOp, ho]; exact run_v hr, hv'⟩
   · cases he
 · rename_i src dst y ho
   simp only [cond_eq_ite] at he
   split at he
   · cases he
   · rename_i hs
     split at he
     · rename_i v hv
       refine ⟨_, _, he, OpOK.val fun X N0 W0 ρ W a hH hO => ?_⟩
       have hd : ∃ d, P.underlying src = some d := by
        cases hu : P.underlying src with
        | none => rw [hu] at hs; simp at hs
        | some d => exact ⟨d, rfl⟩
       obtain ⟨v', hr, hv'⟩ := opConv_sound hd (hO y (by simp [ho, Op.operands])) hv W
       exact ⟨v', by simp only [execOp, ho]; exact run_v hr, hv'⟩
     · cases he
 · rename_i f fs cs ho
   refine ⟨_, _, he, OpOK.val fun X N0 W0 ρ W a hH hO => ⟨.func f (fs.map a.eval) (cs.map a.eval), by simp [execOp, ho, Instr.makeFunc], ?_⟩⟩
   have h1 : VRs ρ (evalAll e fs.toList) (fs.map a.eval).toList := by
    rw [Array.toList_map]; exact evalAll_sound fun y hy => hO y (by simp only [ho, Op.operands, Array.toList_append]; exact List.mem_append_left _ hy)
   have h2 : VRs ρ (evalAll e cs.toList) (cs.map a.eval).toList := by
    rw [Array.toList_map]; exact evalAll_sound fun y hy => hO y (by simp only [ho, Op.operands, Array.toList_append]; exact List.mem_append_right _ hy)
   have := VR.fn (f := f) h1 h2
   rwa [Array.toArray_toList, Array.toArray_toList] at this
 · rename_i t y ho
   split at he
   · rename_i hi
     refine ⟨_, _, he, OpOK.val fun X N0 W0 ρ W a hH hO => ⟨.iface t (a.eval y), ?_, .iface (hO y (by simp [ho, Op.operands]))⟩⟩
     simp only [execOp, ho]
     exact run_v (run_makeInterface hi _ _)
   · cases he
 · rename_i y xt t ok ho
   split at he
   · rename_i v hv
     refine ⟨_, _, he, OpOK.val fun X N0 W0 ρ W a hH hO => ?_⟩
     obtain ⟨v', hr, hv'⟩ := opAssert_sound hK.zero (xt := xt) (hO y (by simp [ho, Op.operands])) hv W
     exact ⟨v', by simp only [execOp, ho]; exact run_v hr, hv'⟩
   · cases he
 · rename_i t r ho
   rw [opMakeMap_bind] at he
   obtain ⟨v, h', h1, hk⟩ := bind2 he
   refine ⟨v, h', hk, OpOK.lead (opMakeMap_len h1) fun X N0 W0 ρ W a hH hO => ?_⟩
   obtain ⟨v', W', hr, hl, _⟩ := opMakeMap_sound hH (mapO_sound fun y hy => hO y (by subst hy; simp [ho, Op.operands])) h1
   exact ⟨v', W', by simp only [execOp, ho]; exact run_v hr, hl⟩
 · rename_i t m i v0 ho
   rw [opUpdate_bind] at he
   obtain ⟨h', h1, hk⟩ := Option.bind_eq_some_iff.1 he
   refine ⟨_, h', hk, OpOK.unit (opUpdate_len h1) fun X N0 W0 ρ W a hH hO => ?_⟩
   obtain ⟨h2, W', hr, hH', e0, _⟩ := opUpdate_sound hH (hO m (by simp [ho, Op.operands])) (hO i (by simp [ho, Op.operands])) (hO v0 (by simp [ho, Op.operands])) h1
   cases e0
   exact ⟨W', .inl (by simp only [execOp, ho]; exact run_u hr), hH'⟩
 · rename_i t m i v0 ho
   rw [opUpdate_bind] at he
   obtain ⟨h', h1, hk⟩ := Option.bind_eq_some_iff.1 he
   refine ⟨_, h', hk, OpOK.unit (opUpdate_len h1) fun X N0 W0 ρ W a hH hO => ?_⟩
   obtain ⟨h2, W', hr, hH', e0, _⟩ := opUpdate_sound hH (hO m (by simp [ho, Op.operands])) (hO i (by simp [ho, Op.operands])) (hO v0 (by simp [ho, Op.operands])) h1
   cases e0
   exact ⟨W', .inl (by simp only [execOp, ho]; exact run_u hr), hH'⟩
 · rename_i t m i ok ho
   rw [opLookup_bind] at he
   obtain ⟨v, h1, hk⟩ := Option.bind_eq_some_iff.1 he
   refine ⟨v, h, hk, OpOK.val fun X N0 W0 ρ W a hH hO => ?_⟩
   obtain ⟨v0, v', hr, hv, e0⟩ := opLookup_sound hK.zero hH (hO m (by simp [ho, Op.operands])) (hO i (by simp [ho, Op.operands])) h1
   cases e0
   exact ⟨v', by simp only [execOp, ho]; exact run_v hr, hv⟩
 · rename_i t y lo hi mx ho
   simp only [cond_eq_ite] at he
   split at he
   · cases he
   · rename_i hq
     rw [opSlice_bind] at he
     obtain ⟨v, h', h1, hk⟩ := bind2 he
     have hm : ∀ {ρ : Ren} {a : Act}, OpsR ρ e a o.op.operands.toList → VR ρ (evalO e y) (a.eval y) ∧ VRo ρ (lo.map (evalO e)) (lo.map a.eval) ∧ VRo ρ (hi.map (evalO e)) (hi.map a.eval) ∧ VRo ρ (mx.map (evalO e)) (mx.map a.eval) := fun hO => by
      refine ⟨hO y (by simp [ho, Op.operands]), mapO_sound fun z hz => hO z ?_, mapO_sound fun z hz => hO z ?_, mapO_sound fun z hz => hO z ?_⟩ <;> subst hz <;> simp [ho, Op.operands]
     have hok : mx.map (evalO e) ≠ none → hi.map (evalO e) ≠ none := by
      intro h1 h2
      cases mx with
      | none => exact h1 rfl
      | some z =>
       cases hi with
       | some w => cases h2
       | none => simp at hq
     have hsame : h' = h := opSlice_same h1
     subst hsame
     refine ⟨v, _, hk, OpOK.val fun X N0 W0 ρ W a hH hO => ?_⟩
     obtain ⟨m1, m2, m3, m4⟩ := hm hO
     obtain ⟨v0, v', hr, hv, e0⟩ := opSlice_sound hH m1 m2 m3 m4 hok h1
     cases e0
     exact ⟨v', by simp only [execOp, ho]; exact run_v hr, hv⟩
 · rename_i s y f ho
   split at he
   · rename_i v hv
     refine ⟨_, _, he, OpOK.val fun X N0 W0 ρ W a hH hO => ?_⟩
     obtain ⟨v', hr, hv'⟩ := opFieldAddr_sound (hO y (by simp [ho, Op.operands])) hv W
     exact ⟨v', by simp only [execOp, ho]; exact run_v hr, hv'⟩
   · cases he
 · rename_i s y f ho
   split at he
   · rename_i v hv
     refine ⟨_, _, he, OpOK.val fun X N0 W0 ρ W a hH hO => ?_⟩
     obtain ⟨v', hr, hv'⟩ := opField_sound (hO y (by simp [ho, Op.operands])) hv W
     exact ⟨v', by simp only [execOp, ho]; exact run_v hr, hv'⟩
   · cases he
 · rename_i t y z ho
   rw [opIndexAddr_bind] at he
   obtain ⟨v, h1, hk⟩ := Option.bind_eq_some_iff.1 he
   refine ⟨v, h, hk, OpOK.val fun X N0 W0 ρ W a hH hO => ?_⟩
   obtain ⟨v0, v', hr, hv, e0⟩ := opIndexAddr_sound hH (hO y (by simp [ho, Op.operands])) (hO z (by simp [ho, Op.operands])) h1
   cases e0
   exact ⟨v', by simp only [execOp, ho]; exact run_v hr, hv⟩
 · rename_i t y z ho
   rw [opIndex_bind] at he
   obtain ⟨v, h1, hk⟩ := Option.bind_eq_some_iff.1 he
   refine ⟨v, h, hk, OpOK.val fun X N0 W0 ρ W a hH hO => ?_⟩
   obtain ⟨v0, v', hr, hv, e0⟩ := opIndex_sound (hO y (by simp [ho, Op.operands])) (hO z (by simp [ho, Op.operands])) h1 W
   cases e0
   exact ⟨v', by simp only [execOp, ho]; exact run_v hr, hv⟩
 · rename_i y i ho
   split at he
   · rename_i l hy
     split at he
     · rename_i v hv
       refine ⟨_, _, he, OpOK.val fun X N0 W0 ρ W a hH hO => ?_⟩
       have h1 := hO y (by simp [ho, Op.operands])
       rw [hy] at h1
       generalize hw : a.eval y = w at h1
       cases h1 with | tup h1 =>
       obtain ⟨v', h2, h3⟩ := h1.get hv
       refine ⟨v', ?_, h3⟩
       simp only [execOp, ho, hw]
       exact run_v (run_extract (by simpa using h2) W)
     · cases he
   · cases he
 · rename_i c ho
   exact opCall_sound hK hC ho he
 · cases he
end
end Go.Abs
