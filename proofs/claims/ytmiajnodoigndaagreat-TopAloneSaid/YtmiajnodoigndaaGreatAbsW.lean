/- Own: What is to be known of a program beside its code: that it follows from what may be reckoned out. -/
import Derived.Test.YtmiajnodoigndaaGreatAbsV
import Derived.ChangeKeysEq
namespace Go.Abs
open Go.RowKit
set_option linter.unusedVariables false
section
variable {P : Program} {K : Kinds}
def isIntT (P : Program) (t : TypeId) : Bool := match P.underlying t with | some (.int _) => true | _ => false
def isBoolT (P : Program) (t : TypeId) : Bool := match P.underlying t with | some .bool => true | _ => false
def oneT (P : Program) (b : Bool) (t : TypeId) : Bool := bif b then isIntT P t else isBoolT P t
def fldOK (P : Program) : List Field → List Bool → Nat → Bool
 | [], [], _ => true
 | f :: fs, b :: bs, k => !(f.name == "_") && (Nat.beq f.offset k && (oneT P b f.type && fldOK P fs bs (k + 1)))
 | _, _, _ => false
def eqOK (P : Program) (t : TypeId) (s : List Bool) : Bool := !(P.eqGuardType P.depth t) && (match P.underlying t with
 | some (.struct fs) => !P.stoodInHeld t && fldOK P fs.toList s 0
 | some (.array n e) => Nat.beq n s.length && (s.all (fun b => oneT P b e) && (match P.info? e with | some i => Nat.beq i.size 1 | none => false))
 | _ => false)
theorem run_part1 {b : Bool} {t : TypeId} (ht : oneT P b t = true) {xs : Array Value} {k : Nat} {v : Value} (hx : xs[k]? = some v) (W : World) : (part t xs k).run P W = .ok v W := by
 have hag : (isAgg t).run P W = .ok false W := by
  cases b with
  | true =>
   simp only [oneT, cond_true, isIntT] at ht
   split at ht
   · rename_i k hu
     rw [isAggT_run hu]
     simp [isAggT, hu]
   · cases ht
  | false =>
   simp only [oneT, cond_false, isBoolT] at ht
   split at ht
   · rename_i hu
     rw [isAggT_run hu]
     simp [isAggT, hu]
   · cases ht
 simp [part, hag, hx]
theorem run_eq1 {b : Bool} {t : TypeId} (ht : oneT P b t = true) (d : Nat) (W : World) : (∀ (k : IntKind) (x y : Int), b = true → (Op.equalIn (d + 1) t (.int k x) (.int k y)).run P W = .ok (decide (x = y)) W) ∧ (∀ (x y : Bool), b = false → (Op.equalIn (d + 1) t (.bool x) (.bool y)).run P W = .ok (x == y) W) := by
 refine ⟨fun k x y hb => ?_, fun x y hb => ?_⟩
 · subst hb
   simp only [oneT, cond_true, isIntT] at ht
   split at ht
   · rename_i k' hu
     rw [run_equalIn_int W d t k k' x y hu]
     rfl
   · cases ht
 · subst hb
   simp only [oneT, cond_false, isBoolT] at ht
   split at ht
   · rename_i hu
     exact run_equalIn_bool' W d t x y hu
   · cases ht
theorem eqRow_cons {s : List Bool} {a b : List AV} {c : Bool} {ρ : Ren} {a' b' : List Value} (he : eqRow s a b = some c) (ha : VRs ρ a a') (hb : VRs ρ b b') : (s = [] ∧ c = true) ∨ ∃ s1 s2 v w l m a2 b2 r, s = s1 :: s2 ∧ a' = v :: a2 ∧ b' = w :: b2 ∧ eqRow s2 l m = some r ∧ VRs ρ l a2 ∧ VRs ρ m b2 ∧
 ∃ q, c = (q && r) ∧ ((s1 = true ∧ ∃ k x y, v = .int k x ∧ w = .int k y ∧ q = decide (x = y)) ∨ (s1 = false ∧ ∃ x y, v = .bool x ∧ w = .bool y ∧ q = (x == y))) := by
 unfold eqRow at he
 split at he
 · exact .inl ⟨rfl, (Option.some.inj he).symm⟩
 · rename_i s k x l k' y m
   split at he
   · rename_i hk r _ hr
     cases ha with | cons ha hla =>
     cases hb with | cons hb hlb =>
     cases ha
     cases hb
     cases he
     exact .inr ⟨_, _, _, _, _, _, _, _, _, rfl, rfl, rfl, hr, hla, hlb, _, rfl, .inl ⟨rfl, _, _, _, rfl, by rw [hk], rfl⟩⟩
   · cases he
 · rename_i s x l y m
   split at he
   · rename_i r hr
     cases ha with | cons ha hla =>
     cases hb with | cons hb hlb =>
     cases ha
     cases hb
     cases he
     exact .inr ⟨_, _, _, _, _, _, _, _, _, rfl, rfl, rfl, hr, hla, hlb, _, rfl, .inr ⟨rfl, _, _, rfl, rfl, rfl⟩⟩
   · cases he
 · cases he
theorem eq_fields (d : Nat) (W : World) {ρ : Ren} : ∀ (fs : List Field) (s : List Bool) (k : Nat) (a b : List AV) (a' b' : List Value) (c : Bool) (xs ys : Array Value), fldOK P fs s k = true → eqRow s a b = some c → VRs ρ a a' → VRs ρ b b' →
 (∀ (j : Nat) (v : Value), a'[j]? = some v → xs[k + j]? = some v) → (∀ (j : Nat) (v : Value), b'[j]? = some v → ys[k + j]? = some v) → (Op.eqFields (d + 1) xs ys fs).run P W = .ok c W
 | [], [], k, a, b, a', b', c, xs, ys, hf, he, ha, hb, hx, hy => by
  rcases eqRow_cons he ha hb with ⟨_, rfl⟩ | ⟨_, _, _, _, _, _, _, _, _, e, _⟩
  · simp [Op.eqFields]
  · cases e
 | f :: fs, s1 :: s, k, a, b, a', b', c, xs, ys, hf, he, ha, hb, hx, hy => by
  simp only [fldOK, Bool.and_eq_true, Bool.not_eq_true'] at hf
  obtain ⟨hn, ho, h1, hf⟩ := hf
  have ho := beq_eq ho
  rcases eqRow_cons he ha hb with ⟨e, _⟩ | ⟨s1', s2', v, w, l, m, a2, b2, r, e, rfl, rfl, hr, hla, hlb, q, rfl, hq⟩
  · cases e
  cases e
  have hrest := eq_fields d W fs s (k + 1) l m a2 b2 r xs ys hf hr hla hlb (fun j v hj => by rw [show k + 1 + j = k + (j + 1) by omega]; exact hx (j + 1) v (by simpa using hj)) (fun j v hj => by rw [show k + 1 + j = k + (j + 1) by omega]; exact hy (j + 1) v (by simpa using hj))
  have hv : (part f.type xs f.offset).run P W = .ok v W := run_part1 h1 (by rw [ho]; exact hx 0 v rfl) W
  have hw : (part f.type ys f.offset).run P W = .ok w W := run_part1 h1 (by rw [ho]; exact hy 0 w rfl) W
  have heq : (Op.equalIn (d + 1) f.type v w).run P W = .ok q W := by
   rcases hq with ⟨rfl, k, x, y, rfl, rfl, rfl⟩ | ⟨rfl, x, y, rfl, rfl, rfl⟩
   · exact (run_eq1 h1 d W).1 k x y rfl
   · exact (run_eq1 h1 d W).2 x y rfl
  have hn' : f.name ≠ "_" := by simpa using hn
  simp only [Op.eqFields, if_pos hn', Sem.run_bind, hv, hw, heq, Result.andThen_ok]
  cases q
  · simp
  · simpa using hrest
 | [], _ :: _, k, a, b, a', b', c, xs, ys, hf, _, _, _, _, _ => by cases hf
 | _ :: _, [], k, a, b, a', b', c, xs, ys, hf, _, _, _, _, _ => by cases hf
theorem eq_items (d : Nat) (e : TypeId) (W : World) {ρ : Ren} : ∀ (s : List Bool) (k : Nat) (a b : List AV) (a' b' : List Value) (c : Bool) (xs ys : Array Value), s.all (fun b => oneT P b e) = true → eqRow s a b = some c → VRs ρ a a' → VRs ρ b b' →
 (∀ (j : Nat) (v : Value), a'[j]? = some v → xs[k + j]? = some v) → (∀ (j : Nat) (v : Value), b'[j]? = some v → ys[k + j]? = some v) → (Op.eqItems (d + 1) e 1 xs ys (List.range' k s.length)).run P W = .ok c W
 | [], k, a, b, a', b', c, xs, ys, hf, he, ha, hb, hx, hy => by
  rcases eqRow_cons he ha hb with ⟨_, rfl⟩ | ⟨_, _, _, _, _, _, _, _, _, e, _⟩
  · simp [Op.eqItems]
  · cases e
 | s1 :: s, k, a, b, a', b', c, xs, ys, hf, he, ha, hb, hx, hy => by
  simp only [List.all_cons, Bool.and_eq_true] at hf
  obtain ⟨h1, hf⟩ := hf
  rcases eqRow_cons he ha hb with ⟨e, _⟩ | ⟨s1', s2', v, w, l, m, a2, b2, r, e, rfl, rfl, hr, hla, hlb, q, rfl, hq⟩
  · cases e
  cases e
  have hrest := eq_items d e W s (k + 1) l m a2 b2 r xs ys hf hr hla hlb (fun j v hj => by rw [show k + 1 + j = k + (j + 1) by omega]; exact hx (j + 1) v (by simpa using hj)) (fun j v hj => by rw [show k + 1 + j = k + (j + 1) by omega]; exact hy (j + 1) v (by simpa using hj))
  have hv : (part e xs (k * 1)).run P W = .ok v W := run_part1 h1 (by rw [Nat.mul_one]; exact hx 0 v rfl) W
  have hw : (part e ys (k * 1)).run P W = .ok w W := run_part1 h1 (by rw [Nat.mul_one]; exact hy 0 w rfl) W
  have heq : (Op.equalIn (d + 1) e v w).run P W = .ok q W := by
   rcases hq with ⟨rfl, k, x, y, rfl, rfl, rfl⟩ | ⟨rfl, x, y, rfl, rfl, rfl⟩
   · exact (run_eq1 h1 d W).1 k x y rfl
   · exact (run_eq1 h1 d W).2 x y rfl
  rw [List.length_cons, List.range'_succ]
  simp only [Op.eqItems, Sem.run_bind, hv, hw, heq, Result.andThen_ok]
  cases q
  · simp
  · simpa using hrest
theorem eqOK_sound {t : TypeId} {s : List Bool} {a b : List AV} {c : Bool} {ρ : Ren} {a' b' : List Value} (h : eqOK P t s = true) (he : eqRow s a b = some c) (ha : VRs ρ a a') (hb : VRs ρ b b') (W : World) :
 (∀ x y : Operand, (eqGuard .eql t x y (.agg a'.toArray) (.agg b'.toArray)).run P W = .ok () W ∧ (eqGuard .neq t x y (.agg a'.toArray) (.agg b'.toArray)).run P W = .ok () W) ∧ (Op.equal t (.agg a'.toArray) (.agg b'.toArray)).run P W = .ok c W := by
 simp only [eqOK, Bool.and_eq_true, Bool.not_eq_true'] at h
 obtain ⟨hg, h⟩ := h
 refine ⟨fun x y => ⟨by simp [eqGuard, hg], by simp [eqGuard, hg]⟩, ?_⟩
 split at h
 · rename_i fs hu
   simp only [Bool.and_eq_true, Bool.not_eq_true'] at h
   have hf : P.fieldsOf t = fs := by simp [Program.fieldsOf, hu]
   have := run_equalIn_struct (P := P) W (Op.maxDepth - 1) t a'.toArray b'.toArray (by rw [hf]; exact hu) h.1
   rw [hf] at this
   exact this.trans (eq_fields _ W fs.toList s 0 a b a' b' c _ _ h.2 he ha hb (fun j v hj => by simpa using hj) (fun j v hj => by simpa using hj))
 · rename_i n e hu
   simp only [Bool.and_eq_true] at h
   obtain ⟨h1, h2, h3⟩ := h
   split at h3
   · rename_i i hi
     have := run_equalIn_array (P := P) (w := W) (Op.maxDepth - 1) (t := t) a'.toArray b'.toArray hu hi
     have hc : P.cellsOf e = 1 := by simp [Program.cellsOf, hi, beq_eq h3]
     rw [hc, beq_eq h1, List.range_eq_range'] at this
     exact this.trans (eq_items _ e W s 0 a b a' b' c _ _ h2 he ha hb (fun j v hj => by simpa using hj) (fun j v hj => by simpa using hj))
   · cases h3
 · cases h
theorem eqShape_mem {t : Nat} {s : List Bool} : ∀ {l : List (Nat × List Bool)}, eqShape t l = some s → (t, s) ∈ l
 | [], h => by cases h
 | x :: l, h => by
  simp only [eqShape, cond_eq_ite] at h
  split at h
  · rename_i hq
    have := beq_eq hq
    cases h
    rw [← this]
    exact .head _
  · exact .tail _ (eqShape_mem h)
theorem codeOf_mem {t : Nat} {c : TC} : ∀ {l : List (Nat × TC)}, codeOf t l = some c → (t, c) ∈ l
 | [], h => by cases h
 | x :: l, h => by
  simp only [codeOf, cond_eq_ite] at h
  split at h
  · rename_i hq
    have := beq_eq hq
    cases h
    rw [← this]
    exact .head _
  · exact .tail _ (codeOf_mem h)
theorem methOf_mem {t : Nat} {m : String} {f : Nat} : ∀ {l : List (Nat × String × Nat)}, methOf t m l = some f → (t, m, f) ∈ l
 | [], h => by cases h
 | x :: l, h => by
  simp only [methOf, cond_eq_ite] at h
  split at h
  · rename_i hq
    simp only [Bool.and_eq_true] at hq
    have h1 := beq_eq hq.1
    have h2 : x.2.1 = m := by simpa using hq.2
    cases h
    rw [← h1, ← h2]
    exact .head _
  · exact .tail _ (methOf_mem h)
def zeroOK (P : Program) (e : TypeId) : Bool := match P.info? e with
 | some i => (match i.zero with | some (.agg _) => isAggT P e | some _ => !isAggT P e | none => true)
 | none => true
theorem zeroOK_sound {e : TypeId} {ti : TypeInfo} {v : Value} (h : zeroOK P e = true) (hi : P.info? e = some ti) (hz : ti.zero = some v) : isAggT P e = true ↔ ∃ cs, v = .agg cs := by
 simp only [zeroOK, hi, hz] at h
 split at h
 · rename_i cs e1
   cases e1
   exact ⟨fun _ => ⟨_, rfl⟩, fun _ => h⟩
 · rename_i v' hne e1
   cases e1
   refine ⟨fun h1 => (by rw [h1] at h; cases h), fun ⟨cs, e2⟩ => (hne cs e2).elim⟩
 · rename_i e1
   cases e1
def distinct : List Nat → Bool
 | [] => true
 | x :: l => !memB x l && distinct l
theorem distinct_nodup : ∀ {l : List Nat}, distinct l = true → l.Nodup
 | [], _ => .nil
 | x :: l, h => by
  simp only [distinct, Bool.and_eq_true, Bool.not_eq_true'] at h
  exact List.nodup_cons.2 ⟨fun hm => (by rw [memB_iff.2 hm] at h; cases h.1), distinct_nodup h.2⟩
def marksOK (P : Program) (f : FuncId) : Bool := distinct ((bodyMarks P f).map (·.1))
def nameOK (P : Program) (f : FuncId) : Bool := match P.funcs[f]? with | some fn => !(fn.name == "runtime.NumGoroutine") | none => true
def codeOK (P : Program) (x : Nat × TC) : Bool := match sizeT P x.1 with | some s => Nat.beq (width x.2) s | none => true
def upTo0 (n : Nat) (p : Nat → Bool) : Bool := Nat.rec true (fun k r => p k && r) n
theorem upTo0_get {p : Nat → Bool} : ∀ {n : Nat}, upTo0 n p = true → ∀ k, k < n → p k = true
 | 0, _, k, hk => by omega
 | n + 1, h, k, hk => by
  have h : (p n && upTo0 n p) = true := h
  simp only [Bool.and_eq_true] at h
  rcases Nat.lt_or_eq_of_le (Nat.le_of_lt_succ hk) with h1 | rfl
  · exact upTo0_get h.2 k h1
  · exact h.1
end
def aggD : TypeDesc → Bool
 | .struct _ => true
 | .array _ _ => true
 | _ => false
def namedD : TypeDesc → Bool
 | .named _ _ => true
 | _ => false
theorem reckonStruct_zero {info : TypeId → Option TypeInfo} {fs : Array Field} {ti : TypeInfo} (h : Made.reckonStruct info fs = some ti) : (∃ out, ti.desc = .struct out) ∧ ∀ v, ti.zero = some v → ∃ cs, v = .agg cs := by
 unfold Made.reckonStruct at h
 simp only [Option.bind_eq_bind, Option.pure_def] at h
 rw [Option.bind_eq_some_iff] at h
 obtain ⟨r, _, h⟩ := h
 split at h <;> cases h
 all_goals
  refine ⟨⟨_, rfl⟩, fun v hv => ?_⟩
  obtain ⟨z, _, hz⟩ := Option.map_eq_some_iff.1 hv
  exact ⟨z, hz.symm⟩
theorem reckon_zero {info : TypeId → Option TypeInfo} {d : TypeDesc} {ti : TypeInfo} {v : Value} (h : Made.reckon info d = some ti) (hz : ti.zero = some v) : namedD ti.desc = false ∧ (aggD ti.desc = true ↔ ∃ cs, v = .agg cs) := by
 have word : ∀ (d : TypeDesc) (s : String) (z : Value) (c : Bool) (b : Nat), namedD d = false → aggD d = false → (∀ cs, z ≠ .agg cs) → ti = Made.word d s z c b → namedD ti.desc = false ∧ (aggD ti.desc = true ↔ ∃ cs, v = .agg cs) := by
  rintro d s z c b h1 h2 h3 rfl
  cases hz
  exact ⟨h1, fun h => (by rw [show (Made.word d s v c b).desc = d from rfl, h2] at h; cases h), fun ⟨cs, e⟩ => (h3 cs e).elim⟩
 unfold Made.reckon at h
 simp only [Option.bind_eq_bind, Option.pure_def] at h
 split at h
 · rw [Option.bind_eq_some_iff] at h
   obtain ⟨i, _, h⟩ := h
   split at h
   · cases h
   · split at h
     · cases h
     · rw [Option.bind_eq_some_iff] at h
       obtain ⟨s, _, h⟩ := h
       exact word _ _ _ _ _ rfl rfl (fun _ h => by cases h) (Option.some.inj h).symm
   · rw [Option.bind_eq_some_iff] at h
     obtain ⟨s, _, h⟩ := h
     exact word _ _ _ _ _ rfl rfl (fun _ h => by cases h) (Option.some.inj h).symm
 · rw [Option.bind_eq_some_iff] at h
   obtain ⟨i, _, h⟩ := h
   rw [Option.bind_eq_some_iff] at h
   obtain ⟨s, _, h⟩ := h
   exact word _ _ _ _ _ rfl rfl (fun _ h => by cases h) (Option.some.inj h).symm
 · simp only [Option.bind_eq_some_iff] at h
   obtain ⟨i, _, s, _, j, _, s2, _, h⟩ := h
   exact word _ _ _ _ _ rfl rfl (fun _ h => by cases h) (Option.some.inj h).symm
 · simp only [Option.bind_eq_some_iff] at h
   obtain ⟨i, _, s, _, h⟩ := h
   exact word _ _ _ _ _ rfl rfl (fun _ h => by cases h) (Option.some.inj h).symm
 · simp only [Option.bind_eq_some_iff] at h
   obtain ⟨i, _, h⟩ := h
   exact word _ _ _ _ _ rfl rfl (fun _ h => by cases h) (Option.some.inj h).symm
 · simp only [Option.bind_eq_some_iff] at h
   obtain ⟨i, _, s, _, h⟩ := h
   cases h
   refine ⟨rfl, fun _ => ?_, fun _ => rfl⟩
   simp only at hz
   split at hz
   · cases hz
   · split at hz
     · cases hz
       exact ⟨_, rfl⟩
     · obtain ⟨z, _, hz⟩ := Option.map_eq_some_iff.1 hz
       exact ⟨_, hz.symm⟩
 · obtain ⟨⟨out, h1⟩, h2⟩ := reckonStruct_zero h
   rw [h1]
   exact ⟨rfl, fun _ => h2 v hz, fun _ => rfl⟩
 · cases h
theorem made_zero {T : Tables} : ∀ {f : Nat} {t : TypeId} {ti : TypeInfo} {v : Value}, T.types.size ≤ t → Made.infoAt T f t = some ti → ti.zero = some v → namedD ti.desc = false ∧ (aggD ti.desc = true ↔ ∃ cs, v = .agg cs)
 | 0, t, ti, v, _, h, _ => by cases h
 | f + 1, t, ti, v, ht, h, hz => by
  unfold Made.infoAt at h
  rw [if_neg (Nat.not_lt.2 ht)] at h
  obtain ⟨d, _, h⟩ := Option.bind_eq_some_iff.1 h
  exact reckon_zero h hz
theorem zeroAgg_of {P : Program} {n : Nat} (hn : P.types.size = n) (h : upTo0 n (zeroOK P) = true) : ZeroAgg P := fun e ti v hi hz => by
 rcases Nat.lt_or_ge e P.types.size with he | he
 · exact zeroOK_sound (upTo0_get h e (hn ▸ he)) hi hz
 · have h1 : Made.infoAt P.toTables Made.depth e = some ti := by
    have hi : (if e < P.types.size then P.types[e]? else Made.infoAt P.toTables Made.depth e) = some ti := hi
    rwa [if_neg (Nat.not_lt.2 he)] at hi
   obtain ⟨h2, h3⟩ := made_zero (T := P.toTables) he h1 hz
   have h4 : P.underlying e = some ti.desc := by
    unfold Program.underlying
    rw [hi]
    split
    · rename_i hq
      injection hq with hq
      subst hq
      cases h2
    · rename_i i hq
      cases hq
      rfl
    · rename_i hq
      cases hq
   have h5 : isAggT P e = aggD ti.desc := by
    unfold isAggT
    rw [h4]
    cases ti.desc <;> rfl
   rw [h5]
   exact h3
end Go.Abs
