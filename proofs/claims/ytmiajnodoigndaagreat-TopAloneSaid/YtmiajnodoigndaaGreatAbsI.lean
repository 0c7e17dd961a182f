/- Own: Tables: what the interpreter makes of them, the machine does. -/
import Derived.Test.YtmiajnodoigndaaGreatAbsH
import Derived.OwnWalk
namespace Go.Abs
open Go.RowKit Go.MapKept
open Go.ChangeMaps (setBlock)
set_option linter.unusedVariables false
set_option linter.unusedSimpArgs false
section
variable {P : Program} {K : Kinds} {X : Nat → Prop} {N0 : Nat} {W0 W : World} {ρ : Ren} {h : Heap} {R : Type} {x : R}
theorem findM (agg : Bool) (x : Int) : ∀ (L : List MapEntry) (M : List (Int × List AV)) (i : Nat), MapR ρ agg L M →
 (Instr.findNow (.int .i64) (.int .i64 x) L i = some none ∧ getM M x = none ∧ delM M x = M ∧ ∀ a, putM M x a = M ++ [(x, a)]) ∨
 ∃ j e row, Instr.findNow (.int .i64) (.int .i64 x) L i = some (some (i + j, e.val)) ∧ L[j]? = some e ∧ getM M x = some row ∧ VR ρ (valOf agg row) e.val ∧ e.key = .int .i64 x ∧ delM M x = M.eraseIdx j ∧ ∀ a, putM M x a = M.set j (x, a)
 | _, _, i, .nil => .inl ⟨rfl, rfl, rfl, fun _ => rfl⟩
 | _, _, i, .cons (e := e) (x := y) (row := row) (es := L) (l := M) hk hv hs => by
  by_cases hx : x = y
  · subst hx
    refine .inr ⟨0, e, row, ?_, rfl, ?_, hv, hk, ?_, fun b => ?_⟩
    · unfold Instr.findNow
      rw [hk]
      simp [Instr.sameNow]
    · simp [getM]
    · simp [delM]
    · simp [putM]
  · have hn : Instr.findNow (.int .i64) (.int .i64 x) (e :: L) i = Instr.findNow (.int .i64) (.int .i64 x) L (i + 1) := by
     rw [Instr.findNow, hk]
     have : (x == y) = false := by
      rw [beq_eq_false_iff_ne]
      exact hx
     simp [Instr.sameNow, this]
    rw [hn]
    rcases findM agg x L M (i + 1) hs with ⟨h1, h2, h3, h4⟩ | ⟨j, e', a', h1, h2, h3, h4, h5, h6, h7⟩
    · refine .inl ⟨h1, by simp [getM, hx, h2], by simp [delM, hx, h3], fun b => ?_⟩
      rw [putM, if_neg hx, h4 b]
      rfl
    · refine .inr ⟨j + 1, e', a', by rw [h1, show i + 1 + j = i + (j + 1) from by omega], by simpa using h2, by simp [getM, hx, h3], h4, h5, by simp [delM, hx, h6], fun b => ?_⟩
      rw [putM, if_neg hx, h7 b]
      rfl
theorem run_findKey {k : TypeId} (hk : P.underlying k = some (.int .i64)) (w : World) (x : Int) (L : List MapEntry) {r : Option (Nat × Value)} (h : Instr.findNow (.int .i64) (.int .i64 x) L 0 = some r) :
 (Instr.findKey k (.int .i64 x) L).run P w = .ok r w := by
 simp [Instr.findKey, run_underlying hk, h, Result.andThen]
theorem run_checkKey {k : TypeId} (hk : P.underlying k = some (.int .i64)) (w : World) (em : Bool) (x : Int) : (Instr.checkKey em 10000 k (.int .i64 x)).run P w = .ok () w := by
 unfold Instr.checkKey
 simp [run_underlying hk, Result.andThen]
theorem run_stays (w : World) (x : Int) : (Instr.keyThatStays (.int .i64 x) (.int .i64 x)).run P w = .ok (.int .i64 x) w := by
 simp [Instr.keyThatStays, Instr.sameBits]
theorem getM_map {c : TC} (x : Int) : ∀ l : List (Int × El c), getM (l.map fun p => (p.1, rowOf c p.2)) x = (getM l x).map (rowOf c)
 | [] => rfl
 | p :: l => by
  by_cases hx : x = p.1
  · simp [getM, hx]
  · simp [getM, hx, getM_map x l]
theorem putM_map {c : TC} (x : Int) (y : El c) : ∀ l : List (Int × El c), putM (l.map fun p => (p.1, rowOf c p.2)) x (rowOf c y) = (putM l x y).map fun p => (p.1, rowOf c p.2)
 | [] => rfl
 | p :: l => by
  by_cases hx : x = p.1
  · simp [putM, hx]
  · simp [putM, hx, putM_map x y l]
theorem delM_map {c : TC} (x : Int) : ∀ l : List (Int × El c), delM (l.map fun p => (p.1, rowOf c p.2)) x = (delM l x).map fun p => (p.1, rowOf c p.2)
 | [] => rfl
 | p :: l => by
  by_cases hx : x = p.1
  · simp [delM, hx]
  · simp [delM, hx, delM_map x l]
theorem askM_some {l : List (Int × List AV)} {j : Int} {d : Option R} {k : List AV → Option R} : askM l j d k = some x → (getM l j = none ∧ d = some x) ∨ ∃ row, getM l j = some row ∧ k row = some x := by
 induction l with
 | nil => exact fun h => .inl ⟨rfl, h⟩
 | cons p l ih =>
  intro h
  simp only [askM, cond_eq_ite, decide_eq_true_eq] at h
  split at h
  · rename_i hj
    exact .inr ⟨p.2, by simp [getM, hj], h⟩
  · rename_i hj
    rcases ih h with ⟨h1, h2⟩ | ⟨row, h1, h2⟩
    · exact .inl ⟨by simp [getM, hj, h1], h2⟩
    · exact .inr ⟨row, by simp [getM, hj, h1], h2⟩
theorem MapR.length {agg : Bool} : ∀ {es : List MapEntry} {l : List (Int × List AV)}, MapR ρ agg es l → es.length = l.length
 | _, _, .nil => rfl
 | _, _, .cons _ _ hs => by simp [hs.length]
theorem MapR.push {agg : Bool} {e : MapEntry} {y : Int} {row : List AV} (hk : e.key = .int .i64 y) (hv : VR ρ (valOf agg row) e.val) : ∀ {es : List MapEntry} {l : List (Int × List AV)}, MapR ρ agg es l → MapR ρ agg (es ++ [e]) (l ++ [(y, row)])
 | _, _, .nil => .cons hk hv .nil
 | _, _, .cons hk' hv' hs => .cons hk' hv' (hs.push hk hv)
theorem MapR.set {agg : Bool} {e : MapEntry} {y : Int} {row : List AV} (hk : e.key = .int .i64 y) (hv : VR ρ (valOf agg row) e.val) : ∀ {es : List MapEntry} {l : List (Int × List AV)} (j : Nat), MapR ρ agg es l → MapR ρ agg (es.set j e) (l.set j (y, row))
 | _, _, j, .nil => by simp; exact .nil
 | _, _, 0, .cons _ _ hs => by simp; exact .cons hk hv hs
 | _, _, j + 1, .cons hk' hv' hs => by simp; exact .cons hk' hv' (hs.set hk hv j)
theorem MapR.erase {agg : Bool} : ∀ {es : List MapEntry} {l : List (Int × List AV)} (j : Nat), MapR ρ agg es l → MapR ρ agg (es.eraseIdx j) (l.eraseIdx j)
 | _, _, j, .nil => by simp; exact .nil
 | _, _, 0, .cons _ _ hs => by simp; exact hs
 | _, _, j + 1, .cons hk' hv' hs => by simp; exact .cons hk' hv' (hs.erase j)
theorem zero_val {e : TypeId} {d : TypeDesc} {z : List AV} (hu : P.underlying e = some d) (hz : zeroRow P e = some z) (hag : ∀ ti v, P.info? e = some ti → ti.zero = some v → (isAggT P e = true ↔ ∃ cs, v = .agg cs)) (W : World) :
 ∃ v, (zeroValue e).run P W = .ok v W ∧ VR ρ (valOf (isAggT P e) z) v := by
 obtain ⟨ti, v, hti, hv, hr, h1⟩ := zeroRow_some hz ρ
 refine ⟨v, by simp [zeroValue, typeInfo, hti, hv], ?_⟩
 have ha := hag ti v hti hv
 cases hA : isAggT P e with
 | true =>
  obtain ⟨cs, rfl⟩ := ha.1 hA
  simp only [valOf]
  have := VR.agg hr h1
  simpa [Value.cells] using this
 | false =>
  have hna : ∀ cs, v ≠ .agg cs := fun cs e => by have := ha.2 ⟨cs, e⟩; rw [hA] at this; cases this
  have hc : v.cells = #[v] := by cases v <;> first | rfl | exact absurd rfl (hna _)
  rw [hc] at hr
  cases hr with
  | cons h1 h2 =>
   cases h2
   exact h1
def ZeroAgg (P : Program) : Prop := ∀ (e : TypeId) (ti : TypeInfo) (v : Value), P.info? e = some ti → ti.zero = some v → (isAggT P e = true ↔ ∃ cs, v = .agg cs)
theorem opMakeMap_sound {t : TypeId} {r : Option AV} {r' : Option Value} {k : AV → Heap → Option R} (H : HR X N0 W0 ρ h W) (hr : VRo ρ r r') (he : opMakeMap P K t r h k = some x) :
 ∃ v' W', (Instr.makeMap t r').run P W = .ok v' W' ∧ Leads X N0 W0 ρ h.length k x v' W' ∧ W.grownBy W' none := by
 have push : ∀ (c : Cell), c.wr = true → c.sl = false → c.rows.ents = some [] → (∀ b, c.rows.list b = []) → k (.mapv h.length) (h ++ [some c]) = some x → (Instr.makeMap t r').run P W = .ok (.map (some W.heap.size)) (W.alloc (.map #[] 0)) →
  ∃ v' W', (Instr.makeMap t r').run P W = .ok v' W' ∧ Leads X N0 W0 ρ h.length k x v' W' ∧ W.grownBy W' none := by
  intro c hw hs hen hli hk hrun
  let inf : BI := ⟨W.heap.size, 0, 0, false, .nilFunc, fun _ => (none, 0, 0)⟩
  have hnf := ents_flat hen
  refine ⟨_, _, hrun, ⟨_, _, upd ρ h.length inf, hk, .mapv (upd_same _ _ _), ?_, agr_upd _ _, by simp⟩, ⟨rfl, rfl, rfl, by simp, fun k hk _ => Below.heap_alloc _ _ _ hk⟩⟩
  have hfr : Fr X N0 W (W.alloc (.map #[] 0)) := Fr.of_below ⟨rfl, rfl, rfl, by simp, fun k hk => Below.heap_alloc _ _ _ hk⟩ H.n0
  refine H.push hfr (fun k hk _ => Below.heap_alloc _ _ _ hk) ?_ (fun l hl => by rw [hl] at hnf; cases hnf) (fun _ => ⟨.inr H.n0, by simp [inf], fun b c' i e hi hp => by have := H.lt b c' i e hi hp; simp only [inf]; omega⟩)
  refine ⟨fun hf => (by rw [hnf] at hf; cases hf), fun hp => (by cases hp), fun i row hi => (by rw [hli] at hi; simp at hi), fun i row j u hi => (by rw [hli] at hi; simp at hi), fun _ _ => ⟨by simp [inf], fun off => ?_⟩, fun h => (by rw [hs] at h; cases h), fun h => (by rw [hs] at h; cases h), fun _ h => (by rw [hs] at h; cases h), fun l hl => ?_⟩
  · have := (MapKept.heap_alloc W (.map #[] 0)).1
    unfold World.frozen?
    simp only [inf]
    rw [this]
  · rw [hen] at hl
    cases hl
    exact ⟨rfl, #[], 0, (MapKept.heap_alloc W (.map #[] 0)).1, .nil⟩
 unfold opMakeMap at he
 split at he
 · rename_i e hu
   cases hr
   split at he
   · exact push _ rfl rfl rfl (fun _ => rfl) he (run_makeMap t W)
   · exact push _ rfl rfl rfl (fun _ => rfl) he (run_makeMap t W)
 · rename_i e kd n hu
   cases hr with | some hr =>
   cases hr
   have hrun : (Instr.makeMap t (some (.int kd n))).run P W = .ok (.map (some W.heap.size)) (W.alloc (.map #[] 0)) := by
    simp [Instr.makeMap, run_underlying hu, asInt]
    rfl
   split at he
   · exact push _ rfl rfl rfl (fun _ => rfl) he hrun
   · exact push _ rfl rfl rfl (fun _ => rfl) he hrun
 · cases he
theorem withOk_sound {ok : Bool} {v : AV} {v' : Value} {b : Bool} (h : VR ρ v v') : VR ρ (withOk ok v b) (if ok then .tuple #[v', .bool b] else v') := by
 cases ok with
 | true => exact .tup (l' := [v', .bool b]) (.cons h (.cons (.bool b) .nil))
 | false => exact h
theorem opLookup_sound {t : TypeId} {a ix : AV} {a' ix' : Value} {ok : Bool} {k : AV → Option R} (hZ : ZeroAgg P) (H : HR X N0 W0 ρ h W) (ha : VR ρ a a') (hix : VR ρ ix ix') (he : opLookup P t a ix ok h k = some x) :
 ∃ v v', (Instr.lookup t a' ix' ok).run P W = .ok v' W ∧ VR ρ v v' ∧ k v = some x := by
 unfold opLookup at he
 split at he
 case h_2 => cases he
 rename_i key e b j hu
 split at he
 case h_2 => cases he
 rename_i d c z hkey hue hc hz
 simp only [cond_eq_ite] at he
 split at he
 case isFalse => cases he
 rename_i hq
 have hnn : c.nn = isAggT P e := by
  cases h1 : c.nn <;> cases h2 : isAggT P e <;> simp_all [eqB]
 obtain ⟨inf, hi, okc⟩ := H.ok b c hc
 cases ha with | mapv hi' =>
 rw [hi] at hi'
 cases hi'
 cases hix
 obtain ⟨zv, hzr, hzv⟩ := zero_val (ρ := ρ) hue hz (hZ e) W
 have main : ∀ l, c.rows.ents = some l → ∃ v', (Instr.lookup t (.map (some inf.m)) (.int .i64 j) ok).run P W = .ok v' W ∧ VR ρ (withOk ok (valOf (isAggT P e) ((getM l j).getD z)) (getM l j).isSome) v' := by
  intro l hl
  obtain ⟨_, es, clock, hb, hm⟩ := okc.mp l hl
  rw [hnn] at hm
  rcases findM (isAggT P e) j es.toList l 0 hm with ⟨h1, h2, _⟩ | ⟨q, en, row, h1, h2, h3, h4, _⟩
  · refine ⟨if ok then .tuple #[zv, .bool false] else zv, ?_, ?_⟩
    · simp [Instr.lookup, run_underlying hu, MapKept.run_getObj_map hb, run_checkKey hkey, run_findKey hkey W j _ h1, hzr, Result.andThen]
    · rw [h2]
      exact withOk_sound hzv
  · refine ⟨if ok then .tuple #[en.val, .bool true] else en.val, ?_, ?_⟩
    · simp [Instr.lookup, run_underlying hu, MapKept.run_getObj_map hb, run_checkKey hkey, run_findKey hkey W j _ h1, Result.andThen]
    · rw [h3]
      exact withOk_sound h4
 split at he
 · rename_i tc l hr
   split at he
   case h_2 => cases he
   rename_i zz hzz
   obtain ⟨v', hrun, hv⟩ := main _ (by rw [hr]; rfl)
   refine ⟨_, v', hrun, ?_, he⟩
   rw [getM_map] at hv
   have hzz' := unRow_some hzz
   cases hg : getM l j with
   | none => rw [hg] at hv; simpa [hzz'] using hv
   | some y => rw [hg] at hv; simpa using hv
 · rename_i l hr
   obtain ⟨v', hrun, hv⟩ := main _ (by rw [hr]; rfl)
   rcases askM_some he with ⟨h1, h2⟩ | ⟨row, h1, h2⟩
   · refine ⟨_, v', hrun, ?_, h2⟩
     rw [h1] at hv
     exact hv
   · refine ⟨_, v', hrun, ?_, h2⟩
     rw [h1] at hv
     exact hv
 · cases he
theorem HR.setMap (H : HR X N0 W0 ρ h W) {W' : World} {b : Nat} {c : Cell} {rows' : Rows} {inf : BI} {l' : List (Int × List AV)} {es' : Array MapEntry} {clock' : Nat} (hc : cellAt h b = some c) (hw : c.wr = true) (hi : ρ b = some inf) (hp : inf.ph = false)
 (hs : c.rows.flat = false) (hen : rows'.ents = some l') (hm : MapR ρ c.nn es'.toList l') (hg : W.grownBy W' (some inf.m)) (hh : W'.heap[inf.m]? = some (.map es' clock')) : HR X N0 W0 ρ (h.set b (some ⟨c.wr, c.sl, c.nn, c.elem, rows'⟩)) W' := by
 have hb := cellAt_lt hc
 obtain ⟨inf0, hi0, ok⟩ := H.ok b c hc
 rw [hi] at hi0
 cases hi0
 have hnf := ents_flat hen
 have hsl : c.sl = false := by
  cases h1 : c.sl with
  | false => rfl
  | true => have := (ok.sl h1).1; rw [hs] at this; cases this
 have hli : ∀ b, rows'.list b = [] := by intro b; cases rows' <;> simp_all [Rows.ents, Rows.list]
 have hfr : Fr X N0 W W' := Fr.of_grown hg H.n0 (H.own b c inf hc hw hi hp)
 have hml : inf.m < W'.heap.size := (Array.getElem?_eq_some_iff.1 hh).1
 have old : ∀ b' c', cellAt (h.set b (some ⟨c.wr, c.sl, c.nn, c.elem, rows'⟩)) b' = some c' → (b' = b ∧ c' = ⟨c.wr, c.sl, c.nn, c.elem, rows'⟩) ∨ (b ≠ b' ∧ cellAt h b' = some c') := by
  intro b' c' e
  by_cases hne : b = b'
  · subst hne
    rw [cellAt_set_same hb] at e
    exact .inl ⟨rfl, (Option.some.inj e).symm⟩
  · rw [cellAt_set_other hne] at e
    exact .inr ⟨hne, e⟩
 refine ⟨fun b' c' e => ?_, fun b1 c1 b2 c2 i1 i2 e1 hw1 e2 hne h1' h2' hp1 hp2 => ?_, fun b1 c1 i1 e1 hw1 h1' hp1 => ?_, fun b1 c1 i1 e1 h1' hp1 => ?_, fun b' hb' => H.dom b' (by simpa using hb'), H.fr.trans hfr, Nat.le_trans H.n0 hfr.size, fun b1 c1 l i1 e1 hr h1' => ?_⟩
 · rcases old b' c' e with ⟨rfl, rfl⟩ | ⟨hne, e'⟩
   · refine ⟨inf, hi, fun hf => (by rw [hnf] at hf; cases hf), fun hp' => (by rw [hp] at hp'; cases hp'), fun i row hr => (by rw [hli] at hr; simp at hr), fun i row j u hr => (by rw [hli] at hr; simp at hr), fun _ _ => ⟨hml, fun off => by simp [World.frozen?, hh]⟩, fun h => (by rw [hsl] at h; cases h), fun h => (by rw [hsl] at h; cases h), fun _ h => (by rw [hsl] at h; cases h), fun l hl => ?_⟩
     rw [hen] at hl
     cases hl
     exact ⟨hp, es', clock', hh, hm⟩
   · obtain ⟨inf', hi', ok'⟩ := H.ok b' c' e'
     exact ⟨inf', hi', ok'.keep (Ext.refl _) hfr.size fun hp' hl => hg.block _ hl (fun e2 => by injection e2 with e2; exact H.inj b c b' c' inf inf' hc hw e' hne hi hi' hp hp' e2.symm)⟩
 · rcases old b1 c1 e1 with ⟨rfl, rfl⟩ | ⟨hn1, e1'⟩
   · rcases old b2 c2 e2 with ⟨rfl, rfl⟩ | ⟨hn2, e2'⟩
     · exact absurd rfl hne
     · exact H.inj _ c _ c2 i1 i2 hc hw e2' hne h1' h2' hp1 hp2
   · rcases old b2 c2 e2 with ⟨rfl, rfl⟩ | ⟨hn2, e2'⟩
     · exact H.inj _ c1 _ c i1 i2 e1' hw1 hc hne h1' h2' hp1 hp2
     · exact H.inj _ c1 _ c2 i1 i2 e1' hw1 e2' hne h1' h2' hp1 hp2
 · rcases old b1 c1 e1 with ⟨rfl, rfl⟩ | ⟨hn1, e1'⟩
   · exact H.own _ c i1 hc hw h1' hp1
   · exact H.own _ c1 i1 e1' hw1 h1' hp1
 · rcases old b1 c1 e1 with ⟨rfl, rfl⟩ | ⟨hn1, e1'⟩
   · rw [hi] at h1'; cases h1'; exact hml
   · exact Nat.lt_of_lt_of_le (H.lt _ c1 i1 e1' h1' hp1) hfr.size
 · rcases old b1 c1 e1 with ⟨rfl, rfl⟩ | ⟨hn1, e1'⟩
   · simp only [] at hr; rw [hr] at hnf; cases hnf
   · exact H.inn _ c1 l i1 e1' hr h1'
theorem cellsIf_sound {agg : Bool} {v : AV} {v' : Value} {cs : List AV} (h : VR ρ v v') (hc : cellsIf agg v = some cs) : valOf agg cs = v := by
 cases agg with
 | true =>
  cases v <;> simp [cellsIf] at hc
  subst hc
  rfl
 | false =>
  cases v <;> simp [cellsIf, cellsOf] at hc <;> subst hc <;> rfl
theorem opUpdate_sound {t : TypeId} {a ix v : AV} {a' ix' v' : Value} {k : Heap → Option R} (H : HR X N0 W0 ρ h W) (ha : VR ρ a a') (hix : VR ρ ix ix') (hv : VR ρ v v') (he : opUpdate P t a ix v h k = some x) :
 ∃ h' W', (Instr.mapUpdate t a' ix' v').run P W = .ok () W' ∧ HR X N0 W0 ρ h' W' ∧ k h' = some x ∧ h'.length = h.length := by
 unfold opUpdate at he
 split at he
 case h_2 => cases he
 rename_i key e b j hu
 split at he
 case h_2 => cases he
 rename_i c cs hkey hc hcs
 simp only [cond_eq_ite, Bool.and_eq_true] at he
 split at he
 case isFalse => cases he
 rename_i hq
 have hnn : c.nn = isAggT P e := by
  cases h1 : c.nn <;> cases h2 : isAggT P e <;> simp_all [eqB]
 obtain ⟨inf, hi, okc⟩ := H.ok b c hc
 cases ha with | mapv hi' =>
 rw [hi] at hi'
 cases hi'
 cases hix
 have hval := cellsIf_sound hv hcs
 have hvr : VR ρ (valOf c.nn cs) v' := by rw [hnn, hval]; exact hv
 have main : ∀ l rows', c.rows.ents = some l → rows'.ents = some (putM l j cs) → ∃ W', (Instr.mapUpdate t (.map (some inf.m)) (.int .i64 j) v').run P W = .ok () W' ∧ HR X N0 W0 ρ (h.set b (some ⟨c.wr, c.sl, c.nn, c.elem, rows'⟩)) W' := by
  intro l rows' hl hl'
  obtain ⟨hp, es, clock, hb, hm⟩ := okc.mp l hl
  rcases findM c.nn j es.toList l 0 hm with ⟨h1, h2, _, h4⟩ | ⟨q, en, row, h1, h2, h3, _, h5, _, h7⟩
  · refine ⟨setBlock W inf.m (.map (es.push ⟨.int .i64 j, v', clock⟩) (clock + 1)), ?_, ?_⟩
    · simp [Instr.mapUpdate, run_underlying hu, MapKept.run_getObj_map hb, run_checkKey hkey, run_findKey hkey W j _ h1, MapKept.run_setObj_map _ hb, Result.andThen, setBlock]
    · refine H.setMap hc hq.1 hi hp (ents_flat hl) hl' ?_ ⟨rfl, rfl, rfl, by simp [setBlock], fun i _ hi => ChangeMaps.heap_setBlock_other hb _ (fun e => hi (by rw [e]))⟩ (ChangeMaps.heap_setBlock_same hb _)
      rw [Array.toList_push, h4]
      exact hm.push rfl hvr
  · have hj : es[q]? = some en := by simpa using h2
    refine ⟨setBlock W inf.m (.map (es.modify q fun e => { e with key := .int .i64 j, val := v' }) clock), ?_, ?_⟩
    · simp [Instr.mapUpdate, run_underlying hu, MapKept.run_getObj_map hb, run_checkKey hkey, run_findKey hkey W j _ h1, hj, h5, run_stays, MapKept.run_setObj_map _ hb, Result.andThen, setBlock]
    · refine H.setMap hc hq.1 hi hp (ents_flat hl) hl' ?_ ⟨rfl, rfl, rfl, by simp [setBlock], fun i _ hi => ChangeMaps.heap_setBlock_other hb _ (fun e => hi (by rw [e]))⟩ (ChangeMaps.heap_setBlock_same hb _)
      rw [h7]
      have e1 : (es.modify q fun e => { e with key := .int .i64 j, val := v' }).toList = es.toList.set q { en with key := .int .i64 j, val := v' } := by
       rw [Array.toList_modify]
       apply List.ext_getElem?
       intro i
       simp only [List.getElem?_modify, List.getElem?_set]
       by_cases hij : q = i
       · subst hij
         have hl : q < es.toList.length := (List.getElem?_eq_some_iff.1 h2).1
         simp [h2, hl]
         simpa using hl
       · simp [hij]
      rw [e1]
      exact hm.set rfl hvr q
 split at he
 · rename_i tc l hr
   split at he
   case h_2 => cases he
   rename_i y hy
   obtain ⟨W', hrun, HN⟩ := main _ (.mp tc (putM l j y)) (by rw [hr]; rfl) (by rw [← unRow_some hy, putM_map]; rfl)
   exact ⟨_, W', hrun, HN, he, by simp⟩
 · rename_i l hr
   obtain ⟨W', hrun, HN⟩ := main _ (.mg (putM l j cs)) (by rw [hr]; rfl) rfl
   exact ⟨_, W', hrun, HN, he, by simp⟩
 · cases he
theorem opDelete_sound {t tk : TypeId} {a ix : AV} {a' ix' : Value} {k : Heap → Option R} (H : HR X N0 W0 ρ h W) (ha : VR ρ a a') (hix : VR ρ ix ix') (he : opDelete P t a ix h k = some x) (ty : TypeId) :
 ∃ h' W', (Builtin.delete_ #[t, tk] ty #[a', ix']).run P W = .ok (.tuple #[]) W' ∧ HR X N0 W0 ρ h' W' ∧ k h' = some x ∧ h'.length = h.length := by
 unfold opDelete at he
 split at he
 case h_2 => cases he
 rename_i key e b j hu
 split at he
 case h_2 => cases he
 rename_i c hkey hc
 simp only [cond_eq_ite] at he
 split at he
 case isFalse => cases he
 rename_i hw
 obtain ⟨inf, hi, okc⟩ := H.ok b c hc
 cases ha with | mapv hi' =>
 rw [hi] at hi'
 cases hi'
 cases hix
 split at he
 case h_2 => cases he
 rename_i tc l hr
 have hen : c.rows.ents = some (l.map fun x => (x.1, rowOf tc x.2)) := by rw [hr]; rfl
 obtain ⟨hp, es, clock, hb, hm⟩ := okc.mp _ hen
 have hen' : (Rows.mp tc (delM l j)).ents = some (delM (l.map fun x => (x.1, rowOf tc x.2)) j) := by rw [delM_map]; rfl
 rcases findM c.nn j es.toList _ 0 hm with ⟨h1, h2, h3, _⟩ | ⟨q, en, row, h1, h2, _, _, _, h6, _⟩
 · refine ⟨_, setBlock W inf.m (.map es clock), ?_, H.setMap hc hw hi hp (ents_flat hen) hen' (es' := es) (by rw [h3]; exact hm) ⟨rfl, rfl, rfl, by simp [setBlock], fun i _ hi => ChangeMaps.heap_setBlock_other hb _ (fun e => hi (by rw [e]))⟩ (ChangeMaps.heap_setBlock_same hb _), he, by simp⟩
   simp [Builtin.delete_, run_underlying hu, MapKept.run_getObj_map hb, run_checkKey hkey, run_findKey hkey W j _ h1, MapKept.run_setObj_map _ hb, Result.andThen, setBlock]
 · have hjl : q < es.toList.length := (List.getElem?_eq_some_iff.1 h2).1
   have hjs : q < es.size := by simpa using hjl
   have hsub : (es.eraseIdxIfInBounds q).toList = es.toList.eraseIdx q := by
    unfold Array.eraseIdxIfInBounds
    rw [dif_pos hjs]
    simp
   refine ⟨_, setBlock W inf.m (.map (es.eraseIdxIfInBounds q) clock), ?_, H.setMap hc hw hi hp (ents_flat hen) hen' (es' := es.eraseIdxIfInBounds q) (by rw [h6, hsub]; exact hm.erase q) ⟨rfl, rfl, rfl, by simp [setBlock], fun i _ hi => ChangeMaps.heap_setBlock_other hb _ (fun e => hi (by rw [e]))⟩ (ChangeMaps.heap_setBlock_same hb _), he, by simp⟩
   simp [Builtin.delete_, run_underlying hu, MapKept.run_getObj_map hb, run_checkKey hkey, run_findKey hkey W j _ h1, MapKept.run_setObj_map _ hb, Result.andThen, setBlock]
end
end Go.Abs
