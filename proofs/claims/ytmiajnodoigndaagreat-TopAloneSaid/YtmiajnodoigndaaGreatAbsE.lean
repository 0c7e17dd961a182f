/- Own: Operations without a call: what the interpreter makes of them, the machine does. -/
import Derived.Test.YtmiajnodoigndaaGreatAbsD
import Derived.Laws.Tables
import Derived.ArgAppend
import Derived.Laws.AppendOwnNone
namespace Go.Abs
open Go.RowKit
set_option linter.unusedVariables false
set_option linter.unusedSimpArgs false
section
variable {P : Program} {X : Nat → Prop} {N0 : Nat} {W0 W : World} {ρ : Ren} {h : Heap} {R : Type} {x : R}
theorem constRow_sound (ρ : Ren) : ∀ l : List Value, VRs ρ (constRow l) l
 | [] => .nil
 | v :: l => .cons (absConst_sound ρ v) (constRow_sound ρ l)
theorem zeroRow_some {t : TypeId} {z : List AV} (hz : zeroRow P t = some z) (ρ : Ren) : ∃ ti v, P.info? t = some ti ∧ ti.zero = some v ∧ VRs ρ z v.cells.toList ∧ ∀ u ∈ v.cells.toList, u.oneCell' = true := by
 unfold zeroRow at hz
 cases hi : P.info? t with
 | none => rw [hi] at hz; cases hz
 | some ti =>
  rw [hi] at hz
  cases hv : ti.zero with
  | none => simp [hv] at hz
  | some v =>
   simp only [Option.bind_some, hv, cond_eq_ite] at hz
   split at hz
   · rename_i ha
     cases hz
     exact ⟨ti, v, rfl, hv, constRow_sound ρ _, fun u hu => List.all_eq_true.1 ha u hu⟩
   · cases hz
inductive PartsR (ρ : Ren) : List (Nat × AV) → List (Nat × Value) → Prop
 | nil : PartsR ρ [] []
 | cons {i : Nat} {v : AV} {v' : Value} {l : List (Nat × AV)} {l' : List (Nat × Value)} (hv : VR ρ v v') (hs : PartsR ρ l l') : PartsR ρ ((i, v) :: l) ((i, v') :: l')
theorem foldl_set (vs : List Value) : ∀ (k off : Nat) (cs : Array Value) (p : Nat), off + k + vs.length ≤ cs.size →
 ((vs.zipIdx k).foldl (fun cs x => cs.setIfInBounds (off + x.2) x.1) cs)[p]? = if off + k ≤ p ∧ p < off + k + vs.length then vs[p - (off + k)]? else cs[p]? := by
 induction vs with
 | nil =>
  intro k off cs p _
  simp
  intro h1 h2
  omega
 | cons v vs ih =>
  intro k off cs p hl
  simp only [List.length_cons] at hl
  simp only [List.zipIdx_cons, List.foldl_cons]
  rw [ih (k + 1) off _ p (by simp; omega)]
  by_cases h1 : p = off + k
  · subst h1
    rw [if_neg (by omega), if_pos (by simp), Nat.sub_self, List.getElem?_cons_zero, Array.getElem?_setIfInBounds_self_of_lt (by omega)]
  · by_cases h2 : off + (k + 1) ≤ p ∧ p < off + (k + 1) + vs.length
    · rw [if_pos h2, if_pos (by simp; omega)]
      obtain ⟨d, rfl⟩ : ∃ d, p = off + k + (d + 1) := ⟨p - (off + k + 1), by omega⟩
      rw [show off + k + (d + 1) - (off + (k + 1)) = d by omega, show off + k + (d + 1) - (off + k) = d + 1 by omega]
      simp
    · rw [if_neg h2, if_neg (by simp; omega), Array.getElem?_setIfInBounds_ne (by omega)]
theorem foldl_set_size (vs : List Value) : ∀ (k off : Nat) (cs : Array Value), ((vs.zipIdx k).foldl (fun cs x => cs.setIfInBounds (off + x.2) x.1) cs).size = cs.size := by
 induction vs with
 | nil => intro k off cs; rfl
 | cons v vs ih =>
  intro k off cs
  simp only [List.zipIdx_cons, List.foldl_cons]
  rw [ih]
  simp
theorem set_patch {cs : List AV} {vs : List Value} {row row' : List AV} {cells : Array Value} {off : Nat} (hr : VRs ρ row cells.toList) (hc : VRs ρ cs vs) (hp : patch row off cs = some row') :
 VRs ρ row' (vs.toArray.zipIdx.foldl (fun cs x => cs.setIfInBounds (off + x.2) x.1) cells).toList ∧ off + vs.length ≤ cells.size := by
 have hl := (patch_some hp).1
 have h1 := hr.length
 have h2 := hc.length
 have h0 : cells.toList.length = cells.size := Array.length_toList
 have hfit : off + 0 + vs.length ≤ cells.size := by omega
 have hz : vs.toArray.zipIdx.foldl (fun cs x => cs.setIfInBounds (off + x.2) x.1) cells = (vs.zipIdx 0).foldl (fun cs x => cs.setIfInBounds (off + x.2) x.1) cells := by
  rw [← Array.foldl_toList, Array.toList_zipIdx]
 rw [hz]
 refine ⟨VRs.of_get ?_ fun j v v' hv hv' => ?_, by omega⟩
 · rw [patch_len hp, h1, h0, ← foldl_set_size vs 0 off cells]
   exact Array.length_toList.symm
 · rw [patch_get hp] at hv
   rw [Array.getElem?_toList, foldl_set vs 0 off cells j hfit] at hv'
   simp only [Nat.add_zero] at hv'
   split at hv
   · rename_i hj
     rw [if_pos (by omega)] at hv'
     obtain ⟨u, hu, hr'⟩ := hc.get hv
     rw [hu] at hv'
     cases hv'
     exact hr'
   · rename_i hj
     rw [if_neg (by omega)] at hv'
     obtain ⟨u, hu, hr'⟩ := hr.get hv
     rw [Array.getElem?_toList, hv'] at hu
     cases hu
     exact hr'
theorem foldl_mem (vs : List Value) : ∀ (k off : Nat) (cs : Array Value) (u : Value), u ∈ ((vs.zipIdx k).foldl (fun cs x => cs.setIfInBounds (off + x.2) x.1) cs).toList → u ∈ cs.toList ∨ u ∈ vs := by
 induction vs with
 | nil => intro k off cs u hu; exact .inl hu
 | cons v vs ih =>
  intro k off cs u hu
  simp only [List.zipIdx_cons, List.foldl_cons] at hu
  rcases ih (k + 1) off _ u hu with h1 | h1
  · rw [Array.toList_setIfInBounds] at h1
    rcases List.mem_or_eq_of_mem_set h1 with h2 | h2
    · exact .inl h2
    · exact .inr (by simp [h2])
  · exact .inr (List.mem_cons_of_mem _ h1)
theorem fill_sound {fs : Nat → Option (Nat × Nat)} : ∀ {parts : List (Nat × AV)} {parts' : List (Nat × Value)} {row row' : List AV} {cells : Array Value}, PartsR ρ parts parts' → VRs ρ row cells.toList → (∀ u ∈ cells.toList, u.oneCell' = true) → fillRow fs row parts = some row' →
 ∃ cells', Instr.fill fs cells parts' = some cells' ∧ VRs ρ row' cells'.toList ∧ ∀ u ∈ cells'.toList, u.oneCell' = true
 | _, _, row, row', cells, .nil, hr, h1, hf => by
  cases hf
  exact ⟨cells, rfl, hr, h1⟩
 | _, _, row, row', cells, .cons (i := i) (v := v) (v' := v') (l := l) (l' := l') hv hs, hr, h1, hf => by
  simp only [fillRow] at hf
  split at hf
  case h_2 => cases hf
  rename_i o n cs hfs hcs
  simp only [cond_eq_ite, Nat.beq_eq] at hf
  split at hf
  case isFalse => cases hf
  rename_i hn
  split at hf
  case h_2 => cases hf
  rename_i row1 hp
  obtain ⟨hc, ho⟩ := cellsOf_sound hv hcs
  obtain ⟨hr1, hfit⟩ := set_patch (cells := cells) hr hc hp
  have hcl := hc.length
  have hcs' : v'.cells.toList.length = v'.cells.size := Array.length_toList
  have hz : v'.cells.toList.toArray = v'.cells := by simp
  rw [hz] at hr1
  have ho1 : ∀ u ∈ (v'.cells.zipIdx.foldl (fun cs x => cs.setIfInBounds (o + x.2) x.1) cells).toList, u.oneCell' = true := by
   intro u hu
   have hz : v'.cells.zipIdx.foldl (fun cs x => cs.setIfInBounds (o + x.2) x.1) cells = (v'.cells.toList.zipIdx 0).foldl (fun cs x => cs.setIfInBounds (o + x.2) x.1) cells := by
    rw [← Array.foldl_toList, Array.toList_zipIdx]
   rw [hz] at hu
   rcases foldl_mem _ _ _ _ _ hu with h2 | h2
   · exact h1 u h2
   · exact ho u h2
  obtain ⟨cells', e1, e2, e3⟩ := fill_sound hs hr1 ho1 hf
  refine ⟨cells', ?_, e2, e3⟩
  simp only [Instr.fill, hfs]
  rw [if_neg]
  · exact e1
  · simp
    omega
theorem opBuild_sound {t : TypeId} {parts : List (Nat × AV)} {parts' : Array (Nat × Value)} {v : AV} (hp : PartsR ρ parts parts'.toList) (he : opBuild P t parts = some v) (W : World) :
 ∃ v', (Instr.build t parts').run P W = .ok v' W ∧ VR ρ v v' := by
 unfold opBuild at he
 split at he
 case h_3 => cases he
 case h_1 fs hu =>
  split at he
  case h_2 => cases he
  rename_i z pl hz hpl
  cases hf : fillRow (fun i => pl[i]?) z parts with
  | none => rw [hf] at he; cases he
  | some row =>
   rw [hf] at he
   cases he
   obtain ⟨ti, zv, hti, hzv, hr, h1⟩ := zeroRow_some hz ρ
   obtain ⟨cells', e1, e2, e3⟩ := fill_sound hp hr h1 hf
   simp only [placesT, hu] at hpl
   have hb : P.built t parts'.toList = some cells' := by
    unfold Program.built
    simp only [hti, hu, hzv, hpl]
    rw [← e1]
    congr 1
    funext i
    simp
   refine ⟨_, run_build W t parts' cells' hb, ?_⟩
   have := VR.agg e2 e3
   simpa using this
 case h_2 n e hu =>
  split at he
  case h_2 => cases he
  rename_i z s hz hs
  cases hf : fillRow (fun i => some (i * s, s)) z parts with
  | none => rw [hf] at he; cases he
  | some row =>
   rw [hf] at he
   cases he
   obtain ⟨ti, zv, hti, hzv, hr, h1⟩ := zeroRow_some hz ρ
   obtain ⟨cells', e1, e2, e3⟩ := fill_sound hp hr h1 hf
   unfold sizeT at hs
   cases hie : P.info? e with
   | none => rw [hie] at hs; cases hs
   | some ie =>
    rw [hie] at hs
    simp only [Option.map_some, Option.some.injEq] at hs
    have hb : P.built t parts'.toList = some cells' := by
     unfold Program.built
     simp only [hti, hu, hzv, hie, hs]
     exact e1
    refine ⟨_, run_build W t parts' cells' hb, ?_⟩
    have := VR.agg e2 e3
    simpa using this
theorem opFieldAddr_sound {s : TypeId} {a v : AV} {a' : Value} {f : Nat} (ha : VR ρ a a') (he : opFieldAddr P s a f = some v) (W : World) :
 ∃ v', (Instr.fieldAt s a' f).run P W = .ok v' W ∧ VR ρ v v' := by
 unfold opFieldAddr at he
 split at he
 case h_2 => cases he
 rename_i b i o fs hu
 split at he
 case h_2 => cases he
 rename_i fd hfd
 split at he
 case h_2 => cases he
 rename_i n hn
 cases he
 cases ha
 rename_i inf hi
 unfold sizeT at hn
 cases hie : P.info? fd.type with
 | none => rw [hie] at hn; cases hn
 | some ie =>
  rw [hie] at hn
  simp only [Option.map_some, Option.some.injEq] at hn
  refine ⟨.pointer (some ⟨inf.m, inf.base + i * inf.sz + (o + fd.offset), none⟩), ?_, .ptr hi⟩
  simp [Instr.fieldAt, run_underlying hu, hfd, Instr.sureAddr, fieldPlace, sizeOf, typeInfo, hie, hn, add_off, Nat.add_assoc]
theorem part_sound {t : TypeId} {d : TypeDesc} {l : List AV} {l' : List Value} {off : Nat} {v : AV} (hu : P.underlying t = some d) (hl : VRs ρ l l') (h1 : ∀ u ∈ l', u.oneCell' = true)
 (he : (match isAggT P t, sizeT P t with
  | true, some n => bif Nat.ble (off + n) l.length then some (AV.agg ((l.drop off).take n)) else none
  | false, _ => l[off]?
  | _, _ => none) = some v) (W : World) : ∃ v', (part t l'.toArray off).run P W = .ok v' W ∧ VR ρ v v' := by
 have hag := isAggT_run hu W
 split at he
 case h_3 => cases he
 case h_2 hA =>
  rw [hA] at hag
  obtain ⟨v', h2, h3⟩ := hl.get he
  exact ⟨v', by simp [part, hag, h2], h3⟩
 case h_1 n hA hn =>
  rw [hA] at hag
  unfold sizeT at hn
  cases hie : P.info? t with
  | none => rw [hie] at hn; cases hn
  | some ie =>
   rw [hie] at hn
   simp only [Option.map_some, Option.some.injEq] at hn
   simp only [cond_eq_ite, Nat.ble_eq] at he
   split at he
   case isFalse => cases he
   rename_i hle
   cases he
   refine ⟨.agg (l'.toArray.extract off (off + n)), by simp [part, hag, sizeOf, typeInfo, hie, hn], ?_⟩
   have hx : l'.toArray.extract off (off + n) = ((l'.drop off).take n).toArray := by
    simp [List.extract_toArray, List.extract_eq_take_drop, Nat.add_sub_cancel_left]
   rw [hx]
   exact .agg ((hl.drop off).take n) fun u hu' => h1 u (List.mem_of_mem_drop (List.mem_of_mem_take hu'))
theorem opField_sound {s : TypeId} {a v : AV} {a' : Value} {f : Nat} (ha : VR ρ a a') (he : opField P s a f = some v) (W : World) :
 ∃ v', (Instr.field s a' f).run P W = .ok v' W ∧ VR ρ v v' := by
 unfold opField at he
 split at he
 case h_2 => cases he
 rename_i l fs hu
 split at he
 case h_2 => cases he
 rename_i fd hfd
 cases ha
 rename_i l' h1 hl
 cases hud : P.underlying fd.type with
 | none =>
  cases hA : isAggT P fd.type <;> cases hS : sizeT P fd.type <;> rw [hud, hA, hS] at he <;> cases he
 | some d =>
  have he' : (match isAggT P fd.type, sizeT P fd.type with
   | true, some n => bif Nat.ble (fd.offset + n) l.length then some (AV.agg ((l.drop fd.offset).take n)) else none
   | false, _ => l[fd.offset]?
   | _, _ => none) = some v := by
   rw [hud] at he
   rw [← he]
   cases isAggT P fd.type <;> cases sizeT P fd.type <;> rfl
  obtain ⟨v', h2, h3⟩ := part_sound hud hl h1 he' W
  exact ⟨v', by simp [Instr.field, run_underlying hu, hfd, asAgg, h2], h3⟩
theorem upTo_some {j : Int} {k : Nat → Option R} : ∀ (n s : Nat), upTo n s j k = some x → ∃ i : Nat, s ≤ i ∧ i < s + n ∧ j = i ∧ k i = some x
 | 0, _, h => by cases h
 | n + 1, s, h => by
  simp only [upTo, cond_eq_ite, decide_eq_true_eq] at h
  split at h
  · rename_i hj
    exact ⟨s, Nat.le_refl _, by omega, hj, h⟩
  · obtain ⟨i, h1, h2, h3⟩ := upTo_some n (s + 1) h
    exact ⟨i, by omega, by omega, h3⟩
theorem opIndex_sound {t : TypeId} {a ix : AV} {a' ix' : Value} {k : AV → Option R} (ha : VR ρ a a') (hix : VR ρ ix ix') (he : opIndex P t a ix k = some x) (W : World) :
 ∃ v v', (Instr.index t a' ix').run P W = .ok v' W ∧ VR ρ v v' ∧ k v = some x := by
 unfold opIndex at he
 split at he
 case h_2 => cases he
 rename_i kd j n e l hu
 split at he
 case h_3 => cases he
 case h_1 d s hud hA hs =>
  obtain ⟨i, _, hi, hj, he⟩ := upTo_some _ _ he
  simp only [cond_eq_ite, Nat.ble_eq] at he
  split at he
  case isFalse => cases he
  rename_i hle
  cases ha
  cases hix
  rename_i l' h1 hl
  have hag := isAggT_run hud W
  rw [hA] at hag
  unfold sizeT at hs
  cases hie : P.info? e with
  | none => rw [hie] at hs; cases hs
  | some ie =>
   rw [hie] at hs
   simp only [Option.some.injEq] at hs
   have hi' : i < n := by omega
   refine ⟨_, .agg (l'.toArray.extract (i * s) (i * s + s)), ?_, ?_, he⟩
   · subst hj
     simp [Instr.index, asIntOf, run_underlying hu, hi', part, hag, sizeOf, typeInfo, hie, hs]
   · have hx : l'.toArray.extract (i * s) (i * s + s) = ((l'.drop (i * s)).take s).toArray := by
      simp [List.extract_toArray, List.extract_eq_take_drop, Nat.add_sub_cancel_left]
     rw [hx]
     exact .agg ((hl.drop (i * s)).take s) fun u hu' => h1 u (List.mem_of_mem_drop (List.mem_of_mem_take hu'))
 case h_2 d s hud hA hs =>
  obtain ⟨i, _, hi, hj, he⟩ := upTo_some _ _ he
  split at he
  case h_2 => cases he
  rename_i v hv
  cases ha
  cases hix
  rename_i l' h1 hl
  have hag := isAggT_run hud W
  rw [hA] at hag
  unfold sizeT at hs
  cases hie : P.info? e with
  | none => rw [hie] at hs; cases hs
  | some ie =>
   rw [hie] at hs
   simp only [Option.some.injEq] at hs
   obtain ⟨v', h2, h3⟩ := hl.get hv
   have hi' : i < n := by omega
   refine ⟨v, v', ?_, h3, he⟩
   subst hj
   simp [Instr.index, asIntOf, run_underlying hu, hi', part, hag, sizeOf, typeInfo, hie, hs, h2]
end
end Go.Abs
