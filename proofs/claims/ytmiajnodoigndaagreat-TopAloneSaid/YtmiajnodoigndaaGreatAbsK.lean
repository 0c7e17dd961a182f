/- Own: Regions that run in the order of their text. -/
import Derived.Test.YtmiajnodoigndaaGreatAbsJ
namespace Go.Abs
open Go.RowKit
set_option linter.unusedVariables false
def GuardR (ρ : Ren) (ops : Array Oper) (o : Oper) (e : List AV) (a : Act) : Prop := ∀ g want t, o.guard = some (g, want) → (ops[g]?).bind (·.dst) = some t → VR ρ (envGet e t) (a.eval (.tmp t))
theorem EnvR.guard {ρ : Ren} {e : List AV} {a : Act} (h : EnvR ρ e a) (ops : Array Oper) (o : Oper) : GuardR ρ ops o e a := fun _ _ t _ _ => h.2 t
theorem yielded_bool {ops : Array Oper} {a : Act} {g t : Nat} {b : Bool} (hd : (ops[g]?).bind (·.dst) = some t) (he : a.eval (.tmp t) = .bool b) : yielded ops a.tmps g = some b := by
 unfold yielded
 rw [hd]
 simp only [Act.eval, Array.getD_eq_getD_getElem?] at he
 cases h : a.tmps[t]? with
 | none => rw [h] at he; simp [undef] at he
 | some v => rw [h] at he; simp at he; subst he; simp [h]
theorem yielded_tup {ops : Array Oper} {a : Act} {g t : Nat} {l : Array Value} (hd : (ops[g]?).bind (·.dst) = some t) (he : a.eval (.tmp t) = .tuple l) : yielded ops a.tmps g = none := by
 unfold yielded
 rw [hd]
 simp only [Act.eval, Array.getD_eq_getD_getElem?] at he
 cases h : a.tmps[t]? with
 | none => simp [h]
 | some v => rw [h] at he; simp at he; subst he; simp [h]
theorem set_same {e : List AV} {t : Nat} {v : AV} (h : envGet e t = v) : e.set t v = e := by
 subst h
 unfold envGet
 cases hh : e[t]? with
 | none => simp [List.set_eq_of_length_le (List.getElem?_eq_none_iff.1 hh)]
 | some u =>
  apply List.ext_getElem?
  intro i
  rw [List.getElem?_set]
  split
  · rename_i hq
    subst hq
    have hl := (List.getElem?_eq_some_iff.1 hh).1
    simp only [hl, if_true]
    rw [hh]
  · rfl
section
variable {P : Program} {K : Kinds} {R : Type} {x : R} {ops : Array Oper}
theorem guarded_some {o : Oper} {e : List AV} {yes no : List AV → Option R} (he : guarded ops o e yes no = some x) :
 (yes e = some x ∧ ∀ ρ a, GuardR ρ ops o e a → Region.wanted o (yielded ops a.tmps) = true) ∨ (no e = some x ∧ ∀ ρ a, GuardR ρ ops o e a → Region.wanted o (yielded ops a.tmps) = false) := by
 unfold guarded at he
 split at he
 · rename_i hg
   exact .inl ⟨he, fun ρ a _ => by simp [Region.wanted, hg]⟩
 · rename_i g want hg
   split at he
   · cases he
   · rename_i t hd
     split at he
     · rename_i b hb
       have key : ∀ ρ a, GuardR ρ ops o e a → Region.wanted o (yielded ops a.tmps) = (b == want) := by
        intro ρ a hG
        have h1 := hG g want t hg hd
        rw [hb] at h1
        generalize hw : a.eval (.tmp t) = w at h1
        cases h1
        simp only [Region.wanted, hg, yielded_bool hd hw]
        cases b <;> cases want <;> rfl
       simp only [cond_eq_ite] at he
       split at he
       · rename_i hq
         subst hq
         rw [set_same hb] at he
         split at he
         · exact .inl ⟨he, fun ρ a hG => by rw [key ρ a hG]; rfl⟩
         · exact .inr ⟨he, fun ρ a hG => by rw [key ρ a hG]; rfl⟩
       · rename_i hq
         have hq : b = false := by simpa using hq
         subst hq
         rw [set_same hb] at he
         split at he
         · exact .inr ⟨he, fun ρ a hG => by rw [key ρ a hG]; rfl⟩
         · exact .inl ⟨he, fun ρ a hG => by rw [key ρ a hG]; rfl⟩
     · rename_i l hb
       refine .inr ⟨he, fun ρ a hG => ?_⟩
       have h1 := hG g want t hg hd
       rw [hb] at h1
       generalize hw : a.eval (.tmp t) = w at h1
       cases h1
       simp only [Region.wanted, hg, yielded_tup hd hw]
       rfl
     · cases he
def StR (X : Nat → Prop) (N0 : Nat) (W0 : World) (ρ : Ren) (st : St) (a : Act) (W : World) : Prop := HR X N0 W0 ρ st.h W ∧ EnvR ρ st.env a ∧ a.defers = []
def exitOf : Ex → Exit
 | .normal => .normal
 | .exit id => .exit id
 | .goto l => .goto l
 | .ret => .ret
def CodeOK (P : Program) (c : Code) (st : St) (ex : Ex) (st' : St) : Prop :=
 st.h.length ≤ st'.h.length ∧ ∀ (X : Nat → Prop) (N0 : Nat) (W0 : World) (ρ : Ren) (W : World) (a : Act), StR X N0 W0 ρ st a W →
  ∀ (Q : Exit → Act → World → Prop), (∀ ρ' W' a', StR X N0 W0 ρ' st' a' W' → Agr st.h.length ρ ρ' → Q (exitOf ex) a' W') → c.wp P Q a W
theorem put_defers' (a : Act) (d : Option Tmp) (v : Value) : (a.put d v).defers = a.defers := by cases d <;> rfl
theorem evOps_sound {orc : Orc R} (hK : Known P K) (hC : OrcOK P orc) {k : St → Option R} : ∀ (os : List Oper) (i : Nat) (st : St), ops.toList.drop i = os → evOps P K orc ops os st k = some x → ∃ st', k st' = some x ∧ st.h.length ≤ st'.h.length ∧
 ∀ (X : Nat → Prop) (N0 : Nat) (W0 : World) (ρ : Ren) (W : World) (a : Act), StR X N0 W0 ρ st a W → ∀ (Q : Exit → Act → World → Prop), (∀ ρ' W' a', StR X N0 W0 ρ' st' a' W' → Agr st.h.length ρ ρ' → Q .normal a' W') →
  wpOps P ops Q (List.range' i os.length) a W
 | [], i, st, _, he => ⟨st, he, Nat.le_refl _, fun X N0 W0 ρ W a hS Q hQ => hQ ρ W a hS (Agr.refl _ _)⟩
 | o :: os, i, st, hd, he => by
  have hi : ops[i]? = some o := by
   have := congrArg (·[0]?) hd
   simpa using this
  have hd' : ops.toList.drop (i + 1) = os := by
   rw [← List.drop_drop, hd]; rfl
  unfold evOps at he
  rcases guarded_some he with ⟨he, hg⟩ | ⟨he, hg⟩
  · obtain ⟨v, h', hk, hl, hop⟩ := evOp_sound hK hC he
    obtain ⟨st', hk', hl', hrec⟩ := evOps_sound hK hC os (i + 1) _ hd' hk
    refine ⟨st', hk', Nat.le_trans hl hl', fun X N0 W0 ρ W a hS Q hQ => ?_⟩
    rw [List.length_cons, List.range'_succ, wpOps_cons, wpOp, hi]
    simp only [hg ρ a (hS.2.1.guard ops o), if_true]
    refine .inl (hop X N0 W0 ρ W a hS.1 (hS.2.1.ops _) _ Q fun ρ' W' v' hH ha hv => ?_)
    refine hrec X N0 W0 ρ' W' _ ⟨hH, (hS.2.1.mono (hS.1.ext ha)).put hv o.dst, by rw [put_defers']; exact hS.2.2⟩ Q fun ρ2 W2 a2 h2 ha2 => hQ ρ2 W2 a2 h2 (ha.trans ha2 hl)
  · obtain ⟨st', hk', hl', hrec⟩ := evOps_sound hK hC os (i + 1) _ hd' he
    refine ⟨st', hk', hl', fun X N0 W0 ρ W a hS Q hQ => ?_⟩
    rw [List.length_cons, List.range'_succ, wpOps_cons, wpOp, hi]
    simp only [hg ρ a (hS.2.1.guard ops o)]
    exact hrec X N0 W0 ρ W _ ⟨hS.1, hS.2.1.put (.tup .nil) o.dst, by rw [put_defers']; exact hS.2.2⟩ Q hQ
theorem region_sound {orc : Orc R} (hK : Known P K) (hC : OrcOK P orc) {k : St → Option R} {st : St} (id : Nat) (he : evOps P K orc ops ops.toList st k = some x) : ∃ st', k st' = some x ∧ CodeOK P (.region id ops false) st .normal st' := by
 obtain ⟨st', hk, hl, h⟩ := evOps_sound hK hC ops.toList 0 st rfl he
 refine ⟨st', hk, hl, fun X N0 W0 ρ W a hS Q hQ => wp_region ?_⟩
 have := h X N0 W0 ρ W a hS Q hQ
 rwa [List.range_eq_range', ← Array.length_toList]
end
end Go.Abs
