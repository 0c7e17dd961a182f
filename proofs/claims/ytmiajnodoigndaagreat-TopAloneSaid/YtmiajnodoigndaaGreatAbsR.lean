/- Own: Code: what the interpreter tells of it holds. -/
import Derived.Test.YtmiajnodoigndaaGreatAbsQ
namespace Go.Abs
open Go.RowKit
set_option linter.unusedVariables false
section
variable {P : Program} {K : Kinds} {R : Type} {x : R}
structure Ground (P : Program) (K : Kinds) : Prop extends Known P K where
 mixed : P.follows .mixedOrders = true
 good : AllGood P
 nonum : NoNum P
theorem CodeOK.plain {c : Code} {st : St} {ex : Ex} (h : ∀ (Q : Exit → Act → World → Prop) (a : Act) (W : World), Q (exitOf ex) a W → c.wp P Q a W) : CodeOK P c st ex st :=
 ⟨Nat.le_refl _, fun X N0 W0 ρ W a hS Q hQ => h Q a W (hQ ρ W a hS (Agr.refl _ _))⟩
theorem ev_sound {orc : Orc R} {lorc : LOrc R} (G : Ground P K) (hC : OrcOK P orc) (hL : LOrcOK P K lorc) : ∀ (d : Nat) (f : FuncId) (c : Code) (st : St) (k : Ex → St → Option R) (x : R), (∀ y ∈ marks c, y ∈ bodyMarks P f) → ev P K orc lorc d f c st k = some x →
 ∃ ex st', k ex st' = some x ∧ CodeOK P c st ex st'
 | 0, f, c, st, k, x, _, he => by cases he
 | d + 1, f, c, st, k, x, hm, he => by
  have ih := ev_sound G hC hL d
  have hC' : OrcOK P (fun g args h (k : AV → Heap → Option R) => bif K.inl g || K.inlC g args then evIn P (ev P K orc lorc d) g args h k else orc g args h k) := by
   intro g args h k x he
   simp only [cond_eq_ite] at he
   split at he
   · refine evIn_sound G.nonum (fun fn c hf hb st k x he => ih g c st k x (fun y hy => ?_) he) he
     unfold bodyMarks
     rw [hf]
     simp only [hb]
     exact hy
   · exact hC g args h k x he
  cases c with
  | skip => exact ⟨_, _, he, CodeOK.plain fun Q a W h => wp_skip h⟩
  | label l => exact ⟨_, _, he, CodeOK.plain fun Q a W h => wp_label h⟩
  | exit id => exact ⟨_, _, he, CodeOK.plain fun Q a W h => wp_exit h⟩
  | goto l => exact ⟨_, _, he, CodeOK.plain fun Q a W h => wp_goto h⟩
  | ret => exact ⟨_, _, he, CodeOK.plain fun Q a W h => wp_ret h⟩
  | rangeFunc f' ps as b => cases he
  | refuse s => cases he
  | seq a b =>
   unfold ev at he
   dsimp only at he
   obtain ⟨ex, st1, hk, hl, hc⟩ := ih f a st _ x (fun y hy => hm y (by simp only [marks, List.mem_append]; exact .inl hy)) he
   have fin : ex ≠ .normal → k ex st1 = some x → ∃ ex st', k ex st' = some x ∧ CodeOK P (.seq a b) st ex st' := fun hne hk =>
    ⟨ex, st1, hk, hl, fun X N0 W0 ρ W act hS Q hQ => wp_seq (hc X N0 W0 ρ W act hS _ fun ρ' W' a' s g => by
     have := hQ ρ' W' a' s g
     cases ex with
     | normal => exact absurd rfl hne
     | exit id => exact this
     | goto l => exact this
     | ret => exact this)⟩
   cases ex with
   | normal =>
    obtain ⟨ex, st2, hk2, hl2, hc2⟩ := ih f b st1 _ x (fun y hy => hm y (by simp only [marks, List.mem_append]; exact .inr hy)) hk
    exact ⟨ex, st2, hk2, Nat.le_trans hl hl2, fun X N0 W0 ρ W act hS Q hQ => wp_seq (hc X N0 W0 ρ W act hS _ fun ρ' W' a' s g =>
     hc2 X N0 W0 ρ' W' a' s Q fun ρ2 W2 a2 s2 g2 => hQ ρ2 W2 a2 s2 (g.trans g2 hl))⟩
   | exit id => exact fin (by simp) hk
   | goto l => exact fin (by simp) hk
   | ret => exact fin (by simp) hk
  | cond c a b =>
   unfold ev at he
   dsimp only at he
   split at he
   · rename_i t hct
     have hcv : ∀ {ρ : Ren} {act : Act}, EnvR ρ st.env act → act.eval c = .bool t := fun {ρ act} E => by
      have h1 := evalO_sound E.2 c
      rw [hct] at h1
      generalize act.eval c = w at h1
      cases h1
      rfl
     cases t with
     | true =>
      obtain ⟨ex, st1, hk, hl, hc⟩ := ih f a st _ x (fun y hy => hm y (by simp only [marks, List.mem_append]; exact .inl hy)) he
      exact ⟨ex, st1, hk, hl, fun X N0 W0 ρ W act hS Q hQ => wp_cond_true (hcv hS.2.1) (hc X N0 W0 ρ W act hS Q hQ)⟩
     | false =>
      obtain ⟨ex, st1, hk, hl, hc⟩ := ih f b st _ x (fun y hy => hm y (by simp only [marks, List.mem_append]; exact .inr hy)) he
      exact ⟨ex, st1, hk, hl, fun X N0 W0 ρ W act hS Q hQ => wp_cond_false (hcv hS.2.1) (hc X N0 W0 ρ W act hS Q hQ)⟩
   · cases he
  | block id b =>
   unfold ev at he
   dsimp only at he
   obtain ⟨ex, st1, hk, hl, hc⟩ := ih f b st _ x (fun y hy => hm y (by simpa only [marks] using hy)) he
   have fin : (∀ j, ex ≠ .exit j) → k ex st1 = some x → ∃ ex st', k ex st' = some x ∧ CodeOK P (.block id b) st ex st' := fun hne hk =>
    ⟨ex, st1, hk, hl, fun X N0 W0 ρ W act hS Q hQ => wp_block (hc X N0 W0 ρ W act hS _ fun ρ' W' a' s g => by
     have := hQ ρ' W' a' s g
     cases ex with
     | normal => exact this
     | exit id => exact absurd rfl (hne id)
     | goto l => exact this
     | ret => exact this)⟩
   cases ex with
   | exit j =>
    simp only at hk
    cases hq : Nat.beq j id with
    | true =>
     rw [hq] at hk
     have := Nat.eq_of_beq_eq_true hq
     subst this
     refine ⟨.normal, st1, hk, hl, fun X N0 W0 ρ W act hS Q hQ => wp_block (hc X N0 W0 ρ W act hS _ fun ρ' W' a' s g => ?_)⟩
     show (if j = j then Q .normal a' W' else _)
     rw [if_pos rfl]
     exact hQ ρ' W' a' s g
    | false =>
     rw [hq] at hk
     refine ⟨.exit j, st1, hk, hl, fun X N0 W0 ρ W act hS Q hQ => wp_block (hc X N0 W0 ρ W act hS _ fun ρ' W' a' s g => ?_)⟩
     show (if j = id then _ else Q (.exit j) a' W')
     rw [if_neg (fun e => by rw [e] at hq; simp at hq)]
     exact hQ ρ' W' a' s g
   | normal => exact fin (by simp) hk
   | goto l => exact fin (by simp) hk
   | ret => exact fin (by simp) hk
  | loop b =>
   unfold ev at he
   dsimp only at he
   have hmem : (firstReg b, false, b) ∈ bodyMarks P f := hm _ (by simp only [marks]; exact .head _)
   obtain ⟨h1, h2⟩ := headL_sound (P := P) (K := K) (K.ann f (firstReg b)) (Nat.le_refl st.h.length)
   split at he
   · obtain ⟨ex, st1, hk, hl, hc, _⟩ := hL f (firstReg b) st.h.length _ k x he h1
     have hnj : ¬ isJ P f (firstReg b) := by
      rintro ⟨y, hy, hy1, hy2⟩
      have := mark_unique (G.good f) hy hmem hy1
      rw [this] at hy2
      cases hy2
     have hbody := loopOf_mark (G.good f) hmem
     simp only at hbody
     refine ⟨ex, st1, hk, hl, fun X N0 W0 ρ W act hS Q hQ => wp_loopIn ?_⟩
     obtain ⟨ρ1, s1, g1⟩ := h2 X N0 W0 ρ W act hS
     have := hc hnj X N0 W0 ρ1 W act s1 Q fun ρ' W' a' s g => hQ ρ' W' a' s fun b hb => (g b hb).trans (g1 b hb)
     rwa [hbody] at this
   · obtain ⟨ex, st1, hk, hl, hc⟩ := iter_sound (c := b) (fun st k x he => ih f b st k x (fun y hy => hm y (by simp only [marks]; exact .tail _ hy)) he) (fun st hn => headL_sound (K.ann f (firstReg b)) hn) (fun st hn => gcL_sound _ hn) _ _ k h1 he
     refine ⟨ex, st1, hk, hl, fun X N0 W0 ρ W act hS Q hQ => wp_loopIn ?_⟩
     obtain ⟨ρ1, s1, g1⟩ := h2 X N0 W0 ρ W act hS
     exact hc X N0 W0 ρ1 W act s1 Q fun ρ' W' a' s g => hQ ρ' W' a' s fun b hb => (g b hb).trans (g1 b hb)
  | scope b =>
   unfold ev at he
   dsimp only at he
   obtain ⟨ex, st1, hk, hl, hc⟩ := ih f b st _ x (fun y hy => hm y (by simp only [marks]; exact List.mem_append_right _ hy)) he
   have fin : (∀ j, ex ≠ .goto j) → k ex st1 = some x → ∃ ex st', k ex st' = some x ∧ CodeOK P (.scope b) st ex st' := fun hne hk =>
    ⟨ex, st1, hk, hl, fun X N0 W0 ρ W act hS Q hQ => wp_scope_plain (hc X N0 W0 ρ W act hS _ fun ρ' W' a' s g => by
     have := hQ ρ' W' a' s g
     cases ex with
     | normal => exact ⟨fun l => by simp [exitOf], this⟩
     | exit id => exact ⟨fun l => by simp [exitOf], this⟩
     | goto l => exact absurd rfl (hne l)
     | ret => exact ⟨fun l => by simp [exitOf], this⟩)⟩
   cases ex with
   | normal => exact fin (by simp) hk
   | exit id => exact fin (by simp) hk
   | ret => exact fin (by simp) hk
   | goto l =>
    simp only at hk
    cases hq : Nat.beq l 0 with
    | false => rw [hq] at hk; cases hk
    | true =>
     rw [hq] at hk
     have := Nat.eq_of_beq_eq_true hq
     subst this
     simp only [cond_true] at hk
     split at hk
     · rename_i rest hrest
       have hmem : (firstReg rest, true, rest) ∈ bodyMarks P f := hm _ (by simp only [marks, hrest]; exact .head _)
       obtain ⟨h1, h2⟩ := headL_sound (P := P) (K := K) (K.ann f (firstReg rest)) (Nat.le_refl st1.h.length)
       obtain ⟨ex, st2, hk2, hl2, _, hc2⟩ := hL f (firstReg rest) st1.h.length _ k x hk h1
       have hbody := loopOf_mark (G.good f) hmem
       simp only at hbody
       rw [hbody] at hc2
       refine ⟨ex, st2, hk2, Nat.le_trans hl hl2, fun X N0 W0 ρ W act hS Q hQ => wp_scopeIn hrest (hc X N0 W0 ρ W act hS _ fun ρ' W' a' s g => ?_)⟩
       obtain ⟨ρ1, s1, g1⟩ := h2 X N0 W0 ρ' W' a' s
       exact ⟨rfl, hc2 ⟨_, hmem, rfl, rfl⟩ b hrest X N0 W0 ρ1 W' a' s1 Q fun ρ2 W2 a2 s2 g2 => hQ ρ2 W2 a2 s2 (g.trans (g1.trans g2 (Nat.le_refl _)) hl)⟩
     · cases hk
  | region id ops draw =>
   unfold ev at he
   dsimp only at he
   split at he
   · obtain ⟨st', hk, hc⟩ := region_sound G.toKnown hC' id he
     exact ⟨_, st', hk, hc⟩
   · cases hfit : drawFits P K (K.qs f id) ops ops.toList (aheads ops.toList []) 0 with
     | true =>
      rw [hfit] at he
      obtain ⟨st', hk, hc⟩ := draw_sound G.toKnown hC' G.mixed id hfit he
      exact ⟨_, st', hk, hc⟩
     | false =>
      rw [hfit] at he
      cases he
theorem evFun_sound {orc : Orc R} {lorc : LOrc R} (G : Ground P K) (hC : OrcOK P orc) (hL : LOrcOK P K lorc) {d : Nat} {f : FuncId} {args : List AV} {h : Heap} {k : AV → Heap → Option R} (he : evIn P (ev P K orc lorc d) f args h k = some x) :
 ∃ v h', k v h' = some x ∧ CallOK P f args h v h' :=
 evIn_sound G.nonum (fun fn c hf hb st k x he => ev_sound G hC hL d f c st k x (fun y hy => by unfold bodyMarks; rw [hf]; simp only [hb]; exact hy) he) he
theorem LOrcOK.none : LOrcOK P K (LOrc.none : LOrc R) := fun _ _ _ _ _ _ h => by cases h
theorem OrcOK.none : OrcOK P (Orc.none : Orc R) := fun _ _ _ _ _ h => by cases h
end
end Go.Abs
