/- Own: Code: what the interpreter tells of it holds. -/
import Derived.Test.YtmiajnodoigndaaGreatAbsP
import Derived.Scope
namespace Go.Abs
open Go.RowKit
set_option linter.unusedVariables false
section
variable {P : Program} {Q : Exit → Act → World → Prop} {a : Act} {w : World}
def loopIn (P : Program) (c : Code) (Q : Exit → Act → World → Prop) (a : Act) (w : World) : Prop := ∀ (b : Frame) (k : List Item) (cs : List Frame), ∃ e a' w', Q e a' w' ∧ Arrives P (lone (b.at a (.code c :: .inLoop c :: k)) cs w) b k cs e a' w'
theorem loopIn_unroll {c : Code} (h : c.wp P (Exit.then (loopIn P c Q) Q) a w) : loopIn P c Q a w := by
 intro b k cs
 obtain ⟨e, a₁, w₁, hq, harr⟩ := h b (.inLoop c :: k) cs
 cases e with
 | normal =>
  obtain ⟨e₂, a₂, w₂, hq₂, harr₂⟩ := hq b k cs
  exact ⟨e₂, a₂, w₂, hq₂, .of_steps (Steps.trans harr (.one step_inLoop)) harr₂⟩
 | exit id => exact ⟨_, a₁, w₁, hq, .pass (x := .inLoop c) rfl (fun _ _ => .inl (by simp)) harr⟩
 | goto l => exact ⟨_, a₁, w₁, hq, .pass (x := .inLoop c) rfl (fun _ _ => .inl (by simp)) harr⟩
 | ret => exact ⟨_, a₁, w₁, hq, .pass (x := .inLoop c) rfl (fun _ _ => .inl (by simp)) harr⟩
 | panic ch => exact ⟨_, a₁, w₁, hq, .pass (x := .inLoop c) rfl (fun _ _ => .inl (by simp)) harr⟩
 | outgrown => exact ⟨_, a₁, w₁, hq, .pass (x := .inLoop c) rfl (fun _ _ => .inl (by simp)) harr⟩
theorem wp_loopIn {c : Code} (h : loopIn P c Q a w) : (Code.loop c).wp P Q a w := fun b k cs => by
 obtain ⟨e, a', w', hq, harr⟩ := h b k cs
 exact ⟨e, a', w', hq, .of_steps (.one step_loop) harr⟩
def scopeIn (P : Program) (sc rest : Code) (Q : Exit → Act → World → Prop) (a : Act) (w : World) : Prop := ∀ (b : Frame) (k : List Item) (cs : List Frame), ∃ e a' w', Q e a' w' ∧ Arrives P (lone (b.at a (.code rest :: .inScope sc :: k)) cs w) b k cs e a' w'
def Exit.jump0 (J : Act → World → Prop) (Q : Exit → Act → World → Prop) : Exit → Act → World → Prop
 | .goto l', a, w => l' = 0 ∧ J a w
 | e, a, w => Q e a w
theorem scope_step {sc rest c : Code} (hf : findLabel sc 0 = some rest) (h : c.wp P (Exit.jump0 (scopeIn P sc rest Q) Q) a w) (b : Frame) (k : List Item) (cs : List Frame) : ∃ e a' w', Q e a' w' ∧ Arrives P (lone (b.at a (.code c :: .inScope sc :: k)) cs w) b k cs e a' w' := by
 have hg : gotoIn 0 (.inScope sc :: k) = some (.code rest :: .inScope sc :: k) := by simp [gotoIn, hf]
 obtain ⟨e, a₁, w₁, hq, harr⟩ := h b (.inScope sc :: k) cs
 cases e with
 | normal => exact ⟨.normal, a₁, w₁, hq, Steps.trans harr (.one step_inScope)⟩
 | exit id => exact ⟨.exit id, a₁, w₁, hq, fun k' hk => harr k' (by simp [exitTo, hk])⟩
 | goto l' =>
  obtain ⟨rfl, hJ⟩ := hq
  obtain ⟨e₂, a₂, w₂, hq₂, harr₂⟩ := hJ b k cs
  exact ⟨e₂, a₂, w₂, hq₂, .of_steps (harr _ hg) harr₂⟩
 | ret => exact ⟨_, a₁, w₁, hq, harr⟩
 | panic ch => exact ⟨_, a₁, w₁, hq, harr⟩
 | outgrown => exact ⟨_, a₁, w₁, hq, harr⟩
theorem wp_scopeIn {sc rest : Code} (hf : findLabel sc 0 = some rest) (h : sc.wp P (Exit.jump0 (scopeIn P sc rest Q) Q) a w) : (Code.scope sc).wp P Q a w := fun b k cs => by
 obtain ⟨e, a', w', hq, harr⟩ := scope_step hf h b k cs
 exact ⟨e, a', w', hq, .of_steps (.one step_scope) harr⟩
theorem wp_scope_plain {sc : Code} (h : sc.wp P (fun e a w => (∀ l, e ≠ .goto l) ∧ Q e a w) a w) : (Code.scope sc).wp P Q a w := fun b k cs => by
 obtain ⟨e, a₁, w₁, ⟨hn, hq⟩, harr⟩ := h b (.inScope sc :: k) cs
 cases e with
 | normal => exact ⟨.normal, a₁, w₁, hq, .head step_scope (Steps.trans harr (.one step_inScope))⟩
 | exit id => exact ⟨.exit id, a₁, w₁, hq, fun k' hk => .head step_scope (harr k' (by simp [exitTo, hk]))⟩
 | goto l' => exact absurd rfl (hn l')
 | ret => exact ⟨_, a₁, w₁, hq, .of_steps (.one step_scope) harr⟩
 | panic ch => exact ⟨_, a₁, w₁, hq, .of_steps (.one step_scope) harr⟩
 | outgrown => exact ⟨_, a₁, w₁, hq, .of_steps (.one step_scope) harr⟩
end
def marks : Code → List (Nat × Bool × Code)
 | .seq a b => marks a ++ marks b
 | .cond _ a b => marks a ++ marks b
 | .block _ c => marks c
 | .loop c => (firstReg c, false, c) :: marks c
 | .scope c => (match findLabel c 0 with | some r => [(firstReg r, true, r)] | none => []) ++ marks c
 | _ => []
theorem loopsIn_marks : ∀ c : Code, loopsIn c = (marks c).map fun y => (y.1, y.2.2)
 | .seq a b => by simp [loopsIn, marks, loopsIn_marks a, loopsIn_marks b]
 | .cond _ a b => by simp [loopsIn, marks, loopsIn_marks a, loopsIn_marks b]
 | .block _ c => by simp [loopsIn, marks, loopsIn_marks c]
 | .loop c => by simp [loopsIn, marks, loopsIn_marks c]
 | .scope c => by
  simp only [loopsIn, marks, loopsIn_marks c]
  cases findLabel c 0 <;> simp
 | .skip => rfl
 | .region .. => rfl
 | .rangeFunc .. => rfl
 | .exit _ => rfl
 | .goto _ => rfl
 | .label _ => rfl
 | .ret => rfl
 | .refuse _ => rfl
theorem marks_rest : ∀ (c : Code) (l : Nat) (r : Code), findLabel c l = some r → ∀ y ∈ marks r, y ∈ marks c
 | .seq a b, l, r, h, y, hy => by
  unfold findLabel at h
  split at h
  · rename_i rest hr
    cases h
    simp only [marks, List.mem_append] at hy ⊢
    exact hy.imp (marks_rest a l _ hr y) id
  · simp only [marks, List.mem_append]
    exact .inr (marks_rest b l r h y hy)
 | .label l', l, r, h, y, hy => by
  unfold findLabel at h
  split at h
  · cases h; simp [marks] at hy
  · cases h
 | .cond .., _, _, h, _, _ => by simp [findLabel] at h
 | .block .., _, _, h, _, _ => by simp [findLabel] at h
 | .loop .., _, _, h, _, _ => by simp [findLabel] at h
 | .scope .., _, _, h, _, _ => by simp [findLabel] at h
 | .skip, _, _, h, _, _ => by simp [findLabel] at h
 | .region .., _, _, h, _, _ => by simp [findLabel] at h
 | .rangeFunc .., _, _, h, _, _ => by simp [findLabel] at h
 | .exit _, _, _, h, _, _ => by simp [findLabel] at h
 | .goto _, _, _, h, _, _ => by simp [findLabel] at h
 | .ret, _, _, h, _, _ => by simp [findLabel] at h
 | .refuse _, _, _, h, _, _ => by simp [findLabel] at h
def bodyMarks (P : Program) (f : FuncId) : List (Nat × Bool × Code) := match P.funcs[f]? with
 | some fn => (match fn.body with | some c => marks c | none => [])
 | none => []
theorem findL_of {id : Nat} {c : Code} : ∀ {l : List (Nat × Bool × Code)} {j : Bool}, (l.map (·.1)).Nodup → (id, j, c) ∈ l → findL id (l.map fun y => (y.1, y.2.2)) = c
 | [], _, _, h => by simp at h
 | y :: l, j, hn, h => by
  simp only [List.map_cons, findL]
  rcases List.mem_cons.1 h with h | h
  · subst h
    simp
  · have hne : y.1 ≠ id := fun e => by
     simp only [List.map_cons, List.nodup_cons] at hn
     exact hn.1 (e ▸ List.mem_map.2 ⟨_, h, rfl⟩)
    have : Nat.beq y.1 id = false := by
     cases hq : Nat.beq y.1 id with
     | false => rfl
     | true => exact absurd (Nat.eq_of_beq_eq_true hq) hne
    rw [this]
    exact findL_of (by simp only [List.map_cons, List.nodup_cons] at hn; exact hn.2) h
theorem loopOf_mark {P : Program} {f : FuncId} {y : Nat × Bool × Code} (hn : ((bodyMarks P f).map (·.1)).Nodup) (hy : y ∈ bodyMarks P f) : loopOf P f y.1 = y.2.2 := by
 unfold bodyMarks at hn hy
 unfold loopOf
 split
 · rename_i fn hf
   rw [hf] at hn hy
   simp only at hn hy
   split
   · rename_i c hb
     rw [hb] at hn hy
     simp only at hn hy
     rw [loopsIn_marks]
     exact findL_of (j := y.2.1) hn hy
   · rename_i hb
     rw [hb] at hy
     simp at hy
 · rename_i hf
   rw [hf] at hy
   simp at hy
def isJ (P : Program) (f : FuncId) (id : Nat) : Prop := ∃ y ∈ bodyMarks P f, y.1 = id ∧ y.2.1 = true
theorem mark_unique {P : Program} {f : FuncId} (hn : ((bodyMarks P f).map (·.1)).Nodup) {y z : Nat × Bool × Code} (hy : y ∈ bodyMarks P f) (hz : z ∈ bodyMarks P f) (h : y.1 = z.1) : y = z := by
 generalize bodyMarks P f = l at hn hy hz
 induction l with
 | nil => simp at hy
 | cons u l ih =>
  simp only [List.map_cons, List.nodup_cons] at hn
  rcases List.mem_cons.1 hy with e1 | hy <;> rcases List.mem_cons.1 hz with e2 | hz
  · exact e1.trans e2.symm
  · exact absurd (List.mem_map.2 ⟨z, hz, by rw [← h, e1]⟩) hn.1
  · exact absurd (List.mem_map.2 ⟨y, hy, by rw [h, e2]⟩) hn.1
  · exact ih hn.2 hy hz
section
variable {P : Program} {K : Kinds} {R : Type} {x : R}
def AllGood (P : Program) : Prop := ∀ f, ((bodyMarks P f).map (·.1)).Nodup
def NoNum (P : Program) : Prop := ∀ (f : FuncId) (fn : Func), P.funcs[f]? = some fn → fn.body.isNone = false → (fn.name == "runtime.NumGoroutine") = false
def LOrcOK (P : Program) (K : Kinds) {R : Type} (lorc : LOrc R) : Prop := ∀ f id n0 st (k : Ex → St → Option R) x, lorc f id n0 st k = some x → n0 ≤ st.h.length → ∃ ex st', k ex st' = some x ∧ n0 ≤ st'.h.length ∧
 (¬ isJ P f id → ∀ (X : Nat → Prop) (N0 : Nat) (W0 : World) (ρ : Ren) (W : World) (a : Act), StR X N0 W0 ρ st a W → ∀ (Q : Exit → Act → World → Prop), (∀ ρ' W' a', StR X N0 W0 ρ' st' a' W' → Agr n0 ρ ρ' → Q (exitOf ex) a' W') → loopIn P (loopOf P f id) Q a W) ∧
 (isJ P f id → ∀ sc, findLabel sc 0 = some (loopOf P f id) → ∀ (X : Nat → Prop) (N0 : Nat) (W0 : World) (ρ : Ren) (W : World) (a : Act), StR X N0 W0 ρ st a W → ∀ (Q : Exit → Act → World → Prop), (∀ ρ' W' a', StR X N0 W0 ρ' st' a' W' → Agr n0 ρ ρ' → Q (exitOf ex) a' W') → scopeIn P sc (loopOf P f id) Q a W)
theorem iter_sound {c : Code} {body : St → (Ex → St → Option R) → Option R} {next out : St → St} {n0 : Nat} (hb : ∀ st (k : Ex → St → Option R) x, body st k = some x → ∃ ex st', k ex st' = some x ∧ CodeOK P c st ex st')
 (hnext : ∀ st, n0 ≤ st.h.length → Same n0 st (next st)) (hout : ∀ st, n0 ≤ st.h.length → Same n0 st (out st)) : ∀ (n : Nat) (st : St) (k : Ex → St → Option R), n0 ≤ st.h.length → iter body next out n st k = some x →
  ∃ ex st', k ex st' = some x ∧ n0 ≤ st'.h.length ∧ ∀ (X : Nat → Prop) (N0 : Nat) (W0 : World) (ρ : Ren) (W : World) (a : Act), StR X N0 W0 ρ st a W → ∀ (Q : Exit → Act → World → Prop), (∀ ρ' W' a', StR X N0 W0 ρ' st' a' W' → Agr n0 ρ ρ' → Q (exitOf ex) a' W') → loopIn P c Q a W
 | 0, st, k, hn, he => by cases he
 | n + 1, st, k, hn, he => by
  unfold iter at he
  obtain ⟨ex, st1, hk, hl, hc⟩ := hb _ _ _ he
  have fin : ∀ ex, ex ≠ .normal → (∀ (X : Nat → Prop) (N0 : Nat) (W0 : World) (ρ : Ren) (W : World) (a : Act), StR X N0 W0 ρ st a W →
  ∀ (Q : Exit → Act → World → Prop), (∀ ρ' W' a', StR X N0 W0 ρ' st1 a' W' → Agr st.h.length ρ ρ' → Q (exitOf ex) a' W') → c.wp P Q a W) → k ex (out st1) = some x → ∃ ex st', k ex st' = some x ∧ n0 ≤ st'.h.length ∧ ∀ (X : Nat → Prop) (N0 : Nat) (W0 : World) (ρ : Ren) (W : World) (a : Act), StR X N0 W0 ρ st a W → ∀ (Q : Exit → Act → World → Prop), (∀ ρ' W' a', StR X N0 W0 ρ' st' a' W' → Agr n0 ρ ρ' → Q (exitOf ex) a' W') → loopIn P c Q a W := by
   intro ex hne hc hk
   obtain ⟨h1, h2⟩ := hout st1 (Nat.le_trans hn hl)
   refine ⟨ex, out st1, hk, h1, fun X N0 W0 ρ W a hS Q hQ => loopIn_unroll (hc X N0 W0 ρ W a hS _ fun ρ1 W1 a1 s1 g1 => ?_)⟩
   obtain ⟨ρ2, s2, g2⟩ := h2 X N0 W0 ρ1 W1 a1 s1
   have hq := hQ ρ2 W1 a1 s2 fun b hb => (g2 b hb).trans (g1 b (Nat.lt_of_lt_of_le hb hn))
   cases ex with
   | normal => exact absurd rfl hne
   | exit id => exact hq
   | goto l => exact hq
   | ret => exact hq
  cases ex with
  | normal =>
   obtain ⟨h1, h2⟩ := hnext st1 (Nat.le_trans hn hl)
   obtain ⟨ex, st', hk', hl', hrec⟩ := iter_sound hb hnext hout n (next st1) k h1 hk
   refine ⟨ex, st', hk', hl', fun X N0 W0 ρ W a hS Q hQ => loopIn_unroll (hc X N0 W0 ρ W a hS _ fun ρ1 W1 a1 s1 g1 => ?_)⟩
   obtain ⟨ρ2, s2, g2⟩ := h2 X N0 W0 ρ1 W1 a1 s1
   exact hrec X N0 W0 ρ2 W1 a1 s2 Q fun ρ' W' a' h g => hQ ρ' W' a' h fun b hb => ((g b hb).trans (g2 b hb)).trans (g1 b (Nat.lt_of_lt_of_le hb hn))
  | exit id => exact fin _ (by simp) hc hk
  | goto l => exact fin _ (by simp) hc hk
  | ret => exact fin _ (by simp) hc hk
theorem iterJ_sound {c : Code} {body : St → (Ex → St → Option R) → Option R} {next out : St → St} {n0 : Nat} (hb : ∀ st (k : Ex → St → Option R) x, body st k = some x → ∃ ex st', k ex st' = some x ∧ CodeOK P c st ex st')
 (hnext : ∀ st, n0 ≤ st.h.length → Same n0 st (next st)) (hout : ∀ st, n0 ≤ st.h.length → Same n0 st (out st)) : ∀ (n : Nat) (st : St) (k : Ex → St → Option R), n0 ≤ st.h.length → iterJ 0 body next out n st k = some x →
  ∃ ex st', k ex st' = some x ∧ n0 ≤ st'.h.length ∧ ∀ sc, findLabel sc 0 = some c → ∀ (X : Nat → Prop) (N0 : Nat) (W0 : World) (ρ : Ren) (W : World) (a : Act), StR X N0 W0 ρ st a W → ∀ (Q : Exit → Act → World → Prop), (∀ ρ' W' a', StR X N0 W0 ρ' st' a' W' → Agr n0 ρ ρ' → Q (exitOf ex) a' W') → scopeIn P sc c Q a W
 | 0, st, k, hn, he => by cases he
 | n + 1, st, k, hn, he => by
  unfold iterJ at he
  obtain ⟨ex, st1, hk, hl, hc⟩ := hb _ _ _ he
  have fin : ∀ ex, (∀ l, ex ≠ .goto l) → (∀ (X : Nat → Prop) (N0 : Nat) (W0 : World) (ρ : Ren) (W : World) (a : Act), StR X N0 W0 ρ st a W →
  ∀ (Q : Exit → Act → World → Prop), (∀ ρ' W' a', StR X N0 W0 ρ' st1 a' W' → Agr st.h.length ρ ρ' → Q (exitOf ex) a' W') → c.wp P Q a W) → k ex (out st1) = some x → ∃ ex st', k ex st' = some x ∧ n0 ≤ st'.h.length ∧ ∀ sc, findLabel sc 0 = some c → ∀ (X : Nat → Prop) (N0 : Nat) (W0 : World) (ρ : Ren) (W : World) (a : Act), StR X N0 W0 ρ st a W → ∀ (Q : Exit → Act → World → Prop), (∀ ρ' W' a', StR X N0 W0 ρ' st' a' W' → Agr n0 ρ ρ' → Q (exitOf ex) a' W') → scopeIn P sc c Q a W := by
   intro ex hne hc hk
   obtain ⟨h1, h2⟩ := hout st1 (Nat.le_trans hn hl)
   refine ⟨ex, out st1, hk, h1, fun sc hsc X N0 W0 ρ W a hS Q hQ => scope_step hsc (hc X N0 W0 ρ W a hS _ fun ρ1 W1 a1 s1 g1 => ?_)⟩
   obtain ⟨ρ2, s2, g2⟩ := h2 X N0 W0 ρ1 W1 a1 s1
   have hq := hQ ρ2 W1 a1 s2 fun b hb => (g2 b hb).trans (g1 b (Nat.lt_of_lt_of_le hb hn))
   cases ex with
   | normal => exact hq
   | exit id => exact hq
   | goto l => exact absurd rfl (hne l)
   | ret => exact hq
  cases ex with
  | normal => exact fin _ (by simp) hc hk
  | exit id => exact fin _ (by simp) hc hk
  | ret => exact fin _ (by simp) hc hk
  | goto l =>
   simp only at hk
   cases hq : Nat.beq l 0 with
   | false => rw [hq] at hk; cases hk
   | true =>
    rw [hq] at hk
    have := Nat.eq_of_beq_eq_true hq
    subst this
    simp only [cond_true] at hk
    obtain ⟨h1, h2⟩ := hnext st1 (Nat.le_trans hn hl)
    obtain ⟨ex, st', hk', hl', hrec⟩ := iterJ_sound hb hnext hout n (next st1) k h1 hk
    refine ⟨ex, st', hk', hl', fun sc hsc X N0 W0 ρ W a hS Q hQ => scope_step hsc (hc X N0 W0 ρ W a hS _ fun ρ1 W1 a1 s1 g1 => ?_)⟩
    obtain ⟨ρ2, s2, g2⟩ := h2 X N0 W0 ρ1 W1 a1 s1
    exact ⟨rfl, hrec sc hsc X N0 W0 ρ2 W1 a1 s2 Q fun ρ' W' a' h g => hQ ρ' W' a' h fun b hb => ((g b hb).trans (g2 b hb)).trans (g1 b (Nat.lt_of_lt_of_le hb hn))⟩
def resOf (tmps : Array Value) : ResultVar → Sem Value
 | .tmp t => pure (tmps.getD t undef)
 | .cell a t => do loadVar t (← asAddr (tmps.getD a undef))
theorem takeRes_sound {e : List AV} {h : Heap} : ∀ {l : List ResultVar} {k : List AV → Option R}, takeRes P e h l k = some x → ∃ vs, k vs = some x ∧ ∀ (X : Nat → Prop) (N0 : Nat) (W0 : World) (ρ : Ren) (W : World) (a : Act), HR X N0 W0 ρ h W → EnvR ρ e a →
 ∃ vs', VRs ρ vs vs' ∧ (l.mapM (resOf a.tmps)).run P W = .ok vs' W
 | [], k, he => ⟨[], he, fun X N0 W0 ρ W a H E => ⟨[], .nil, by simp⟩⟩
 | .tmp t :: l, k, he => by
  obtain ⟨vs, hk, h1⟩ := takeRes_sound (l := l) he
  refine ⟨_, hk, fun X N0 W0 ρ W a H E => ?_⟩
  obtain ⟨vs', h2, h3⟩ := h1 X N0 W0 ρ W a H E
  refine ⟨a.tmps.getD t undef :: vs', .cons (E.2 t) h2, ?_⟩
  rw [List.mapM_cons]
  simp [resOf, h3, Result.andThen]
 | .cell a' t :: l, k, he => by
  unfold takeRes at he
  rw [opLoad_bind] at he
  obtain ⟨v, h1, he⟩ := Option.bind_eq_some_iff.1 he
  obtain ⟨vs, hk, h2⟩ := takeRes_sound (l := l) he
  refine ⟨_, hk, fun X N0 W0 ρ W a H E => ?_⟩
  obtain ⟨vs', h3, h4⟩ := h2 X N0 W0 ρ W a H E
  obtain ⟨v0, v', h5, h6, e0⟩ := opLoad_sound H (E.2 a') h1
  cases e0
  refine ⟨v' :: vs', .cons h6 h3, ?_⟩
  have hp : ∃ q, a.tmps.getD a' undef = .pointer (some q) := by
   have h7 := E.2 a'
   unfold opLoad at h1
   split at h1
   · rename_i b i o hq
     rw [hq] at h7
     generalize hw : a.eval (.tmp a') = w at h7
     cases h7
     exact ⟨_, hw⟩
   · cases h1
  obtain ⟨q, hq⟩ := hp
  have h5 : (Instr.loadAt t (a.tmps.getD a' undef)).run P W = .ok v' W := h5
  rw [hq] at h5
  have h8 : (loadVar t q).run P W = .ok v' W := by
   simpa [Instr.loadAt, Instr.sureAddr, asAddr, Result.andThen] using h5
  rw [List.mapM_cons]
  simp only [resOf, hq]
  simp [asAddr, h8, h4, Result.andThen]
def tupOf : List Value → Value
 | [v] => v
 | l => .tuple l.toArray
theorem results_run {fn : Func} {tmps : Array Value} {W : World} {vs : List Value} (h : (fn.results.toList.mapM (resOf tmps)).run P W = .ok vs W) : (results fn tmps).run P W = .ok (tupOf vs) W := by
 have e1 : results fn tmps = (do let vs ← fn.results.mapM (resOf tmps); pure (if h : vs.size = 1 then vs[0] else .tuple vs)) := by
  unfold results
  congr 1
 rw [e1, Array.mapM_eq_mapM_toList]
 simp only [Sem.run_bind, Sem.run_map, h, Result.andThen]
 match vs with
 | [] => simp [tupOf]
 | [v] => simp [tupOf]
 | v :: u :: l => simp [tupOf]
theorem single_sound {ρ : Ren} : ∀ {vs : List AV} {vs' : List Value}, VRs ρ vs vs' → VR ρ (single vs) (tupOf vs')
 | _, _, .nil => .tup .nil
 | _, _, .cons h .nil => h
 | _, _, .cons h (.cons h1 h2) => .tup (.cons h (.cons h1 h2))
theorem deads_get : ∀ (n t : Nat), envGet (deads n) t = .dead
 | 0, t => rfl
 | n + 1, 0 => rfl
 | n + 1, t + 1 => by simpa [deads, envGet] using deads_get n t
theorem deads_length : ∀ n, (deads n).length = n
 | 0 => rfl
 | n + 1 => by simp [deads, deads_length n]
theorem enter_env {ρ : Ren} {args : List AV} {args' : List Value} (h : VRs ρ args args') (n : Nat) : EnvR ρ (args ++ deads (n - args.length)) { tmps := args'.toArray ++ Array.replicate (n - args'.toArray.size) undef, defers := [] } := by
 refine ⟨by simp [deads_length, h.length], fun t => ?_⟩
 rcases Nat.lt_or_ge t args.length with ht | ht
 · have h1 : envGet (args ++ deads (n - args.length)) t = args[t] := by simp [envGet, List.getElem?_append_left ht, ht]
   obtain ⟨v', h2, h3⟩ := h.get (List.getElem?_eq_getElem ht)
   rw [h1]
   have ht' : t < args'.length := h.length ▸ ht
   have h4 : Act.eval { tmps := args'.toArray ++ Array.replicate (n - args'.toArray.size) undef, defers := [] } (.tmp t) = v' := by
    simp only [Act.eval, Array.getD_eq_getD_getElem?]
    rw [Array.getElem?_append_left (by simpa using ht')]
    simp [h2]
   rw [h4]
   exact h3
 · have h1 : envGet (args ++ deads (n - args.length)) t = .dead := by
    have := deads_get (n - args.length) (t - args.length)
    unfold envGet at this ⊢
    rw [List.getElem?_append_right ht]
    exact this
   rw [h1]
   exact .dead
theorem evIn_sound (hN : NoNum P) {run : FuncId → Code → St → (Ex → St → Option R) → Option R} {f : FuncId} (hrun : ∀ fn c, P.funcs[f]? = some fn → fn.body = some c → ∀ st (k : Ex → St → Option R) x, run f c st k = some x → ∃ ex st', k ex st' = some x ∧ CodeOK P c st ex st')
 {args : List AV} {h : Heap} {k : AV → Heap → Option R} (he : evIn P run f args h k = some x) : ∃ v h', k v h' = some x ∧ CallOK P f args h v h' := by
 unfold evIn at he
 split at he
 · cases he
 · rename_i fn hf
   split at he
   · cases he
   · rename_i c hb
     obtain ⟨ex, st', hk, hl, hc⟩ := hrun fn c hf hb _ _ _ he
     have fin : (exitOf ex = .normal ∨ exitOf ex = .ret) → (takeRes P st'.env st'.h fn.results.toList fun vs => k (single vs) st'.h) = some x → ∃ v h', k v h' = some x ∧ CallOK P f args h v h' := by
      intro hex ht
      obtain ⟨vs, hk, hres⟩ := takeRes_sound ht
      refine ⟨_, _, hk, hl, ⟨fn, hf, by rw [hb]; rfl, hN f fn hf (by rw [hb]; rfl)⟩, fun X N0 W0 ρ W args' H ha => calls_of_wp hf hb ?_⟩
      refine hc X N0 W0 ρ W _ ⟨H, enter_env ha fn.ntmps, rfl⟩ _ fun ρ' W' a' s g => ?_
      obtain ⟨vs', h1, h2⟩ := hres X N0 W0 ρ' W' a' s.1 s.2.1
      have : a'.defers = [] ∧ ∃ v, (results fn a'.tmps).run P W' = .ok v W' ∧ ∃ v' ρ', Ending.returned v = .returned v' ∧ HR X N0 W0 ρ' st'.h W' ∧ Agr h.length ρ ρ' ∧ VR ρ' (single vs) v' :=
       ⟨s.2.2, _, results_run h2, _, ρ', rfl, s.1, g, single_sound h1⟩
      rcases hex with e | e <;> rw [e] <;> exact this
     cases ex with
     | normal => exact fin (.inl rfl) hk
     | ret => exact fin (.inr rfl) hk
     | exit id => cases hk
     | goto l => cases hk
end
end Go.Abs
