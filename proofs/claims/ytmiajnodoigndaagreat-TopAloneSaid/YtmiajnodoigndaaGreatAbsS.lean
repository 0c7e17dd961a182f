/- Own: Tables of loops. -/
import Derived.Test.YtmiajnodoigndaaGreatAbsR
namespace Go.Abs
open Go.RowKit
set_option linter.unusedVariables false
section
variable {R : Type} {x : R}
theorem beq_eq {a b : Nat} (h : Nat.beq a b = true) : a = b := Nat.eq_of_beq_eq_true h
theorem natL_some : ∀ {cs : List Nat} {vs : List AV}, natL cs vs = true → vs = cs.map fun b => .ptr b 0 0
 | [], [], _ => rfl
 | b :: l, .ptr b' 0 0 :: vs, h => by
  simp only [natL, Bool.and_eq_true] at h
  rw [beq_eq h.1, natL_some h.2]
  rfl
 | [], _ :: _, h => by simp [natL] at h
 | _ :: _, [], h => by simp [natL] at h
 | _ :: _, .ptr _ 0 (_ + 1) :: _, h => by simp [natL] at h
 | _ :: _, .ptr _ (_ + 1) _ :: _, h => by simp [natL] at h
 | _ :: _, .bool _ :: _, h => by simp [natL] at h
 | _ :: _, .int _ _ :: _, h => by simp [natL] at h
 | _ :: _, .whole _ :: _, h => by simp [natL] at h
 | _ :: _, .part _ _ _ :: _, h => by simp [natL] at h
 | _ :: _, .lim _ _ _ :: _, h => by simp [natL] at h
 | _ :: _, .inn _ _ :: _, h => by simp [natL] at h
 | _ :: _, .arr _ _ _ _ :: _, h => by simp [natL] at h
 | _ :: _, .nils :: _, h => by simp [natL] at h
 | _ :: _, .nilp :: _, h => by simp [natL] at h
 | _ :: _, .fn _ _ _ :: _, h => by simp [natL] at h
 | _ :: _, .nilfn :: _, h => by simp [natL] at h
 | _ :: _, .iface _ _ :: _, h => by simp [natL] at h
 | _ :: _, .nilif :: _, h => by simp [natL] at h
 | _ :: _, .mapv _ :: _, h => by simp [natL] at h
 | _ :: _, .agg _ :: _, h => by simp [natL] at h
 | _ :: _, .tup _ :: _, h => by simp [natL] at h
 | _ :: _, .dead :: _, h => by simp [natL] at h
theorem readV_some {T : Type} {p : PV} {v : AV} {k : (T → p.D T) → Option R} (h : readV p v k = some x) : ∃ g, k g = some x ∧ ∀ t, layV p (g t) = (v, t) := by
 unfold readV at h
 simp only [cond_eq_ite] at h
 split at h
 · exact ⟨_, h, fun t => rfl⟩
 · exact ⟨_, h, fun t => rfl⟩
 · exact ⟨_, h, fun t => rfl⟩
 · split at h
   · rename_i hq
     simp only [Bool.and_eq_true] at hq
     exact ⟨_, h, fun t => by rw [beq_eq hq.1.1, beq_eq hq.1.2, beq_eq hq.2]; rfl⟩
   · cases h
 · split at h
   · rename_i hq
     exact ⟨_, h, fun t => by rw [beq_eq hq]; rfl⟩
   · cases h
 · split at h
   · rename_i hq
     exact ⟨_, h, fun t => by rw [beq_eq hq]; rfl⟩
   · cases h
 · split at h
   · rename_i hq
     exact ⟨_, h, fun t => by rw [beq_eq hq]; rfl⟩
   · cases h
 · exact ⟨_, h, fun t => rfl⟩
 · exact ⟨_, h, fun t => rfl⟩
 · exact ⟨_, h, fun t => rfl⟩
 · exact ⟨_, h, fun t => rfl⟩
 · split at h
   · rename_i hq
     simp only [Bool.and_eq_true] at hq
     exact ⟨_, h, fun t => by rw [beq_eq hq.1, natL_some hq.2]; rfl⟩
   · cases h
 · split at h
   · rename_i hq
     exact ⟨_, h, fun t => by rw [beq_eq hq]; rfl⟩
   · cases h
 · exact ⟨_, h, fun t => rfl⟩
 · cases h
theorem readVs_some {T : Type} : ∀ {p : List PV} {vs : List AV} {k : (T → Dvs T p) → Option R}, readVs p vs k = some x → ∃ g, k g = some x ∧ ∀ t, layVs p (g t) = (vs, t)
 | [], [], k, h => ⟨_, h, fun t => rfl⟩
 | p :: l, v :: vs, k, h => by
  unfold readVs at h
  obtain ⟨f, h1, hf⟩ := readV_some h
  obtain ⟨g, h2, hg⟩ := readVs_some h1
  exact ⟨_, h2, fun t => by
   show ((layV p (f (g t))).1 :: (layVs l (layV p (f (g t))).2).1, (layVs l (layV p (f (g t))).2).2) = _
   rw [hf, hg]⟩
 | [], _ :: _, k, h => by cases h
 | _ :: _, [], k, h => by cases h
theorem readRs_some {T : Type} : ∀ {p : List (List PV)} {vs : List (List AV)} {k : (T → Drs T p) → Option R}, readRs p vs k = some x → ∃ g, k g = some x ∧ ∀ t, layRs p (g t) = (vs, t)
 | [], [], k, h => ⟨_, h, fun t => rfl⟩
 | p :: l, v :: vs, k, h => by
  unfold readRs at h
  obtain ⟨f, h1, hf⟩ := readVs_some h
  obtain ⟨g, h2, hg⟩ := readRs_some h1
  exact ⟨_, h2, fun t => by
   show ((layVs p (f (g t))).1 :: (layRs l (layVs p (f (g t))).2).1, (layRs l (layVs p (f (g t))).2).2) = _
   rw [hf, hg]⟩
 | [], _ :: _, k, h => by cases h
 | _ :: _, [], k, h => by cases h
theorem eqB_eq {a b : Bool} (h : eqB a b = true) : a = b := by cases a <;> cases b <;> first | rfl | cases h
theorem readCell_some {T : Type} {p : PCell} {c : Option Cell} {k : (T → p.D T) → Option R} (h : readCell p c k = some x) : ∃ g, k g = some x ∧ ∀ t, layCell p (g t) = (c, t) := by
 unfold readCell at h
 simp only [cond_eq_ite] at h
 split at h
 · exact ⟨_, h, fun t => rfl⟩
 · split at h
   · rename_i hq
     simp only [Bool.and_eq_true] at hq
     split at h
     · rename_i hc
       subst hc
       exact ⟨_, h, fun t => by rw [eqB_eq hq.1.1.1, eqB_eq hq.1.1.2, eqB_eq hq.1.2, beq_eq hq.2]; rfl⟩
     · cases h
   · cases h
 · split at h
   · rename_i hq
     simp only [Bool.and_eq_true] at hq
     split at h
     · rename_i hc
       subst hc
       exact ⟨_, h, fun t => by rw [eqB_eq hq.1, eqB_eq hq.2]; rfl⟩
     · cases h
   · cases h
 · exact ⟨_, h, fun t => rfl⟩
 · split at h
   · rename_i hq
     simp only [Bool.and_eq_true] at hq
     obtain ⟨g, h1, hg⟩ := readRs_some h
     exact ⟨g, h1, fun t => by unfold layCell; simp only [hg]; rw [eqB_eq hq.1.1.1.1, eqB_eq hq.1.1.1.2, eqB_eq hq.1.1.2, beq_eq hq.1.2, beq_eq hq.2]⟩
   · cases h
 · cases h
theorem readH_some : ∀ {p : List PCell} {h : Heap} {k : Dh p → Option R}, readH p h k = some x → ∃ d, k d = some x ∧ layH p d = h
 | [], [], k, h => ⟨_, h, rfl⟩
 | p :: l, c :: cs, k, h => by
  unfold readH at h
  obtain ⟨f, h1, hf⟩ := readCell_some h
  obtain ⟨d, h2, hd⟩ := readH_some h1
  exact ⟨_, h2, by
   show (layCell p (f d)).1 :: layH l (layCell p (f d)).2 = _
   rw [hf, hd]⟩
 | [], _ :: _, k, h => by cases h
 | _ :: _, [], k, h => by cases h
theorem unEnv_some {live : List Nat} : ∀ {l : List AV} {i : Nat} {vs : List AV}, unEnv live i l = some vs → mkEnv live i l.length vs = l
 | [], i, vs, h => rfl
 | v :: l, i, vs, h => by
  unfold unEnv at h
  simp only [List.length_cons, mkEnv]
  cases hm : memB i live with
  | true =>
   rw [hm] at h
   simp only [cond_true] at h ⊢
   split at h
   · rename_i vs' hv
     cases h
     simp only [unEnv_some hv]
   · cases h
  | false =>
   rw [hm] at h
   simp only [cond_false] at h ⊢
   split at h
   · rw [unEnv_some h]
   · cases h
theorem readS_some {p : PSt} {st : St} {k : p.D → Option R} (h : readS p st k = some x) : ∃ d, k d = some x ∧ layS p d = st := by
 unfold readS at h
 cases hq : Nat.beq st.env.length p.nt with
 | false => rw [hq] at h; cases h
 | true =>
  rw [hq] at h
  simp only [cond_true] at h
  split at h
  · rename_i vs hv
    obtain ⟨f, h1, hf⟩ := readVs_some h
    obtain ⟨y, h2, hy⟩ := readH_some h1
    refine ⟨_, h2, ?_⟩
    unfold layS
    rw [hf, hy, ← beq_eq hq, unEnv_some hv]
  · cases h
end
theorem marks_marks : ∀ (c : Code) (y : Nat × Bool × Code), y ∈ marks c → ∀ z ∈ marks y.2.2, z ∈ marks c
 | .seq a b, y, hy, z, hz => by
  simp only [marks, List.mem_append] at hy ⊢
  exact hy.imp (fun h => marks_marks a y h z hz) (fun h => marks_marks b y h z hz)
 | .cond _ a b, y, hy, z, hz => by
  simp only [marks, List.mem_append] at hy ⊢
  exact hy.imp (fun h => marks_marks a y h z hz) (fun h => marks_marks b y h z hz)
 | .block _ c, y, hy, z, hz => by
  simp only [marks] at hy ⊢
  exact marks_marks c y hy z hz
 | .loop c, y, hy, z, hz => by
  simp only [marks, List.mem_cons] at hy ⊢
  rcases hy with rfl | hy
  · exact .inr hz
  · exact .inr (marks_marks c y hy z hz)
 | .scope c, y, hy, z, hz => by
  simp only [marks, List.mem_append] at hy ⊢
  rcases hy with hy | hy
  · split at hy
    · rename_i r hr
      simp only [List.mem_singleton] at hy
      subst hy
      exact .inr (marks_rest c 0 r hr z hz)
    · simp at hy
  · exact .inr (marks_marks c y hy z hz)
 | .skip, y, hy, _, _ => by simp [marks] at hy
 | .region .., y, hy, _, _ => by simp [marks] at hy
 | .rangeFunc .., y, hy, _, _ => by simp [marks] at hy
 | .exit _, y, hy, _, _ => by simp [marks] at hy
 | .goto _, y, hy, _, _ => by simp [marks] at hy
 | .label _, y, hy, _, _ => by simp [marks] at hy
 | .ret, y, hy, _, _ => by simp [marks] at hy
 | .refuse _, y, hy, _, _ => by simp [marks] at hy
def idsOf (P : Program) (f : FuncId) (j : Bool) : List Nat := ((bodyMarks P f).filter fun y => y.2.1 == j).map (·.1)
theorem idsOf_some {P : Program} {f id : Nat} {j : Bool} (h : memB id (idsOf P f j) = true) : ∃ y ∈ bodyMarks P f, y.1 = id ∧ y.2.1 = j := by
 obtain ⟨y, h1, h2⟩ := List.mem_map.1 (memB_iff.1 h)
 obtain ⟨h3, h4⟩ := List.mem_filter.1 h1
 exact ⟨y, h3, h2, by simpa using h4⟩
theorem bodyMarks_sub {P : Program} {f : FuncId} {y : Nat × Bool × Code} (hy : y ∈ bodyMarks P f) : ∀ z ∈ marks y.2.2, z ∈ bodyMarks P f := by
 unfold bodyMarks at hy ⊢
 split at hy
 · rename_i fn hf
   split at hy
   · rename_i c hb
     exact marks_marks c y hy
   · simp at hy
 · simp at hy
section
variable {P : Program} {K : Kinds} {R : Type} {x : R}
theorem LOrcOK.add {orc : Orc R} {lorc : LOrc R} (G : Ground P K) (hC : OrcOK P orc) (hL : LOrcOK P K lorc) {D f0 id0 n00 n : Nat} {ps : PSt} {L : ps.D → (Ex → St → Option R) → Option R} (hid : memB id0 (idsOf P f0 false) = true)
 (hit : ∀ d k, iter (ev P K orc lorc D f0 (loopOf P f0 id0)) (headL P K (K.ann f0 id0) n00) (gcL (K.ann f0 id0).out n00) n (layS ps d) k = L d k) {rest : LOrc R} (hR : LOrcOK P K rest) :
 LOrcOK P K fun f id n0 st k => bif Nat.beq f f0 && (Nat.beq id id0 && Nat.beq n0 n00) then readS ps st fun d => L d k else rest f id n0 st k := by
 intro f id n0 st k x he hn
 dsimp only at he
 cases hq : (Nat.beq f f0 && (Nat.beq id id0 && Nat.beq n0 n00)) with
 | false => rw [hq] at he; exact hR f id n0 st k x he hn
 | true =>
  rw [hq] at he
  simp only [Bool.and_eq_true] at hq
  have e1 := beq_eq hq.1
  have e2 := beq_eq hq.2.1
  have e3 := beq_eq hq.2.2
  subst e1 e2 e3
  obtain ⟨d, h1, h2⟩ := readS_some (show readS ps st (fun d => L d k) = some x from he)
  rw [← hit, h2] at h1
  obtain ⟨y, hy, hy1, hy2⟩ := idsOf_some hid
  have hbody := loopOf_mark (G.good f) hy
  rw [hy1] at hbody
  obtain ⟨ex, st', k1, k2, k3⟩ := iter_sound (c := loopOf P f id) (fun st k x he => ev_sound G hC hL D f _ st k x (by rw [hbody]; exact bodyMarks_sub hy) he) (fun st hn => headL_sound _ hn) (fun st hn => gcL_sound _ hn) _ _ k hn h1
  refine ⟨ex, st', k1, k2, fun _ => k3, fun ⟨z, hz, hz1, hz2⟩ => ?_⟩
  have := mark_unique (G.good f) hy hz (hy1.trans hz1.symm)
  rw [this, hz2] at hy2
  cases hy2
theorem LOrcOK.addJ {orc : Orc R} {lorc : LOrc R} (G : Ground P K) (hC : OrcOK P orc) (hL : LOrcOK P K lorc) {D f0 id0 n00 n : Nat} {ps : PSt} {L : ps.D → (Ex → St → Option R) → Option R} (hid : memB id0 (idsOf P f0 true) = true)
 (hit : ∀ d k, iterJ 0 (ev P K orc lorc D f0 (loopOf P f0 id0)) (headL P K (K.ann f0 id0) n00) (gcL (K.ann f0 id0).out n00) n (layS ps d) k = L d k) {rest : LOrc R} (hR : LOrcOK P K rest) :
 LOrcOK P K fun f id n0 st k => bif Nat.beq f f0 && (Nat.beq id id0 && Nat.beq n0 n00) then readS ps st fun d => L d k else rest f id n0 st k := by
 intro f id n0 st k x he hn
 dsimp only at he
 cases hq : (Nat.beq f f0 && (Nat.beq id id0 && Nat.beq n0 n00)) with
 | false => rw [hq] at he; exact hR f id n0 st k x he hn
 | true =>
  rw [hq] at he
  simp only [Bool.and_eq_true] at hq
  have e1 := beq_eq hq.1
  have e2 := beq_eq hq.2.1
  have e3 := beq_eq hq.2.2
  subst e1 e2 e3
  obtain ⟨d, h1, h2⟩ := readS_some (show readS ps st (fun d => L d k) = some x from he)
  rw [← hit, h2] at h1
  obtain ⟨y, hy, hy1, hy2⟩ := idsOf_some hid
  have hbody := loopOf_mark (G.good f) hy
  rw [hy1] at hbody
  obtain ⟨ex, st', k1, k2, k3⟩ := iterJ_sound (c := loopOf P f id) (fun st k x he => ev_sound G hC hL D f _ st k x (by rw [hbody]; exact bodyMarks_sub hy) he) (fun st hn => headL_sound _ hn) (fun st hn => gcL_sound _ hn) _ _ k hn h1
  exact ⟨ex, st', k1, k2, fun hj => absurd ⟨y, hy, hy1, hy2⟩ hj, fun _ => k3⟩
end
end Go.Abs
