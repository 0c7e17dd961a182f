/- Own: What is told anew at a loop's head. -/
import Derived.Test.YtmiajnodoigndaaGreatAbsO
namespace Go.Abs
open Go.RowKit
set_option linter.unusedVariables false
section
variable {X : Nat → Prop} {N0 : Nat} {W0 W : World} {ρ ρ' : Ren} {h : Heap}
theorem CellOK.ext {b : Nat} {c : Cell} {inf : BI} (ok : CellOK ρ W b c inf) (hx : Ext ρ ρ') : CellOK ρ' W b c inf := ok.keep hx (Nat.le_refl _) fun _ _ => rfl
theorem Ext_upd {n : Nat} (hd : ∀ b, n ≤ b → ρ b = none) (inf : BI) : Ext ρ (upd ρ n inf) := fun b i e => by
 rw [upd_other]
 · exact e
 · rintro rfl
   rw [hd b (Nat.le_refl _)] at e
   cases e
theorem CellOK.row1 {b o sz : Nat} {wr sl nn : Bool} {el : TypeId} {row : List AV} {u u2 : AV} {inf : BI} (ok : CellOK ρ W b ⟨wr, sl, nn, el, .gen sz [row]⟩ inf) (hu : row[o]? = some u) (hr : ∀ u', VR ρ u u' → VR ρ u2 u') : CellOK ρ W b ⟨wr, sl, nn, el, .gen sz [row.set o u2]⟩ inf := by
 have one : ∀ (i : Nat) (r : List AV), (Rows.list b (.gen sz [row.set o u2]))[i]? = some r → i = 0 ∧ r = row.set o u2 := by
  intro i r hi
  cases i with
  | zero => simp [Rows.list] at hi; exact ⟨rfl, hi.symm⟩
  | succ i => simp [Rows.list] at hi
 refine ⟨ok.sz, ok.ph, fun i r hi => ?_, fun i r j v hi hj => ?_, ok.wr, ok.sl, ok.nn, ok.own, fun l hl => by cases hl⟩
 · obtain ⟨rfl, rfl⟩ := one i r hi
   rw [List.length_set]
   exact ok.row 0 row rfl
 · obtain ⟨rfl, rfl⟩ := one i r hi
   rw [List.getElem?_set] at hj
   split at hj
   · rename_i hq
     subst hq
     split at hj
     · cases hj
       obtain ⟨u', h1, h2, h3⟩ := ok.cell 0 row o u rfl hu
       exact ⟨u', h1, hr u' h2, h3⟩
     · cases hj
   · exact ok.cell 0 row j v rfl hj
theorem HR.row1 (H : HR X N0 W0 ρ h W) {b o sz : Nat} {wr sl nn : Bool} {el : TypeId} {row : List AV} {u u2 : AV} (hc : cellAt h b = some ⟨wr, sl, nn, el, .gen sz [row]⟩) (hu : row[o]? = some u) (hr : ∀ u', VR ρ u u' → VR ρ u2 u') :
 HR X N0 W0 ρ (h.set b (some ⟨wr, sl, nn, el, .gen sz [row.set o u2]⟩)) W := by
 have hb := cellAt_lt hc
 refine H.re (fun b => b) (fun b' c' e => ?_) (fun _ _ _ _ _ _ _ _ _ hne _ _ _ _ => hne) (fun b' hb' => H.dom b' (by simpa using hb'))
 by_cases hq : b = b'
 · subst hq
   rw [cellAt_set_same hb] at e
   cases e
   obtain ⟨inf, h1, ok⟩ := H.ok b _ hc
   exact ⟨inf, h1, ok.row1 hu hr, .inr ⟨_, hc, h1, fun h => h, fun l hl => by cases hl⟩⟩
 · rw [cellAt_set_other hq] at e
   obtain ⟨inf, h1, ok⟩ := H.ok b' _ e
   exact ⟨inf, h1, ok, .inr ⟨_, e, h1, fun h => h, fun l hl => hl⟩⟩
def phant (c : TC) : BI := ⟨0, 0, width c, true, .slice none 0 0, fun _ => (none, 0, 0)⟩
theorem HR.phant (H : HR X N0 W0 ρ h W) (c : TC) (e : TypeId) : HR X N0 W0 (upd ρ h.length (phant c)) (h ++ [some ⟨true, true, false, e, .typ c []⟩]) W := by
 have hx := Ext_upd H.dom (Abs.phant c)
 refine H.re (fun b => b) (fun b' c' e' => ?_) (fun _ _ _ _ _ _ _ _ _ hne _ _ _ _ => hne) (fun b' hb' => ?_)
 · rcases Nat.lt_or_ge b' h.length with hb | hb
   · rw [cellAt_append_left hb] at e'
     obtain ⟨inf, h1, ok⟩ := H.ok b' _ e'
     exact ⟨inf, hx _ _ h1, ok.ext hx, .inr ⟨_, e', h1, fun h => h, fun l hl => hl⟩⟩
   · have hl := cellAt_lt e'
     simp at hl
     have : b' = h.length := by omega
     subst this
     rw [cellAt_new] at e'
     cases e'
     refine ⟨_, upd_same _ _ _, ⟨fun _ => rfl, fun _ => ⟨rfl, rfl⟩, fun i r hi => (by simp [Rows.list] at hi), fun i r j u hi => (by simp [Rows.list] at hi), fun _ h => (by cases h), fun _ => ⟨rfl, none, 0, rfl, Nat.le_refl _, fun h => (by cases h)⟩, fun _ h => (by cases h), fun _ _ _ => .inl ⟨rfl, none, rfl⟩, fun l hl => (by cases hl)⟩, .inl ⟨rfl, fun l hl => by cases hl⟩⟩
 · simp at hb'
   rw [upd_other (by omega)]
   exact H.dom b' (by omega)
theorem CellOK.move {b n : Nat} {c : Cell} {inf : BI} (ok : CellOK ρ W b c inf) (hx : Ext ρ ρ') (hb : ρ b = some inf) (hn : ρ' n = some inf) : CellOK ρ' W n c inf := by
 have ok' := ok.ext hx
 cases hr : c.rows with
 | ops l =>
  have e1 : ∀ b, c.rows.list b = opsRows b 0 l := fun b => by rw [hr]; rfl
  refine ⟨ok'.sz, ok'.ph, fun i row hi => ?_, fun i row j u hi hj => ?_, ok'.wr, ok'.sl, ok'.nn, ok'.own, ok'.mp⟩
  · rw [e1, opsRows_get] at hi
    obtain ⟨y, h1, rfl⟩ := Option.map_eq_some_iff.1 hi
    have := ok.row i (OpD.row y b (0 + i)) (by rw [e1, opsRows_get, h1]; rfl)
    simpa [OpD.row] using this
  · rw [e1, opsRows_get] at hi
    obtain ⟨y, h1, rfl⟩ := Option.map_eq_some_iff.1 hi
    have key := ok.cell i (OpD.row y b (0 + i)) j
    have hold : (c.rows.list b)[i]? = some (OpD.row y b (0 + i)) := by rw [e1, opsRows_get, h1]; rfl
    rcases Nat.lt_or_ge j 13 with hj13 | hj13
    · have : (OpD.row y b (0 + i))[j]? = (OpD.row y n (0 + i))[j]? := by
       unfold OpD.row
       match j, hj13 with
       | 0, _ => rfl | 1, _ => rfl | 2, _ => rfl | 3, _ => rfl | 4, _ => rfl | 5, _ => rfl | 6, _ => rfl | 7, _ => rfl | 8, _ => rfl | 9, _ => rfl | 10, _ => rfl | 11, _ => rfl | 12, _ => rfl
      obtain ⟨u', k1, k2, k3⟩ := key u hold (this.trans hj)
      exact ⟨u', k1, k2.mono hx, k3⟩
    · have hl := (List.getElem?_eq_some_iff.1 hj).1
      simp [OpD.row] at hl
      have : j = 13 := by omega
      subst this
      have hu : u = .inn n (0 + i) := by simpa [OpD.row] using hj.symm
      subst hu
      obtain ⟨u', k1, k2, k3⟩ := key (.inn b (0 + i)) hold rfl
      refine ⟨u', k1, ?_, k3⟩
      cases k2 with | inn h2 =>
      rw [hb] at h2
      cases h2
      exact .inn hn
 | _ =>
  refine ⟨ok'.sz, ok'.ph, fun i row hi => ok'.row i row ?_, fun i row j u hi hj => ok'.cell i row j u ?_ hj, ok'.wr, ok'.sl, ok'.nn, ok'.own, ok'.mp⟩ <;> (rw [hr] at hi ⊢; exact hi)
theorem HR.moveB (H : HR X N0 W0 ρ h W) {b : Nat} {c c' : Cell} {inf : BI} (hc : cellAt h b = some c) (hi : ρ b = some inf) (hwr : c'.wr = true → c.wr = true) (hro : ∀ l, c'.rows = .ops l → c.rows = .ops l) (hok : CellOK (upd ρ h.length inf) W h.length c' inf) (h0 : Heap)
 (h0' : h0 = h.set b none ∨ (h0 = h ∧ c'.wr = false ∧ c.wr = false)) : HR X N0 W0 (upd ρ h.length inf) (h0 ++ [some c']) W := by
 have hx := Ext_upd H.dom inf
 have hb := cellAt_lt hc
 have hl0 : h0.length = h.length := by rcases h0' with rfl | ⟨rfl, _⟩ <;> simp
 have old : ∀ b' c2, cellAt (h0 ++ [some c']) b' = some c2 → (b' = h.length ∧ c2 = c') ∨ (b' < h.length ∧ cellAt h b' = some c2 ∧ (h0 = h.set b none → b' ≠ b)) := by
  intro b' c2 e
  rcases Nat.lt_or_ge b' h.length with hb' | hb'
  · rw [cellAt_append_left (by omega)] at e
    rcases h0' with rfl | ⟨rfl, _⟩
    · obtain ⟨h1, h2⟩ := kill_old e
      exact .inr ⟨hb', h2, fun _ e => h1 e.symm⟩
    · refine .inr ⟨hb', e, fun hh => ?_⟩
      rintro rfl
      rw [hh, cellAt_set_same hb] at e
      cases e
  · have hl := cellAt_lt e
    simp at hl
    have : b' = h.length := by omega
    subst this
    rw [cellAt_append_right (by omega), hl0, Nat.sub_self] at e
    cases e
    exact .inl ⟨rfl, rfl⟩
 refine H.re (fun b' => if b' = h.length then b else b') (fun b' c2 e => ?_) (fun b1 c1 b2 c2 i1 i2 e1 e2 hw hne r1 r2 p1 p2 => ?_) (fun b' hb' => ?_)
 · rcases old b' c2 e with ⟨rfl, rfl⟩ | ⟨h1, h2, _⟩
   · exact ⟨inf, upd_same _ _ _, hok, .inr ⟨c, by simpa using hc, by simpa using hi, hwr, hro⟩⟩
   · obtain ⟨inf', h3, ok⟩ := H.ok b' _ h2
     have : ¬ b' = h.length := by omega
     exact ⟨inf', hx _ _ h3, ok.ext hx, .inr ⟨c2, by simpa [this] using h2, by simpa [this] using h3, fun h => h, fun l hl => hl⟩⟩
 · rcases old b1 c1 e1 with ⟨rfl, rfl⟩ | ⟨h1, h2, h3⟩ <;> rcases old b2 c2 e2 with ⟨rfl, rfl⟩ | ⟨k1, k2, k3⟩
   · exact absurd rfl hne
   · have : ¬ b2 = h.length := by omega
     simp only [if_true, this, if_false]
     rcases h0' with h0' | ⟨_, h0', _⟩
     · exact fun e => k3 h0' e.symm
     · rw [h0'] at hw; cases hw
   · have : ¬ b1 = h.length := by omega
     simp only [if_true, this, if_false]
     rcases h0' with h0' | ⟨_, _, h0'⟩
     · exact fun e => h3 h0' e
     · intro e
       subst e
       rw [hc] at h2
       cases h2
       rw [h0'] at hw
       cases hw
   · have n1 : ¬ b1 = h.length := by omega
     have n2 : ¬ b2 = h.length := by omega
     simp only [n1, n2, if_false]
     exact hne
 · simp [hl0] at hb'
   rw [upd_other (by omega)]
   exact H.dom b' (by omega)
theorem EnvR.setV {e : List AV} {a : Act} (E : EnvR ρ e a) {t : Nat} {v : AV} (h : ∀ v', VR ρ (envGet e t) v' → VR ρ v v') : EnvR ρ (e.set t v) a := by
 refine ⟨by simp [E.1], fun t' => ?_⟩
 rw [envGet_set]
 split
 · rename_i hq
   rw [hq.1]
   exact h _ (E.2 t)
 · exact E.2 t'
theorem whole_lim {b n : Nat} {c : Cell} {v' : Value} (H : HR X N0 W0 ρ h W) (hc : cellAt h b = some c) (hs : c.sl = true) (hn : c.rows.len = n) (hv : VR ρ (.whole b) v') : VR ρ (.lim b 0 n) v' ∧ VR ρ (.part b 0 n) v' := by
 obtain ⟨inf, hi, ok⟩ := H.ok b c hc
 obtain ⟨_, A, cap, h1, h2, h3⟩ := ok.sl hs
 cases hv with | whole hi' hv' =>
 rw [hi] at hi'
 cases hi'
 rw [h1] at hv'
 cases hv'
 subst hn
 refine ⟨.lim hi h2 (fun h => by rw [h3 h]; simp) (fun _ => ⟨A, _, cap, h1, by omega⟩), .part hi h2 ⟨A, c.rows.len, cap, h1, by omega, fun _ => ?_, by omega, fun _ => rfl⟩ fun h => by rw [h3 h]; simp⟩
 cases A with
 | none => rfl
 | some q => simp [Addr.add]
end
section
variable {P : Program} {K : Kinds}
theorem fx1_sound (x : Fx) (st : St) : Same st.h.length st (fx1 P K x st) := by
 have stay : Same st.h.length st st := Same.refl (Nat.le_refl _)
 cases x with
 | nilT t e =>
  unfold fx1
  dsimp only
  split
  · rename_i ht
    split
    · rename_i c s hc hs
      cases hw : Nat.beq (width c) s with
      | false => exact stay
      | true =>
       refine ⟨by simp, fun X N0 W0 ρ W a hS => ⟨upd ρ st.h.length (phant c), ⟨hS.1.phant c e, ?_, hS.2.2⟩, agr_upd _ _⟩⟩
       refine (hS.2.1.mono (Ext_upd hS.1.dom _)).setV fun v' hv => ?_
       rw [ht] at hv
       cases hv
       exact .whole (upd_same _ _ _) rfl
    · exact stay
  · exact stay
 | nilC b o e =>
  unfold fx1
  dsimp only
  split
  · rename_i wr sl nn el sz row hb
    split
    · rename_i c s hro hc hs
      cases hw : Nat.beq (width c) s with
      | false => exact stay
      | true =>
       have hbl := cellAt_lt hb
       refine ⟨by simp, fun X N0 W0 ρ W a hS => ⟨upd ρ st.h.length (phant c), ⟨?_, hS.2.1.mono (Ext_upd hS.1.dom _), hS.2.2⟩, agr_upd _ _⟩⟩
       have h1 := hS.1.phant c e
       have h2 := h1.row1 (b := b) (o := o) (u2 := .whole st.h.length) (by rw [cellAt_append_left hbl]; exact hb) hro (fun u' hu => by cases hu; exact .whole (upd_same _ _ _) rfl)
       rwa [List.set_append_left _ _ hbl] at h2
    · exact stay
  · exact stay
 | view t =>
  unfold fx1
  dsimp only
  split
  · rename_i b ht
    split
    · rename_i wr nn e c r hb
      refine ⟨by cases wr <;> simp, fun X N0 W0 ρ W a hS => ?_⟩
      obtain ⟨inf, hi, ok⟩ := hS.1.ok b _ hb
      have hx := Ext_upd hS.1.dom inf
      refine ⟨upd ρ st.h.length inf, ⟨hS.1.moveB hb hi (c' := ⟨false, true, false, 0, .typ c r⟩) (fun h => by cases h) (fun l hl => by cases hl) ?_ _ ?_, (hS.2.1.mono hx).setV fun v' hv => ?_, hS.2.2⟩, agr_upd _ _⟩
      · have := ok.move hx hi (upd_same ρ st.h.length inf)
        exact ⟨this.sz, this.ph, this.row, this.cell, (fun h => by cases h), this.sl, (fun _ h => by cases h), (fun h => by cases h), (fun l hl => by cases hl)⟩
      · cases wr with
        | true => exact .inl rfl
        | false => exact .inr ⟨rfl, rfl, rfl⟩
      · rw [ht] at hv
        cases hv with | whole h1 h2 =>
        rw [hx b inf hi] at h1
        cases h1
        exact .whole (upd_same _ _ _) h2
    · exact stay
  · exact stay
 | mvT t =>
  unfold fx1
  dsimp only
  split
  · rename_i b ht
    split
    · rename_i c hb
      refine ⟨by simp, fun X N0 W0 ρ W a hS => ?_⟩
      obtain ⟨inf, hi, ok⟩ := hS.1.ok b _ hb
      have hx := Ext_upd hS.1.dom inf
      refine ⟨upd ρ st.h.length inf, ⟨hS.1.moveB hb hi (fun h => h) (fun l hl => hl) (ok.move hx hi (upd_same ρ st.h.length inf)) _ (.inl rfl), (hS.2.1.mono hx).setV fun v' hv => ?_, hS.2.2⟩, agr_upd _ _⟩
      rw [ht] at hv
      cases hv with | whole h1 h2 =>
      rw [hx b inf hi] at h1
      cases h1
      exact .whole (upd_same _ _ _) h2
    · exact stay
  · exact stay
 | mvC b o =>
  unfold fx1
  dsimp only
  split
  · rename_i wr sl nn el sz row hb
    split
    · rename_i b' hro
      split
      · rename_i c hb' hne
        have hbl := cellAt_lt hb
        have hne : b ≠ b' := fun e => by subst e; simp at hne
        refine ⟨by simp, fun X N0 W0 ρ W a hS => ?_⟩
        obtain ⟨inf, hi, ok⟩ := hS.1.ok b' _ hb'
        have hx := Ext_upd hS.1.dom inf
        refine ⟨upd ρ st.h.length inf, ⟨?_, hS.2.1.mono hx, hS.2.2⟩, agr_upd _ _⟩
        have h1 := hS.1.moveB hb' hi (fun h => h) (fun l hl => hl) (ok.move hx hi (upd_same ρ st.h.length inf)) _ (.inl rfl)
        have h2 := h1.row1 (b := b) (o := o) (u2 := .whole st.h.length) (by rw [cellAt_append_left (by simpa using hbl), cellAt_set_other (Ne.symm hne)]; exact hb) hro (fun u' hu => by
         cases hu with | whole h3 h4 =>
         rw [hx b' inf hi] at h3
         cases h3
         exact .whole (upd_same _ _ _) h4)
        rw [List.set_append_left _ _ (by simpa using hbl)] at h2
        rwa [List.set_comm _ _ hne]
      · exact stay
    · exact stay
  · exact stay
 | limT t b0 =>
  unfold fx1
  dsimp only
  split
  · rename_i b ht
    split
    · rename_i wr nn e c r hb
      refine ⟨Nat.le_refl _, fun X N0 W0 ρ W a hS => ⟨ρ, ⟨hS.1, hS.2.1.setV fun v' hv => ?_, hS.2.2⟩, Agr.refl _ _⟩⟩
      rw [ht] at hv
      exact (whole_lim hS.1 hb rfl rfl hv).1
    · exact stay
  · rename_i ht
    split
    · rename_i c hb
      refine ⟨Nat.le_refl _, fun X N0 W0 ρ W a hS => ⟨ρ, ⟨hS.1, hS.2.1.setV fun v' hv => ?_, hS.2.2⟩, Agr.refl _ _⟩⟩
      rw [ht] at hv
      cases hv
      obtain ⟨inf, hi, ok⟩ := hS.1.ok b0 _ hb
      exact .lim hi (Nat.le_refl _) (fun h => by cases h) (fun h => by cases h)
    · exact stay
  · exact stay
 | partC b o =>
  unfold fx1
  dsimp only
  split
  · rename_i wr sl nn el sz row hb
    split
    · rename_i b' hro
      split
      · rename_i wr' nn' e' c' r hb'
        refine ⟨by simp, fun X N0 W0 ρ W a hS => ⟨ρ, ⟨hS.1.row1 hb hro fun u' hu => (whole_lim hS.1 hb' rfl rfl hu).2, hS.2⟩, Agr.refl _ _⟩⟩
      · exact stay
    · exact stay
  · exact stay
theorem fxs_sound : ∀ (l : List Fx) (st : St), Same st.h.length st (fxs P K l st)
 | [], st => Same.refl (Nat.le_refl _)
 | x :: l, st => (fx1_sound x st).trans ((fxs_sound l (fx1 P K x st)).mono (fx1_sound x st).1)
theorem headL_sound (a : LAnn) {n0 : Nat} {st : St} (hn : n0 ≤ st.h.length) : Same n0 st (headL P K a n0 st) := by
 unfold headL
 have h1 := fxs_sound (P := P) (K := K) a.fx st
 exact (h1.mono hn).trans (gcL_sound a.live (Nat.le_trans hn h1.1))
end
end Go.Abs
