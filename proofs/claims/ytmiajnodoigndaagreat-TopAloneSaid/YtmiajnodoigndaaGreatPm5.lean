/- Own: the plain law, part 5. -/
import Derived.Test.YtmiajnodoigndaaGreatPm4
section
namespace Go.Abs
set_option linter.unusedVariables false
set_option linter.unusedSimpArgs false
theorem F54_ok {now : Int} {T T1 : List Task} {A : List Ape} {cur : Int} (hw : WOK now T A cur) (hT : TasksOK T now) (hlim : ¬ now = 274877906944) {d : List Int} {begun : List Int} (e76 : F76 fuel now T A cur d = some ((now, T1, A, cur), begun)) (h1 : Mid (now + 1) T1) :
 ∃ T' A' cur' band id f missed gone, F54 now T A cur d = some ((now + 1, T', A', cur'), (now, band, id, f, begun, missed, gone), true) ∧ TasksOK T' (now + 1) ∧ (∀ t ∈ T', t.N ≤ t.At) ∧ WOK (now + 1) T' A' cur' ∧ (∀ a ∈ A', ∃ b ∈ A, b.ID = a.ID) ∧
  T'.map coreT = (runCore (T1.map coreT) (v128 (T1.map F91))).map (endT (now + 1)) ∧ (band = 1 → ∃ (i : Nat) (h : i < T1.length), v128 (T1.map F91) = i ∧ id = T1[i].ID) ∧ (¬ band = 1 → v128 (T1.map F91) = -1) := by
 have lT : T.length ≤ 100000 := by have := hT.len; omega
 have lA : A.length ≤ 100000 := by have := hw.apes.len; omega
 have hn := hw.now_
 obtain ⟨b, e55, k⟩ := F55_iff (T := T) hw.apes hw.now_ hw.cur_ lT
 rw [k.2 hT] at e55
 have hnw : wI (now + 1) = now + 1 := wI_eq (by omega) (by omega)
 obtain ⟨band, id, gone, e77, hg, who⟩ := F77_ok (T := T1) h1.len hw.apes (now := now) ⟨by omega, by omega⟩ cur
 have e78 := F78_eq (A := A) lA (g := gone) (by omega)
 have fin : ∀ c, -1 ≤ c ∧ c ≤ 549755813888 → (band = 2 → c = id) →
  ∃ T' A' cur' f missed, (match (F82 now T1 (A.filter fun a => !inG gone a.ID) c band id) with
   | some r15 => (match (F83 fuel (wI (r15.1.1 + 1)) r15.1.2.1 r15.1.2.2.1 r15.1.2.2.2) with
    | some r16 => some ((r16.1.1, r16.1.2.1, r16.1.2.2.1, r16.1.2.2.2), (now, band, id, r15.2, begun, r16.2, gone), true)
    | none => none)
   | none => none) = some ((now + 1, T', A', cur'), (now, band, id, f, begun, missed, gone), true) ∧ TasksOK T' (now + 1) ∧ (∀ t ∈ T', t.N ≤ t.At) ∧ WOK (now + 1) T' A' cur' ∧ (∀ a ∈ A', ∃ b ∈ A, b.ID = a.ID) ∧
    T'.map coreT = (runCore (T1.map coreT) (v128 (T1.map F91))).map (endT (now + 1)) := fun c hc hband => by
  obtain ⟨T2, A2, c2, f, e82, r⟩ := F82_ok (now := now) h1 hw.apes hc who hband
  obtain ⟨T3, ms, e83, t1, t2, t3⟩ := F83_ok r.mid (A := A2) (by have := r.apes.len; omega) c2
  rw [e82]
  simp only [hnw, e83]
  exact ⟨T3, A2, c2, f, ms, rfl, t1, t2, ⟨by omega, r.cur, r.apes⟩, r.ids, by rw [t3, r.core]⟩
 have hwho : (band = 1 → ∃ (i : Nat) (h : i < T1.length), v128 (T1.map F91) = i ∧ id = T1[i].ID) ∧ (¬ band = 1 → v128 (T1.map F91) = -1) := by
  cases who with
  | must i hi hv hon hm => exact ⟨fun _ => ⟨i, hi, hv, rfl⟩, fun h => absurd rfl h⟩
  | ape id hv hx hn => exact ⟨fun h => absurd h (by decide), fun _ => hv⟩
  | opt t hv ht hon hm => exact ⟨fun h => absurd h (by decide), fun _ => hv⟩
  | none_ hv => exact ⟨fun h => absurd h (by decide), fun _ => hv⟩
 have f116 := F116_eq (A := A.filter fun a => !inG gone a.ID) (by have := List.length_filter_le (fun a : Ape => !inG gone a.ID) A; omega)
 have f59 := fun b id => F59_115_eq (T := T1) (by have := h1.len; omega) b id
 unfold F54
 rw [e55]
 simp only [Bool.not_true, cond_false, hlim, decide_false, e76, e77, e78, f116, f59]
 by_cases b1 : band = 1
 · obtain ⟨T', A', cur', f, ms, e, q⟩ := fin cur hw.cur_ (by omega)
   simp only [b1, decide_true, cond_true]
   rw [b1] at e hwho
   exact ⟨T', A', cur', 1, id, f, ms, gone, e, q.1, q.2.1, q.2.2.1, q.2.2.2.1, q.2.2.2.2, hwho⟩
 · by_cases b3 : band = 3
   · obtain ⟨T', A', cur', f, ms, e, q⟩ := fin cur hw.cur_ (by omega)
     have c31 : ¬ (3 : Int) = 1 := by decide
     simp only [b3, c31, decide_true, decide_false, cond_true, cond_false]
     rw [b3] at e hwho
     exact ⟨T', A', cur', 3, id, f, ms, gone, e, q.1, q.2.1, q.2.2.1, q.2.2.2.1, q.2.2.2.2, hwho⟩
   · by_cases b2 : band = 2
     · have hid : -1 ≤ id ∧ id ≤ 549755813888 := by
        cases who with
        | must i hi hv hon hm => cases b2
        | ape id hv hx hn =>
         obtain ⟨x, hx, rfl⟩ := hx
         have := (hw.apes.each x hx).id
         omega
        | opt t hv ht hon hm => cases b2
        | none_ hv => cases b2
       obtain ⟨T', A', cur', f, ms, e, q⟩ := fin id hid (fun _ => rfl)
       have c21 : ¬ (2 : Int) = 1 := by decide
       have c23 : ¬ (2 : Int) = 3 := by decide
       simp only [b2, c21, c23, decide_true, decide_false, cond_true, cond_false]
       rw [b2] at e hwho
       exact ⟨T', A', cur', 2, id, f, ms, gone, e, q.1, q.2.1, q.2.2.1, q.2.2.2.1, q.2.2.2.2, hwho⟩
     · obtain ⟨T', A', cur', f, ms, e, q⟩ := fin cur hw.cur_ (fun h => absurd h b2)
       simp only [b1, b2, b3, decide_false, cond_false]
       exact ⟨T', A', cur', band, id, f, ms, gone, e, q.1, q.2.1, q.2.2.1, q.2.2.2.1, q.2.2.2.2, hwho⟩
theorem F54_alike {a b : Srv} (ha : Inv a) (hb : Inv b) (h : Rel a b) (hlim : ¬ a.Now = 274877906944) (d : List Int) :
 ∃ (a' b' : Srv) (band id f band2 id2 f2 : Int) (begun ms gone ms2 gone2 : List Int),
  F54 a.Now a.T a.A a.Cur d = some ((a'.Now, a'.T, a'.A, a'.Cur), (a.Now, band, id, f, begun, ms, gone), true) ∧
  F54 b.Now b.T b.A b.Cur d = some ((b'.Now, b'.T, b'.A, b'.Cur), (a.Now, band2, id2, f2, begun, ms2, gone2), true) ∧
  (band = 1 ↔ band2 = 1) ∧ (band = 1 → id = id2) ∧ a'.Now = a.Now + 1 ∧
  a' = ⟨a'.Now, a'.T, a'.A, a'.Cur, a.On, a.Since, a.By, a.New, a.L, a.NextID, a.NextAp⟩ ∧ b' = ⟨b'.Now, b'.T, b'.A, b'.Cur, b.On, b.Since, b.By, b.New, b.L, b.NextID, b.NextAp⟩ ∧
  Inv a' ∧ Inv b' ∧ Rel a' b' := by
 have hnow := h.now_
 have wb : WOK a.Now b.T b.A b.Cur := by rw [hnow]; exact hb.w
 have tb : TasksOK b.T a.Now := by rw [hnow]; exact hb.tasks
 obtain ⟨Ta1, Tb1, begun, ea, eb, ma, mb, hal⟩ := F76_alike ha.w wb ha.tasks tb ha.nat hb.nat h.tasks d
 obtain ⟨Ta, Aa, ca, band, id, f, ms, gone, e1, p1, p2, p3, p4, p5, p6, p7⟩ := F54_ok ha.w ha.tasks hlim ea ma
 obtain ⟨Tb, Ab, cb, band2, id2, f2, ms2, gone2, e2, q1, q2, q3, q4, q5, q6, q7⟩ := F54_ok wb tb hlim eb mb
 have hv : v128 (Ta1.map F91) = v128 (Tb1.map F91) := v128_congr (by
  rw [List.map_map, List.map_map]
  exact hal.map fun t u e => core_F91 e) (by rw [List.length_map]; have := ma.len; omega)
 have ids : ∀ {s : Srv} {A' : List Ape}, Inv s → (∀ x ∈ A', ∃ y ∈ s.A, y.ID = x.ID) → ∀ x ∈ A', x.ID < s.NextAp := fun hs hA x hx => by
  obtain ⟨y, hy, e⟩ := hA x hx
  have := hs.ids y hy
  omega
 refine ⟨⟨a.Now + 1, Ta, Aa, ca, a.On, a.Since, a.By, a.New, a.L, a.NextID, a.NextAp⟩, ⟨a.Now + 1, Tb, Ab, cb, b.On, b.Since, b.By, b.New, b.L, b.NextID, b.NextAp⟩, band, id, f, band2, id2, f2, begun, ms, gone, ms2, gone2, e1, by rw [← hnow]; exact e2, ?_, ?_, rfl, rfl, rfl, ⟨p3, p1, p2, ha.aps, ids (s := a) ha p4, ha.l⟩, ⟨q3, q1, q2, hb.aps, ids (s := b) hb q4, hb.l⟩, ⟨rfl, ?_, h.on, h.since, h.by_, h.new_, h.l, h.nid⟩⟩
 · constructor
   · intro h1
     obtain ⟨i, hi, hv1, _⟩ := p6 h1
     exact Classical.byContradiction fun h2 => by
      have := q7 h2
      omega
   · intro h1
     obtain ⟨i, hi, hv1, _⟩ := q6 h1
     exact Classical.byContradiction fun h2 => by
      have := p7 h2
      omega
 · intro h1
   obtain ⟨i, hi, hv1, hid⟩ := p6 h1
   have h2 : band2 = 1 := Classical.byContradiction fun h2 => by
    have := q7 h2
    omega
   obtain ⟨j, hj, hv2, hid2⟩ := q6 h2
   have hij : i = j := by omega
   subst hij
   rw [hid, hid2]
   exact (coreT_fields (hal.get hi hj)).1
 · show Ta.map coreT = Tb.map coreT
   have hal2 : Ta1.map coreT = Tb1.map coreT := hal
   rw [p5, q5, hv, hal2]
end Go.Abs
end
section
namespace Go.Abs
set_option linter.unusedVariables false
set_option linter.unusedSimpArgs false
theorem F48_ok {s1 s2 : List Int} (h1 : s1.length ≤ 9223372036854775807) : Ok (F48 fuel s1 s2) := by
 unfold F48
 by_cases hl : (s1.length : Int) = (s2.length : Int)
 · simp only [hl, decide_true, Bool.not_true, cond_false]
   have key : ∀ (k n i : Nat), s1.length = i + k → k < n → Ok (L48_4 (fun z7 => some z7) (some true) (s2.length : Int) s1 s2 n i) := by
    intro k
    induction k with
    | zero =>
     intro n i hi hn
     obtain ⟨n, rfl⟩ : ∃ m, n = m + 1 := ⟨n - 1, by omega⟩
     have c : ¬ (i : Int) < (s2.length : Int) := by omega
     rw [L48_4]
     simp only [S48_4, c, decide_false, cond_false]
     exact .intro _
    | succ k ih =>
     intro n i hi hn
     obtain ⟨n, rfl⟩ : ∃ m, n = m + 1 := ⟨n - 1, by omega⟩
     have c1 : (i : Int) < (s1.length : Int) := by omega
     have c2 : (i : Int) < (s2.length : Int) := by omega
     have c3 : i < s1.length := by omega
     have c4 : i < s2.length := by omega
     rw [L48_4]
     simp only [S48_4, c1, c2, Int.natCast_nonneg, decide_true, Bool.and_self, cond_true, Int.toNat_natCast, List.getElem?_eq_getElem c3, List.getElem?_eq_getElem c4]
     rw [wI_succ (by omega)]
     exact bif_ok (fun _ => .intro _) fun _ => ih n (i + 1) (by omega) (by omega)
   exact key s1.length fuel 0 (by omega) (by unfold fuel; omega)
 · simp only [hl, decide_false, Bool.not_false, cond_true]
   exact .intro _
theorem F49_ok {s : List Int} (h : s.length ≤ 9223372036854775807) : Ok (F49_18 fuel s) := by
 unfold F49_18
 have key : ∀ (k n i : Nat), s.length = i + k → k < n → Ok (L49_18_2 (fun z5 => some z5) (some (-1)) (s.length : Int) s n i) := by
  intro k
  induction k with
  | zero =>
   intro n i hi hn
   obtain ⟨n, rfl⟩ : ∃ m, n = m + 1 := ⟨n - 1, by omega⟩
   have c : ¬ (i : Int) < (s.length : Int) := by omega
   rw [L49_18_2]
   simp only [S49_18_2, c, decide_false, cond_false]
   exact .intro _
  | succ k ih =>
   intro n i hi hn
   obtain ⟨n, rfl⟩ : ∃ m, n = m + 1 := ⟨n - 1, by omega⟩
   have c1 : (i : Int) < (s.length : Int) := by omega
   have c3 : i < s.length := by omega
   rw [L49_18_2]
   simp only [S49_18_2, c1, Int.natCast_nonneg, decide_true, Bool.and_self, cond_true, Int.toNat_natCast, List.getElem?_eq_getElem c3]
   rw [wI_succ (by omega)]
   exact bif_ok (fun _ => .intro _) fun _ => bif_ok (fun _ => .intro _) fun _ => ih n (i + 1) (by omega) (by omega)
 exact key s.length fuel 0 (by omega) (by unfold fuel; omega)
theorem ok_ne {α : Type} {x : Option α} (h : Ok x) (e : x = none) : False := by
 obtain ⟨r, hr⟩ := h
 rw [hr] at e
 cases e
theorem F19_ok {a1 a2 a3 a4 a5 a6 a7 a8 a9 a10 a11 a12 a13 : Int} {d1 : List Int} {b1 b2 b3 b4 b5 b6 b7 b8 b9 b10 b11 b12 b13 : Int} {d2 : List Int} (h : d1.length ≤ 9223372036854775807) : Ok (F19 a1 a2 a3 a4 a5 a6 a7 a8 a9 a10 a11 a12 a13 d1 b1 b2 b3 b4 b5 b6 b7 b8 b9 b10 b11 b12 b13 d2) := by
 unfold F19
 obtain ⟨r, e⟩ := F48_ok (s2 := d2) h
 rw [e]
 repeat' first | exact Ok.intro _ | refine bif_ok (fun _ => ?_) fun _ => ?_
theorem F10_part {K I C T Mx M Kk E t mx W c v : Int} {D : List Int} (h : D.length ≤ 9223372036854775807) : Ok (F10 K I C T Mx M Kk E t mx W c v D) := by
 have h9 := F49_ok h
 unfold F10
 repeat' first
  | exact Ok.intro _
  | exact (ok_ne (F19_ok h) (by assumption)).elim
  | exact (ok_ne h9 (by assumption)).elim
  | refine bif_ok (fun _ => ?_) fun _ => ?_
  | split
theorem F10_ok {K I C T Mx M Kk E t mx W c v : Int} {D : List Int} (h : D.length ≤ 9223372036854775807) : ∃ b, F10 K I C T Mx M Kk E t mx W c v D = some b ∧ (b = true → 0 ≤ K ∧ K < 5 ∧ (K = 3 → 0 ≤ W ∧ W ≤ 255)) := by
 obtain ⟨b, e⟩ := F10_part (K := K) (I := I) (C := C) (T := T) (Mx := Mx) (M := M) (Kk := Kk) (E := E) (t := t) (mx := mx) (W := W) (c := c) (v := v) h
 refine ⟨b, e, fun hb => ?_⟩
 subst hb
 have n1 : ¬ K < 0 := fun hk => by
  unfold F10 at e
  simp [hk] at e
 have n2 : ¬ 5 ≤ K := fun hk => by
  unfold F10 at e
  simp [n1, hk] at e
 refine ⟨by omega, by omega, fun h3 => ?_⟩
 subst h3
 have n3 : ¬ W < 0 := fun hk => by
  unfold F10 at e
  simp [hk] at e
 have hs : shr .i64 W 8 = W / 256 := by
  show W.fdiv (2 ^ min (8 : Int).toNat 64) = _
  rw [show (2 : Int) ^ min (8 : Int).toNat 64 = 256 from rfl, Int.fdiv_eq_ediv_of_nonneg _ (by omega)]
 have n4 : ¬ 0 < W / 256 := fun hk => by
  unfold F10 at e
  rw [hs] at e
  simp [n3, hk] at e
 omega
theorem F9_alike {a b : Srv} (ha : Inv a) (hb : Inv b) (h : Rel a b) (g : Bool) : ∃ y, F9 a.Now a.T a.A a.Cur a.On a.Since a.By a.New a.L a.NextID a.NextAp g = some y ∧ F9 b.Now b.T b.A b.Cur b.On b.Since b.By b.New b.L b.NextID b.NextAp g = some y ∧ (y = 0 → g = true ∧ ¬ a.Now = 274877906944) := by
 obtain ⟨m, em⟩ := May_ok ha
 have em2 : May b = some m := by rw [← May_alike ha hb h]; exact em
 unfold May at em em2
 unfold F9
 rw [em, em2, h.now_]
 cases m with
 | false => exact ⟨1, rfl, rfl, fun h => by cases h⟩
 | true =>
  cases g with
  | false => exact ⟨7, rfl, rfl, fun h => by cases h⟩
  | true =>
   by_cases hl : b.Now = 274877906944
   · simp only [hl, Bool.not_true, cond_false, decide_true, cond_true]
     exact ⟨8, rfl, rfl, fun h => by cases h⟩
   · simp only [hl, Bool.not_true, cond_false, decide_false]
     exact ⟨0, rfl, rfl, fun _ => by simp⟩
theorem Inv.F11 {s : Srv} (h : Inv s) : Go.Abs.F11 s.Now s.T s.A s.Cur s.On s.Since s.By s.New s.L s.NextID s.NextAp = some s.tup := by
 unfold Go.Abs.F11
 rw [cloneB_eq h.lT, cloneB_eq h.lA, cloneB_eq (by have := h.l; omega)]
 rfl
end Go.Abs
end
section
namespace Go.Abs
set_option linter.unusedVariables false
set_option linter.unusedSimpArgs false
abbrev Ans := Int × Int × Int × Int × List Int × List Int × List Int
abbrev doOp (s : Srv) (o : OpD) : Option (Tup × (Int × Int) × Ans) := F6 s.Now s.T s.A s.Cur s.On s.Since s.By s.New s.L s.NextID s.NextAp o.Kind o.ID o.S.C o.S.T o.S.Max o.S.M o.S.K o.S.E o.T o.Max o.Within o.C o.V o.D
structure AnsAlike (x y : Ans) : Prop where
 band : x.2.1 = 1 ↔ y.2.1 = 1
 id : x.2.1 = 1 → x.2.2.1 = y.2.2.1
 begun : x.2.2.2.2.1.length = y.2.2.2.2.1.length
def noAns : Ans := (0, 0, 0, 0, [], [], [])
theorem AnsAlike.refl (x : Ans) : AnsAlike x x := ⟨Iff.rfl, fun _ => rfl, rfl⟩
def Both (X Y : Option (Tup × (Int × Int) × Ans)) : Prop := ∃ (a b : Srv) (r : Int × Int) (x y : Ans), X = some (a.tup, r, x) ∧ Y = some (b.tup, r, y) ∧ Inv a ∧ Inv b ∧ Rel a b ∧ AnsAlike x y
theorem both_bif {c : Bool} {X X' Y Y' : Option (Tup × (Int × Int) × Ans)} (h1 : c = true → Both X Y) (h2 : c = false → Both X' Y') : Both (bif c then X else X') (bif c then Y else Y') := by
 cases c
 · exact h2 rfl
 · exact h1 rfl
theorem doOp_alike {a b : Srv} (ha : Inv a) (hb : Inv b) (h : Rel a b) {o : OpD} (hD : o.D.length ≤ 9223372036854775807) (hk : ¬ o.Kind = 3) : Both (doOp a o) (doOp b o) := by
 obtain ⟨g, e10, hg⟩ := F10_ok (K := o.Kind) (I := o.ID) (C := o.S.C) (T := o.S.T) (Mx := o.S.Max) (M := o.S.M) (Kk := o.S.K) (E := o.S.E) (t := o.T) (mx := o.Max) (W := o.Within) (c := o.C) (v := o.V) hD
 obtain ⟨y, e9a, e9b, hy⟩ := F9_alike ha hb h g
 have keep : ∀ r : Int × Int, Both (some (a.tup, r, noAns)) (some (b.tup, r, noAns)) := fun r => ⟨a, b, r, noAns, noAns, rfl, rfl, ha, hb, h, .refl _⟩
 have new : ∀ {a' b' : Srv} (r : Int × Int), Inv a' → Inv b' → Rel a' b' → Both (some (a'.tup, r, noAns)) (some (b'.tup, r, noAns)) := fun {a' b'} r h1 h2 h3 => ⟨a', b', r, noAns, noAns, rfl, rfl, h1, h2, h3, .refl _⟩
 unfold Srv.tup noAns at keep
 unfold doOp F6
 rw [e10]
 simp only
 rw [e9a, e9b, ha.F11, hb.F11]
 dsimp only [Srv.tup]
 by_cases y0 : y = 0
 · obtain ⟨rfl, hlim⟩ := hy y0
   obtain ⟨k1, k2, _⟩ := hg rfl
   simp only [y0, decide_true, cond_true]
   refine both_bif (fun _ => ?_) fun c0 => both_bif (fun _ => ?_) fun c1 => both_bif (fun _ => ?_) fun c2 => ?_
   · obtain ⟨a', b', id, e, e1, e2, i1, i2, rl⟩ := F50_alike ha hb h ⟨o.S.C, o.S.T, o.S.Max, o.S.M, o.S.K, o.S.E⟩
     rw [e1, e2]
     exact both_bif (fun _ => keep _) fun _ => new _ i1 i2 rl
   · obtain ⟨a', b', e, e1, e2, i1, i2, rl⟩ := F51_alike ha hb h o.ID o.T o.Max
     rw [e1, e2]
     exact both_bif (fun _ => keep _) fun _ => new _ i1 i2 rl
   · obtain ⟨a', b', e, e1, e2, i1, i2, rl⟩ := F52_alike ha hb h o.ID
     rw [e1, e2]
     exact both_bif (fun _ => keep _) fun _ => new _ i1 i2 rl
   · simp only [decide_eq_false_iff_not] at c0 c1 c2
     have c4 : o.Kind = 4 := by omega
     have c43 : ¬ (4 : Int) = 3 := by decide
     simp only [c4, c43, decide_true, decide_false, cond_true, cond_false]
     obtain ⟨a1, b1, r, e1, e2, i1, i2, rl, hnow⟩ := F53_alike ha hb h
     rw [e1, e2]
     dsimp only [Srv.tup]
     obtain ⟨a2, b2, band, id, f, band2, id2, f2, begun, ms, gone, ms2, gone2, u1, u2, v1, v2, v3, v4, v5, j1, j2, rl2⟩ := F54_alike i1 i2 rl (by rw [hnow]; exact hlim) o.D
     rw [u1, u2]
     refine ⟨a2, b2, (0, a2.Now), (a1.Now, band, id, f, begun, ms, gone), (a1.Now, band2, id2, f2, begun, ms2, gone2), ?_, ?_, j1, j2, rl2, ⟨v1, v2, rfl⟩⟩
     · simp only [Bool.not_true, cond_false]
       rw [v4]
       rfl
     · simp only [Bool.not_true, cond_false]
       rw [v5, rl2.now_]
       rfl
 · simp only [y0, decide_false, cond_false, Bool.not_false, cond_true]
   exact keep _
theorem ApesOK.new {A : List Ape} (h : ApesOK A) (hl : A.length < 4) {x : Ape} (hx : ApeOK x) (hid : ∀ a ∈ A, a.ID < x.ID) : ApesOK (A ++ [x]) := by
 refine ⟨by simp; omega, fun a ha => ?_, ?_⟩
 · rcases List.mem_append.1 ha with ha | ha
   · exact h.each a ha
   · rw [List.mem_singleton.1 ha]
     exact hx
 · rw [List.pairwise_append]
   exact ⟨h.ids, List.pairwise_singleton _ _, fun a ha b hb => by rw [List.mem_singleton.1 hb]; exact hid a ha⟩
def One (a : Srv) (X : Option (Tup × (Int × Int) × Ans)) : Prop := ∃ (a' : Srv) (r : Int × Int) (x : Ans), X = some (a'.tup, r, x) ∧ Inv a' ∧ ∀ b, Rel a b → Rel a' b
theorem one_bif {a : Srv} {c : Bool} {X X' : Option (Tup × (Int × Int) × Ans)} (h1 : c = true → One a X) (h2 : c = false → One a X') : One a (bif c then X else X') := by
 cases c
 · exact h2 rfl
 · exact h1 rfl
theorem doOp_submit {a : Srv} (ha : Inv a) {o : OpD} (hD : o.D.length ≤ 9223372036854775807) (hk : o.Kind = 3) : One a (doOp a o) := by
 obtain ⟨g, e10, hg⟩ := F10_ok (K := o.Kind) (I := o.ID) (C := o.S.C) (T := o.S.T) (Mx := o.S.Max) (M := o.S.M) (Kk := o.S.K) (E := o.S.E) (t := o.T) (mx := o.Max) (W := o.Within) (c := o.C) (v := o.V) hD
 have hself : Rel a a := ⟨rfl, rfl, rfl, rfl, rfl, rfl, rfl, rfl⟩
 obtain ⟨y, e9a, _, hy⟩ := F9_alike ha ha hself g
 have keep : ∀ r : Int × Int, One a (some (a.tup, r, noAns)) := fun r => ⟨a, r, noAns, rfl, ha, fun b hb => hb⟩
 unfold Srv.tup noAns at keep
 unfold doOp F6
 rw [e10]
 simp only
 rw [e9a, ha.F11]
 dsimp only [Srv.tup]
 by_cases y0 : y = 0
 · obtain ⟨rfl, hlim⟩ := hy y0
   obtain ⟨_, _, k3⟩ := hg rfl
   have k3 := k3 hk
   have d0 : ¬ (3 : Int) = 0 := by decide
   have d1 : ¬ (3 : Int) = 1 := by decide
   have d2 : ¬ (3 : Int) = 2 := by decide
   simp only [y0, hk, d0, d1, d2, decide_true, decide_false, cond_true, cond_false]
   have lA := ha.w.apes.len
   have hble : ∀ x : Ape, Nat.ble (a.A ++ [x]).length 100000 = true := fun x => ble_t (by simp; omega)
   simp only [hble, cond_true]
   by_cases w0 : o.Within = 0
   · simp only [w0, decide_true, cond_true]
     exact keep _
   by_cases c1 : o.C < 1
   · simp only [w0, c1, decide_true, decide_false, cond_true, cond_false]
     exact keep _
   by_cases c2 : 40 < o.C
   · simp only [w0, c1, c2, decide_true, decide_false, cond_true, cond_false]
     exact keep _
   by_cases v1 : o.V < 1
   · simp only [w0, c1, c2, v1, decide_true, decide_false, cond_true, cond_false]
     exact keep _
   by_cases v2 : 1000 < o.V
   · simp only [w0, c1, c2, v1, v2, decide_true, decide_false, cond_true, cond_false]
     exact keep _
   by_cases l4 : (a.A.length : Int) = 4
   · simp only [w0, c1, c2, v1, v2, l4, decide_true, decide_false, cond_true, cond_false]
     exact keep _
   by_cases n6 : a.NextAp = 65536
   · simp only [w0, c1, c2, v1, v2, l4, n6, decide_true, decide_false, cond_true, cond_false]
     rw [← n6]
     exact keep _
   simp only [w0, c1, c2, v1, v2, l4, n6, decide_false, cond_false]
   have hn := ha.w.now_
   have hap := ha.aps
   have hw1 : wI (a.Now + o.Within) = a.Now + o.Within := wI_eq (by omega) (by omega)
   have hw2 : wI (a.NextAp + 1) = a.NextAp + 1 := wI_eq (by omega) (by omega)
   rw [hw1, hw2]
   have hx : ApeOK ⟨a.NextAp, a.Now + o.Within, o.C, o.V, 0⟩ := ⟨⟨by show 0 ≤ a.NextAp; omega, by show a.NextAp ≤ _; omega⟩, ⟨by show 1 ≤ a.Now + o.Within; omega, by show a.Now + o.Within ≤ _; omega⟩, ⟨by show 1 ≤ o.C; omega, by show o.C ≤ 40; omega⟩, ⟨by show 1 ≤ o.V; omega, by show o.V ≤ 1000; omega⟩, ⟨Int.le_refl _, by show (0 : Int) < o.C; omega⟩⟩
   have hA := ha.w.apes.new (by omega) hx ha.ids
   refine ⟨⟨a.Now, a.T, a.A ++ [⟨a.NextAp, a.Now + o.Within, o.C, o.V, 0⟩], a.Cur, a.On, a.Since, a.By, a.New, a.L, a.NextID, a.NextAp + 1⟩, _, _, rfl, ⟨⟨hn, ha.w.cur_, hA⟩, ha.tasks, ha.nat, ⟨by show 0 ≤ a.NextAp + 1; omega, by show a.NextAp + 1 ≤ _; omega⟩, fun x hx => ?_, ha.l⟩, fun b hb => ⟨hb.now_, hb.tasks, hb.on, hb.since, hb.by_, hb.new_, hb.l, hb.nid⟩⟩
   show x.ID < a.NextAp + 1
   rcases List.mem_append.1 hx with hx | hx
   · have := ha.ids x hx
     omega
   · rw [List.mem_singleton.1 hx]
     show a.NextAp < a.NextAp + 1
     omega
 · simp only [y0, decide_false, cond_false, Bool.not_false, cond_true]
   exact keep _
end Go.Abs
end
section
namespace Go.Abs
set_option linter.unusedVariables false
set_option linter.unusedSimpArgs false
theorem F4_eq : F4 = some true := by kernel_rfl
theorem L17_ok {l : List OpD} {Ta Tb : List Task} (h : Alike Ta Tb) (hl : Ta.length ≤ 4) {v1 v2 : Int} {v3 : Bool} {v4 v5 v6 v7 v8 v9 v10 : Int} {v11 : Bool} {v12 v13 v14 v15 v16 : Int} {Aa : List Ape} {La : List Aim} {Ab : List Ape} {Lb : List Aim} (e1 : Option Bool) :
 ∀ (k n i : Nat), Ta.length = i + k → k < n → L3_17 (fun z => some z) e1 l v1 v2 v3 v4 v5 v6 v7 v8 v9 v10 v11 v12 v13 v14 v15 v16 Ta Aa La Tb Ab Lb n i = e1 := by
 intro k
 induction k with
 | zero =>
  intro n i hi hn
  obtain ⟨n, rfl⟩ : ∃ m, n = m + 1 := ⟨n - 1, by omega⟩
  have c : ¬ (i : Int) < (Ta.length : Int) := by omega
  rw [L3_17]
  simp only [S3_17, c, decide_false, cond_false]
 | succ k ih =>
  intro n i hi hn
  obtain ⟨n, rfl⟩ : ∃ m, n = m + 1 := ⟨n - 1, by omega⟩
  have hlen := h.length
  have c1 : (i : Int) < (Ta.length : Int) := by omega
  have c2 : (i : Int) < (Tb.length : Int) := by omega
  have c3 : i < Ta.length := by omega
  have c4 : i < Tb.length := by omega
  obtain ⟨f1, f2, f3, f4, f5, f6, f7⟩ := coreT_fields (h.get c3 c4)
  rw [L3_17]
  simp only [S3_17, c1, c2, Int.natCast_nonneg, decide_true, Bool.and_self, cond_true, Int.toNat_natCast, List.getElem?_eq_getElem c3, List.getElem?_eq_getElem c4, f1, f4, f5, f6, Bool.not_true, cond_false]
  rw [wI_succ (by omega)]
  exact ih n (i + 1) (by omega) (by omega)
theorem L7_ok {l : List OpD} (hl : l.length ≤ 150) (hD : ∀ o ∈ l, o.D.length ≤ 9223372036854775807) {R : Type}
 (e0 : Bool → Int → Int → Bool → Int → Int → Int → Int → Int → Int → Int → Bool → Int → Int → Int → Int → Int → List Task → List Ape → List Aim → List Task → List Ape → List Aim → Option R)
 (e1 : Int → Int → Bool → Int → Int → Int → Int → Int → Int → Int → Bool → Int → Int → Int → Int → Int → List Task → List Ape → List Aim → List Task → List Ape → List Aim → Option R) :
 ∀ (k n i : Nat) (a b : Srv), l.length = i + k → k < n → Inv a → Inv b → Rel a b → ∃ a' b' : Srv, Inv a' ∧ Inv b' ∧ Rel a' b' ∧
  L3_7 e0 e1 l n i a.Now a.Cur a.On a.Since a.By a.New a.NextID a.NextAp b.Now b.Cur b.On b.Since b.By b.New b.NextID b.NextAp a.T a.A a.L b.T b.A b.L =
   e1 a'.Now a'.Cur a'.On a'.Since a'.By a'.New a'.NextID a'.NextAp b'.Now b'.Cur b'.On b'.Since b'.By b'.New b'.NextID b'.NextAp a'.T a'.A a'.L b'.T b'.A b'.L := by
 intro k
 induction k with
 | zero =>
  intro n i a b hi hn ha hb h
  obtain ⟨n, rfl⟩ : ∃ m, n = m + 1 := ⟨n - 1, by omega⟩
  have c : ¬ (i : Int) < (l.length : Int) := by omega
  refine ⟨a, b, ha, hb, h, ?_⟩
  rw [L3_7]
  simp only [S3_7, c, decide_false, cond_false]
 | succ k ih =>
  intro n i a b hi hn ha hb h
  obtain ⟨n, rfl⟩ : ∃ m, n = m + 1 := ⟨n - 1, by omega⟩
  have c1 : (i : Int) < (l.length : Int) := by omega
  have c2 : i < l.length := by omega
  have hd := hD _ (List.getElem_mem c2)
  have hw : wI ((i : Int) + 1) = ((i + 1 : Nat) : Int) := wI_succ (by omega)
  by_cases hk : l[i].Kind = 3
  · obtain ⟨a1, r, x, e, i1, r1⟩ := doOp_submit ha hd hk
    unfold doOp at e
    rw [hk] at e
    obtain ⟨a', b', q1, q2, q3, q4⟩ := ih n (i + 1) a1 b (by omega) (by omega) i1 hb (r1 b h)
    refine ⟨a', b', q1, q2, q3, ?_⟩
    rw [← q4, L3_7]
    simp only [S3_7, c1, Int.natCast_nonneg, decide_true, Bool.and_self, cond_true, Int.toNat_natCast, List.getElem?_eq_getElem c2, e, hk, hw]
    rfl
  · obtain ⟨a1, b1, r, x, y, ea, eb, i1, i2, rl, al⟩ := doOp_alike ha hb h hd hk
    unfold doOp at ea eb
    obtain ⟨a', b', q1, q2, q3, q4⟩ := ih n (i + 1) a1 b1 (by omega) (by omega) i1 i2 rl
    refine ⟨a', b', q1, q2, q3, ?_⟩
    have hT := rl.tasks.length
    have hb1 : (decide (x.2.1 = 1) == decide (y.2.1 = 1)) = true := by
     by_cases hx : x.2.1 = 1
     · have hy := al.band.1 hx
       rw [decide_eq_true hx, decide_eq_true hy]
       rfl
     · have hy : ¬ y.2.1 = 1 := fun hy => hx (al.band.2 hy)
       rw [decide_eq_false hx, decide_eq_false hy]
       rfl
    have hg := al.begun
    rw [← q4, L3_7]
    simp only [S3_7, c1, Int.natCast_nonneg, decide_true, Bool.and_self, cond_true, cond_false, Int.toNat_natCast, List.getElem?_eq_getElem c2, ea, eb, hk, hw, decide_false, Bool.not_true, hb1, Srv.tup, hT, hg]
    by_cases hx : x.2.1 = 1
    · simp only [hx, al.id hx, decide_true, cond_true, Bool.not_true, cond_false]
    · simp only [hx, decide_false, cond_false]
theorem F5_tup : F5 = (⟨0, [], [], -1, false, 0, 0, -1, [], 0, 0⟩ : Srv).tup := rfl
theorem inv0 : Inv ⟨0, [], [], -1, false, 0, 0, -1, [], 0, 0⟩ :=
 ⟨⟨by decide, by decide, ⟨by decide, fun a ha => (by cases ha), List.Pairwise.nil⟩⟩, ⟨by decide, fun t ht => (by cases ht), fun i hi => (by simp at hi)⟩, fun t ht => (by cases ht), by decide, fun a ha => (by cases ha), by decide⟩
theorem F3_ok (l : List OpD) (hD : ∀ o ∈ l, o.D.length ≤ 9223372036854775807) : F3 fuel l = some true := by
 unfold F3
 rw [F4_eq]
 by_cases hl : 150 < (l.length : Int)
 · simp only [hl, decide_true, cond_true, Bool.not_true, cond_false]
 · obtain ⟨a, b, h1, h2, h3, e⟩ := L7_ok (l := l) (by omega) hD (fun z35 z36 z37 z38 z39 z40 z41 z42 z43 z44 z45 z46 z47 z48 z49 z50 z51 z52 z53 z54 z55 z56 z57 => some z35) (fun z58 z59 z60 z61 z62 z63 z64 z65 z66 z67 z68 z69 z70 z71 z72 z73 z74 z75 z76 z77 z78 z79 => L3_17 (fun z112 => some z112) (bif decide (z58 = z66) then some (decide (z64 = z72)) else some false) l z58 z59 z60 z61 z62 z63 z64 z65 z66 z67 z68 z69 z70 z71 z72 z73 z74 z75 z76 z77 z78 z79 fuel 0) l.length fuel 0 _ _ (by omega) (by unfold fuel; omega) inv0 inv0 ⟨rfl, rfl, rfl, rfl, rfl, rfl, rfl, rfl⟩
   simp only [hl, decide_false, cond_false, Bool.not_true, F5_tup, Srv.tup]
   refine Eq.trans e ?_
   have := L17_ok (l := l) h3.tasks h1.tasks.len (v1 := a.Now) (v2 := a.Cur) (v3 := a.On) (v4 := a.Since) (v5 := a.By) (v6 := a.New) (v7 := a.NextID) (v8 := a.NextAp) (v9 := b.Now) (v10 := b.Cur) (v11 := b.On) (v12 := b.Since) (v13 := b.By) (v14 := b.New) (v15 := b.NextID) (v16 := b.NextAp) (Aa := a.A) (La := a.L) (Ab := b.A) (Lb := b.L) (bif decide (a.Now = b.Now) then some (decide (a.NextID = b.NextID)) else some false) a.T.length fuel 0 (by omega) (by have := h1.tasks.len; unfold fuel; omega)
   refine Eq.trans this ?_
   simp only [h3.now_, h3.nid, decide_true, cond_true]
end Go.Abs
end
