/- Own: A call of a function that is handed the address of a variable, and writes it, by what is known of the function. -/
import Derived.Test.YtmiajnodoigndaaGreatAbsU
namespace Go.Abs
open Go.RowKit
set_option linter.unusedVariables false
def noRo : List RC → Bool
 | [] => true
 | .ro _ :: _ => false
 | _ :: l => noRo l
section
variable {X : Nat → Prop} {N0 : Nat} {W0 W : World} {ρ : Ren} {h : Heap} {R : Type} {x : R}
open Laid
theorem memB_cons {b b' : Nat} {u : List Nat} : memB b (b' :: u) = true ↔ b = b' ∨ memB b u = true := by
 simp only [memB, cond_eq_ite]
 split
 · rename_i hq
   exact ⟨fun _ => .inl (beq_eq hq).symm, fun _ => rfl⟩
 · rename_i hq
   exact ⟨.inr, fun h => h.elim (fun e => absurd (by rw [e]; simp) hq) id⟩
def Held (ρ : Ren) (h : Heap) (u u' : List Nat) (m : Nat) : Prop := ∃ b c i, cellAt h b = some c ∧ c.wr = true ∧ memB b u = false ∧ memB b u' = true ∧ ρ b = some i ∧ i.ph = false ∧ i.m = m
theorem readRC_laid (H : HR X N0 W0 ρ h W) {c : RC} (hro : ∀ d, c ≠ .ro d) {v : AV} {v' : Value} {n : Nat} {u : List Nat} {k : c.D → List Nat → Option R} (hv : VR ρ v v') (he : readRC c v h u k = some x) :
 ∃ d u' infs, k d u' = some x ∧ (∀ b, memB b u = true → memB b u' = true) ∧ (∀ b, memB b u' = true → memB b u = true ∨ ∃ c, cellAt h b = some c ∧ c.wr = true) ∧ Laid No (Held ρ h u u') W n [(layRC c d n).1] (layRC c d n).2 [v'] infs := by
 unfold readRC at he
 split at he
 · exact ⟨_, _, [], he, fun _ h => h, fun _ h => .inl h, .plain fun ρ' => hv.plain rfl ρ'⟩
 · exact ⟨_, _, [], he, fun _ h => h, fun _ h => .inl h, .plain fun ρ' => hv.plain rfl ρ'⟩
 · exact ⟨_, _, [], he, fun _ h => h, fun _ h => .inl h, .plain fun ρ' => hv.plain rfl ρ'⟩
 · rename_i c e b k
   split at he
   case h_2 => cases he
   rename_i nn e' c' l hc
   simp only [cond_eq_ite, Bool.and_eq_true] at he
   split at he
   case isFalse => cases he
   rename_i hq
   split at he
   case isFalse => cases he
   rename_i heq
   subst heq
   have := beq_eq hq.1
   subst this
   obtain ⟨inf, hi, ok⟩ := H.ok _ _ hc
   refine ⟨l, b :: u, [inf], he, fun b' h => memB_cons.2 (.inr h), fun b' h => ?_, .one (fun ρ' h' => ?_) (fun ρ' h' => ok.typ (fun h => by cases h) (fun _ => rfl)) (fun hp => ⟨H.lt _ _ _ hc hi hp, fun h => (by cases h), fun _ => ⟨b, _, inf, hc, rfl, notMem hq.2, memB_cons.2 (.inl rfl), hi, hp, rfl⟩⟩) (fun l h => by cases h)⟩
   · rcases memB_cons.1 h with rfl | h
     · exact .inr ⟨_, hc, rfl⟩
     · exact .inl h
   · obtain ⟨inf2, A, a1, a2, h2, rfl, h3⟩ := hv.whole_inv
     rw [hi] at h2
     cases h2
     exact .whole h' h3
 · exact absurd rfl (hro _)
 · cases he
theorem Held.append (H : HR X N0 W0 ρ h W) {u u1 u2 : List Nat} {n : Nat} {vs ws : List AV} {hs gs : Heap} {vs' ws' : List Value} {infs jnfs : List BI} (m1 : ∀ b, memB b u = true → memB b u1 = true) (m2 : ∀ b, memB b u1 = true → memB b u2 = true)
 (h1 : Laid No (Held ρ h u u1) W n vs hs vs' infs) (h2 : Laid No (Held ρ h u1 u2) W (n + hs.length) ws gs ws' jnfs) : Laid No (Held ρ h u u2) W n (vs ++ ws) (hs ++ gs) (vs' ++ ws') (infs ++ jnfs) := by
 refine (h1.append h2 (fun _ h => h.elim) (fun _ h => h.elim) fun m ⟨b, c, i, e, hw, q1, q2, hi, hp, hm⟩ ⟨b', c', i', e', hw', q1', q2', hi', hp', hm'⟩ => ?_).mono fun m hm => ?_
 · refine H.inj b c b' c' i i' e hw e' ?_ hi hi' hp hp' (hm.trans hm'.symm)
   rintro rfl
   rw [q2] at q1'
   cases q1'
 · rcases hm with ⟨b, c, i, e, hw, q1, q2, r⟩ | ⟨b, c, i, e, hw, q1, q2, r⟩
   · exact ⟨b, c, i, e, hw, q1, m2 _ q2, r⟩
   · refine ⟨b, c, i, e, hw, ?_, q2, r⟩
     cases hq : memB b u with
     | false => rfl
     | true => rw [m1 _ hq] at q1; cases q1
theorem readRL_laid (H : HR X N0 W0 ρ h W) : ∀ {l : List RC} {vs : List AV} {vs' : List Value} {n : Nat} {u : List Nat} {k : RL l → List Nat → Option R}, noRo l = true → VRs ρ vs vs' → readRL l vs h u k = some x →
 ∃ d u' infs, k d u' = some x ∧ (∀ b, memB b u = true → memB b u' = true) ∧ (∀ b, memB b u' = true → memB b u = true ∨ ∃ c, cellAt h b = some c ∧ c.wr = true) ∧ Laid No (Held ρ h u u') W n (layRL l d n).1 (layRL l d n).2 vs' infs
 | [], [], _, n, u, k, _, .nil, he => ⟨(), u, [], he, fun _ h => h, fun _ h => .inl h, Laid.nil⟩
 | [c], [v], _, n, u, k, hro, .cons hv .nil, he => readRC_laid H (fun d e => by rw [e] at hro; cases hro) hv he
 | c :: d :: l, v :: vs, _, n, u, k, hro, .cons hv hs, he => by
  unfold readRL at he
  have hro' : (∀ d, c ≠ .ro d) ∧ noRo (d :: l) = true := by
   cases c with
   | ro _ => cases hro
   | _ => exact ⟨fun d e => (by cases e), hro⟩
  obtain ⟨y, u1, is1, h1, h2, h3, h4⟩ := readRC_laid (n := n) H hro'.1 hv he
  obtain ⟨z, u2, is2, k1, k2, k3, k4⟩ := readRL_laid H (n := n + (layRC c y n).2.length) hro'.2 hs h1
  exact ⟨(y, z), u2, is1 ++ is2, k1, fun b h => k2 b (h2 b h), fun b h => (k3 b h).elim (h3 b) .inr, Held.append H h2 k2 h4 k4⟩
 | [], _ :: _, _, _, _, _, _, _, he => by cases he
 | [_], [], _, _, _, _, _, _, he => by cases he
 | [_], _ :: _ :: _, _, _, _, _, _, _, he => by cases he
 | _ :: _ :: _, [], _, _, _, _, _, _, he => by cases he
theorem killAll_cell : ∀ {u : List Nat} {h : Heap} {b : Nat} {c : Cell}, cellAt (killAll u h) b = some c → cellAt h b = some c ∧ memB b u = false
 | [], _, _, _, e => ⟨e, rfl⟩
 | b' :: u, h, b, c, e => by
  obtain ⟨h1, h2⟩ := killAll_cell (u := u) e
  obtain ⟨h3, h4⟩ := kill_old h1
  refine ⟨h4, ?_⟩
  simp only [memB, cond_eq_ite]
  rw [if_neg (fun hq => h3 (beq_eq hq)), h2]
theorem killAll_length : ∀ (u : List Nat) (h : Heap), (killAll u h).length = h.length
 | [], _ => rfl
 | b :: u, h => by rw [killAll, killAll_length u]; simp
theorem readRC_bind (c : RC) (v : AV) (h : Heap) (u : List Nat) (k : c.D → List Nat → Option R) : readRC c v h u k = (readRC c v h u fun d u => some (d, u)).bind fun p => k p.1 p.2 := by
 cases c with
 | ro c =>
  show readSl c v h (fun l => k l u) = (readSl c v h fun l => some (l, u)).bind fun p => k p.1 p.2
  rw [readSl_bind c v h fun l => k l u, readSl_bind c v h fun l => some (l, u)]
  cases readSl c v h some <;> rfl
 | own c e => cases v with
  | whole b =>
   simp only [readRC, cond_eq_ite]
   split
   · split
     · split <;> rfl
     · rfl
   · rfl
  | _ => rfl
 | _ => cases v with
  | int kd n => cases kd <;> rfl
  | _ => rfl
theorem readRL_bind : ∀ {R : Type} (l : List RC) (vs : List AV) (h : Heap) (u : List Nat) (k : RL l → List Nat → Option R), readRL l vs h u k = (readRL l vs h u fun d u => some (d, u)).bind fun p => k p.1 p.2
 | _, [], [], h, u, k => rfl
 | _, [c], [v], h, u, k => readRC_bind c v h u k
 | _, c :: d :: l, v :: vs, h, u, k => by
  have e1 : ∀ {R' : Type} (k' : RL (c :: d :: l) → List Nat → Option R'), readRL (c :: d :: l) (v :: vs) h u k' = (readRC c v h u fun d u => some (d, u)).bind fun p => (readRL (d :: l) vs h p.2 fun d u => some (d, u)).bind fun q => k' (p.1, q.1) q.2 := fun k' => by
   refine (readRC_bind c v h u _).trans ?_
   congr 1
   funext p
   exact readRL_bind (d :: l) vs h p.2 _
  rw [e1 k, e1 fun d u => some (d, u)]
  cases readRC c v h u fun d u => some (d, u) with
  | none => rfl
  | some p =>
   show ((readRL (d :: l) vs h p.2 _).bind _) = ((readRL (d :: l) vs h p.2 _).bind _).bind _
   cases readRL (d :: l) vs h p.2 fun d u => some (d, u) <;> rfl
 | _, [], _ :: _, _, _, _ => rfl
 | _, [_], [], _, _, _ => rfl
 | _, [_], _ :: _ :: _, _, _, _ => rfl
 | _, _ :: _ :: _, [], _, _, _ => rfl
theorem HR.revive (H : HR X N0 W0 ρ h W) {b : Nat} {c : Cell} {inf : BI} (hb : b < h.length) (h0 : cellAt h b = none) (hi : ρ b = some inf) (hok : CellOK ρ W b c inf) (hown : inf.ph = false → (X inf.m ∨ N0 ≤ inf.m) ∧ inf.m < W.heap.size)
 (hap : ∀ b' c' i, cellAt h b' = some c' → ρ b' = some i → i.ph = false → inf.ph = false → i.m ≠ inf.m) (hops : ∀ l, c.rows ≠ .ops l) : HR X N0 W0 ρ (h.set b (some c)) W := by
 have old : ∀ b' c', cellAt (h.set b (some c)) b' = some c' → (b' = b ∧ c' = c) ∨ (b' ≠ b ∧ cellAt h b' = some c') := by
  intro b' c' e
  by_cases hq : b = b'
  · subst hq
    rw [cellAt_set_same hb] at e
    exact .inl ⟨rfl, (Option.some.inj e).symm⟩
  · rw [cellAt_set_other hq] at e
    exact .inr ⟨Ne.symm hq, e⟩
 refine ⟨fun b' c' e => ?_, fun b1 c1 b2 c2 i1 i2 e1 hw e2 hne r1 r2 p1 p2 => ?_, fun b' c' i e hw r p => ?_, fun b' c' i e r p => ?_, fun b' hb' => H.dom b' (by simpa using hb'), H.fr, H.n0, fun b' c' l i e hl r => ?_⟩
 · rcases old b' c' e with ⟨rfl, rfl⟩ | ⟨_, e⟩
   · exact ⟨inf, hi, hok⟩
   · exact H.ok b' c' e
 · rcases old b1 c1 e1 with ⟨rfl, rfl⟩ | ⟨n1, k1⟩ <;> rcases old b2 c2 e2 with ⟨rfl, rfl⟩ | ⟨n2, k2⟩
   · exact absurd rfl hne
   · rw [hi] at r1
     cases r1
     exact Ne.symm (hap b2 c2 i2 k2 r2 p2 p1)
   · rw [hi] at r2
     cases r2
     exact hap b1 c1 i1 k1 r1 p1 p2
   · exact H.inj b1 c1 b2 c2 i1 i2 k1 hw k2 hne r1 r2 p1 p2
 · rcases old b' c' e with ⟨rfl, rfl⟩ | ⟨_, e⟩
   · rw [hi] at r
     cases r
     exact (hown p).1
   · exact H.own b' c' i e hw r p
 · rcases old b' c' e with ⟨rfl, rfl⟩ | ⟨_, e⟩
   · rw [hi] at r
     cases r
     exact (hown p).2
   · exact H.lt b' c' i e r p
 · rcases old b' c' e with ⟨rfl, rfl⟩ | ⟨_, e⟩
   · exact absurd hl (hops l)
   · exact H.inn b' c' l i e hl r
def MeetsIO (P : Program) (f : FuncId) (s : SigIO) (y : RL s.io) (d : DA s.args) (r : RL s.io × DR s.res) : Prop :=
 ∃ v2 h2 sz2 row2 vs u, cellAt h2 0 = some ⟨true, false, false, 0, .gen sz2 [row2]⟩ ∧ resList s.res v2 = some vs ∧ (tellL s.io row2 h2 [] fun z w => some (z, w)) = some (r.1, u) ∧ (tellR s.res vs h2 u fun q _ => some q) = some r.2 ∧
  CallOK P f (.ptr 0 0 0 :: (layA s.args d (1 + (layRL s.io y 1).2.length)).1) (some ⟨true, false, false, 0, .gen s.io.length [(layRL s.io y 1).1]⟩ :: ((layRL s.io y 1).2 ++ (layA s.args d (1 + (layRL s.io y 1).2.length)).2)) v2 h2
theorem layRL_length : ∀ (l : List RC) (d : RL l) (n : Nat), (layRL l d n).1.length = l.length
 | [], _, _ => rfl
 | [c], _, _ => rfl
 | c :: d :: l, x, n => by
  show (_ :: (layRL (d :: l) x.2 _).1).length = _
  rw [List.length_cons, layRL_length (d :: l)]
  rfl
theorem contractIO_sound {P : Program} {s : SigIO} {F : RL s.io → DA s.args → Option (RL s.io × DR s.res)} {f : FuncId} (hro : noRo s.io = true) (hF : ∀ y d r, F y d = some r → MeetsIO P f s y d r) {args : List AV} {h : Heap} {k : AV → Heap → Option R} (he : contractIO s F args h k = some x) :
 ∃ v h', k v h' = some x ∧ CallOK P f args h v h' := by
 unfold contractIO at he
 split at he
 case h_2 => cases he
 rename_i b args
 split at he
 case h_2 => cases he
 rename_i sz row hcb
 rw [readRL_bind] at he
 obtain ⟨⟨y, used⟩, hy, he⟩ := Option.bind_eq_some_iff.1 he
 dsimp only at he
 rw [readA_bind] at he
 obtain ⟨d, hd, he⟩ := Option.bind_eq_some_iff.1 he
 split at he
 case h_1 => cases he
 rename_i r hr
 obtain ⟨v2, h2, sz2, row2, vs, u, hc0, hres, htl, htr, hlen2, ⟨fn, hfn, hb, hnm⟩, hcall⟩ := hF y d r hr
 have hbl := cellAt_lt hcb
 have hul : ((killAll used h).set b none).length = h.length := by simp [killAll_length]
 refine ⟨_, _, he, by simp [killAll_length], ⟨fn, hfn, hb, hnm⟩, fun X N0 W0 ρ W args0 H hv => ?_⟩
 cases hv with | @cons _ vp _ args' hvp hv =>
 have gsub : ∀ b' c, cellAt ((killAll used h).set b none) b' = some c → cellAt h b' = some c ∧ memB b' used = false ∧ b' ≠ b := fun b' c e => by
  obtain ⟨h1, h3⟩ := kill_old e
  obtain ⟨h4, h5⟩ := killAll_cell h3
  exact ⟨h4, h5, Ne.symm h1⟩
 have Hg : HR X N0 W0 ρ ((killAll used h).set b none) W := H.sub (fun b c e => (gsub b c e).1) hul
 obtain ⟨infb, hib, okb⟩ := H.ok b _ hcb
 obtain ⟨infb', hib', rfl⟩ := hvp.ptr_inv
 rw [hib] at hib'
 cases hib'
 have hpb : infb.ph = false := by
  cases hp : infb.ph with
  | false => rfl
  | true => have := (okb.ph hp).1; simp [Rows.len] at this
 have hrow : (Rows.list b (.gen sz [row]))[0]? = some row := rfl
 have hlen := okb.row 0 row hrow
 have hsz : infb.sz = sz := okb.sz rfl
 obtain ⟨hmb, hfz⟩ := okb.wr rfl hpb
 have gather : ∀ (W : World) (ρ : Ren) (b : Nat) (sz : Nat) (row : List AV), CellOK ρ W b ⟨true, false, false, 0, .gen sz [row]⟩ infb → ∃ us, VRs ρ row us ∧ ∀ (j : Nat) (u' : Value), us[j]? = some u' → W.cell? ⟨infb.m, infb.base + j, none⟩ = some u' ∧ u'.oneCell' = true := by
  intro W ρ b sz row ok
  have hcells : ∀ j u, row[j]? = some u → ∃ u', W.cell? ⟨infb.m, infb.base + j, none⟩ = some u' ∧ VR ρ u u' ∧ u'.oneCell' = true := fun j u hj => by
   obtain ⟨u', h1, h2⟩ := ok.cell 0 row j u rfl hj
   exact ⟨u', by simpa using h1, h2⟩
  let f : Nat → Value := fun j => (W.cell? ⟨infb.m, infb.base + j, none⟩).getD undef
  refine ⟨(List.range row.length).map f, VRs.of_get (by simp) fun j u u' hj hu => ?_, fun j u' hj => ?_⟩
  · obtain ⟨u2, h1, h2, _⟩ := hcells j u hj
    rw [List.getElem?_map, List.getElem?_range (List.getElem?_eq_some_iff.1 hj).1] at hu
    simp only [Option.map_some, Option.some.injEq] at hu
    subst hu
    simpa [f, h1] using h2
  · have hjl : j < row.length := by
     have := (List.getElem?_eq_some_iff.1 hj).1
     simpa using this
    obtain ⟨u2, k1, k2, k3⟩ := hcells j _ (List.getElem?_eq_getElem hjl)
    rw [List.getElem?_map, List.getElem?_range hjl] at hj
    simp only [Option.map_some, Option.some.injEq] at hj
    subst hj
    simpa [f, k1] using k3
 obtain ⟨us, hus, hcells⟩ := gather W ρ b sz row okb
 obtain ⟨y', used', is1, h1, _, husd, hl1⟩ := readRL_laid (n := 1) H hro hus hy
 cases h1
 have hheld : ∀ m, Held ρ h [b] used m → m ≠ infb.m := fun m ⟨b', c', i', e, hw, q1, q2, hi, hp, hm⟩ => by
  rw [← hm]
  refine H.inj b' c' b _ i' infb e hw hcb ?_ hi hib hp hpb
  rintro rfl
  rw [memB_cons.2 (.inl rfl)] at q1
  cases q1
 have hl2 := (hl1.boxF (inf := infb) (sz := s.io.length) hpb (by rw [layRL_length, ← hlen]; have := (hl1.val (fun i => if i < 1 then none else is1[i - 1]?) (fun i inf e => by simpa using e)).length; rw [layRL_length] at this; rw [this, ← hus.length]) hmb hcells hfz (fun h => h) (fun h => hheld _ h rfl) (layRL_length _ _ _).symm).monoS (S' := Src X N0 ρ ((killAll used h).set b none)) (fun _ h => h.elim)
 obtain ⟨d', is2, hd', hl3⟩ := readA_laid (x := d) (k := some) (n := 0 + (some (⟨true, false, false, 0, .gen s.io.length [(layRL s.io y 1).1]⟩ : Cell) :: (layRL s.io y 1).2).length) Hg (h := []) (h0 := h) H (fun _ _ e => by rw [cellAt_nil] at e; cases e) hv (fun _ _ e => by rw [cellAt_nil] at e; cases e) (fun _ _ _ e => by rw [cellAt_nil] at e; cases e) hd
 cases hd'
 have hO : ∀ m, Held ρ h [b] used m ∨ m = infb.m → ∃ b' c i, cellAt h b' = some c ∧ c.wr = true ∧ (memB b' used = true ∨ b' = b) ∧ ρ b' = some i ∧ i.ph = false ∧ i.m = m := by
  rintro m (⟨b', c', i', e, hw, q1, q2, hi, hp, hm⟩ | rfl)
  · exact ⟨b', c', i', e, hw, .inl q2, hi, hp, hm⟩
  · exact ⟨b, _, infb, hcb, rfl, .inr rfl, hib, hpb, rfl⟩
 have hdis : ∀ m, Src X N0 ρ ((killAll used h).set b none) m → ¬ (Held ρ h [b] used m ∨ m = infb.m) := fun m hs ho => by
  obtain ⟨b', c', i', k1, k2, k3, k4, k5, k6⟩ := hO m ho
  rcases hs with ⟨b1, c1, i1, e1, r1, p1, m1⟩ | ⟨n1, n2⟩
  · obtain ⟨g1, g2, g3⟩ := gsub b1 c1 e1
    refine H.inj b' c' b1 c1 i' i1 k1 k2 g1 ?_ k4 r1 k5 p1 (k6.trans m1.symm)
    rintro rfl
    rcases k3 with k3 | k3
    · rw [k3] at g2; cases g2
    · exact g3 k3
  · rcases H.own b' c' i' k1 k2 k4 k5 with q | q
    · exact n2 (k6 ▸ q)
    · omega
 have hl4 := (hl2.append hl3 hdis (fun m _ ho => by obtain ⟨_, _, _, e, _⟩ := ho; rw [cellAt_nil] at e; cases e) (fun m _ ho => by obtain ⟨_, _, _, e, _⟩ := ho; rw [cellAt_nil] at e; cases e)).mono (O2 := fun m => Held ρ h [b] used m ∨ m = infb.m) (fun m hm => hm.elim id fun ho => by obtain ⟨_, _, _, e, _⟩ := ho; rw [cellAt_nil] at e; cases e)
 rw [show 0 + (some (⟨true, false, false, 0, .gen s.io.length [(layRL s.io y 1).1]⟩ : Cell) :: (layRL s.io y 1).2).length = 1 + (layRL s.io y 1).2.length by simp [Nat.add_comm]] at hl4
 have hX : ∀ m, (Held ρ h [b] used m ∨ m = infb.m) ∨ W.heap.size ≤ m → X m ∨ N0 ≤ m := by
  rintro m (hm | hm)
  · obtain ⟨b', c, i, k1, k2, _, k4, k5, rfl⟩ := hO m hm
    exact H.own b' c i k1 k2 k4 k5
  · exact .inr (Nat.le_trans H.n0 hm)
 simp only [Nat.zero_mul, Nat.add_zero]
 refine (hcall _ _ _ _ _ _ hl4.heap (hl4.val _ fun i inf e => by simpa using e)).mono fun e W' ⟨v', ρ2, he', H2, ha2, hv2⟩ => ?_
 obtain ⟨vs', hvs, rfl⟩ := resList_sound hres (tellR_length htr) hv2
 have hi0 : ρ2 0 = some infb := (ha2 0 (by simp)).trans rfl
 obtain ⟨i0, hi0', ok0⟩ := H2.ok 0 _ hc0
 rw [hi0] at hi0'
 cases hi0'
 obtain ⟨us2, hus2, hcells2⟩ := gather W' ρ2 0 sz2 row2 ok0
 obtain ⟨y2, u2, hy2, hh1⟩ := tellL_hand (X := X) (N0 := N0) (W0 := W0) H2 hX hus2 htl
 cases hy2
 obtain ⟨q, u3, hq, hh2⟩ := tellR_hand (X := X) (N0 := N0) (W0 := W0) H2 hX hvs htr
 cases hq
 have hh := hh1.append hh2
 have hapart : ∀ b1 c1 i1, cellAt ((killAll used h).set b none) b1 = some c1 → ρ b1 = some i1 → i1.ph = false → ∀ m, (Held ρ h [b] used m ∨ m = infb.m) → m ≠ i1.m := by
  intro b1 c1 i1 e1 r1 p1 m ho
  obtain ⟨b', c', i', k1, k2, k3, k4, k5, rfl⟩ := hO m ho
  obtain ⟨g1, g2, g3⟩ := gsub b1 c1 e1
  refine H.inj b' c' b1 c1 i' i1 k1 k2 g1 ?_ k4 r1 k5 p1
  rintro rfl
  rcases k3 with k3 | k3
  · rw [k3] at g2; cases g2
  · exact g3 k3
 have HW : HR X N0 W0 ρ ((killAll used h).set b none) W' := by
  refine Hg.world ⟨H2.fr.os, H2.fr.tape, H2.fr.output, H2.fr.size, fun k hk hx => H2.fr.block k (Nat.lt_of_lt_of_le hk H.n0) fun ho => ?_⟩ fun k hk ⟨b1, c1, i1, e1, r1, p1, m1⟩ => H2.fr.block k hk fun ho => hapart b1 c1 i1 e1 r1 p1 k ho m1.symm
  rcases hX k (.inl ho) with q | q
  · exact hx q
  · omega
 obtain ⟨ρ', k1, k2, k3, F'⟩ := hh.2 ρ _ HW (fun b1 c1 i1 e1 r1 p1 b2 c2 i2 e2 hw2 _ hi2 hp2 hm => by
  have hlt := Hg.lt b1 c1 i1 e1 r1 p1
  rcases H2.own b2 c2 i2 e2 hw2 hi2 hp2 with q | q
  · exact hapart b1 c1 i1 e1 r1 p1 _ q hm.symm
  · omega)
 rw [hul] at k1 k2 k3 F'
 have hu3 : memB 0 u3 = false := by
  cases hq : memB 0 u3 with
  | false => rfl
  | true =>
   rcases hh.1 0 hq with q | ⟨c, q1, q2⟩
   · cases q
   · rw [hc0] at q1
     cases q1
     cases q2
 obtain ⟨vrow, vres⟩ : VRs ρ' (handL s.io r.1 h.length).1 us2 ∧ VRs ρ' (handR s.res r.2 (h.length + (handL s.io r.1 h.length).2.length)).1 vs' := by
  have hlu : (handL s.io r.1 h.length).1.length = us2.length := by
   obtain ⟨ρ9, _, _, q3, _⟩ := hh1.2 ρ _ HW (fun b1 c1 i1 e1 r1 p1 b2 c2 i2 e2 hw2 _ hi2 hp2 hm => by
    have hlt := Hg.lt b1 c1 i1 e1 r1 p1
    rcases H2.own b2 c2 i2 e2 hw2 hi2 hp2 with q | q
    · exact hapart b1 c1 i1 e1 r1 p1 _ q hm.symm
    · omega)
   rw [hul] at q3
   exact q3.length
  have a1 := k3.take us2.length
  have a2 := k3.drop us2.length
  rw [List.take_left' hlu, List.take_left' rfl] at a1
  rw [List.drop_left' hlu, List.drop_left' rfl] at a2
  exact ⟨a1, a2⟩
 have hib' : ρ' b = some infb := (k2 b hbl).trans hib
 have hszr : sz = (handL s.io r.1 h.length).1.length := by
  have q1 := ok0.row 0 row2 rfl
  rw [vrow.length, ← hus2.length, q1, hsz]
 have HF := k1.revive (b := b) (c := ⟨true, false, false, 0, .gen sz [(handL s.io r.1 h.length).1]⟩) (inf := infb) (by simp [killAll_length]; omega)
  (by rw [cellAt_append_left (by rw [hul]; exact hbl), cellAt_set_same (by rw [killAll_length]; exact hbl)]) hib'
  (genOK vrow hpb (hsz.trans hszr) (Nat.lt_of_lt_of_le hmb H2.fr.size) hcells2 (fun _ => (ok0.wr rfl hpb).2) hszr) (fun _ => ⟨H.own b _ infb hcb rfl hib hpb, Nat.lt_of_lt_of_le hmb H2.fr.size⟩)
  (fun b' c' i e hi hp _ => F' b' c' i e hi hp 0 _ infb hc0 rfl hu3 hi0 hpb) (fun l h => by cases h)
 rw [List.set_append_left _ _ (by rw [hul]; exact hbl), List.set_set] at HF
 exact ⟨_, ρ', he', HF, k2, single_sound vres⟩
theorem tellC_bind (c : RC) (v : AV) (h : Heap) (u : List Nat) (k : c.D → List Nat → Option R) : tellC c v h u k = (tellC c v h u fun d u => some (d, u)).bind fun p => k p.1 p.2 := by
 cases c with
 | own c e => cases v with
  | whole b => simp only [tellC, cond_eq_ite]; (repeat' split) <;> rfl
  | part b i n => cases i with
   | zero => simp only [tellC, cond_eq_ite]; (repeat' split) <;> rfl
   | succ i => rfl
  | _ => rfl
 | ro c => cases v with
  | whole b => simp only [tellC, cond_eq_ite]; (repeat' split) <;> rfl
  | part b i n => simp only [tellC, cond_eq_ite]; (repeat' split) <;> rfl
  | _ => rfl
 | _ => cases v with
  | int kd n => cases kd <;> rfl
  | _ => rfl
theorem tellL_bind : ∀ {R : Type} (l : List RC) (vs : List AV) (h : Heap) (u : List Nat) (k : RL l → List Nat → Option R), tellL l vs h u k = (tellL l vs h u fun d u => some (d, u)).bind fun p => k p.1 p.2
 | _, [], [], h, u, k => rfl
 | _, [c], [v], h, u, k => tellC_bind c v h u k
 | _, c :: d :: l, v :: vs, h, u, k => by
  have e1 : ∀ {R' : Type} (k' : RL (c :: d :: l) → List Nat → Option R'), tellL (c :: d :: l) (v :: vs) h u k' = (tellC c v h u fun d u => some (d, u)).bind fun p => (tellL (d :: l) vs h p.2 fun d u => some (d, u)).bind fun q => k' (p.1, q.1) q.2 := fun k' => by
   refine (tellC_bind c v h u _).trans ?_
   congr 1
   funext p
   exact tellL_bind (d :: l) vs h p.2 _
  rw [e1 k, e1 fun d u => some (d, u)]
  cases tellC c v h u fun d u => some (d, u) with
  | none => rfl
  | some p =>
   show ((tellL (d :: l) vs h p.2 _).bind _) = ((tellL (d :: l) vs h p.2 _).bind _).bind _
   cases tellL (d :: l) vs h p.2 fun d u => some (d, u) <;> rfl
 | _, [], _ :: _, _, _, _ => rfl
 | _, [_], [], _, _, _ => rfl
 | _, [_], _ :: _ :: _, _, _, _ => rfl
 | _, _ :: _ :: _, [], _, _, _ => rfl
theorem tell1_bind (c : R1) (v : AV) (h : Heap) (u : List Nat) (k : c.D → List Nat → Option R) : tell1 c v h u k = (tell1 c v h u fun d u => some (d, u)).bind fun p => k p.1 p.2 := by
 cases c with
 | cell c => exact tellC_bind c v h u k
 | el c => cases v with
  | agg row => simp only [tell1]; split <;> rfl
  | _ => rfl
 | agg l => cases v with
  | agg row => exact tellL_bind l row h u k
  | _ => rfl
theorem tellR_bind : ∀ {R : Type} (l : List R1) (vs : List AV) (h : Heap) (u : List Nat) (k : DR l → List Nat → Option R), tellR l vs h u k = (tellR l vs h u fun d u => some (d, u)).bind fun p => k p.1 p.2
 | _, [], [], h, u, k => rfl
 | _, [c], [v], h, u, k => tell1_bind c v h u k
 | _, c :: d :: l, v :: vs, h, u, k => by
  have e1 : ∀ {R' : Type} (k' : DR (c :: d :: l) → List Nat → Option R'), tellR (c :: d :: l) (v :: vs) h u k' = (tell1 c v h u fun d u => some (d, u)).bind fun p => (tellR (d :: l) vs h p.2 fun d u => some (d, u)).bind fun q => k' (p.1, q.1) q.2 := fun k' => by
   refine (tell1_bind c v h u _).trans ?_
   congr 1
   funext p
   exact tellR_bind (d :: l) vs h p.2 _
  rw [e1 k, e1 fun d u => some (d, u)]
  cases tell1 c v h u fun d u => some (d, u) with
  | none => rfl
  | some p =>
   show ((tellR (d :: l) vs h p.2 _).bind _) = ((tellR (d :: l) vs h p.2 _).bind _).bind _
   cases tellR (d :: l) vs h p.2 fun d u => some (d, u) <;> rfl
 | _, [], _ :: _, _, _, _ => rfl
 | _, [_], [], _, _, _ => rfl
 | _, [_], _ :: _ :: _, _, _, _ => rfl
 | _, _ :: _ :: _, [], _, _, _ => rfl
theorem MeetsIO.of_evIO {P : Program} {K : Kinds} {s : SigIO} {f : FuncId} {orc : Orc (RL s.io × DR s.res)} {lorc : LOrc (RL s.io × DR s.res)} (G : Ground P K) (hC : OrcOK P orc) (hL : LOrcOK P K lorc) {y : RL s.io} {d : DA s.args} {r : RL s.io × DR s.res} (he : evIO P K s orc lorc f y d = some r) : MeetsIO P f s y d r := by
 unfold evIO at he
 obtain ⟨v, h', hk, hc⟩ := evFun_sound G hC hL he
 split at hk
 case h_2 => cases hk
 rename_i sz row hc0
 rw [tellL_bind] at hk
 obtain ⟨⟨z, u⟩, hz, hk⟩ := Option.bind_eq_some_iff.1 hk
 dsimp only at hk
 split at hk
 case h_1 => cases hk
 rename_i vs hvs
 rw [tellR_bind] at hk
 obtain ⟨⟨q, u2⟩, hq, hk⟩ := Option.bind_eq_some_iff.1 hk
 cases hk
 refine ⟨v, h', sz, row, vs, u, hc0, hvs, hz, ?_, hc⟩
 rw [tellR_bind, hq]
 rfl
theorem OrcOK.addIO {P : Program} {s : SigIO} {F : RL s.io → DA s.args → Option (RL s.io × DR s.res)} {f : FuncId} (hro : noRo s.io = true) (hF : ∀ y d r, F y d = some r → MeetsIO P f s y d r) {rest : Orc R} (hR : OrcOK P rest) :
 OrcOK P fun g args h k => bif Nat.beq g f then contractIO s F args h k else rest g args h k := fun g args h k x he => by
 dsimp only at he
 cases hq : Nat.beq g f with
 | false => rw [hq] at he; exact hR g args h k x he
 | true =>
  rw [hq] at he
  have := beq_eq hq
  subst this
  exact contractIO_sound hro hF he
end
end Go.Abs
