/- Own: Operations on slices, numbers and interfaces: what the interpreter makes of them, the machine does. -/
import Derived.Test.YtmiajnodoigndaaGreatAbsE
namespace Go.Abs
open Go.RowKit
set_option linter.unusedVariables false
set_option linter.unusedSimpArgs false
section
variable {P : Program} {K : Kinds} {X : Nat → Prop} {N0 : Nat} {W0 W : World} {ρ : Ren} {h : Heap} {R : Type} {x : R}
theorem sizeT_some {t : TypeId} {n : Nat} (h : sizeT P t = some n) : ∃ ti, P.info? t = some ti ∧ ti.size = n := by
 unfold sizeT at h
 split at h
 · rename_i ti hti
   exact ⟨ti, hti, Option.some.inj h⟩
 · cases h
theorem VR.whole_inv {b : Nat} {v : Value} (h : VR ρ (.whole b) v) : ∃ inf A n c, ρ b = some inf ∧ v = .slice A n c ∧ inf.v = .slice A n c := by
 cases h with | whole h hv => exact ⟨_, _, _, _, h, rfl, hv⟩
theorem VR.part_inv {b i n : Nat} {v : Value} (h : VR ρ (.part b i n) v) : ∃ inf A c, ρ b = some inf ∧ v = .slice A n c ∧ n ≤ c ∧ (∃ A0 l0 cap, inf.v = .slice A0 l0 cap ∧ i + c = cap ∧ (0 < c → A = A0.map (·.add (i * inf.sz))) ∧ i + n ≤ l0 ∧ (i = 0 → A = A0)) ∧
 (0 < n → A = some ⟨inf.m, inf.base + i * inf.sz, none⟩) := by
 cases h with | part h hc hcap hA => exact ⟨_, _, _, h, rfl, hc, hcap, hA⟩
theorem VR.lim_inv {b i n : Nat} {v : Value} (h : VR ρ (.lim b i n) v) : ∃ inf A c, ρ b = some inf ∧ v = .slice A n c ∧ n ≤ c ∧ (0 < n → A = some ⟨inf.m, inf.base + i * inf.sz, none⟩) ∧ (0 < n → ∃ A0 l0 cap, inf.v = .slice A0 l0 cap ∧ i + n ≤ l0) := by
 cases h with | lim h hc hA hl => exact ⟨_, _, _, h, rfl, hc, hA, hl⟩
theorem VR.ptr_inv {b i o : Nat} {v : Value} (h : VR ρ (.ptr b i o) v) : ∃ inf, ρ b = some inf ∧ v = .pointer (some ⟨inf.m, inf.base + i * inf.sz + o, none⟩) := by
 cases h with | ptr h => exact ⟨_, h, rfl⟩
theorem opIndexAddr_sound {t : TypeId} {a ix : AV} {a' ix' : Value} {k : AV → Option R} (H : HR X N0 W0 ρ h W) (ha : VR ρ a a') (hix : VR ρ ix ix') (he : opIndexAddr P t a ix h k = some x) :
 ∃ v v', (Instr.indexAt t a' ix').run P W = .ok v' W ∧ VR ρ v v' ∧ k v = some x := by
 unfold opIndexAddr at he
 split at he
 case h_2 => cases he
 rename_i kd j
 cases hix
 split at he
 case h_5 => cases he
 case h_1 e b hu =>
  split at he
  case h_2 => cases he
  rename_i c s hc hs
  simp only [cond_eq_ite, Bool.and_eq_true, decide_eq_true_eq, Nat.beq_eq] at he
  split at he
  case isFalse => cases he
  rename_i hsl
  split at he
  case isFalse => cases he
  rename_i hj
  obtain ⟨inf, hi, ok⟩ := H.ok b c hc
  obtain ⟨inf', A, n, cap, hi', rfl, hv⟩ := ha.whole_inv
  rw [hi] at hi'
  cases hi'
  obtain ⟨hfl, A', cap', hv', hle, hA⟩ := ok.sl hsl.1
  rw [hv] at hv'
  cases hv'
  obtain ⟨ti, hti, hts⟩ := sizeT_some hs
  have hA0 := hA (by omega)
  subst hA0
  refine ⟨_, .pointer (some ⟨inf.m, inf.base + j.toNat * inf.sz, none⟩), ?_, .ptr (o := 0) hi, he⟩
  have hsz := ok.sz hfl
  simp [Instr.indexAt, asIntOf, run_underlying hu, hj, sizeOf, typeInfo, hti, hts, hsl.2, ← hsz, add_off]
 case h_2 e b i n hu =>
  split at he
  case h_2 => cases he
  rename_i c s hc hs
  simp only [cond_eq_ite, Bool.and_eq_true, decide_eq_true_eq, Nat.beq_eq] at he
  split at he
  case isFalse => cases he
  rename_i hsl
  split at he
  case isFalse => cases he
  rename_i hj
  obtain ⟨inf, hi, ok⟩ := H.ok b c hc
  obtain ⟨inf', A, cap, hi', rfl, hcn, _, hA⟩ := ha.part_inv
  rw [hi] at hi'
  cases hi'
  obtain ⟨hfl, _⟩ := ok.sl hsl.1
  obtain ⟨ti, hti, hts⟩ := sizeT_some hs
  have hA0 := hA (by omega)
  subst hA0
  have hsz := ok.sz hfl
  refine ⟨_, .pointer (some ⟨inf.m, inf.base + (i + j.toNat) * inf.sz, none⟩), ?_, .ptr (o := 0) hi, he⟩
  simp [Instr.indexAt, asIntOf, run_underlying hu, hj, sizeOf, typeInfo, hti, hts, hsl.2, ← hsz, add_off, Nat.add_mul, Nat.add_assoc]
 case h_3 e b i n hu =>
  split at he
  case h_2 => cases he
  rename_i c s hc hs
  simp only [cond_eq_ite, Bool.and_eq_true, decide_eq_true_eq, Nat.beq_eq] at he
  split at he
  case isFalse => cases he
  rename_i hsl
  split at he
  case isFalse => cases he
  rename_i hj
  obtain ⟨inf, hi, ok⟩ := H.ok b c hc
  obtain ⟨inf', A, cap, hi', rfl, hcn, hA, hll⟩ := ha.lim_inv
  rw [hi] at hi'
  cases hi'
  obtain ⟨hfl, _⟩ := ok.sl hsl.1
  obtain ⟨ti, hti, hts⟩ := sizeT_some hs
  have hA0 := hA (by omega)
  subst hA0
  have hsz := ok.sz hfl
  refine ⟨_, .pointer (some ⟨inf.m, inf.base + (i + j.toNat) * inf.sz, none⟩), ?_, .ptr (o := 0) hi, he⟩
  simp [Instr.indexAt, asIntOf, run_underlying hu, hj, sizeOf, typeInfo, hti, hts, hsl.2, ← hsz, add_off, Nat.add_mul, Nat.add_assoc]
 case h_4 n e b i o hu =>
  split at he
  case h_2 => cases he
  rename_i s hs
  obtain ⟨m, _, hm, hj, he⟩ := upTo_some _ _ he
  obtain ⟨inf, hi, rfl⟩ := ha.ptr_inv
  obtain ⟨ti, hti, hts⟩ := sizeT_some hs
  have hm' : m < n := by omega
  refine ⟨_, .pointer (some ⟨inf.m, inf.base + i * inf.sz + (o + m * s), none⟩), ?_, .ptr hi, he⟩
  subst hj
  simp [Instr.indexAt, asIntOf, run_underlying hu, hm', sizeOf, typeInfo, hti, hts, Instr.sureAddr, add_off, Nat.add_assoc]
theorem bound_some {y : Option AV} {d m : Nat} {k : Nat → Option R} (he : bound y d m k = some x) : ∃ n, k n = some x ∧ ((y = none ∧ n = d) ∨ ∃ kd j, y = some (.int kd j) ∧ 0 ≤ j ∧ j ≤ m ∧ n = j.toNat) := by
 unfold bound at he
 split at he
 · exact ⟨d, he, .inl ⟨rfl, rfl⟩⟩
 · rename_i kd j
   simp only [cond_eq_ite, Bool.and_eq_true, decide_eq_true_eq] at he
   split at he
   case isFalse => cases he
   rename_i hj
   exact ⟨_, he, .inr ⟨kd, j, rfl, hj.1, hj.2, rfl⟩⟩
 · cases he
inductive VRo (ρ : Ren) : Option AV → Option Value → Prop
 | none : VRo ρ none none
 | some {v : AV} {v' : Value} (h : VR ρ v v') : VRo ρ (some v) (some v')
theorem run_sliceBound {kd : IntKind} {j : Int} {y : Nat} {code : BoundsCode} (h0 : 0 ≤ j) (h1 : j ≤ y) (W : World) : (Instr.sliceBound (.int kd j) y code).run P W = .ok j.toNat W := by
 simp [Instr.sliceBound, asIntOf, h0, h1]
theorem bounds_run {lo hi mx : Option AV} {lo' hi' mx' : Option Value} {l hh m len cap most : Nat} {isSlice : Bool} (hlo : VRo ρ lo lo') (hhi : VRo ρ hi hi') (hmx : VRo ρ mx mx') (hmost : most ≤ cap)
 (h1 : (mx = none ∧ m = most) ∨ ∃ kd j, mx = some (.int kd j) ∧ 0 ≤ j ∧ j ≤ most ∧ m = j.toNat)
 (h2 : (hi = none ∧ hh = len) ∨ ∃ kd j, hi = some (.int kd j) ∧ 0 ≤ j ∧ j ≤ m ∧ hh = j.toNat)
 (h3 : (lo = none ∧ l = 0) ∨ ∃ kd j, lo = some (.int kd j) ∧ 0 ≤ j ∧ j ≤ hh ∧ l = j.toNat) (hok : mx ≠ none → hi ≠ none) (hlen : len ≤ most) (W : World) :
 (Instr.sliceBounds isSlice len cap lo' hi' mx').run P W = .ok (l, hh, if mx = none then cap else m) W ∧ l ≤ hh ∧ hh ≤ m ∧ m ≤ most := by
 have e1 : m ≤ most := by rcases h1 with ⟨_, rfl⟩ | ⟨kd, j, _, h0, h1, rfl⟩ <;> omega
 have e2 : hh ≤ m := by
  rcases h2 with ⟨rfl, rfl⟩ | ⟨kd, j, _, h0, h2, rfl⟩
  · rcases h1 with ⟨_, rfl⟩ | ⟨kd, j, rfl, h0, h1, rfl⟩
    · exact hlen
    · exact absurd rfl (hok (by simp))
  · omega
 have e3 : l ≤ hh := by rcases h3 with ⟨_, rfl⟩ | ⟨kd, j, _, h0, h3, rfl⟩ <;> omega
 refine ⟨?_, e3, e2, e1⟩
 rcases h1 with ⟨rfl, rfl⟩ | ⟨kd, j, rfl, j0, j1, rfl⟩
 · cases hmx
   rcases h2 with ⟨rfl, rfl⟩ | ⟨kd2, j2, rfl, j20, j21, rfl⟩
   · cases hhi
     rcases h3 with ⟨rfl, rfl⟩ | ⟨kd3, j3, rfl, j30, j31, rfl⟩
     · cases hlo
       simp [Instr.sliceBounds]
     · cases hlo with | some hlo => cases hlo; simp [Instr.sliceBounds, run_sliceBound j30 j31]
   · cases hhi with | some hhi =>
     cases hhi
     have hj2 : j2 ≤ (cap : Int) := by omega
     rcases h3 with ⟨rfl, rfl⟩ | ⟨kd3, j3, rfl, j30, j31, rfl⟩
     · cases hlo
       simp [Instr.sliceBounds, run_sliceBound j20 hj2]
     · cases hlo with | some hlo =>
       cases hlo
       simp [Instr.sliceBounds, run_sliceBound j20 hj2, run_sliceBound j30 j31]
 · cases hmx with | some hmx =>
   cases hmx
   have hj1 : j ≤ (cap : Int) := by omega
   rcases h2 with ⟨rfl, rfl⟩ | ⟨kd2, j2, rfl, j20, j21, rfl⟩
   · exact absurd rfl (hok (by simp))
   · cases hhi with | some hhi =>
     cases hhi
     rcases h3 with ⟨rfl, rfl⟩ | ⟨kd3, j3, rfl, j30, j31, rfl⟩
     · cases hlo
       simp [Instr.sliceBounds, run_sliceBound j0 hj1, run_sliceBound j20 j21]
     · cases hlo with | some hlo =>
       cases hlo
       simp [Instr.sliceBounds, run_sliceBound j0 hj1, run_sliceBound j20 j21, run_sliceBound j30 j31]
theorem add_add (q : Addr) (a b : Nat) : (q.add a).add b = q.add (a + b) := by
 unfold Addr.add
 by_cases ha : a = 0
 · simp [ha]
 · by_cases hb : b = 0
   · simp [ha, hb]
   · rw [if_neg ha, if_neg hb, if_neg (by omega)]
     simp [Nat.add_assoc]
theorem opSlice_sound {t : TypeId} {a : AV} {a' : Value} {lo hi mx : Option AV} {lo' hi' mx' : Option Value} {k : AV → Heap → Option R} (H : HR X N0 W0 ρ h W) (ha : VR ρ a a') (hlo : VRo ρ lo lo') (hhi : VRo ρ hi hi') (hmx : VRo ρ mx mx')
 (hok : mx ≠ none → hi ≠ none) (he : opSlice P t a lo hi mx h k = some x) : ∃ v v', (Instr.sliceAt t a' lo' hi' mx').run P W = .ok v' W ∧ VR ρ v v' ∧ k v h = some x := by
 unfold opSlice at he
 split at he
 case h_5 => cases he
 case h_1 e b hu =>
  split at he
  case h_2 => cases he
  rename_i c s hc hs
  simp only [cond_eq_ite, Bool.and_eq_true, Nat.beq_eq] at he
  split at he
  case isFalse => cases he
  rename_i hsl
  obtain ⟨m, he, b1⟩ := bound_some he
  obtain ⟨hh, he, b2⟩ := bound_some he
  obtain ⟨l, he, b3⟩ := bound_some he
  obtain ⟨inf, hin, ok⟩ := H.ok b c hc
  obtain ⟨inf', A, n, cap, hi', rfl, hv⟩ := ha.whole_inv
  rw [hin] at hi'
  cases hi'
  obtain ⟨hfl, A', cap', hv', hle, hA⟩ := ok.sl hsl.1
  rw [hv] at hv'
  cases hv'
  obtain ⟨ti, hti, hts⟩ := sizeT_some hs
  have hsz := ok.sz hfl
  obtain ⟨hr, g1, g2, g3⟩ := bounds_run (P := P) (isSlice := true) hlo hhi hmx hle b1 b2 b3 hok (Nat.le_refl _) W
  have hrun : (Instr.sliceAt t (.slice A c.rows.len cap) lo' hi' mx').run P W = .ok (.slice (if (if mx = none then cap else m) = l then A else A.map (·.add (l * inf.sz))) (hh - l) ((if mx = none then cap else m) - l)) W := by
   simp [Instr.sliceAt, Instr.slice, run_underlying hu, hr, sizeOf, typeInfo, hti, hts, hsl.2, ← hsz]
  have hA' : 0 < hh - l → (if (if mx = none then cap else m) = l then A else A.map (·.add (l * inf.sz))) = some ⟨inf.m, inf.base + l * inf.sz, none⟩ := by
   intro h0
   have := hA (by omega)
   subst this
   rw [if_neg]
   · simp [add_off]
   · split <;> omega
  have hn : hh - l ≤ (if mx = none then cap else m) - l := by split <;> omega
  split at he
  · exact ⟨_, _, hrun, .lim hin hn hA' (fun h0 => ⟨A, _, cap, hv, by omega⟩), he⟩
  · refine ⟨_, _, hrun, .part hin hn ⟨A, _, cap, hv, ?_, ?_, by omega, fun h0 => ?_⟩ hA', he⟩
    · simp
      omega
    · intro h0
      simp only [if_true] at h0 ⊢
      rw [if_neg (by omega)]
    · subst h0
      cases A <;> simp [Addr.add]
  · exact ⟨_, _, hrun, .dead, he⟩
 case h_2 e b i n hu =>
  split at he
  case h_2 => cases he
  rename_i c s hc hs
  simp only [cond_eq_ite, Bool.and_eq_true, Nat.beq_eq] at he
  split at he
  case isFalse => cases he
  rename_i hsl
  obtain ⟨inf, hin, ok⟩ := H.ok b c hc
  obtain ⟨inf', A, cap, hi', rfl, hcn, ⟨A0, l0, cap0, hv, hcap, hAc, hl0, hA00⟩, hA⟩ := ha.part_inv
  rw [hin] at hi'
  cases hi'
  obtain ⟨hfl, A', cap', hv', hle, hA0⟩ := ok.sl hsl.1
  rw [hv] at hv'
  cases hv'
  obtain ⟨ti, hti, hts⟩ := sizeT_some hs
  have hsz := ok.sz hfl
  split at he
  · simp only [Nat.ble_eq] at he
    have hfit : i + n ≤ c.rows.len := hl0
    rw [if_pos hfit] at he
    obtain ⟨hh, he, b2⟩ := bound_some he
    obtain ⟨l, he, b3⟩ := bound_some he
    obtain ⟨hr, g1, g2, g3⟩ := bounds_run (P := P) (isSlice := true) (cap := cap) hlo hhi hmx (by omega) (.inl ⟨rfl, rfl⟩) b2 b3 hok (by omega) W
    have hrun : (Instr.sliceAt t (.slice A n cap) lo' hi' mx').run P W = .ok (.slice (if cap = l then A else A.map (·.add (l * inf.sz))) (hh - l) (cap - l)) W := by
     simp [Instr.sliceAt, Instr.slice, run_underlying hu, hr, sizeOf, typeInfo, hti, hts, hsl.2, ← hsz]
    have hlc : l ≤ cap := by omega
    have hAA : 0 < cap - l → (if cap = l then A else A.map (·.add (l * inf.sz))) = A0.map (·.add ((i + l) * inf.sz)) := by
     intro h0
     rw [if_neg (by omega), hAc (by omega)]
     cases A0 with
     | none => rfl
     | some q => simp [add_add, Nat.add_mul]
    refine ⟨_, _, hrun, .part hin (by omega) ⟨A0, _, cap0, hv, by omega, hAA, by omega, fun h0 => ?_⟩ ?_, he⟩
    case refine_1 =>
     obtain rfl : l = 0 := by omega
     rw [hA00 (by omega)]
     cases A0 <;> simp [Addr.add]
    intro h0
    rw [hAA (by omega), hA0 (by omega)]
    simp [add_off]
  · simp only [Nat.ble_eq] at he
    have hfit : i + n ≤ c.rows.len := hl0
    rw [if_pos hfit] at he
    obtain ⟨m, he, b1⟩ := bound_some he
    obtain ⟨hh, he, b2⟩ := bound_some he
    obtain ⟨l, he, b3⟩ := bound_some he
    obtain ⟨hr, g1, g2, g3⟩ := bounds_run (P := P) (isSlice := true) (cap := cap) (len := n) (most := c.rows.len - i) hlo hhi hmx (by omega) (by rcases b1 with ⟨e1, _⟩ | b1; cases e1; exact .inr b1) b2 b3 hok (by omega) W
    exact ⟨_, .slice (if m = l then A else A.map (·.add (l * inf.sz))) (hh - l) (m - l), by simp [Instr.sliceAt, Instr.slice, run_underlying hu, hr, sizeOf, typeInfo, hti, hts, hsl.2, ← hsz], .dead, he⟩
 case h_3 e b i n hu =>
  split at he
  case h_2 => cases he
  rename_i c s hc hs
  simp only [cond_eq_ite, Bool.and_eq_true, Nat.beq_eq] at he
  split at he
  case isFalse => cases he
  rename_i hsl
  obtain ⟨m, he, b1⟩ := bound_some he
  obtain ⟨hh, he, b2⟩ := bound_some he
  obtain ⟨l, he, b3⟩ := bound_some he
  obtain ⟨inf, hin, ok⟩ := H.ok b c hc
  obtain ⟨inf', A, cap, hi', rfl, hcn, hA, hll⟩ := ha.lim_inv
  rw [hin] at hi'
  cases hi'
  obtain ⟨hfl, _⟩ := ok.sl hsl.1
  obtain ⟨ti, hti, hts⟩ := sizeT_some hs
  have hsz := ok.sz hfl
  obtain ⟨hr, g1, g2, g3⟩ := bounds_run (P := P) (isSlice := true) (cap := cap) hlo hhi hmx hcn b1 b2 b3 hok (Nat.le_refl _) W
  have hrun : (Instr.sliceAt t (.slice A n cap) lo' hi' mx').run P W = .ok (.slice (if (if mx = none then cap else m) = l then A else A.map (·.add (l * inf.sz))) (hh - l) ((if mx = none then cap else m) - l)) W := by
   simp [Instr.sliceAt, Instr.slice, run_underlying hu, hr, sizeOf, typeInfo, hti, hts, hsl.2, ← hsz]
  refine ⟨_, _, hrun, .lim hin (by split <;> omega) ?_ (fun h0 => ?_), he⟩
  case refine_2 =>
   obtain ⟨A0, l0, cap0, hv, hl0⟩ := hll (by omega)
   exact ⟨A0, l0, cap0, hv, by omega⟩
  intro h0
  have := hA (by omega)
  subst this
  rw [if_neg]
  · simp [add_off, Nat.add_mul, Nat.add_assoc]
  · split <;> omega
 case h_4 n e b i o hu =>
  split at he
  case h_2 => cases he
  rename_i hs
  obtain ⟨inf, hin, rfl⟩ := ha.ptr_inv
  cases hlo
  cases hhi
  cases hmx
  obtain ⟨ti, hti, hts⟩ := sizeT_some hs
  refine ⟨_, _, ?_, .arr hin, he⟩
  simp [Instr.sliceAt, run_underlying hu, Instr.sureAddr, Instr.sliceBounds, sizeOf, typeInfo, hti, hts, Addr.add]
def KEq (P : Program) (K : Kinds) : Prop := ∀ (t : TypeId) (a b : List AV) (c : Bool) (ρ : Ren) (a' b' : List Value) (W : World), K.eq t a b = some c → VRs ρ a a' → VRs ρ b b' →
 (∀ x y : Operand, (eqGuard .eql t x y (.agg a'.toArray) (.agg b'.toArray)).run P W = .ok () W ∧ (eqGuard .neq t x y (.agg a'.toArray) (.agg b'.toArray)).run P W = .ok () W) ∧ (Op.equal t (.agg a'.toArray) (.agg b'.toArray)).run P W = .ok c W
theorem evBits_sound {op : BinOp} {kd : IntKind} {a b n : Int} (he : evBits op kd a b = some n) (W : World) : (Op.intBits op kd a b).run P W = .ok (.int kd n) W ∧ op ≠ .add ∧ op ≠ .sub ∧ op ≠ .mul ∧ op ≠ .quo ∧ op ≠ .rem ∧ op ≠ .shl ∧ op ≠ .shr ∧ (op = .and ∨ op = .or ∨ op = .xor ∨ op = .andNot) := by
 cases op <;> simp [evBits] at he <;> subst he <;> simp [Op.intBits]
theorem equal_bool {t : TypeId} (hu : P.underlying t = some .bool) (a b : Bool) (W : World) : (Op.equal t (.bool a) (.bool b)).run P W = .ok (a == b) W := by
 unfold Op.equal Op.maxDepth
 rw [Op.equalIn.eq_2]
 simp [run_underlying hu]
theorem equal_nils {t e : TypeId} (hu : P.underlying t = some (.slice e)) (A : Option Addr) (n c n' c' : Nat) (W : World) : (Op.equal t (.slice A n c) (.slice none n' c')).run P W = .ok A.isNone W := by
 unfold Op.equal Op.maxDepth
 rw [Op.equalIn.eq_2]
 cases A <;> simp [run_underlying hu]
set_option maxHeartbeats 1000000 in
theorem opBin_sound {op : BinOp} {t : TypeId} {a b : AV} {a' b' : Value} {k : AV → Option R} (hK : KEq P K) (H : HR X N0 W0 ρ h W) (ha : VR ρ a a') (hb : VR ρ b b') (he : opBin P K op t a b h k = some x) (u v : Operand) :
 ∃ r r', (do eqGuard op t u v a' b'; binOp op t a' b' : Sem Value).run P W = .ok r' W ∧ VR ρ r r' ∧ k r = some x := by
 unfold opBin at he
 split at he
 case h_1 kd a kd' b =>
  cases ha; cases hb
  simp only [cond_eq_ite, decide_eq_true_eq] at he
  split at he
  case isTrue => cases he
  rename_i hn
  exact ⟨_, _, by simp [eqGuard, binOp, Op.shift, hn], .int _ _, he⟩
 case h_2 kd a kd' b =>
  cases ha; cases hb
  simp only [cond_eq_ite, decide_eq_true_eq] at he
  split at he
  case isTrue => cases he
  rename_i hn
  exact ⟨_, _, by simp [eqGuard, binOp, Op.shift, hn], .int _ _, he⟩
 case h_3 kd a kd' b _ _ =>
  cases ha; cases hb
  split at he
  case h_1 => cases he
  rename_i hk _
  subst hk
  split at he
  case h_1 => exact ⟨_, _, by simp [eqGuard, binOp, Op.intArith], .int _ _, he⟩
  case h_2 => exact ⟨_, _, by simp [eqGuard, binOp, Op.intArith], .int _ _, he⟩
  case h_3 => exact ⟨_, _, by simp [eqGuard, binOp, Op.intArith], .int _ _, he⟩
  case h_4 =>
   simp only [cond_eq_ite, decide_eq_true_eq] at he
   split at he
   case isTrue => cases he
   rename_i hn
   exact ⟨_, _, by simp [eqGuard, binOp, Op.intDiv, hn], .int _ _, he⟩
  case h_5 =>
   simp only [cond_eq_ite, decide_eq_true_eq] at he
   split at he
   case isTrue => cases he
   rename_i hn
   exact ⟨_, _, by simp [eqGuard, binOp, Op.intDiv, hn], .int _ _, he⟩
  case h_6 => exact ⟨_, .bool (decide (a = b)), by simp [eqGuard, binOp, Op.intCmp]; rfl, .bool _, he⟩
  case h_7 => exact ⟨_, .bool (!decide (a = b)), by simp [eqGuard, binOp, Op.intCmp]; rfl, .bool _, he⟩
  case h_8 => exact ⟨_, _, by simp [eqGuard, binOp, Op.intCmp], .bool _, he⟩
  case h_9 => exact ⟨_, _, by simp [eqGuard, binOp, Op.intCmp], .bool _, he⟩
  case h_10 => exact ⟨_, _, by simp [eqGuard, binOp, Op.intCmp], .bool _, he⟩
  case h_11 => exact ⟨_, _, by simp [eqGuard, binOp, Op.intCmp], .bool _, he⟩
  case h_12 =>
   split at he
   case h_2 => cases he
   rename_i n hn
   obtain ⟨hr, _, _, _, _, _, _, _, ho⟩ := evBits_sound (P := P) hn W
   refine ⟨_, .int kd n, ?_, .int _ _, he⟩
   rcases ho with rfl | rfl | rfl | rfl <;> simp [eqGuard, binOp, hr]
 case h_4 a b =>
  cases ha; cases hb
  split at he
  case h_2 => cases he
  rename_i hu
  exact ⟨_, .bool (a == b), by simp [eqGuard, binOp, equal_bool hu], .bool _, he⟩
 case h_5 a b =>
  cases ha; cases hb
  split at he
  case h_2 => cases he
  rename_i hu
  exact ⟨_, .bool (!(a == b)), by simp [eqGuard, binOp, equal_bool hu], .bool _, he⟩
 case h_6 a b =>
  cases ha; cases hb
  rename_i a' h1 ha b' h1b hb
  split at he
  case h_2 => cases he
  rename_i c hc
  obtain ⟨hg, hq⟩ := hK t a b c ρ a' b' W hc ha hb
  exact ⟨_, .bool c, by simp [(hg u v).1, binOp, hq], .bool _, he⟩
 case h_7 a b =>
  cases ha; cases hb
  rename_i a' h1 ha b' h1b hb
  split at he
  case h_2 => cases he
  rename_i c hc
  obtain ⟨hg, hq⟩ := hK t a b c ρ a' b' W hc ha hb
  exact ⟨_, .bool (!c), by simp [(hg u v).2, binOp, hq], .bool _, he⟩
 case h_8 =>
  cases hb
  split at he
  case h_2 => cases he
  rename_i e c hu hn
  unfold isNil at hn
  split at hn
  case h_1 =>
   cases hn
   cases ha
   exact ⟨_, .bool true, by simp [eqGuard, binOp, equal_nils hu], .bool _, he⟩
  case h_2 b =>
   split at hn
   case h_2 => cases hn
   rename_i cl hc
   simp only [cond_eq_ite, Bool.and_eq_true] at hn
   split at hn
   case isFalse => cases hn
   rename_i hs
   cases hn
   obtain ⟨inf, hi, ok⟩ := H.ok b cl hc
   obtain ⟨inf', A, n, cap, hi', rfl, hv⟩ := ha.whole_inv
   rw [hi] at hi'
   cases hi'
   obtain ⟨a, n', cap', hv'⟩ := ok.nn hs.1 hs.2
   rw [hv] at hv'
   cases hv'
   exact ⟨_, .bool false, by simp [eqGuard, binOp, equal_nils hu], .bool _, he⟩
  case h_3 => cases hn
 case h_9 => cases he
theorem opUn_sound {op : UnOp} {a v : AV} {a' : Value} (ha : VR ρ a a') (he : opUn op a = some v) (W : World) : ∃ v', (Op.unary op a').run P W = .ok v' W ∧ VR ρ v v' := by
 unfold opUn at he
 split at he
 · cases he
   cases ha
   exact ⟨_, by simp [Op.unary], .bool _⟩
 · cases he
   cases ha
   exact ⟨_, by simp [Op.unary, Op.intArith], .int _ _⟩
 · cases he
theorem opConv_sound {src dst : TypeId} {a v : AV} {a' : Value} (hs : ∃ d, P.underlying src = some d) (ha : VR ρ a a') (he : opConv P dst a = some v) (W : World) : ∃ v', (convert src dst a').run P W = .ok v' W ∧ VR ρ v v' := by
 obtain ⟨d, hd⟩ := hs
 unfold opConv at he
 cases hu : P.underlying dst with
 | none => rw [hu] at he; cases he
 | some d' =>
  rw [hu] at he
  cases d' <;> try (cases he; done)
  cases a <;> try (cases he; done)
  cases he
  cases ha
  exact ⟨_, by simp [convert, run_underlying hu, run_underlying hd, Conv.intToInt], .int _ _⟩
end
end Go.Abs
