/- Own: What a value without addresses stands for in a world: the relation, and how it is kept. -/
import Derived.Test.YtmiajnodoigndaaGreatAbsA
import Derived.Laws.AppendOwn
import Derived.Laws.IdiomCopy
import Derived.Below
namespace Go.Abs
open Go.RowKit
structure BI where
  m : Nat
  base : Nat
  sz : Nat
  ph : Bool
  v : Value
  inn : Nat → Option Addr × Nat × Nat
abbrev Ren := Nat → Option BI
mutual
inductive VR (ρ : Ren) : AV → Value → Prop
  | bool (b : Bool) : VR ρ (.bool b) (.bool b)
  | int (k : IntKind) (n : Int) : VR ρ (.int k n) (.int k n)
  | ptr {b i o : Nat} {inf : BI} (h : ρ b = some inf) : VR ρ (.ptr b i o) (.pointer (some ⟨inf.m, inf.base + i * inf.sz + o, none⟩))
  | whole {b : Nat} {inf : BI} {A : Option Addr} {n c : Nat} (h : ρ b = some inf) (hv : inf.v = .slice A n c) : VR ρ (.whole b) (.slice A n c)
  | part {b i n c : Nat} {A : Option Addr} {inf : BI} (h : ρ b = some inf) (hc : n ≤ c) (hcap : ∃ A0 l0 cap, inf.v = .slice A0 l0 cap ∧ i + c = cap ∧ (0 < c → A = A0.map (·.add (i * inf.sz))) ∧ i + n ≤ l0 ∧ (i = 0 → A = A0))
      (hA : 0 < n → A = some ⟨inf.m, inf.base + i * inf.sz, none⟩) : VR ρ (.part b i n) (.slice A n c)
  | lim {b i n c : Nat} {A : Option Addr} {inf : BI} (h : ρ b = some inf) (hc : n ≤ c) (hA : 0 < n → A = some ⟨inf.m, inf.base + i * inf.sz, none⟩) (hl : 0 < n → ∃ A0 l0 cap, inf.v = .slice A0 l0 cap ∧ i + n ≤ l0) : VR ρ (.lim b i n) (.slice A n c)
  | inn {b i : Nat} {inf : BI} (h : ρ b = some inf) : VR ρ (.inn b i) (.slice (inf.inn i).1 (inf.inn i).2.1 (inf.inn i).2.2)
  | arr {b i o n : Nat} {inf : BI} (h : ρ b = some inf) : VR ρ (.arr b i o n) (.slice (some ⟨inf.m, inf.base + i * inf.sz + o, none⟩) n n)
  | nils : VR ρ .nils (.slice none 0 0)
  | nilp : VR ρ .nilp (.pointer none)
  | fn {f : Fn} {fs cs : List AV} {fs' cs' : List Value} (h : VRs ρ fs fs') (h' : VRs ρ cs cs') : VR ρ (.fn f fs cs) (.func f fs'.toArray cs'.toArray)
  | nilfn : VR ρ .nilfn .nilFunc
  | iface {t : TypeId} {v : AV} {v' : Value} (h : VR ρ v v') : VR ρ (.iface t v) (.iface t v')
  | nilif : VR ρ .nilif .nilIface
  | mapv {b : Nat} {inf : BI} (h : ρ b = some inf) : VR ρ (.mapv b) (.map (some inf.m))
  | agg {l : List AV} {l' : List Value} (h : VRs ρ l l') (h1 : ∀ u ∈ l', u.oneCell' = true) : VR ρ (.agg l) (.agg l'.toArray)
  | tup {l : List AV} {l' : List Value} (h : VRs ρ l l') : VR ρ (.tup l) (.tuple l'.toArray)
  | dead {v : Value} : VR ρ .dead v
inductive VRs (ρ : Ren) : List AV → List Value → Prop
  | nil : VRs ρ [] []
  | cons {v : AV} {v' : Value} {l : List AV} {l' : List Value} (h : VR ρ v v') (hs : VRs ρ l l') : VRs ρ (v :: l) (v' :: l')
end
def Ext (ρ ρ' : Ren) : Prop := ∀ b inf, ρ b = some inf → ρ' b = some inf
theorem Ext.refl (ρ : Ren) : Ext ρ ρ := fun _ _ h => h
theorem Ext.trans {a b c : Ren} (h : Ext a b) (h' : Ext b c) : Ext a c := fun _ _ x => h' _ _ (h _ _ x)
mutual
theorem VR.ren {ρ ρ' : Ren} {f : Nat → Option Nat} (hf : ∀ b b' inf, f b = some b' → ρ b = some inf → ρ' b' = some inf) : ∀ {v : AV} {v' : Value}, VR ρ v v' → VR ρ' (v.ren f) v'
  | _, _, .bool b => .bool b
  | _, _, .int k n => .int k n
  | .ptr b i o, _, .ptr h => by
    simp only [AV.ren]
    cases hb : f b with
    | none => exact .dead
    | some b' => exact .ptr (hf _ _ _ hb h)
  | .whole b, _, .whole h hv => by
    simp only [AV.ren]
    cases hb : f b with
    | none => exact .dead
    | some b' => exact .whole (hf _ _ _ hb h) hv
  | .part b i n, _, .part h hc hcap hA => by
    simp only [AV.ren]
    cases hb : f b with
    | none => exact .dead
    | some b' => exact .part (hf _ _ _ hb h) hc hcap hA
  | .lim b i n, _, .lim h hc hA hl => by
    simp only [AV.ren]
    cases hb : f b with
    | none => exact .dead
    | some b' => exact .lim (hf _ _ _ hb h) hc hA hl
  | .inn b i, _, .inn h => by
    simp only [AV.ren]
    cases hb : f b with
    | none => exact .dead
    | some b' => exact .inn (hf _ _ _ hb h)
  | .arr b i o n, _, .arr h => by
    simp only [AV.ren]
    cases hb : f b with
    | none => exact .dead
    | some b' => exact .arr (hf _ _ _ hb h)
  | _, _, .nils => .nils
  | _, _, .nilp => .nilp
  | _, _, .fn h h' => .fn (VRs.ren hf h) (VRs.ren hf h')
  | _, _, .nilfn => .nilfn
  | _, _, .iface h => .iface (VR.ren hf h)
  | _, _, .nilif => .nilif
  | .mapv b, _, .mapv h => by
    simp only [AV.ren]
    cases hb : f b with
    | none => exact .dead
    | some b' => exact .mapv (hf _ _ _ hb h)
  | _, _, .agg h h1 => .agg (VRs.ren hf h) h1
  | _, _, .tup h => .tup (VRs.ren hf h)
  | _, _, .dead => .dead
theorem VRs.ren {ρ ρ' : Ren} {f : Nat → Option Nat} (hf : ∀ b b' inf, f b = some b' → ρ b = some inf → ρ' b' = some inf) : ∀ {l : List AV} {l' : List Value}, VRs ρ l l' → VRs ρ' (renL f l) l'
  | _, _, .nil => .nil
  | _, _, .cons h hs => .cons (VR.ren hf h) (VRs.ren hf hs)
end
mutual
theorem VR.mono {ρ ρ' : Ren} (hf : Ext ρ ρ') : ∀ {v : AV} {v' : Value}, VR ρ v v' → VR ρ' v v'
  | _, _, .bool b => .bool b
  | _, _, .int k n => .int k n
  | _, _, .ptr h => .ptr (hf _ _ h)
  | _, _, .whole h hv => .whole (hf _ _ h) hv
  | _, _, .part h hc hcap hA => .part (hf _ _ h) hc hcap hA
  | _, _, .lim h hc hA hl => .lim (hf _ _ h) hc hA hl
  | _, _, .inn h => .inn (hf _ _ h)
  | _, _, .arr h => .arr (hf _ _ h)
  | _, _, .nils => .nils
  | _, _, .nilp => .nilp
  | _, _, .fn h h' => .fn (VRs.mono hf h) (VRs.mono hf h')
  | _, _, .nilfn => .nilfn
  | _, _, .iface h => .iface (VR.mono hf h)
  | _, _, .nilif => .nilif
  | _, _, .mapv h => .mapv (hf _ _ h)
  | _, _, .agg h h1 => .agg (VRs.mono hf h) h1
  | _, _, .tup h => .tup (VRs.mono hf h)
  | _, _, .dead => .dead
theorem VRs.mono {ρ ρ' : Ren} (hf : Ext ρ ρ') : ∀ {l : List AV} {l' : List Value}, VRs ρ l l' → VRs ρ' l l'
  | _, _, .nil => .nil
  | _, _, .cons h hs => .cons (VR.mono hf h) (VRs.mono hf hs)
end
namespace VRs
variable {ρ : Ren}
theorem length : ∀ {l : List AV} {l' : List Value}, VRs ρ l l' → l.length = l'.length
  | _, _, .nil => rfl
  | _, _, .cons _ hs => by simp [hs.length]
theorem get : ∀ {l : List AV} {l' : List Value} {i : Nat} {v : AV}, VRs ρ l l' → l[i]? = some v → ∃ v', l'[i]? = some v' ∧ VR ρ v v'
  | _, _, i, _, .nil, h => by simp at h
  | _, _, 0, _, .cons h _, e => by
    simp at e
    subst e
    exact ⟨_, rfl, h⟩
  | _, _, i + 1, _, .cons _ hs, e => by
    simp at e
    obtain ⟨v', h1, h2⟩ := hs.get e
    exact ⟨v', by simpa using h1, h2⟩
theorem of_get : ∀ {l : List AV} {l' : List Value}, l.length = l'.length → (∀ (i : Nat) (v : AV) (v' : Value), l[i]? = some v → l'[i]? = some v' → VR ρ v v') → VRs ρ l l'
  | [], [], _, _ => .nil
  | [], _ :: _, h, _ => by simp at h
  | _ :: _, [], h, _ => by simp at h
  | v :: l, v' :: l', h, hg => .cons (hg 0 v v' rfl rfl) (of_get (by simpa using h) fun i u u' hu hu' => hg (i + 1) u u' (by simpa using hu) (by simpa using hu'))
theorem append : ∀ {l m : List AV} {l' m' : List Value}, VRs ρ l l' → VRs ρ m m' → VRs ρ (l ++ m) (l' ++ m')
  | _, _, _, _, .nil, h => h
  | _, _, _, _, .cons h hs, h' => .cons h (hs.append h')
theorem take : ∀ {l : List AV} {l' : List Value} (n : Nat), VRs ρ l l' → VRs ρ (l.take n) (l'.take n)
  | _, _, n, .nil => by simp; exact .nil
  | _, _, 0, .cons _ _ => by simp; exact .nil
  | _, _, n + 1, .cons h hs => by simp; exact .cons h (hs.take n)
theorem drop : ∀ {l : List AV} {l' : List Value} (n : Nat), VRs ρ l l' → VRs ρ (l.drop n) (l'.drop n)
  | _, _, n, .nil => by simp; exact .nil
  | _, _, 0, .cons h hs => by simp; exact .cons h hs
  | _, _, n + 1, .cons _ hs => by simp; exact hs.drop n
end VRs
theorem cellsOf_sound {ρ : Ren} {v : AV} {v' : Value} {cs : List AV} (h : VR ρ v v') (hc : cellsOf v = some cs) : VRs ρ cs v'.cells.toList ∧ ∀ u ∈ v'.cells.toList, u.oneCell' = true := by
  cases h
  case agg l' h h1 =>
    cases hc
    exact ⟨h, h1⟩
  all_goals simp only [cellsOf] at hc
  all_goals first
    | (cases hc; done)
    | (cases hc; refine ⟨.cons ?_ .nil, by simp [Value.cells, Value.oneCell']⟩
       first | exact .bool _ | exact .int _ _ | exact .ptr ‹_› | exact .whole ‹_› ‹_› | exact .part ‹_› ‹_› ‹_› ‹_› | exact .lim ‹_› ‹_› ‹_› ‹_› | exact .inn ‹_› | exact .arr ‹_› | exact .nils | exact .nilp | exact .fn ‹_› ‹_› | exact .nilfn | exact .iface ‹_› | exact .nilif | exact .mapv ‹_›)
theorem absConst_sound (ρ : Ren) (v : Value) : VR ρ (absConst v) v := by
  unfold absConst
  split <;> first | exact .bool _ | exact .int _ _ | exact .nils | exact .nilp | exact .nilfn | exact .nilif | exact .dead
theorem pI_some {R : Type} {l : List AV} {k : Int → List AV → Option R} {x : R} (h : pI l k = some x) : ∃ n l', l = .int .i64 n :: l' ∧ k n l' = some x := by
  unfold pI at h
  split at h
  · exact ⟨_, _, rfl, h⟩
  · cases h
theorem pU_some {R : Type} {l : List AV} {k : Int → List AV → Option R} {x : R} (h : pU l k = some x) : ∃ n l', l = .int .u64 n :: l' ∧ k n l' = some x := by
  unfold pU at h
  split at h
  · exact ⟨_, _, rfl, h⟩
  · cases h
theorem pB_some {R : Type} {l : List AV} {k : Bool → List AV → Option R} {x : R} (h : pB l k = some x) : ∃ n l', l = .bool n :: l' ∧ k n l' = some x := by
  unfold pB at h
  split at h
  · exact ⟨_, _, rfl, h⟩
  · cases h
theorem pEnd_some {R : Type} {l : List AV} {y x : R} (h : pEnd l y = some x) : l = [] ∧ y = x := by
  unfold pEnd at h
  split at h
  · exact ⟨rfl, Option.some.inj h⟩
  · cases h
theorem pSpec_some {R : Type} {l : List AV} {k : Spec → List AV → Option R} {x : R} (h : pSpec l k = some x) : ∃ s l', l = Spec.row s ++ l' ∧ k s l' = some x := by
  unfold pSpec at h
  obtain ⟨a, l, rfl, h1⟩ := pI_some h
  obtain ⟨b, l, rfl, h2⟩ := pI_some h1
  obtain ⟨c, l, rfl, h3⟩ := pI_some h2
  obtain ⟨d, l, rfl, h4⟩ := pI_some h3
  obtain ⟨e, l, rfl, h5⟩ := pI_some h4
  obtain ⟨f, l, rfl, h6⟩ := pI_some h5
  exact ⟨_, _, rfl, h6⟩
theorem pJob_some {R : Type} {l : List AV} {k : Job → List AV → Option R} {x : R} (h : pJob l k = some x) : ∃ s l', l = Job.row s ++ l' ∧ k s l' = some x := by
  unfold pJob at h
  obtain ⟨a, l, rfl, h1⟩ := pB_some h
  obtain ⟨b, l, rfl, h2⟩ := pI_some h1
  obtain ⟨c, l, rfl, h3⟩ := pI_some h2
  obtain ⟨d, l, rfl, h4⟩ := pI_some h3
  obtain ⟨e, l, rfl, h5⟩ := pB_some h4
  obtain ⟨f, l, rfl, h6⟩ := pI_some h5
  obtain ⟨g, l, rfl, h7⟩ := pI_some h6
  obtain ⟨i, l, rfl, h8⟩ := pI_some h7
  exact ⟨_, _, rfl, h8⟩
theorem pRing_some {R : Type} {l : List AV} {k : Ring → List AV → Option R} {x : R} (h : pRing l k = some x) : ∃ s l', l = Ring.row s ++ l' ∧ k s l' = some x := by
  unfold pRing at h
  obtain ⟨a, l, rfl, h1⟩ := pI_some h
  obtain ⟨b, l, rfl, h2⟩ := pU_some h1
  exact ⟨_, _, rfl, h2⟩
theorem unRow_some : ∀ {c : TC} {l : List AV} {x : El c}, unRow c l = some x → rowOf c x = l
  | .int, l, x, h => by
    simp only [unRow] at h
    obtain ⟨n, l, rfl, h1⟩ := pI_some h
    obtain ⟨rfl, rfl⟩ := pEnd_some h1
    rfl
  | .u64, l, x, h => by
    simp only [unRow] at h
    obtain ⟨n, l, rfl, h1⟩ := pU_some h
    obtain ⟨rfl, rfl⟩ := pEnd_some h1
    rfl
  | .bool, l, x, h => by
    simp only [unRow] at h
    obtain ⟨n, l, rfl, h1⟩ := pB_some h
    obtain ⟨rfl, rfl⟩ := pEnd_some h1
    rfl
  | .spec, l, x, h => by
    simp only [unRow] at h
    obtain ⟨s, l, rfl, h1⟩ := pSpec_some h
    obtain ⟨rfl, rfl⟩ := pEnd_some h1
    rfl
  | .job, l, x, h => by
    simp only [unRow] at h
    obtain ⟨s, l, rfl, h1⟩ := pJob_some h
    obtain ⟨rfl, rfl⟩ := pEnd_some h1
    rfl
  | .ring, l, x, h => by
    simp only [unRow] at h
    obtain ⟨s, l, rfl, h1⟩ := pRing_some h
    obtain ⟨rfl, rfl⟩ := pEnd_some h1
    rfl
  | .fix, l, x, h => by
    simp only [unRow] at h
    obtain ⟨s, l, rfl, h1⟩ := pSpec_some h
    obtain ⟨n, l, rfl, h2⟩ := pI_some h1
    obtain ⟨rfl, rfl⟩ := pEnd_some h2
    rfl
  | .live, l, x, h => by
    simp only [unRow] at h
    obtain ⟨s, l, rfl, h1⟩ := pSpec_some h
    obtain ⟨j, l, rfl, h2⟩ := pJob_some h1
    obtain ⟨n, l, rfl, h3⟩ := pI_some h2
    obtain ⟨n, l, rfl, h4⟩ := pI_some h3
    obtain ⟨n, l, rfl, h5⟩ := pI_some h4
    obtain ⟨rfl, rfl⟩ := pEnd_some h5
    rfl
  | .ape, l, x, h => by
    simp only [unRow] at h
    obtain ⟨n, l, rfl, h1⟩ := pI_some h
    obtain ⟨n, l, rfl, h2⟩ := pI_some h1
    obtain ⟨n, l, rfl, h3⟩ := pI_some h2
    obtain ⟨n, l, rfl, h4⟩ := pI_some h3
    obtain ⟨n, l, rfl, h5⟩ := pI_some h4
    obtain ⟨rfl, rfl⟩ := pEnd_some h5
    rfl
  | .opt, l, x, h => by
    simp only [unRow] at h
    obtain ⟨n, l, rfl, h1⟩ := pI_some h
    obtain ⟨n, l, rfl, h2⟩ := pI_some h1
    obtain ⟨n, l, rfl, h3⟩ := pI_some h2
    obtain ⟨rfl, rfl⟩ := pEnd_some h3
    rfl
  | .task, l, x, h => by
    simp only [unRow] at h
    obtain ⟨i, l, rfl, h1⟩ := pI_some h
    obtain ⟨s, l, rfl, h2⟩ := pSpec_some h1
    obtain ⟨n, l, rfl, h3⟩ := pI_some h2
    obtain ⟨n, l, rfl, h4⟩ := pI_some h3
    obtain ⟨n, l, rfl, h5⟩ := pI_some h4
    obtain ⟨n, l, rfl, h6⟩ := pI_some h5
    obtain ⟨j, l, rfl, h7⟩ := pJob_some h6
    obtain ⟨r, l, rfl, h8⟩ := pRing_some h7
    obtain ⟨q, l, rfl, h9⟩ := pB_some h8
    obtain ⟨rfl, rfl⟩ := pEnd_some h9
    rfl
  | .aim, l, x, h => by
    simp only [unRow] at h
    obtain ⟨i, l, rfl, h1⟩ := pI_some h
    obtain ⟨s, l, rfl, h2⟩ := pSpec_some h1
    obtain ⟨n, l, rfl, h3⟩ := pI_some h2
    obtain ⟨rfl, rfl⟩ := pEnd_some h3
    rfl
  | .spr, l, x, h => by
    simp only [unRow] at h
    obtain ⟨n, l, rfl, h1⟩ := pI_some h
    obtain ⟨n, l, rfl, h2⟩ := pI_some h1
    obtain ⟨n, l, rfl, h3⟩ := pI_some h2
    obtain ⟨rfl, rfl⟩ := pEnd_some h3
    rfl
theorem rowOf_length (c : TC) (x : El c) : (rowOf c x).length = width c := by cases c <;> rfl
theorem unRows_some {c : TC} : ∀ {l : List (List AV)} {xs : List (El c)}, unRows c l = some xs → xs.map (rowOf c) = l
  | [], xs, h => by
    cases h
    rfl
  | r :: rs, xs, h => by
    unfold unRows at h
    split at h
    · cases h
    · rename_i x hx
      split at h
      · cases h
      · rename_i ys hys
        cases h
        rw [List.map_cons, unRow_some hx, unRows_some hys]
theorem opsRows_length (b : Nat) : ∀ (i : Nat) (l : List OpD), (opsRows b i l).length = l.length
  | _, [] => rfl
  | i, _ :: l => by simp [opsRows, opsRows_length b (i + 1) l]
theorem opsRows_get (b : Nat) : ∀ (l : List OpD) (i j : Nat), (opsRows b i l)[j]? = (l[j]?).map fun x => OpD.row x b (i + j)
  | [], _, _ => by simp [opsRows]
  | x :: l, i, 0 => by simp [opsRows]
  | x :: l, i, j + 1 => by
    simp only [opsRows, List.getElem?_cons_succ, opsRows_get b l (i + 1) j]
    congr 2
    funext y
    congr 1
    omega
def Rows.flat : Rows → Bool
  | .mp _ _ => false
  | .mg _ => false
  | _ => true
theorem Rows.list_length (b : Nat) (r : Rows) (hf : r.flat = true) : (r.list b).length = r.len := by cases r <;> simp_all [Rows.list, Rows.len, opsRows_length, Rows.flat]
theorem Rows.list_le (b : Nat) (r : Rows) : (r.list b).length ≤ r.len := by cases r <;> simp_all [Rows.list, Rows.len, opsRows_length]
theorem Rows.get_some {R : Type} {r : Rows} {b i : Nat} {k : List AV → Option R} {x : R} (h : r.get b i k = some x) : ∃ row, (r.list b)[i]? = some row ∧ k row = some x := by
  cases r with
  | gen sz l =>
    simp only [Rows.get] at h
    split at h
    · rename_i y hy
      exact ⟨y, hy, h⟩
    · cases h
  | typ c l =>
    simp only [Rows.get] at h
    split at h
    · rename_i y hy
      exact ⟨_, by simp [Rows.list, hy], h⟩
    · cases h
  | ops l =>
    simp only [Rows.get] at h
    split at h
    · rename_i y hy
      exact ⟨_, by simp [Rows.list, opsRows_get, hy], h⟩
    · cases h
  | mp c l => cases h
  | mg l => cases h
theorem Rows.set_some {R : Type} {r : Rows} {b i : Nat} {row : List AV} {k : Rows → Option R} {x : R} (h : r.set i row k = some x) :
    ∃ r', k r' = some x ∧ r'.list b = (r.list b).set i row ∧ r'.sz = r.sz ∧ r'.len = r.len ∧ row.length = r.sz ∧ r'.flat = true ∧ (∀ l, r' ≠ .ops l) ∧ (∀ c l, r' ≠ .mp c l) ∧ ∀ l, r' ≠ .mg l := by
  cases r with
  | gen sz l =>
    simp only [Rows.set, cond_eq_ite, Nat.beq_eq] at h
    split at h
    · rename_i hs
      exact ⟨_, h, rfl, rfl, by simp [Rows.len], hs, rfl, by simp, by simp, by simp⟩
    · cases h
  | typ c l =>
    simp only [Rows.set] at h
    split at h
    · rename_i y hy
      have hr := unRow_some hy
      refine ⟨_, h, ?_, rfl, by simp [Rows.len], by rw [← hr]; exact rowOf_length c y, rfl, by simp, by simp, by simp⟩
      simp [Rows.list, List.map_set, hr]
    · cases h
  | ops l => cases h
  | mp c l => cases h
  | mg l => cases h
theorem Rows.app_some {r s t : Rows} (b : Nat) (h : r.app s = some t) : t.list b = r.list b ++ s.list b ∧ t.sz = r.sz ∧ s.sz = r.sz ∧ t.len = r.len + s.len ∧ t.flat = true ∧ r.flat = true ∧ s.flat = true ∧ (∀ b', t.list b' = t.list b) ∧ ∀ l, t ≠ .ops l := by
  cases r with
  | gen sz l =>
    cases s with
    | gen sz' l' =>
      simp only [Rows.app, cond_eq_ite, Nat.beq_eq] at h
      split at h
      · rename_i hs
        cases h
        exact ⟨rfl, rfl, hs.symm, by simp [Rows.len], rfl, rfl, rfl, fun _ => rfl, by simp⟩
      · cases h
    | _ => cases h
  | typ c l =>
    cases s with
    | typ c' l' =>
      simp only [Rows.app] at h
      split at h
      · rename_i hs
        subst hs
        cases h
        exact ⟨by simp [Rows.list], rfl, rfl, by simp [Rows.len], rfl, rfl, rfl, fun _ => rfl, by simp⟩
      · cases h
    | _ => cases h
  | _ => cases h
theorem codeT_some {o : Option TC} {l : List (List AV)} {sz : Nat} {r : Rows} (b : Nat) (h : codeT o l sz = some r) (hw : ∀ c, o = some c → width c = sz) : r.list b = l ∧ r.sz = sz ∧ r.flat = true ∧ (∀ l, r ≠ .ops l) ∧ r.len = l.length := by
  cases o with
  | none =>
    cases h
    exact ⟨rfl, rfl, rfl, by simp, rfl⟩
  | some c =>
    simp only [codeT] at h
    cases hu : unRows c l with
    | none => rw [hu] at h; cases h
    | some xs =>
      rw [hu] at h
      cases h
      have := unRows_some hu
      exact ⟨this, hw c rfl, rfl, by simp, by rw [← this]; simp [Rows.len]⟩
end Go.Abs
