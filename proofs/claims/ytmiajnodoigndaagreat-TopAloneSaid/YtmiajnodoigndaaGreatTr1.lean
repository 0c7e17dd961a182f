/- Own: Functions of the program as Lean functions, and that the interpreter comes to them. -/
import Derived.Test.YtmiajnodoigndaaGreatTrK
set_option linter.unusedVariables false
set_option linter.unusedSimpArgs false
set_option maxRecDepth 1000000
set_option maxHeartbeats 16000000
namespace Go.Abs
def K199 {R : Type} (kk : Bool → R) (n low high : Int) : R :=
 bif decide (low ≤ n) then
  kk (decide (n ≤ high))
 else kk false
def F199 (n low high : Int) : Bool := K199 (fun r => r) n low high
theorem ev199 (n low high : Int) : evC (R' := [.cell .b]) P KK Orc.none LOrc.none 199 [.cell .i, .cell .i, .cell .i] (n, low, high, ()) = some (F199 n low high) := by
 rw [show evC (R' := [.cell .b]) P KK Orc.none LOrc.none 199 [.cell .i, .cell .i, .cell .i] (n, low, high, ()) = K199 some n low high from by kernel_rfl]
 simp only [F199, K199, some_cond]
 try rfl
def g199 : Sig := ⟨[.cell .i, .cell .i, .cell .i], [.cell .b]⟩
def T199 {R : Type} : Orc R := fun f args h k => bif Nat.beq f 199 then contract g199 (fun d => some (F199 d.1 d.2.1 d.2.2.1)) args h k else Orc.none f args h k
def F137 (a b : Int) : Option (Int × Bool) :=
 bif (F199 a 0 4611686018427387904) then
  bif (!(F199 b 1 4611686018427387904)) then
   some (0, false)
  else bif decide (b = 0) then none
  else bif decide (b = 0) then none
  else some ((wI ((wI (Int.tdiv a b)) + (min (Int.tmod a b) 1))), true)
 else some (0, false)
theorem ev137 (a b : Int) : evC (R' := [.cell .i, .cell .b]) P KK T199 LOrc.none 137 [.cell .i, .cell .i] (a, b, ()) = F137 a b := by kernel_rfl
def g137 : Sig := ⟨[.cell .i, .cell .i], [.cell .i, .cell .b]⟩
def T137 {R : Type} : Orc R := fun f args h k => bif Nat.beq f 137 then contract g137 (fun d => F137 d.1 d.2.1) args h k else T199 f args h k
def K149 {R : Type} (kk : Bool → R) (m k : Int) : R :=
 bif decide (1 ≤ m) then
  bif decide (m ≤ k) then
   kk (decide (k ≤ 6))
  else kk false
 else kk false
def F149 (m k : Int) : Bool := K149 (fun r => r) m k
theorem ev149 (m k : Int) : evC (R' := [.cell .b]) P KK T137 LOrc.none 149 [.cell .i, .cell .i] (m, k, ()) = some (F149 m k) := by
 rw [show evC (R' := [.cell .b]) P KK T137 LOrc.none 149 [.cell .i, .cell .i] (m, k, ()) = K149 some m k from by kernel_rfl]
 simp only [F149, K149, some_cond]
 try rfl
def g149 : Sig := ⟨[.cell .i, .cell .i], [.cell .b]⟩
def T149 {R : Type} : Orc R := fun f args h k => bif Nat.beq f 149 then contract g149 (fun d => some (F149 d.1 d.2.1)) args h k else T137 f args h k
def K188 {R : Type} (kk : Bool → R) (n : Int) : R :=
 bif decide (0 ≤ n) then
  kk (decide (n ≤ 1099511627776))
 else kk false
def F188 (n : Int) : Bool := K188 (fun r => r) n
theorem ev188 (n : Int) : evC (R' := [.cell .b]) P KK T149 LOrc.none 188 [.cell .i] (n, ()) = some (F188 n) := by
 rw [show evC (R' := [.cell .b]) P KK T149 LOrc.none 188 [.cell .i] (n, ()) = K188 some n from by kernel_rfl]
 simp only [F188, K188, some_cond]
 try rfl
def g188 : Sig := ⟨[.cell .i], [.cell .b]⟩
def T188 {R : Type} : Orc R := fun f args h k => bif Nat.beq f 188 then contract g188 (fun d => some (F188 d.1)) args h k else T149 f args h k
def S189_3 {R : Type} (e0 : Bool → Bool → Bool → Bool → Bool → Bool → Option R) (y1 y2 y3 : Int) (y5 y6 y7 y8 y9 y10 : Bool) (rec : Int → Bool → Bool → Bool → Bool → Bool → Bool → Option R) (y4 : Int) (y11 y12 y13 y14 y15 y16 : Bool) : Option R :=
 bif decide (y4 < y3) then
  (match (F137 (wI (y4 * y1)) y2) with
  | some r17 => (match (F137 (wI ((wI (y4 + 1)) * y1)) y2) with
   | some r18 => bif decide (y4 = 0) then
     rec (wI (y4 + 1)) (decide (r17.1 < r18.1)) y12 y13 y14 y15 y16
    else bif decide (y4 = 1) then
     rec (wI (y4 + 1)) y11 (decide (r17.1 < r18.1)) y13 y14 y15 y16
    else bif decide (y4 = 2) then
     rec (wI (y4 + 1)) y11 y12 (decide (r17.1 < r18.1)) y14 y15 y16
    else bif decide (y4 = 3) then
     rec (wI (y4 + 1)) y11 y12 y13 (decide (r17.1 < r18.1)) y15 y16
    else bif decide (y4 = 4) then
     rec (wI (y4 + 1)) y11 y12 y13 y14 (decide (r17.1 < r18.1)) y16
    else bif decide (y4 = 5) then rec (wI (y4 + 1)) y11 y12 y13 y14 y15 (decide (r17.1 < r18.1))
    else none
   | none => none)
  | none => none)
 else e0 y11 y12 y13 y14 y15 y16
def L189_3 {R : Type} (e0 : Bool → Bool → Bool → Bool → Bool → Bool → Option R) (y1 y2 y3 : Int) (y5 y6 y7 y8 y9 y10 : Bool) : Nat → Int → Bool → Bool → Bool → Bool → Bool → Bool → Option R
 | 0 => fun _ _ _ _ _ _ _ => none
 | n + 1 => S189_3  e0 y1 y2 y3 y5 y6 y7 y8 y9 y10 (L189_3  e0 y1 y2 y3 y5 y6 y7 y8 y9 y10 n)
def ps189_3 : PSt := { live := [0, 1, 4, 5, 11, 12], nt := 39, env := [.i, .i, .ptr 0 0 0, .ptr 1 0 0, .i, .i], heap := [.gen true false false 0 6 [[.b, .b, .b, .b, .b, .b]], .gen true false false 0 6 [[.b, .b, .b, .b, .b, .b]]] }
abbrev st189_3 (y1 y2 y3 y4 : Int) (y5 y6 y7 y8 y9 y10 y11 y12 y13 y14 y15 y16 : Bool) : St := ⟨[I y1, I y2, dd, dd, .ptr 0 0 0, .ptr 1 0 0, dd, dd, dd, dd, dd, I y3, I y4, dd, dd, dd, dd, dd, dd, dd, dd, dd, dd, dd, dd, dd, dd, dd, dd, dd, dd, dd, dd, dd, dd, dd, dd, dd, dd], [some ⟨true, false, false, 0, .gen 6 [[.bool y5, .bool y6, .bool y7, .bool y8, .bool y9, .bool y10]]⟩, some ⟨true, false, false, 0, .gen 6 [[.bool y11, .bool y12, .bool y13, .bool y14, .bool y15, .bool y16]]⟩]⟩
abbrev sx189_3_0 (z0 z1 z2 z3 z4 z5 z6 z7 z8 z9 z10 z11 : Bool) : St := ⟨[dd, dd, dd, dd, .ptr 0 0 0, .ptr 1 0 0, dd, dd, dd, dd, dd, dd, dd, dd, dd, dd, dd, dd, dd, dd, dd, dd, dd, dd, dd, dd, dd, dd, dd, dd, dd, dd, dd, dd, dd, dd, dd, dd, dd], [some ⟨true, false, false, 0, .gen 6 [[.bool z0, .bool z1, .bool z2, .bool z3, .bool z4, .bool z5]]⟩, some ⟨true, false, false, 0, .gen 6 [[.bool z6, .bool z7, .bool z8, .bool z9, .bool z10, .bool z11]]⟩]⟩
theorem ly189_3 (y1 y2 y3 y4 : Int) (y5 y6 y7 y8 y9 y10 y11 y12 y13 y14 y15 y16 : Bool) : layS ps189_3 (y1, y2, y3, y4, y5, y6, y7, y8, y9, y10, y11, y12, y13, y14, y15, y16, ()) = st189_3 y1 y2 y3 y4 y5 y6 y7 y8 y9 y10 y11 y12 y13 y14 y15 y16 := by kernel_rfl
abbrev E189_3_0 {R : Type} (k : Ex → St → Option R) (y5 y6 y7 y8 y9 y10 z6 z7 z8 z9 z10 z11 : Bool) : Option R := k (.exit 0) (sx189_3_0 y5 y6 y7 y8 y9 y10 z6 z7 z8 z9 z10 z11)
noncomputable abbrev J189_3 {R : Type} (n : Nat) (y1 y2 y3 : Int) (y5 y6 y7 y8 y9 y10 : Bool) (y4 : Int) (y11 y12 y13 y14 y15 y16 : Bool) (k : Ex → St → Option R) : Option R :=
 iter (ev P KK T188 LOrc.none 300 189 (loopOf P 189 3)) (headL P KK (KK.ann 189 3) 2) (gcL (KK.ann 189 3).out 2) n (st189_3 y1 y2 y3 y4 y5 y6 y7 y8 y9 y10 y11 y12 y13 y14 y15 y16) k
theorem k189_3 {R : Type} (n : Nat) (y1 y2 y3 : Int) (y5 y6 y7 y8 y9 y10 : Bool) (y4 : Int) (y11 y12 y13 y14 y15 y16 : Bool) (k : Ex → St → Option R) : J189_3  (n + 1) y1 y2 y3 y5 y6 y7 y8 y9 y10 y4 y11 y12 y13 y14 y15 y16 k = S189_3  (E189_3_0 k y5 y6 y7 y8 y9 y10) y1 y2 y3 y5 y6 y7 y8 y9 y10 (fun y4 y11 y12 y13 y14 y15 y16 => J189_3  n y1 y2 y3 y5 y6 y7 y8 y9 y10 y4 y11 y12 y13 y14 y15 y16 k) y4 y11 y12 y13 y14 y15 y16 := by kernel_rfl
theorem it189_3 {R : Type} (y1 y2 y3 : Int) (y5 y6 y7 y8 y9 y10 : Bool) (k : Ex → St → Option R) : ∀ (n : Nat) (y4 : Int) (y11 y12 y13 y14 y15 y16 : Bool), J189_3  n y1 y2 y3 y5 y6 y7 y8 y9 y10 y4 y11 y12 y13 y14 y15 y16 k = L189_3  (E189_3_0 k y5 y6 y7 y8 y9 y10) y1 y2 y3 y5 y6 y7 y8 y9 y10 n y4 y11 y12 y13 y14 y15 y16 := by
 intro n
 induction n with
 | zero => intros; rfl
 | succ n ih =>
  intro y4 y11 y12 y13 y14 y15 y16
  rw [k189_3, show (fun y4 y11 y12 y13 y14 y15 y16 => J189_3  n y1 y2 y3 y5 y6 y7 y8 y9 y10 y4 y11 y12 y13 y14 y15 y16 k) = L189_3  (E189_3_0 k y5 y6 y7 y8 y9 y10) y1 y2 y3 y5 y6 y7 y8 y9 y10 n from by funext y4 y11 y12 y13 y14 y15 y16; exact ih y4 y11 y12 y13 y14 y15 y16]
  rfl
def lb189_3 {R : Type} (lf : Nat) (d : ps189_3.D) (k : Ex → St → Option R) : Option R := match d with
 | (y1, y2, y3, y4, y5, y6, y7, y8, y9, y10, y11, y12, y13, y14, y15, y16, ()) => L189_3  (E189_3_0 k y5 y6 y7 y8 y9 y10) y1 y2 y3 y5 y6 y7 y8 y9 y10 lf y4 y11 y12 y13 y14 y15 y16
def lt189_3 {R : Type} (lf : Nat) : LOrc R := fun f id n0 st k => bif Nat.beq f 189 && (Nat.beq id 3 && Nat.beq n0 2) then readS ps189_3 st fun d => lb189_3 lf d k else LOrc.none f id n0 st k
def F189 (lf : Nat) (m k : Int) : Option (Bool × Bool × Bool × Bool × Bool × Bool) :=
 L189_3 (fun z19 z20 z21 z22 z23 z24 => some (z19, z20, z21, z22, z23, z24)) m k k false false false false false false lf 0 false false false false false false
theorem ev189 (lf : Nat) (m k : Int) : evC (R' := [.agg [.b, .b, .b, .b, .b, .b]]) P KK T188 (lt189_3 lf) 189 [.cell .i, .cell .i] (m, k, ()) = F189 lf m k := by kernel_rfl
def g189 : Sig := ⟨[.cell .i, .cell .i], [.agg [.b, .b, .b, .b, .b, .b]]⟩
def T189 {R : Type} : Orc R := fun f args h k => bif Nat.beq f 189 then contract g189 (fun d => F189 fuel d.1 d.2.1) args h k else T188 f args h k
def F159 (m k j : Int) : Option (Bool) :=
 bif (F149 m k) then
  bif (F188 j) then
   (match (F189 fuel m k) with
   | some r1 => bif decide (k = 0) then none
    else bif decide ((Int.tmod j k) = 0) then
     some r1.1
    else bif decide ((Int.tmod j k) = 1) then
     some r1.2.1
    else bif decide ((Int.tmod j k) = 2) then
     some r1.2.2.1
    else bif decide ((Int.tmod j k) = 3) then
     some r1.2.2.2.1
    else bif decide ((Int.tmod j k) = 4) then
     some r1.2.2.2.2.1
    else bif decide ((Int.tmod j k) = 5) then some r1.2.2.2.2.2
    else none
   | none => none)
  else some false
 else some false
theorem ev159 (m k j : Int) : evC (R' := [.cell .b]) P KK T189 LOrc.none 159 [.cell .i, .cell .i, .cell .i] (m, k, j, ()) = F159 m k j := by kernel_rfl
def g159 : Sig := ⟨[.cell .i, .cell .i, .cell .i], [.cell .b]⟩
def T159 {R : Type} : Orc R := fun f args h k => bif Nat.beq f 159 then contract g159 (fun d => F159 d.1 d.2.1 d.2.2.1) args h k else T189 f args h k
def F168 (m k n : Int) : Option (Int) :=
 bif (!(F149 m k)) then
  some 0
 else bif (!(F188 n)) then
  some 0
 else (match (F137 (wI (n * m)) k) with
 | some r1 => some r1.1
 | none => none)
theorem ev168 (m k n : Int) : evC (R' := [.cell .i]) P KK T159 LOrc.none 168 [.cell .i, .cell .i, .cell .i] (m, k, n, ()) = F168 m k n := by kernel_rfl
def g168 : Sig := ⟨[.cell .i, .cell .i, .cell .i], [.cell .i]⟩
def T168 {R : Type} : Orc R := fun f args h k => bif Nat.beq f 168 then contract g168 (fun d => F168 d.1 d.2.1 d.2.2.1) args h k else T159 f args h k
def K104 {R : Type} (kk : Bool → R) (s : Spec) : R :=
 bif decide (s.C < 1) then
  kk false
 else bif decide (6 < s.C) then
  kk false
 else bif decide (s.T < s.C) then
  kk false
 else bif decide (s.Max < s.T) then
  kk false
 else bif decide (s.Max < 1) then
  kk false
 else bif decide (48 < s.Max) then
  kk false
 else bif decide (s.M < 1) then
  kk false
 else bif decide (s.K < s.M) then
  kk false
 else bif decide (s.K < 1) then
  kk false
 else bif decide (6 < s.K) then
  kk false
 else bif decide (s.E < 0) then
  kk false
 else bif decide (8 < s.E) then
  kk false
 else bif (F149 s.M s.K) then
  bif decide (0 < s.E) then
   kk true
  else kk (decide (s.T = s.Max))
 else kk false
def F104 (s : Spec) : Bool := K104 (fun r => r) s
theorem ev104 (s : Spec) : evC (R' := [.cell .b]) P KK T168 LOrc.none 104 [.el .spec] (s, ()) = some (F104 s) := by
 rw [show evC (R' := [.cell .b]) P KK T168 LOrc.none 104 [.el .spec] (s, ()) = K104 some s from by kernel_rfl]
 simp only [F104, K104, some_cond]
 try rfl
def g104 : Sig := ⟨[.el .spec], [.cell .b]⟩
def T104 {R : Type} : Orc R := fun f args h k => bif Nat.beq f 104 then contract g104 (fun d => some (F104 d.1)) args h k else T168 f args h k
def F134 (s : Spec) (p : Int) : Option (Int) :=
 bif (!(F104 s)) then
  some 0
 else bif decide (p < s.T) then
  some 0
 else bif decide (s.Max < p) then
  some 0
 else (match (F137 (wI ((wI (s.C * s.M)) * 1048576)) (wI (s.K * p))) with
 | some r1 => some r1.1
 | none => none)
theorem ev134 (s : Spec) (p : Int) : evC (R' := [.cell .i]) P KK T104 LOrc.none 134 [.el .spec, .cell .i] (s, p, ()) = F134 s p := by kernel_rfl
def g134 : Sig := ⟨[.el .spec, .cell .i], [.cell .i]⟩
def T134 {R : Type} : Orc R := fun f args h k => bif Nat.beq f 134 then contract g134 (fun d => F134 d.1 d.2.1) args h k else T104 f args h k
def F142 (s : Spec) : Option (Int) :=
 (match (F134 s s.T) with
 | some r1 => some r1
 | none => none)
theorem ev142 (s : Spec) : evC (R' := [.cell .i]) P KK T134 LOrc.none 142 [.el .spec] (s, ()) = F142 s := by kernel_rfl
def g142 : Sig := ⟨[.el .spec], [.cell .i]⟩
def T142 {R : Type} : Orc R := fun f args h k => bif Nat.beq f 142 then contract g142 (fun d => F142 d.1) args h k else T134 f args h k
def F143 (s : Spec) : Option (Int) :=
 (match (F134 s s.Max) with
 | some r1 => some r1
 | none => none)
theorem ev143 (s : Spec) : evC (R' := [.cell .i]) P KK T142 LOrc.none 143 [.el .spec] (s, ()) = F143 s := by kernel_rfl
def g143 : Sig := ⟨[.el .spec], [.cell .i]⟩
def T143 {R : Type} : Orc R := fun f args h k => bif Nat.beq f 143 then contract g143 (fun d => F143 d.1) args h k else T142 f args h k
def F190  : Int × Int :=
 (0, 1099511627776)
theorem ev190  : evC (R' := [.agg [.i, .i]]) P KK T143 LOrc.none 190 [] () = some (F190) := by kernel_rfl
def g190 : Sig := ⟨[], [.agg [.i, .i]]⟩
def T190 {R : Type} : Orc R := fun f args h k => bif Nat.beq f 190 then contract g190 (fun d => some (F190)) args h k else T143 f args h k
def S164_8 {R : Type} (e0 : Int → Bool → Int → Option R) (e1 : Int → Option R) (y9 y10 : Nat) (y11 : Int) (y12 y13 : Nat) (y14 : Int) (y16 : List Int) (y17 y18 : Int) (rec : Int → Int → Option R) (y8 y15 : Int) : Option R :=
 bif decide (y15 < y14) then
  bif (decide (0 ≤ y15) && decide (y15 < (y13 : Int))) then (match y16[(y12 + (Int.toNat y15))]? with
   | some x19 => bif decide (x19 < y17) then
     e0 0 false y8
    else bif decide (y18 < x19) then
     e0 0 false y8
    else rec (wI (y8 + x19)) (wI (y15 + 1))
   | none => none)
  else none
 else e1 y8
def L164_8 {R : Type} (e0 : Int → Bool → Int → Option R) (e1 : Int → Option R) (y9 y10 : Nat) (y11 : Int) (y12 y13 : Nat) (y14 : Int) (y16 : List Int) (y17 y18 : Int) : Nat → Int → Int → Option R
 | 0 => fun _ _ => none
 | n + 1 => S164_8  e0 e1 y9 y10 y11 y12 y13 y14 y16 y17 y18 (L164_8  e0 e1 y9 y10 y11 y12 y13 y14 y16 y17 y18 n)
def ps164_8 : PSt := { live := [4, 5, 6, 7, 24, 25, 26], nt := 48, env := [.ptr 1 0 0, .i, .lim 0, .i, .lim 0, .i, .i], heap := [.typ false true false 0 .int, .gen true false false 0 2 [[.i, .i]]] }
abbrev st164_8 (y8 : Int) (y9 y10 : Nat) (y11 : Int) (y12 y13 : Nat) (y14 y15 : Int) (y16 : List Int) (y17 y18 : Int) : St := ⟨[dd, dd, dd, dd, .ptr 1 0 0, I y8, .lim 0 y9 y10, I y11, dd, dd, dd, dd, dd, dd, dd, dd, dd, dd, dd, dd, dd, dd, dd, dd, .lim 0 y12 y13, I y14, I y15, dd, dd, dd, dd, dd, dd, dd, dd, dd, dd, dd, dd, dd, dd, dd, dd, dd, dd, dd, dd, dd], [some ⟨false, true, false, 0, .typ .int y16⟩, some ⟨true, false, false, 0, .gen 2 [[I y17, I y18]]⟩]⟩
abbrev sx164_8_0 (z0 : Int) (z1 : Bool) (z2 : Int) (z3 z4 : Nat) (z5 : Int) (z6 : List Int) (z7 z8 : Int) : St := ⟨[dd, dd, I z0, .bool z1, .ptr 1 0 0, I z2, .lim 0 z3 z4, I z5, dd, dd, dd, dd, dd, dd, dd, dd, dd, dd, dd, dd, dd, dd, dd, dd, dd, dd, dd, dd, dd, dd, dd, dd, dd, dd, dd, dd, dd, dd, dd, dd, dd, dd, dd, dd, dd, dd, dd, dd], [some ⟨false, true, false, 0, .typ .int z6⟩, some ⟨true, false, false, 0, .gen 2 [[I z7, I z8]]⟩]⟩
abbrev sx164_8_1 (z0 : Int) (z1 z2 : Nat) (z3 : Int) (z4 : List Int) (z5 z6 : Int) : St := ⟨[dd, dd, dd, dd, .ptr 1 0 0, I z0, .lim 0 z1 z2, I z3, dd, dd, dd, dd, dd, dd, dd, dd, dd, dd, dd, dd, dd, dd, dd, dd, dd, dd, dd, dd, dd, dd, dd, dd, dd, dd, dd, dd, dd, dd, dd, dd, dd, dd, dd, dd, dd, dd, dd, dd], [some ⟨false, true, false, 0, .typ .int z4⟩, some ⟨true, false, false, 0, .gen 2 [[I z5, I z6]]⟩]⟩
theorem ly164_8 (y8 : Int) (y9 y10 : Nat) (y11 : Int) (y12 y13 : Nat) (y14 y15 : Int) (y16 : List Int) (y17 y18 : Int) : layS ps164_8 (y8, y9, y10, y11, y12, y13, y14, y15, y16, y17, y18, ()) = st164_8 y8 y9 y10 y11 y12 y13 y14 y15 y16 y17 y18 := by kernel_rfl
abbrev E164_8_0 {R : Type} (k : Ex → St → Option R) (y9 y10 : Nat) (y11 : Int) (y16 : List Int) (y17 y18 z0 : Int) (z1 : Bool) (z2 : Int) : Option R := k .ret (sx164_8_0 z0 z1 z2 y9 y10 y11 y16 y17 y18)
abbrev E164_8_1 {R : Type} (k : Ex → St → Option R) (y9 y10 : Nat) (y11 : Int) (y16 : List Int) (y17 y18 z0 : Int) : Option R := k (.exit 2) (sx164_8_1 z0 y9 y10 y11 y16 y17 y18)
noncomputable abbrev J164_8 {R : Type} (n : Nat) (y9 y10 : Nat) (y11 : Int) (y12 y13 : Nat) (y14 : Int) (y16 : List Int) (y17 y18 y8 y15 : Int) (k : Ex → St → Option R) : Option R :=
 iter (ev P KK T190 LOrc.none 300 164 (loopOf P 164 8)) (headL P KK (KK.ann 164 8) 2) (gcL (KK.ann 164 8).out 2) n (st164_8 y8 y9 y10 y11 y12 y13 y14 y15 y16 y17 y18) k
theorem k164_8 {R : Type} (n : Nat) (y9 y10 : Nat) (y11 : Int) (y12 y13 : Nat) (y14 : Int) (y16 : List Int) (y17 y18 y8 y15 : Int) (k : Ex → St → Option R) : J164_8  (n + 1) y9 y10 y11 y12 y13 y14 y16 y17 y18 y8 y15 k = S164_8  (E164_8_0 k y9 y10 y11 y16 y17 y18) (E164_8_1 k y9 y10 y11 y16 y17 y18) y9 y10 y11 y12 y13 y14 y16 y17 y18 (fun y8 y15 => J164_8  n y9 y10 y11 y12 y13 y14 y16 y17 y18 y8 y15 k) y8 y15 := by kernel_rfl
theorem it164_8 {R : Type} (y9 y10 : Nat) (y11 : Int) (y12 y13 : Nat) (y14 : Int) (y16 : List Int) (y17 y18 : Int) (k : Ex → St → Option R) : ∀ (n : Nat) (y8 y15 : Int), J164_8  n y9 y10 y11 y12 y13 y14 y16 y17 y18 y8 y15 k = L164_8  (E164_8_0 k y9 y10 y11 y16 y17 y18) (E164_8_1 k y9 y10 y11 y16 y17 y18) y9 y10 y11 y12 y13 y14 y16 y17 y18 n y8 y15 := by
 intro n
 induction n with
 | zero => intros; rfl
 | succ n ih =>
  intro y8 y15
  rw [k164_8, show (fun y8 y15 => J164_8  n y9 y10 y11 y12 y13 y14 y16 y17 y18 y8 y15 k) = L164_8  (E164_8_0 k y9 y10 y11 y16 y17 y18) (E164_8_1 k y9 y10 y11 y16 y17 y18) y9 y10 y11 y12 y13 y14 y16 y17 y18 n from by funext y8 y15; exact ih y8 y15]
  rfl
def lb164_8 {R : Type} (lf : Nat) (d : ps164_8.D) (k : Ex → St → Option R) : Option R := match d with
 | (y8, y9, y10, y11, y12, y13, y14, y15, y16, y17, y18, ()) => L164_8  (E164_8_0 k y9 y10 y11 y16 y17 y18) (E164_8_1 k y9 y10 y11 y16 y17 y18) y9 y10 y11 y12 y13 y14 y16 y17 y18 lf y8 y15
def lt164_8 {R : Type} (lf : Nat) : LOrc R := fun f id n0 st k => bif Nat.beq f 164 && (Nat.beq id 8 && Nat.beq n0 2) then readS ps164_8 st fun d => lb164_8 lf d k else LOrc.none f id n0 st k
def S164_5 {R : Type} (lf : Nat) (e0 : Int → Bool → Int → Option R) (e1 : Int → Option R) (y5 : List Int) (y6 y7 : Int) (rec : Int → Nat → Nat → Option R) (y2 : Int) (y3 y4 : Nat) : Option R :=
 bif decide (0 < (y4 : Int)) then
  bif (decide (0 ≤ (min 4 (y4 : Int))) && decide ((min 4 (y4 : Int)) ≤ (y4 : Int))) then bif (decide (0 ≤ (min 4 (y4 : Int))) && decide ((min 4 (y4 : Int)) ≤ ((Int.toNat (min 4 (y4 : Int))) : Int))) then L164_8 (fun z20 z21 z22 => e0 z20 z21 z22) (fun z23 => bif (decide (0 ≤ (min 4 (y4 : Int))) && decide ((min 4 (y4 : Int)) ≤ (y4 : Int))) then rec z23 (y3 + (Int.toNat (min 4 (y4 : Int)))) (y4 - (Int.toNat (min 4 (y4 : Int))))
      else none) y3 y4 (min 4 (y4 : Int)) (y3 + 0) ((Int.toNat (min 4 (y4 : Int))) - 0) (((Int.toNat (min 4 (y4 : Int))) - 0) : Int) y5 y6 y7 lf y2 0
   else none
  else none
 else e1 y2
def L164_5 {R : Type} (lf : Nat) (e0 : Int → Bool → Int → Option R) (e1 : Int → Option R) (y5 : List Int) (y6 y7 : Int) : Nat → Int → Nat → Nat → Option R
 | 0 => fun _ _ _ => none
 | n + 1 => S164_5 lf  e0 e1 y5 y6 y7 (L164_5 lf  e0 e1 y5 y6 y7 n)
def ps164_5 : PSt := { live := [4, 5, 6], nt := 48, env := [.ptr 1 0 0, .i, .lim 0], heap := [.typ false true false 0 .int, .gen true false false 0 2 [[.i, .i]]] }
abbrev st164_5 (y2 : Int) (y3 y4 : Nat) (y5 : List Int) (y6 y7 : Int) : St := ⟨[dd, dd, dd, dd, .ptr 1 0 0, I y2, .lim 0 y3 y4, dd, dd, dd, dd, dd, dd, dd, dd, dd, dd, dd, dd, dd, dd, dd, dd, dd, dd, dd, dd, dd, dd, dd, dd, dd, dd, dd, dd, dd, dd, dd, dd, dd, dd, dd, dd, dd, dd, dd, dd, dd], [some ⟨false, true, false, 0, .typ .int y5⟩, some ⟨true, false, false, 0, .gen 2 [[I y6, I y7]]⟩]⟩
abbrev sx164_5_0 (z0 : Int) (z1 : Bool) (z2 : Int) (z3 : List Int) (z4 z5 : Int) : St := ⟨[dd, dd, I z0, .bool z1, dd, I z2, dd, dd, dd, dd, dd, dd, dd, dd, dd, dd, dd, dd, dd, dd, dd, dd, dd, dd, dd, dd, dd, dd, dd, dd, dd, dd, dd, dd, dd, dd, dd, dd, dd, dd, dd, dd, dd, dd, dd, dd, dd, dd], [some ⟨false, true, false, 0, .typ .int z3⟩, some ⟨true, false, false, 0, .gen 2 [[I z4, I z5]]⟩]⟩
abbrev sx164_5_1 (z0 : Int) (z1 : List Int) (z2 z3 : Int) : St := ⟨[dd, dd, dd, dd, dd, I z0, dd, dd, dd, dd, dd, dd, dd, dd, dd, dd, dd, dd, dd, dd, dd, dd, dd, dd, dd, dd, dd, dd, dd, dd, dd, dd, dd, dd, dd, dd, dd, dd, dd, dd, dd, dd, dd, dd, dd, dd, dd, dd], [some ⟨false, true, false, 0, .typ .int z1⟩, some ⟨true, false, false, 0, .gen 2 [[I z2, I z3]]⟩]⟩
theorem ly164_5 (y2 : Int) (y3 y4 : Nat) (y5 : List Int) (y6 y7 : Int) : layS ps164_5 (y2, y3, y4, y5, y6, y7, ()) = st164_5 y2 y3 y4 y5 y6 y7 := by kernel_rfl
abbrev E164_5_0 {R : Type} (k : Ex → St → Option R) (y5 : List Int) (y6 y7 z0 : Int) (z1 : Bool) (z2 : Int) : Option R := k .ret (sx164_5_0 z0 z1 z2 y5 y6 y7)
abbrev E164_5_1 {R : Type} (k : Ex → St → Option R) (y5 : List Int) (y6 y7 z0 : Int) : Option R := k (.exit 0) (sx164_5_1 z0 y5 y6 y7)
noncomputable abbrev J164_5 {R : Type} (lf : Nat) (n : Nat) (y5 : List Int) (y6 y7 y2 : Int) (y3 y4 : Nat) (k : Ex → St → Option R) : Option R :=
 iter (ev P KK T190 (lt164_8 lf) 300 164 (loopOf P 164 5)) (headL P KK (KK.ann 164 5) 2) (gcL (KK.ann 164 5).out 2) n (st164_5 y2 y3 y4 y5 y6 y7) k
theorem k164_5 {R : Type} (lf : Nat) (n : Nat) (y5 : List Int) (y6 y7 y2 : Int) (y3 y4 : Nat) (k : Ex → St → Option R) : J164_5 lf  (n + 1) y5 y6 y7 y2 y3 y4 k = S164_5 lf  (E164_5_0 k y5 y6 y7) (E164_5_1 k y5 y6 y7) y5 y6 y7 (fun y2 y3 y4 => J164_5 lf  n y5 y6 y7 y2 y3 y4 k) y2 y3 y4 := by kernel_rfl
theorem it164_5 {R : Type} (lf : Nat) (y5 : List Int) (y6 y7 : Int) (k : Ex → St → Option R) : ∀ (n : Nat) (y2 : Int) (y3 y4 : Nat), J164_5 lf  n y5 y6 y7 y2 y3 y4 k = L164_5 lf  (E164_5_0 k y5 y6 y7) (E164_5_1 k y5 y6 y7) y5 y6 y7 n y2 y3 y4 := by
 intro n
 induction n with
 | zero => intros; rfl
 | succ n ih =>
  intro y2 y3 y4
  rw [k164_5, show (fun y2 y3 y4 => J164_5 lf  n y5 y6 y7 y2 y3 y4 k) = L164_5 lf  (E164_5_0 k y5 y6 y7) (E164_5_1 k y5 y6 y7) y5 y6 y7 n from by funext y2 y3 y4; exact ih y2 y3 y4]
  rfl
def lb164_5 {R : Type} (lf : Nat) (d : ps164_5.D) (k : Ex → St → Option R) : Option R := match d with
 | (y2, y3, y4, y5, y6, y7, ()) => L164_5 lf  (E164_5_0 k y5 y6 y7) (E164_5_1 k y5 y6 y7) y5 y6 y7 lf y2 y3 y4
def lt164_5 {R : Type} (lf : Nat) : LOrc R := fun f id n0 st k => bif Nat.beq f 164 && (Nat.beq id 5 && Nat.beq n0 2) then readS ps164_5 st fun d => lb164_5 lf d k else (lt164_8 lf) f id n0 st k
def F164 (lf : Nat) (l : List Int) : Option (Int × Bool) :=
 bif decide (1000 < (l.length : Int)) then
  some (0, false)
 else let r1 := F190
 L164_5 lf (fun z24 z25 z26 => some (z24, z25)) (fun z27 => some (z27, true)) l r1.1 r1.2 lf 0 0 l.length
theorem ev164 (lf : Nat) (l : List Int) : evC (R' := [.cell .i, .cell .b]) P KK T190 (lt164_5 lf) 164 [.cell (.sl .int)] (l, ()) = F164 lf l := by kernel_rfl
def g164 : Sig := ⟨[.cell (.sl .int)], [.cell .i, .cell .b]⟩
def T164 {R : Type} : Orc R := fun f args h k => bif Nat.beq f 164 then contract g164 (fun d => F164 fuel d.1) args h k else T190 f args h k
def F135 (l : List Int) : Option (Bool) :=
 (match (F164 fuel l) with
 | some r1 => bif r1.2 then
   some (decide (r1.1 ≤ 983040))
  else some false
 | none => none)
theorem ev135 (l : List Int) : evC (R' := [.cell .b]) P KK T164 LOrc.none 135 [.cell (.sl .int)] (l, ()) = F135 l := by kernel_rfl
def g135 : Sig := ⟨[.cell (.sl .int)], [.cell .b]⟩
def T135 {R : Type} : Orc R := fun f args h k => bif Nat.beq f 135 then contract g135 (fun d => F135 d.1) args h k else T164 f args h k
def F122 (s : Spec) (j : Job) : Option (Bool) :=
 bif (!(F104 s)) then
  some false
 else bif (!j.On) then
  some ((j.On == false) && (decide (j.J = 0) && (decide (j.Rel = 0) && (decide (j.Due = 0) && ((j.Mand == false) && (decide (j.C = 0) && (decide (j.D = 0) && (decide (j.Ran = 0) && true))))))))
 else bif decide (j.J < 0) then
  bif decide (j.J < 0) then
   some false
  else bif decide (j.C = s.C) then
   bif decide (1 ≤ j.D) then
    bif decide (j.D ≤ 20) then
     bif decide (0 ≤ j.Ran) then
      bif decide (j.Ran < (min j.C j.D)) then
       (match (F159 s.M s.K j.J) with
       | some r1 => some (j.Mand == r1)
       | none => none)
      else some false
     else some false
    else some false
   else some false
  else some false
 else bif decide (1099511627776 < j.J) then
  bif decide (1099511627776 < j.J) then
   some false
  else bif decide (j.C = s.C) then
   bif decide (1 ≤ j.D) then
    bif decide (j.D ≤ 20) then
     bif decide (0 ≤ j.Ran) then
      bif decide (j.Ran < (min j.C j.D)) then
       (match (F159 s.M s.K j.J) with
       | some r2 => some (j.Mand == r2)
       | none => none)
      else some false
     else some false
    else some false
   else some false
  else some false
 else bif decide (j.Rel < 0) then
  bif decide (j.Rel < 0) then
   some false
  else bif decide (j.C = s.C) then
   bif decide (1 ≤ j.D) then
    bif decide (j.D ≤ 20) then
     bif decide (0 ≤ j.Ran) then
      bif decide (j.Ran < (min j.C j.D)) then
       (match (F159 s.M s.K j.J) with
       | some r3 => some (j.Mand == r3)
       | none => none)
      else some false
     else some false
    else some false
   else some false
  else some false
 else bif decide (j.Due ≤ j.Rel) then
  bif decide (j.Due ≤ j.Rel) then
   some false
  else bif decide (j.C = s.C) then
   bif decide (1 ≤ j.D) then
    bif decide (j.D ≤ 20) then
     bif decide (0 ≤ j.Ran) then
      bif decide (j.Ran < (min j.C j.D)) then
       (match (F159 s.M s.K j.J) with
       | some r4 => some (j.Mand == r4)
       | none => none)
      else some false
     else some false
    else some false
   else some false
  else some false
 else bif decide (1099511627776 < j.Due) then
  some false
 else bif decide (j.C = s.C) then
  bif decide (1 ≤ j.D) then
   bif decide (j.D ≤ 20) then
    bif decide (0 ≤ j.Ran) then
     bif decide (j.Ran < (min j.C j.D)) then
      (match (F159 s.M s.K j.J) with
      | some r5 => some (j.Mand == r5)
      | none => none)
     else some false
    else some false
   else some false
  else some false
 else some false
theorem ev122 (s : Spec) (j : Job) : evC (R' := [.cell .b]) P KK T135 LOrc.none 122 [.el .spec, .el .job] (s, j, ()) = F122 s j := by kernel_rfl
def g122 : Sig := ⟨[.el .spec, .el .job], [.cell .b]⟩
def T122 {R : Type} : Orc R := fun f args h k => bif Nat.beq f 122 then contract g122 (fun d => F122 d.1 d.2.1) args h k else T135 f args h k
def F150 (s : Spec) (n rel due d : Int) : Option (Job × Bool) :=
 (match (F159 s.M s.K n) with
 | some r1 => (match (F122 s (Job.mk true n rel due r1 s.C d 0)) with
  | some r2 => bif (!r2) then
    some ((Job.mk false 0 0 0 false 0 0 0), false)
   else some ((Job.mk true n rel due r1 s.C d 0), true)
  | none => none)
 | none => none)
theorem ev150 (s : Spec) (n rel due d : Int) : evC (R' := [.el .job, .cell .b]) P KK T122 LOrc.none 150 [.el .spec, .cell .i, .cell .i, .cell .i, .cell .i] (s, n, rel, due, d, ()) = F150 s n rel due d := by kernel_rfl
def g150 : Sig := ⟨[.el .spec, .cell .i, .cell .i, .cell .i, .cell .i], [.el .job, .cell .b]⟩
def T150 {R : Type} : Orc R := fun f args h k => bif Nat.beq f 150 then contract g150 (fun d => F150 d.1 d.2.1 d.2.2.1 d.2.2.2.1 d.2.2.2.2.1) args h k else T122 f args h k
def K101 {R : Type} (kk : Int → R) (j : Job) : R :=
 bif (!j.On) then
  kk 0
 else kk (max (wI (j.C - j.Ran)) 0)
def F101 (j : Job) : Int := K101 (fun r => r) j
theorem ev101 (j : Job) : evC (R' := [.cell .i]) P KK T150 LOrc.none 101 [.el .job] (j, ()) = some (F101 j) := by
 rw [show evC (R' := [.cell .i]) P KK T150 LOrc.none 101 [.el .job] (j, ()) = K101 some j from by kernel_rfl]
 simp only [F101, K101, some_cond]
 try rfl
def g101 : Sig := ⟨[.el .job], [.cell .i]⟩
def T101 {R : Type} : Orc R := fun f args h k => bif Nat.beq f 101 then contract g101 (fun d => some (F101 d.1)) args h k else T150 f args h k
def K237 {R : Type} (kk : Int → R) (j : Job) : R :=
 bif (!j.On) then
  kk 0
 else kk (max (min (wI (j.C - j.Ran)) (wI (j.D - j.Ran))) 0)
def F237 (j : Job) : Int := K237 (fun r => r) j
theorem ev237 (j : Job) : evC (R' := [.cell .i]) P KK T101 LOrc.none 237 [.el .job] (j, ()) = some (F237 j) := by
 rw [show evC (R' := [.cell .i]) P KK T101 LOrc.none 237 [.el .job] (j, ()) = K237 some j from by kernel_rfl]
 simp only [F237, K237, some_cond]
 try rfl
def g237 : Sig := ⟨[.el .job], [.cell .i]⟩
def T237 {R : Type} : Orc R := fun f args h k => bif Nat.beq f 237 then contract g237 (fun d => some (F237 d.1)) args h k else T101 f args h k
def F163  : Int × Int × Int :=
 (0, 2, 1)
theorem ev163  : evC (R' := [.agg [.i, .i, .i]]) P KK T237 LOrc.none 163 [] () = some (F163) := by kernel_rfl
def g163 : Sig := ⟨[], [.agg [.i, .i, .i]]⟩
def T163 {R : Type} : Orc R := fun f args h k => bif Nat.beq f 163 then contract g163 (fun d => some (F163)) args h k else T237 f args h k
def K130 {R : Type} (kk : (Job × Int) → R) (j : Job) : R :=
 bif (!j.On) then
  kk ((Job.mk false 0 0 0 false 0 0 0), 3)
 else bif decide (j.D ≤ (wI (j.Ran + 1))) then
  let r1 := F163
  kk ((Job.mk false 0 0 0 false 0 0 0), r1.2.2)
 else bif decide (j.C ≤ (wI (j.Ran + 1))) then
  let r2 := F163
  kk ((Job.mk false 0 0 0 false 0 0 0), r2.2.1)
 else let r3 := F163
 kk ((Job.mk j.On j.J j.Rel j.Due j.Mand j.C j.D (wI (j.Ran + 1))), r3.1)
def F130 (j : Job) : Job × Int := K130 (fun r => r) j
theorem ev130 (j : Job) : evC (R' := [.el .job, .cell .i]) P KK T163 LOrc.none 130 [.el .job] (j, ()) = some (F130 j) := by
 rw [show evC (R' := [.el .job, .cell .i]) P KK T163 LOrc.none 130 [.el .job] (j, ()) = K130 some j from by kernel_rfl]
 simp only [F130, K130, some_cond]
 try rfl
def g130 : Sig := ⟨[.el .job], [.el .job, .cell .i]⟩
def T130 {R : Type} : Orc R := fun f args h k => bif Nat.beq f 130 then contract g130 (fun d => some (F130 d.1)) args h k else T163 f args h k
def K131 {R : Type} (kk : (Job × Int) → R) (j : Job) (now : Int) : R :=
 bif (!j.On) then
  kk (j, 0)
 else bif decide (now < j.Due) then
  kk (j, 0)
 else kk ((Job.mk false 0 0 0 false 0 0 0), 3)
def F131 (j : Job) (now : Int) : Job × Int := K131 (fun r => r) j now
theorem ev131 (j : Job) (now : Int) : evC (R' := [.el .job, .cell .i]) P KK T130 LOrc.none 131 [.el .job, .cell .i] (j, now, ()) = some (F131 j now) := by
 rw [show evC (R' := [.el .job, .cell .i]) P KK T130 LOrc.none 131 [.el .job, .cell .i] (j, now, ()) = K131 some j now from by kernel_rfl]
 simp only [F131, K131, some_cond]
 try rfl
def g131 : Sig := ⟨[.el .job, .cell .i], [.el .job, .cell .i]⟩
def T131 {R : Type} : Orc R := fun f args h k => bif Nat.beq f 131 then contract g131 (fun d => some (F131 d.1 d.2.1)) args h k else T130 f args h k
def K132 {R : Type} (kk : Bool → R) (j : Job) : R :=
 bif j.On then
  bif j.Mand then
   kk (decide (0 < (F101 j)))
  else kk false
 else kk false
def F132 (j : Job) : Bool := K132 (fun r => r) j
theorem ev132 (j : Job) : evC (R' := [.cell .b]) P KK T131 LOrc.none 132 [.el .job] (j, ()) = some (F132 j) := by
 rw [show evC (R' := [.cell .b]) P KK T131 LOrc.none 132 [.el .job] (j, ()) = K132 some j from by kernel_rfl]
 simp only [F132, K132, some_cond]
 try rfl
def g132 : Sig := ⟨[.el .job], [.cell .b]⟩
def T132 {R : Type} : Orc R := fun f args h k => bif Nat.beq f 132 then contract g132 (fun d => some (F132 d.1)) args h k else T131 f args h k
def K124 {R : Type} (kk : Bool → R) (n low high : Int) : R :=
 bif decide (low ≤ n) then
  kk (decide (n ≤ high))
 else kk false
def F124 (n low high : Int) : Bool := K124 (fun r => r) n low high
theorem ev124 (n low high : Int) : evC (R' := [.cell .b]) P KK T132 LOrc.none 124 [.cell .i, .cell .i, .cell .i] (n, low, high, ()) = some (F124 n low high) := by
 rw [show evC (R' := [.cell .b]) P KK T132 LOrc.none 124 [.cell .i, .cell .i, .cell .i] (n, low, high, ()) = K124 some n low high from by kernel_rfl]
 simp only [F124, K124, some_cond]
 try rfl
def g124 : Sig := ⟨[.cell .i, .cell .i, .cell .i], [.cell .b]⟩
def T124 {R : Type} : Orc R := fun f args h k => bif Nat.beq f 124 then contract g124 (fun d => some (F124 d.1 d.2.1 d.2.2.1)) args h k else T132 f args h k
def F127 (x : Live) (now : Int) : Option (Bool) :=
 bif (!(F104 x.S)) then
  some false
 else (match (F134 x.S x.P) with
 | some r1 => bif decide (r1 = 0) then
   some false
  else bif (!(F124 x.At now (wI (now + 48)))) then
   some false
  else bif (!(F124 x.N 0 549755813888)) then
   some false
  else (match (F122 x.S x.J) with
  | some r2 => bif (!r2) then
    some false
   else bif (!x.J.On) then
    some true
   else bif decide (x.J.Rel < now) then
    bif decide (x.J.Due = x.At) then
     some (decide (x.N = (wI (x.J.J + 1))))
    else some false
   else some false
  | none => none)
 | none => none)
theorem ev127 (x : Live) (now : Int) : evC (R' := [.cell .b]) P KK T124 LOrc.none 127 [.el .live, .cell .i] (x, now, ()) = F127 x now := by kernel_rfl
def g127 : Sig := ⟨[.el .live, .cell .i], [.cell .b]⟩
def T127 {R : Type} : Orc R := fun f args h k => bif Nat.beq f 127 then contract g127 (fun d => F127 d.1 d.2.1) args h k else T124 f args h k
end Go.Abs
