/- Own: Functions of the program as Lean functions, and that the interpreter comes to them. -/
import Derived.Test.YtmiajnodoigndaaGreatTr4
set_option linter.unusedVariables false
set_option linter.unusedSimpArgs false
set_option maxRecDepth 1000000
set_option maxHeartbeats 16000000
namespace Go.Abs
def K210 {R : Type} (kk : (Int × Int) → R) (a b : Int) : R :=
 let r1 := (F213 (wU a) (wU b))
 kk (r1.1, r1.2)
def F210 (a b : Int) : Int × Int := K210 (fun r => r) a b
theorem ev210 (a b : Int) : evC (R' := [.agg [.u, .u]]) P KK T213 LOrc.none 210 [.cell .i, .cell .i] (a, b, ()) = some (F210 a b) := by
 rw [show evC (R' := [.agg [.u, .u]]) P KK T213 LOrc.none 210 [.cell .i, .cell .i] (a, b, ()) = K210 some a b from by kernel_rfl]
 simp only [F210, K210, some_cond]
 try rfl
def g210 : Sig := ⟨[.cell .i, .cell .i], [.agg [.u, .u]]⟩
def T210 {R : Type} : Orc R := fun f args h k => bif Nat.beq f 210 then contract g210 (fun d => some (F210 d.1 d.2.1)) args h k else T213 f args h k
def F206 (a b c d : Int) : Option (Int × Bool) :=
 bif (F199 a 0 4611686018427387904) then
  bif (!(F199 b 1 4611686018427387904)) then
   some (0, false)
  else bif (F199 c 0 4611686018427387904) then
   bif (!(F199 d 1 4611686018427387904)) then
    some (0, false)
   else let r1 := (F210 a d)
   let r2 := (F210 c b)
   bif (decide (r1.1 = r2.1) && (decide (r1.2 = r2.2) && true)) then
    some (0, true)
   else (match (F211 fuel [r1.1, r1.2] [r2.1, r2.2]) with
   | some r3 => some (r3, true)
   | none => none)
  else some (0, false)
 else some (0, false)
theorem ev206 (a b c d : Int) : evC (R' := [.cell .i, .cell .b]) P KK T210 LOrc.none 206 [.cell .i, .cell .i, .cell .i, .cell .i] (a, b, c, d, ()) = F206 a b c d := by kernel_rfl
def g206 : Sig := ⟨[.cell .i, .cell .i, .cell .i, .cell .i], [.cell .i, .cell .b]⟩
def T206 {R : Type} : Orc R := fun f args h k => bif Nat.beq f 206 then contract g206 (fun d => F206 d.1 d.2.1 d.2.2.1 d.2.2.2.1) args h k else T210 f args h k
def F196 (f_a f_b : Int) (s : Spr) : Option (Bool) :=
 (match (F206 (wI (f_a * s.E)) f_b (wI (s.U - s.Min)) 1) with
 | some r1 => some (decide (0 < r1.1))
 | none => none)
theorem ev196 (f_a f_b : Int) (s : Spr) : evC (R' := [.cell .b]) P KK T206 LOrc.none 196 [.agg [.i, .i], .el .spr] ((f_a, f_b, ()), s, ()) = F196 f_a f_b s := by kernel_rfl
def g196 : Sig := ⟨[.agg [.i, .i], .el .spr], [.cell .b]⟩
def T196 {R : Type} : Orc R := fun f args h k => bif Nat.beq f 196 then contract g196 (fun d => F196 d.1.1 d.1.2.1 d.2.1) args h k else T206 f args h k
def S195_3 {R : Type} (e0 : Int → Int → Option R) (y3 : Int) (y5 : List (Int × Spr)) (y6 : List Spr) (y7 y8 : Int) (rec : Int → Int → Int → Option R) (y1 y2 y4 : Int) : Option R :=
 bif decide (y4 < y3) then
  bif (decide (0 ≤ y4) && decide (y4 < (y6.length : Int))) then (match y6[(Int.toNat y4)]? with
   | some x9 => bif (getM y5 y4).isSome then
     rec (wI (y1 + x9.U)) (wI (y2 + x9.E)) (wI (y4 + 1))
    else rec (wI (y1 + (F146 x9))) y2 (wI (y4 + 1))
   | none => none)
  else none
 else e0 y1 y2
def L195_3 {R : Type} (e0 : Int → Int → Option R) (y3 : Int) (y5 : List (Int × Spr)) (y6 : List Spr) (y7 y8 : Int) : Nat → Int → Int → Int → Option R
 | 0 => fun _ _ _ => none
 | n + 1 => S195_3  e0 y3 y5 y6 y7 y8 (L195_3  e0 y3 y5 y6 y7 y8 n)
def ps195_3 : PSt := { live := [0, 6, 7, 8, 16, 17, 18], nt := 60, env := [.mapv 0, .ptr 2 0 0, .i, .i, .whole 1, .i, .i], heap := [.mp false true .spr, .typ false true false 0 .spr, .gen true false false 0 2 [[.i, .i]]] }
abbrev st195_3 (y1 y2 y3 y4 : Int) (y5 : List (Int × Spr)) (y6 : List Spr) (y7 y8 : Int) : St := ⟨[.mapv 0, dd, dd, dd, dd, dd, .ptr 2 0 0, I y1, I y2, dd, dd, dd, dd, dd, dd, dd, .whole 1, I y3, I y4, dd, dd, dd, dd, dd, dd, dd, dd, dd, dd, dd, dd, dd, dd, dd, dd, dd, dd, dd, dd, dd, dd, dd, dd, dd, dd, dd, dd, dd, dd, dd, dd, dd, dd, dd, dd, dd, dd, dd, dd, dd], [some ⟨false, false, true, 0, .mp .spr y5⟩, some ⟨false, true, false, 0, .typ .spr y6⟩, some ⟨true, false, false, 0, .gen 2 [[I y7, I y8]]⟩]⟩
abbrev sx195_3_0 (z0 z1 : Int) (z2 : List (Int × Spr)) (z3 : List Spr) (z4 z5 : Int) : St := ⟨[dd, dd, dd, dd, dd, dd, .ptr 2 0 0, I z0, I z1, dd, dd, dd, dd, dd, dd, dd, dd, dd, dd, dd, dd, dd, dd, dd, dd, dd, dd, dd, dd, dd, dd, dd, dd, dd, dd, dd, dd, dd, dd, dd, dd, dd, dd, dd, dd, dd, dd, dd, dd, dd, dd, dd, dd, dd, dd, dd, dd, dd, dd, dd], [some ⟨false, false, true, 0, .mp .spr z2⟩, some ⟨false, true, false, 0, .typ .spr z3⟩, some ⟨true, false, false, 0, .gen 2 [[I z4, I z5]]⟩]⟩
theorem ly195_3 (y1 y2 y3 y4 : Int) (y5 : List (Int × Spr)) (y6 : List Spr) (y7 y8 : Int) : layS ps195_3 (y1, y2, y3, y4, y5, y6, y7, y8, ()) = st195_3 y1 y2 y3 y4 y5 y6 y7 y8 := by kernel_rfl
abbrev E195_3_0 {R : Type} (k : Ex → St → Option R) (y5 : List (Int × Spr)) (y6 : List Spr) (y7 y8 z0 z1 : Int) : Option R := k (.exit 0) (sx195_3_0 z0 z1 y5 y6 y7 y8)
noncomputable abbrev J195_3 {R : Type} (n : Nat) (y3 : Int) (y5 : List (Int × Spr)) (y6 : List Spr) (y7 y8 y1 y2 y4 : Int) (k : Ex → St → Option R) : Option R :=
 iter (ev P KK T196 LOrc.none 300 195 (loopOf P 195 3)) (headL P KK (KK.ann 195 3) 3) (gcL (KK.ann 195 3).out 3) n (st195_3 y1 y2 y3 y4 y5 y6 y7 y8) k
theorem k195_3 {R : Type} (n : Nat) (y3 : Int) (y5 : List (Int × Spr)) (y6 : List Spr) (y7 y8 y1 y2 y4 : Int) (k : Ex → St → Option R) : J195_3  (n + 1) y3 y5 y6 y7 y8 y1 y2 y4 k = S195_3  (E195_3_0 k y5 y6 y7 y8) y3 y5 y6 y7 y8 (fun y1 y2 y4 => J195_3  n y3 y5 y6 y7 y8 y1 y2 y4 k) y1 y2 y4 := by kernel_rfl
theorem it195_3 {R : Type} (y3 : Int) (y5 : List (Int × Spr)) (y6 : List Spr) (y7 y8 : Int) (k : Ex → St → Option R) : ∀ (n : Nat) (y1 y2 y4 : Int), J195_3  n y3 y5 y6 y7 y8 y1 y2 y4 k = L195_3  (E195_3_0 k y5 y6 y7 y8) y3 y5 y6 y7 y8 n y1 y2 y4 := by
 intro n
 induction n with
 | zero => intros; rfl
 | succ n ih =>
  intro y1 y2 y4
  rw [k195_3, show (fun y1 y2 y4 => J195_3  n y3 y5 y6 y7 y8 y1 y2 y4 k) = L195_3  (E195_3_0 k y5 y6 y7 y8) y3 y5 y6 y7 y8 n from by funext y1 y2 y4; exact ih y1 y2 y4]
  rfl
def lb195_3 {R : Type} (lf : Nat) (d : ps195_3.D) (k : Ex → St → Option R) : Option R := match d with
 | (y1, y2, y3, y4, y5, y6, y7, y8, ()) => L195_3  (E195_3_0 k y5 y6 y7 y8) y3 y5 y6 y7 y8 lf y1 y2 y4
def lt195_3 {R : Type} (lf : Nat) : LOrc R := fun f id n0 st k => bif Nat.beq f 195 && (Nat.beq id 3 && Nat.beq n0 3) then readS ps195_3 st fun d => lb195_3 lf d k else LOrc.none f id n0 st k
def F195 (lf : Nat) (left : List (Int × Spr)) (l : List Spr) (load : Int) : Option (Int × Int) :=
 L195_3 (fun z10 z11 => bif decide (z10 ≤ 0) then
    some (0, 1)
   else bif decide (z11 = 0) then
    some (0, 1)
   else (match (F205 fuel z10 z11) with
   | some r12 => bif decide (r12 = 0) then none
    else bif decide (r12 = 0) then none
    else some ((wI (Int.tdiv z10 r12)), (wI (Int.tdiv z11 r12)))
   | none => none)) (l.length : Int) left l 0 0 lf (wI (0 - load)) 0 0
theorem ev195 (lf : Nat) (left : List (Int × Spr)) (l : List Spr) (load : Int) : evC (R' := [.agg [.i, .i]]) P KK T196 (lt195_3 lf) 195 [.cell (.mp true .spr), .cell (.sl .spr), .cell .i] (left, l, load, ()) = F195 lf left l load := by kernel_rfl
def g195 : Sig := ⟨[.cell (.mp true .spr), .cell (.sl .spr), .cell .i], [.agg [.i, .i]]⟩
def T195 {R : Type} : Orc R := fun f args h k => bif Nat.beq f 195 then contract g195 (fun d => F195 fuel d.1 d.2.1 d.2.2.1) args h k else T196 f args h k
def S172_3 {R : Type} (e0 : (List (Int × Spr)) → Option R) (y1 y2 : Int) (y4 : List Spr) (y5 y6 : Int) (rec : Int → (List (Int × Spr)) → Option R) (y3 : Int) (y7 : List (Int × Spr)) : Option R :=
 bif decide (y3 < y2) then
  bif (decide (0 ≤ y3) && decide (y3 < (y4.length : Int))) then (match y4[(Int.toNat y3)]? with
   | some x8 => bif decide (0 < x8.E) then
     rec (wI (y3 + 1)) (putM y7 y3 x8)
    else rec (wI (y3 + 1)) y7
   | none => none)
  else none
 else e0 y7
def L172_3 {R : Type} (e0 : (List (Int × Spr)) → Option R) (y1 y2 : Int) (y4 : List Spr) (y5 y6 : Int) : Nat → Int → (List (Int × Spr)) → Option R
 | 0 => fun _ _ => none
 | n + 1 => S172_3  e0 y1 y2 y4 y5 y6 (L172_3  e0 y1 y2 y4 y5 y6 n)
def ps172_3 : PSt := { live := [0, 1, 4, 5, 15, 16, 17], nt := 62, env := [.whole 0, .i, .ptr 1 0 0, .mapv 2, .whole 0, .i, .i], heap := [.typ false true false 0 .spr, .gen true false false 0 2 [[.i, .i]], .mp true true .spr] }
abbrev st172_3 (y1 y2 y3 : Int) (y4 : List Spr) (y5 y6 : Int) (y7 : List (Int × Spr)) : St := ⟨[.whole 0, I y1, dd, dd, .ptr 1 0 0, .mapv 2, dd, dd, dd, dd, dd, dd, dd, dd, dd, .whole 0, I y2, I y3, dd, dd, dd, dd, dd, dd, dd, dd, dd, dd, dd, dd, dd, dd, dd, dd, dd, dd, dd, dd, dd, dd, dd, dd, dd, dd, dd, dd, dd, dd, dd, dd, dd, dd, dd, dd, dd, dd, dd, dd, dd, dd, dd, dd], [some ⟨false, true, false, 0, .typ .spr y4⟩, some ⟨true, false, false, 0, .gen 2 [[I y5, I y6]]⟩, some ⟨true, false, true, 0, .mp .spr y7⟩]⟩
abbrev sx172_3_0 (z0 : Int) (z1 : List Spr) (z2 z3 : Int) (z4 : List (Int × Spr)) : St := ⟨[.whole 0, I z0, dd, dd, .ptr 1 0 0, .mapv 2, dd, dd, dd, dd, dd, dd, dd, dd, dd, dd, dd, dd, dd, dd, dd, dd, dd, dd, dd, dd, dd, dd, dd, dd, dd, dd, dd, dd, dd, dd, dd, dd, dd, dd, dd, dd, dd, dd, dd, dd, dd, dd, dd, dd, dd, dd, dd, dd, dd, dd, dd, dd, dd, dd, dd, dd], [some ⟨false, true, false, 0, .typ .spr z1⟩, some ⟨true, false, false, 0, .gen 2 [[I z2, I z3]]⟩, some ⟨true, false, true, 0, .mp .spr z4⟩]⟩
theorem ly172_3 (y1 y2 y3 : Int) (y4 : List Spr) (y5 y6 : Int) (y7 : List (Int × Spr)) : layS ps172_3 (y1, y2, y3, y4, y5, y6, y7, ()) = st172_3 y1 y2 y3 y4 y5 y6 y7 := by kernel_rfl
abbrev E172_3_0 {R : Type} (k : Ex → St → Option R) (y1 : Int) (y4 : List Spr) (y5 y6 : Int) (z4 : List (Int × Spr)) : Option R := k (.exit 0) (sx172_3_0 y1 y4 y5 y6 z4)
noncomputable abbrev J172_3 {R : Type} (n : Nat) (y1 y2 : Int) (y4 : List Spr) (y5 y6 y3 : Int) (y7 : List (Int × Spr)) (k : Ex → St → Option R) : Option R :=
 iter (ev P KK T195 LOrc.none 300 172 (loopOf P 172 3)) (headL P KK (KK.ann 172 3) 3) (gcL (KK.ann 172 3).out 3) n (st172_3 y1 y2 y3 y4 y5 y6 y7) k
theorem k172_3 {R : Type} (n : Nat) (y1 y2 : Int) (y4 : List Spr) (y5 y6 y3 : Int) (y7 : List (Int × Spr)) (k : Ex → St → Option R) : J172_3  (n + 1) y1 y2 y4 y5 y6 y3 y7 k = S172_3  (E172_3_0 k y1 y4 y5 y6) y1 y2 y4 y5 y6 (fun y3 y7 => J172_3  n y1 y2 y4 y5 y6 y3 y7 k) y3 y7 := by kernel_rfl
theorem it172_3 {R : Type} (y1 y2 : Int) (y4 : List Spr) (y5 y6 : Int) (k : Ex → St → Option R) : ∀ (n : Nat) (y3 : Int) (y7 : List (Int × Spr)), J172_3  n y1 y2 y4 y5 y6 y3 y7 k = L172_3  (E172_3_0 k y1 y4 y5 y6) y1 y2 y4 y5 y6 n y3 y7 := by
 intro n
 induction n with
 | zero => intros; rfl
 | succ n ih =>
  intro y3 y7
  rw [k172_3, show (fun y3 y7 => J172_3  n y1 y2 y4 y5 y6 y3 y7 k) = L172_3  (E172_3_0 k y1 y4 y5 y6) y1 y2 y4 y5 y6 n from by funext y3 y7; exact ih y3 y7]
  rfl
def lb172_3 {R : Type} (lf : Nat) (d : ps172_3.D) (k : Ex → St → Option R) : Option R := match d with
 | (y1, y2, y3, y4, y5, y6, y7, ()) => L172_3  (E172_3_0 k y1 y4 y5 y6) y1 y2 y4 y5 y6 lf y3 y7
def lt172_3 {R : Type} (lf : Nat) : LOrc R := fun f id n0 st k => bif Nat.beq f 172 && (Nat.beq id 3 && Nat.beq n0 3) then readS ps172_3 st fun d => lb172_3 lf d k else LOrc.none f id n0 st k
def S172_11 {R : Type} (e0 : (List (Int × Spr)) → Option R) (y16 y17 y18 : Int) (y20 : List Spr) (y21 y22 y24 y25 : Int) (rec : Int → (List (Int × Spr)) → Option R) (y19 : Int) (y23 : List (Int × Spr)) : Option R :=
 bif decide (y19 < y18) then
  bif (decide (0 ≤ y19) && decide (y19 < (y20.length : Int))) then (match y20[(Int.toNat y19)]? with
   | some x26 => bif (getM y23 y19).isSome then
     (match (F196 y24 y25 x26) with
     | some r27 => bif r27 then
       rec (wI (y19 + 1)) (delM y23 y19)
      else rec (wI (y19 + 1)) y23
     | none => none)
    else rec (wI (y19 + 1)) y23
   | none => none)
  else none
 else e0 y23
def L172_11 {R : Type} (e0 : (List (Int × Spr)) → Option R) (y16 y17 y18 : Int) (y20 : List Spr) (y21 y22 y24 y25 : Int) : Nat → Int → (List (Int × Spr)) → Option R
 | 0 => fun _ _ => none
 | n + 1 => S172_11  e0 y16 y17 y18 y20 y21 y22 y24 y25 (L172_11  e0 y16 y17 y18 y20 y21 y22 y24 y25 n)
def ps172_11 : PSt := { live := [0, 1, 4, 5, 8, 9, 35, 36, 37], nt := 62, env := [.whole 0, .i, .ptr 1 0 0, .mapv 2, .ptr 3 0 0, .i, .whole 0, .i, .i], heap := [.typ false true false 0 .spr, .gen true false false 0 2 [[.i, .i]], .mp true true .spr, .gen true false false 0 2 [[.i, .i]]] }
abbrev st172_11 (y16 y17 y18 y19 : Int) (y20 : List Spr) (y21 y22 : Int) (y23 : List (Int × Spr)) (y24 y25 : Int) : St := ⟨[.whole 0, I y16, dd, dd, .ptr 1 0 0, .mapv 2, dd, dd, .ptr 3 0 0, I y17, dd, dd, dd, dd, dd, dd, dd, dd, dd, dd, dd, dd, dd, dd, dd, dd, dd, dd, dd, dd, dd, dd, dd, dd, dd, .whole 0, I y18, I y19, dd, dd, dd, dd, dd, dd, dd, dd, dd, dd, dd, dd, dd, dd, dd, dd, dd, dd, dd, dd, dd, dd, dd, dd], [some ⟨false, true, false, 0, .typ .spr y20⟩, some ⟨true, false, false, 0, .gen 2 [[I y21, I y22]]⟩, some ⟨true, false, true, 0, .mp .spr y23⟩, some ⟨true, false, false, 0, .gen 2 [[I y24, I y25]]⟩]⟩
abbrev sx172_11_0 (z0 z1 : Int) (z2 : List Spr) (z3 z4 : Int) (z5 : List (Int × Spr)) (z6 z7 : Int) : St := ⟨[.whole 0, I z0, dd, dd, .ptr 1 0 0, .mapv 2, dd, dd, .ptr 3 0 0, I z1, dd, dd, dd, dd, dd, dd, dd, dd, dd, dd, dd, dd, dd, dd, dd, dd, dd, dd, dd, dd, dd, dd, dd, dd, dd, dd, dd, dd, dd, dd, dd, dd, dd, dd, dd, dd, dd, dd, dd, dd, dd, dd, dd, dd, dd, dd, dd, dd, dd, dd, dd, dd], [some ⟨false, true, false, 0, .typ .spr z2⟩, some ⟨true, false, false, 0, .gen 2 [[I z3, I z4]]⟩, some ⟨true, false, true, 0, .mp .spr z5⟩, some ⟨true, false, false, 0, .gen 2 [[I z6, I z7]]⟩]⟩
theorem ly172_11 (y16 y17 y18 y19 : Int) (y20 : List Spr) (y21 y22 : Int) (y23 : List (Int × Spr)) (y24 y25 : Int) : layS ps172_11 (y16, y17, y18, y19, y20, y21, y22, y23, y24, y25, ()) = st172_11 y16 y17 y18 y19 y20 y21 y22 y23 y24 y25 := by kernel_rfl
abbrev E172_11_0 {R : Type} (k : Ex → St → Option R) (y16 y17 : Int) (y20 : List Spr) (y21 y22 y24 y25 : Int) (z5 : List (Int × Spr)) : Option R := k (.exit 4) (sx172_11_0 y16 y17 y20 y21 y22 z5 y24 y25)
noncomputable abbrev J172_11 {R : Type} (n : Nat) (y16 y17 y18 : Int) (y20 : List Spr) (y21 y22 y24 y25 y19 : Int) (y23 : List (Int × Spr)) (k : Ex → St → Option R) : Option R :=
 iter (ev P KK T195 (lt172_3 lf) 300 172 (loopOf P 172 11)) (headL P KK (KK.ann 172 11) 4) (gcL (KK.ann 172 11).out 4) n (st172_11 y16 y17 y18 y19 y20 y21 y22 y23 y24 y25) k
theorem k172_11 {R : Type} (n : Nat) (y16 y17 y18 : Int) (y20 : List Spr) (y21 y22 y24 y25 y19 : Int) (y23 : List (Int × Spr)) (k : Ex → St → Option R) : J172_11  (n + 1) y16 y17 y18 y20 y21 y22 y24 y25 y19 y23 k = S172_11  (E172_11_0 k y16 y17 y20 y21 y22 y24 y25) y16 y17 y18 y20 y21 y22 y24 y25 (fun y19 y23 => J172_11  n y16 y17 y18 y20 y21 y22 y24 y25 y19 y23 k) y19 y23 := by kernel_rfl
theorem it172_11 {R : Type} (y16 y17 y18 : Int) (y20 : List Spr) (y21 y22 y24 y25 : Int) (k : Ex → St → Option R) : ∀ (n : Nat) (y19 : Int) (y23 : List (Int × Spr)), J172_11  n y16 y17 y18 y20 y21 y22 y24 y25 y19 y23 k = L172_11  (E172_11_0 k y16 y17 y20 y21 y22 y24 y25) y16 y17 y18 y20 y21 y22 y24 y25 n y19 y23 := by
 intro n
 induction n with
 | zero => intros; rfl
 | succ n ih =>
  intro y19 y23
  rw [k172_11, show (fun y19 y23 => J172_11  n y16 y17 y18 y20 y21 y22 y24 y25 y19 y23 k) = L172_11  (E172_11_0 k y16 y17 y20 y21 y22 y24 y25) y16 y17 y18 y20 y21 y22 y24 y25 n from by funext y19 y23; exact ih y19 y23]
  rfl
def lb172_11 {R : Type} (lf : Nat) (d : ps172_11.D) (k : Ex → St → Option R) : Option R := match d with
 | (y16, y17, y18, y19, y20, y21, y22, y23, y24, y25, ()) => L172_11  (E172_11_0 k y16 y17 y20 y21 y22 y24 y25) y16 y17 y18 y20 y21 y22 y24 y25 lf y19 y23
def lt172_11 {R : Type} (lf : Nat) : LOrc R := fun f id n0 st k => bif Nat.beq f 172 && (Nat.beq id 11 && Nat.beq n0 4) then readS ps172_11 st fun d => lb172_11 lf d k else (lt172_3 lf) f id n0 st k
def S172_8 {R : Type} (lf : Nat) (e0 : Int → Int → (List (Int × Spr)) → Option R) (y10 : Int) (y11 : List Spr) (y12 y13 : Int) (rec : (List (Int × Spr)) → Option R) (y14 : List (Int × Spr)) : Option R :=
 (match (F195 fuel y14 y11 y10) with
 | some r15 => L172_11 (fun z28 => bif decide ((z28.length : Int) = (y14.length : Int)) then
     e0 r15.1 r15.2 z28
    else rec z28) y10 (y14.length : Int) (y11.length : Int) y11 y12 y13 r15.1 r15.2 lf 0 y14
 | none => none)
def L172_8 {R : Type} (lf : Nat) (e0 : Int → Int → (List (Int × Spr)) → Option R) (y10 : Int) (y11 : List Spr) (y12 y13 : Int) : Nat → (List (Int × Spr)) → Option R
 | 0 => fun _ => none
 | n + 1 => S172_8 lf  e0 y10 y11 y12 y13 (L172_8 lf  e0 y10 y11 y12 y13 n)
def ps172_8 : PSt := { live := [0, 1, 4, 5], nt := 62, env := [.whole 0, .i, .ptr 1 0 0, .mapv 2], heap := [.typ false true false 0 .spr, .gen true false false 0 2 [[.i, .i]], .mp true true .spr] }
abbrev st172_8 (y10 : Int) (y11 : List Spr) (y12 y13 : Int) (y14 : List (Int × Spr)) : St := ⟨[.whole 0, I y10, dd, dd, .ptr 1 0 0, .mapv 2, dd, dd, dd, dd, dd, dd, dd, dd, dd, dd, dd, dd, dd, dd, dd, dd, dd, dd, dd, dd, dd, dd, dd, dd, dd, dd, dd, dd, dd, dd, dd, dd, dd, dd, dd, dd, dd, dd, dd, dd, dd, dd, dd, dd, dd, dd, dd, dd, dd, dd, dd, dd, dd, dd, dd, dd], [some ⟨false, true, false, 0, .typ .spr y11⟩, some ⟨true, false, false, 0, .gen 2 [[I y12, I y13]]⟩, some ⟨true, false, true, 0, .mp .spr y14⟩]⟩
abbrev sx172_8_0 (z0 : List Spr) (z1 z2 : Int) (z3 : List (Int × Spr)) : St := ⟨[dd, dd, dd, dd, .ptr 1 0 0, dd, dd, dd, dd, dd, dd, dd, dd, dd, dd, dd, dd, dd, dd, dd, dd, dd, dd, dd, dd, dd, dd, dd, dd, dd, dd, dd, dd, dd, dd, dd, dd, dd, dd, dd, dd, dd, dd, dd, dd, dd, dd, dd, dd, dd, dd, dd, dd, dd, dd, dd, dd, dd, dd, dd, dd, dd], [some ⟨false, true, false, 0, .typ .spr z0⟩, some ⟨true, false, false, 0, .gen 2 [[I z1, I z2]]⟩, some ⟨true, false, true, 0, .mp .spr z3⟩]⟩
theorem ly172_8 (y10 : Int) (y11 : List Spr) (y12 y13 : Int) (y14 : List (Int × Spr)) : layS ps172_8 (y10, y11, y12, y13, y14, ()) = st172_8 y10 y11 y12 y13 y14 := by kernel_rfl
abbrev E172_8_0 {R : Type} (k : Ex → St → Option R) (y11 : List Spr) (z1 z2 : Int) (z3 : List (Int × Spr)) : Option R := k .ret (sx172_8_0 y11 z1 z2 z3)
noncomputable abbrev J172_8 {R : Type} (lf : Nat) (n : Nat) (y10 : Int) (y11 : List Spr) (y12 y13 : Int) (y14 : List (Int × Spr)) (k : Ex → St → Option R) : Option R :=
 iter (ev P KK T195 (lt172_11 lf) 300 172 (loopOf P 172 8)) (headL P KK (KK.ann 172 8) 3) (gcL (KK.ann 172 8).out 3) n (st172_8 y10 y11 y12 y13 y14) k
theorem k172_8 {R : Type} (lf : Nat) (n : Nat) (y10 : Int) (y11 : List Spr) (y12 y13 : Int) (y14 : List (Int × Spr)) (k : Ex → St → Option R) : J172_8 lf  (n + 1) y10 y11 y12 y13 y14 k = S172_8 lf  (E172_8_0 k y11) y10 y11 y12 y13 (fun y14 => J172_8 lf  n y10 y11 y12 y13 y14 k) y14 := by kernel_rfl
theorem it172_8 {R : Type} (lf : Nat) (y10 : Int) (y11 : List Spr) (y12 y13 : Int) (k : Ex → St → Option R) : ∀ (n : Nat) (y14 : List (Int × Spr)), J172_8 lf  n y10 y11 y12 y13 y14 k = L172_8 lf  (E172_8_0 k y11) y10 y11 y12 y13 n y14 := by
 intro n
 induction n with
 | zero => intros; rfl
 | succ n ih =>
  intro y14
  rw [k172_8, show (fun y14 => J172_8 lf  n y10 y11 y12 y13 y14 k) = L172_8 lf  (E172_8_0 k y11) y10 y11 y12 y13 n from by funext y14; exact ih y14]
  rfl
def lb172_8 {R : Type} (lf : Nat) (d : ps172_8.D) (k : Ex → St → Option R) : Option R := match d with
 | (y10, y11, y12, y13, y14, ()) => L172_8 lf  (E172_8_0 k y11) y10 y11 y12 y13 lf y14
def lt172_8 {R : Type} (lf : Nat) : LOrc R := fun f id n0 st k => bif Nat.beq f 172 && (Nat.beq id 8 && Nat.beq n0 3) then readS ps172_8 st fun d => lb172_8 lf d k else (lt172_11 lf) f id n0 st k
def F172 (lf : Nat) (l : List Spr) (load : Int) : Option (Int × Int) :=
 L172_3 (fun z9 => L172_8 lf (fun z29 z30 z31 => some (z29, z30)) load l 0 0 lf z9) load (l.length : Int) l 0 0 lf 0 ([])
theorem ev172 (lf : Nat) (l : List Spr) (load : Int) : evC (R' := [.agg [.i, .i]]) P KK T195 (lt172_8 lf) 172 [.cell (.sl .spr), .cell .i] (l, load, ()) = F172 lf l load := by kernel_rfl
def g172 : Sig := ⟨[.cell (.sl .spr), .cell .i], [.agg [.i, .i]]⟩
def T172 {R : Type} : Orc R := fun f args h k => bif Nat.beq f 172 then contract g172 (fun d => F172 fuel d.1 d.2.1) args h k else T195 f args h k
def F144 (l : List Spr) (load : Int) : Option (Int × Int × Bool) :=
 (match (F171 l load) with
 | some r1 => bif (!r1) then
   some (0, 0, false)
  else (match (F172 fuel l load) with
  | some r2 => some (r2.1, r2.2, true)
  | none => none)
 | none => none)
theorem ev144 (l : List Spr) (load : Int) : evC (R' := [.cell .i, .cell .i, .cell .b]) P KK T172 LOrc.none 144 [.cell (.sl .spr), .cell .i] (l, load, ()) = F144 l load := by kernel_rfl
def g144 : Sig := ⟨[.cell (.sl .spr), .cell .i], [.cell .i, .cell .i, .cell .b]⟩
def T144 {R : Type} : Orc R := fun f args h k => bif Nat.beq f 144 then contract g144 (fun d => F144 d.1 d.2.1) args h k else T172 f args h k
def F97 (l : List Spr) (load : Int) : Option ((List Int) × Bool) :=
 (match (F144 l load) with
 | some r1 => bif (!r1.2.2) then
   some ([], false)
  else (match (F147_145 fuel l r1.1 r1.2.1) with
  | some r2 => some (r2, true)
  | none => none)
 | none => none)
theorem ev97 (l : List Spr) (load : Int) : evC (R' := [.cell (.own .int 3), .cell .b]) P KK T144 LOrc.none 97 [.cell (.sl .spr), .cell .i] (l, load, ()) = F97 l load := by kernel_rfl
def g97 : Sig := ⟨[.cell (.sl .spr), .cell .i], [.cell (.own .int 3), .cell .b]⟩
def T97 {R : Type} : Orc R := fun f args h k => bif Nat.beq f 97 then contract g97 (fun d => F97 d.1 d.2.1) args h k else T144 f args h k
def F100 (s : Spec) (u : Int) : Option (Int × Bool) :=
 bif (!(F104 s)) then
  some (0, false)
 else bif decide (u < 1) then
  some (0, false)
 else bif decide (1048576 < u) then
  some (0, false)
 else (match (F137 (wI ((wI (s.C * s.M)) * 1048576)) (wI (u * s.K))) with
 | some r1 => bif decide (s.Max < (max r1.1 s.T)) then
   some (0, false)
  else (match (F134 s (max r1.1 s.T)) with
  | some r2 => bif decide (u < r2) then
    some (0, false)
   else some ((max r1.1 s.T), true)
  | none => none)
 | none => none)
theorem ev100 (s : Spec) (u : Int) : evC (R' := [.cell .i, .cell .b]) P KK T97 LOrc.none 100 [.el .spec, .cell .i] (s, u, ()) = F100 s u := by kernel_rfl
def g100 : Sig := ⟨[.el .spec, .cell .i], [.cell .i, .cell .b]⟩
def T100 {R : Type} : Orc R := fun f args h k => bif Nat.beq f 100 then contract g100 (fun d => F100 d.1 d.2.1) args h k else T97 f args h k
def S193_170_2 {R : Type} (e0 : Int → Option R) (e1 : Option R) (y1 : Int) (y3 : List Spec) (rec : Int → Option R) (y2 : Int) : Option R :=
 bif decide (y2 < y1) then
  bif (decide (0 ≤ y2) && decide (y2 < (y3.length : Int))) then (match y3[(Int.toNat y2)]? with
   | some x4 => bif (!(F104 x4)) then
     e0 y2
    else rec (wI (y2 + 1))
   | none => none)
  else none
 else e1
def L193_170_2 {R : Type} (e0 : Int → Option R) (e1 : Option R) (y1 : Int) (y3 : List Spec) : Nat → Int → Option R
 | 0 => fun _ => none
 | n + 1 => S193_170_2  e0 e1 y1 y3 (L193_170_2  e0 e1 y1 y3 n)
def ps193_170_2 : PSt := { live := [0, 1, 7, 8], nt := 19, env := [.whole 0, .fn 170 [], .i, .i], heap := [.typ false true false 0 .spec] }
abbrev st193_170_2 (y1 y2 : Int) (y3 : List Spec) : St := ⟨[.whole 0, .fn (.func 170) [] [], dd, dd, dd, dd, dd, I y1, I y2, dd, dd, dd, dd, dd, dd, dd, dd, dd, dd], [some ⟨false, true, false, 0, .typ .spec y3⟩]⟩
abbrev sx193_170_2_0 (z0 : Int) (z1 : List Spec) : St := ⟨[dd, dd, dd, dd, I z0, dd, dd, dd, dd, dd, dd, dd, dd, dd, dd, dd, dd, dd, dd], [some ⟨false, true, false, 0, .typ .spec z1⟩]⟩
abbrev sx193_170_2_1 (z0 : List Spec) : St := ⟨[dd, dd, dd, dd, dd, dd, dd, dd, dd, dd, dd, dd, dd, dd, dd, dd, dd, dd, dd], [some ⟨false, true, false, 0, .typ .spec z0⟩]⟩
theorem ly193_170_2 (y1 y2 : Int) (y3 : List Spec) : layS ps193_170_2 (y1, y2, y3, ()) = st193_170_2 y1 y2 y3 := by kernel_rfl
abbrev E193_170_2_0 {R : Type} (k : Ex → St → Option R) (y3 : List Spec) (z0 : Int) : Option R := k .ret (sx193_170_2_0 z0 y3)
abbrev E193_170_2_1 {R : Type} (k : Ex → St → Option R) (y3 : List Spec) : Option R := k (.exit 0) (sx193_170_2_1 y3)
noncomputable abbrev J193_170_2 {R : Type} (n : Nat) (y1 : Int) (y3 : List Spec) (y2 : Int) (k : Ex → St → Option R) : Option R :=
 iter (ev P KK T100 LOrc.none 300 193 (loopOf P 193 2)) (headL P KK (KK.ann 193 2) 1) (gcL (KK.ann 193 2).out 1) n (st193_170_2 y1 y2 y3) k
theorem k193_170_2 {R : Type} (n : Nat) (y1 : Int) (y3 : List Spec) (y2 : Int) (k : Ex → St → Option R) : J193_170_2  (n + 1) y1 y3 y2 k = S193_170_2  (E193_170_2_0 k y3) (E193_170_2_1 k y3) y1 y3 (fun y2 => J193_170_2  n y1 y3 y2 k) y2 := by kernel_rfl
theorem it193_170_2 {R : Type} (y1 : Int) (y3 : List Spec) (k : Ex → St → Option R) : ∀ (n : Nat) (y2 : Int), J193_170_2  n y1 y3 y2 k = L193_170_2  (E193_170_2_0 k y3) (E193_170_2_1 k y3) y1 y3 n y2 := by
 intro n
 induction n with
 | zero => intros; rfl
 | succ n ih =>
  intro y2
  rw [k193_170_2, show (fun y2 => J193_170_2  n y1 y3 y2 k) = L193_170_2  (E193_170_2_0 k y3) (E193_170_2_1 k y3) y1 y3 n from by funext y2; exact ih y2]
  rfl
def lb193_170_2 {R : Type} (lf : Nat) (d : ps193_170_2.D) (k : Ex → St → Option R) : Option R := match d with
 | (y1, y2, y3, ()) => L193_170_2  (E193_170_2_0 k y3) (E193_170_2_1 k y3) y1 y3 lf y2
def lt193_170_2 {R : Type} (lf : Nat) : LOrc R := fun f id n0 st k => bif Nat.beq f 193 && (Nat.beq id 2 && Nat.beq n0 1) then readS ps193_170_2 st fun d => lb193_170_2 lf d k else LOrc.none f id n0 st k
def F193_170 (lf : Nat) (s : List Spec) : Option (Int) :=
 L193_170_2 (fun z5 => some z5) (some (-1)) (s.length : Int) s lf 0
theorem ev193_170 (lf : Nat) (s : List Spec) : evC (R' := [.cell .i]) P KK T100 (lt193_170_2 lf) 193 [.cell (.sl .spec), .clo 170 []] (s, (()), ()) = F193_170 lf s := by kernel_rfl
def g193_170 : Sig := ⟨[.cell (.sl .spec), .clo 170 []], [.cell .i]⟩
def T193_170 {R : Type} : Orc R := fun f args h k => bif Nat.beq f 193 && cloIs 1 170 args then contract g193_170 (fun d => F193_170 fuel d.1) args h k else T100 f args h k
def F139 (l : List Spec) : Option (Bool) :=
 (match (F193_170 fuel l) with
 | some r1 => some (decide (0 ≤ r1))
 | none => none)
theorem ev139 (l : List Spec) : evC (R' := [.cell .b]) P KK T193_170 LOrc.none 139 [.cell (.sl .spec)] (l, ()) = F139 l := by kernel_rfl
def g139 : Sig := ⟨[.cell (.sl .spec)], [.cell .b]⟩
def T139 {R : Type} : Orc R := fun f args h k => bif Nat.beq f 139 then contract g139 (fun d => F139 d.1) args h k else T193_170 f args h k
def S140_141_3 {R : Type} (e0 : (List Spr) → Option R) (y1 : Int) (y3 : List Spec) (rec : Int → (List Spr) → Option R) (y2 : Int) (y4 : List Spr) : Option R :=
 bif decide (y2 < y1) then
  bif (decide (0 ≤ y2) && decide (y2 < (y3.length : Int))) then (match y3[(Int.toNat y2)]? with
   | some x5 => (match (F142 x5) with
    | some r6 => (match (F143 x5) with
     | some r7 => bif Nat.ble ((y4 ++ ([(Spr.mk r6 r7 x5.E)])).length) 100000 then rec (wI (y2 + 1)) (y4 ++ ([(Spr.mk r6 r7 x5.E)]))
      else none
     | none => none)
    | none => none)
   | none => none)
  else none
 else e0 y4
def L140_141_3 {R : Type} (e0 : (List Spr) → Option R) (y1 : Int) (y3 : List Spec) : Nat → Int → (List Spr) → Option R
 | 0 => fun _ _ => none
 | n + 1 => S140_141_3  e0 y1 y3 (L140_141_3  e0 y1 y3 n)
def ps140_141_3 : PSt := { live := [1, 5, 8, 9, 10], nt := 24, env := [.fn 141 [], .whole 1, .whole 0, .i, .i], heap := [.typ false true false 0 .spec, .typ true true false 221 .spr] }
abbrev st140_141_3 (y1 y2 : Int) (y3 : List Spec) (y4 : List Spr) : St := ⟨[dd, .fn (.func 141) [] [], dd, dd, dd, .whole 1, dd, dd, .whole 0, I y1, I y2, dd, dd, dd, dd, dd, dd, dd, dd, dd, dd, dd, dd, dd], [some ⟨false, true, false, 0, .typ .spec y3⟩, some ⟨true, true, false, 221, .typ .spr y4⟩]⟩
abbrev sx140_141_3_0 (z0 : List Spec) (z1 : List Spr) : St := ⟨[dd, dd, dd, dd, dd, .whole 1, dd, dd, dd, dd, dd, dd, dd, dd, dd, dd, dd, dd, dd, dd, dd, dd, dd, dd], [some ⟨false, true, false, 0, .typ .spec z0⟩, some ⟨true, true, false, 221, .typ .spr z1⟩]⟩
theorem ly140_141_3 (y1 y2 : Int) (y3 : List Spec) (y4 : List Spr) : layS ps140_141_3 (y1, y2, y3, y4, ()) = st140_141_3 y1 y2 y3 y4 := by kernel_rfl
abbrev E140_141_3_0 {R : Type} (k : Ex → St → Option R) (y3 : List Spec) (z1 : List Spr) : Option R := k (.exit 0) (sx140_141_3_0 y3 z1)
noncomputable abbrev J140_141_3 {R : Type} (n : Nat) (y1 : Int) (y3 : List Spec) (y2 : Int) (y4 : List Spr) (k : Ex → St → Option R) : Option R :=
 iter (ev P KK T139 LOrc.none 300 140 (loopOf P 140 3)) (headL P KK (KK.ann 140 3) 1) (gcL (KK.ann 140 3).out 1) n (st140_141_3 y1 y2 y3 y4) k
theorem k140_141_3 {R : Type} (n : Nat) (y1 : Int) (y3 : List Spec) (y2 : Int) (y4 : List Spr) (k : Ex → St → Option R) : J140_141_3  (n + 1) y1 y3 y2 y4 k = S140_141_3  (E140_141_3_0 k y3) y1 y3 (fun y2 y4 => J140_141_3  n y1 y3 y2 y4 k) y2 y4 := by kernel_rfl
theorem it140_141_3 {R : Type} (y1 : Int) (y3 : List Spec) (k : Ex → St → Option R) : ∀ (n : Nat) (y2 : Int) (y4 : List Spr), J140_141_3  n y1 y3 y2 y4 k = L140_141_3  (E140_141_3_0 k y3) y1 y3 n y2 y4 := by
 intro n
 induction n with
 | zero => intros; rfl
 | succ n ih =>
  intro y2 y4
  rw [k140_141_3, show (fun y2 y4 => J140_141_3  n y1 y3 y2 y4 k) = L140_141_3  (E140_141_3_0 k y3) y1 y3 n from by funext y2 y4; exact ih y2 y4]
  rfl
def lb140_141_3 {R : Type} (lf : Nat) (d : ps140_141_3.D) (k : Ex → St → Option R) : Option R := match d with
 | (y1, y2, y3, y4, ()) => L140_141_3  (E140_141_3_0 k y3) y1 y3 lf y2 y4
def lt140_141_3 {R : Type} (lf : Nat) : LOrc R := fun f id n0 st k => bif Nat.beq f 140 && (Nat.beq id 3 && Nat.beq n0 1) then readS ps140_141_3 st fun d => lb140_141_3 lf d k else LOrc.none f id n0 st k
def F140_141 (lf : Nat) (l : List Spec) : Option (List Spr) :=
 L140_141_3 (fun z8 => some z8) (l.length : Int) l lf 0 ([])
theorem ev140_141 (lf : Nat) (l : List Spec) : evC (R' := [.cell (.own .spr 221)]) P KK T139 (lt140_141_3 lf) 140 [.cell (.sl .spec), .clo 141 []] (l, (()), ()) = F140_141 lf l := by kernel_rfl
def g140_141 : Sig := ⟨[.cell (.sl .spec), .clo 141 []], [.cell (.own .spr 221)]⟩
def T140_141 {R : Type} : Orc R := fun f args h k => bif Nat.beq f 140 && cloIs 1 141 args then contract g140_141 (fun d => F140_141 fuel d.1) args h k else T139 f args h k
def F96 (l : List Spec) : Option ((List Spr) × Bool) :=
 bif decide (4 < (l.length : Int)) then
  some ([], false)
 else (match (F139 l) with
 | some r1 => bif r1 then
   some ([], false)
  else (match (F140_141 fuel l) with
  | some r2 => some (r2, true)
  | none => none)
 | none => none)
theorem ev96 (l : List Spec) : evC (R' := [.cell (.own .spr 221), .cell .b]) P KK T140_141 LOrc.none 96 [.cell (.sl .spec)] (l, ()) = F96 l := by kernel_rfl
def g96 : Sig := ⟨[.cell (.sl .spec)], [.cell (.own .spr 221), .cell .b]⟩
def T96 {R : Type} : Orc R := fun f args h k => bif Nat.beq f 96 then contract g96 (fun d => F96 d.1) args h k else T140_141 f args h k
def S98_99_3 {R : Type} (e0 : (List Fix) → Option R) (y1 : Int) (y3 : List Spec) (y4 : List Int) (rec : Int → (List Fix) → Option R) (y2 : Int) (y5 : List Fix) : Option R :=
 bif decide (y2 < y1) then
  bif (decide (0 ≤ y2) && decide (y2 < (y3.length : Int))) then (match y3[(Int.toNat y2)]? with
   | some x6 => bif (decide (0 ≤ y2) && decide (y2 < (y4.length : Int))) then (match y4[(Int.toNat y2)]? with
     | some x7 => (match (F100 x6 x7) with
      | some r8 => bif Nat.ble ((y5 ++ ([(Fix.mk x6 r8.1)])).length) 100000 then rec (wI (y2 + 1)) (y5 ++ ([(Fix.mk x6 r8.1)]))
       else none
      | none => none)
     | none => none)
    else none
   | none => none)
  else none
 else e0 y5
def L98_99_3 {R : Type} (e0 : (List Fix) → Option R) (y1 : Int) (y3 : List Spec) (y4 : List Int) : Nat → Int → (List Fix) → Option R
 | 0 => fun _ _ => none
 | n + 1 => S98_99_3  e0 y1 y3 y4 (L98_99_3  e0 y1 y3 y4 n)
def ps98_99_3 : PSt := { live := [1, 5, 8, 9, 10], nt := 24, env := [.fn 99 [2], .whole 3, .whole 0, .i, .i], heap := [.typ false true false 0 .spec, .typ false true false 0 .int, .gen false false false 0 1 [[.whole 1]], .typ true true false 112 .fix] }
abbrev st98_99_3 (y1 y2 : Int) (y3 : List Spec) (y4 : List Int) (y5 : List Fix) : St := ⟨[dd, .fn (.func 99) [] [.ptr 2 0 0], dd, dd, dd, .whole 3, dd, dd, .whole 0, I y1, I y2, dd, dd, dd, dd, dd, dd, dd, dd, dd, dd, dd, dd, dd], [some ⟨false, true, false, 0, .typ .spec y3⟩, some ⟨false, true, false, 0, .typ .int y4⟩, some ⟨false, false, false, 0, .gen 1 [[.whole 1]]⟩, some ⟨true, true, false, 112, .typ .fix y5⟩]⟩
abbrev sx98_99_3_0 (z0 : List Spec) (z1 : List Int) (z2 : List Fix) : St := ⟨[dd, dd, dd, dd, dd, .whole 3, dd, dd, dd, dd, dd, dd, dd, dd, dd, dd, dd, dd, dd, dd, dd, dd, dd, dd], [some ⟨false, true, false, 0, .typ .spec z0⟩, some ⟨false, true, false, 0, .typ .int z1⟩, some ⟨false, false, false, 0, .gen 1 [[.whole 1]]⟩, some ⟨true, true, false, 112, .typ .fix z2⟩]⟩
theorem ly98_99_3 (y1 y2 : Int) (y3 : List Spec) (y4 : List Int) (y5 : List Fix) : layS ps98_99_3 (y1, y2, y3, y4, y5, ()) = st98_99_3 y1 y2 y3 y4 y5 := by kernel_rfl
abbrev E98_99_3_0 {R : Type} (k : Ex → St → Option R) (y3 : List Spec) (y4 : List Int) (z2 : List Fix) : Option R := k (.exit 0) (sx98_99_3_0 y3 y4 z2)
noncomputable abbrev J98_99_3 {R : Type} (n : Nat) (y1 : Int) (y3 : List Spec) (y4 : List Int) (y2 : Int) (y5 : List Fix) (k : Ex → St → Option R) : Option R :=
 iter (ev P KK T96 LOrc.none 300 98 (loopOf P 98 3)) (headL P KK (KK.ann 98 3) 3) (gcL (KK.ann 98 3).out 3) n (st98_99_3 y1 y2 y3 y4 y5) k
theorem k98_99_3 {R : Type} (n : Nat) (y1 : Int) (y3 : List Spec) (y4 : List Int) (y2 : Int) (y5 : List Fix) (k : Ex → St → Option R) : J98_99_3  (n + 1) y1 y3 y4 y2 y5 k = S98_99_3  (E98_99_3_0 k y3 y4) y1 y3 y4 (fun y2 y5 => J98_99_3  n y1 y3 y4 y2 y5 k) y2 y5 := by kernel_rfl
theorem it98_99_3 {R : Type} (y1 : Int) (y3 : List Spec) (y4 : List Int) (k : Ex → St → Option R) : ∀ (n : Nat) (y2 : Int) (y5 : List Fix), J98_99_3  n y1 y3 y4 y2 y5 k = L98_99_3  (E98_99_3_0 k y3 y4) y1 y3 y4 n y2 y5 := by
 intro n
 induction n with
 | zero => intros; rfl
 | succ n ih =>
  intro y2 y5
  rw [k98_99_3, show (fun y2 y5 => J98_99_3  n y1 y3 y4 y2 y5 k) = L98_99_3  (E98_99_3_0 k y3 y4) y1 y3 y4 n from by funext y2 y5; exact ih y2 y5]
  rfl
def lb98_99_3 {R : Type} (lf : Nat) (d : ps98_99_3.D) (k : Ex → St → Option R) : Option R := match d with
 | (y1, y2, y3, y4, y5, ()) => L98_99_3  (E98_99_3_0 k y3 y4) y1 y3 y4 lf y2 y5
def lt98_99_3 {R : Type} (lf : Nat) : LOrc R := fun f id n0 st k => bif Nat.beq f 98 && (Nat.beq id 3 && Nat.beq n0 3) then readS ps98_99_3 st fun d => lb98_99_3 lf d k else LOrc.none f id n0 st k
def F98_99 (lf : Nat) (l : List Spec) (c1_0_0 : List Int) : Option (List Fix) :=
 L98_99_3 (fun z9 => some z9) (l.length : Int) l c1_0_0 lf 0 ([])
theorem ev98_99 (lf : Nat) (l : List Spec) (c1_0_0 : List Int) : evC (R' := [.cell (.own .fix 112)]) P KK T96 (lt98_99_3 lf) 98 [.cell (.sl .spec), .clo 99 [[.sl .int]]] (l, ((c1_0_0, ()), ()), ()) = F98_99 lf l c1_0_0 := by kernel_rfl
def g98_99 : Sig := ⟨[.cell (.sl .spec), .clo 99 [[.sl .int]]], [.cell (.own .fix 112)]⟩
def T98_99 {R : Type} : Orc R := fun f args h k => bif Nat.beq f 98 && cloIs 1 99 args then contract g98_99 (fun d => F98_99 fuel d.1 d.2.1.1.1) args h k else T96 f args h k
def F65 (l : List Spec) : Option ((List Fix) × Int) :=
 bif decide (4 < (l.length : Int)) then
  some ([], 3)
 else (match (F96 l) with
 | some r1 => bif (!r1.2) then
   some ([], 1)
  else (match (F97 r1.1 983040) with
  | some r2 => bif (!r2.2) then
    some ([], 5)
   else (match (F98_99 fuel l r2.1) with
   | some r3 => (match (F58 fuel r3) with
    | some r4 => bif (!r4) then
      some ([], 6)
     else some (r3, 0)
    | none => none)
   | none => none)
  | none => none)
 | none => none)
theorem ev65 (l : List Spec) : evC (R' := [.cell (.own .fix 112), .cell .i]) P KK T98_99 LOrc.none 65 [.cell (.sl .spec)] (l, ()) = F65 l := by kernel_rfl
def g65 : Sig := ⟨[.cell (.sl .spec)], [.cell (.own .fix 112), .cell .i]⟩
def T65 {R : Type} : Orc R := fun f args h k => bif Nat.beq f 65 then contract g65 (fun d => F65 d.1) args h k else T98_99 f args h k
def S102_4 {R : Type} (e0 : Int → Option R) (y3 : Int) (y5 : List Fix) (rec : Int → Int → Option R) (y2 y4 : Int) : Option R :=
 bif decide (y4 < y3) then
  bif (decide (0 ≤ y4) && decide (y4 < (y5.length : Int))) then (match y5[(Int.toNat y4)]? with
   | some x6 => rec (wI (y2 + (wI (2 * x6.S.C)))) (wI (y4 + 1))
   | none => none)
  else none
 else e0 y2
def L102_4 {R : Type} (e0 : Int → Option R) (y3 : Int) (y5 : List Fix) : Nat → Int → Int → Option R
 | 0 => fun _ _ => none
 | n + 1 => S102_4  e0 y3 y5 (L102_4  e0 y3 y5 n)
def ps102_4 : PSt := { live := [1, 20, 21, 22], nt := 41, env := [.i, .whole 0, .i, .i], heap := [.typ false true false 0 .fix] }
abbrev st102_4 (y2 y3 y4 : Int) (y5 : List Fix) : St := ⟨[dd, I y2, dd, dd, dd, dd, dd, dd, dd, dd, dd, dd, dd, dd, dd, dd, dd, dd, dd, dd, .whole 0, I y3, I y4, dd, dd, dd, dd, dd, dd, dd, dd, dd, dd, dd, dd, dd, dd, dd, dd, dd, dd], [some ⟨false, true, false, 0, .typ .fix y5⟩]⟩
abbrev sx102_4_0 (z0 : Int) (z1 : List Fix) : St := ⟨[dd, I z0, dd, dd, dd, dd, dd, dd, dd, dd, dd, dd, dd, dd, dd, dd, dd, dd, dd, dd, dd, dd, dd, dd, dd, dd, dd, dd, dd, dd, dd, dd, dd, dd, dd, dd, dd, dd, dd, dd, dd], [some ⟨false, true, false, 0, .typ .fix z1⟩]⟩
theorem ly102_4 (y2 y3 y4 : Int) (y5 : List Fix) : layS ps102_4 (y2, y3, y4, y5, ()) = st102_4 y2 y3 y4 y5 := by kernel_rfl
abbrev E102_4_0 {R : Type} (k : Ex → St → Option R) (y5 : List Fix) (z0 : Int) : Option R := k (.exit 0) (sx102_4_0 z0 y5)
noncomputable abbrev J102_4 {R : Type} (n : Nat) (y3 : Int) (y5 : List Fix) (y2 y4 : Int) (k : Ex → St → Option R) : Option R :=
 iter (ev P KK T65 LOrc.none 300 102 (loopOf P 102 4)) (headL P KK (KK.ann 102 4) 1) (gcL (KK.ann 102 4).out 1) n (st102_4 y2 y3 y4 y5) k
theorem k102_4 {R : Type} (n : Nat) (y3 : Int) (y5 : List Fix) (y2 y4 : Int) (k : Ex → St → Option R) : J102_4  (n + 1) y3 y5 y2 y4 k = S102_4  (E102_4_0 k y5) y3 y5 (fun y2 y4 => J102_4  n y3 y5 y2 y4 k) y2 y4 := by kernel_rfl
theorem it102_4 {R : Type} (y3 : Int) (y5 : List Fix) (k : Ex → St → Option R) : ∀ (n : Nat) (y2 y4 : Int), J102_4  n y3 y5 y2 y4 k = L102_4  (E102_4_0 k y5) y3 y5 n y2 y4 := by
 intro n
 induction n with
 | zero => intros; rfl
 | succ n ih =>
  intro y2 y4
  rw [k102_4, show (fun y2 y4 => J102_4  n y3 y5 y2 y4 k) = L102_4  (E102_4_0 k y5) y3 y5 n from by funext y2 y4; exact ih y2 y4]
  rfl
def lb102_4 {R : Type} (lf : Nat) (d : ps102_4.D) (k : Ex → St → Option R) : Option R := match d with
 | (y2, y3, y4, y5, ()) => L102_4  (E102_4_0 k y5) y3 y5 lf y2 y4
def lt102_4 {R : Type} (lf : Nat) : LOrc R := fun f id n0 st k => bif Nat.beq f 102 && (Nat.beq id 4 && Nat.beq n0 1) then readS ps102_4 st fun d => lb102_4 lf d k else LOrc.none f id n0 st k
def F102 (lf : Nat) (l : List Fix) (r : Int) : Option (Int) :=
 (match (F92 fuel l) with
 | some r1 => bif (!r1) then
   some 0
  else bif decide (r < 0) then
   some 0
  else bif decide (1048576 < r) then
   some 0
  else L102_4 (fun z7 => (match (F137 (wI (z7 * 1048576)) 65536) with
    | some r8 => some (wI (r8.1 + 1))
    | none => none)) (l.length : Int) l lf r 0
 | none => none)
theorem ev102 (lf : Nat) (l : List Fix) (r : Int) : evC (R' := [.cell .i]) P KK T65 (lt102_4 lf) 102 [.cell (.sl .fix), .cell .i] (l, r, ()) = F102 lf l r := by kernel_rfl
def g102 : Sig := ⟨[.cell (.sl .fix), .cell .i], [.cell .i]⟩
def T102 {R : Type} : Orc R := fun f args h k => bif Nat.beq f 102 then contract g102 (fun d => F102 fuel d.1 d.2.1) args h k else T65 f args h k
def F232 (w_Now : Int) (w_T : List Task) (w_A : List Ape) (w_Cur : Int) : Option (Int × Bool) :=
 (match (F57 fuel w_Now w_T w_A w_Cur) with
 | some r1 => (match (F128 fuel r1) with
  | some r2 => bif decide (r2 = (-1)) then
    some (0, false)
   else bif (decide (0 ≤ r2) && decide (r2 < (w_T.length : Int))) then (match w_T[(Int.toNat r2)]? with
    | some x3 => some (x3.ID, true)
    | none => none)
   else none
  | none => none)
 | none => none)
theorem ev232 (w_Now : Int) (w_T : List Task) (w_A : List Ape) (w_Cur : Int) : evC (R' := [.cell .i, .cell .b]) P KK T102 LOrc.none 232 [.agg [], .agg [.i, .sl .task, .sl .ape, .i]] ((()), (w_Now, w_T, w_A, w_Cur, ()), ()) = F232 w_Now w_T w_A w_Cur := by kernel_rfl
def g232 : Sig := ⟨[.agg [], .agg [.i, .sl .task, .sl .ape, .i]], [.cell .i, .cell .b]⟩
def T232 {R : Type} : Orc R := fun f args h k => bif Nat.beq f 232 then contract g232 (fun d => F232 d.2.1.1 d.2.1.2.1 d.2.1.2.2.1 d.2.1.2.2.2.1) args h k else T102 f args h k
def F233 (w_Now : Int) (w_T : List Task) (w_A : List Ape) (w_Cur : Int) : Option (Int × Bool) :=
 (match (F112 fuel w_A w_Cur w_Now) with
 | some r1 => some ((max r1.1 0), (!(decide (r1.1 = (-1)))))
 | none => none)
theorem ev233 (w_Now : Int) (w_T : List Task) (w_A : List Ape) (w_Cur : Int) : evC (R' := [.cell .i, .cell .b]) P KK T232 LOrc.none 233 [.agg [], .agg [.i, .sl .task, .sl .ape, .i]] ((()), (w_Now, w_T, w_A, w_Cur, ()), ()) = F233 w_Now w_T w_A w_Cur := by kernel_rfl
def g233 : Sig := ⟨[.agg [], .agg [.i, .sl .task, .sl .ape, .i]], [.cell .i, .cell .b]⟩
def T233 {R : Type} : Orc R := fun f args h k => bif Nat.beq f 233 then contract g233 (fun d => F233 d.2.1.1 d.2.1.2.1 d.2.1.2.2.1 d.2.1.2.2.2.1) args h k else T232 f args h k
def S234_3 {R : Type} (e0 : (List Opt) → Option R) (y1 : Int) (y3 : List Task) (y4 : List Ape) (y5 y6 : Int) (rec : Int → (List Opt) → Option R) (y2 : Int) (y7 : List Opt) : Option R :=
 bif decide (y2 < y1) then
  bif (decide (0 ≤ y2) && decide (y2 < (y3.length : Int))) then (match y3[(Int.toNat y2)]? with
   | some x8 => (match (F235 x8.ID x8.S x8.J x8.H) with
    | some r9 => bif r9.2 then
      bif Nat.ble ((y7 ++ ([r9.1])).length) 100000 then rec (wI (y2 + 1)) (y7 ++ ([r9.1]))
      else none
     else rec (wI (y2 + 1)) y7
    | none => none)
   | none => none)
  else none
 else e0 y7
def L234_3 {R : Type} (e0 : (List Opt) → Option R) (y1 : Int) (y3 : List Task) (y4 : List Ape) (y5 y6 : Int) : Nat → Int → (List Opt) → Option R
 | 0 => fun _ _ => none
 | n + 1 => S234_3  e0 y1 y3 y4 y5 y6 (L234_3  e0 y1 y3 y4 y5 y6 n)
def ps234_3 : PSt := { live := [6, 13, 14, 15], nt := 46, env := [.whole 4, .whole 0, .i, .i], heap := [.typ false true false 0 .task, .typ false true false 0 .ape, .gen true false false 0 0 [[]], .gen true false false 0 4 [[.i, .whole 0, .whole 1, .i]], .typ true true false 319 .opt] }
abbrev st234_3 (y1 y2 : Int) (y3 : List Task) (y4 : List Ape) (y5 y6 : Int) (y7 : List Opt) : St := ⟨[dd, dd, dd, dd, dd, dd, .whole 4, dd, dd, dd, dd, dd, dd, .whole 0, I y1, I y2, dd, dd, dd, dd, dd, dd, dd, dd, dd, dd, dd, dd, dd, dd, dd, dd, dd, dd, dd, dd, dd, dd, dd, dd, dd, dd, dd, dd, dd, dd], [some ⟨false, true, false, 0, .typ .task y3⟩, some ⟨false, true, false, 0, .typ .ape y4⟩, some ⟨true, false, false, 0, .gen 0 [[]]⟩, some ⟨true, false, false, 0, .gen 4 [[I y5, .whole 0, .whole 1, I y6]]⟩, some ⟨true, true, false, 319, .typ .opt y7⟩]⟩
abbrev sx234_3_0 (z0 : List Task) (z1 : List Ape) (z2 z3 : Int) (z4 : List Opt) : St := ⟨[dd, dd, dd, dd, dd, dd, .whole 4, dd, dd, dd, dd, dd, dd, dd, dd, dd, dd, dd, dd, dd, dd, dd, dd, dd, dd, dd, dd, dd, dd, dd, dd, dd, dd, dd, dd, dd, dd, dd, dd, dd, dd, dd, dd, dd, dd, dd], [some ⟨false, true, false, 0, .typ .task z0⟩, some ⟨false, true, false, 0, .typ .ape z1⟩, some ⟨true, false, false, 0, .gen 0 [[]]⟩, some ⟨true, false, false, 0, .gen 4 [[I z2, .whole 0, .whole 1, I z3]]⟩, some ⟨true, true, false, 319, .typ .opt z4⟩]⟩
theorem ly234_3 (y1 y2 : Int) (y3 : List Task) (y4 : List Ape) (y5 y6 : Int) (y7 : List Opt) : layS ps234_3 (y1, y2, y3, y4, y5, y6, y7, ()) = st234_3 y1 y2 y3 y4 y5 y6 y7 := by kernel_rfl
abbrev E234_3_0 {R : Type} (k : Ex → St → Option R) (y3 : List Task) (y4 : List Ape) (y5 y6 : Int) (z4 : List Opt) : Option R := k (.exit 0) (sx234_3_0 y3 y4 y5 y6 z4)
noncomputable abbrev J234_3 {R : Type} (n : Nat) (y1 : Int) (y3 : List Task) (y4 : List Ape) (y5 y6 y2 : Int) (y7 : List Opt) (k : Ex → St → Option R) : Option R :=
 iter (ev P KK T233 LOrc.none 300 234 (loopOf P 234 3)) (headL P KK (KK.ann 234 3) 4) (gcL (KK.ann 234 3).out 4) n (st234_3 y1 y2 y3 y4 y5 y6 y7) k
theorem k234_3 {R : Type} (n : Nat) (y1 : Int) (y3 : List Task) (y4 : List Ape) (y5 y6 y2 : Int) (y7 : List Opt) (k : Ex → St → Option R) : J234_3  (n + 1) y1 y3 y4 y5 y6 y2 y7 k = S234_3  (E234_3_0 k y3 y4 y5 y6) y1 y3 y4 y5 y6 (fun y2 y7 => J234_3  n y1 y3 y4 y5 y6 y2 y7 k) y2 y7 := by kernel_rfl
theorem it234_3 {R : Type} (y1 : Int) (y3 : List Task) (y4 : List Ape) (y5 y6 : Int) (k : Ex → St → Option R) : ∀ (n : Nat) (y2 : Int) (y7 : List Opt), J234_3  n y1 y3 y4 y5 y6 y2 y7 k = L234_3  (E234_3_0 k y3 y4 y5 y6) y1 y3 y4 y5 y6 n y2 y7 := by
 intro n
 induction n with
 | zero => intros; rfl
 | succ n ih =>
  intro y2 y7
  rw [k234_3, show (fun y2 y7 => J234_3  n y1 y3 y4 y5 y6 y2 y7 k) = L234_3  (E234_3_0 k y3 y4 y5 y6) y1 y3 y4 y5 y6 n from by funext y2 y7; exact ih y2 y7]
  rfl
def lb234_3 {R : Type} (lf : Nat) (d : ps234_3.D) (k : Ex → St → Option R) : Option R := match d with
 | (y1, y2, y3, y4, y5, y6, y7, ()) => L234_3  (E234_3_0 k y3 y4 y5 y6) y1 y3 y4 y5 y6 lf y2 y7
def lt234_3 {R : Type} (lf : Nat) : LOrc R := fun f id n0 st k => bif Nat.beq f 234 && (Nat.beq id 3 && Nat.beq n0 4) then readS ps234_3 st fun d => lb234_3 lf d k else LOrc.none f id n0 st k
def F234 (lf : Nat) (w_Now : Int) (w_T : List Task) (w_A : List Ape) (w_Cur : Int) : Option (Int × Bool) :=
 L234_3 (fun z10 => (match (F236 fuel z10) with
   | some r11 => bif decide (r11 = (-1)) then
     some (0, false)
    else bif (decide (0 ≤ r11) && decide (r11 < (z10.length : Int))) then (match z10[(Int.toNat r11)]? with
     | some x12 => some (x12.ID, true)
     | none => none)
    else none
   | none => none)) (w_T.length : Int) w_T w_A w_Now w_Cur lf 0 ([])
theorem ev234 (lf : Nat) (w_Now : Int) (w_T : List Task) (w_A : List Ape) (w_Cur : Int) : evC (R' := [.cell .i, .cell .b]) P KK T233 (lt234_3 lf) 234 [.agg [], .agg [.i, .sl .task, .sl .ape, .i]] ((()), (w_Now, w_T, w_A, w_Cur, ()), ()) = F234 lf w_Now w_T w_A w_Cur := by kernel_rfl
def g234 : Sig := ⟨[.agg [], .agg [.i, .sl .task, .sl .ape, .i]], [.cell .i, .cell .b]⟩
def T234 {R : Type} : Orc R := fun f args h k => bif Nat.beq f 234 then contract g234 (fun d => F234 fuel d.2.1.1 d.2.1.2.1 d.2.1.2.2.1 d.2.1.2.2.2.1) args h k else T233 f args h k
def F77 (w_Now : Int) (w_T : List Task) (w_A : List Ape) (w_Cur : Int) : Option ((Int × Int) × (List Int)) :=
 (match (F112 fuel w_A w_Cur w_Now) with
 | some r1 => (match (F232 w_Now w_T w_A w_Cur) with
  | some r2 => bif r2.2 then
    some ((1, r2.1), r1.2)
   else (match (F233 w_Now w_T w_A w_Cur) with
   | some r3 => bif r3.2 then
     some ((2, r3.1), r1.2)
    else (match (F234 fuel w_Now w_T w_A w_Cur) with
    | some r4 => bif r4.2 then
      some ((3, r4.1), r1.2)
     else some ((0, 0), r1.2)
    | none => none)
   | none => none)
  | none => none)
 | none => none)
theorem ev77 (w_Now : Int) (w_T : List Task) (w_A : List Ape) (w_Cur : Int) : evC (R' := [.agg [.i, .i], .cell (.own .int 3)]) P KK T234 LOrc.none 77 [.agg [.i, .sl .task, .sl .ape, .i]] ((w_Now, w_T, w_A, w_Cur, ()), ()) = F77 w_Now w_T w_A w_Cur := by kernel_rfl
def g77 : Sig := ⟨[.agg [.i, .sl .task, .sl .ape, .i]], [.agg [.i, .i], .cell (.own .int 3)]⟩
def T77 {R : Type} : Orc R := fun f args h k => bif Nat.beq f 77 then contract g77 (fun d => F77 d.1.1 d.1.2.1 d.1.2.2.1 d.1.2.2.2.1) args h k else T234 f args h k
def S59_115_2 {R : Type} (e0 : Int → Option R) (e1 : Option R) (y1 : Int) (y3 : List Task) (y4 y5 : Int) (rec : Int → Option R) (y2 : Int) : Option R :=
 bif decide (y2 < y1) then
  bif (decide (0 ≤ y2) && decide (y2 < (y3.length : Int))) then (match y3[(Int.toNat y2)]? with
   | some x6 => bif decide (x6.ID = y5) then
     e0 y2
    else rec (wI (y2 + 1))
   | none => none)
  else none
 else e1
def L59_115_2 {R : Type} (e0 : Int → Option R) (e1 : Option R) (y1 : Int) (y3 : List Task) (y4 y5 : Int) : Nat → Int → Option R
 | 0 => fun _ => none
 | n + 1 => S59_115_2  e0 e1 y1 y3 y4 y5 (L59_115_2  e0 e1 y1 y3 y4 y5 n)
def ps59_115_2 : PSt := { live := [0, 1, 7, 8], nt := 19, env := [.whole 0, .fn 115 [1], .i, .i], heap := [.typ false true false 0 .task, .gen false false false 0 2 [[.i, .i]]] }
abbrev st59_115_2 (y1 y2 : Int) (y3 : List Task) (y4 y5 : Int) : St := ⟨[.whole 0, .fn (.func 115) [] [.ptr 1 0 0], dd, dd, dd, dd, dd, I y1, I y2, dd, dd, dd, dd, dd, dd, dd, dd, dd, dd], [some ⟨false, true, false, 0, .typ .task y3⟩, some ⟨false, false, false, 0, .gen 2 [[I y4, I y5]]⟩]⟩
abbrev sx59_115_2_0 (z0 : Int) (z1 : List Task) (z2 z3 : Int) : St := ⟨[dd, dd, dd, dd, I z0, dd, dd, dd, dd, dd, dd, dd, dd, dd, dd, dd, dd, dd, dd], [some ⟨false, true, false, 0, .typ .task z1⟩, some ⟨false, false, false, 0, .gen 2 [[I z2, I z3]]⟩]⟩
abbrev sx59_115_2_1 (z0 : List Task) (z1 z2 : Int) : St := ⟨[dd, dd, dd, dd, dd, dd, dd, dd, dd, dd, dd, dd, dd, dd, dd, dd, dd, dd, dd], [some ⟨false, true, false, 0, .typ .task z0⟩, some ⟨false, false, false, 0, .gen 2 [[I z1, I z2]]⟩]⟩
theorem ly59_115_2 (y1 y2 : Int) (y3 : List Task) (y4 y5 : Int) : layS ps59_115_2 (y1, y2, y3, y4, y5, ()) = st59_115_2 y1 y2 y3 y4 y5 := by kernel_rfl
abbrev E59_115_2_0 {R : Type} (k : Ex → St → Option R) (y3 : List Task) (y4 y5 z0 : Int) : Option R := k .ret (sx59_115_2_0 z0 y3 y4 y5)
abbrev E59_115_2_1 {R : Type} (k : Ex → St → Option R) (y3 : List Task) (y4 y5 : Int) : Option R := k (.exit 0) (sx59_115_2_1 y3 y4 y5)
noncomputable abbrev J59_115_2 {R : Type} (n : Nat) (y1 : Int) (y3 : List Task) (y4 y5 y2 : Int) (k : Ex → St → Option R) : Option R :=
 iter (ev P KK T77 LOrc.none 300 59 (loopOf P 59 2)) (headL P KK (KK.ann 59 2) 2) (gcL (KK.ann 59 2).out 2) n (st59_115_2 y1 y2 y3 y4 y5) k
theorem k59_115_2 {R : Type} (n : Nat) (y1 : Int) (y3 : List Task) (y4 y5 y2 : Int) (k : Ex → St → Option R) : J59_115_2  (n + 1) y1 y3 y4 y5 y2 k = S59_115_2  (E59_115_2_0 k y3 y4 y5) (E59_115_2_1 k y3 y4 y5) y1 y3 y4 y5 (fun y2 => J59_115_2  n y1 y3 y4 y5 y2 k) y2 := by kernel_rfl
theorem it59_115_2 {R : Type} (y1 : Int) (y3 : List Task) (y4 y5 : Int) (k : Ex → St → Option R) : ∀ (n : Nat) (y2 : Int), J59_115_2  n y1 y3 y4 y5 y2 k = L59_115_2  (E59_115_2_0 k y3 y4 y5) (E59_115_2_1 k y3 y4 y5) y1 y3 y4 y5 n y2 := by
 intro n
 induction n with
 | zero => intros; rfl
 | succ n ih =>
  intro y2
  rw [k59_115_2, show (fun y2 => J59_115_2  n y1 y3 y4 y5 y2 k) = L59_115_2  (E59_115_2_0 k y3 y4 y5) (E59_115_2_1 k y3 y4 y5) y1 y3 y4 y5 n from by funext y2; exact ih y2]
  rfl
def lb59_115_2 {R : Type} (lf : Nat) (d : ps59_115_2.D) (k : Ex → St → Option R) : Option R := match d with
 | (y1, y2, y3, y4, y5, ()) => L59_115_2  (E59_115_2_0 k y3 y4 y5) (E59_115_2_1 k y3 y4 y5) y1 y3 y4 y5 lf y2
def lt59_115_2 {R : Type} (lf : Nat) : LOrc R := fun f id n0 st k => bif Nat.beq f 59 && (Nat.beq id 2 && Nat.beq n0 2) then readS ps59_115_2 st fun d => lb59_115_2 lf d k else LOrc.none f id n0 st k
def F59_115 (lf : Nat) (s : List Task) (c1_0_0 c1_0_1 : Int) : Option (Int) :=
 L59_115_2 (fun z7 => some z7) (some (-1)) (s.length : Int) s c1_0_0 c1_0_1 lf 0
theorem ev59_115 (lf : Nat) (s : List Task) (c1_0_0 c1_0_1 : Int) : evC (R' := [.cell .i]) P KK T77 (lt59_115_2 lf) 59 [.cell (.sl .task), .clo 115 [[.i, .i]]] (s, ((c1_0_0, c1_0_1, ()), ()), ()) = F59_115 lf s c1_0_0 c1_0_1 := by kernel_rfl
def g59_115 : Sig := ⟨[.cell (.sl .task), .clo 115 [[.i, .i]]], [.cell .i]⟩
def T59_115 {R : Type} : Orc R := fun f args h k => bif Nat.beq f 59 && cloIs 1 115 args then contract g59_115 (fun d => F59_115 fuel d.1 d.2.1.1.1 d.2.1.1.2.1) args h k else T77 f args h k
def S60_157_2 {R : Type} (e0 : Int → Option R) (e1 : Option R) (y1 : Int) (y3 : List Ape) (y4 : Int) (rec : Int → Option R) (y2 : Int) : Option R :=
 bif decide (y2 < y1) then
  bif (decide (0 ≤ y2) && decide (y2 < (y3.length : Int))) then (match y3[(Int.toNat y2)]? with
   | some x5 => bif decide (x5.ID = y4) then
     e0 y2
    else rec (wI (y2 + 1))
   | none => none)
  else none
 else e1
def L60_157_2 {R : Type} (e0 : Int → Option R) (e1 : Option R) (y1 : Int) (y3 : List Ape) (y4 : Int) : Nat → Int → Option R
 | 0 => fun _ => none
 | n + 1 => S60_157_2  e0 e1 y1 y3 y4 (L60_157_2  e0 e1 y1 y3 y4 n)
def ps60_157_2 : PSt := { live := [0, 1, 7, 8], nt := 19, env := [.whole 0, .fn 157 [1], .i, .i], heap := [.typ false true false 0 .ape, .gen false false false 0 1 [[.i]]] }
abbrev st60_157_2 (y1 y2 : Int) (y3 : List Ape) (y4 : Int) : St := ⟨[.whole 0, .fn (.func 157) [] [.ptr 1 0 0], dd, dd, dd, dd, dd, I y1, I y2, dd, dd, dd, dd, dd, dd, dd, dd, dd, dd], [some ⟨false, true, false, 0, .typ .ape y3⟩, some ⟨false, false, false, 0, .gen 1 [[I y4]]⟩]⟩
abbrev sx60_157_2_0 (z0 : Int) (z1 : List Ape) (z2 : Int) : St := ⟨[dd, dd, dd, dd, I z0, dd, dd, dd, dd, dd, dd, dd, dd, dd, dd, dd, dd, dd, dd], [some ⟨false, true, false, 0, .typ .ape z1⟩, some ⟨false, false, false, 0, .gen 1 [[I z2]]⟩]⟩
abbrev sx60_157_2_1 (z0 : List Ape) (z1 : Int) : St := ⟨[dd, dd, dd, dd, dd, dd, dd, dd, dd, dd, dd, dd, dd, dd, dd, dd, dd, dd, dd], [some ⟨false, true, false, 0, .typ .ape z0⟩, some ⟨false, false, false, 0, .gen 1 [[I z1]]⟩]⟩
theorem ly60_157_2 (y1 y2 : Int) (y3 : List Ape) (y4 : Int) : layS ps60_157_2 (y1, y2, y3, y4, ()) = st60_157_2 y1 y2 y3 y4 := by kernel_rfl
abbrev E60_157_2_0 {R : Type} (k : Ex → St → Option R) (y3 : List Ape) (y4 z0 : Int) : Option R := k .ret (sx60_157_2_0 z0 y3 y4)
abbrev E60_157_2_1 {R : Type} (k : Ex → St → Option R) (y3 : List Ape) (y4 : Int) : Option R := k (.exit 0) (sx60_157_2_1 y3 y4)
noncomputable abbrev J60_157_2 {R : Type} (n : Nat) (y1 : Int) (y3 : List Ape) (y4 y2 : Int) (k : Ex → St → Option R) : Option R :=
 iter (ev P KK T59_115 LOrc.none 300 60 (loopOf P 60 2)) (headL P KK (KK.ann 60 2) 2) (gcL (KK.ann 60 2).out 2) n (st60_157_2 y1 y2 y3 y4) k
theorem k60_157_2 {R : Type} (n : Nat) (y1 : Int) (y3 : List Ape) (y4 y2 : Int) (k : Ex → St → Option R) : J60_157_2  (n + 1) y1 y3 y4 y2 k = S60_157_2  (E60_157_2_0 k y3 y4) (E60_157_2_1 k y3 y4) y1 y3 y4 (fun y2 => J60_157_2  n y1 y3 y4 y2 k) y2 := by kernel_rfl
theorem it60_157_2 {R : Type} (y1 : Int) (y3 : List Ape) (y4 : Int) (k : Ex → St → Option R) : ∀ (n : Nat) (y2 : Int), J60_157_2  n y1 y3 y4 y2 k = L60_157_2  (E60_157_2_0 k y3 y4) (E60_157_2_1 k y3 y4) y1 y3 y4 n y2 := by
 intro n
 induction n with
 | zero => intros; rfl
 | succ n ih =>
  intro y2
  rw [k60_157_2, show (fun y2 => J60_157_2  n y1 y3 y4 y2 k) = L60_157_2  (E60_157_2_0 k y3 y4) (E60_157_2_1 k y3 y4) y1 y3 y4 n from by funext y2; exact ih y2]
  rfl
def lb60_157_2 {R : Type} (lf : Nat) (d : ps60_157_2.D) (k : Ex → St → Option R) : Option R := match d with
 | (y1, y2, y3, y4, ()) => L60_157_2  (E60_157_2_0 k y3 y4) (E60_157_2_1 k y3 y4) y1 y3 y4 lf y2
def lt60_157_2 {R : Type} (lf : Nat) : LOrc R := fun f id n0 st k => bif Nat.beq f 60 && (Nat.beq id 2 && Nat.beq n0 2) then readS ps60_157_2 st fun d => lb60_157_2 lf d k else LOrc.none f id n0 st k
def F60_157 (lf : Nat) (s : List Ape) (c1_0_0 : Int) : Option (Int) :=
 L60_157_2 (fun z6 => some z6) (some (-1)) (s.length : Int) s c1_0_0 lf 0
theorem ev60_157 (lf : Nat) (s : List Ape) (c1_0_0 : Int) : evC (R' := [.cell .i]) P KK T59_115 (lt60_157_2 lf) 60 [.cell (.sl .ape), .clo 157 [[.i]]] (s, ((c1_0_0, ()), ()), ()) = F60_157 lf s c1_0_0 := by kernel_rfl
def g60_157 : Sig := ⟨[.cell (.sl .ape), .clo 157 [[.i]]], [.cell .i]⟩
def T60_157 {R : Type} : Orc R := fun f args h k => bif Nat.beq f 60 && cloIs 1 157 args then contract g60_157 (fun d => F60_157 fuel d.1 d.2.1.1.1) args h k else T59_115 f args h k
def F116 (l : List Ape) (id : Int) : Option (Int) :=
 (match (F60_157 fuel l id) with
 | some r1 => some r1
 | none => none)
theorem ev116 (l : List Ape) (id : Int) : evC (R' := [.cell .i]) P KK T60_157 LOrc.none 116 [.cell (.sl .ape), .cell .i] (l, id, ()) = F116 l id := by kernel_rfl
def g116 : Sig := ⟨[.cell (.sl .ape), .cell .i], [.cell .i]⟩
def T116 {R : Type} : Orc R := fun f args h k => bif Nat.beq f 116 then contract g116 (fun d => F116 d.1 d.2.1) args h k else T60_157 f args h k
def S114_2 {R : Type} (e0 : Int → Option R) (e1 : Option R) (y1 y2 : Int) (y4 : List Int) (rec : Int → Option R) (y3 : Int) : Option R :=
 bif decide (y3 < y2) then
  bif (decide (0 ≤ y3) && decide (y3 < (y4.length : Int))) then (match y4[(Int.toNat y3)]? with
   | some x5 => bif decide (y1 = x5) then
     e0 y3
    else rec (wI (y3 + 1))
   | none => none)
  else none
 else e1
def L114_2 {R : Type} (e0 : Int → Option R) (e1 : Option R) (y1 y2 : Int) (y4 : List Int) : Nat → Int → Option R
 | 0 => fun _ => none
 | n + 1 => S114_2  e0 e1 y1 y2 y4 (L114_2  e0 e1 y1 y2 y4 n)
def ps114_2 : PSt := { live := [0, 1, 7, 8], nt := 19, env := [.whole 0, .i, .i, .i], heap := [.typ false true false 0 .int] }
abbrev st114_2 (y1 y2 y3 : Int) (y4 : List Int) : St := ⟨[.whole 0, I y1, dd, dd, dd, dd, dd, I y2, I y3, dd, dd, dd, dd, dd, dd, dd, dd, dd, dd], [some ⟨false, true, false, 0, .typ .int y4⟩]⟩
abbrev sx114_2_0 (z0 : Int) (z1 : List Int) : St := ⟨[dd, dd, dd, dd, I z0, dd, dd, dd, dd, dd, dd, dd, dd, dd, dd, dd, dd, dd, dd], [some ⟨false, true, false, 0, .typ .int z1⟩]⟩
abbrev sx114_2_1 (z0 : List Int) : St := ⟨[dd, dd, dd, dd, dd, dd, dd, dd, dd, dd, dd, dd, dd, dd, dd, dd, dd, dd, dd], [some ⟨false, true, false, 0, .typ .int z0⟩]⟩
theorem ly114_2 (y1 y2 y3 : Int) (y4 : List Int) : layS ps114_2 (y1, y2, y3, y4, ()) = st114_2 y1 y2 y3 y4 := by kernel_rfl
abbrev E114_2_0 {R : Type} (k : Ex → St → Option R) (y4 : List Int) (z0 : Int) : Option R := k .ret (sx114_2_0 z0 y4)
abbrev E114_2_1 {R : Type} (k : Ex → St → Option R) (y4 : List Int) : Option R := k (.exit 0) (sx114_2_1 y4)
noncomputable abbrev J114_2 {R : Type} (n : Nat) (y1 y2 : Int) (y4 : List Int) (y3 : Int) (k : Ex → St → Option R) : Option R :=
 iter (ev P KK T116 LOrc.none 300 114 (loopOf P 114 2)) (headL P KK (KK.ann 114 2) 1) (gcL (KK.ann 114 2).out 1) n (st114_2 y1 y2 y3 y4) k
theorem k114_2 {R : Type} (n : Nat) (y1 y2 : Int) (y4 : List Int) (y3 : Int) (k : Ex → St → Option R) : J114_2  (n + 1) y1 y2 y4 y3 k = S114_2  (E114_2_0 k y4) (E114_2_1 k y4) y1 y2 y4 (fun y3 => J114_2  n y1 y2 y4 y3 k) y3 := by kernel_rfl
theorem it114_2 {R : Type} (y1 y2 : Int) (y4 : List Int) (k : Ex → St → Option R) : ∀ (n : Nat) (y3 : Int), J114_2  n y1 y2 y4 y3 k = L114_2  (E114_2_0 k y4) (E114_2_1 k y4) y1 y2 y4 n y3 := by
 intro n
 induction n with
 | zero => intros; rfl
 | succ n ih =>
  intro y3
  rw [k114_2, show (fun y3 => J114_2  n y1 y2 y4 y3 k) = L114_2  (E114_2_0 k y4) (E114_2_1 k y4) y1 y2 y4 n from by funext y3; exact ih y3]
  rfl
def lb114_2 {R : Type} (lf : Nat) (d : ps114_2.D) (k : Ex → St → Option R) : Option R := match d with
 | (y1, y2, y3, y4, ()) => L114_2  (E114_2_0 k y4) (E114_2_1 k y4) y1 y2 y4 lf y3
def lt114_2 {R : Type} (lf : Nat) : LOrc R := fun f id n0 st k => bif Nat.beq f 114 && (Nat.beq id 2 && Nat.beq n0 1) then readS ps114_2 st fun d => lb114_2 lf d k else LOrc.none f id n0 st k
def F114 (lf : Nat) (s : List Int) (v : Int) : Option (Int) :=
 L114_2 (fun z6 => some z6) (some (-1)) v (s.length : Int) s lf 0
theorem ev114 (lf : Nat) (s : List Int) (v : Int) : evC (R' := [.cell .i]) P KK T116 (lt114_2 lf) 114 [.cell (.sl .int), .cell .i] (s, v, ()) = F114 lf s v := by kernel_rfl
def g114 : Sig := ⟨[.cell (.sl .int), .cell .i], [.cell .i]⟩
def T114 {R : Type} : Orc R := fun f args h k => bif Nat.beq f 114 then contract g114 (fun d => F114 fuel d.1 d.2.1) args h k else T116 f args h k
def S60_79_2 {R : Type} (e0 : Int → Option R) (e1 : Option R) (y1 : Int) (y3 : List Ape) (y4 : List Int) (rec : Int → Option R) (y2 : Int) : Option R :=
 bif decide (y2 < y1) then
  bif (decide (0 ≤ y2) && decide (y2 < (y3.length : Int))) then (match y3[(Int.toNat y2)]? with
   | some x5 => (match (F114 fuel y4 x5.ID) with
    | some r6 => bif decide (0 ≤ r6) then
      e0 y2
     else rec (wI (y2 + 1))
    | none => none)
   | none => none)
  else none
 else e1
def L60_79_2 {R : Type} (e0 : Int → Option R) (e1 : Option R) (y1 : Int) (y3 : List Ape) (y4 : List Int) : Nat → Int → Option R
 | 0 => fun _ => none
 | n + 1 => S60_79_2  e0 e1 y1 y3 y4 (L60_79_2  e0 e1 y1 y3 y4 n)
def ps60_79_2 : PSt := { live := [0, 1, 7, 8], nt := 19, env := [.whole 0, .fn 79 [2], .i, .i], heap := [.typ false true false 0 .ape, .typ false true false 0 .int, .gen false false false 0 1 [[.whole 1]]] }
abbrev st60_79_2 (y1 y2 : Int) (y3 : List Ape) (y4 : List Int) : St := ⟨[.whole 0, .fn (.func 79) [] [.ptr 2 0 0], dd, dd, dd, dd, dd, I y1, I y2, dd, dd, dd, dd, dd, dd, dd, dd, dd, dd], [some ⟨false, true, false, 0, .typ .ape y3⟩, some ⟨false, true, false, 0, .typ .int y4⟩, some ⟨false, false, false, 0, .gen 1 [[.whole 1]]⟩]⟩
abbrev sx60_79_2_0 (z0 : Int) (z1 : List Ape) (z2 : List Int) : St := ⟨[dd, dd, dd, dd, I z0, dd, dd, dd, dd, dd, dd, dd, dd, dd, dd, dd, dd, dd, dd], [some ⟨false, true, false, 0, .typ .ape z1⟩, some ⟨false, true, false, 0, .typ .int z2⟩, some ⟨false, false, false, 0, .gen 1 [[.whole 1]]⟩]⟩
abbrev sx60_79_2_1 (z0 : List Ape) (z1 : List Int) : St := ⟨[dd, dd, dd, dd, dd, dd, dd, dd, dd, dd, dd, dd, dd, dd, dd, dd, dd, dd, dd], [some ⟨false, true, false, 0, .typ .ape z0⟩, some ⟨false, true, false, 0, .typ .int z1⟩, some ⟨false, false, false, 0, .gen 1 [[.whole 1]]⟩]⟩
theorem ly60_79_2 (y1 y2 : Int) (y3 : List Ape) (y4 : List Int) : layS ps60_79_2 (y1, y2, y3, y4, ()) = st60_79_2 y1 y2 y3 y4 := by kernel_rfl
abbrev E60_79_2_0 {R : Type} (k : Ex → St → Option R) (y3 : List Ape) (y4 : List Int) (z0 : Int) : Option R := k .ret (sx60_79_2_0 z0 y3 y4)
abbrev E60_79_2_1 {R : Type} (k : Ex → St → Option R) (y3 : List Ape) (y4 : List Int) : Option R := k (.exit 0) (sx60_79_2_1 y3 y4)
noncomputable abbrev J60_79_2 {R : Type} (n : Nat) (y1 : Int) (y3 : List Ape) (y4 : List Int) (y2 : Int) (k : Ex → St → Option R) : Option R :=
 iter (ev P KK T114 LOrc.none 300 60 (loopOf P 60 2)) (headL P KK (KK.ann 60 2) 3) (gcL (KK.ann 60 2).out 3) n (st60_79_2 y1 y2 y3 y4) k
theorem k60_79_2 {R : Type} (n : Nat) (y1 : Int) (y3 : List Ape) (y4 : List Int) (y2 : Int) (k : Ex → St → Option R) : J60_79_2  (n + 1) y1 y3 y4 y2 k = S60_79_2  (E60_79_2_0 k y3 y4) (E60_79_2_1 k y3 y4) y1 y3 y4 (fun y2 => J60_79_2  n y1 y3 y4 y2 k) y2 := by kernel_rfl
theorem it60_79_2 {R : Type} (y1 : Int) (y3 : List Ape) (y4 : List Int) (k : Ex → St → Option R) : ∀ (n : Nat) (y2 : Int), J60_79_2  n y1 y3 y4 y2 k = L60_79_2  (E60_79_2_0 k y3 y4) (E60_79_2_1 k y3 y4) y1 y3 y4 n y2 := by
 intro n
 induction n with
 | zero => intros; rfl
 | succ n ih =>
  intro y2
  rw [k60_79_2, show (fun y2 => J60_79_2  n y1 y3 y4 y2 k) = L60_79_2  (E60_79_2_0 k y3 y4) (E60_79_2_1 k y3 y4) y1 y3 y4 n from by funext y2; exact ih y2]
  rfl
def lb60_79_2 {R : Type} (lf : Nat) (d : ps60_79_2.D) (k : Ex → St → Option R) : Option R := match d with
 | (y1, y2, y3, y4, ()) => L60_79_2  (E60_79_2_0 k y3 y4) (E60_79_2_1 k y3 y4) y1 y3 y4 lf y2
def lt60_79_2 {R : Type} (lf : Nat) : LOrc R := fun f id n0 st k => bif Nat.beq f 60 && (Nat.beq id 2 && Nat.beq n0 3) then readS ps60_79_2 st fun d => lb60_79_2 lf d k else LOrc.none f id n0 st k
def F60_79 (lf : Nat) (s : List Ape) (c1_0_0 : List Int) : Option (Int) :=
 L60_79_2 (fun z7 => some z7) (some (-1)) (s.length : Int) s c1_0_0 lf 0
theorem ev60_79 (lf : Nat) (s : List Ape) (c1_0_0 : List Int) : evC (R' := [.cell .i]) P KK T114 (lt60_79_2 lf) 60 [.cell (.sl .ape), .clo 79 [[.sl .int]]] (s, ((c1_0_0, ()), ()), ()) = F60_79 lf s c1_0_0 := by kernel_rfl
def g60_79 : Sig := ⟨[.cell (.sl .ape), .clo 79 [[.sl .int]]], [.cell .i]⟩
def T60_79 {R : Type} : Orc R := fun f args h k => bif Nat.beq f 60 && cloIs 1 79 args then contract g60_79 (fun d => F60_79 fuel d.1 d.2.1.1.1) args h k else T114 f args h k
end Go.Abs
