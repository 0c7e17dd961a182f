/- Own: Functions of the program as Lean functions, and that the interpreter comes to them. -/
import Derived.Test.YtmiajnodoigndaaGreatTr5
set_option linter.unusedVariables false
set_option linter.unusedSimpArgs false
set_option maxRecDepth 1000000
set_option maxHeartbeats 16000000
namespace Go.Abs
def S78_79_5 {R : Type} (e0 : Int → (List Ape) → Option R) (y5 : List Int) (rec : Int → Int → (List Ape) → Option R) (y2 y3 : Int) (y4 : List Ape) : Option R :=
 bif decide (y3 < (y4.length : Int)) then
  bif (decide (0 ≤ y3) && decide (y3 < (y4.length : Int))) then (match y4[(Int.toNat y3)]? with
   | some x6 => (match (F114 fuel y5 x6.ID) with
    | some r7 => bif (!(decide (0 ≤ r7))) then
      bif (decide (0 ≤ y2) && decide (y2 < (y4.length : Int))) then (match y4[(Int.toNat y2)]? with
       | some x8 => rec (wI (y2 + 1)) (wI (y3 + 1)) (y4.set (Int.toNat y2) x6)
       | none => none)
      else none
     else rec y2 (wI (y3 + 1)) y4
    | none => none)
   | none => none)
  else none
 else e0 y2 y4
def L78_79_5 {R : Type} (e0 : Int → (List Ape) → Option R) (y5 : List Int) : Nat → Int → Int → (List Ape) → Option R
 | 0 => fun _ _ _ => none
 | n + 1 => S78_79_5  e0 y5 (L78_79_5  e0 y5 n)
def ps78_79_5 : PSt := { live := [0, 1, 5, 6], nt := 42, env := [.whole 0, .fn 79 [2], .i, .i], heap := [.typ true true false 88 .ape, .typ false true false 0 .int, .gen false false false 0 1 [[.whole 1]]] }
abbrev st78_79_5 (y2 y3 : Int) (y4 : List Ape) (y5 : List Int) : St := ⟨[.whole 0, .fn (.func 79) [] [.ptr 2 0 0], dd, dd, dd, I y2, I y3, dd, dd, dd, dd, dd, dd, dd, dd, dd, dd, dd, dd, dd, dd, dd, dd, dd, dd, dd, dd, dd, dd, dd, dd, dd, dd, dd, dd, dd, dd, dd, dd, dd, dd, dd], [some ⟨true, true, false, 88, .typ .ape y4⟩, some ⟨false, true, false, 0, .typ .int y5⟩, some ⟨false, false, false, 0, .gen 1 [[.whole 1]]⟩]⟩
abbrev sx78_79_5_0 (z0 : Int) (z1 : List Ape) (z2 : List Int) : St := ⟨[.whole 0, dd, dd, dd, dd, I z0, dd, dd, dd, dd, dd, dd, dd, dd, dd, dd, dd, dd, dd, dd, dd, dd, dd, dd, dd, dd, dd, dd, dd, dd, dd, dd, dd, dd, dd, dd, dd, dd, dd, dd, dd, dd], [some ⟨true, true, false, 88, .typ .ape z1⟩, some ⟨false, true, false, 0, .typ .int z2⟩, some ⟨false, false, false, 0, .gen 1 [[.whole 1]]⟩]⟩
theorem ly78_79_5 (y2 y3 : Int) (y4 : List Ape) (y5 : List Int) : layS ps78_79_5 (y2, y3, y4, y5, ()) = st78_79_5 y2 y3 y4 y5 := by kernel_rfl
abbrev E78_79_5_0 {R : Type} (k : Ex → St → Option R) (y5 : List Int) (z0 : Int) (z1 : List Ape) : Option R := k (.exit 0) (sx78_79_5_0 z0 z1 y5)
noncomputable abbrev J78_79_5 {R : Type} (n : Nat) (y5 : List Int) (y2 y3 : Int) (y4 : List Ape) (k : Ex → St → Option R) : Option R :=
 iter (ev P KK T60_79 LOrc.none 300 78 (loopOf P 78 5)) (headL P KK (KK.ann 78 5) 3) (gcL (KK.ann 78 5).out 3) n (st78_79_5 y2 y3 y4 y5) k
theorem k78_79_5 {R : Type} (n : Nat) (y5 : List Int) (y2 y3 : Int) (y4 : List Ape) (k : Ex → St → Option R) : J78_79_5  (n + 1) y5 y2 y3 y4 k = S78_79_5  (E78_79_5_0 k y5) y5 (fun y2 y3 y4 => J78_79_5  n y5 y2 y3 y4 k) y2 y3 y4 := by kernel_rfl
theorem it78_79_5 {R : Type} (y5 : List Int) (k : Ex → St → Option R) : ∀ (n : Nat) (y2 y3 : Int) (y4 : List Ape), J78_79_5  n y5 y2 y3 y4 k = L78_79_5  (E78_79_5_0 k y5) y5 n y2 y3 y4 := by
 intro n
 induction n with
 | zero => intros; rfl
 | succ n ih =>
  intro y2 y3 y4
  rw [k78_79_5, show (fun y2 y3 y4 => J78_79_5  n y5 y2 y3 y4 k) = L78_79_5  (E78_79_5_0 k y5) y5 n from by funext y2 y3 y4; exact ih y2 y3 y4]
  rfl
def lb78_79_5 {R : Type} (lf : Nat) (d : ps78_79_5.D) (k : Ex → St → Option R) : Option R := match d with
 | (y2, y3, y4, y5, ()) => L78_79_5  (E78_79_5_0 k y5) y5 lf y2 y3 y4
def lt78_79_5 {R : Type} (lf : Nat) : LOrc R := fun f id n0 st k => bif Nat.beq f 78 && (Nat.beq id 5 && Nat.beq n0 3) then readS ps78_79_5 st fun d => lb78_79_5 lf d k else LOrc.none f id n0 st k
def F78_79 (lf : Nat) (s : List Ape) (c1_0_0 : List Int) : Option (List Ape) :=
 (match (F60_79 fuel s c1_0_0) with
 | some r1 => bif decide (r1 = (-1)) then
   some s
  else L78_79_5 (fun z9 z10 => bif (decide (0 ≤ z9) && decide (z9 ≤ (z10.length : Int))) then bif Nat.ble ((Int.toNat z9) + (z10.length - (Int.toNat z9))) z10.length then bif (decide (0 ≤ z9) && decide (z9 ≤ ((z10.take (Int.toNat z9) ++ (List.replicate (z10.length - (Int.toNat z9)) (Ape.mk 0 0 0 0 0) ++ z10.drop ((Int.toNat z9) + (z10.length - (Int.toNat z9))))).length : Int))) then bif Nat.ble ((Int.toNat z9) - 0) ((z10.take (Int.toNat z9) ++ (List.replicate (z10.length - (Int.toNat z9)) (Ape.mk 0 0 0 0 0) ++ z10.drop ((Int.toNat z9) + (z10.length - (Int.toNat z9))))).length) then some ((z10.take (Int.toNat z9) ++ (List.replicate (z10.length - (Int.toNat z9)) (Ape.mk 0 0 0 0 0) ++ z10.drop ((Int.toNat z9) + (z10.length - (Int.toNat z9))))).take ((Int.toNat z9) - 0))
       else none
      else none
     else none
    else none) c1_0_0 lf r1 (wI (r1 + 1)) s
 | none => none)
theorem ev78_79 (lf : Nat) (s : List Ape) (c1_0_0 : List Int) : evC (R' := [.cell (.own .ape 88)]) P KK T60_79 (lt78_79_5 lf) 78 [.own .ape 88, .clo 79 [[.sl .int]]] (s, ((c1_0_0, ()), ()), ()) = F78_79 lf s c1_0_0 := by kernel_rfl
def g78_79 : Sig := ⟨[.own .ape 88, .clo 79 [[.sl .int]]], [.cell (.own .ape 88)]⟩
def T78_79 {R : Type} : Orc R := fun f args h k => bif Nat.beq f 78 && cloIs 1 79 args then contract g78_79 (fun d => F78_79 fuel d.1 d.2.1.1.1) args h k else T60_79 f args h k
def F118 (s : List Ape) (i j : Int) : Option (List Ape) :=
 bif (decide (0 ≤ (s.length : Int)) && decide ((s.length : Int) ≤ (s.length : Int))) then bif (decide (0 ≤ j) && decide (j ≤ ((Int.toNat (s.length : Int)) : Int))) then bif (decide (0 ≤ i) && decide (i ≤ ((Int.toNat j) : Int))) then bif decide (i = j) then
     some s
    else bif (decide (0 ≤ i) && decide (i ≤ (s.length : Int))) then bif (decide (0 ≤ j) && decide (j ≤ (s.length : Int))) then bif Nat.ble ((Int.toNat j) + (s.length - (Int.toNat j))) s.length then bif Nat.ble ((0 + ((Int.toNat i) - 0)) + ((s.drop (Int.toNat j)).take (s.length - (Int.toNat j))).length) s.length then bif (Nat.ble (0 + (((Int.toNat i) - 0) + ((s.drop (Int.toNat j)).take (s.length - (Int.toNat j))).length)) ((s.take (0 + ((Int.toNat i) - 0)) ++ (((s.drop (Int.toNat j)).take (s.length - (Int.toNat j))) ++ s.drop ((0 + ((Int.toNat i) - 0)) + ((s.drop (Int.toNat j)).take (s.length - (Int.toNat j))).length))).length)) then bif (decide (0 ≤ (s.length : Int)) && decide ((s.length : Int) ≤ (((s.take (0 + ((Int.toNat i) - 0)) ++ (((s.drop (Int.toNat j)).take (s.length - (Int.toNat j))) ++ s.drop ((0 + ((Int.toNat i) - 0)) + ((s.drop (Int.toNat j)).take (s.length - (Int.toNat j))).length))).length - 0) : Int))) then bif (decide (0 ≤ ((((Int.toNat i) - 0) + ((s.drop (Int.toNat j)).take (s.length - (Int.toNat j))).length) : Int)) && decide (((((Int.toNat i) - 0) + ((s.drop (Int.toNat j)).take (s.length - (Int.toNat j))).length) : Int) ≤ ((Int.toNat (s.length : Int)) : Int))) then bif Nat.ble ((0 + (Int.toNat ((((Int.toNat i) - 0) + ((s.drop (Int.toNat j)).take (s.length - (Int.toNat j))).length) : Int))) + ((Int.toNat (s.length : Int)) - (Int.toNat ((((Int.toNat i) - 0) + ((s.drop (Int.toNat j)).take (s.length - (Int.toNat j))).length) : Int)))) ((s.take (0 + ((Int.toNat i) - 0)) ++ (((s.drop (Int.toNat j)).take (s.length - (Int.toNat j))) ++ s.drop ((0 + ((Int.toNat i) - 0)) + ((s.drop (Int.toNat j)).take (s.length - (Int.toNat j))).length))).length) then bif Nat.ble (((Int.toNat i) - 0) + ((s.drop (Int.toNat j)).take (s.length - (Int.toNat j))).length) (((s.take (0 + ((Int.toNat i) - 0)) ++ (((s.drop (Int.toNat j)).take (s.length - (Int.toNat j))) ++ s.drop ((0 + ((Int.toNat i) - 0)) + ((s.drop (Int.toNat j)).take (s.length - (Int.toNat j))).length))).take (0 + (Int.toNat ((((Int.toNat i) - 0) + ((s.drop (Int.toNat j)).take (s.length - (Int.toNat j))).length) : Int))) ++ (List.replicate ((Int.toNat (s.length : Int)) - (Int.toNat ((((Int.toNat i) - 0) + ((s.drop (Int.toNat j)).take (s.length - (Int.toNat j))).length) : Int))) (Ape.mk 0 0 0 0 0) ++ (s.take (0 + ((Int.toNat i) - 0)) ++ (((s.drop (Int.toNat j)).take (s.length - (Int.toNat j))) ++ s.drop ((0 + ((Int.toNat i) - 0)) + ((s.drop (Int.toNat j)).take (s.length - (Int.toNat j))).length))).drop ((0 + (Int.toNat ((((Int.toNat i) - 0) + ((s.drop (Int.toNat j)).take (s.length - (Int.toNat j))).length) : Int))) + ((Int.toNat (s.length : Int)) - (Int.toNat ((((Int.toNat i) - 0) + ((s.drop (Int.toNat j)).take (s.length - (Int.toNat j))).length) : Int)))))).length) then some (((s.take (0 + ((Int.toNat i) - 0)) ++ (((s.drop (Int.toNat j)).take (s.length - (Int.toNat j))) ++ s.drop ((0 + ((Int.toNat i) - 0)) + ((s.drop (Int.toNat j)).take (s.length - (Int.toNat j))).length))).take (0 + (Int.toNat ((((Int.toNat i) - 0) + ((s.drop (Int.toNat j)).take (s.length - (Int.toNat j))).length) : Int))) ++ (List.replicate ((Int.toNat (s.length : Int)) - (Int.toNat ((((Int.toNat i) - 0) + ((s.drop (Int.toNat j)).take (s.length - (Int.toNat j))).length) : Int))) (Ape.mk 0 0 0 0 0) ++ (s.take (0 + ((Int.toNat i) - 0)) ++ (((s.drop (Int.toNat j)).take (s.length - (Int.toNat j))) ++ s.drop ((0 + ((Int.toNat i) - 0)) + ((s.drop (Int.toNat j)).take (s.length - (Int.toNat j))).length))).drop ((0 + (Int.toNat ((((Int.toNat i) - 0) + ((s.drop (Int.toNat j)).take (s.length - (Int.toNat j))).length) : Int))) + ((Int.toNat (s.length : Int)) - (Int.toNat ((((Int.toNat i) - 0) + ((s.drop (Int.toNat j)).take (s.length - (Int.toNat j))).length) : Int)))))).take (((Int.toNat i) - 0) + ((s.drop (Int.toNat j)).take (s.length - (Int.toNat j))).length))
            else none
           else none
          else none
         else none
        else none
       else none
      else none
     else none
    else none
   else none
  else none
 else none
theorem ev118 (s : List Ape) (i j : Int) : evC (R' := [.cell (.own .ape 88)]) P KK T78_79 LOrc.none 118 [.own .ape 88, .cell .i, .cell .i] (s, i, j, ()) = F118 s i j := by kernel_rfl
def g118 : Sig := ⟨[.own .ape 88, .cell .i, .cell .i], [.cell (.own .ape 88)]⟩
def T118 {R : Type} : Orc R := fun f args h k => bif Nat.beq f 118 then contract g118 (fun d => F118 d.1 d.2.1 d.2.2.1) args h k else T78_79 f args h k
def F82 (w_Now : Int) (w_T : List Task) (w_A : List Ape) (w_Cur c_Band c_ID : Int) : Option ((Int × (List Task) × (List Ape) × Int) × Int) :=
 bif decide (c_Band = 1) then
  bif decide (c_Band = 1) then
   (match (F59_115 fuel w_T c_Band c_ID) with
   | some r1 => bif (decide (0 ≤ r1) && decide (r1 < (w_T.length : Int))) then (match w_T[(Int.toNat r1)]? with
     | some x2 => (match (F117 x2) with
      | some r3 => bif (decide (0 ≤ r1) && decide (r1 < (w_T.length : Int))) then (match w_T[(Int.toNat r1)]? with
        | some x4 => (match (F116 w_A w_Cur) with
         | some r5 => bif decide (r5 = (-1)) then
           some ((w_Now, (w_T.set (Int.toNat r1) r3.1), w_A, (-1)), r3.2)
          else some ((w_Now, (w_T.set (Int.toNat r1) r3.1), w_A, w_Cur), r3.2)
         | none => none)
        | none => none)
       else none
      | none => none)
     | none => none)
    else none
   | none => none)
  else bif decide (c_Band = 2) then
   (match (F116 w_A c_ID) with
   | some r6 => bif (decide (0 ≤ r6) && decide (r6 < (w_A.length : Int))) then (match w_A[(Int.toNat r6)]? with
     | some x7 => bif (decide (0 ≤ r6) && decide (r6 < (w_A.length : Int))) then (match w_A[(Int.toNat r6)]? with
       | some x8 => bif (decide (0 ≤ r6) && decide (r6 < ((w_A.set (Int.toNat r6) (Ape.mk x8.ID x8.Due x8.C x8.V (wI (x7.Ran + 1)))).length : Int))) then (match (w_A.set (Int.toNat r6) (Ape.mk x8.ID x8.Due x8.C x8.V (wI (x7.Ran + 1))))[(Int.toNat r6)]? with
         | some x9 => bif (decide (0 ≤ r6) && decide (r6 < ((w_A.set (Int.toNat r6) (Ape.mk x8.ID x8.Due x8.C x8.V (wI (x7.Ran + 1)))).length : Int))) then (match (w_A.set (Int.toNat r6) (Ape.mk x8.ID x8.Due x8.C x8.V (wI (x7.Ran + 1))))[(Int.toNat r6)]? with
           | some x10 => bif decide (x10.C ≤ x9.Ran) then
             (match (F118 (w_A.set (Int.toNat r6) (Ape.mk x8.ID x8.Due x8.C x8.V (wI (x7.Ran + 1)))) r6 (wI (r6 + 1))) with
             | some r11 => (match (F116 r11 w_Cur) with
              | some r12 => bif decide (r12 = (-1)) then
                some ((w_Now, w_T, r11, (-1)), 1)
               else some ((w_Now, w_T, r11, w_Cur), 1)
              | none => none)
             | none => none)
            else (match (F116 (w_A.set (Int.toNat r6) (Ape.mk x8.ID x8.Due x8.C x8.V (wI (x7.Ran + 1)))) w_Cur) with
            | some r13 => bif decide (r13 = (-1)) then
              some ((w_Now, w_T, (w_A.set (Int.toNat r6) (Ape.mk x8.ID x8.Due x8.C x8.V (wI (x7.Ran + 1)))), (-1)), 0)
             else some ((w_Now, w_T, (w_A.set (Int.toNat r6) (Ape.mk x8.ID x8.Due x8.C x8.V (wI (x7.Ran + 1)))), w_Cur), 0)
            | none => none)
           | none => none)
          else none
         | none => none)
        else none
       | none => none)
      else none
     | none => none)
    else none
   | none => none)
  else (match (F116 w_A w_Cur) with
  | some r14 => bif decide (r14 = (-1)) then
    some ((w_Now, w_T, w_A, (-1)), 0)
   else some ((w_Now, w_T, w_A, w_Cur), 0)
  | none => none)
 else bif decide (c_Band = 3) then
  (match (F59_115 fuel w_T c_Band c_ID) with
  | some r15 => bif (decide (0 ≤ r15) && decide (r15 < (w_T.length : Int))) then (match w_T[(Int.toNat r15)]? with
    | some x16 => (match (F117 x16) with
     | some r17 => bif (decide (0 ≤ r15) && decide (r15 < (w_T.length : Int))) then (match w_T[(Int.toNat r15)]? with
       | some x18 => (match (F116 w_A w_Cur) with
        | some r19 => bif decide (r19 = (-1)) then
          some ((w_Now, (w_T.set (Int.toNat r15) r17.1), w_A, (-1)), r17.2)
         else some ((w_Now, (w_T.set (Int.toNat r15) r17.1), w_A, w_Cur), r17.2)
        | none => none)
       | none => none)
      else none
     | none => none)
    | none => none)
   else none
  | none => none)
 else bif decide (c_Band = 2) then
  (match (F116 w_A c_ID) with
  | some r20 => bif (decide (0 ≤ r20) && decide (r20 < (w_A.length : Int))) then (match w_A[(Int.toNat r20)]? with
    | some x21 => bif (decide (0 ≤ r20) && decide (r20 < (w_A.length : Int))) then (match w_A[(Int.toNat r20)]? with
      | some x22 => bif (decide (0 ≤ r20) && decide (r20 < ((w_A.set (Int.toNat r20) (Ape.mk x22.ID x22.Due x22.C x22.V (wI (x21.Ran + 1)))).length : Int))) then (match (w_A.set (Int.toNat r20) (Ape.mk x22.ID x22.Due x22.C x22.V (wI (x21.Ran + 1))))[(Int.toNat r20)]? with
        | some x23 => bif (decide (0 ≤ r20) && decide (r20 < ((w_A.set (Int.toNat r20) (Ape.mk x22.ID x22.Due x22.C x22.V (wI (x21.Ran + 1)))).length : Int))) then (match (w_A.set (Int.toNat r20) (Ape.mk x22.ID x22.Due x22.C x22.V (wI (x21.Ran + 1))))[(Int.toNat r20)]? with
          | some x24 => bif decide (x24.C ≤ x23.Ran) then
            (match (F118 (w_A.set (Int.toNat r20) (Ape.mk x22.ID x22.Due x22.C x22.V (wI (x21.Ran + 1)))) r20 (wI (r20 + 1))) with
            | some r25 => (match (F116 r25 w_Cur) with
             | some r26 => bif decide (r26 = (-1)) then
               some ((w_Now, w_T, r25, (-1)), 1)
              else some ((w_Now, w_T, r25, w_Cur), 1)
             | none => none)
            | none => none)
           else (match (F116 (w_A.set (Int.toNat r20) (Ape.mk x22.ID x22.Due x22.C x22.V (wI (x21.Ran + 1)))) w_Cur) with
           | some r27 => bif decide (r27 = (-1)) then
             some ((w_Now, w_T, (w_A.set (Int.toNat r20) (Ape.mk x22.ID x22.Due x22.C x22.V (wI (x21.Ran + 1)))), (-1)), 0)
            else some ((w_Now, w_T, (w_A.set (Int.toNat r20) (Ape.mk x22.ID x22.Due x22.C x22.V (wI (x21.Ran + 1)))), w_Cur), 0)
           | none => none)
          | none => none)
         else none
        | none => none)
       else none
      | none => none)
     else none
    | none => none)
   else none
  | none => none)
 else (match (F116 w_A w_Cur) with
 | some r28 => bif decide (r28 = (-1)) then
   some ((w_Now, w_T, w_A, (-1)), 0)
  else some ((w_Now, w_T, w_A, w_Cur), 0)
 | none => none)
def g82 : SigIO := ⟨[.i, .own .task 54, .own .ape 88, .i], [.agg [.i, .i]], [.cell .i]⟩
theorem ev82 (w_Now : Int) (w_T : List Task) (w_A : List Ape) (w_Cur c_Band c_ID : Int) : evIO P KK g82 T118 LOrc.none 82 (w_Now, w_T, w_A, w_Cur) ((c_Band, c_ID, ()), ()) = F82 w_Now w_T w_A w_Cur c_Band c_ID := by kernel_rfl
def T82 {R : Type} : Orc R := fun f args h k => bif Nat.beq f 82 then contractIO g82 (fun x d => F82 x.1 x.2.1 x.2.2.1 x.2.2.2 d.1.1 d.1.2.1) args h k else T118 f args h k
def F54 (w_Now : Int) (w_T : List Task) (w_A : List Ape) (w_Cur : Int) (d : List Int) : Option ((Int × (List Task) × (List Ape) × Int) × (Int × Int × Int × Int × (List Int) × (List Int) × (List Int)) × Bool) :=
 (match (F55 fuel w_Now w_T w_A w_Cur) with
 | some r1 => bif (!r1) then
   (match (cloneB w_T) with
   | some r2 => (match (cloneB w_A) with
    | some r3 => some ((w_Now, r2, r3, w_Cur), (0, 0, 0, 0, [], [], []), false)
    | none => none)
   | none => none)
  else bif decide (w_Now = 274877906944) then
   (match (cloneB w_T) with
   | some r4 => (match (cloneB w_A) with
    | some r5 => some ((w_Now, r4, r5, w_Cur), (0, 0, 0, 0, [], [], []), false)
    | none => none)
   | none => none)
  else (match (F76 fuel w_Now w_T w_A w_Cur d) with
  | some r6 => (match (F77 r6.1.1 r6.1.2.1 r6.1.2.2.1 r6.1.2.2.2) with
   | some r7 => (match (F78_79 fuel r6.1.2.2.1 r7.2) with
    | some r8 => bif decide (r7.1.1 = 1) then
      bif decide (r7.1.1 = 1) then
       (match (F59_115 fuel r6.1.2.1 r7.1.1 r7.1.2) with
       | some r9 => (match (F82 r6.1.1 r6.1.2.1 r8 r6.1.2.2.2 r7.1.1 r7.1.2) with
        | some r10 => (match (F83 fuel (wI (r10.1.1 + 1)) r10.1.2.1 r10.1.2.2.1 r10.1.2.2.2) with
         | some r11 => some ((r11.1.1, r11.1.2.1, r11.1.2.2.1, r11.1.2.2.2), (w_Now, r7.1.1, r7.1.2, r10.2, r6.2, r11.2, r7.2), true)
         | none => none)
        | none => none)
       | none => none)
      else bif decide (r7.1.1 = 2) then
       (match (F116 r8 r7.1.2) with
       | some r12 => (match (F82 r6.1.1 r6.1.2.1 r8 r7.1.2 r7.1.1 r7.1.2) with
        | some r13 => (match (F83 fuel (wI (r13.1.1 + 1)) r13.1.2.1 r13.1.2.2.1 r13.1.2.2.2) with
         | some r14 => some ((r14.1.1, r14.1.2.1, r14.1.2.2.1, r14.1.2.2.2), (w_Now, r7.1.1, r7.1.2, r13.2, r6.2, r14.2, r7.2), true)
         | none => none)
        | none => none)
       | none => none)
      else (match (F82 r6.1.1 r6.1.2.1 r8 r6.1.2.2.2 r7.1.1 r7.1.2) with
      | some r15 => (match (F83 fuel (wI (r15.1.1 + 1)) r15.1.2.1 r15.1.2.2.1 r15.1.2.2.2) with
       | some r16 => some ((r16.1.1, r16.1.2.1, r16.1.2.2.1, r16.1.2.2.2), (w_Now, r7.1.1, r7.1.2, r15.2, r6.2, r16.2, r7.2), true)
       | none => none)
      | none => none)
     else bif decide (r7.1.1 = 3) then
      (match (F59_115 fuel r6.1.2.1 r7.1.1 r7.1.2) with
      | some r17 => (match (F82 r6.1.1 r6.1.2.1 r8 r6.1.2.2.2 r7.1.1 r7.1.2) with
       | some r18 => (match (F83 fuel (wI (r18.1.1 + 1)) r18.1.2.1 r18.1.2.2.1 r18.1.2.2.2) with
        | some r19 => some ((r19.1.1, r19.1.2.1, r19.1.2.2.1, r19.1.2.2.2), (w_Now, r7.1.1, r7.1.2, r18.2, r6.2, r19.2, r7.2), true)
        | none => none)
       | none => none)
      | none => none)
     else bif decide (r7.1.1 = 2) then
      (match (F116 r8 r7.1.2) with
      | some r20 => (match (F82 r6.1.1 r6.1.2.1 r8 r7.1.2 r7.1.1 r7.1.2) with
       | some r21 => (match (F83 fuel (wI (r21.1.1 + 1)) r21.1.2.1 r21.1.2.2.1 r21.1.2.2.2) with
        | some r22 => some ((r22.1.1, r22.1.2.1, r22.1.2.2.1, r22.1.2.2.2), (w_Now, r7.1.1, r7.1.2, r21.2, r6.2, r22.2, r7.2), true)
        | none => none)
       | none => none)
      | none => none)
     else (match (F82 r6.1.1 r6.1.2.1 r8 r6.1.2.2.2 r7.1.1 r7.1.2) with
     | some r23 => (match (F83 fuel (wI (r23.1.1 + 1)) r23.1.2.1 r23.1.2.2.1 r23.1.2.2.2) with
      | some r24 => some ((r24.1.1, r24.1.2.1, r24.1.2.2.1, r24.1.2.2.2), (w_Now, r7.1.1, r7.1.2, r23.2, r6.2, r24.2, r7.2), true)
      | none => none)
     | none => none)
    | none => none)
   | none => none)
  | none => none)
 | none => none)
theorem ev54 (w_Now : Int) (w_T : List Task) (w_A : List Ape) (w_Cur : Int) (d : List Int) : evC (R' := [.agg [.i, .own .task 54, .own .ape 88, .i], .agg [.i, .i, .i, .i, .own .int 3, .own .int 3, .own .int 3], .cell .b]) P KK T82 LOrc.none 54 [.agg [.i, .sl .task, .sl .ape, .i], .cell (.sl .int)] ((w_Now, w_T, w_A, w_Cur, ()), d, ()) = F54 w_Now w_T w_A w_Cur d := by kernel_rfl
def g54 : Sig := ⟨[.agg [.i, .sl .task, .sl .ape, .i], .cell (.sl .int)], [.agg [.i, .own .task 54, .own .ape 88, .i], .agg [.i, .i, .i, .i, .own .int 3, .own .int 3, .own .int 3], .cell .b]⟩
def T54 {R : Type} : Orc R := fun f args h k => bif Nat.beq f 54 then contract g54 (fun d => F54 d.1.1 d.1.2.1 d.1.2.2.1 d.1.2.2.2.1 d.2.1) args h k else T82 f args h k
def K61 {R : Type} (kk : Int → R) (is : Bool) (e : Int) : R :=
 bif is then
  kk e
 else kk 0
def F61 (is : Bool) (e : Int) : Int := K61 (fun r => r) is e
theorem ev61 (is : Bool) (e : Int) : evC (R' := [.cell .i]) P KK T54 LOrc.none 61 [.cell .b, .cell .i] (is, e, ()) = some (F61 is e) := by
 rw [show evC (R' := [.cell .i]) P KK T54 LOrc.none 61 [.cell .b, .cell .i] (is, e, ()) = K61 some is e from by kernel_rfl]
 simp only [F61, K61, some_cond]
 try rfl
def g61 : Sig := ⟨[.cell .b, .cell .i], [.cell .i]⟩
def T61 {R : Type} : Orc R := fun f args h k => bif Nat.beq f 61 then contract g61 (fun d => some (F61 d.1 d.2.1)) args h k else T54 f args h k
def S62_2 {R : Type} (e0 : Int → Option R) (e1 : Option R) (y1 : Int) (y3 : List Int) (rec : Int → Option R) (y2 : Int) : Option R :=
 bif decide (y2 < y1) then
  bif (decide (0 ≤ y2) && decide (y2 < (y3.length : Int))) then (match y3[(Int.toNat y2)]? with
   | some x4 => bif (!(decide (x4 = 0))) then
     e0 x4
    else rec (wI (y2 + 1))
   | none => none)
  else none
 else e1
def L62_2 {R : Type} (e0 : Int → Option R) (e1 : Option R) (y1 : Int) (y3 : List Int) : Nat → Int → Option R
 | 0 => fun _ => none
 | n + 1 => S62_2  e0 e1 y1 y3 (L62_2  e0 e1 y1 y3 n)
def ps62_2 : PSt := { live := [5, 6, 7], nt := 15, env := [.whole 0, .i, .i], heap := [.typ false true false 0 .int] }
abbrev st62_2 (y1 y2 : Int) (y3 : List Int) : St := ⟨[dd, dd, dd, dd, dd, .whole 0, I y1, I y2, dd, dd, dd, dd, dd, dd, dd], [some ⟨false, true, false, 0, .typ .int y3⟩]⟩
abbrev sx62_2_0 (z0 : Int) (z1 : List Int) : St := ⟨[dd, dd, I z0, dd, dd, dd, dd, dd, dd, dd, dd, dd, dd, dd, dd], [some ⟨false, true, false, 0, .typ .int z1⟩]⟩
abbrev sx62_2_1 (z0 : List Int) : St := ⟨[dd, dd, dd, dd, dd, dd, dd, dd, dd, dd, dd, dd, dd, dd, dd], [some ⟨false, true, false, 0, .typ .int z0⟩]⟩
theorem ly62_2 (y1 y2 : Int) (y3 : List Int) : layS ps62_2 (y1, y2, y3, ()) = st62_2 y1 y2 y3 := by kernel_rfl
abbrev E62_2_0 {R : Type} (k : Ex → St → Option R) (y3 : List Int) (z0 : Int) : Option R := k .ret (sx62_2_0 z0 y3)
abbrev E62_2_1 {R : Type} (k : Ex → St → Option R) (y3 : List Int) : Option R := k (.exit 0) (sx62_2_1 y3)
noncomputable abbrev J62_2 {R : Type} (n : Nat) (y1 : Int) (y3 : List Int) (y2 : Int) (k : Ex → St → Option R) : Option R :=
 iter (ev P KK T61 LOrc.none 300 62 (loopOf P 62 2)) (headL P KK (KK.ann 62 2) 1) (gcL (KK.ann 62 2).out 1) n (st62_2 y1 y2 y3) k
theorem k62_2 {R : Type} (n : Nat) (y1 : Int) (y3 : List Int) (y2 : Int) (k : Ex → St → Option R) : J62_2  (n + 1) y1 y3 y2 k = S62_2  (E62_2_0 k y3) (E62_2_1 k y3) y1 y3 (fun y2 => J62_2  n y1 y3 y2 k) y2 := by kernel_rfl
theorem it62_2 {R : Type} (y1 : Int) (y3 : List Int) (k : Ex → St → Option R) : ∀ (n : Nat) (y2 : Int), J62_2  n y1 y3 y2 k = L62_2  (E62_2_0 k y3) (E62_2_1 k y3) y1 y3 n y2 := by
 intro n
 induction n with
 | zero => intros; rfl
 | succ n ih =>
  intro y2
  rw [k62_2, show (fun y2 => J62_2  n y1 y3 y2 k) = L62_2  (E62_2_0 k y3) (E62_2_1 k y3) y1 y3 n from by funext y2; exact ih y2]
  rfl
def lb62_2 {R : Type} (lf : Nat) (d : ps62_2.D) (k : Ex → St → Option R) : Option R := match d with
 | (y1, y2, y3, ()) => L62_2  (E62_2_0 k y3) (E62_2_1 k y3) y1 y3 lf y2
def lt62_2 {R : Type} (lf : Nat) : LOrc R := fun f id n0 st k => bif Nat.beq f 62 && (Nat.beq id 2 && Nat.beq n0 1) then readS ps62_2 st fun d => lb62_2 lf d k else LOrc.none f id n0 st k
def F62 (lf : Nat) (l : List Int) : Option (Int) :=
 L62_2 (fun z5 => some z5) (some 0) (l.length : Int) l lf 0
theorem ev62 (lf : Nat) (l : List Int) : evC (R' := [.cell .i]) P KK T61 (lt62_2 lf) 62 [.cell (.sl .int)] (l, ()) = F62 lf l := by kernel_rfl
def g62 : Sig := ⟨[.cell (.sl .int)], [.cell .i]⟩
def T62 {R : Type} : Orc R := fun f args h k => bif Nat.beq f 62 then contract g62 (fun d => F62 fuel d.1) args h k else T61 f args h k
def S66_3 {R : Type} (e0 : (List Spec) → Option R) (y1 : Int) (y3 : List Task) (y4 : List Ape) (y5 : List Aim) (y6 y7 : Int) (y8 : Bool) (y9 y10 y11 y12 y13 : Int) (rec : Int → (List Spec) → Option R) (y2 : Int) (y14 : List Spec) : Option R :=
 bif decide (y2 < y1) then
  bif (decide (0 ≤ y2) && decide (y2 < (y3.length : Int))) then (match y3[(Int.toNat y2)]? with
   | some x15 => bif Nat.ble ((y14 ++ ([x15.S])).length) 100000 then rec (wI (y2 + 1)) (y14 ++ ([x15.S]))
    else none
   | none => none)
  else none
 else e0 y14
def L66_3 {R : Type} (e0 : (List Spec) → Option R) (y1 : Int) (y3 : List Task) (y4 : List Ape) (y5 : List Aim) (y6 y7 : Int) (y8 : Bool) (y9 y10 y11 y12 y13 : Int) : Nat → Int → (List Spec) → Option R
 | 0 => fun _ _ => none
 | n + 1 => S66_3  e0 y1 y3 y4 y5 y6 y7 y8 y9 y10 y11 y12 y13 (L66_3  e0 y1 y3 y4 y5 y6 y7 y8 y9 y10 y11 y12 y13 n)
def ps66_3 : PSt := { live := [3, 8, 9, 10], nt := 21, env := [.whole 4, .whole 0, .i, .i], heap := [.typ false true false 0 .task, .typ false true false 0 .ape, .typ false true false 0 .aim, .gen true false false 0 11 [[.i, .whole 0, .whole 1, .i, .b, .i, .i, .i, .whole 2, .i, .i]], .typ true true false 45 .spec] }
abbrev st66_3 (y1 y2 : Int) (y3 : List Task) (y4 : List Ape) (y5 : List Aim) (y6 y7 : Int) (y8 : Bool) (y9 y10 y11 y12 y13 : Int) (y14 : List Spec) : St := ⟨[dd, dd, dd, .whole 4, dd, dd, dd, dd, .whole 0, I y1, I y2, dd, dd, dd, dd, dd, dd, dd, dd, dd, dd], [some ⟨false, true, false, 0, .typ .task y3⟩, some ⟨false, true, false, 0, .typ .ape y4⟩, some ⟨false, true, false, 0, .typ .aim y5⟩, some ⟨true, false, false, 0, .gen 11 [[I y6, .whole 0, .whole 1, I y7, .bool y8, I y9, I y10, I y11, .whole 2, I y12, I y13]]⟩, some ⟨true, true, false, 45, .typ .spec y14⟩]⟩
abbrev sx66_3_0 (z0 : List Task) (z1 : List Ape) (z2 : List Aim) (z3 z4 : Int) (z5 : Bool) (z6 z7 z8 z9 z10 : Int) (z11 : List Spec) : St := ⟨[dd, dd, dd, .whole 4, dd, dd, dd, dd, dd, dd, dd, dd, dd, dd, dd, dd, dd, dd, dd, dd, dd], [some ⟨false, true, false, 0, .typ .task z0⟩, some ⟨false, true, false, 0, .typ .ape z1⟩, some ⟨false, true, false, 0, .typ .aim z2⟩, some ⟨true, false, false, 0, .gen 11 [[I z3, .whole 0, .whole 1, I z4, .bool z5, I z6, I z7, I z8, .whole 2, I z9, I z10]]⟩, some ⟨true, true, false, 45, .typ .spec z11⟩]⟩
theorem ly66_3 (y1 y2 : Int) (y3 : List Task) (y4 : List Ape) (y5 : List Aim) (y6 y7 : Int) (y8 : Bool) (y9 y10 y11 y12 y13 : Int) (y14 : List Spec) : layS ps66_3 (y1, y2, y3, y4, y5, y6, y7, y8, y9, y10, y11, y12, y13, y14, ()) = st66_3 y1 y2 y3 y4 y5 y6 y7 y8 y9 y10 y11 y12 y13 y14 := by kernel_rfl
abbrev E66_3_0 {R : Type} (k : Ex → St → Option R) (y3 : List Task) (y4 : List Ape) (y5 : List Aim) (y6 y7 : Int) (y8 : Bool) (y9 y10 y11 y12 y13 : Int) (z11 : List Spec) : Option R := k (.exit 0) (sx66_3_0 y3 y4 y5 y6 y7 y8 y9 y10 y11 y12 y13 z11)
noncomputable abbrev J66_3 {R : Type} (n : Nat) (y1 : Int) (y3 : List Task) (y4 : List Ape) (y5 : List Aim) (y6 y7 : Int) (y8 : Bool) (y9 y10 y11 y12 y13 y2 : Int) (y14 : List Spec) (k : Ex → St → Option R) : Option R :=
 iter (ev P KK T62 LOrc.none 300 66 (loopOf P 66 3)) (headL P KK (KK.ann 66 3) 4) (gcL (KK.ann 66 3).out 4) n (st66_3 y1 y2 y3 y4 y5 y6 y7 y8 y9 y10 y11 y12 y13 y14) k
theorem k66_3 {R : Type} (n : Nat) (y1 : Int) (y3 : List Task) (y4 : List Ape) (y5 : List Aim) (y6 y7 : Int) (y8 : Bool) (y9 y10 y11 y12 y13 y2 : Int) (y14 : List Spec) (k : Ex → St → Option R) : J66_3  (n + 1) y1 y3 y4 y5 y6 y7 y8 y9 y10 y11 y12 y13 y2 y14 k = S66_3  (E66_3_0 k y3 y4 y5 y6 y7 y8 y9 y10 y11 y12 y13) y1 y3 y4 y5 y6 y7 y8 y9 y10 y11 y12 y13 (fun y2 y14 => J66_3  n y1 y3 y4 y5 y6 y7 y8 y9 y10 y11 y12 y13 y2 y14 k) y2 y14 := by kernel_rfl
theorem it66_3 {R : Type} (y1 : Int) (y3 : List Task) (y4 : List Ape) (y5 : List Aim) (y6 y7 : Int) (y8 : Bool) (y9 y10 y11 y12 y13 : Int) (k : Ex → St → Option R) : ∀ (n : Nat) (y2 : Int) (y14 : List Spec), J66_3  n y1 y3 y4 y5 y6 y7 y8 y9 y10 y11 y12 y13 y2 y14 k = L66_3  (E66_3_0 k y3 y4 y5 y6 y7 y8 y9 y10 y11 y12 y13) y1 y3 y4 y5 y6 y7 y8 y9 y10 y11 y12 y13 n y2 y14 := by
 intro n
 induction n with
 | zero => intros; rfl
 | succ n ih =>
  intro y2 y14
  rw [k66_3, show (fun y2 y14 => J66_3  n y1 y3 y4 y5 y6 y7 y8 y9 y10 y11 y12 y13 y2 y14 k) = L66_3  (E66_3_0 k y3 y4 y5 y6 y7 y8 y9 y10 y11 y12 y13) y1 y3 y4 y5 y6 y7 y8 y9 y10 y11 y12 y13 n from by funext y2 y14; exact ih y2 y14]
  rfl
def lb66_3 {R : Type} (lf : Nat) (d : ps66_3.D) (k : Ex → St → Option R) : Option R := match d with
 | (y1, y2, y3, y4, y5, y6, y7, y8, y9, y10, y11, y12, y13, y14, ()) => L66_3  (E66_3_0 k y3 y4 y5 y6 y7 y8 y9 y10 y11 y12 y13) y1 y3 y4 y5 y6 y7 y8 y9 y10 y11 y12 y13 lf y2 y14
def lt66_3 {R : Type} (lf : Nat) : LOrc R := fun f id n0 st k => bif Nat.beq f 66 && (Nat.beq id 3 && Nat.beq n0 4) then readS ps66_3 st fun d => lb66_3 lf d k else LOrc.none f id n0 st k
def F66 (lf : Nat) (s_W_Now : Int) (s_W_T : List Task) (s_W_A : List Ape) (s_W_Cur : Int) (s_R_On : Bool) (s_R_Since s_R_By s_R_New : Int) (s_R_L : List Aim) (s_NextID s_NextAp : Int) : Option (List Spec) :=
 L66_3 (fun z16 => some z16) (s_W_T.length : Int) s_W_T s_W_A s_R_L s_W_Now s_W_Cur s_R_On s_R_Since s_R_By s_R_New s_NextID s_NextAp lf 0 ([])
theorem ev66 (lf : Nat) (s_W_Now : Int) (s_W_T : List Task) (s_W_A : List Ape) (s_W_Cur : Int) (s_R_On : Bool) (s_R_Since s_R_By s_R_New : Int) (s_R_L : List Aim) (s_NextID s_NextAp : Int) : evC (R' := [.cell (.own .spec 45)]) P KK T62 (lt66_3 lf) 66 [.agg [.i, .sl .task, .sl .ape, .i, .b, .i, .i, .i, .sl .aim, .i, .i]] ((s_W_Now, s_W_T, s_W_A, s_W_Cur, s_R_On, s_R_Since, s_R_By, s_R_New, s_R_L, s_NextID, s_NextAp, ()), ()) = F66 lf s_W_Now s_W_T s_W_A s_W_Cur s_R_On s_R_Since s_R_By s_R_New s_R_L s_NextID s_NextAp := by kernel_rfl
def g66 : Sig := ⟨[.agg [.i, .sl .task, .sl .ape, .i, .b, .i, .i, .i, .sl .aim, .i, .i]], [.cell (.own .spec 45)]⟩
def T66 {R : Type} : Orc R := fun f args h k => bif Nat.beq f 66 then contract g66 (fun d => F66 fuel d.1.1 d.1.2.1 d.1.2.2.1 d.1.2.2.2.1 d.1.2.2.2.2.1 d.1.2.2.2.2.2.1 d.1.2.2.2.2.2.2.1 d.1.2.2.2.2.2.2.2.1 d.1.2.2.2.2.2.2.2.2.1 d.1.2.2.2.2.2.2.2.2.2.1 d.1.2.2.2.2.2.2.2.2.2.2.1) args h k else T62 f args h k
def S59_103_2 {R : Type} (e0 : Int → Option R) (e1 : Option R) (y1 : Int) (y3 : List Task) (y4 : Int) (rec : Int → Option R) (y2 : Int) : Option R :=
 bif decide (y2 < y1) then
  bif (decide (0 ≤ y2) && decide (y2 < (y3.length : Int))) then (match y3[(Int.toNat y2)]? with
   | some x5 => bif decide (x5.ID = y4) then
     e0 y2
    else rec (wI (y2 + 1))
   | none => none)
  else none
 else e1
def L59_103_2 {R : Type} (e0 : Int → Option R) (e1 : Option R) (y1 : Int) (y3 : List Task) (y4 : Int) : Nat → Int → Option R
 | 0 => fun _ => none
 | n + 1 => S59_103_2  e0 e1 y1 y3 y4 (L59_103_2  e0 e1 y1 y3 y4 n)
def ps59_103_2 : PSt := { live := [0, 1, 7, 8], nt := 19, env := [.whole 0, .fn 103 [1], .i, .i], heap := [.typ false true false 0 .task, .gen false false false 0 1 [[.i]]] }
abbrev st59_103_2 (y1 y2 : Int) (y3 : List Task) (y4 : Int) : St := ⟨[.whole 0, .fn (.func 103) [] [.ptr 1 0 0], dd, dd, dd, dd, dd, I y1, I y2, dd, dd, dd, dd, dd, dd, dd, dd, dd, dd], [some ⟨false, true, false, 0, .typ .task y3⟩, some ⟨false, false, false, 0, .gen 1 [[I y4]]⟩]⟩
abbrev sx59_103_2_0 (z0 : Int) (z1 : List Task) (z2 : Int) : St := ⟨[dd, dd, dd, dd, I z0, dd, dd, dd, dd, dd, dd, dd, dd, dd, dd, dd, dd, dd, dd], [some ⟨false, true, false, 0, .typ .task z1⟩, some ⟨false, false, false, 0, .gen 1 [[I z2]]⟩]⟩
abbrev sx59_103_2_1 (z0 : List Task) (z1 : Int) : St := ⟨[dd, dd, dd, dd, dd, dd, dd, dd, dd, dd, dd, dd, dd, dd, dd, dd, dd, dd, dd], [some ⟨false, true, false, 0, .typ .task z0⟩, some ⟨false, false, false, 0, .gen 1 [[I z1]]⟩]⟩
theorem ly59_103_2 (y1 y2 : Int) (y3 : List Task) (y4 : Int) : layS ps59_103_2 (y1, y2, y3, y4, ()) = st59_103_2 y1 y2 y3 y4 := by kernel_rfl
abbrev E59_103_2_0 {R : Type} (k : Ex → St → Option R) (y3 : List Task) (y4 z0 : Int) : Option R := k .ret (sx59_103_2_0 z0 y3 y4)
abbrev E59_103_2_1 {R : Type} (k : Ex → St → Option R) (y3 : List Task) (y4 : Int) : Option R := k (.exit 0) (sx59_103_2_1 y3 y4)
noncomputable abbrev J59_103_2 {R : Type} (n : Nat) (y1 : Int) (y3 : List Task) (y4 y2 : Int) (k : Ex → St → Option R) : Option R :=
 iter (ev P KK T66 LOrc.none 300 59 (loopOf P 59 2)) (headL P KK (KK.ann 59 2) 2) (gcL (KK.ann 59 2).out 2) n (st59_103_2 y1 y2 y3 y4) k
theorem k59_103_2 {R : Type} (n : Nat) (y1 : Int) (y3 : List Task) (y4 y2 : Int) (k : Ex → St → Option R) : J59_103_2  (n + 1) y1 y3 y4 y2 k = S59_103_2  (E59_103_2_0 k y3 y4) (E59_103_2_1 k y3 y4) y1 y3 y4 (fun y2 => J59_103_2  n y1 y3 y4 y2 k) y2 := by kernel_rfl
theorem it59_103_2 {R : Type} (y1 : Int) (y3 : List Task) (y4 : Int) (k : Ex → St → Option R) : ∀ (n : Nat) (y2 : Int), J59_103_2  n y1 y3 y4 y2 k = L59_103_2  (E59_103_2_0 k y3 y4) (E59_103_2_1 k y3 y4) y1 y3 y4 n y2 := by
 intro n
 induction n with
 | zero => intros; rfl
 | succ n ih =>
  intro y2
  rw [k59_103_2, show (fun y2 => J59_103_2  n y1 y3 y4 y2 k) = L59_103_2  (E59_103_2_0 k y3 y4) (E59_103_2_1 k y3 y4) y1 y3 y4 n from by funext y2; exact ih y2]
  rfl
def lb59_103_2 {R : Type} (lf : Nat) (d : ps59_103_2.D) (k : Ex → St → Option R) : Option R := match d with
 | (y1, y2, y3, y4, ()) => L59_103_2  (E59_103_2_0 k y3 y4) (E59_103_2_1 k y3 y4) y1 y3 y4 lf y2
def lt59_103_2 {R : Type} (lf : Nat) : LOrc R := fun f id n0 st k => bif Nat.beq f 59 && (Nat.beq id 2 && Nat.beq n0 2) then readS ps59_103_2 st fun d => lb59_103_2 lf d k else LOrc.none f id n0 st k
def F59_103 (lf : Nat) (s : List Task) (c1_0_0 : Int) : Option (Int) :=
 L59_103_2 (fun z6 => some z6) (some (-1)) (s.length : Int) s c1_0_0 lf 0
theorem ev59_103 (lf : Nat) (s : List Task) (c1_0_0 : Int) : evC (R' := [.cell .i]) P KK T66 (lt59_103_2 lf) 59 [.cell (.sl .task), .clo 103 [[.i]]] (s, ((c1_0_0, ()), ()), ()) = F59_103 lf s c1_0_0 := by kernel_rfl
def g59_103 : Sig := ⟨[.cell (.sl .task), .clo 103 [[.i]]], [.cell .i]⟩
def T59_103 {R : Type} : Orc R := fun f args h k => bif Nat.beq f 59 && cloIs 1 103 args then contract g59_103 (fun d => F59_103 fuel d.1 d.2.1.1.1) args h k else T66 f args h k
def F68 (s_W_Now : Int) (s_W_T : List Task) (s_W_A : List Ape) (s_W_Cur : Int) (s_R_On : Bool) (s_R_Since s_R_By s_R_New : Int) (s_R_L : List Aim) (s_NextID s_NextAp id : Int) : Option (Int) :=
 (match (F59_103 fuel s_W_T id) with
 | some r1 => some r1
 | none => none)
theorem ev68 (s_W_Now : Int) (s_W_T : List Task) (s_W_A : List Ape) (s_W_Cur : Int) (s_R_On : Bool) (s_R_Since s_R_By s_R_New : Int) (s_R_L : List Aim) (s_NextID s_NextAp id : Int) : evC (R' := [.cell .i]) P KK T59_103 LOrc.none 68 [.agg [.i, .sl .task, .sl .ape, .i, .b, .i, .i, .i, .sl .aim, .i, .i], .cell .i] ((s_W_Now, s_W_T, s_W_A, s_W_Cur, s_R_On, s_R_Since, s_R_By, s_R_New, s_R_L, s_NextID, s_NextAp, ()), id, ()) = F68 s_W_Now s_W_T s_W_A s_W_Cur s_R_On s_R_Since s_R_By s_R_New s_R_L s_NextID s_NextAp id := by kernel_rfl
def g68 : Sig := ⟨[.agg [.i, .sl .task, .sl .ape, .i, .b, .i, .i, .i, .sl .aim, .i, .i], .cell .i], [.cell .i]⟩
def T68 {R : Type} : Orc R := fun f args h k => bif Nat.beq f 68 then contract g68 (fun d => F68 d.1.1 d.1.2.1 d.1.2.2.1 d.1.2.2.2.1 d.1.2.2.2.2.1 d.1.2.2.2.2.2.1 d.1.2.2.2.2.2.2.1 d.1.2.2.2.2.2.2.2.1 d.1.2.2.2.2.2.2.2.2.1 d.1.2.2.2.2.2.2.2.2.2.1 d.1.2.2.2.2.2.2.2.2.2.2.1 d.2.1) args h k else T59_103 f args h k
def S35_9 {R : Type} (e0 : Bool → (List Fix) → Option R) (e1 : (List Fix) → Option R) (y1 : Int) (y3 : List Task) (y4 : List Ape) (y5 : List Aim) (y6 y7 : Int) (y8 : Bool) (y9 y10 y11 y12 y13 : Int) (y14 : Bool) (y15 y16 y17 : Int) (rec : Int → (List Fix) → Option R) (y2 : Int) (y18 : List Fix) : Option R :=
 bif decide (y2 < y1) then
  bif (decide (0 ≤ y2) && decide (y2 < (y5.length : Int))) then (match y5[(Int.toNat y2)]? with
   | some x19 => bif Nat.ble ((y18 ++ ([(Fix.mk x19.S x19.P)])).length) 100000 then bif decide (y2 = (y3.length : Int)) then
      bif (!(decide (x19.ID = y17))) then
       e0 false (y18 ++ ([(Fix.mk x19.S x19.P)]))
      else bif decide (y12 ≤ y17) then
       e0 false (y18 ++ ([(Fix.mk x19.S x19.P)]))
      else bif decide (0 < y2) then
       bif (decide (0 ≤ (wI (y2 - 1))) && decide ((wI (y2 - 1)) < (y3.length : Int))) then (match y3[(Int.toNat (wI (y2 - 1)))]? with
        | some x20 => bif decide (x19.ID ≤ x20.ID) then
          e0 false (y18 ++ ([(Fix.mk x19.S x19.P)]))
         else bif decide (x19.ID < 0) then
          e0 false (y18 ++ ([(Fix.mk x19.S x19.P)]))
         else rec (wI (y2 + 1)) (y18 ++ ([(Fix.mk x19.S x19.P)]))
        | none => none)
       else none
      else bif decide (x19.ID < 0) then
       e0 false (y18 ++ ([(Fix.mk x19.S x19.P)]))
      else rec (wI (y2 + 1)) (y18 ++ ([(Fix.mk x19.S x19.P)]))
     else bif (decide (0 ≤ y2) && decide (y2 < (y3.length : Int))) then (match y3[(Int.toNat y2)]? with
      | some x21 => bif (!(decide (x19.ID = x21.ID))) then
        bif (!(decide (x19.ID = x21.ID))) then
         e0 false (y18 ++ ([(Fix.mk x19.S x19.P)]))
        else rec (wI (y2 + 1)) (y18 ++ ([(Fix.mk x19.S x19.P)]))
       else bif (decide (0 ≤ y2) && decide (y2 < (y3.length : Int))) then (match y3[(Int.toNat y2)]? with
        | some x22 => bif (!(decide (x19.S.C = x22.S.C))) then
          bif (!(decide (x19.S.C = x22.S.C))) then
           e0 false (y18 ++ ([(Fix.mk x19.S x19.P)]))
          else rec (wI (y2 + 1)) (y18 ++ ([(Fix.mk x19.S x19.P)]))
         else bif (decide (0 ≤ y2) && decide (y2 < (y3.length : Int))) then (match y3[(Int.toNat y2)]? with
          | some x23 => bif (!(decide (x19.S.M = x23.S.M))) then
            bif (!(decide (x19.S.M = x23.S.M))) then
             e0 false (y18 ++ ([(Fix.mk x19.S x19.P)]))
            else rec (wI (y2 + 1)) (y18 ++ ([(Fix.mk x19.S x19.P)]))
           else bif (decide (0 ≤ y2) && decide (y2 < (y3.length : Int))) then (match y3[(Int.toNat y2)]? with
            | some x24 => bif (!(decide (x19.S.K = x24.S.K))) then
              e0 false (y18 ++ ([(Fix.mk x19.S x19.P)]))
             else rec (wI (y2 + 1)) (y18 ++ ([(Fix.mk x19.S x19.P)]))
            | none => none)
           else none
          | none => none)
         else none
        | none => none)
       else none
      | none => none)
     else none
    else none
   | none => none)
  else none
 else e1 y18
def L35_9 {R : Type} (e0 : Bool → (List Fix) → Option R) (e1 : (List Fix) → Option R) (y1 : Int) (y3 : List Task) (y4 : List Ape) (y5 : List Aim) (y6 y7 : Int) (y8 : Bool) (y9 y10 y11 y12 y13 : Int) (y14 : Bool) (y15 y16 y17 : Int) : Nat → Int → (List Fix) → Option R
 | 0 => fun _ _ => none
 | n + 1 => S35_9  e0 e1 y1 y3 y4 y5 y6 y7 y8 y9 y10 y11 y12 y13 y14 y15 y16 y17 (L35_9  e0 e1 y1 y3 y4 y5 y6 y7 y8 y9 y10 y11 y12 y13 y14 y15 y16 y17 n)
def ps35_9 : PSt := { live := [1, 3, 4, 6, 31, 32, 33], nt := 125, env := [.ptr 3 0 0, .ptr 4 0 0, .whole 0, .whole 5, .whole 2, .i, .i], heap := [.typ false true false 0 .task, .typ false true false 0 .ape, .typ false true false 0 .aim, .gen true false false 0 11 [[.i, .whole 0, .whole 1, .i, .b, .i, .i, .i, .whole 2, .i, .i]], .gen true false false 0 5 [[.b, .i, .i, .i, .whole 2]], .typ true true false 112 .fix] }
abbrev st35_9 (y1 y2 : Int) (y3 : List Task) (y4 : List Ape) (y5 : List Aim) (y6 y7 : Int) (y8 : Bool) (y9 y10 y11 y12 y13 : Int) (y14 : Bool) (y15 y16 y17 : Int) (y18 : List Fix) : St := ⟨[dd, .ptr 3 0 0, dd, .ptr 4 0 0, .whole 0, dd, .whole 5, dd, dd, dd, dd, dd, dd, dd, dd, dd, dd, dd, dd, dd, dd, dd, dd, dd, dd, dd, dd, dd, dd, dd, dd, .whole 2, I y1, I y2, dd, dd, dd, dd, dd, dd, dd, dd, dd, dd, dd, dd, dd, dd, dd, dd, dd, dd, dd, dd, dd, dd, dd, dd, dd, dd, dd, dd, dd, dd, dd, dd, dd, dd, dd, dd, dd, dd, dd, dd, dd, dd, dd, dd, dd, dd, dd, dd, dd, dd, dd, dd, dd, dd, dd, dd, dd, dd, dd, dd, dd, dd, dd, dd, dd, dd, dd, dd, dd, dd, dd, dd, dd, dd, dd, dd, dd, dd, dd, dd, dd, dd, dd, dd, dd, dd, dd, dd, dd, dd, dd], [some ⟨false, true, false, 0, .typ .task y3⟩, some ⟨false, true, false, 0, .typ .ape y4⟩, some ⟨false, true, false, 0, .typ .aim y5⟩, some ⟨true, false, false, 0, .gen 11 [[I y6, .whole 0, .whole 1, I y7, .bool y8, I y9, I y10, I y11, .whole 2, I y12, I y13]]⟩, some ⟨true, false, false, 0, .gen 5 [[.bool y14, I y15, I y16, I y17, .whole 2]]⟩, some ⟨true, true, false, 112, .typ .fix y18⟩]⟩
abbrev sx35_9_0 (z0 : Bool) (z1 : List Task) (z2 : List Ape) (z3 : List Aim) (z4 z5 : Int) (z6 : Bool) (z7 z8 z9 z10 z11 : Int) (z12 : Bool) (z13 z14 z15 : Int) (z16 : List Fix) : St := ⟨[dd, dd, .bool z0, dd, dd, dd, .whole 5, dd, dd, dd, dd, dd, dd, dd, dd, dd, dd, dd, dd, dd, dd, dd, dd, dd, dd, dd, dd, dd, dd, dd, dd, dd, dd, dd, dd, dd, dd, dd, dd, dd, dd, dd, dd, dd, dd, dd, dd, dd, dd, dd, dd, dd, dd, dd, dd, dd, dd, dd, dd, dd, dd, dd, dd, dd, dd, dd, dd, dd, dd, dd, dd, dd, dd, dd, dd, dd, dd, dd, dd, dd, dd, dd, dd, dd, dd, dd, dd, dd, dd, dd, dd, dd, dd, dd, dd, dd, dd, dd, dd, dd, dd, dd, dd, dd, dd, dd, dd, dd, dd, dd, dd, dd, dd, dd, dd, dd, dd, dd, dd, dd, dd, dd, dd, dd, dd], [some ⟨false, true, false, 0, .typ .task z1⟩, some ⟨false, true, false, 0, .typ .ape z2⟩, some ⟨false, true, false, 0, .typ .aim z3⟩, some ⟨true, false, false, 0, .gen 11 [[I z4, .whole 0, .whole 1, I z5, .bool z6, I z7, I z8, I z9, .whole 2, I z10, I z11]]⟩, some ⟨true, false, false, 0, .gen 5 [[.bool z12, I z13, I z14, I z15, .whole 2]]⟩, some ⟨true, true, false, 112, .typ .fix z16⟩]⟩
abbrev sx35_9_1 (z0 : List Task) (z1 : List Ape) (z2 : List Aim) (z3 z4 : Int) (z5 : Bool) (z6 z7 z8 z9 z10 : Int) (z11 : Bool) (z12 z13 z14 : Int) (z15 : List Fix) : St := ⟨[dd, dd, dd, dd, dd, dd, .whole 5, dd, dd, dd, dd, dd, dd, dd, dd, dd, dd, dd, dd, dd, dd, dd, dd, dd, dd, dd, dd, dd, dd, dd, dd, dd, dd, dd, dd, dd, dd, dd, dd, dd, dd, dd, dd, dd, dd, dd, dd, dd, dd, dd, dd, dd, dd, dd, dd, dd, dd, dd, dd, dd, dd, dd, dd, dd, dd, dd, dd, dd, dd, dd, dd, dd, dd, dd, dd, dd, dd, dd, dd, dd, dd, dd, dd, dd, dd, dd, dd, dd, dd, dd, dd, dd, dd, dd, dd, dd, dd, dd, dd, dd, dd, dd, dd, dd, dd, dd, dd, dd, dd, dd, dd, dd, dd, dd, dd, dd, dd, dd, dd, dd, dd, dd, dd, dd, dd], [some ⟨false, true, false, 0, .typ .task z0⟩, some ⟨false, true, false, 0, .typ .ape z1⟩, some ⟨false, true, false, 0, .typ .aim z2⟩, some ⟨true, false, false, 0, .gen 11 [[I z3, .whole 0, .whole 1, I z4, .bool z5, I z6, I z7, I z8, .whole 2, I z9, I z10]]⟩, some ⟨true, false, false, 0, .gen 5 [[.bool z11, I z12, I z13, I z14, .whole 2]]⟩, some ⟨true, true, false, 112, .typ .fix z15⟩]⟩
theorem ly35_9 (y1 y2 : Int) (y3 : List Task) (y4 : List Ape) (y5 : List Aim) (y6 y7 : Int) (y8 : Bool) (y9 y10 y11 y12 y13 : Int) (y14 : Bool) (y15 y16 y17 : Int) (y18 : List Fix) : layS ps35_9 (y1, y2, y3, y4, y5, y6, y7, y8, y9, y10, y11, y12, y13, y14, y15, y16, y17, y18, ()) = st35_9 y1 y2 y3 y4 y5 y6 y7 y8 y9 y10 y11 y12 y13 y14 y15 y16 y17 y18 := by kernel_rfl
abbrev E35_9_0 {R : Type} (k : Ex → St → Option R) (y3 : List Task) (y4 : List Ape) (y5 : List Aim) (y6 y7 : Int) (y8 : Bool) (y9 y10 y11 y12 y13 : Int) (y14 : Bool) (y15 y16 y17 : Int) (z0 : Bool) (z16 : List Fix) : Option R := k .ret (sx35_9_0 z0 y3 y4 y5 y6 y7 y8 y9 y10 y11 y12 y13 y14 y15 y16 y17 z16)
abbrev E35_9_1 {R : Type} (k : Ex → St → Option R) (y3 : List Task) (y4 : List Ape) (y5 : List Aim) (y6 y7 : Int) (y8 : Bool) (y9 y10 y11 y12 y13 : Int) (y14 : Bool) (y15 y16 y17 : Int) (z15 : List Fix) : Option R := k (.exit 0) (sx35_9_1 y3 y4 y5 y6 y7 y8 y9 y10 y11 y12 y13 y14 y15 y16 y17 z15)
noncomputable abbrev J35_9 {R : Type} (n : Nat) (y1 : Int) (y3 : List Task) (y4 : List Ape) (y5 : List Aim) (y6 y7 : Int) (y8 : Bool) (y9 y10 y11 y12 y13 : Int) (y14 : Bool) (y15 y16 y17 y2 : Int) (y18 : List Fix) (k : Ex → St → Option R) : Option R :=
 iter (ev P KK T68 LOrc.none 300 35 (loopOf P 35 9)) (headL P KK (KK.ann 35 9) 5) (gcL (KK.ann 35 9).out 5) n (st35_9 y1 y2 y3 y4 y5 y6 y7 y8 y9 y10 y11 y12 y13 y14 y15 y16 y17 y18) k
theorem k35_9 {R : Type} (n : Nat) (y1 : Int) (y3 : List Task) (y4 : List Ape) (y5 : List Aim) (y6 y7 : Int) (y8 : Bool) (y9 y10 y11 y12 y13 : Int) (y14 : Bool) (y15 y16 y17 y2 : Int) (y18 : List Fix) (k : Ex → St → Option R) : J35_9  (n + 1) y1 y3 y4 y5 y6 y7 y8 y9 y10 y11 y12 y13 y14 y15 y16 y17 y2 y18 k = S35_9  (E35_9_0 k y3 y4 y5 y6 y7 y8 y9 y10 y11 y12 y13 y14 y15 y16 y17) (E35_9_1 k y3 y4 y5 y6 y7 y8 y9 y10 y11 y12 y13 y14 y15 y16 y17) y1 y3 y4 y5 y6 y7 y8 y9 y10 y11 y12 y13 y14 y15 y16 y17 (fun y2 y18 => J35_9  n y1 y3 y4 y5 y6 y7 y8 y9 y10 y11 y12 y13 y14 y15 y16 y17 y2 y18 k) y2 y18 := by kernel_rfl
theorem it35_9 {R : Type} (y1 : Int) (y3 : List Task) (y4 : List Ape) (y5 : List Aim) (y6 y7 : Int) (y8 : Bool) (y9 y10 y11 y12 y13 : Int) (y14 : Bool) (y15 y16 y17 : Int) (k : Ex → St → Option R) : ∀ (n : Nat) (y2 : Int) (y18 : List Fix), J35_9  n y1 y3 y4 y5 y6 y7 y8 y9 y10 y11 y12 y13 y14 y15 y16 y17 y2 y18 k = L35_9  (E35_9_0 k y3 y4 y5 y6 y7 y8 y9 y10 y11 y12 y13 y14 y15 y16 y17) (E35_9_1 k y3 y4 y5 y6 y7 y8 y9 y10 y11 y12 y13 y14 y15 y16 y17) y1 y3 y4 y5 y6 y7 y8 y9 y10 y11 y12 y13 y14 y15 y16 y17 n y2 y18 := by
 intro n
 induction n with
 | zero => intros; rfl
 | succ n ih =>
  intro y2 y18
  rw [k35_9, show (fun y2 y18 => J35_9  n y1 y3 y4 y5 y6 y7 y8 y9 y10 y11 y12 y13 y14 y15 y16 y17 y2 y18 k) = L35_9  (E35_9_0 k y3 y4 y5 y6 y7 y8 y9 y10 y11 y12 y13 y14 y15 y16 y17) (E35_9_1 k y3 y4 y5 y6 y7 y8 y9 y10 y11 y12 y13 y14 y15 y16 y17) y1 y3 y4 y5 y6 y7 y8 y9 y10 y11 y12 y13 y14 y15 y16 y17 n from by funext y2 y18; exact ih y2 y18]
  rfl
def lb35_9 {R : Type} (lf : Nat) (d : ps35_9.D) (k : Ex → St → Option R) : Option R := match d with
 | (y1, y2, y3, y4, y5, y6, y7, y8, y9, y10, y11, y12, y13, y14, y15, y16, y17, y18, ()) => L35_9  (E35_9_0 k y3 y4 y5 y6 y7 y8 y9 y10 y11 y12 y13 y14 y15 y16 y17) (E35_9_1 k y3 y4 y5 y6 y7 y8 y9 y10 y11 y12 y13 y14 y15 y16 y17) y1 y3 y4 y5 y6 y7 y8 y9 y10 y11 y12 y13 y14 y15 y16 y17 lf y2 y18
def lt35_9 {R : Type} (lf : Nat) : LOrc R := fun f id n0 st k => bif Nat.beq f 35 && (Nat.beq id 9 && Nat.beq n0 5) then readS ps35_9 st fun d => lb35_9 lf d k else LOrc.none f id n0 st k
def F35 (lf : Nat) (s_W_Now : Int) (s_W_T : List Task) (s_W_A : List Ape) (s_W_Cur : Int) (s_R_On : Bool) (s_R_Since s_R_By s_R_New : Int) (s_R_L : List Aim) (s_NextID s_NextAp : Int) : Option (Bool) :=
 bif (!(decide (s_R_New = (-1)))) then
  bif (!(decide ((s_R_L.length : Int) = (wI ((s_W_T.length : Int) + 1))))) then
   some false
  else bif decide (4 < (wI ((s_W_T.length : Int) + 1))) then
   some false
  else L35_9 (fun z25 z26 => some z25) (fun z27 => (match (F58 fuel z27) with
    | some r28 => some r28
    | none => none)) (s_R_L.length : Int) s_W_T s_W_A s_R_L s_W_Now s_W_Cur s_R_On s_R_Since s_R_By s_R_New s_NextID s_NextAp s_R_On s_R_Since s_R_By s_R_New lf 0 ([])
 else bif (!(decide ((s_R_L.length : Int) = (s_W_T.length : Int)))) then
  some false
 else bif decide (4 < (s_W_T.length : Int)) then
  some false
 else L35_9 (fun z29 z30 => some z29) (fun z31 => (match (F58 fuel z31) with
   | some r32 => some r32
   | none => none)) (s_R_L.length : Int) s_W_T s_W_A s_R_L s_W_Now s_W_Cur s_R_On s_R_Since s_R_By s_R_New s_NextID s_NextAp s_R_On s_R_Since s_R_By s_R_New lf 0 ([])
theorem ev35 (lf : Nat) (s_W_Now : Int) (s_W_T : List Task) (s_W_A : List Ape) (s_W_Cur : Int) (s_R_On : Bool) (s_R_Since s_R_By s_R_New : Int) (s_R_L : List Aim) (s_NextID s_NextAp : Int) : evC (R' := [.cell .b]) P KK T68 (lt35_9 lf) 35 [.agg [.i, .sl .task, .sl .ape, .i, .b, .i, .i, .i, .sl .aim, .i, .i]] ((s_W_Now, s_W_T, s_W_A, s_W_Cur, s_R_On, s_R_Since, s_R_By, s_R_New, s_R_L, s_NextID, s_NextAp, ()), ()) = F35 lf s_W_Now s_W_T s_W_A s_W_Cur s_R_On s_R_Since s_R_By s_R_New s_R_L s_NextID s_NextAp := by kernel_rfl
def g35 : Sig := ⟨[.agg [.i, .sl .task, .sl .ape, .i, .b, .i, .i, .i, .sl .aim, .i, .i]], [.cell .b]⟩
def T35 {R : Type} : Orc R := fun f args h k => bif Nat.beq f 35 then contract g35 (fun d => F35 fuel d.1.1 d.1.2.1 d.1.2.2.1 d.1.2.2.2.1 d.1.2.2.2.2.1 d.1.2.2.2.2.2.1 d.1.2.2.2.2.2.2.1 d.1.2.2.2.2.2.2.2.1 d.1.2.2.2.2.2.2.2.2.1 d.1.2.2.2.2.2.2.2.2.2.1 d.1.2.2.2.2.2.2.2.2.2.2.1) args h k else T68 f args h k
def S59_32_2 {R : Type} (e0 : Int → Option R) (e1 : Option R) (y1 : Int) (y3 y4 : List Task) (y5 : List Ape) (y6 : List Aim) (y7 y8 : Int) (y9 : Bool) (y10 y11 y12 y13 y14 : Int) (rec : Int → Option R) (y2 : Int) : Option R :=
 bif decide (y2 < y1) then
  bif (decide (0 ≤ y2) && decide (y2 < (y3.length : Int))) then (match y3[(Int.toNat y2)]? with
   | some x15 => bif decide (y13 ≤ x15.ID) then
     e0 y2
    else rec (wI (y2 + 1))
   | none => none)
  else none
 else e1
def L59_32_2 {R : Type} (e0 : Int → Option R) (e1 : Option R) (y1 : Int) (y3 y4 : List Task) (y5 : List Ape) (y6 : List Aim) (y7 y8 : Int) (y9 : Bool) (y10 y11 y12 y13 y14 : Int) : Nat → Int → Option R
 | 0 => fun _ => none
 | n + 1 => S59_32_2  e0 e1 y1 y3 y4 y5 y6 y7 y8 y9 y10 y11 y12 y13 y14 (L59_32_2  e0 e1 y1 y3 y4 y5 y6 y7 y8 y9 y10 y11 y12 y13 y14 n)
def ps59_32_2 : PSt := { live := [0, 1, 7, 8], nt := 19, env := [.whole 0, .fn 32 [4], .i, .i], heap := [.typ false true false 0 .task, .typ false true false 0 .task, .typ false true false 0 .ape, .typ false true false 0 .aim, .gen false false false 0 11 [[.i, .whole 1, .whole 2, .i, .b, .i, .i, .i, .whole 3, .i, .i]]] }
abbrev st59_32_2 (y1 y2 : Int) (y3 y4 : List Task) (y5 : List Ape) (y6 : List Aim) (y7 y8 : Int) (y9 : Bool) (y10 y11 y12 y13 y14 : Int) : St := ⟨[.whole 0, .fn (.func 32) [] [.ptr 4 0 0], dd, dd, dd, dd, dd, I y1, I y2, dd, dd, dd, dd, dd, dd, dd, dd, dd, dd], [some ⟨false, true, false, 0, .typ .task y3⟩, some ⟨false, true, false, 0, .typ .task y4⟩, some ⟨false, true, false, 0, .typ .ape y5⟩, some ⟨false, true, false, 0, .typ .aim y6⟩, some ⟨false, false, false, 0, .gen 11 [[I y7, .whole 1, .whole 2, I y8, .bool y9, I y10, I y11, I y12, .whole 3, I y13, I y14]]⟩]⟩
abbrev sx59_32_2_0 (z0 : Int) (z1 z2 : List Task) (z3 : List Ape) (z4 : List Aim) (z5 z6 : Int) (z7 : Bool) (z8 z9 z10 z11 z12 : Int) : St := ⟨[dd, dd, dd, dd, I z0, dd, dd, dd, dd, dd, dd, dd, dd, dd, dd, dd, dd, dd, dd], [some ⟨false, true, false, 0, .typ .task z1⟩, some ⟨false, true, false, 0, .typ .task z2⟩, some ⟨false, true, false, 0, .typ .ape z3⟩, some ⟨false, true, false, 0, .typ .aim z4⟩, some ⟨false, false, false, 0, .gen 11 [[I z5, .whole 1, .whole 2, I z6, .bool z7, I z8, I z9, I z10, .whole 3, I z11, I z12]]⟩]⟩
abbrev sx59_32_2_1 (z0 z1 : List Task) (z2 : List Ape) (z3 : List Aim) (z4 z5 : Int) (z6 : Bool) (z7 z8 z9 z10 z11 : Int) : St := ⟨[dd, dd, dd, dd, dd, dd, dd, dd, dd, dd, dd, dd, dd, dd, dd, dd, dd, dd, dd], [some ⟨false, true, false, 0, .typ .task z0⟩, some ⟨false, true, false, 0, .typ .task z1⟩, some ⟨false, true, false, 0, .typ .ape z2⟩, some ⟨false, true, false, 0, .typ .aim z3⟩, some ⟨false, false, false, 0, .gen 11 [[I z4, .whole 1, .whole 2, I z5, .bool z6, I z7, I z8, I z9, .whole 3, I z10, I z11]]⟩]⟩
theorem ly59_32_2 (y1 y2 : Int) (y3 y4 : List Task) (y5 : List Ape) (y6 : List Aim) (y7 y8 : Int) (y9 : Bool) (y10 y11 y12 y13 y14 : Int) : layS ps59_32_2 (y1, y2, y3, y4, y5, y6, y7, y8, y9, y10, y11, y12, y13, y14, ()) = st59_32_2 y1 y2 y3 y4 y5 y6 y7 y8 y9 y10 y11 y12 y13 y14 := by kernel_rfl
abbrev E59_32_2_0 {R : Type} (k : Ex → St → Option R) (y3 y4 : List Task) (y5 : List Ape) (y6 : List Aim) (y7 y8 : Int) (y9 : Bool) (y10 y11 y12 y13 y14 z0 : Int) : Option R := k .ret (sx59_32_2_0 z0 y3 y4 y5 y6 y7 y8 y9 y10 y11 y12 y13 y14)
abbrev E59_32_2_1 {R : Type} (k : Ex → St → Option R) (y3 y4 : List Task) (y5 : List Ape) (y6 : List Aim) (y7 y8 : Int) (y9 : Bool) (y10 y11 y12 y13 y14 : Int) : Option R := k (.exit 0) (sx59_32_2_1 y3 y4 y5 y6 y7 y8 y9 y10 y11 y12 y13 y14)
noncomputable abbrev J59_32_2 {R : Type} (n : Nat) (y1 : Int) (y3 y4 : List Task) (y5 : List Ape) (y6 : List Aim) (y7 y8 : Int) (y9 : Bool) (y10 y11 y12 y13 y14 y2 : Int) (k : Ex → St → Option R) : Option R :=
 iter (ev P KK T35 LOrc.none 300 59 (loopOf P 59 2)) (headL P KK (KK.ann 59 2) 5) (gcL (KK.ann 59 2).out 5) n (st59_32_2 y1 y2 y3 y4 y5 y6 y7 y8 y9 y10 y11 y12 y13 y14) k
theorem k59_32_2 {R : Type} (n : Nat) (y1 : Int) (y3 y4 : List Task) (y5 : List Ape) (y6 : List Aim) (y7 y8 : Int) (y9 : Bool) (y10 y11 y12 y13 y14 y2 : Int) (k : Ex → St → Option R) : J59_32_2  (n + 1) y1 y3 y4 y5 y6 y7 y8 y9 y10 y11 y12 y13 y14 y2 k = S59_32_2  (E59_32_2_0 k y3 y4 y5 y6 y7 y8 y9 y10 y11 y12 y13 y14) (E59_32_2_1 k y3 y4 y5 y6 y7 y8 y9 y10 y11 y12 y13 y14) y1 y3 y4 y5 y6 y7 y8 y9 y10 y11 y12 y13 y14 (fun y2 => J59_32_2  n y1 y3 y4 y5 y6 y7 y8 y9 y10 y11 y12 y13 y14 y2 k) y2 := by kernel_rfl
theorem it59_32_2 {R : Type} (y1 : Int) (y3 y4 : List Task) (y5 : List Ape) (y6 : List Aim) (y7 y8 : Int) (y9 : Bool) (y10 y11 y12 y13 y14 : Int) (k : Ex → St → Option R) : ∀ (n : Nat) (y2 : Int), J59_32_2  n y1 y3 y4 y5 y6 y7 y8 y9 y10 y11 y12 y13 y14 y2 k = L59_32_2  (E59_32_2_0 k y3 y4 y5 y6 y7 y8 y9 y10 y11 y12 y13 y14) (E59_32_2_1 k y3 y4 y5 y6 y7 y8 y9 y10 y11 y12 y13 y14) y1 y3 y4 y5 y6 y7 y8 y9 y10 y11 y12 y13 y14 n y2 := by
 intro n
 induction n with
 | zero => intros; rfl
 | succ n ih =>
  intro y2
  rw [k59_32_2, show (fun y2 => J59_32_2  n y1 y3 y4 y5 y6 y7 y8 y9 y10 y11 y12 y13 y14 y2 k) = L59_32_2  (E59_32_2_0 k y3 y4 y5 y6 y7 y8 y9 y10 y11 y12 y13 y14) (E59_32_2_1 k y3 y4 y5 y6 y7 y8 y9 y10 y11 y12 y13 y14) y1 y3 y4 y5 y6 y7 y8 y9 y10 y11 y12 y13 y14 n from by funext y2; exact ih y2]
  rfl
def lb59_32_2 {R : Type} (lf : Nat) (d : ps59_32_2.D) (k : Ex → St → Option R) : Option R := match d with
 | (y1, y2, y3, y4, y5, y6, y7, y8, y9, y10, y11, y12, y13, y14, ()) => L59_32_2  (E59_32_2_0 k y3 y4 y5 y6 y7 y8 y9 y10 y11 y12 y13 y14) (E59_32_2_1 k y3 y4 y5 y6 y7 y8 y9 y10 y11 y12 y13 y14) y1 y3 y4 y5 y6 y7 y8 y9 y10 y11 y12 y13 y14 lf y2
def lt59_32_2 {R : Type} (lf : Nat) : LOrc R := fun f id n0 st k => bif Nat.beq f 59 && (Nat.beq id 2 && Nat.beq n0 5) then readS ps59_32_2 st fun d => lb59_32_2 lf d k else LOrc.none f id n0 st k
def F59_32 (lf : Nat) (s : List Task) (c1_0_0 : Int) (c1_0_1 : List Task) (c1_0_2 : List Ape) (c1_0_3 : Int) (c1_0_4 : Bool) (c1_0_5 c1_0_6 c1_0_7 : Int) (c1_0_8 : List Aim) (c1_0_9 c1_0_10 : Int) : Option (Int) :=
 L59_32_2 (fun z16 => some z16) (some (-1)) (s.length : Int) s c1_0_1 c1_0_2 c1_0_8 c1_0_0 c1_0_3 c1_0_4 c1_0_5 c1_0_6 c1_0_7 c1_0_9 c1_0_10 lf 0
theorem ev59_32 (lf : Nat) (s : List Task) (c1_0_0 : Int) (c1_0_1 : List Task) (c1_0_2 : List Ape) (c1_0_3 : Int) (c1_0_4 : Bool) (c1_0_5 c1_0_6 c1_0_7 : Int) (c1_0_8 : List Aim) (c1_0_9 c1_0_10 : Int) : evC (R' := [.cell .i]) P KK T35 (lt59_32_2 lf) 59 [.cell (.sl .task), .clo 32 [[.i, .sl .task, .sl .ape, .i, .b, .i, .i, .i, .sl .aim, .i, .i]]] (s, ((c1_0_0, c1_0_1, c1_0_2, c1_0_3, c1_0_4, c1_0_5, c1_0_6, c1_0_7, c1_0_8, c1_0_9, c1_0_10, ()), ()), ()) = F59_32 lf s c1_0_0 c1_0_1 c1_0_2 c1_0_3 c1_0_4 c1_0_5 c1_0_6 c1_0_7 c1_0_8 c1_0_9 c1_0_10 := by kernel_rfl
def g59_32 : Sig := ⟨[.cell (.sl .task), .clo 32 [[.i, .sl .task, .sl .ape, .i, .b, .i, .i, .i, .sl .aim, .i, .i]]], [.cell .i]⟩
def T59_32 {R : Type} : Orc R := fun f args h k => bif Nat.beq f 59 && cloIs 1 32 args then contract g59_32 (fun d => F59_32 fuel d.1 d.2.1.1.1 d.2.1.1.2.1 d.2.1.1.2.2.1 d.2.1.1.2.2.2.1 d.2.1.1.2.2.2.2.1 d.2.1.1.2.2.2.2.2.1 d.2.1.1.2.2.2.2.2.2.1 d.2.1.1.2.2.2.2.2.2.2.1 d.2.1.1.2.2.2.2.2.2.2.2.1 d.2.1.1.2.2.2.2.2.2.2.2.2.1 d.2.1.1.2.2.2.2.2.2.2.2.2.2.1) args h k else T35 f args h k
def S60_34_2 {R : Type} (e0 : Int → Option R) (e1 : Option R) (y1 : Int) (y3 : List Ape) (y4 : List Task) (y5 : List Ape) (y6 : List Aim) (y7 y8 : Int) (y9 : Bool) (y10 y11 y12 y13 y14 : Int) (rec : Int → Option R) (y2 : Int) : Option R :=
 bif decide (y2 < y1) then
  bif (decide (0 ≤ y2) && decide (y2 < (y3.length : Int))) then (match y3[(Int.toNat y2)]? with
   | some x15 => bif decide (y14 ≤ x15.ID) then
     e0 y2
    else rec (wI (y2 + 1))
   | none => none)
  else none
 else e1
def L60_34_2 {R : Type} (e0 : Int → Option R) (e1 : Option R) (y1 : Int) (y3 : List Ape) (y4 : List Task) (y5 : List Ape) (y6 : List Aim) (y7 y8 : Int) (y9 : Bool) (y10 y11 y12 y13 y14 : Int) : Nat → Int → Option R
 | 0 => fun _ => none
 | n + 1 => S60_34_2  e0 e1 y1 y3 y4 y5 y6 y7 y8 y9 y10 y11 y12 y13 y14 (L60_34_2  e0 e1 y1 y3 y4 y5 y6 y7 y8 y9 y10 y11 y12 y13 y14 n)
def ps60_34_2 : PSt := { live := [0, 1, 7, 8], nt := 19, env := [.whole 0, .fn 34 [4], .i, .i], heap := [.typ false true false 0 .ape, .typ false true false 0 .task, .typ false true false 0 .ape, .typ false true false 0 .aim, .gen false false false 0 11 [[.i, .whole 1, .whole 2, .i, .b, .i, .i, .i, .whole 3, .i, .i]]] }
abbrev st60_34_2 (y1 y2 : Int) (y3 : List Ape) (y4 : List Task) (y5 : List Ape) (y6 : List Aim) (y7 y8 : Int) (y9 : Bool) (y10 y11 y12 y13 y14 : Int) : St := ⟨[.whole 0, .fn (.func 34) [] [.ptr 4 0 0], dd, dd, dd, dd, dd, I y1, I y2, dd, dd, dd, dd, dd, dd, dd, dd, dd, dd], [some ⟨false, true, false, 0, .typ .ape y3⟩, some ⟨false, true, false, 0, .typ .task y4⟩, some ⟨false, true, false, 0, .typ .ape y5⟩, some ⟨false, true, false, 0, .typ .aim y6⟩, some ⟨false, false, false, 0, .gen 11 [[I y7, .whole 1, .whole 2, I y8, .bool y9, I y10, I y11, I y12, .whole 3, I y13, I y14]]⟩]⟩
abbrev sx60_34_2_0 (z0 : Int) (z1 : List Ape) (z2 : List Task) (z3 : List Ape) (z4 : List Aim) (z5 z6 : Int) (z7 : Bool) (z8 z9 z10 z11 z12 : Int) : St := ⟨[dd, dd, dd, dd, I z0, dd, dd, dd, dd, dd, dd, dd, dd, dd, dd, dd, dd, dd, dd], [some ⟨false, true, false, 0, .typ .ape z1⟩, some ⟨false, true, false, 0, .typ .task z2⟩, some ⟨false, true, false, 0, .typ .ape z3⟩, some ⟨false, true, false, 0, .typ .aim z4⟩, some ⟨false, false, false, 0, .gen 11 [[I z5, .whole 1, .whole 2, I z6, .bool z7, I z8, I z9, I z10, .whole 3, I z11, I z12]]⟩]⟩
abbrev sx60_34_2_1 (z0 : List Ape) (z1 : List Task) (z2 : List Ape) (z3 : List Aim) (z4 z5 : Int) (z6 : Bool) (z7 z8 z9 z10 z11 : Int) : St := ⟨[dd, dd, dd, dd, dd, dd, dd, dd, dd, dd, dd, dd, dd, dd, dd, dd, dd, dd, dd], [some ⟨false, true, false, 0, .typ .ape z0⟩, some ⟨false, true, false, 0, .typ .task z1⟩, some ⟨false, true, false, 0, .typ .ape z2⟩, some ⟨false, true, false, 0, .typ .aim z3⟩, some ⟨false, false, false, 0, .gen 11 [[I z4, .whole 1, .whole 2, I z5, .bool z6, I z7, I z8, I z9, .whole 3, I z10, I z11]]⟩]⟩
theorem ly60_34_2 (y1 y2 : Int) (y3 : List Ape) (y4 : List Task) (y5 : List Ape) (y6 : List Aim) (y7 y8 : Int) (y9 : Bool) (y10 y11 y12 y13 y14 : Int) : layS ps60_34_2 (y1, y2, y3, y4, y5, y6, y7, y8, y9, y10, y11, y12, y13, y14, ()) = st60_34_2 y1 y2 y3 y4 y5 y6 y7 y8 y9 y10 y11 y12 y13 y14 := by kernel_rfl
abbrev E60_34_2_0 {R : Type} (k : Ex → St → Option R) (y3 : List Ape) (y4 : List Task) (y5 : List Ape) (y6 : List Aim) (y7 y8 : Int) (y9 : Bool) (y10 y11 y12 y13 y14 z0 : Int) : Option R := k .ret (sx60_34_2_0 z0 y3 y4 y5 y6 y7 y8 y9 y10 y11 y12 y13 y14)
abbrev E60_34_2_1 {R : Type} (k : Ex → St → Option R) (y3 : List Ape) (y4 : List Task) (y5 : List Ape) (y6 : List Aim) (y7 y8 : Int) (y9 : Bool) (y10 y11 y12 y13 y14 : Int) : Option R := k (.exit 0) (sx60_34_2_1 y3 y4 y5 y6 y7 y8 y9 y10 y11 y12 y13 y14)
noncomputable abbrev J60_34_2 {R : Type} (n : Nat) (y1 : Int) (y3 : List Ape) (y4 : List Task) (y5 : List Ape) (y6 : List Aim) (y7 y8 : Int) (y9 : Bool) (y10 y11 y12 y13 y14 y2 : Int) (k : Ex → St → Option R) : Option R :=
 iter (ev P KK T59_32 LOrc.none 300 60 (loopOf P 60 2)) (headL P KK (KK.ann 60 2) 5) (gcL (KK.ann 60 2).out 5) n (st60_34_2 y1 y2 y3 y4 y5 y6 y7 y8 y9 y10 y11 y12 y13 y14) k
theorem k60_34_2 {R : Type} (n : Nat) (y1 : Int) (y3 : List Ape) (y4 : List Task) (y5 : List Ape) (y6 : List Aim) (y7 y8 : Int) (y9 : Bool) (y10 y11 y12 y13 y14 y2 : Int) (k : Ex → St → Option R) : J60_34_2  (n + 1) y1 y3 y4 y5 y6 y7 y8 y9 y10 y11 y12 y13 y14 y2 k = S60_34_2  (E60_34_2_0 k y3 y4 y5 y6 y7 y8 y9 y10 y11 y12 y13 y14) (E60_34_2_1 k y3 y4 y5 y6 y7 y8 y9 y10 y11 y12 y13 y14) y1 y3 y4 y5 y6 y7 y8 y9 y10 y11 y12 y13 y14 (fun y2 => J60_34_2  n y1 y3 y4 y5 y6 y7 y8 y9 y10 y11 y12 y13 y14 y2 k) y2 := by kernel_rfl
theorem it60_34_2 {R : Type} (y1 : Int) (y3 : List Ape) (y4 : List Task) (y5 : List Ape) (y6 : List Aim) (y7 y8 : Int) (y9 : Bool) (y10 y11 y12 y13 y14 : Int) (k : Ex → St → Option R) : ∀ (n : Nat) (y2 : Int), J60_34_2  n y1 y3 y4 y5 y6 y7 y8 y9 y10 y11 y12 y13 y14 y2 k = L60_34_2  (E60_34_2_0 k y3 y4 y5 y6 y7 y8 y9 y10 y11 y12 y13 y14) (E60_34_2_1 k y3 y4 y5 y6 y7 y8 y9 y10 y11 y12 y13 y14) y1 y3 y4 y5 y6 y7 y8 y9 y10 y11 y12 y13 y14 n y2 := by
 intro n
 induction n with
 | zero => intros; rfl
 | succ n ih =>
  intro y2
  rw [k60_34_2, show (fun y2 => J60_34_2  n y1 y3 y4 y5 y6 y7 y8 y9 y10 y11 y12 y13 y14 y2 k) = L60_34_2  (E60_34_2_0 k y3 y4 y5 y6 y7 y8 y9 y10 y11 y12 y13 y14) (E60_34_2_1 k y3 y4 y5 y6 y7 y8 y9 y10 y11 y12 y13 y14) y1 y3 y4 y5 y6 y7 y8 y9 y10 y11 y12 y13 y14 n from by funext y2; exact ih y2]
  rfl
def lb60_34_2 {R : Type} (lf : Nat) (d : ps60_34_2.D) (k : Ex → St → Option R) : Option R := match d with
 | (y1, y2, y3, y4, y5, y6, y7, y8, y9, y10, y11, y12, y13, y14, ()) => L60_34_2  (E60_34_2_0 k y3 y4 y5 y6 y7 y8 y9 y10 y11 y12 y13 y14) (E60_34_2_1 k y3 y4 y5 y6 y7 y8 y9 y10 y11 y12 y13 y14) y1 y3 y4 y5 y6 y7 y8 y9 y10 y11 y12 y13 y14 lf y2
def lt60_34_2 {R : Type} (lf : Nat) : LOrc R := fun f id n0 st k => bif Nat.beq f 60 && (Nat.beq id 2 && Nat.beq n0 5) then readS ps60_34_2 st fun d => lb60_34_2 lf d k else LOrc.none f id n0 st k
def F60_34 (lf : Nat) (s : List Ape) (c1_0_0 : Int) (c1_0_1 : List Task) (c1_0_2 : List Ape) (c1_0_3 : Int) (c1_0_4 : Bool) (c1_0_5 c1_0_6 c1_0_7 : Int) (c1_0_8 : List Aim) (c1_0_9 c1_0_10 : Int) : Option (Int) :=
 L60_34_2 (fun z16 => some z16) (some (-1)) (s.length : Int) s c1_0_1 c1_0_2 c1_0_8 c1_0_0 c1_0_3 c1_0_4 c1_0_5 c1_0_6 c1_0_7 c1_0_9 c1_0_10 lf 0
theorem ev60_34 (lf : Nat) (s : List Ape) (c1_0_0 : Int) (c1_0_1 : List Task) (c1_0_2 : List Ape) (c1_0_3 : Int) (c1_0_4 : Bool) (c1_0_5 c1_0_6 c1_0_7 : Int) (c1_0_8 : List Aim) (c1_0_9 c1_0_10 : Int) : evC (R' := [.cell .i]) P KK T59_32 (lt60_34_2 lf) 60 [.cell (.sl .ape), .clo 34 [[.i, .sl .task, .sl .ape, .i, .b, .i, .i, .i, .sl .aim, .i, .i]]] (s, ((c1_0_0, c1_0_1, c1_0_2, c1_0_3, c1_0_4, c1_0_5, c1_0_6, c1_0_7, c1_0_8, c1_0_9, c1_0_10, ()), ()), ()) = F60_34 lf s c1_0_0 c1_0_1 c1_0_2 c1_0_3 c1_0_4 c1_0_5 c1_0_6 c1_0_7 c1_0_8 c1_0_9 c1_0_10 := by kernel_rfl
def g60_34 : Sig := ⟨[.cell (.sl .ape), .clo 34 [[.i, .sl .task, .sl .ape, .i, .b, .i, .i, .i, .sl .aim, .i, .i]]], [.cell .i]⟩
def T60_34 {R : Type} : Orc R := fun f args h k => bif Nat.beq f 60 && cloIs 1 34 args then contract g60_34 (fun d => F60_34 fuel d.1 d.2.1.1.1 d.2.1.1.2.1 d.2.1.1.2.2.1 d.2.1.1.2.2.2.1 d.2.1.1.2.2.2.2.1 d.2.1.1.2.2.2.2.2.1 d.2.1.1.2.2.2.2.2.2.1 d.2.1.1.2.2.2.2.2.2.2.1 d.2.1.1.2.2.2.2.2.2.2.2.1 d.2.1.1.2.2.2.2.2.2.2.2.2.1 d.2.1.1.2.2.2.2.2.2.2.2.2.2.1) args h k else T59_32 f args h k
def F16 (s_W_Now : Int) (s_W_T : List Task) (s_W_A : List Ape) (s_W_Cur : Int) (s_R_On : Bool) (s_R_Since s_R_By s_R_New : Int) (s_R_L : List Aim) (s_NextID s_NextAp : Int) : Option (Bool) :=
 (match (F30 fuel s_W_Now s_W_T s_W_A s_W_Cur) with
 | some r1 => bif (!r1) then
   some false
  else bif decide (s_NextID < 0) then
   some false
  else bif decide (65536 < s_NextID) then
   some false
  else bif decide (s_NextAp < 0) then
   some false
  else bif decide (65536 < s_NextAp) then
   some false
  else (match (F59_32 fuel s_W_T s_W_Now s_W_T s_W_A s_W_Cur s_R_On s_R_Since s_R_By s_R_New s_R_L s_NextID s_NextAp) with
  | some r2 => bif decide (0 ≤ r2) then
    some false
   else (match (F60_34 fuel s_W_A s_W_Now s_W_T s_W_A s_W_Cur s_R_On s_R_Since s_R_By s_R_New s_R_L s_NextID s_NextAp) with
   | some r3 => bif decide (0 ≤ r3) then
     some false
    else bif (!s_R_On) then
     bif decide (s_R_New = (-1)) then
      bif decide (s_R_Since = 0) then
       bif decide (s_R_By = 0) then
        some (decide ((s_R_L.length : Int) = 0))
       else some false
      else some false
     else some false
    else bif decide (0 ≤ s_R_Since) then
     bif decide (s_R_Since ≤ s_W_Now) then
      bif decide (s_R_Since ≤ s_R_By) then
       bif decide (s_R_By ≤ 1099511627776) then
        bif decide ((-1) ≤ s_R_New) then
         (match (F35 fuel s_W_Now s_W_T s_W_A s_W_Cur s_R_On s_R_Since s_R_By s_R_New s_R_L s_NextID s_NextAp) with
         | some r4 => some r4
         | none => none)
        else some false
       else some false
      else some false
     else some false
    else some false
   | none => none)
  | none => none)
 | none => none)
theorem ev16 (s_W_Now : Int) (s_W_T : List Task) (s_W_A : List Ape) (s_W_Cur : Int) (s_R_On : Bool) (s_R_Since s_R_By s_R_New : Int) (s_R_L : List Aim) (s_NextID s_NextAp : Int) : evC (R' := [.cell .b]) P KK T60_34 LOrc.none 16 [.agg [.i, .sl .task, .sl .ape, .i, .b, .i, .i, .i, .sl .aim, .i, .i]] ((s_W_Now, s_W_T, s_W_A, s_W_Cur, s_R_On, s_R_Since, s_R_By, s_R_New, s_R_L, s_NextID, s_NextAp, ()), ()) = F16 s_W_Now s_W_T s_W_A s_W_Cur s_R_On s_R_Since s_R_By s_R_New s_R_L s_NextID s_NextAp := by kernel_rfl
def g16 : Sig := ⟨[.agg [.i, .sl .task, .sl .ape, .i, .b, .i, .i, .i, .sl .aim, .i, .i]], [.cell .b]⟩
def T16 {R : Type} : Orc R := fun f args h k => bif Nat.beq f 16 then contract g16 (fun d => F16 d.1.1 d.1.2.1 d.1.2.2.1 d.1.2.2.2.1 d.1.2.2.2.2.1 d.1.2.2.2.2.2.1 d.1.2.2.2.2.2.2.1 d.1.2.2.2.2.2.2.2.1 d.1.2.2.2.2.2.2.2.2.1 d.1.2.2.2.2.2.2.2.2.2.1 d.1.2.2.2.2.2.2.2.2.2.2.1) args h k else T60_34 f args h k
def g23 : Sig := ⟨[.cell (.sl .aim)], [.cell (.own .aim 91)]⟩
def T23 {R : Type} : Orc R := fun f args h k => bif Nat.beq f 23 then contract g23 (fun d => cloneB d.1) args h k else T16 f args h k
def F64 (s_W_Now : Int) (s_W_T : List Task) (s_W_A : List Ape) (s_W_Cur : Int) (s_R_On : Bool) (s_R_Since s_R_By s_R_New : Int) (s_R_L : List Aim) (s_NextID s_NextAp : Int) : Option (Int × (List Task) × (List Ape) × Int × Bool × Int × Int × Int × (List Aim) × Int × Int) :=
 (match (cloneB s_W_T) with
 | some r1 => (match (cloneB s_W_A) with
  | some r2 => (match (cloneB s_R_L) with
   | some r3 => some (s_W_Now, r1, r2, s_W_Cur, s_R_On, s_R_Since, s_R_By, s_R_New, r3, s_NextID, s_NextAp)
   | none => none)
  | none => none)
 | none => none)
theorem ev64 (s_W_Now : Int) (s_W_T : List Task) (s_W_A : List Ape) (s_W_Cur : Int) (s_R_On : Bool) (s_R_Since s_R_By s_R_New : Int) (s_R_L : List Aim) (s_NextID s_NextAp : Int) : evC (R' := [.agg [.i, .own .task 54, .own .ape 88, .i, .b, .i, .i, .i, .own .aim 91, .i, .i]]) P KK T23 LOrc.none 64 [.agg [.i, .sl .task, .sl .ape, .i, .b, .i, .i, .i, .sl .aim, .i, .i]] ((s_W_Now, s_W_T, s_W_A, s_W_Cur, s_R_On, s_R_Since, s_R_By, s_R_New, s_R_L, s_NextID, s_NextAp, ()), ()) = F64 s_W_Now s_W_T s_W_A s_W_Cur s_R_On s_R_Since s_R_By s_R_New s_R_L s_NextID s_NextAp := by kernel_rfl
def g64 : Sig := ⟨[.agg [.i, .sl .task, .sl .ape, .i, .b, .i, .i, .i, .sl .aim, .i, .i]], [.agg [.i, .own .task 54, .own .ape 88, .i, .b, .i, .i, .i, .own .aim 91, .i, .i]]⟩
def T64 {R : Type} : Orc R := fun f args h k => bif Nat.beq f 64 then contract g64 (fun d => F64 d.1.1 d.1.2.1 d.1.2.2.1 d.1.2.2.2.1 d.1.2.2.2.2.1 d.1.2.2.2.2.2.1 d.1.2.2.2.2.2.2.1 d.1.2.2.2.2.2.2.2.1 d.1.2.2.2.2.2.2.2.2.1 d.1.2.2.2.2.2.2.2.2.2.1 d.1.2.2.2.2.2.2.2.2.2.2.1) args h k else T23 f args h k
def S67_5 {R : Type} (e0 : Int → (List Fix) → Option R) (y2 y4 : Int) (y6 : List Task) (y7 : List Ape) (y8 : List Aim) (y9 : List Fix) (y10 y11 : Int) (y12 : Bool) (y13 y14 y15 y16 y17 y18 y19 : Int) (y20 : Bool) (y21 y22 y23 y24 y25 : Int) (y26 : List Task) (y27 : List Ape) (y28 : List Aim) (rec : Int → Int → (List Fix) → Option R) (y3 y5 : Int) (y29 : List Fix) : Option R :=
 bif decide (y5 < y4) then
  bif (decide (0 ≤ y5) && decide (y5 < (y26.length : Int))) then (match y26[(Int.toNat y5)]? with
   | some x30 => bif Nat.ble ((y29 ++ ([(Fix.mk x30.S x30.Next)])).length) 100000 then bif x30.J.Mand then
      rec (wI (y3 + (F101 x30.J))) (wI (y5 + 1)) (y29 ++ ([(Fix.mk x30.S x30.Next)]))
     else rec y3 (wI (y5 + 1)) (y29 ++ ([(Fix.mk x30.S x30.Next)]))
    else none
   | none => none)
  else none
 else e0 y3 y29
def L67_5 {R : Type} (e0 : Int → (List Fix) → Option R) (y2 y4 : Int) (y6 : List Task) (y7 : List Ape) (y8 : List Aim) (y9 : List Fix) (y10 y11 : Int) (y12 : Bool) (y13 y14 y15 y16 y17 y18 y19 : Int) (y20 : Bool) (y21 y22 y23 y24 y25 : Int) (y26 : List Task) (y27 : List Ape) (y28 : List Aim) : Nat → Int → Int → (List Fix) → Option R
 | 0 => fun _ _ _ => none
 | n + 1 => S67_5  e0 y2 y4 y6 y7 y8 y9 y10 y11 y12 y13 y14 y15 y16 y17 y18 y19 y20 y21 y22 y23 y24 y25 y26 y27 y28 (L67_5  e0 y2 y4 y6 y7 y8 y9 y10 y11 y12 y13 y14 y15 y16 y17 y18 y19 y20 y21 y22 y23 y24 y25 y26 y27 y28 n)
def ps67_5 : PSt := { live := [1, 2, 3, 6, 7, 8, 18, 19, 20], nt := 91, env := [.i, .whole 3, .ptr 4 0 0, .ptr 5 0 0, .i, .whole 9, .whole 6, .i, .i], heap := [.typ false true false 0 .task, .typ false true false 0 .ape, .typ false true false 0 .aim, .typ false true false 0 .fix, .gen true false false 0 11 [[.i, .whole 6, .whole 7, .i, .b, .i, .i, .i, .whole 8, .i, .i]], .gen true false false 0 11 [[.i, .nils, .nils, .i, .b, .i, .i, .i, .nils, .i, .i]], .typ true true false 54 .task, .typ true true false 88 .ape, .typ true true false 91 .aim, .typ true true false 112 .fix] }
abbrev st67_5 (y2 y3 y4 y5 : Int) (y6 : List Task) (y7 : List Ape) (y8 : List Aim) (y9 : List Fix) (y10 y11 : Int) (y12 : Bool) (y13 y14 y15 y16 y17 y18 y19 : Int) (y20 : Bool) (y21 y22 y23 y24 y25 : Int) (y26 : List Task) (y27 : List Ape) (y28 : List Aim) (y29 : List Fix) : St := ⟨[dd, I y2, .whole 3, .ptr 4 0 0, dd, dd, .ptr 5 0 0, I y3, .whole 9, dd, dd, dd, dd, dd, dd, dd, dd, dd, .whole 6, I y4, I y5, dd, dd, dd, dd, dd, dd, dd, dd, dd, dd, dd, dd, dd, dd, dd, dd, dd, dd, dd, dd, dd, dd, dd, dd, dd, dd, dd, dd, dd, dd, dd, dd, dd, dd, dd, dd, dd, dd, dd, dd, dd, dd, dd, dd, dd, dd, dd, dd, dd, dd, dd, dd, dd, dd, dd, dd, dd, dd, dd, dd, dd, dd, dd, dd, dd, dd, dd, dd, dd, dd], [some ⟨false, true, false, 0, .typ .task y6⟩, some ⟨false, true, false, 0, .typ .ape y7⟩, some ⟨false, true, false, 0, .typ .aim y8⟩, some ⟨false, true, false, 0, .typ .fix y9⟩, some ⟨true, false, false, 0, .gen 11 [[I y10, .whole 6, .whole 7, I y11, .bool y12, I y13, I y14, I y15, .whole 8, I y16, I y17]]⟩, some ⟨true, false, false, 0, .gen 11 [[I y18, .nils, .nils, I y19, .bool y20, I y21, I y22, I y23, .nils, I y24, I y25]]⟩, some ⟨true, true, false, 54, .typ .task y26⟩, some ⟨true, true, false, 88, .typ .ape y27⟩, some ⟨true, true, false, 91, .typ .aim y28⟩, some ⟨true, true, false, 112, .typ .fix y29⟩]⟩
abbrev sx67_5_0 (z0 z1 : Int) (z2 : List Task) (z3 : List Ape) (z4 : List Aim) (z5 : List Fix) (z6 z7 : Int) (z8 : Bool) (z9 z10 z11 z12 z13 z14 z15 : Int) (z16 : Bool) (z17 z18 z19 z20 z21 : Int) (z22 : List Task) (z23 : List Ape) (z24 : List Aim) (z25 : List Fix) : St := ⟨[dd, I z0, .whole 3, .ptr 4 0 0, dd, dd, .ptr 5 0 0, I z1, .whole 9, dd, dd, dd, dd, dd, dd, dd, dd, dd, dd, dd, dd, dd, dd, dd, dd, dd, dd, dd, dd, dd, dd, dd, dd, dd, dd, dd, dd, dd, dd, dd, dd, dd, dd, dd, dd, dd, dd, dd, dd, dd, dd, dd, dd, dd, dd, dd, dd, dd, dd, dd, dd, dd, dd, dd, dd, dd, dd, dd, dd, dd, dd, dd, dd, dd, dd, dd, dd, dd, dd, dd, dd, dd, dd, dd, dd, dd, dd, dd, dd, dd, dd], [some ⟨false, true, false, 0, .typ .task z2⟩, some ⟨false, true, false, 0, .typ .ape z3⟩, some ⟨false, true, false, 0, .typ .aim z4⟩, some ⟨false, true, false, 0, .typ .fix z5⟩, some ⟨true, false, false, 0, .gen 11 [[I z6, .whole 6, .whole 7, I z7, .bool z8, I z9, I z10, I z11, .whole 8, I z12, I z13]]⟩, some ⟨true, false, false, 0, .gen 11 [[I z14, .nils, .nils, I z15, .bool z16, I z17, I z18, I z19, .nils, I z20, I z21]]⟩, some ⟨true, true, false, 54, .typ .task z22⟩, some ⟨true, true, false, 88, .typ .ape z23⟩, some ⟨true, true, false, 91, .typ .aim z24⟩, some ⟨true, true, false, 112, .typ .fix z25⟩]⟩
theorem ly67_5 (y2 y3 y4 y5 : Int) (y6 : List Task) (y7 : List Ape) (y8 : List Aim) (y9 : List Fix) (y10 y11 : Int) (y12 : Bool) (y13 y14 y15 y16 y17 y18 y19 : Int) (y20 : Bool) (y21 y22 y23 y24 y25 : Int) (y26 : List Task) (y27 : List Ape) (y28 : List Aim) (y29 : List Fix) : layS ps67_5 (y2, y3, y4, y5, y6, y7, y8, y9, y10, y11, y12, y13, y14, y15, y16, y17, y18, y19, y20, y21, y22, y23, y24, y25, y26, y27, y28, y29, ()) = st67_5 y2 y3 y4 y5 y6 y7 y8 y9 y10 y11 y12 y13 y14 y15 y16 y17 y18 y19 y20 y21 y22 y23 y24 y25 y26 y27 y28 y29 := by kernel_rfl
abbrev E67_5_0 {R : Type} (k : Ex → St → Option R) (y2 : Int) (y6 : List Task) (y7 : List Ape) (y8 : List Aim) (y9 : List Fix) (y10 y11 : Int) (y12 : Bool) (y13 y14 y15 y16 y17 y18 y19 : Int) (y20 : Bool) (y21 y22 y23 y24 y25 : Int) (y26 : List Task) (y27 : List Ape) (y28 : List Aim) (z1 : Int) (z25 : List Fix) : Option R := k (.exit 0) (sx67_5_0 y2 z1 y6 y7 y8 y9 y10 y11 y12 y13 y14 y15 y16 y17 y18 y19 y20 y21 y22 y23 y24 y25 y26 y27 y28 z25)
noncomputable abbrev J67_5 {R : Type} (n : Nat) (y2 y4 : Int) (y6 : List Task) (y7 : List Ape) (y8 : List Aim) (y9 : List Fix) (y10 y11 : Int) (y12 : Bool) (y13 y14 y15 y16 y17 y18 y19 : Int) (y20 : Bool) (y21 y22 y23 y24 y25 : Int) (y26 : List Task) (y27 : List Ape) (y28 : List Aim) (y3 y5 : Int) (y29 : List Fix) (k : Ex → St → Option R) : Option R :=
 iter (ev P KK T64 LOrc.none 300 67 (loopOf P 67 5)) (headL P KK (KK.ann 67 5) 9) (gcL (KK.ann 67 5).out 9) n (st67_5 y2 y3 y4 y5 y6 y7 y8 y9 y10 y11 y12 y13 y14 y15 y16 y17 y18 y19 y20 y21 y22 y23 y24 y25 y26 y27 y28 y29) k
theorem k67_5 {R : Type} (n : Nat) (y2 y4 : Int) (y6 : List Task) (y7 : List Ape) (y8 : List Aim) (y9 : List Fix) (y10 y11 : Int) (y12 : Bool) (y13 y14 y15 y16 y17 y18 y19 : Int) (y20 : Bool) (y21 y22 y23 y24 y25 : Int) (y26 : List Task) (y27 : List Ape) (y28 : List Aim) (y3 y5 : Int) (y29 : List Fix) (k : Ex → St → Option R) : J67_5  (n + 1) y2 y4 y6 y7 y8 y9 y10 y11 y12 y13 y14 y15 y16 y17 y18 y19 y20 y21 y22 y23 y24 y25 y26 y27 y28 y3 y5 y29 k = S67_5  (E67_5_0 k y2 y6 y7 y8 y9 y10 y11 y12 y13 y14 y15 y16 y17 y18 y19 y20 y21 y22 y23 y24 y25 y26 y27 y28) y2 y4 y6 y7 y8 y9 y10 y11 y12 y13 y14 y15 y16 y17 y18 y19 y20 y21 y22 y23 y24 y25 y26 y27 y28 (fun y3 y5 y29 => J67_5  n y2 y4 y6 y7 y8 y9 y10 y11 y12 y13 y14 y15 y16 y17 y18 y19 y20 y21 y22 y23 y24 y25 y26 y27 y28 y3 y5 y29 k) y3 y5 y29 := by kernel_rfl
theorem it67_5 {R : Type} (y2 y4 : Int) (y6 : List Task) (y7 : List Ape) (y8 : List Aim) (y9 : List Fix) (y10 y11 : Int) (y12 : Bool) (y13 y14 y15 y16 y17 y18 y19 : Int) (y20 : Bool) (y21 y22 y23 y24 y25 : Int) (y26 : List Task) (y27 : List Ape) (y28 : List Aim) (k : Ex → St → Option R) : ∀ (n : Nat) (y3 y5 : Int) (y29 : List Fix), J67_5  n y2 y4 y6 y7 y8 y9 y10 y11 y12 y13 y14 y15 y16 y17 y18 y19 y20 y21 y22 y23 y24 y25 y26 y27 y28 y3 y5 y29 k = L67_5  (E67_5_0 k y2 y6 y7 y8 y9 y10 y11 y12 y13 y14 y15 y16 y17 y18 y19 y20 y21 y22 y23 y24 y25 y26 y27 y28) y2 y4 y6 y7 y8 y9 y10 y11 y12 y13 y14 y15 y16 y17 y18 y19 y20 y21 y22 y23 y24 y25 y26 y27 y28 n y3 y5 y29 := by
 intro n
 induction n with
 | zero => intros; rfl
 | succ n ih =>
  intro y3 y5 y29
  rw [k67_5, show (fun y3 y5 y29 => J67_5  n y2 y4 y6 y7 y8 y9 y10 y11 y12 y13 y14 y15 y16 y17 y18 y19 y20 y21 y22 y23 y24 y25 y26 y27 y28 y3 y5 y29 k) = L67_5  (E67_5_0 k y2 y6 y7 y8 y9 y10 y11 y12 y13 y14 y15 y16 y17 y18 y19 y20 y21 y22 y23 y24 y25 y26 y27 y28) y2 y4 y6 y7 y8 y9 y10 y11 y12 y13 y14 y15 y16 y17 y18 y19 y20 y21 y22 y23 y24 y25 y26 y27 y28 n from by funext y3 y5 y29; exact ih y3 y5 y29]
  rfl
def lb67_5 {R : Type} (lf : Nat) (d : ps67_5.D) (k : Ex → St → Option R) : Option R := match d with
 | (y2, y3, y4, y5, y6, y7, y8, y9, y10, y11, y12, y13, y14, y15, y16, y17, y18, y19, y20, y21, y22, y23, y24, y25, y26, y27, y28, y29, ()) => L67_5  (E67_5_0 k y2 y6 y7 y8 y9 y10 y11 y12 y13 y14 y15 y16 y17 y18 y19 y20 y21 y22 y23 y24 y25 y26 y27 y28) y2 y4 y6 y7 y8 y9 y10 y11 y12 y13 y14 y15 y16 y17 y18 y19 y20 y21 y22 y23 y24 y25 y26 y27 y28 lf y3 y5 y29
def lt67_5 {R : Type} (lf : Nat) : LOrc R := fun f id n0 st k => bif Nat.beq f 67 && (Nat.beq id 5 && Nat.beq n0 9) then readS ps67_5 st fun d => lb67_5 lf d k else LOrc.none f id n0 st k
def S67_13 {R : Type} (e0 : (List Aim) → Option R) (y34 y35 : Int) (y37 : List Task) (y38 : List Ape) (y39 : List Aim) (y40 : List Fix) (y41 y42 : Int) (y43 : Bool) (y44 y45 y46 y47 y48 y49 y50 : Int) (y51 : Bool) (y52 y53 y54 y55 y56 : Int) (y57 : List Task) (y58 : List Ape) (y59 : List Aim) (y60 : List Fix) (rec : Int → (List Aim) → Option R) (y36 : Int) (y61 : List Aim) : Option R :=
 bif decide (y36 < y35) then
  bif (decide (0 ≤ y36) && decide (y36 < (y40.length : Int))) then (match y40[(Int.toNat y36)]? with
   | some x62 => bif decide (y36 < (y57.length : Int)) then
     bif (decide (0 ≤ y36) && decide (y36 < (y57.length : Int))) then (match y57[(Int.toNat y36)]? with
      | some x63 => bif Nat.ble ((y61 ++ ([(Aim.mk x63.ID x62.S x62.P)])).length) 100000 then rec (wI (y36 + 1)) (y61 ++ ([(Aim.mk x63.ID x62.S x62.P)]))
       else none
      | none => none)
     else none
    else bif Nat.ble ((y61 ++ ([(Aim.mk y34 x62.S x62.P)])).length) 100000 then rec (wI (y36 + 1)) (y61 ++ ([(Aim.mk y34 x62.S x62.P)]))
    else none
   | none => none)
  else none
 else e0 y61
def L67_13 {R : Type} (e0 : (List Aim) → Option R) (y34 y35 : Int) (y37 : List Task) (y38 : List Ape) (y39 : List Aim) (y40 : List Fix) (y41 y42 : Int) (y43 : Bool) (y44 y45 y46 y47 y48 y49 y50 : Int) (y51 : Bool) (y52 y53 y54 y55 y56 : Int) (y57 : List Task) (y58 : List Ape) (y59 : List Aim) (y60 : List Fix) : Nat → Int → (List Aim) → Option R
 | 0 => fun _ _ => none
 | n + 1 => S67_13  e0 y34 y35 y37 y38 y39 y40 y41 y42 y43 y44 y45 y46 y47 y48 y49 y50 y51 y52 y53 y54 y55 y56 y57 y58 y59 y60 (L67_13  e0 y34 y35 y37 y38 y39 y40 y41 y42 y43 y44 y45 y46 y47 y48 y49 y50 y51 y52 y53 y54 y55 y56 y57 y58 y59 y60 n)
def ps67_13 : PSt := { live := [1, 3, 6, 55, 56, 57], nt := 91, env := [.i, .ptr 4 0 0, .ptr 5 0 0, .whole 3, .i, .i], heap := [.typ false true false 0 .task, .typ false true false 0 .ape, .typ false true false 0 .aim, .typ false true false 0 .fix, .gen true false false 0 11 [[.i, .whole 6, .whole 7, .i, .b, .i, .i, .i, .whole 10, .i, .i]], .gen true false false 0 11 [[.i, .nils, .nils, .i, .b, .i, .i, .i, .nils, .i, .i]], .typ true true false 54 .task, .typ true true false 88 .ape, .typ true true false 91 .aim, .typ true true false 112 .fix, .typ true true false 91 .aim] }
abbrev st67_13 (y34 y35 y36 : Int) (y37 : List Task) (y38 : List Ape) (y39 : List Aim) (y40 : List Fix) (y41 y42 : Int) (y43 : Bool) (y44 y45 y46 y47 y48 y49 y50 : Int) (y51 : Bool) (y52 y53 y54 y55 y56 : Int) (y57 : List Task) (y58 : List Ape) (y59 : List Aim) (y60 : List Fix) (y61 : List Aim) : St := ⟨[dd, I y34, dd, .ptr 4 0 0, dd, dd, .ptr 5 0 0, dd, dd, dd, dd, dd, dd, dd, dd, dd, dd, dd, dd, dd, dd, dd, dd, dd, dd, dd, dd, dd, dd, dd, dd, dd, dd, dd, dd, dd, dd, dd, dd, dd, dd, dd, dd, dd, dd, dd, dd, dd, dd, dd, dd, dd, dd, dd, dd, .whole 3, I y35, I y36, dd, dd, dd, dd, dd, dd, dd, dd, dd, dd, dd, dd, dd, dd, dd, dd, dd, dd, dd, dd, dd, dd, dd, dd, dd, dd, dd, dd, dd, dd, dd, dd, dd], [some ⟨false, true, false, 0, .typ .task y37⟩, some ⟨false, true, false, 0, .typ .ape y38⟩, some ⟨false, true, false, 0, .typ .aim y39⟩, some ⟨false, true, false, 0, .typ .fix y40⟩, some ⟨true, false, false, 0, .gen 11 [[I y41, .whole 6, .whole 7, I y42, .bool y43, I y44, I y45, I y46, .whole 10, I y47, I y48]]⟩, some ⟨true, false, false, 0, .gen 11 [[I y49, .nils, .nils, I y50, .bool y51, I y52, I y53, I y54, .nils, I y55, I y56]]⟩, some ⟨true, true, false, 54, .typ .task y57⟩, some ⟨true, true, false, 88, .typ .ape y58⟩, some ⟨true, true, false, 91, .typ .aim y59⟩, some ⟨true, true, false, 112, .typ .fix y60⟩, some ⟨true, true, false, 91, .typ .aim y61⟩]⟩
abbrev sx67_13_0 (z0 : List Task) (z1 : List Ape) (z2 : List Aim) (z3 : List Fix) (z4 z5 : Int) (z6 : Bool) (z7 z8 z9 z10 z11 z12 z13 : Int) (z14 : Bool) (z15 z16 z17 z18 z19 : Int) (z20 : List Task) (z21 : List Ape) (z22 : List Aim) (z23 : List Fix) (z24 : List Aim) : St := ⟨[dd, dd, dd, .ptr 4 0 0, dd, dd, .ptr 5 0 0, dd, dd, dd, dd, dd, dd, dd, dd, dd, dd, dd, dd, dd, dd, dd, dd, dd, dd, dd, dd, dd, dd, dd, dd, dd, dd, dd, dd, dd, dd, dd, dd, dd, dd, dd, dd, dd, dd, dd, dd, dd, dd, dd, dd, dd, dd, dd, dd, dd, dd, dd, dd, dd, dd, dd, dd, dd, dd, dd, dd, dd, dd, dd, dd, dd, dd, dd, dd, dd, dd, dd, dd, dd, dd, dd, dd, dd, dd, dd, dd, dd, dd, dd, dd], [some ⟨false, true, false, 0, .typ .task z0⟩, some ⟨false, true, false, 0, .typ .ape z1⟩, some ⟨false, true, false, 0, .typ .aim z2⟩, some ⟨false, true, false, 0, .typ .fix z3⟩, some ⟨true, false, false, 0, .gen 11 [[I z4, .whole 6, .whole 7, I z5, .bool z6, I z7, I z8, I z9, .whole 10, I z10, I z11]]⟩, some ⟨true, false, false, 0, .gen 11 [[I z12, .nils, .nils, I z13, .bool z14, I z15, I z16, I z17, .nils, I z18, I z19]]⟩, some ⟨true, true, false, 54, .typ .task z20⟩, some ⟨true, true, false, 88, .typ .ape z21⟩, some ⟨true, true, false, 91, .typ .aim z22⟩, some ⟨true, true, false, 112, .typ .fix z23⟩, some ⟨true, true, false, 91, .typ .aim z24⟩]⟩
theorem ly67_13 (y34 y35 y36 : Int) (y37 : List Task) (y38 : List Ape) (y39 : List Aim) (y40 : List Fix) (y41 y42 : Int) (y43 : Bool) (y44 y45 y46 y47 y48 y49 y50 : Int) (y51 : Bool) (y52 y53 y54 y55 y56 : Int) (y57 : List Task) (y58 : List Ape) (y59 : List Aim) (y60 : List Fix) (y61 : List Aim) : layS ps67_13 (y34, y35, y36, y37, y38, y39, y40, y41, y42, y43, y44, y45, y46, y47, y48, y49, y50, y51, y52, y53, y54, y55, y56, y57, y58, y59, y60, y61, ()) = st67_13 y34 y35 y36 y37 y38 y39 y40 y41 y42 y43 y44 y45 y46 y47 y48 y49 y50 y51 y52 y53 y54 y55 y56 y57 y58 y59 y60 y61 := by kernel_rfl
abbrev E67_13_0 {R : Type} (k : Ex → St → Option R) (y37 : List Task) (y38 : List Ape) (y39 : List Aim) (y40 : List Fix) (y41 y42 : Int) (y43 : Bool) (y44 y45 y46 y47 y48 y49 y50 : Int) (y51 : Bool) (y52 y53 y54 y55 y56 : Int) (y57 : List Task) (y58 : List Ape) (y59 : List Aim) (y60 : List Fix) (z24 : List Aim) : Option R := k (.exit 2) (sx67_13_0 y37 y38 y39 y40 y41 y42 y43 y44 y45 y46 y47 y48 y49 y50 y51 y52 y53 y54 y55 y56 y57 y58 y59 y60 z24)
noncomputable abbrev J67_13 {R : Type} (n : Nat) (y34 y35 : Int) (y37 : List Task) (y38 : List Ape) (y39 : List Aim) (y40 : List Fix) (y41 y42 : Int) (y43 : Bool) (y44 y45 y46 y47 y48 y49 y50 : Int) (y51 : Bool) (y52 y53 y54 y55 y56 : Int) (y57 : List Task) (y58 : List Ape) (y59 : List Aim) (y60 : List Fix) (y36 : Int) (y61 : List Aim) (k : Ex → St → Option R) : Option R :=
 iter (ev P KK T64 (lt67_5 lf) 300 67 (loopOf P 67 13)) (headL P KK (KK.ann 67 13) 10) (gcL (KK.ann 67 13).out 10) n (st67_13 y34 y35 y36 y37 y38 y39 y40 y41 y42 y43 y44 y45 y46 y47 y48 y49 y50 y51 y52 y53 y54 y55 y56 y57 y58 y59 y60 y61) k
theorem k67_13 {R : Type} (n : Nat) (y34 y35 : Int) (y37 : List Task) (y38 : List Ape) (y39 : List Aim) (y40 : List Fix) (y41 y42 : Int) (y43 : Bool) (y44 y45 y46 y47 y48 y49 y50 : Int) (y51 : Bool) (y52 y53 y54 y55 y56 : Int) (y57 : List Task) (y58 : List Ape) (y59 : List Aim) (y60 : List Fix) (y36 : Int) (y61 : List Aim) (k : Ex → St → Option R) : J67_13  (n + 1) y34 y35 y37 y38 y39 y40 y41 y42 y43 y44 y45 y46 y47 y48 y49 y50 y51 y52 y53 y54 y55 y56 y57 y58 y59 y60 y36 y61 k = S67_13  (E67_13_0 k y37 y38 y39 y40 y41 y42 y43 y44 y45 y46 y47 y48 y49 y50 y51 y52 y53 y54 y55 y56 y57 y58 y59 y60) y34 y35 y37 y38 y39 y40 y41 y42 y43 y44 y45 y46 y47 y48 y49 y50 y51 y52 y53 y54 y55 y56 y57 y58 y59 y60 (fun y36 y61 => J67_13  n y34 y35 y37 y38 y39 y40 y41 y42 y43 y44 y45 y46 y47 y48 y49 y50 y51 y52 y53 y54 y55 y56 y57 y58 y59 y60 y36 y61 k) y36 y61 := by kernel_rfl
theorem it67_13 {R : Type} (y34 y35 : Int) (y37 : List Task) (y38 : List Ape) (y39 : List Aim) (y40 : List Fix) (y41 y42 : Int) (y43 : Bool) (y44 y45 y46 y47 y48 y49 y50 : Int) (y51 : Bool) (y52 y53 y54 y55 y56 : Int) (y57 : List Task) (y58 : List Ape) (y59 : List Aim) (y60 : List Fix) (k : Ex → St → Option R) : ∀ (n : Nat) (y36 : Int) (y61 : List Aim), J67_13  n y34 y35 y37 y38 y39 y40 y41 y42 y43 y44 y45 y46 y47 y48 y49 y50 y51 y52 y53 y54 y55 y56 y57 y58 y59 y60 y36 y61 k = L67_13  (E67_13_0 k y37 y38 y39 y40 y41 y42 y43 y44 y45 y46 y47 y48 y49 y50 y51 y52 y53 y54 y55 y56 y57 y58 y59 y60) y34 y35 y37 y38 y39 y40 y41 y42 y43 y44 y45 y46 y47 y48 y49 y50 y51 y52 y53 y54 y55 y56 y57 y58 y59 y60 n y36 y61 := by
 intro n
 induction n with
 | zero => intros; rfl
 | succ n ih =>
  intro y36 y61
  rw [k67_13, show (fun y36 y61 => J67_13  n y34 y35 y37 y38 y39 y40 y41 y42 y43 y44 y45 y46 y47 y48 y49 y50 y51 y52 y53 y54 y55 y56 y57 y58 y59 y60 y36 y61 k) = L67_13  (E67_13_0 k y37 y38 y39 y40 y41 y42 y43 y44 y45 y46 y47 y48 y49 y50 y51 y52 y53 y54 y55 y56 y57 y58 y59 y60) y34 y35 y37 y38 y39 y40 y41 y42 y43 y44 y45 y46 y47 y48 y49 y50 y51 y52 y53 y54 y55 y56 y57 y58 y59 y60 n from by funext y36 y61; exact ih y36 y61]
  rfl
def lb67_13 {R : Type} (lf : Nat) (d : ps67_13.D) (k : Ex → St → Option R) : Option R := match d with
 | (y34, y35, y36, y37, y38, y39, y40, y41, y42, y43, y44, y45, y46, y47, y48, y49, y50, y51, y52, y53, y54, y55, y56, y57, y58, y59, y60, y61, ()) => L67_13  (E67_13_0 k y37 y38 y39 y40 y41 y42 y43 y44 y45 y46 y47 y48 y49 y50 y51 y52 y53 y54 y55 y56 y57 y58 y59 y60) y34 y35 y37 y38 y39 y40 y41 y42 y43 y44 y45 y46 y47 y48 y49 y50 y51 y52 y53 y54 y55 y56 y57 y58 y59 y60 lf y36 y61
def lt67_13 {R : Type} (lf : Nat) : LOrc R := fun f id n0 st k => bif Nat.beq f 67 && (Nat.beq id 13 && Nat.beq n0 10) then readS ps67_13 st fun d => lb67_13 lf d k else (lt67_5 lf) f id n0 st k
def F67 (lf : Nat) (s_W_Now : Int) (s_W_T : List Task) (s_W_A : List Ape) (s_W_Cur : Int) (s_R_On : Bool) (s_R_Since s_R_By s_R_New : Int) (s_R_L : List Aim) (s_NextID s_NextAp fresh : Int) (f : List Fix) : Option (Int × (List Task) × (List Ape) × Int × Bool × Int × Int × Int × (List Aim) × Int × Int) :=
 (match (F64 s_W_Now s_W_T s_W_A s_W_Cur s_R_On s_R_Since s_R_By s_R_New s_R_L s_NextID s_NextAp) with
 | some r1 => L67_5 (fun z31 z32 => (match (F102 fuel z32 z31) with
    | some r33 => L67_13 (fun z64 => some (r1.1, r1.2.1, r1.2.2.1, r1.2.2.2.1, true, r1.1, (wI ((wI (r1.1 + r33)) - 1)), fresh, z64, r1.2.2.2.2.2.2.2.2.2.1, r1.2.2.2.2.2.2.2.2.2.2)) fresh (f.length : Int) s_W_T s_W_A s_R_L f r1.1 r1.2.2.2.1 true r1.1 (wI ((wI (r1.1 + r33)) - 1)) fresh r1.2.2.2.2.2.2.2.2.2.1 r1.2.2.2.2.2.2.2.2.2.2 0 0 false 0 0 0 0 0 r1.2.1 r1.2.2.1 r1.2.2.2.2.2.2.2.2.1 z32 lf 0 ([])
    | none => none)) fresh (r1.2.1.length : Int) s_W_T s_W_A s_R_L f r1.1 r1.2.2.2.1 r1.2.2.2.2.1 r1.2.2.2.2.2.1 r1.2.2.2.2.2.2.1 r1.2.2.2.2.2.2.2.1 r1.2.2.2.2.2.2.2.2.2.1 r1.2.2.2.2.2.2.2.2.2.2 0 0 false 0 0 0 0 0 r1.2.1 r1.2.2.1 r1.2.2.2.2.2.2.2.2.1 lf 0 0 ([])
 | none => none)
theorem ev67 (lf : Nat) (s_W_Now : Int) (s_W_T : List Task) (s_W_A : List Ape) (s_W_Cur : Int) (s_R_On : Bool) (s_R_Since s_R_By s_R_New : Int) (s_R_L : List Aim) (s_NextID s_NextAp fresh : Int) (f : List Fix) : evC (R' := [.agg [.i, .own .task 54, .own .ape 88, .i, .b, .i, .i, .i, .own .aim 91, .i, .i]]) P KK T64 (lt67_13 lf) 67 [.agg [.i, .sl .task, .sl .ape, .i, .b, .i, .i, .i, .sl .aim, .i, .i], .cell .i, .cell (.sl .fix)] ((s_W_Now, s_W_T, s_W_A, s_W_Cur, s_R_On, s_R_Since, s_R_By, s_R_New, s_R_L, s_NextID, s_NextAp, ()), fresh, f, ()) = F67 lf s_W_Now s_W_T s_W_A s_W_Cur s_R_On s_R_Since s_R_By s_R_New s_R_L s_NextID s_NextAp fresh f := by kernel_rfl
def g67 : Sig := ⟨[.agg [.i, .sl .task, .sl .ape, .i, .b, .i, .i, .i, .sl .aim, .i, .i], .cell .i, .cell (.sl .fix)], [.agg [.i, .own .task 54, .own .ape 88, .i, .b, .i, .i, .i, .own .aim 91, .i, .i]]⟩
def T67 {R : Type} : Orc R := fun f args h k => bif Nat.beq f 67 then contract g67 (fun d => F67 fuel d.1.1 d.1.2.1 d.1.2.2.1 d.1.2.2.2.1 d.1.2.2.2.2.1 d.1.2.2.2.2.2.1 d.1.2.2.2.2.2.2.1 d.1.2.2.2.2.2.2.2.1 d.1.2.2.2.2.2.2.2.2.1 d.1.2.2.2.2.2.2.2.2.2.1 d.1.2.2.2.2.2.2.2.2.2.2.1 d.2.1 d.2.2.1) args h k else T64 f args h k
def F63 (s_W_Now : Int) (s_W_T : List Task) (s_W_A : List Ape) (s_W_Cur : Int) (s_R_On : Bool) (s_R_Since s_R_By s_R_New : Int) (s_R_L : List Aim) (s_NextID s_NextAp : Int) : Option (Int) :=
 (match (F16 s_W_Now s_W_T s_W_A s_W_Cur s_R_On s_R_Since s_R_By s_R_New s_R_L s_NextID s_NextAp) with
 | some r1 => (match (F62 fuel ([(F61 (!r1) 1), (F61 s_R_On 4)])) with
  | some r2 => some r2
  | none => none)
 | none => none)
theorem ev63 (s_W_Now : Int) (s_W_T : List Task) (s_W_A : List Ape) (s_W_Cur : Int) (s_R_On : Bool) (s_R_Since s_R_By s_R_New : Int) (s_R_L : List Aim) (s_NextID s_NextAp : Int) : evC (R' := [.cell .i]) P KK T67 LOrc.none 63 [.agg [.i, .sl .task, .sl .ape, .i, .b, .i, .i, .i, .sl .aim, .i, .i]] ((s_W_Now, s_W_T, s_W_A, s_W_Cur, s_R_On, s_R_Since, s_R_By, s_R_New, s_R_L, s_NextID, s_NextAp, ()), ()) = F63 s_W_Now s_W_T s_W_A s_W_Cur s_R_On s_R_Since s_R_By s_R_New s_R_L s_NextID s_NextAp := by kernel_rfl
def g63 : Sig := ⟨[.agg [.i, .sl .task, .sl .ape, .i, .b, .i, .i, .i, .sl .aim, .i, .i]], [.cell .i]⟩
def T63 {R : Type} : Orc R := fun f args h k => bif Nat.beq f 63 then contract g63 (fun d => F63 d.1.1 d.1.2.1 d.1.2.2.1 d.1.2.2.2.1 d.1.2.2.2.2.1 d.1.2.2.2.2.2.1 d.1.2.2.2.2.2.2.1 d.1.2.2.2.2.2.2.2.1 d.1.2.2.2.2.2.2.2.2.1 d.1.2.2.2.2.2.2.2.2.2.1 d.1.2.2.2.2.2.2.2.2.2.2.1) args h k else T67 f args h k
def F50 (s_W_Now : Int) (s_W_T : List Task) (s_W_A : List Ape) (s_W_Cur : Int) (s_R_On : Bool) (s_R_Since s_R_By s_R_New : Int) (s_R_L : List Aim) (s_NextID s_NextAp : Int) (p : Spec) : Option ((Int × (List Task) × (List Ape) × Int × Bool × Int × Int × Int × (List Aim) × Int × Int) × Int × Int) :=
 bif decide (4 ≤ (s_W_T.length : Int)) then
  (match (F63 s_W_Now s_W_T s_W_A s_W_Cur s_R_On s_R_Since s_R_By s_R_New s_R_L s_NextID s_NextAp) with
  | some r1 => (match (F62 fuel ([r1, (F61 true 3)])) with
   | some r2 => bif (!(decide (r2 = 0))) then
     (match (F64 s_W_Now s_W_T s_W_A s_W_Cur s_R_On s_R_Since s_R_By s_R_New s_R_L s_NextID s_NextAp) with
     | some r3 => some ((r3.1, r3.2.1, r3.2.2.1, r3.2.2.2.1, r3.2.2.2.2.1, r3.2.2.2.2.2.1, r3.2.2.2.2.2.2.1, r3.2.2.2.2.2.2.2.1, r3.2.2.2.2.2.2.2.2.1, r3.2.2.2.2.2.2.2.2.2.1, r3.2.2.2.2.2.2.2.2.2.2), (-1), r2)
     | none => none)
    else (match (F66 fuel s_W_Now s_W_T s_W_A s_W_Cur s_R_On s_R_Since s_R_By s_R_New s_R_L s_NextID s_NextAp) with
    | some r4 => bif Nat.ble ((r4 ++ ([p])).length) 100000 then (match (F65 (r4 ++ ([p]))) with
      | some r5 => bif (!(decide (r5.2 = 0))) then
        (match (F64 s_W_Now s_W_T s_W_A s_W_Cur s_R_On s_R_Since s_R_By s_R_New s_R_L s_NextID s_NextAp) with
        | some r6 => some ((r6.1, r6.2.1, r6.2.2.1, r6.2.2.2.1, r6.2.2.2.2.1, r6.2.2.2.2.2.1, r6.2.2.2.2.2.2.1, r6.2.2.2.2.2.2.2.1, r6.2.2.2.2.2.2.2.2.1, r6.2.2.2.2.2.2.2.2.2.1, r6.2.2.2.2.2.2.2.2.2.2), (-1), r5.2)
        | none => none)
       else (match (F67 fuel s_W_Now s_W_T s_W_A s_W_Cur s_R_On s_R_Since s_R_By s_R_New s_R_L (wI (s_NextID + 1)) s_NextAp s_NextID r5.1) with
       | some r7 => some ((r7.1, r7.2.1, r7.2.2.1, r7.2.2.2.1, r7.2.2.2.2.1, r7.2.2.2.2.2.1, r7.2.2.2.2.2.2.1, r7.2.2.2.2.2.2.2.1, r7.2.2.2.2.2.2.2.2.1, r7.2.2.2.2.2.2.2.2.2.1, r7.2.2.2.2.2.2.2.2.2.2), s_NextID, 0)
       | none => none)
      | none => none)
     else none
    | none => none)
   | none => none)
  | none => none)
 else (match (F63 s_W_Now s_W_T s_W_A s_W_Cur s_R_On s_R_Since s_R_By s_R_New s_R_L s_NextID s_NextAp) with
 | some r8 => (match (F62 fuel ([r8, (F61 (decide (s_NextID = 65536)) 3)])) with
  | some r9 => bif (!(decide (r9 = 0))) then
    (match (F64 s_W_Now s_W_T s_W_A s_W_Cur s_R_On s_R_Since s_R_By s_R_New s_R_L s_NextID s_NextAp) with
    | some r10 => some ((r10.1, r10.2.1, r10.2.2.1, r10.2.2.2.1, r10.2.2.2.2.1, r10.2.2.2.2.2.1, r10.2.2.2.2.2.2.1, r10.2.2.2.2.2.2.2.1, r10.2.2.2.2.2.2.2.2.1, r10.2.2.2.2.2.2.2.2.2.1, r10.2.2.2.2.2.2.2.2.2.2), (-1), r9)
    | none => none)
   else (match (F66 fuel s_W_Now s_W_T s_W_A s_W_Cur s_R_On s_R_Since s_R_By s_R_New s_R_L s_NextID s_NextAp) with
   | some r11 => bif Nat.ble ((r11 ++ ([p])).length) 100000 then (match (F65 (r11 ++ ([p]))) with
     | some r12 => bif (!(decide (r12.2 = 0))) then
       (match (F64 s_W_Now s_W_T s_W_A s_W_Cur s_R_On s_R_Since s_R_By s_R_New s_R_L s_NextID s_NextAp) with
       | some r13 => some ((r13.1, r13.2.1, r13.2.2.1, r13.2.2.2.1, r13.2.2.2.2.1, r13.2.2.2.2.2.1, r13.2.2.2.2.2.2.1, r13.2.2.2.2.2.2.2.1, r13.2.2.2.2.2.2.2.2.1, r13.2.2.2.2.2.2.2.2.2.1, r13.2.2.2.2.2.2.2.2.2.2), (-1), r12.2)
       | none => none)
      else (match (F67 fuel s_W_Now s_W_T s_W_A s_W_Cur s_R_On s_R_Since s_R_By s_R_New s_R_L (wI (s_NextID + 1)) s_NextAp s_NextID r12.1) with
      | some r14 => some ((r14.1, r14.2.1, r14.2.2.1, r14.2.2.2.1, r14.2.2.2.2.1, r14.2.2.2.2.2.1, r14.2.2.2.2.2.2.1, r14.2.2.2.2.2.2.2.1, r14.2.2.2.2.2.2.2.2.1, r14.2.2.2.2.2.2.2.2.2.1, r14.2.2.2.2.2.2.2.2.2.2), s_NextID, 0)
      | none => none)
     | none => none)
    else none
   | none => none)
  | none => none)
 | none => none)
theorem ev50 (s_W_Now : Int) (s_W_T : List Task) (s_W_A : List Ape) (s_W_Cur : Int) (s_R_On : Bool) (s_R_Since s_R_By s_R_New : Int) (s_R_L : List Aim) (s_NextID s_NextAp : Int) (p : Spec) : evC (R' := [.agg [.i, .own .task 54, .own .ape 88, .i, .b, .i, .i, .i, .own .aim 91, .i, .i], .cell .i, .cell .i]) P KK T63 LOrc.none 50 [.agg [.i, .sl .task, .sl .ape, .i, .b, .i, .i, .i, .sl .aim, .i, .i], .el .spec] ((s_W_Now, s_W_T, s_W_A, s_W_Cur, s_R_On, s_R_Since, s_R_By, s_R_New, s_R_L, s_NextID, s_NextAp, ()), p, ()) = F50 s_W_Now s_W_T s_W_A s_W_Cur s_R_On s_R_Since s_R_By s_R_New s_R_L s_NextID s_NextAp p := by kernel_rfl
def g50 : Sig := ⟨[.agg [.i, .sl .task, .sl .ape, .i, .b, .i, .i, .i, .sl .aim, .i, .i], .el .spec], [.agg [.i, .own .task 54, .own .ape 88, .i, .b, .i, .i, .i, .own .aim 91, .i, .i], .cell .i, .cell .i]⟩
def T50 {R : Type} : Orc R := fun f args h k => bif Nat.beq f 50 then contract g50 (fun d => F50 d.1.1 d.1.2.1 d.1.2.2.1 d.1.2.2.2.1 d.1.2.2.2.2.1 d.1.2.2.2.2.2.1 d.1.2.2.2.2.2.2.1 d.1.2.2.2.2.2.2.2.1 d.1.2.2.2.2.2.2.2.2.1 d.1.2.2.2.2.2.2.2.2.2.1 d.1.2.2.2.2.2.2.2.2.2.2.1 d.2.1) args h k else T63 f args h k
def K69 {R : Type} (kk : (Spec × Bool) → R) (s : Spec) (t high : Int) : R :=
 bif (!(F104 s)) then
  kk ((Spec.mk 0 0 0 0 0 0), false)
 else bif (!(F104 (Spec.mk s.C t high s.M s.K s.E))) then
  kk ((Spec.mk 0 0 0 0 0 0), false)
 else kk ((Spec.mk s.C t high s.M s.K s.E), true)
def F69 (s : Spec) (t high : Int) : Spec × Bool := K69 (fun r => r) s t high
theorem ev69 (s : Spec) (t high : Int) : evC (R' := [.el .spec, .cell .b]) P KK T50 LOrc.none 69 [.el .spec, .cell .i, .cell .i] (s, t, high, ()) = some (F69 s t high) := by
 rw [show evC (R' := [.el .spec, .cell .b]) P KK T50 LOrc.none 69 [.el .spec, .cell .i, .cell .i] (s, t, high, ()) = K69 some s t high from by kernel_rfl]
 simp only [F69, K69, some_cond]
 try rfl
def g69 : Sig := ⟨[.el .spec, .cell .i, .cell .i], [.el .spec, .cell .b]⟩
def T69 {R : Type} : Orc R := fun f args h k => bif Nat.beq f 69 then contract g69 (fun d => some (F69 d.1 d.2.1 d.2.2.1)) args h k else T50 f args h k
def F51 (s_W_Now : Int) (s_W_T : List Task) (s_W_A : List Ape) (s_W_Cur : Int) (s_R_On : Bool) (s_R_Since s_R_By s_R_New : Int) (s_R_L : List Aim) (s_NextID s_NextAp id t high : Int) : Option ((Int × (List Task) × (List Ape) × Int × Bool × Int × Int × Int × (List Aim) × Int × Int) × Int) :=
 (match (F68 s_W_Now s_W_T s_W_A s_W_Cur s_R_On s_R_Since s_R_By s_R_New s_R_L s_NextID s_NextAp id) with
 | some r1 => (match (F63 s_W_Now s_W_T s_W_A s_W_Cur s_R_On s_R_Since s_R_By s_R_New s_R_L s_NextID s_NextAp) with
  | some r2 => (match (F62 fuel ([r2, (F61 (decide (r1 = (-1))) 2)])) with
   | some r3 => bif (!(decide (r3 = 0))) then
     (match (F64 s_W_Now s_W_T s_W_A s_W_Cur s_R_On s_R_Since s_R_By s_R_New s_R_L s_NextID s_NextAp) with
     | some r4 => some ((r4.1, r4.2.1, r4.2.2.1, r4.2.2.2.1, r4.2.2.2.2.1, r4.2.2.2.2.2.1, r4.2.2.2.2.2.2.1, r4.2.2.2.2.2.2.2.1, r4.2.2.2.2.2.2.2.2.1, r4.2.2.2.2.2.2.2.2.2.1, r4.2.2.2.2.2.2.2.2.2.2), r3)
     | none => none)
    else (match (F66 fuel s_W_Now s_W_T s_W_A s_W_Cur s_R_On s_R_Since s_R_By s_R_New s_R_L s_NextID s_NextAp) with
    | some r5 => bif (decide (0 ≤ r1) && decide (r1 < (r5.length : Int))) then (match r5[(Int.toNat r1)]? with
      | some x6 => let r7 := (F69 x6 t high)
       bif (!r7.2) then
        (match (F64 s_W_Now s_W_T s_W_A s_W_Cur s_R_On s_R_Since s_R_By s_R_New s_R_L s_NextID s_NextAp) with
        | some r8 => some ((r8.1, r8.2.1, r8.2.2.1, r8.2.2.2.1, r8.2.2.2.2.1, r8.2.2.2.2.2.1, r8.2.2.2.2.2.2.1, r8.2.2.2.2.2.2.2.1, r8.2.2.2.2.2.2.2.2.1, r8.2.2.2.2.2.2.2.2.2.1, r8.2.2.2.2.2.2.2.2.2.2), 1)
        | none => none)
       else bif (decide (0 ≤ r1) && decide (r1 < (r5.length : Int))) then (match r5[(Int.toNat r1)]? with
        | some x9 => (match (F65 (r5.set (Int.toNat r1) r7.1)) with
         | some r10 => bif (!(decide (r10.2 = 0))) then
           (match (F64 s_W_Now s_W_T s_W_A s_W_Cur s_R_On s_R_Since s_R_By s_R_New s_R_L s_NextID s_NextAp) with
           | some r11 => some ((r11.1, r11.2.1, r11.2.2.1, r11.2.2.2.1, r11.2.2.2.2.1, r11.2.2.2.2.2.1, r11.2.2.2.2.2.2.1, r11.2.2.2.2.2.2.2.1, r11.2.2.2.2.2.2.2.2.1, r11.2.2.2.2.2.2.2.2.2.1, r11.2.2.2.2.2.2.2.2.2.2), r10.2)
           | none => none)
          else (match (F67 fuel s_W_Now s_W_T s_W_A s_W_Cur s_R_On s_R_Since s_R_By s_R_New s_R_L s_NextID s_NextAp (-1) r10.1) with
          | some r12 => some ((r12.1, r12.2.1, r12.2.2.1, r12.2.2.2.1, r12.2.2.2.2.1, r12.2.2.2.2.2.1, r12.2.2.2.2.2.2.1, r12.2.2.2.2.2.2.2.1, r12.2.2.2.2.2.2.2.2.1, r12.2.2.2.2.2.2.2.2.2.1, r12.2.2.2.2.2.2.2.2.2.2), 0)
          | none => none)
         | none => none)
        | none => none)
       else none
      | none => none)
     else none
    | none => none)
   | none => none)
  | none => none)
 | none => none)
theorem ev51 (s_W_Now : Int) (s_W_T : List Task) (s_W_A : List Ape) (s_W_Cur : Int) (s_R_On : Bool) (s_R_Since s_R_By s_R_New : Int) (s_R_L : List Aim) (s_NextID s_NextAp id t high : Int) : evC (R' := [.agg [.i, .own .task 54, .own .ape 88, .i, .b, .i, .i, .i, .own .aim 91, .i, .i], .cell .i]) P KK T69 LOrc.none 51 [.agg [.i, .sl .task, .sl .ape, .i, .b, .i, .i, .i, .sl .aim, .i, .i], .cell .i, .cell .i, .cell .i] ((s_W_Now, s_W_T, s_W_A, s_W_Cur, s_R_On, s_R_Since, s_R_By, s_R_New, s_R_L, s_NextID, s_NextAp, ()), id, t, high, ()) = F51 s_W_Now s_W_T s_W_A s_W_Cur s_R_On s_R_Since s_R_By s_R_New s_R_L s_NextID s_NextAp id t high := by kernel_rfl
def g51 : Sig := ⟨[.agg [.i, .sl .task, .sl .ape, .i, .b, .i, .i, .i, .sl .aim, .i, .i], .cell .i, .cell .i, .cell .i], [.agg [.i, .own .task 54, .own .ape 88, .i, .b, .i, .i, .i, .own .aim 91, .i, .i], .cell .i]⟩
def T51 {R : Type} : Orc R := fun f args h k => bif Nat.beq f 51 then contract g51 (fun d => F51 d.1.1 d.1.2.1 d.1.2.2.1 d.1.2.2.2.1 d.1.2.2.2.2.1 d.1.2.2.2.2.2.1 d.1.2.2.2.2.2.2.1 d.1.2.2.2.2.2.2.2.1 d.1.2.2.2.2.2.2.2.2.1 d.1.2.2.2.2.2.2.2.2.2.1 d.1.2.2.2.2.2.2.2.2.2.2.1 d.2.1 d.2.2.1 d.2.2.2.1) args h k else T69 f args h k
def F70  : Bool × Int × Int × Int × (List Aim) :=
 (false, 0, 0, (-1), [])
theorem ev70  : evC (R' := [.agg [.b, .i, .i, .i, .own .aim 91]]) P KK T51 LOrc.none 70 [] () = some (F70) := by kernel_rfl
def g70 : Sig := ⟨[], [.agg [.b, .i, .i, .i, .own .aim 91]]⟩
def T70 {R : Type} : Orc R := fun f args h k => bif Nat.beq f 70 then contract g70 (fun d => some (F70)) args h k else T51 f args h k
def S59_72_2 {R : Type} (e0 : Int → Option R) (e1 : Option R) (y1 : Int) (y3 : List Task) (y4 : Int) (rec : Int → Option R) (y2 : Int) : Option R :=
 bif decide (y2 < y1) then
  bif (decide (0 ≤ y2) && decide (y2 < (y3.length : Int))) then (match y3[(Int.toNat y2)]? with
   | some x5 => bif decide (x5.ID = y4) then
     e0 y2
    else rec (wI (y2 + 1))
   | none => none)
  else none
 else e1
def L59_72_2 {R : Type} (e0 : Int → Option R) (e1 : Option R) (y1 : Int) (y3 : List Task) (y4 : Int) : Nat → Int → Option R
 | 0 => fun _ => none
 | n + 1 => S59_72_2  e0 e1 y1 y3 y4 (L59_72_2  e0 e1 y1 y3 y4 n)
def ps59_72_2 : PSt := { live := [0, 1, 7, 8], nt := 19, env := [.whole 0, .fn 72 [1], .i, .i], heap := [.typ false true false 0 .task, .gen false false false 0 1 [[.i]]] }
abbrev st59_72_2 (y1 y2 : Int) (y3 : List Task) (y4 : Int) : St := ⟨[.whole 0, .fn (.func 72) [] [.ptr 1 0 0], dd, dd, dd, dd, dd, I y1, I y2, dd, dd, dd, dd, dd, dd, dd, dd, dd, dd], [some ⟨false, true, false, 0, .typ .task y3⟩, some ⟨false, false, false, 0, .gen 1 [[I y4]]⟩]⟩
abbrev sx59_72_2_0 (z0 : Int) (z1 : List Task) (z2 : Int) : St := ⟨[dd, dd, dd, dd, I z0, dd, dd, dd, dd, dd, dd, dd, dd, dd, dd, dd, dd, dd, dd], [some ⟨false, true, false, 0, .typ .task z1⟩, some ⟨false, false, false, 0, .gen 1 [[I z2]]⟩]⟩
abbrev sx59_72_2_1 (z0 : List Task) (z1 : Int) : St := ⟨[dd, dd, dd, dd, dd, dd, dd, dd, dd, dd, dd, dd, dd, dd, dd, dd, dd, dd, dd], [some ⟨false, true, false, 0, .typ .task z0⟩, some ⟨false, false, false, 0, .gen 1 [[I z1]]⟩]⟩
theorem ly59_72_2 (y1 y2 : Int) (y3 : List Task) (y4 : Int) : layS ps59_72_2 (y1, y2, y3, y4, ()) = st59_72_2 y1 y2 y3 y4 := by kernel_rfl
abbrev E59_72_2_0 {R : Type} (k : Ex → St → Option R) (y3 : List Task) (y4 z0 : Int) : Option R := k .ret (sx59_72_2_0 z0 y3 y4)
abbrev E59_72_2_1 {R : Type} (k : Ex → St → Option R) (y3 : List Task) (y4 : Int) : Option R := k (.exit 0) (sx59_72_2_1 y3 y4)
noncomputable abbrev J59_72_2 {R : Type} (n : Nat) (y1 : Int) (y3 : List Task) (y4 y2 : Int) (k : Ex → St → Option R) : Option R :=
 iter (ev P KK T70 LOrc.none 300 59 (loopOf P 59 2)) (headL P KK (KK.ann 59 2) 2) (gcL (KK.ann 59 2).out 2) n (st59_72_2 y1 y2 y3 y4) k
theorem k59_72_2 {R : Type} (n : Nat) (y1 : Int) (y3 : List Task) (y4 y2 : Int) (k : Ex → St → Option R) : J59_72_2  (n + 1) y1 y3 y4 y2 k = S59_72_2  (E59_72_2_0 k y3 y4) (E59_72_2_1 k y3 y4) y1 y3 y4 (fun y2 => J59_72_2  n y1 y3 y4 y2 k) y2 := by kernel_rfl
theorem it59_72_2 {R : Type} (y1 : Int) (y3 : List Task) (y4 : Int) (k : Ex → St → Option R) : ∀ (n : Nat) (y2 : Int), J59_72_2  n y1 y3 y4 y2 k = L59_72_2  (E59_72_2_0 k y3 y4) (E59_72_2_1 k y3 y4) y1 y3 y4 n y2 := by
 intro n
 induction n with
 | zero => intros; rfl
 | succ n ih =>
  intro y2
  rw [k59_72_2, show (fun y2 => J59_72_2  n y1 y3 y4 y2 k) = L59_72_2  (E59_72_2_0 k y3 y4) (E59_72_2_1 k y3 y4) y1 y3 y4 n from by funext y2; exact ih y2]
  rfl
def lb59_72_2 {R : Type} (lf : Nat) (d : ps59_72_2.D) (k : Ex → St → Option R) : Option R := match d with
 | (y1, y2, y3, y4, ()) => L59_72_2  (E59_72_2_0 k y3 y4) (E59_72_2_1 k y3 y4) y1 y3 y4 lf y2
def lt59_72_2 {R : Type} (lf : Nat) : LOrc R := fun f id n0 st k => bif Nat.beq f 59 && (Nat.beq id 2 && Nat.beq n0 2) then readS ps59_72_2 st fun d => lb59_72_2 lf d k else LOrc.none f id n0 st k
def F59_72 (lf : Nat) (s : List Task) (c1_0_0 : Int) : Option (Int) :=
 L59_72_2 (fun z6 => some z6) (some (-1)) (s.length : Int) s c1_0_0 lf 0
theorem ev59_72 (lf : Nat) (s : List Task) (c1_0_0 : Int) : evC (R' := [.cell .i]) P KK T70 (lt59_72_2 lf) 59 [.cell (.sl .task), .clo 72 [[.i]]] (s, ((c1_0_0, ()), ()), ()) = F59_72 lf s c1_0_0 := by kernel_rfl
def g59_72 : Sig := ⟨[.cell (.sl .task), .clo 72 [[.i]]], [.cell .i]⟩
def T59_72 {R : Type} : Orc R := fun f args h k => bif Nat.beq f 59 && cloIs 1 72 args then contract g59_72 (fun d => F59_72 fuel d.1 d.2.1.1.1) args h k else T70 f args h k
def S105_74_2 {R : Type} (e0 : Int → Option R) (e1 : Option R) (y1 : Int) (y3 : List Aim) (y4 : Int) (rec : Int → Option R) (y2 : Int) : Option R :=
 bif decide (y2 < y1) then
  bif (decide (0 ≤ y2) && decide (y2 < (y3.length : Int))) then (match y3[(Int.toNat y2)]? with
   | some x5 => bif decide (x5.ID = y4) then
     e0 y2
    else rec (wI (y2 + 1))
   | none => none)
  else none
 else e1
def L105_74_2 {R : Type} (e0 : Int → Option R) (e1 : Option R) (y1 : Int) (y3 : List Aim) (y4 : Int) : Nat → Int → Option R
 | 0 => fun _ => none
 | n + 1 => S105_74_2  e0 e1 y1 y3 y4 (L105_74_2  e0 e1 y1 y3 y4 n)
def ps105_74_2 : PSt := { live := [0, 1, 7, 8], nt := 19, env := [.whole 0, .fn 74 [1], .i, .i], heap := [.typ false true false 0 .aim, .gen false false false 0 1 [[.i]]] }
abbrev st105_74_2 (y1 y2 : Int) (y3 : List Aim) (y4 : Int) : St := ⟨[.whole 0, .fn (.func 74) [] [.ptr 1 0 0], dd, dd, dd, dd, dd, I y1, I y2, dd, dd, dd, dd, dd, dd, dd, dd, dd, dd], [some ⟨false, true, false, 0, .typ .aim y3⟩, some ⟨false, false, false, 0, .gen 1 [[I y4]]⟩]⟩
abbrev sx105_74_2_0 (z0 : Int) (z1 : List Aim) (z2 : Int) : St := ⟨[dd, dd, dd, dd, I z0, dd, dd, dd, dd, dd, dd, dd, dd, dd, dd, dd, dd, dd, dd], [some ⟨false, true, false, 0, .typ .aim z1⟩, some ⟨false, false, false, 0, .gen 1 [[I z2]]⟩]⟩
abbrev sx105_74_2_1 (z0 : List Aim) (z1 : Int) : St := ⟨[dd, dd, dd, dd, dd, dd, dd, dd, dd, dd, dd, dd, dd, dd, dd, dd, dd, dd, dd], [some ⟨false, true, false, 0, .typ .aim z0⟩, some ⟨false, false, false, 0, .gen 1 [[I z1]]⟩]⟩
theorem ly105_74_2 (y1 y2 : Int) (y3 : List Aim) (y4 : Int) : layS ps105_74_2 (y1, y2, y3, y4, ()) = st105_74_2 y1 y2 y3 y4 := by kernel_rfl
abbrev E105_74_2_0 {R : Type} (k : Ex → St → Option R) (y3 : List Aim) (y4 z0 : Int) : Option R := k .ret (sx105_74_2_0 z0 y3 y4)
abbrev E105_74_2_1 {R : Type} (k : Ex → St → Option R) (y3 : List Aim) (y4 : Int) : Option R := k (.exit 0) (sx105_74_2_1 y3 y4)
noncomputable abbrev J105_74_2 {R : Type} (n : Nat) (y1 : Int) (y3 : List Aim) (y4 y2 : Int) (k : Ex → St → Option R) : Option R :=
 iter (ev P KK T59_72 LOrc.none 300 105 (loopOf P 105 2)) (headL P KK (KK.ann 105 2) 2) (gcL (KK.ann 105 2).out 2) n (st105_74_2 y1 y2 y3 y4) k
theorem k105_74_2 {R : Type} (n : Nat) (y1 : Int) (y3 : List Aim) (y4 y2 : Int) (k : Ex → St → Option R) : J105_74_2  (n + 1) y1 y3 y4 y2 k = S105_74_2  (E105_74_2_0 k y3 y4) (E105_74_2_1 k y3 y4) y1 y3 y4 (fun y2 => J105_74_2  n y1 y3 y4 y2 k) y2 := by kernel_rfl
theorem it105_74_2 {R : Type} (y1 : Int) (y3 : List Aim) (y4 : Int) (k : Ex → St → Option R) : ∀ (n : Nat) (y2 : Int), J105_74_2  n y1 y3 y4 y2 k = L105_74_2  (E105_74_2_0 k y3 y4) (E105_74_2_1 k y3 y4) y1 y3 y4 n y2 := by
 intro n
 induction n with
 | zero => intros; rfl
 | succ n ih =>
  intro y2
  rw [k105_74_2, show (fun y2 => J105_74_2  n y1 y3 y4 y2 k) = L105_74_2  (E105_74_2_0 k y3 y4) (E105_74_2_1 k y3 y4) y1 y3 y4 n from by funext y2; exact ih y2]
  rfl
def lb105_74_2 {R : Type} (lf : Nat) (d : ps105_74_2.D) (k : Ex → St → Option R) : Option R := match d with
 | (y1, y2, y3, y4, ()) => L105_74_2  (E105_74_2_0 k y3 y4) (E105_74_2_1 k y3 y4) y1 y3 y4 lf y2
def lt105_74_2 {R : Type} (lf : Nat) : LOrc R := fun f id n0 st k => bif Nat.beq f 105 && (Nat.beq id 2 && Nat.beq n0 2) then readS ps105_74_2 st fun d => lb105_74_2 lf d k else LOrc.none f id n0 st k
def F105_74 (lf : Nat) (s : List Aim) (c1_0_0 : Int) : Option (Int) :=
 L105_74_2 (fun z6 => some z6) (some (-1)) (s.length : Int) s c1_0_0 lf 0
theorem ev105_74 (lf : Nat) (s : List Aim) (c1_0_0 : Int) : evC (R' := [.cell .i]) P KK T59_72 (lt105_74_2 lf) 105 [.cell (.sl .aim), .clo 74 [[.i]]] (s, ((c1_0_0, ()), ()), ()) = F105_74 lf s c1_0_0 := by kernel_rfl
def g105_74 : Sig := ⟨[.cell (.sl .aim), .clo 74 [[.i]]], [.cell .i]⟩
def T105_74 {R : Type} : Orc R := fun f args h k => bif Nat.beq f 105 && cloIs 1 74 args then contract g105_74 (fun d => F105_74 fuel d.1 d.2.1.1.1) args h k else T59_72 f args h k
def S71_72_5 {R : Type} (e0 : Int → (List Task) → Option R) (y5 : Int) (rec : Int → Int → (List Task) → Option R) (y2 y3 : Int) (y4 : List Task) : Option R :=
 bif decide (y3 < (y4.length : Int)) then
  bif (decide (0 ≤ y3) && decide (y3 < (y4.length : Int))) then (match y4[(Int.toNat y3)]? with
   | some x6 => bif (!(decide (x6.ID = y5))) then
     bif (decide (0 ≤ y2) && decide (y2 < (y4.length : Int))) then (match y4[(Int.toNat y2)]? with
      | some x7 => rec (wI (y2 + 1)) (wI (y3 + 1)) (y4.set (Int.toNat y2) x6)
      | none => none)
     else none
    else rec y2 (wI (y3 + 1)) y4
   | none => none)
  else none
 else e0 y2 y4
def L71_72_5 {R : Type} (e0 : Int → (List Task) → Option R) (y5 : Int) : Nat → Int → Int → (List Task) → Option R
 | 0 => fun _ _ _ => none
 | n + 1 => S71_72_5  e0 y5 (L71_72_5  e0 y5 n)
def ps71_72_5 : PSt := { live := [0, 1, 5, 6], nt := 42, env := [.whole 0, .fn 72 [1], .i, .i], heap := [.typ true true false 54 .task, .gen false false false 0 1 [[.i]]] }
abbrev st71_72_5 (y2 y3 : Int) (y4 : List Task) (y5 : Int) : St := ⟨[.whole 0, .fn (.func 72) [] [.ptr 1 0 0], dd, dd, dd, I y2, I y3, dd, dd, dd, dd, dd, dd, dd, dd, dd, dd, dd, dd, dd, dd, dd, dd, dd, dd, dd, dd, dd, dd, dd, dd, dd, dd, dd, dd, dd, dd, dd, dd, dd, dd, dd], [some ⟨true, true, false, 54, .typ .task y4⟩, some ⟨false, false, false, 0, .gen 1 [[I y5]]⟩]⟩
abbrev sx71_72_5_0 (z0 : Int) (z1 : List Task) (z2 : Int) : St := ⟨[.whole 0, dd, dd, dd, dd, I z0, dd, dd, dd, dd, dd, dd, dd, dd, dd, dd, dd, dd, dd, dd, dd, dd, dd, dd, dd, dd, dd, dd, dd, dd, dd, dd, dd, dd, dd, dd, dd, dd, dd, dd, dd, dd], [some ⟨true, true, false, 54, .typ .task z1⟩, some ⟨false, false, false, 0, .gen 1 [[I z2]]⟩]⟩
theorem ly71_72_5 (y2 y3 : Int) (y4 : List Task) (y5 : Int) : layS ps71_72_5 (y2, y3, y4, y5, ()) = st71_72_5 y2 y3 y4 y5 := by kernel_rfl
abbrev E71_72_5_0 {R : Type} (k : Ex → St → Option R) (y5 z0 : Int) (z1 : List Task) : Option R := k (.exit 0) (sx71_72_5_0 z0 z1 y5)
noncomputable abbrev J71_72_5 {R : Type} (n : Nat) (y5 y2 y3 : Int) (y4 : List Task) (k : Ex → St → Option R) : Option R :=
 iter (ev P KK T105_74 LOrc.none 300 71 (loopOf P 71 5)) (headL P KK (KK.ann 71 5) 2) (gcL (KK.ann 71 5).out 2) n (st71_72_5 y2 y3 y4 y5) k
theorem k71_72_5 {R : Type} (n : Nat) (y5 y2 y3 : Int) (y4 : List Task) (k : Ex → St → Option R) : J71_72_5  (n + 1) y5 y2 y3 y4 k = S71_72_5  (E71_72_5_0 k y5) y5 (fun y2 y3 y4 => J71_72_5  n y5 y2 y3 y4 k) y2 y3 y4 := by kernel_rfl
theorem it71_72_5 {R : Type} (y5 : Int) (k : Ex → St → Option R) : ∀ (n : Nat) (y2 y3 : Int) (y4 : List Task), J71_72_5  n y5 y2 y3 y4 k = L71_72_5  (E71_72_5_0 k y5) y5 n y2 y3 y4 := by
 intro n
 induction n with
 | zero => intros; rfl
 | succ n ih =>
  intro y2 y3 y4
  rw [k71_72_5, show (fun y2 y3 y4 => J71_72_5  n y5 y2 y3 y4 k) = L71_72_5  (E71_72_5_0 k y5) y5 n from by funext y2 y3 y4; exact ih y2 y3 y4]
  rfl
def lb71_72_5 {R : Type} (lf : Nat) (d : ps71_72_5.D) (k : Ex → St → Option R) : Option R := match d with
 | (y2, y3, y4, y5, ()) => L71_72_5  (E71_72_5_0 k y5) y5 lf y2 y3 y4
def lt71_72_5 {R : Type} (lf : Nat) : LOrc R := fun f id n0 st k => bif Nat.beq f 71 && (Nat.beq id 5 && Nat.beq n0 2) then readS ps71_72_5 st fun d => lb71_72_5 lf d k else LOrc.none f id n0 st k
def F71_72 (lf : Nat) (s : List Task) (c1_0_0 : Int) : Option (List Task) :=
 (match (F59_72 fuel s c1_0_0) with
 | some r1 => bif decide (r1 = (-1)) then
   some s
  else L71_72_5 (fun z8 z9 => bif (decide (0 ≤ z8) && decide (z8 ≤ (z9.length : Int))) then bif Nat.ble ((Int.toNat z8) + (z9.length - (Int.toNat z8))) z9.length then bif (decide (0 ≤ z8) && decide (z8 ≤ ((z9.take (Int.toNat z8) ++ (List.replicate (z9.length - (Int.toNat z8)) (Task.mk 0 (Spec.mk 0 0 0 0 0 0) 0 0 0 0 (Job.mk false 0 0 0 false 0 0 0) (Ring.mk 0 0) false) ++ z9.drop ((Int.toNat z8) + (z9.length - (Int.toNat z8))))).length : Int))) then bif Nat.ble ((Int.toNat z8) - 0) ((z9.take (Int.toNat z8) ++ (List.replicate (z9.length - (Int.toNat z8)) (Task.mk 0 (Spec.mk 0 0 0 0 0 0) 0 0 0 0 (Job.mk false 0 0 0 false 0 0 0) (Ring.mk 0 0) false) ++ z9.drop ((Int.toNat z8) + (z9.length - (Int.toNat z8))))).length) then some ((z9.take (Int.toNat z8) ++ (List.replicate (z9.length - (Int.toNat z8)) (Task.mk 0 (Spec.mk 0 0 0 0 0 0) 0 0 0 0 (Job.mk false 0 0 0 false 0 0 0) (Ring.mk 0 0) false) ++ z9.drop ((Int.toNat z8) + (z9.length - (Int.toNat z8))))).take ((Int.toNat z8) - 0))
       else none
      else none
     else none
    else none) c1_0_0 lf r1 (wI (r1 + 1)) s
 | none => none)
theorem ev71_72 (lf : Nat) (s : List Task) (c1_0_0 : Int) : evC (R' := [.cell (.own .task 54)]) P KK T105_74 (lt71_72_5 lf) 71 [.own .task 54, .clo 72 [[.i]]] (s, ((c1_0_0, ()), ()), ()) = F71_72 lf s c1_0_0 := by kernel_rfl
def g71_72 : Sig := ⟨[.own .task 54, .clo 72 [[.i]]], [.cell (.own .task 54)]⟩
def T71_72 {R : Type} : Orc R := fun f args h k => bif Nat.beq f 71 && cloIs 1 72 args then contract g71_72 (fun d => F71_72 fuel d.1 d.2.1.1.1) args h k else T105_74 f args h k
end Go.Abs
