/- Own: Functions of the program as Lean functions, and that the interpreter comes to them. -/
import Derived.Test.YtmiajnodoigndaaGreatTr6
set_option linter.unusedVariables false
set_option linter.unusedSimpArgs false
set_option maxRecDepth 1000000
set_option maxHeartbeats 16000000
namespace Go.Abs
def S73_74_5 {R : Type} (e0 : Int → (List Aim) → Option R) (y5 : Int) (rec : Int → Int → (List Aim) → Option R) (y2 y3 : Int) (y4 : List Aim) : Option R :=
 bif decide (y3 < (y4.length : Int)) then
  bif (decide (0 ≤ y3) && decide (y3 < (y4.length : Int))) then (match y4[(Int.toNat y3)]? with
   | some x6 => bif (!(decide (x6.ID = y5))) then
     bif (decide (0 ≤ y2) && decide (y2 < (y4.length : Int))) then (match y4[(Int.toNat y2)]? with
      | some x7 => rec (wI (y2 + 1)) (wI (y3 + 1)) (y4.set (Int.toNat y2) x6)
      | none => none)
     else none
    else rec y2 (wI (y3 + 1)) y4
   | none => none)
  else none
 else e0 y2 y4
def L73_74_5 {R : Type} (e0 : Int → (List Aim) → Option R) (y5 : Int) : Nat → Int → Int → (List Aim) → Option R
 | 0 => fun _ _ _ => none
 | n + 1 => S73_74_5  e0 y5 (L73_74_5  e0 y5 n)
def ps73_74_5 : PSt := { live := [0, 1, 5, 6], nt := 42, env := [.whole 0, .fn 74 [1], .i, .i], heap := [.typ true true false 91 .aim, .gen false false false 0 1 [[.i]]] }
abbrev st73_74_5 (y2 y3 : Int) (y4 : List Aim) (y5 : Int) : St := ⟨[.whole 0, .fn (.func 74) [] [.ptr 1 0 0], dd, dd, dd, I y2, I y3, dd, dd, dd, dd, dd, dd, dd, dd, dd, dd, dd, dd, dd, dd, dd, dd, dd, dd, dd, dd, dd, dd, dd, dd, dd, dd, dd, dd, dd, dd, dd, dd, dd, dd, dd], [some ⟨true, true, false, 91, .typ .aim y4⟩, some ⟨false, false, false, 0, .gen 1 [[I y5]]⟩]⟩
abbrev sx73_74_5_0 (z0 : Int) (z1 : List Aim) (z2 : Int) : St := ⟨[.whole 0, dd, dd, dd, dd, I z0, dd, dd, dd, dd, dd, dd, dd, dd, dd, dd, dd, dd, dd, dd, dd, dd, dd, dd, dd, dd, dd, dd, dd, dd, dd, dd, dd, dd, dd, dd, dd, dd, dd, dd, dd, dd], [some ⟨true, true, false, 91, .typ .aim z1⟩, some ⟨false, false, false, 0, .gen 1 [[I z2]]⟩]⟩
theorem ly73_74_5 (y2 y3 : Int) (y4 : List Aim) (y5 : Int) : layS ps73_74_5 (y2, y3, y4, y5, ()) = st73_74_5 y2 y3 y4 y5 := by kernel_rfl
abbrev E73_74_5_0 {R : Type} (k : Ex → St → Option R) (y5 z0 : Int) (z1 : List Aim) : Option R := k (.exit 0) (sx73_74_5_0 z0 z1 y5)
noncomputable abbrev J73_74_5 {R : Type} (n : Nat) (y5 y2 y3 : Int) (y4 : List Aim) (k : Ex → St → Option R) : Option R :=
 iter (ev P KK T71_72 LOrc.none 300 73 (loopOf P 73 5)) (headL P KK (KK.ann 73 5) 2) (gcL (KK.ann 73 5).out 2) n (st73_74_5 y2 y3 y4 y5) k
theorem k73_74_5 {R : Type} (n : Nat) (y5 y2 y3 : Int) (y4 : List Aim) (k : Ex → St → Option R) : J73_74_5  (n + 1) y5 y2 y3 y4 k = S73_74_5  (E73_74_5_0 k y5) y5 (fun y2 y3 y4 => J73_74_5  n y5 y2 y3 y4 k) y2 y3 y4 := by kernel_rfl
theorem it73_74_5 {R : Type} (y5 : Int) (k : Ex → St → Option R) : ∀ (n : Nat) (y2 y3 : Int) (y4 : List Aim), J73_74_5  n y5 y2 y3 y4 k = L73_74_5  (E73_74_5_0 k y5) y5 n y2 y3 y4 := by
 intro n
 induction n with
 | zero => intros; rfl
 | succ n ih =>
  intro y2 y3 y4
  rw [k73_74_5, show (fun y2 y3 y4 => J73_74_5  n y5 y2 y3 y4 k) = L73_74_5  (E73_74_5_0 k y5) y5 n from by funext y2 y3 y4; exact ih y2 y3 y4]
  rfl
def lb73_74_5 {R : Type} (lf : Nat) (d : ps73_74_5.D) (k : Ex → St → Option R) : Option R := match d with
 | (y2, y3, y4, y5, ()) => L73_74_5  (E73_74_5_0 k y5) y5 lf y2 y3 y4
def lt73_74_5 {R : Type} (lf : Nat) : LOrc R := fun f id n0 st k => bif Nat.beq f 73 && (Nat.beq id 5 && Nat.beq n0 2) then readS ps73_74_5 st fun d => lb73_74_5 lf d k else LOrc.none f id n0 st k
def F73_74 (lf : Nat) (s : List Aim) (c1_0_0 : Int) : Option (List Aim) :=
 (match (F105_74 fuel s c1_0_0) with
 | some r1 => bif decide (r1 = (-1)) then
   some s
  else L73_74_5 (fun z8 z9 => bif (decide (0 ≤ z8) && decide (z8 ≤ (z9.length : Int))) then bif Nat.ble ((Int.toNat z8) + (z9.length - (Int.toNat z8))) z9.length then bif (decide (0 ≤ z8) && decide (z8 ≤ ((z9.take (Int.toNat z8) ++ (List.replicate (z9.length - (Int.toNat z8)) (Aim.mk 0 (Spec.mk 0 0 0 0 0 0) 0) ++ z9.drop ((Int.toNat z8) + (z9.length - (Int.toNat z8))))).length : Int))) then bif Nat.ble ((Int.toNat z8) - 0) ((z9.take (Int.toNat z8) ++ (List.replicate (z9.length - (Int.toNat z8)) (Aim.mk 0 (Spec.mk 0 0 0 0 0 0) 0) ++ z9.drop ((Int.toNat z8) + (z9.length - (Int.toNat z8))))).length) then some ((z9.take (Int.toNat z8) ++ (List.replicate (z9.length - (Int.toNat z8)) (Aim.mk 0 (Spec.mk 0 0 0 0 0 0) 0) ++ z9.drop ((Int.toNat z8) + (z9.length - (Int.toNat z8))))).take ((Int.toNat z8) - 0))
       else none
      else none
     else none
    else none) c1_0_0 lf r1 (wI (r1 + 1)) s
 | none => none)
theorem ev73_74 (lf : Nat) (s : List Aim) (c1_0_0 : Int) : evC (R' := [.cell (.own .aim 91)]) P KK T71_72 (lt73_74_5 lf) 73 [.own .aim 91, .clo 74 [[.i]]] (s, ((c1_0_0, ()), ()), ()) = F73_74 lf s c1_0_0 := by kernel_rfl
def g73_74 : Sig := ⟨[.own .aim 91, .clo 74 [[.i]]], [.cell (.own .aim 91)]⟩
def T73_74 {R : Type} : Orc R := fun f args h k => bif Nat.beq f 73 && cloIs 1 74 args then contract g73_74 (fun d => F73_74 fuel d.1 d.2.1.1.1) args h k else T71_72 f args h k
def F52 (s_W_Now : Int) (s_W_T : List Task) (s_W_A : List Ape) (s_W_Cur : Int) (s_R_On : Bool) (s_R_Since s_R_By s_R_New : Int) (s_R_L : List Aim) (s_NextID s_NextAp id : Int) : Option ((Int × (List Task) × (List Ape) × Int × Bool × Int × Int × Int × (List Aim) × Int × Int) × Int) :=
 (match (F64 s_W_Now s_W_T s_W_A s_W_Cur s_R_On s_R_Since s_R_By s_R_New s_R_L s_NextID s_NextAp) with
 | some r1 => bif r1.2.2.2.2.1 then
   bif decide (r1.2.2.2.2.2.2.2.1 = id) then
    (match (F16 r1.1 r1.2.1 r1.2.2.1 r1.2.2.2.1 r1.2.2.2.2.1 r1.2.2.2.2.2.1 r1.2.2.2.2.2.2.1 r1.2.2.2.2.2.2.2.1 r1.2.2.2.2.2.2.2.2.1 r1.2.2.2.2.2.2.2.2.2.1 r1.2.2.2.2.2.2.2.2.2.2) with
    | some r2 => (match (F68 r1.1 r1.2.1 r1.2.2.1 r1.2.2.2.1 r1.2.2.2.2.1 r1.2.2.2.2.2.1 r1.2.2.2.2.2.2.1 r1.2.2.2.2.2.2.2.1 r1.2.2.2.2.2.2.2.2.1 r1.2.2.2.2.2.2.2.2.2.1 r1.2.2.2.2.2.2.2.2.2.2 id) with
     | some r3 => bif decide (r3 = (-1)) then
       (match (F62 fuel ([(F61 (!r2) 1), (F61 (!(!(decide (id = (-1))))) 2)])) with
       | some r4 => bif (!(decide (r4 = 0))) then
         some ((r1.1, r1.2.1, r1.2.2.1, r1.2.2.2.1, r1.2.2.2.2.1, r1.2.2.2.2.2.1, r1.2.2.2.2.2.2.1, r1.2.2.2.2.2.2.2.1, r1.2.2.2.2.2.2.2.2.1, r1.2.2.2.2.2.2.2.2.2.1, r1.2.2.2.2.2.2.2.2.2.2), r4)
        else bif (!(decide (id = (-1)))) then
         let r5 := F70
         some ((r1.1, r1.2.1, r1.2.2.1, r1.2.2.2.1, r5.1, r5.2.1, r5.2.2.1, r5.2.2.2.1, r5.2.2.2.2, r1.2.2.2.2.2.2.2.2.2.1, r1.2.2.2.2.2.2.2.2.2.2), 0)
        else (match (F71_72 fuel r1.2.1 id) with
        | some r6 => (match (F73_74 fuel r1.2.2.2.2.2.2.2.2.1 id) with
         | some r7 => some ((r1.1, r6, r1.2.2.1, r1.2.2.2.1, r1.2.2.2.2.1, r1.2.2.2.2.2.1, r1.2.2.2.2.2.2.1, r1.2.2.2.2.2.2.2.1, r7, r1.2.2.2.2.2.2.2.2.2.1, r1.2.2.2.2.2.2.2.2.2.2), 0)
         | none => none)
        | none => none)
       | none => none)
      else (match (F62 fuel ([(F61 (!r2) 1), (F61 false 2)])) with
      | some r8 => bif (!(decide (r8 = 0))) then
        some ((r1.1, r1.2.1, r1.2.2.1, r1.2.2.2.1, r1.2.2.2.2.1, r1.2.2.2.2.2.1, r1.2.2.2.2.2.2.1, r1.2.2.2.2.2.2.2.1, r1.2.2.2.2.2.2.2.2.1, r1.2.2.2.2.2.2.2.2.2.1, r1.2.2.2.2.2.2.2.2.2.2), r8)
       else bif (!(decide (id = (-1)))) then
        let r9 := F70
        some ((r1.1, r1.2.1, r1.2.2.1, r1.2.2.2.1, r9.1, r9.2.1, r9.2.2.1, r9.2.2.2.1, r9.2.2.2.2, r1.2.2.2.2.2.2.2.2.2.1, r1.2.2.2.2.2.2.2.2.2.2), 0)
       else (match (F71_72 fuel r1.2.1 id) with
       | some r10 => (match (F73_74 fuel r1.2.2.2.2.2.2.2.2.1 id) with
        | some r11 => some ((r1.1, r10, r1.2.2.1, r1.2.2.2.1, r1.2.2.2.2.1, r1.2.2.2.2.2.1, r1.2.2.2.2.2.2.1, r1.2.2.2.2.2.2.2.1, r11, r1.2.2.2.2.2.2.2.2.2.1, r1.2.2.2.2.2.2.2.2.2.2), 0)
        | none => none)
       | none => none)
      | none => none)
     | none => none)
    | none => none)
   else (match (F16 r1.1 r1.2.1 r1.2.2.1 r1.2.2.2.1 r1.2.2.2.2.1 r1.2.2.2.2.2.1 r1.2.2.2.2.2.2.1 r1.2.2.2.2.2.2.2.1 r1.2.2.2.2.2.2.2.2.1 r1.2.2.2.2.2.2.2.2.2.1 r1.2.2.2.2.2.2.2.2.2.2) with
   | some r12 => (match (F68 r1.1 r1.2.1 r1.2.2.1 r1.2.2.2.1 r1.2.2.2.2.1 r1.2.2.2.2.2.1 r1.2.2.2.2.2.2.1 r1.2.2.2.2.2.2.2.1 r1.2.2.2.2.2.2.2.2.1 r1.2.2.2.2.2.2.2.2.2.1 r1.2.2.2.2.2.2.2.2.2.2 id) with
    | some r13 => bif decide (r13 = (-1)) then
      (match (F62 fuel ([(F61 (!r12) 1), (F61 true 2)])) with
      | some r14 => bif (!(decide (r14 = 0))) then
        some ((r1.1, r1.2.1, r1.2.2.1, r1.2.2.2.1, r1.2.2.2.2.1, r1.2.2.2.2.2.1, r1.2.2.2.2.2.2.1, r1.2.2.2.2.2.2.2.1, r1.2.2.2.2.2.2.2.2.1, r1.2.2.2.2.2.2.2.2.2.1, r1.2.2.2.2.2.2.2.2.2.2), r14)
       else (match (F71_72 fuel r1.2.1 id) with
       | some r15 => (match (F73_74 fuel r1.2.2.2.2.2.2.2.2.1 id) with
        | some r16 => some ((r1.1, r15, r1.2.2.1, r1.2.2.2.1, r1.2.2.2.2.1, r1.2.2.2.2.2.1, r1.2.2.2.2.2.2.1, r1.2.2.2.2.2.2.2.1, r16, r1.2.2.2.2.2.2.2.2.2.1, r1.2.2.2.2.2.2.2.2.2.2), 0)
        | none => none)
       | none => none)
      | none => none)
     else (match (F62 fuel ([(F61 (!r12) 1), (F61 false 2)])) with
     | some r17 => bif (!(decide (r17 = 0))) then
       some ((r1.1, r1.2.1, r1.2.2.1, r1.2.2.2.1, r1.2.2.2.2.1, r1.2.2.2.2.2.1, r1.2.2.2.2.2.2.1, r1.2.2.2.2.2.2.2.1, r1.2.2.2.2.2.2.2.2.1, r1.2.2.2.2.2.2.2.2.2.1, r1.2.2.2.2.2.2.2.2.2.2), r17)
      else (match (F71_72 fuel r1.2.1 id) with
      | some r18 => (match (F73_74 fuel r1.2.2.2.2.2.2.2.2.1 id) with
       | some r19 => some ((r1.1, r18, r1.2.2.1, r1.2.2.2.1, r1.2.2.2.2.1, r1.2.2.2.2.2.1, r1.2.2.2.2.2.2.1, r1.2.2.2.2.2.2.2.1, r19, r1.2.2.2.2.2.2.2.2.2.1, r1.2.2.2.2.2.2.2.2.2.2), 0)
       | none => none)
      | none => none)
     | none => none)
    | none => none)
   | none => none)
  else (match (F16 r1.1 r1.2.1 r1.2.2.1 r1.2.2.2.1 r1.2.2.2.2.1 r1.2.2.2.2.2.1 r1.2.2.2.2.2.2.1 r1.2.2.2.2.2.2.2.1 r1.2.2.2.2.2.2.2.2.1 r1.2.2.2.2.2.2.2.2.2.1 r1.2.2.2.2.2.2.2.2.2.2) with
  | some r20 => (match (F68 r1.1 r1.2.1 r1.2.2.1 r1.2.2.2.1 r1.2.2.2.2.1 r1.2.2.2.2.2.1 r1.2.2.2.2.2.2.1 r1.2.2.2.2.2.2.2.1 r1.2.2.2.2.2.2.2.2.1 r1.2.2.2.2.2.2.2.2.2.1 r1.2.2.2.2.2.2.2.2.2.2 id) with
   | some r21 => bif decide (r21 = (-1)) then
     (match (F62 fuel ([(F61 (!r20) 1), (F61 true 2)])) with
     | some r22 => bif (!(decide (r22 = 0))) then
       some ((r1.1, r1.2.1, r1.2.2.1, r1.2.2.2.1, r1.2.2.2.2.1, r1.2.2.2.2.2.1, r1.2.2.2.2.2.2.1, r1.2.2.2.2.2.2.2.1, r1.2.2.2.2.2.2.2.2.1, r1.2.2.2.2.2.2.2.2.2.1, r1.2.2.2.2.2.2.2.2.2.2), r22)
      else (match (F71_72 fuel r1.2.1 id) with
      | some r23 => (match (F73_74 fuel r1.2.2.2.2.2.2.2.2.1 id) with
       | some r24 => some ((r1.1, r23, r1.2.2.1, r1.2.2.2.1, r1.2.2.2.2.1, r1.2.2.2.2.2.1, r1.2.2.2.2.2.2.1, r1.2.2.2.2.2.2.2.1, r24, r1.2.2.2.2.2.2.2.2.2.1, r1.2.2.2.2.2.2.2.2.2.2), 0)
       | none => none)
      | none => none)
     | none => none)
    else (match (F62 fuel ([(F61 (!r20) 1), (F61 false 2)])) with
    | some r25 => bif (!(decide (r25 = 0))) then
      some ((r1.1, r1.2.1, r1.2.2.1, r1.2.2.2.1, r1.2.2.2.2.1, r1.2.2.2.2.2.1, r1.2.2.2.2.2.2.1, r1.2.2.2.2.2.2.2.1, r1.2.2.2.2.2.2.2.2.1, r1.2.2.2.2.2.2.2.2.2.1, r1.2.2.2.2.2.2.2.2.2.2), r25)
     else (match (F71_72 fuel r1.2.1 id) with
     | some r26 => (match (F73_74 fuel r1.2.2.2.2.2.2.2.2.1 id) with
      | some r27 => some ((r1.1, r26, r1.2.2.1, r1.2.2.2.1, r1.2.2.2.2.1, r1.2.2.2.2.2.1, r1.2.2.2.2.2.2.1, r1.2.2.2.2.2.2.2.1, r27, r1.2.2.2.2.2.2.2.2.2.1, r1.2.2.2.2.2.2.2.2.2.2), 0)
      | none => none)
     | none => none)
    | none => none)
   | none => none)
  | none => none)
 | none => none)
theorem ev52 (s_W_Now : Int) (s_W_T : List Task) (s_W_A : List Ape) (s_W_Cur : Int) (s_R_On : Bool) (s_R_Since s_R_By s_R_New : Int) (s_R_L : List Aim) (s_NextID s_NextAp id : Int) : evC (R' := [.agg [.i, .own .task 54, .own .ape 88, .i, .b, .i, .i, .i, .own .aim 91, .i, .i], .cell .i]) P KK T73_74 LOrc.none 52 [.agg [.i, .sl .task, .sl .ape, .i, .b, .i, .i, .i, .sl .aim, .i, .i], .cell .i] ((s_W_Now, s_W_T, s_W_A, s_W_Cur, s_R_On, s_R_Since, s_R_By, s_R_New, s_R_L, s_NextID, s_NextAp, ()), id, ()) = F52 s_W_Now s_W_T s_W_A s_W_Cur s_R_On s_R_Since s_R_By s_R_New s_R_L s_NextID s_NextAp id := by kernel_rfl
def g52 : Sig := ⟨[.agg [.i, .sl .task, .sl .ape, .i, .b, .i, .i, .i, .sl .aim, .i, .i], .cell .i], [.agg [.i, .own .task 54, .own .ape 88, .i, .b, .i, .i, .i, .own .aim 91, .i, .i], .cell .i]⟩
def T52 {R : Type} : Orc R := fun f args h k => bif Nat.beq f 52 then contract g52 (fun d => F52 d.1.1 d.1.2.1 d.1.2.2.1 d.1.2.2.2.1 d.1.2.2.2.2.1 d.1.2.2.2.2.2.1 d.1.2.2.2.2.2.2.1 d.1.2.2.2.2.2.2.2.1 d.1.2.2.2.2.2.2.2.2.1 d.1.2.2.2.2.2.2.2.2.2.1 d.1.2.2.2.2.2.2.2.2.2.2.1 d.2.1) args h k else T73_74 f args h k
def S75_6 {R : Type} (e0 : (List Task) → Option R) (y3 : Int) (y5 : List Task) (y6 : List Ape) (y7 : List Aim) (y8 y9 : Int) (y10 : Bool) (y11 y12 y13 y14 y15 y16 y17 : Int) (y18 : List Ape) (y19 : List Aim) (y20 y21 : Int) (rec : Int → (List Task) → Option R) (y4 : Int) (y22 : List Task) : Option R :=
 bif decide (y4 < y3) then
  bif (decide (0 ≤ y4) && decide (y4 < (y7.length : Int))) then (match y7[(Int.toNat y4)]? with
   | some x23 => bif decide (y4 < (y22.length : Int)) then
     bif (decide (0 ≤ y4) && decide (y4 < (y22.length : Int))) then (match y22[(Int.toNat y4)]? with
      | some x24 => (match (F107 x24 x23.S x23.P) with
       | some r25 => bif (decide (0 ≤ y4) && decide (y4 < (y22.length : Int))) then (match y22[(Int.toNat y4)]? with
         | some x26 => rec (wI (y4 + 1)) (y22.set (Int.toNat y4) r25.1)
         | none => none)
        else none
       | none => none)
      | none => none)
     else none
    else (match (F108 x23.ID x23.S x23.P y20) with
    | some r27 => bif r27.2 then
      bif Nat.ble ((y22 ++ ([r27.1])).length) 100000 then rec (wI (y4 + 1)) (y22 ++ ([r27.1]))
      else none
     else rec (wI (y4 + 1)) y22
    | none => none)
   | none => none)
  else none
 else e0 y22
def L75_6 {R : Type} (e0 : (List Task) → Option R) (y3 : Int) (y5 : List Task) (y6 : List Ape) (y7 : List Aim) (y8 y9 : Int) (y10 : Bool) (y11 y12 y13 y14 y15 y16 y17 : Int) (y18 : List Ape) (y19 : List Aim) (y20 y21 : Int) : Nat → Int → (List Task) → Option R
 | 0 => fun _ _ => none
 | n + 1 => S75_6  e0 y3 y5 y6 y7 y8 y9 y10 y11 y12 y13 y14 y15 y16 y17 y18 y19 y20 y21 (L75_6  e0 y3 y5 y6 y7 y8 y9 y10 y11 y12 y13 y14 y15 y16 y17 y18 y19 y20 y21 n)
def ps75_6 : PSt := { live := [2, 4, 5, 24, 25, 26], nt := 39, env := [.ptr 4 0 0, .ptr 8 0 0, .fn 106 [8], .whole 2, .i, .i], heap := [.typ false true false 0 .task, .typ false true false 0 .ape, .typ false true false 0 .aim, .gen true false false 0 11 [[.i, .whole 0, .whole 1, .i, .b, .i, .i, .i, .whole 2, .i, .i]], .gen true false false 0 4 [[.i, .nils, .nils, .i]], .none, .typ true true false 88 .ape, .typ true true false 91 .aim, .gen true false false 0 4 [[.i, .whole 9, .whole 6, .i]], .typ true true false 54 .task] }
abbrev st75_6 (y3 y4 : Int) (y5 : List Task) (y6 : List Ape) (y7 : List Aim) (y8 y9 : Int) (y10 : Bool) (y11 y12 y13 y14 y15 y16 y17 : Int) (y18 : List Ape) (y19 : List Aim) (y20 y21 : Int) (y22 : List Task) : St := ⟨[dd, dd, .ptr 4 0 0, dd, .ptr 8 0 0, .fn (.func 106) [] [.ptr 8 0 0], dd, dd, dd, dd, dd, dd, dd, dd, dd, dd, dd, dd, dd, dd, dd, dd, dd, dd, .whole 2, I y3, I y4, dd, dd, dd, dd, dd, dd, dd, dd, dd, dd, dd, dd], [some ⟨false, true, false, 0, .typ .task y5⟩, some ⟨false, true, false, 0, .typ .ape y6⟩, some ⟨false, true, false, 0, .typ .aim y7⟩, some ⟨true, false, false, 0, .gen 11 [[I y8, .whole 0, .whole 1, I y9, .bool y10, I y11, I y12, I y13, .whole 2, I y14, I y15]]⟩, some ⟨true, false, false, 0, .gen 4 [[I y16, .nils, .nils, I y17]]⟩, none, some ⟨true, true, false, 88, .typ .ape y18⟩, some ⟨true, true, false, 91, .typ .aim y19⟩, some ⟨true, false, false, 0, .gen 4 [[I y20, .whole 9, .whole 6, I y21]]⟩, some ⟨true, true, false, 54, .typ .task y22⟩]⟩
abbrev sx75_6_0 (z0 : List Task) (z1 : List Ape) (z2 : List Aim) (z3 z4 : Int) (z5 : Bool) (z6 z7 z8 z9 z10 z11 z12 : Int) (z13 : List Ape) (z14 : List Aim) (z15 z16 : Int) (z17 : List Task) : St := ⟨[dd, dd, .ptr 4 0 0, dd, .ptr 8 0 0, dd, dd, dd, dd, dd, dd, dd, dd, dd, dd, dd, dd, dd, dd, dd, dd, dd, dd, dd, dd, dd, dd, dd, dd, dd, dd, dd, dd, dd, dd, dd, dd, dd, dd], [some ⟨false, true, false, 0, .typ .task z0⟩, some ⟨false, true, false, 0, .typ .ape z1⟩, some ⟨false, true, false, 0, .typ .aim z2⟩, some ⟨true, false, false, 0, .gen 11 [[I z3, .whole 0, .whole 1, I z4, .bool z5, I z6, I z7, I z8, .whole 2, I z9, I z10]]⟩, some ⟨true, false, false, 0, .gen 4 [[I z11, .nils, .nils, I z12]]⟩, none, some ⟨true, true, false, 88, .typ .ape z13⟩, some ⟨true, true, false, 91, .typ .aim z14⟩, some ⟨true, false, false, 0, .gen 4 [[I z15, .whole 9, .whole 6, I z16]]⟩, some ⟨true, true, false, 54, .typ .task z17⟩]⟩
theorem ly75_6 (y3 y4 : Int) (y5 : List Task) (y6 : List Ape) (y7 : List Aim) (y8 y9 : Int) (y10 : Bool) (y11 y12 y13 y14 y15 y16 y17 : Int) (y18 : List Ape) (y19 : List Aim) (y20 y21 : Int) (y22 : List Task) : layS ps75_6 (y3, y4, y5, y6, y7, y8, y9, y10, y11, y12, y13, y14, y15, y16, y17, y18, y19, y20, y21, y22, ()) = st75_6 y3 y4 y5 y6 y7 y8 y9 y10 y11 y12 y13 y14 y15 y16 y17 y18 y19 y20 y21 y22 := by kernel_rfl
abbrev E75_6_0 {R : Type} (k : Ex → St → Option R) (y5 : List Task) (y6 : List Ape) (y7 : List Aim) (y8 y9 : Int) (y10 : Bool) (y11 y12 y13 y14 y15 y16 y17 : Int) (y18 : List Ape) (y19 : List Aim) (y20 y21 : Int) (z17 : List Task) : Option R := k (.exit 0) (sx75_6_0 y5 y6 y7 y8 y9 y10 y11 y12 y13 y14 y15 y16 y17 y18 y19 y20 y21 z17)
noncomputable abbrev J75_6 {R : Type} (n : Nat) (y3 : Int) (y5 : List Task) (y6 : List Ape) (y7 : List Aim) (y8 y9 : Int) (y10 : Bool) (y11 y12 y13 y14 y15 y16 y17 : Int) (y18 : List Ape) (y19 : List Aim) (y20 y21 y4 : Int) (y22 : List Task) (k : Ex → St → Option R) : Option R :=
 iter (ev P KK T52 LOrc.none 300 75 (loopOf P 75 6)) (headL P KK (KK.ann 75 6) 9) (gcL (KK.ann 75 6).out 9) n (st75_6 y3 y4 y5 y6 y7 y8 y9 y10 y11 y12 y13 y14 y15 y16 y17 y18 y19 y20 y21 y22) k
theorem k75_6 {R : Type} (n : Nat) (y3 : Int) (y5 : List Task) (y6 : List Ape) (y7 : List Aim) (y8 y9 : Int) (y10 : Bool) (y11 y12 y13 y14 y15 y16 y17 : Int) (y18 : List Ape) (y19 : List Aim) (y20 y21 y4 : Int) (y22 : List Task) (k : Ex → St → Option R) : J75_6  (n + 1) y3 y5 y6 y7 y8 y9 y10 y11 y12 y13 y14 y15 y16 y17 y18 y19 y20 y21 y4 y22 k = S75_6  (E75_6_0 k y5 y6 y7 y8 y9 y10 y11 y12 y13 y14 y15 y16 y17 y18 y19 y20 y21) y3 y5 y6 y7 y8 y9 y10 y11 y12 y13 y14 y15 y16 y17 y18 y19 y20 y21 (fun y4 y22 => J75_6  n y3 y5 y6 y7 y8 y9 y10 y11 y12 y13 y14 y15 y16 y17 y18 y19 y20 y21 y4 y22 k) y4 y22 := by kernel_rfl
theorem it75_6 {R : Type} (y3 : Int) (y5 : List Task) (y6 : List Ape) (y7 : List Aim) (y8 y9 : Int) (y10 : Bool) (y11 y12 y13 y14 y15 y16 y17 : Int) (y18 : List Ape) (y19 : List Aim) (y20 y21 : Int) (k : Ex → St → Option R) : ∀ (n : Nat) (y4 : Int) (y22 : List Task), J75_6  n y3 y5 y6 y7 y8 y9 y10 y11 y12 y13 y14 y15 y16 y17 y18 y19 y20 y21 y4 y22 k = L75_6  (E75_6_0 k y5 y6 y7 y8 y9 y10 y11 y12 y13 y14 y15 y16 y17 y18 y19 y20 y21) y3 y5 y6 y7 y8 y9 y10 y11 y12 y13 y14 y15 y16 y17 y18 y19 y20 y21 n y4 y22 := by
 intro n
 induction n with
 | zero => intros; rfl
 | succ n ih =>
  intro y4 y22
  rw [k75_6, show (fun y4 y22 => J75_6  n y3 y5 y6 y7 y8 y9 y10 y11 y12 y13 y14 y15 y16 y17 y18 y19 y20 y21 y4 y22 k) = L75_6  (E75_6_0 k y5 y6 y7 y8 y9 y10 y11 y12 y13 y14 y15 y16 y17 y18 y19 y20 y21) y3 y5 y6 y7 y8 y9 y10 y11 y12 y13 y14 y15 y16 y17 y18 y19 y20 y21 n from by funext y4 y22; exact ih y4 y22]
  rfl
def lb75_6 {R : Type} (lf : Nat) (d : ps75_6.D) (k : Ex → St → Option R) : Option R := match d with
 | (y3, y4, y5, y6, y7, y8, y9, y10, y11, y12, y13, y14, y15, y16, y17, y18, y19, y20, y21, y22, ()) => L75_6  (E75_6_0 k y5 y6 y7 y8 y9 y10 y11 y12 y13 y14 y15 y16 y17 y18 y19 y20 y21) y3 y5 y6 y7 y8 y9 y10 y11 y12 y13 y14 y15 y16 y17 y18 y19 y20 y21 lf y4 y22
def lt75_6 {R : Type} (lf : Nat) : LOrc R := fun f id n0 st k => bif Nat.beq f 75 && (Nat.beq id 6 && Nat.beq n0 9) then readS ps75_6 st fun d => lb75_6 lf d k else LOrc.none f id n0 st k
def F75 (lf : Nat) (s_W_Now : Int) (s_W_T : List Task) (s_W_A : List Ape) (s_W_Cur : Int) (s_R_On : Bool) (s_R_Since s_R_By s_R_New : Int) (s_R_L : List Aim) (s_NextID s_NextAp : Int) : Option ((Int × (List Task) × (List Ape) × Int) × Bool) :=
 (match (F64 s_W_Now s_W_T s_W_A s_W_Cur s_R_On s_R_Since s_R_By s_R_New s_R_L s_NextID s_NextAp) with
 | some r1 => (match (F16 s_W_Now s_W_T s_W_A s_W_Cur s_R_On s_R_Since s_R_By s_R_New s_R_L s_NextID s_NextAp) with
  | some r2 => bif (!r2) then
    some ((r1.1, r1.2.1, r1.2.2.1, r1.2.2.2.1), false)
   else bif (!s_R_On) then
    some ((r1.1, r1.2.1, r1.2.2.1, r1.2.2.2.1), false)
   else L75_6 (fun z28 => (match (F30 fuel r1.1 z28 r1.2.2.1 r1.2.2.2.1) with
     | some r29 => some ((r1.1, z28, r1.2.2.1, r1.2.2.2.1), r29)
     | none => none)) (s_R_L.length : Int) s_W_T s_W_A s_R_L s_W_Now s_W_Cur s_R_On s_R_Since s_R_By s_R_New s_NextID s_NextAp 0 0 r1.2.2.1 r1.2.2.2.2.2.2.2.2.1 r1.1 r1.2.2.2.1 lf 0 r1.2.1
  | none => none)
 | none => none)
theorem ev75 (lf : Nat) (s_W_Now : Int) (s_W_T : List Task) (s_W_A : List Ape) (s_W_Cur : Int) (s_R_On : Bool) (s_R_Since s_R_By s_R_New : Int) (s_R_L : List Aim) (s_NextID s_NextAp : Int) : evC (R' := [.agg [.i, .own .task 54, .own .ape 88, .i], .cell .b]) P KK T52 (lt75_6 lf) 75 [.agg [.i, .sl .task, .sl .ape, .i, .b, .i, .i, .i, .sl .aim, .i, .i]] ((s_W_Now, s_W_T, s_W_A, s_W_Cur, s_R_On, s_R_Since, s_R_By, s_R_New, s_R_L, s_NextID, s_NextAp, ()), ()) = F75 lf s_W_Now s_W_T s_W_A s_W_Cur s_R_On s_R_Since s_R_By s_R_New s_R_L s_NextID s_NextAp := by kernel_rfl
def g75 : Sig := ⟨[.agg [.i, .sl .task, .sl .ape, .i, .b, .i, .i, .i, .sl .aim, .i, .i]], [.agg [.i, .own .task 54, .own .ape 88, .i], .cell .b]⟩
def T75 {R : Type} : Orc R := fun f args h k => bif Nat.beq f 75 then contract g75 (fun d => F75 fuel d.1.1 d.1.2.1 d.1.2.2.1 d.1.2.2.2.1 d.1.2.2.2.2.1 d.1.2.2.2.2.2.1 d.1.2.2.2.2.2.2.1 d.1.2.2.2.2.2.2.2.1 d.1.2.2.2.2.2.2.2.2.1 d.1.2.2.2.2.2.2.2.2.2.1 d.1.2.2.2.2.2.2.2.2.2.2.1) args h k else T52 f args h k
def F53 (s_W_Now : Int) (s_W_T : List Task) (s_W_A : List Ape) (s_W_Cur : Int) (s_R_On : Bool) (s_R_Since s_R_By s_R_New : Int) (s_R_L : List Aim) (s_NextID s_NextAp : Int) : Option ((Int × (List Task) × (List Ape) × Int × Bool × Int × Int × Int × (List Aim) × Int × Int) × Bool) :=
 (match (F75 fuel s_W_Now s_W_T s_W_A s_W_Cur s_R_On s_R_Since s_R_By s_R_New s_R_L s_NextID s_NextAp) with
 | some r1 => (match (F64 s_W_Now s_W_T s_W_A s_W_Cur s_R_On s_R_Since s_R_By s_R_New s_R_L s_NextID s_NextAp) with
  | some r2 => bif r1.2 then
    let r3 := F70
    some ((r1.1.1, r1.1.2.1, r1.1.2.2.1, r1.1.2.2.2, r3.1, r3.2.1, r3.2.2.1, r3.2.2.2.1, r3.2.2.2.2, r2.2.2.2.2.2.2.2.2.2.1, r2.2.2.2.2.2.2.2.2.2.2), r1.2)
   else some ((r2.1, r2.2.1, r2.2.2.1, r2.2.2.2.1, r2.2.2.2.2.1, r2.2.2.2.2.2.1, r2.2.2.2.2.2.2.1, r2.2.2.2.2.2.2.2.1, r2.2.2.2.2.2.2.2.2.1, r2.2.2.2.2.2.2.2.2.2.1, r2.2.2.2.2.2.2.2.2.2.2), r1.2)
  | none => none)
 | none => none)
theorem ev53 (s_W_Now : Int) (s_W_T : List Task) (s_W_A : List Ape) (s_W_Cur : Int) (s_R_On : Bool) (s_R_Since s_R_By s_R_New : Int) (s_R_L : List Aim) (s_NextID s_NextAp : Int) : evC (R' := [.agg [.i, .own .task 54, .own .ape 88, .i, .b, .i, .i, .i, .own .aim 91, .i, .i], .cell .b]) P KK T75 LOrc.none 53 [.agg [.i, .sl .task, .sl .ape, .i, .b, .i, .i, .i, .sl .aim, .i, .i]] ((s_W_Now, s_W_T, s_W_A, s_W_Cur, s_R_On, s_R_Since, s_R_By, s_R_New, s_R_L, s_NextID, s_NextAp, ()), ()) = F53 s_W_Now s_W_T s_W_A s_W_Cur s_R_On s_R_Since s_R_By s_R_New s_R_L s_NextID s_NextAp := by kernel_rfl
def g53 : Sig := ⟨[.agg [.i, .sl .task, .sl .ape, .i, .b, .i, .i, .i, .sl .aim, .i, .i]], [.agg [.i, .own .task 54, .own .ape 88, .i, .b, .i, .i, .i, .own .aim 91, .i, .i], .cell .b]⟩
def T53 {R : Type} : Orc R := fun f args h k => bif Nat.beq f 53 then contract g53 (fun d => F53 d.1.1 d.1.2.1 d.1.2.2.1 d.1.2.2.2.1 d.1.2.2.2.2.1 d.1.2.2.2.2.2.1 d.1.2.2.2.2.2.2.1 d.1.2.2.2.2.2.2.2.1 d.1.2.2.2.2.2.2.2.2.1 d.1.2.2.2.2.2.2.2.2.2.1 d.1.2.2.2.2.2.2.2.2.2.2.1) args h k else T75 f args h k
def S48_4 {R : Type} (e0 : Bool → Option R) (e1 : Option R) (y1 : Int) (y3 y4 : List Int) (rec : Int → Option R) (y2 : Int) : Option R :=
 bif decide (y2 < y1) then
  bif (decide (0 ≤ y2) && decide (y2 < (y3.length : Int))) then (match y3[(Int.toNat y2)]? with
   | some x5 => bif (decide (0 ≤ y2) && decide (y2 < (y4.length : Int))) then (match y4[(Int.toNat y2)]? with
     | some x6 => bif (!(decide (x5 = x6))) then
       e0 false
      else rec (wI (y2 + 1))
     | none => none)
    else none
   | none => none)
  else none
 else e1
def L48_4 {R : Type} (e0 : Bool → Option R) (e1 : Option R) (y1 : Int) (y3 y4 : List Int) : Nat → Int → Option R
 | 0 => fun _ => none
 | n + 1 => S48_4  e0 e1 y1 y3 y4 (L48_4  e0 e1 y1 y3 y4 n)
def ps48_4 : PSt := { live := [0, 1, 12, 13], nt := 26, env := [.whole 0, .whole 1, .i, .i], heap := [.typ false true false 0 .int, .typ false true false 0 .int] }
abbrev st48_4 (y1 y2 : Int) (y3 y4 : List Int) : St := ⟨[.whole 0, .whole 1, dd, dd, dd, dd, dd, dd, dd, dd, dd, dd, I y1, I y2, dd, dd, dd, dd, dd, dd, dd, dd, dd, dd, dd, dd], [some ⟨false, true, false, 0, .typ .int y3⟩, some ⟨false, true, false, 0, .typ .int y4⟩]⟩
abbrev sx48_4_0 (z0 : Bool) (z1 z2 : List Int) : St := ⟨[dd, dd, dd, dd, .bool z0, dd, dd, dd, dd, dd, dd, dd, dd, dd, dd, dd, dd, dd, dd, dd, dd, dd, dd, dd, dd, dd], [some ⟨false, true, false, 0, .typ .int z1⟩, some ⟨false, true, false, 0, .typ .int z2⟩]⟩
abbrev sx48_4_1 (z0 z1 : List Int) : St := ⟨[dd, dd, dd, dd, dd, dd, dd, dd, dd, dd, dd, dd, dd, dd, dd, dd, dd, dd, dd, dd, dd, dd, dd, dd, dd, dd], [some ⟨false, true, false, 0, .typ .int z0⟩, some ⟨false, true, false, 0, .typ .int z1⟩]⟩
theorem ly48_4 (y1 y2 : Int) (y3 y4 : List Int) : layS ps48_4 (y1, y2, y3, y4, ()) = st48_4 y1 y2 y3 y4 := by kernel_rfl
abbrev E48_4_0 {R : Type} (k : Ex → St → Option R) (y3 y4 : List Int) (z0 : Bool) : Option R := k .ret (sx48_4_0 z0 y3 y4)
abbrev E48_4_1 {R : Type} (k : Ex → St → Option R) (y3 y4 : List Int) : Option R := k (.exit 0) (sx48_4_1 y3 y4)
noncomputable abbrev J48_4 {R : Type} (n : Nat) (y1 : Int) (y3 y4 : List Int) (y2 : Int) (k : Ex → St → Option R) : Option R :=
 iter (ev P KK T53 LOrc.none 300 48 (loopOf P 48 4)) (headL P KK (KK.ann 48 4) 2) (gcL (KK.ann 48 4).out 2) n (st48_4 y1 y2 y3 y4) k
theorem k48_4 {R : Type} (n : Nat) (y1 : Int) (y3 y4 : List Int) (y2 : Int) (k : Ex → St → Option R) : J48_4  (n + 1) y1 y3 y4 y2 k = S48_4  (E48_4_0 k y3 y4) (E48_4_1 k y3 y4) y1 y3 y4 (fun y2 => J48_4  n y1 y3 y4 y2 k) y2 := by kernel_rfl
theorem it48_4 {R : Type} (y1 : Int) (y3 y4 : List Int) (k : Ex → St → Option R) : ∀ (n : Nat) (y2 : Int), J48_4  n y1 y3 y4 y2 k = L48_4  (E48_4_0 k y3 y4) (E48_4_1 k y3 y4) y1 y3 y4 n y2 := by
 intro n
 induction n with
 | zero => intros; rfl
 | succ n ih =>
  intro y2
  rw [k48_4, show (fun y2 => J48_4  n y1 y3 y4 y2 k) = L48_4  (E48_4_0 k y3 y4) (E48_4_1 k y3 y4) y1 y3 y4 n from by funext y2; exact ih y2]
  rfl
def lb48_4 {R : Type} (lf : Nat) (d : ps48_4.D) (k : Ex → St → Option R) : Option R := match d with
 | (y1, y2, y3, y4, ()) => L48_4  (E48_4_0 k y3 y4) (E48_4_1 k y3 y4) y1 y3 y4 lf y2
def lt48_4 {R : Type} (lf : Nat) : LOrc R := fun f id n0 st k => bif Nat.beq f 48 && (Nat.beq id 4 && Nat.beq n0 2) then readS ps48_4 st fun d => lb48_4 lf d k else LOrc.none f id n0 st k
def F48 (lf : Nat) (s1 s2 : List Int) : Option (Bool) :=
 bif (!(decide ((s1.length : Int) = (s2.length : Int)))) then
  some false
 else L48_4 (fun z7 => some z7) (some true) (s1.length : Int) s1 s2 lf 0
theorem ev48 (lf : Nat) (s1 s2 : List Int) : evC (R' := [.cell .b]) P KK T53 (lt48_4 lf) 48 [.cell (.sl .int), .cell (.sl .int)] (s1, s2, ()) = F48 lf s1 s2 := by kernel_rfl
def g48 : Sig := ⟨[.cell (.sl .int), .cell (.sl .int)], [.cell .b]⟩
def T48 {R : Type} : Orc R := fun f args h k => bif Nat.beq f 48 then contract g48 (fun d => F48 fuel d.1 d.2.1) args h k else T53 f args h k
def F19 (a_Kind a_ID a_S_C a_S_T a_S_Max a_S_M a_S_K a_S_E a_T a_Max a_Within a_C a_V : Int) (a_D : List Int) (b_Kind b_ID b_S_C b_S_T b_S_Max b_S_M b_S_K b_S_E b_T b_Max b_Within b_C b_V : Int) (b_D : List Int) : Option (Bool) :=
 (match (F48 fuel a_D b_D) with
 | some r1 => bif (!r1) then
   some false
  else bif decide (a_Kind = b_Kind) then
   bif decide (a_ID = b_ID) then
    bif (decide (a_S_C = b_S_C) && (decide (a_S_T = b_S_T) && (decide (a_S_Max = b_S_Max) && (decide (a_S_M = b_S_M) && (decide (a_S_K = b_S_K) && (decide (a_S_E = b_S_E) && true)))))) then
     bif decide (a_T = b_T) then
      bif decide (a_Max = b_Max) then
       bif decide (a_Within = b_Within) then
        bif decide (a_C = b_C) then
         some (decide (a_V = b_V))
        else some false
       else some false
      else some false
     else some false
    else some false
   else some false
  else some false
 | none => none)
theorem ev19 (a_Kind a_ID a_S_C a_S_T a_S_Max a_S_M a_S_K a_S_E a_T a_Max a_Within a_C a_V : Int) (a_D : List Int) (b_Kind b_ID b_S_C b_S_T b_S_Max b_S_M b_S_K b_S_E b_T b_Max b_Within b_C b_V : Int) (b_D : List Int) : evC (R' := [.cell .b]) P KK T48 LOrc.none 19 [.agg [.i, .i, .i, .i, .i, .i, .i, .i, .i, .i, .i, .i, .i, .sl .int], .agg [.i, .i, .i, .i, .i, .i, .i, .i, .i, .i, .i, .i, .i, .sl .int]] ((a_Kind, a_ID, a_S_C, a_S_T, a_S_Max, a_S_M, a_S_K, a_S_E, a_T, a_Max, a_Within, a_C, a_V, a_D, ()), (b_Kind, b_ID, b_S_C, b_S_T, b_S_Max, b_S_M, b_S_K, b_S_E, b_T, b_Max, b_Within, b_C, b_V, b_D, ()), ()) = F19 a_Kind a_ID a_S_C a_S_T a_S_Max a_S_M a_S_K a_S_E a_T a_Max a_Within a_C a_V a_D b_Kind b_ID b_S_C b_S_T b_S_Max b_S_M b_S_K b_S_E b_T b_Max b_Within b_C b_V b_D := by kernel_rfl
def g19 : Sig := ⟨[.agg [.i, .i, .i, .i, .i, .i, .i, .i, .i, .i, .i, .i, .i, .sl .int], .agg [.i, .i, .i, .i, .i, .i, .i, .i, .i, .i, .i, .i, .i, .sl .int]], [.cell .b]⟩
def T19 {R : Type} : Orc R := fun f args h k => bif Nat.beq f 19 then contract g19 (fun d => F19 d.1.1 d.1.2.1 d.1.2.2.1 d.1.2.2.2.1 d.1.2.2.2.2.1 d.1.2.2.2.2.2.1 d.1.2.2.2.2.2.2.1 d.1.2.2.2.2.2.2.2.1 d.1.2.2.2.2.2.2.2.2.1 d.1.2.2.2.2.2.2.2.2.2.1 d.1.2.2.2.2.2.2.2.2.2.2.1 d.1.2.2.2.2.2.2.2.2.2.2.2.1 d.1.2.2.2.2.2.2.2.2.2.2.2.2.1 d.1.2.2.2.2.2.2.2.2.2.2.2.2.2.1 d.2.1.1 d.2.1.2.1 d.2.1.2.2.1 d.2.1.2.2.2.1 d.2.1.2.2.2.2.1 d.2.1.2.2.2.2.2.1 d.2.1.2.2.2.2.2.2.1 d.2.1.2.2.2.2.2.2.2.1 d.2.1.2.2.2.2.2.2.2.2.1 d.2.1.2.2.2.2.2.2.2.2.2.1 d.2.1.2.2.2.2.2.2.2.2.2.2.1 d.2.1.2.2.2.2.2.2.2.2.2.2.2.1 d.2.1.2.2.2.2.2.2.2.2.2.2.2.2.1 d.2.1.2.2.2.2.2.2.2.2.2.2.2.2.2.1) args h k else T48 f args h k
def S49_18_2 {R : Type} (e0 : Int → Option R) (e1 : Option R) (y1 : Int) (y3 : List Int) (rec : Int → Option R) (y2 : Int) : Option R :=
 bif decide (y2 < y1) then
  bif (decide (0 ≤ y2) && decide (y2 < (y3.length : Int))) then (match y3[(Int.toNat y2)]? with
   | some x4 => bif decide (x4 < 1) then
     e0 y2
    else bif decide (20 < x4) then
     e0 y2
    else rec (wI (y2 + 1))
   | none => none)
  else none
 else e1
def L49_18_2 {R : Type} (e0 : Int → Option R) (e1 : Option R) (y1 : Int) (y3 : List Int) : Nat → Int → Option R
 | 0 => fun _ => none
 | n + 1 => S49_18_2  e0 e1 y1 y3 (L49_18_2  e0 e1 y1 y3 n)
def ps49_18_2 : PSt := { live := [0, 1, 7, 8], nt := 19, env := [.whole 0, .fn 18 [], .i, .i], heap := [.typ false true false 0 .int] }
abbrev st49_18_2 (y1 y2 : Int) (y3 : List Int) : St := ⟨[.whole 0, .fn (.func 18) [] [], dd, dd, dd, dd, dd, I y1, I y2, dd, dd, dd, dd, dd, dd, dd, dd, dd, dd], [some ⟨false, true, false, 0, .typ .int y3⟩]⟩
abbrev sx49_18_2_0 (z0 : Int) (z1 : List Int) : St := ⟨[dd, dd, dd, dd, I z0, dd, dd, dd, dd, dd, dd, dd, dd, dd, dd, dd, dd, dd, dd], [some ⟨false, true, false, 0, .typ .int z1⟩]⟩
abbrev sx49_18_2_1 (z0 : List Int) : St := ⟨[dd, dd, dd, dd, dd, dd, dd, dd, dd, dd, dd, dd, dd, dd, dd, dd, dd, dd, dd], [some ⟨false, true, false, 0, .typ .int z0⟩]⟩
theorem ly49_18_2 (y1 y2 : Int) (y3 : List Int) : layS ps49_18_2 (y1, y2, y3, ()) = st49_18_2 y1 y2 y3 := by kernel_rfl
abbrev E49_18_2_0 {R : Type} (k : Ex → St → Option R) (y3 : List Int) (z0 : Int) : Option R := k .ret (sx49_18_2_0 z0 y3)
abbrev E49_18_2_1 {R : Type} (k : Ex → St → Option R) (y3 : List Int) : Option R := k (.exit 0) (sx49_18_2_1 y3)
noncomputable abbrev J49_18_2 {R : Type} (n : Nat) (y1 : Int) (y3 : List Int) (y2 : Int) (k : Ex → St → Option R) : Option R :=
 iter (ev P KK T19 LOrc.none 300 49 (loopOf P 49 2)) (headL P KK (KK.ann 49 2) 1) (gcL (KK.ann 49 2).out 1) n (st49_18_2 y1 y2 y3) k
theorem k49_18_2 {R : Type} (n : Nat) (y1 : Int) (y3 : List Int) (y2 : Int) (k : Ex → St → Option R) : J49_18_2  (n + 1) y1 y3 y2 k = S49_18_2  (E49_18_2_0 k y3) (E49_18_2_1 k y3) y1 y3 (fun y2 => J49_18_2  n y1 y3 y2 k) y2 := by kernel_rfl
theorem it49_18_2 {R : Type} (y1 : Int) (y3 : List Int) (k : Ex → St → Option R) : ∀ (n : Nat) (y2 : Int), J49_18_2  n y1 y3 y2 k = L49_18_2  (E49_18_2_0 k y3) (E49_18_2_1 k y3) y1 y3 n y2 := by
 intro n
 induction n with
 | zero => intros; rfl
 | succ n ih =>
  intro y2
  rw [k49_18_2, show (fun y2 => J49_18_2  n y1 y3 y2 k) = L49_18_2  (E49_18_2_0 k y3) (E49_18_2_1 k y3) y1 y3 n from by funext y2; exact ih y2]
  rfl
def lb49_18_2 {R : Type} (lf : Nat) (d : ps49_18_2.D) (k : Ex → St → Option R) : Option R := match d with
 | (y1, y2, y3, ()) => L49_18_2  (E49_18_2_0 k y3) (E49_18_2_1 k y3) y1 y3 lf y2
def lt49_18_2 {R : Type} (lf : Nat) : LOrc R := fun f id n0 st k => bif Nat.beq f 49 && (Nat.beq id 2 && Nat.beq n0 1) then readS ps49_18_2 st fun d => lb49_18_2 lf d k else LOrc.none f id n0 st k
def F49_18 (lf : Nat) (s : List Int) : Option (Int) :=
 L49_18_2 (fun z5 => some z5) (some (-1)) (s.length : Int) s lf 0
theorem ev49_18 (lf : Nat) (s : List Int) : evC (R' := [.cell .i]) P KK T19 (lt49_18_2 lf) 49 [.cell (.sl .int), .clo 18 []] (s, (()), ()) = F49_18 lf s := by kernel_rfl
def g49_18 : Sig := ⟨[.cell (.sl .int), .clo 18 []], [.cell .i]⟩
def T49_18 {R : Type} : Orc R := fun f args h k => bif Nat.beq f 49 && cloIs 1 18 args then contract g49_18 (fun d => F49_18 fuel d.1) args h k else T19 f args h k
def F10 (o_Kind o_ID o_S_C o_S_T o_S_Max o_S_M o_S_K o_S_E o_T o_Max o_Within o_C o_V : Int) (o_D : List Int) : Option (Bool) :=
 bif decide (o_Kind < 0) then
  some false
 else bif decide (5 ≤ o_Kind) then
  some false
 else bif decide (o_Kind = 0) then
  bif decide (o_S_C < 0) then
   some false
  else bif decide (0 < (shr .i64 o_S_C 8)) then
   some false
  else bif decide (o_S_T < 0) then
   some false
  else bif decide (0 < (shr .i64 o_S_T 8)) then
   some false
  else bif decide (o_S_Max < 0) then
   some false
  else bif decide (0 < (shr .i64 o_S_Max 8)) then
   some false
  else bif decide (o_S_M < 0) then
   some false
  else bif decide (0 < (shr .i64 o_S_M 8)) then
   some false
  else bif decide (o_S_K < 0) then
   some false
  else bif decide (0 < (shr .i64 o_S_K 8)) then
   some false
  else bif decide (o_S_E < 0) then
   some false
  else bif decide (0 < (shr .i64 o_S_E 8)) then
   some false
  else bif decide (o_Kind = 4) then
   (match (F19 o_Kind o_ID o_S_C o_S_T o_S_Max o_S_M o_S_K o_S_E o_T o_Max o_Within o_C o_V o_D o_Kind 0 o_S_C o_S_T o_S_Max o_S_M o_S_K o_S_E 0 0 0 0 0 o_D) with
   | some r1 => bif r1 then
     bif decide ((o_D.length : Int) ≤ 4) then
      (match (F49_18 fuel o_D) with
      | some r2 => some (!(decide (0 ≤ r2)))
      | none => none)
     else some false
    else some false
   | none => none)
  else (match (F19 o_Kind o_ID o_S_C o_S_T o_S_Max o_S_M o_S_K o_S_E o_T o_Max o_Within o_C o_V o_D o_Kind 0 o_S_C o_S_T o_S_Max o_S_M o_S_K o_S_E 0 0 0 0 0 []) with
  | some r3 => bif r3 then
    bif decide ((o_D.length : Int) ≤ 4) then
     (match (F49_18 fuel o_D) with
     | some r4 => some (!(decide (0 ≤ r4)))
     | none => none)
    else some false
   else some false
  | none => none)
 else bif decide (o_Kind = 1) then
  bif decide (o_ID < 0) then
   some false
  else bif decide (0 < (shr .i64 o_ID 16)) then
   some false
  else bif decide (o_T < 0) then
   some false
  else bif decide (0 < (shr .i64 o_T 8)) then
   some false
  else bif decide (o_Max < 0) then
   some false
  else bif decide (0 < (shr .i64 o_Max 8)) then
   some false
  else bif decide (o_Kind = 4) then
   (match (F19 o_Kind o_ID o_S_C o_S_T o_S_Max o_S_M o_S_K o_S_E o_T o_Max o_Within o_C o_V o_D o_Kind o_ID 0 0 0 0 0 0 o_T o_Max 0 0 0 o_D) with
   | some r5 => bif r5 then
     bif decide ((o_D.length : Int) ≤ 4) then
      (match (F49_18 fuel o_D) with
      | some r6 => some (!(decide (0 ≤ r6)))
      | none => none)
     else some false
    else some false
   | none => none)
  else (match (F19 o_Kind o_ID o_S_C o_S_T o_S_Max o_S_M o_S_K o_S_E o_T o_Max o_Within o_C o_V o_D o_Kind o_ID 0 0 0 0 0 0 o_T o_Max 0 0 0 []) with
  | some r7 => bif r7 then
    bif decide ((o_D.length : Int) ≤ 4) then
     (match (F49_18 fuel o_D) with
     | some r8 => some (!(decide (0 ≤ r8)))
     | none => none)
    else some false
   else some false
  | none => none)
 else bif decide (o_Kind = 2) then
  bif decide (o_ID < 0) then
   some false
  else bif decide (0 < (shr .i64 o_ID 16)) then
   some false
  else bif decide (o_Kind = 4) then
   (match (F19 o_Kind o_ID o_S_C o_S_T o_S_Max o_S_M o_S_K o_S_E o_T o_Max o_Within o_C o_V o_D o_Kind o_ID 0 0 0 0 0 0 0 0 0 0 0 o_D) with
   | some r9 => bif r9 then
     bif decide ((o_D.length : Int) ≤ 4) then
      (match (F49_18 fuel o_D) with
      | some r10 => some (!(decide (0 ≤ r10)))
      | none => none)
     else some false
    else some false
   | none => none)
  else (match (F19 o_Kind o_ID o_S_C o_S_T o_S_Max o_S_M o_S_K o_S_E o_T o_Max o_Within o_C o_V o_D o_Kind o_ID 0 0 0 0 0 0 0 0 0 0 0 []) with
  | some r11 => bif r11 then
    bif decide ((o_D.length : Int) ≤ 4) then
     (match (F49_18 fuel o_D) with
     | some r12 => some (!(decide (0 ≤ r12)))
     | none => none)
    else some false
   else some false
  | none => none)
 else bif decide (o_Kind = 3) then
  bif decide (o_Within < 0) then
   some false
  else bif decide (0 < (shr .i64 o_Within 8)) then
   some false
  else bif decide (o_C < 0) then
   some false
  else bif decide (0 < (shr .i64 o_C 8)) then
   some false
  else bif decide (o_V < 0) then
   some false
  else bif decide (0 < (shr .i64 o_V 16)) then
   some false
  else bif decide (o_Kind = 4) then
   (match (F19 o_Kind o_ID o_S_C o_S_T o_S_Max o_S_M o_S_K o_S_E o_T o_Max o_Within o_C o_V o_D o_Kind 0 0 0 0 0 0 0 0 0 o_Within o_C o_V o_D) with
   | some r13 => bif r13 then
     bif decide ((o_D.length : Int) ≤ 4) then
      (match (F49_18 fuel o_D) with
      | some r14 => some (!(decide (0 ≤ r14)))
      | none => none)
     else some false
    else some false
   | none => none)
  else (match (F19 o_Kind o_ID o_S_C o_S_T o_S_Max o_S_M o_S_K o_S_E o_T o_Max o_Within o_C o_V o_D o_Kind 0 0 0 0 0 0 0 0 0 o_Within o_C o_V []) with
  | some r15 => bif r15 then
    bif decide ((o_D.length : Int) ≤ 4) then
     (match (F49_18 fuel o_D) with
     | some r16 => some (!(decide (0 ≤ r16)))
     | none => none)
    else some false
   else some false
  | none => none)
 else bif decide (o_Kind = 4) then
  (match (F19 o_Kind o_ID o_S_C o_S_T o_S_Max o_S_M o_S_K o_S_E o_T o_Max o_Within o_C o_V o_D o_Kind 0 0 0 0 0 0 0 0 0 0 0 0 o_D) with
  | some r17 => bif r17 then
    bif decide ((o_D.length : Int) ≤ 4) then
     (match (F49_18 fuel o_D) with
     | some r18 => some (!(decide (0 ≤ r18)))
     | none => none)
    else some false
   else some false
  | none => none)
 else (match (F19 o_Kind o_ID o_S_C o_S_T o_S_Max o_S_M o_S_K o_S_E o_T o_Max o_Within o_C o_V o_D o_Kind 0 0 0 0 0 0 0 0 0 0 0 0 []) with
 | some r19 => bif r19 then
   bif decide ((o_D.length : Int) ≤ 4) then
    (match (F49_18 fuel o_D) with
    | some r20 => some (!(decide (0 ≤ r20)))
    | none => none)
   else some false
  else some false
 | none => none)
theorem ev10 (o_Kind o_ID o_S_C o_S_T o_S_Max o_S_M o_S_K o_S_E o_T o_Max o_Within o_C o_V : Int) (o_D : List Int) : evC (R' := [.cell .b]) P KK T49_18 LOrc.none 10 [.agg [.i, .i, .i, .i, .i, .i, .i, .i, .i, .i, .i, .i, .i, .sl .int]] ((o_Kind, o_ID, o_S_C, o_S_T, o_S_Max, o_S_M, o_S_K, o_S_E, o_T, o_Max, o_Within, o_C, o_V, o_D, ()), ()) = F10 o_Kind o_ID o_S_C o_S_T o_S_Max o_S_M o_S_K o_S_E o_T o_Max o_Within o_C o_V o_D := by kernel_rfl
def g10 : Sig := ⟨[.agg [.i, .i, .i, .i, .i, .i, .i, .i, .i, .i, .i, .i, .i, .sl .int]], [.cell .b]⟩
def T10 {R : Type} : Orc R := fun f args h k => bif Nat.beq f 10 then contract g10 (fun d => F10 d.1.1 d.1.2.1 d.1.2.2.1 d.1.2.2.2.1 d.1.2.2.2.2.1 d.1.2.2.2.2.2.1 d.1.2.2.2.2.2.2.1 d.1.2.2.2.2.2.2.2.1 d.1.2.2.2.2.2.2.2.2.1 d.1.2.2.2.2.2.2.2.2.2.1 d.1.2.2.2.2.2.2.2.2.2.2.1 d.1.2.2.2.2.2.2.2.2.2.2.2.1 d.1.2.2.2.2.2.2.2.2.2.2.2.2.1 d.1.2.2.2.2.2.2.2.2.2.2.2.2.2.1) args h k else T49_18 f args h k
def F11 (s_W_Now : Int) (s_W_T : List Task) (s_W_A : List Ape) (s_W_Cur : Int) (s_R_On : Bool) (s_R_Since s_R_By s_R_New : Int) (s_R_L : List Aim) (s_NextID s_NextAp : Int) : Option (Int × (List Task) × (List Ape) × Int × Bool × Int × Int × Int × (List Aim) × Int × Int) :=
 (match (cloneB s_W_T) with
 | some r1 => (match (cloneB s_W_A) with
  | some r2 => (match (cloneB s_R_L) with
   | some r3 => some (s_W_Now, r1, r2, s_W_Cur, s_R_On, s_R_Since, s_R_By, s_R_New, r3, s_NextID, s_NextAp)
   | none => none)
  | none => none)
 | none => none)
theorem ev11 (s_W_Now : Int) (s_W_T : List Task) (s_W_A : List Ape) (s_W_Cur : Int) (s_R_On : Bool) (s_R_Since s_R_By s_R_New : Int) (s_R_L : List Aim) (s_NextID s_NextAp : Int) : evC (R' := [.agg [.i, .own .task 54, .own .ape 88, .i, .b, .i, .i, .i, .own .aim 91, .i, .i]]) P KK T10 LOrc.none 11 [.agg [.i, .sl .task, .sl .ape, .i, .b, .i, .i, .i, .sl .aim, .i, .i]] ((s_W_Now, s_W_T, s_W_A, s_W_Cur, s_R_On, s_R_Since, s_R_By, s_R_New, s_R_L, s_NextID, s_NextAp, ()), ()) = F11 s_W_Now s_W_T s_W_A s_W_Cur s_R_On s_R_Since s_R_By s_R_New s_R_L s_NextID s_NextAp := by kernel_rfl
def g11 : Sig := ⟨[.agg [.i, .sl .task, .sl .ape, .i, .b, .i, .i, .i, .sl .aim, .i, .i]], [.agg [.i, .own .task 54, .own .ape 88, .i, .b, .i, .i, .i, .own .aim 91, .i, .i]]⟩
def T11 {R : Type} : Orc R := fun f args h k => bif Nat.beq f 11 then contract g11 (fun d => F11 d.1.1 d.1.2.1 d.1.2.2.1 d.1.2.2.2.1 d.1.2.2.2.2.1 d.1.2.2.2.2.2.1 d.1.2.2.2.2.2.2.1 d.1.2.2.2.2.2.2.2.1 d.1.2.2.2.2.2.2.2.2.1 d.1.2.2.2.2.2.2.2.2.2.1 d.1.2.2.2.2.2.2.2.2.2.2.1) args h k else T10 f args h k
def F9 (s_W_Now : Int) (s_W_T : List Task) (s_W_A : List Ape) (s_W_Cur : Int) (s_R_On : Bool) (s_R_Since s_R_By s_R_New : Int) (s_R_L : List Aim) (s_NextID s_NextAp : Int) (form : Bool) : Option (Int) :=
 (match (F16 s_W_Now s_W_T s_W_A s_W_Cur s_R_On s_R_Since s_R_By s_R_New s_R_L s_NextID s_NextAp) with
 | some r1 => bif (!r1) then
   some 1
  else bif (!form) then
   some 7
  else bif decide (s_W_Now = 274877906944) then
   some 8
  else some 0
 | none => none)
theorem ev9 (s_W_Now : Int) (s_W_T : List Task) (s_W_A : List Ape) (s_W_Cur : Int) (s_R_On : Bool) (s_R_Since s_R_By s_R_New : Int) (s_R_L : List Aim) (s_NextID s_NextAp : Int) (form : Bool) : evC (R' := [.cell .i]) P KK T11 LOrc.none 9 [.agg [.i, .sl .task, .sl .ape, .i, .b, .i, .i, .i, .sl .aim, .i, .i], .cell .b] ((s_W_Now, s_W_T, s_W_A, s_W_Cur, s_R_On, s_R_Since, s_R_By, s_R_New, s_R_L, s_NextID, s_NextAp, ()), form, ()) = F9 s_W_Now s_W_T s_W_A s_W_Cur s_R_On s_R_Since s_R_By s_R_New s_R_L s_NextID s_NextAp form := by kernel_rfl
def g9 : Sig := ⟨[.agg [.i, .sl .task, .sl .ape, .i, .b, .i, .i, .i, .sl .aim, .i, .i], .cell .b], [.cell .i]⟩
def T9 {R : Type} : Orc R := fun f args h k => bif Nat.beq f 9 then contract g9 (fun d => F9 d.1.1 d.1.2.1 d.1.2.2.1 d.1.2.2.2.1 d.1.2.2.2.2.1 d.1.2.2.2.2.2.1 d.1.2.2.2.2.2.2.1 d.1.2.2.2.2.2.2.2.1 d.1.2.2.2.2.2.2.2.2.1 d.1.2.2.2.2.2.2.2.2.2.1 d.1.2.2.2.2.2.2.2.2.2.2.1 d.2.1) args h k else T11 f args h k
def F5  : Int × (List Task) × (List Ape) × Int × Bool × Int × Int × Int × (List Aim) × Int × Int :=
 (0, [], [], (-1), false, 0, 0, (-1), [], 0, 0)
theorem ev5  : evC (R' := [.agg [.i, .own .task 54, .own .ape 88, .i, .b, .i, .i, .i, .own .aim 91, .i, .i]]) P KK T9 LOrc.none 5 [] () = some (F5) := by kernel_rfl
def g5 : Sig := ⟨[], [.agg [.i, .own .task 54, .own .ape 88, .i, .b, .i, .i, .i, .own .aim 91, .i, .i]]⟩
def T5 {R : Type} : Orc R := fun f args h k => bif Nat.beq f 5 then contract g5 (fun d => some (F5)) args h k else T9 f args h k
def F6 (s_W_Now : Int) (s_W_T : List Task) (s_W_A : List Ape) (s_W_Cur : Int) (s_R_On : Bool) (s_R_Since s_R_By s_R_New : Int) (s_R_L : List Aim) (s_NextID s_NextAp o_Kind o_ID o_S_C o_S_T o_S_Max o_S_M o_S_K o_S_E o_T o_Max o_Within o_C o_V : Int) (o_D : List Int) : Option ((Int × (List Task) × (List Ape) × Int × Bool × Int × Int × Int × (List Aim) × Int × Int) × (Int × Int) × (Int × Int × Int × Int × (List Int) × (List Int) × (List Int))) :=
 (match (F10 o_Kind o_ID o_S_C o_S_T o_S_Max o_S_M o_S_K o_S_E o_T o_Max o_Within o_C o_V o_D) with
 | some r1 => (match (F9 s_W_Now s_W_T s_W_A s_W_Cur s_R_On s_R_Since s_R_By s_R_New s_R_L s_NextID s_NextAp r1) with
  | some r2 => (match (F11 s_W_Now s_W_T s_W_A s_W_Cur s_R_On s_R_Since s_R_By s_R_New s_R_L s_NextID s_NextAp) with
   | some r3 => bif decide (r2 = 0) then
     bif decide (o_Kind = 0) then
      (match (F50 r3.1 r3.2.1 r3.2.2.1 r3.2.2.2.1 r3.2.2.2.2.1 r3.2.2.2.2.2.1 r3.2.2.2.2.2.2.1 r3.2.2.2.2.2.2.2.1 r3.2.2.2.2.2.2.2.2.1 r3.2.2.2.2.2.2.2.2.2.1 r3.2.2.2.2.2.2.2.2.2.2 (Spec.mk o_S_C o_S_T o_S_Max o_S_M o_S_K o_S_E)) with
      | some r4 => bif (!(decide (r4.2.2 = 0))) then
        (match (F11 s_W_Now s_W_T s_W_A s_W_Cur s_R_On s_R_Since s_R_By s_R_New s_R_L s_NextID s_NextAp) with
        | some r5 => some ((r5.1, r5.2.1, r5.2.2.1, r5.2.2.2.1, r5.2.2.2.2.1, r5.2.2.2.2.2.1, r5.2.2.2.2.2.2.1, r5.2.2.2.2.2.2.2.1, r5.2.2.2.2.2.2.2.2.1, r5.2.2.2.2.2.2.2.2.2.1, r5.2.2.2.2.2.2.2.2.2.2), (r4.2.2, 0), (0, 0, 0, 0, [], [], []))
        | none => none)
       else some ((r4.1.1, r4.1.2.1, r4.1.2.2.1, r4.1.2.2.2.1, r4.1.2.2.2.2.1, r4.1.2.2.2.2.2.1, r4.1.2.2.2.2.2.2.1, r4.1.2.2.2.2.2.2.2.1, r4.1.2.2.2.2.2.2.2.2.1, r4.1.2.2.2.2.2.2.2.2.2.1, r4.1.2.2.2.2.2.2.2.2.2.2), (0, (max r4.2.1 0)), (0, 0, 0, 0, [], [], []))
      | none => none)
     else bif decide (o_Kind = 1) then
      (match (F51 r3.1 r3.2.1 r3.2.2.1 r3.2.2.2.1 r3.2.2.2.2.1 r3.2.2.2.2.2.1 r3.2.2.2.2.2.2.1 r3.2.2.2.2.2.2.2.1 r3.2.2.2.2.2.2.2.2.1 r3.2.2.2.2.2.2.2.2.2.1 r3.2.2.2.2.2.2.2.2.2.2 o_ID o_T o_Max) with
      | some r6 => bif (!(decide (r6.2 = 0))) then
        (match (F11 s_W_Now s_W_T s_W_A s_W_Cur s_R_On s_R_Since s_R_By s_R_New s_R_L s_NextID s_NextAp) with
        | some r7 => some ((r7.1, r7.2.1, r7.2.2.1, r7.2.2.2.1, r7.2.2.2.2.1, r7.2.2.2.2.2.1, r7.2.2.2.2.2.2.1, r7.2.2.2.2.2.2.2.1, r7.2.2.2.2.2.2.2.2.1, r7.2.2.2.2.2.2.2.2.2.1, r7.2.2.2.2.2.2.2.2.2.2), (r6.2, 0), (0, 0, 0, 0, [], [], []))
        | none => none)
       else some ((r6.1.1, r6.1.2.1, r6.1.2.2.1, r6.1.2.2.2.1, r6.1.2.2.2.2.1, r6.1.2.2.2.2.2.1, r6.1.2.2.2.2.2.2.1, r6.1.2.2.2.2.2.2.2.1, r6.1.2.2.2.2.2.2.2.2.1, r6.1.2.2.2.2.2.2.2.2.2.1, r6.1.2.2.2.2.2.2.2.2.2.2), (0, 0), (0, 0, 0, 0, [], [], []))
      | none => none)
     else bif decide (o_Kind = 2) then
      (match (F52 r3.1 r3.2.1 r3.2.2.1 r3.2.2.2.1 r3.2.2.2.2.1 r3.2.2.2.2.2.1 r3.2.2.2.2.2.2.1 r3.2.2.2.2.2.2.2.1 r3.2.2.2.2.2.2.2.2.1 r3.2.2.2.2.2.2.2.2.2.1 r3.2.2.2.2.2.2.2.2.2.2 o_ID) with
      | some r8 => bif (!(decide (r8.2 = 0))) then
        (match (F11 s_W_Now s_W_T s_W_A s_W_Cur s_R_On s_R_Since s_R_By s_R_New s_R_L s_NextID s_NextAp) with
        | some r9 => some ((r9.1, r9.2.1, r9.2.2.1, r9.2.2.2.1, r9.2.2.2.2.1, r9.2.2.2.2.2.1, r9.2.2.2.2.2.2.1, r9.2.2.2.2.2.2.2.1, r9.2.2.2.2.2.2.2.2.1, r9.2.2.2.2.2.2.2.2.2.1, r9.2.2.2.2.2.2.2.2.2.2), (r8.2, 0), (0, 0, 0, 0, [], [], []))
        | none => none)
       else some ((r8.1.1, r8.1.2.1, r8.1.2.2.1, r8.1.2.2.2.1, r8.1.2.2.2.2.1, r8.1.2.2.2.2.2.1, r8.1.2.2.2.2.2.2.1, r8.1.2.2.2.2.2.2.2.1, r8.1.2.2.2.2.2.2.2.2.1, r8.1.2.2.2.2.2.2.2.2.2.1, r8.1.2.2.2.2.2.2.2.2.2.2), (0, 0), (0, 0, 0, 0, [], [], []))
      | none => none)
     else bif decide (o_Kind = 3) then
      bif decide (o_Within = 0) then
       bif decide (o_Within = 0) then
        (match (F11 s_W_Now s_W_T s_W_A s_W_Cur s_R_On s_R_Since s_R_By s_R_New s_R_L s_NextID s_NextAp) with
        | some r10 => some ((r10.1, r10.2.1, r10.2.2.1, r10.2.2.2.1, r10.2.2.2.2.1, r10.2.2.2.2.2.1, r10.2.2.2.2.2.2.1, r10.2.2.2.2.2.2.2.1, r10.2.2.2.2.2.2.2.2.1, r10.2.2.2.2.2.2.2.2.2.1, r10.2.2.2.2.2.2.2.2.2.2), (1, 0), (0, 0, 0, 0, [], [], []))
        | none => none)
       else bif decide ((r3.2.2.1.length : Int) = 4) then
        bif decide ((r3.2.2.1.length : Int) = 4) then
         (match (F11 s_W_Now s_W_T s_W_A s_W_Cur s_R_On s_R_Since s_R_By s_R_New s_R_L s_NextID s_NextAp) with
         | some r11 => some ((r11.1, r11.2.1, r11.2.2.1, r11.2.2.2.1, r11.2.2.2.2.1, r11.2.2.2.2.2.1, r11.2.2.2.2.2.2.1, r11.2.2.2.2.2.2.2.1, r11.2.2.2.2.2.2.2.2.1, r11.2.2.2.2.2.2.2.2.2.1, r11.2.2.2.2.2.2.2.2.2.2), (3, 0), (0, 0, 0, 0, [], [], []))
         | none => none)
        else bif Nat.ble ((r3.2.2.1 ++ ([(Ape.mk r3.2.2.2.2.2.2.2.2.2.2 (wI (r3.1 + o_Within)) o_C o_V 0)])).length) 100000 then some ((r3.1, r3.2.1, (r3.2.2.1 ++ ([(Ape.mk r3.2.2.2.2.2.2.2.2.2.2 (wI (r3.1 + o_Within)) o_C o_V 0)])), r3.2.2.2.1, r3.2.2.2.2.1, r3.2.2.2.2.2.1, r3.2.2.2.2.2.2.1, r3.2.2.2.2.2.2.2.1, r3.2.2.2.2.2.2.2.2.1, r3.2.2.2.2.2.2.2.2.2.1, (wI (r3.2.2.2.2.2.2.2.2.2.2 + 1))), (0, r3.2.2.2.2.2.2.2.2.2.2), (0, 0, 0, 0, [], [], []))
        else none
       else bif decide (r3.2.2.2.2.2.2.2.2.2.2 = 65536) then
        (match (F11 s_W_Now s_W_T s_W_A s_W_Cur s_R_On s_R_Since s_R_By s_R_New s_R_L s_NextID s_NextAp) with
        | some r12 => some ((r12.1, r12.2.1, r12.2.2.1, r12.2.2.2.1, r12.2.2.2.2.1, r12.2.2.2.2.2.1, r12.2.2.2.2.2.2.1, r12.2.2.2.2.2.2.2.1, r12.2.2.2.2.2.2.2.2.1, r12.2.2.2.2.2.2.2.2.2.1, r12.2.2.2.2.2.2.2.2.2.2), (3, 0), (0, 0, 0, 0, [], [], []))
        | none => none)
       else bif Nat.ble ((r3.2.2.1 ++ ([(Ape.mk r3.2.2.2.2.2.2.2.2.2.2 (wI (r3.1 + o_Within)) o_C o_V 0)])).length) 100000 then some ((r3.1, r3.2.1, (r3.2.2.1 ++ ([(Ape.mk r3.2.2.2.2.2.2.2.2.2.2 (wI (r3.1 + o_Within)) o_C o_V 0)])), r3.2.2.2.1, r3.2.2.2.2.1, r3.2.2.2.2.2.1, r3.2.2.2.2.2.2.1, r3.2.2.2.2.2.2.2.1, r3.2.2.2.2.2.2.2.2.1, r3.2.2.2.2.2.2.2.2.2.1, (wI (r3.2.2.2.2.2.2.2.2.2.2 + 1))), (0, r3.2.2.2.2.2.2.2.2.2.2), (0, 0, 0, 0, [], [], []))
       else none
      else bif decide (o_C < 1) then
       bif decide (o_C < 1) then
        (match (F11 s_W_Now s_W_T s_W_A s_W_Cur s_R_On s_R_Since s_R_By s_R_New s_R_L s_NextID s_NextAp) with
        | some r13 => some ((r13.1, r13.2.1, r13.2.2.1, r13.2.2.2.1, r13.2.2.2.2.1, r13.2.2.2.2.2.1, r13.2.2.2.2.2.2.1, r13.2.2.2.2.2.2.2.1, r13.2.2.2.2.2.2.2.2.1, r13.2.2.2.2.2.2.2.2.2.1, r13.2.2.2.2.2.2.2.2.2.2), (1, 0), (0, 0, 0, 0, [], [], []))
        | none => none)
       else bif decide ((r3.2.2.1.length : Int) = 4) then
        bif decide ((r3.2.2.1.length : Int) = 4) then
         (match (F11 s_W_Now s_W_T s_W_A s_W_Cur s_R_On s_R_Since s_R_By s_R_New s_R_L s_NextID s_NextAp) with
         | some r14 => some ((r14.1, r14.2.1, r14.2.2.1, r14.2.2.2.1, r14.2.2.2.2.1, r14.2.2.2.2.2.1, r14.2.2.2.2.2.2.1, r14.2.2.2.2.2.2.2.1, r14.2.2.2.2.2.2.2.2.1, r14.2.2.2.2.2.2.2.2.2.1, r14.2.2.2.2.2.2.2.2.2.2), (3, 0), (0, 0, 0, 0, [], [], []))
         | none => none)
        else bif Nat.ble ((r3.2.2.1 ++ ([(Ape.mk r3.2.2.2.2.2.2.2.2.2.2 (wI (r3.1 + o_Within)) o_C o_V 0)])).length) 100000 then some ((r3.1, r3.2.1, (r3.2.2.1 ++ ([(Ape.mk r3.2.2.2.2.2.2.2.2.2.2 (wI (r3.1 + o_Within)) o_C o_V 0)])), r3.2.2.2.1, r3.2.2.2.2.1, r3.2.2.2.2.2.1, r3.2.2.2.2.2.2.1, r3.2.2.2.2.2.2.2.1, r3.2.2.2.2.2.2.2.2.1, r3.2.2.2.2.2.2.2.2.2.1, (wI (r3.2.2.2.2.2.2.2.2.2.2 + 1))), (0, r3.2.2.2.2.2.2.2.2.2.2), (0, 0, 0, 0, [], [], []))
        else none
       else bif decide (r3.2.2.2.2.2.2.2.2.2.2 = 65536) then
        (match (F11 s_W_Now s_W_T s_W_A s_W_Cur s_R_On s_R_Since s_R_By s_R_New s_R_L s_NextID s_NextAp) with
        | some r15 => some ((r15.1, r15.2.1, r15.2.2.1, r15.2.2.2.1, r15.2.2.2.2.1, r15.2.2.2.2.2.1, r15.2.2.2.2.2.2.1, r15.2.2.2.2.2.2.2.1, r15.2.2.2.2.2.2.2.2.1, r15.2.2.2.2.2.2.2.2.2.1, r15.2.2.2.2.2.2.2.2.2.2), (3, 0), (0, 0, 0, 0, [], [], []))
        | none => none)
       else bif Nat.ble ((r3.2.2.1 ++ ([(Ape.mk r3.2.2.2.2.2.2.2.2.2.2 (wI (r3.1 + o_Within)) o_C o_V 0)])).length) 100000 then some ((r3.1, r3.2.1, (r3.2.2.1 ++ ([(Ape.mk r3.2.2.2.2.2.2.2.2.2.2 (wI (r3.1 + o_Within)) o_C o_V 0)])), r3.2.2.2.1, r3.2.2.2.2.1, r3.2.2.2.2.2.1, r3.2.2.2.2.2.2.1, r3.2.2.2.2.2.2.2.1, r3.2.2.2.2.2.2.2.2.1, r3.2.2.2.2.2.2.2.2.2.1, (wI (r3.2.2.2.2.2.2.2.2.2.2 + 1))), (0, r3.2.2.2.2.2.2.2.2.2.2), (0, 0, 0, 0, [], [], []))
       else none
      else bif decide (40 < o_C) then
       bif decide (40 < o_C) then
        (match (F11 s_W_Now s_W_T s_W_A s_W_Cur s_R_On s_R_Since s_R_By s_R_New s_R_L s_NextID s_NextAp) with
        | some r16 => some ((r16.1, r16.2.1, r16.2.2.1, r16.2.2.2.1, r16.2.2.2.2.1, r16.2.2.2.2.2.1, r16.2.2.2.2.2.2.1, r16.2.2.2.2.2.2.2.1, r16.2.2.2.2.2.2.2.2.1, r16.2.2.2.2.2.2.2.2.2.1, r16.2.2.2.2.2.2.2.2.2.2), (1, 0), (0, 0, 0, 0, [], [], []))
        | none => none)
       else bif decide ((r3.2.2.1.length : Int) = 4) then
        bif decide ((r3.2.2.1.length : Int) = 4) then
         (match (F11 s_W_Now s_W_T s_W_A s_W_Cur s_R_On s_R_Since s_R_By s_R_New s_R_L s_NextID s_NextAp) with
         | some r17 => some ((r17.1, r17.2.1, r17.2.2.1, r17.2.2.2.1, r17.2.2.2.2.1, r17.2.2.2.2.2.1, r17.2.2.2.2.2.2.1, r17.2.2.2.2.2.2.2.1, r17.2.2.2.2.2.2.2.2.1, r17.2.2.2.2.2.2.2.2.2.1, r17.2.2.2.2.2.2.2.2.2.2), (3, 0), (0, 0, 0, 0, [], [], []))
         | none => none)
        else bif Nat.ble ((r3.2.2.1 ++ ([(Ape.mk r3.2.2.2.2.2.2.2.2.2.2 (wI (r3.1 + o_Within)) o_C o_V 0)])).length) 100000 then some ((r3.1, r3.2.1, (r3.2.2.1 ++ ([(Ape.mk r3.2.2.2.2.2.2.2.2.2.2 (wI (r3.1 + o_Within)) o_C o_V 0)])), r3.2.2.2.1, r3.2.2.2.2.1, r3.2.2.2.2.2.1, r3.2.2.2.2.2.2.1, r3.2.2.2.2.2.2.2.1, r3.2.2.2.2.2.2.2.2.1, r3.2.2.2.2.2.2.2.2.2.1, (wI (r3.2.2.2.2.2.2.2.2.2.2 + 1))), (0, r3.2.2.2.2.2.2.2.2.2.2), (0, 0, 0, 0, [], [], []))
        else none
       else bif decide (r3.2.2.2.2.2.2.2.2.2.2 = 65536) then
        (match (F11 s_W_Now s_W_T s_W_A s_W_Cur s_R_On s_R_Since s_R_By s_R_New s_R_L s_NextID s_NextAp) with
        | some r18 => some ((r18.1, r18.2.1, r18.2.2.1, r18.2.2.2.1, r18.2.2.2.2.1, r18.2.2.2.2.2.1, r18.2.2.2.2.2.2.1, r18.2.2.2.2.2.2.2.1, r18.2.2.2.2.2.2.2.2.1, r18.2.2.2.2.2.2.2.2.2.1, r18.2.2.2.2.2.2.2.2.2.2), (3, 0), (0, 0, 0, 0, [], [], []))
        | none => none)
       else bif Nat.ble ((r3.2.2.1 ++ ([(Ape.mk r3.2.2.2.2.2.2.2.2.2.2 (wI (r3.1 + o_Within)) o_C o_V 0)])).length) 100000 then some ((r3.1, r3.2.1, (r3.2.2.1 ++ ([(Ape.mk r3.2.2.2.2.2.2.2.2.2.2 (wI (r3.1 + o_Within)) o_C o_V 0)])), r3.2.2.2.1, r3.2.2.2.2.1, r3.2.2.2.2.2.1, r3.2.2.2.2.2.2.1, r3.2.2.2.2.2.2.2.1, r3.2.2.2.2.2.2.2.2.1, r3.2.2.2.2.2.2.2.2.2.1, (wI (r3.2.2.2.2.2.2.2.2.2.2 + 1))), (0, r3.2.2.2.2.2.2.2.2.2.2), (0, 0, 0, 0, [], [], []))
       else none
      else bif decide (o_V < 1) then
       bif decide (o_V < 1) then
        (match (F11 s_W_Now s_W_T s_W_A s_W_Cur s_R_On s_R_Since s_R_By s_R_New s_R_L s_NextID s_NextAp) with
        | some r19 => some ((r19.1, r19.2.1, r19.2.2.1, r19.2.2.2.1, r19.2.2.2.2.1, r19.2.2.2.2.2.1, r19.2.2.2.2.2.2.1, r19.2.2.2.2.2.2.2.1, r19.2.2.2.2.2.2.2.2.1, r19.2.2.2.2.2.2.2.2.2.1, r19.2.2.2.2.2.2.2.2.2.2), (1, 0), (0, 0, 0, 0, [], [], []))
        | none => none)
       else bif decide ((r3.2.2.1.length : Int) = 4) then
        bif decide ((r3.2.2.1.length : Int) = 4) then
         (match (F11 s_W_Now s_W_T s_W_A s_W_Cur s_R_On s_R_Since s_R_By s_R_New s_R_L s_NextID s_NextAp) with
         | some r20 => some ((r20.1, r20.2.1, r20.2.2.1, r20.2.2.2.1, r20.2.2.2.2.1, r20.2.2.2.2.2.1, r20.2.2.2.2.2.2.1, r20.2.2.2.2.2.2.2.1, r20.2.2.2.2.2.2.2.2.1, r20.2.2.2.2.2.2.2.2.2.1, r20.2.2.2.2.2.2.2.2.2.2), (3, 0), (0, 0, 0, 0, [], [], []))
         | none => none)
        else bif Nat.ble ((r3.2.2.1 ++ ([(Ape.mk r3.2.2.2.2.2.2.2.2.2.2 (wI (r3.1 + o_Within)) o_C o_V 0)])).length) 100000 then some ((r3.1, r3.2.1, (r3.2.2.1 ++ ([(Ape.mk r3.2.2.2.2.2.2.2.2.2.2 (wI (r3.1 + o_Within)) o_C o_V 0)])), r3.2.2.2.1, r3.2.2.2.2.1, r3.2.2.2.2.2.1, r3.2.2.2.2.2.2.1, r3.2.2.2.2.2.2.2.1, r3.2.2.2.2.2.2.2.2.1, r3.2.2.2.2.2.2.2.2.2.1, (wI (r3.2.2.2.2.2.2.2.2.2.2 + 1))), (0, r3.2.2.2.2.2.2.2.2.2.2), (0, 0, 0, 0, [], [], []))
        else none
       else bif decide (r3.2.2.2.2.2.2.2.2.2.2 = 65536) then
        (match (F11 s_W_Now s_W_T s_W_A s_W_Cur s_R_On s_R_Since s_R_By s_R_New s_R_L s_NextID s_NextAp) with
        | some r21 => some ((r21.1, r21.2.1, r21.2.2.1, r21.2.2.2.1, r21.2.2.2.2.1, r21.2.2.2.2.2.1, r21.2.2.2.2.2.2.1, r21.2.2.2.2.2.2.2.1, r21.2.2.2.2.2.2.2.2.1, r21.2.2.2.2.2.2.2.2.2.1, r21.2.2.2.2.2.2.2.2.2.2), (3, 0), (0, 0, 0, 0, [], [], []))
        | none => none)
       else bif Nat.ble ((r3.2.2.1 ++ ([(Ape.mk r3.2.2.2.2.2.2.2.2.2.2 (wI (r3.1 + o_Within)) o_C o_V 0)])).length) 100000 then some ((r3.1, r3.2.1, (r3.2.2.1 ++ ([(Ape.mk r3.2.2.2.2.2.2.2.2.2.2 (wI (r3.1 + o_Within)) o_C o_V 0)])), r3.2.2.2.1, r3.2.2.2.2.1, r3.2.2.2.2.2.1, r3.2.2.2.2.2.2.1, r3.2.2.2.2.2.2.2.1, r3.2.2.2.2.2.2.2.2.1, r3.2.2.2.2.2.2.2.2.2.1, (wI (r3.2.2.2.2.2.2.2.2.2.2 + 1))), (0, r3.2.2.2.2.2.2.2.2.2.2), (0, 0, 0, 0, [], [], []))
       else none
      else bif decide (1000 < o_V) then
       (match (F11 s_W_Now s_W_T s_W_A s_W_Cur s_R_On s_R_Since s_R_By s_R_New s_R_L s_NextID s_NextAp) with
       | some r22 => some ((r22.1, r22.2.1, r22.2.2.1, r22.2.2.2.1, r22.2.2.2.2.1, r22.2.2.2.2.2.1, r22.2.2.2.2.2.2.1, r22.2.2.2.2.2.2.2.1, r22.2.2.2.2.2.2.2.2.1, r22.2.2.2.2.2.2.2.2.2.1, r22.2.2.2.2.2.2.2.2.2.2), (1, 0), (0, 0, 0, 0, [], [], []))
       | none => none)
      else bif decide ((r3.2.2.1.length : Int) = 4) then
       bif decide ((r3.2.2.1.length : Int) = 4) then
        (match (F11 s_W_Now s_W_T s_W_A s_W_Cur s_R_On s_R_Since s_R_By s_R_New s_R_L s_NextID s_NextAp) with
        | some r23 => some ((r23.1, r23.2.1, r23.2.2.1, r23.2.2.2.1, r23.2.2.2.2.1, r23.2.2.2.2.2.1, r23.2.2.2.2.2.2.1, r23.2.2.2.2.2.2.2.1, r23.2.2.2.2.2.2.2.2.1, r23.2.2.2.2.2.2.2.2.2.1, r23.2.2.2.2.2.2.2.2.2.2), (3, 0), (0, 0, 0, 0, [], [], []))
        | none => none)
       else bif Nat.ble ((r3.2.2.1 ++ ([(Ape.mk r3.2.2.2.2.2.2.2.2.2.2 (wI (r3.1 + o_Within)) o_C o_V 0)])).length) 100000 then some ((r3.1, r3.2.1, (r3.2.2.1 ++ ([(Ape.mk r3.2.2.2.2.2.2.2.2.2.2 (wI (r3.1 + o_Within)) o_C o_V 0)])), r3.2.2.2.1, r3.2.2.2.2.1, r3.2.2.2.2.2.1, r3.2.2.2.2.2.2.1, r3.2.2.2.2.2.2.2.1, r3.2.2.2.2.2.2.2.2.1, r3.2.2.2.2.2.2.2.2.2.1, (wI (r3.2.2.2.2.2.2.2.2.2.2 + 1))), (0, r3.2.2.2.2.2.2.2.2.2.2), (0, 0, 0, 0, [], [], []))
       else none
      else bif decide (r3.2.2.2.2.2.2.2.2.2.2 = 65536) then
       (match (F11 s_W_Now s_W_T s_W_A s_W_Cur s_R_On s_R_Since s_R_By s_R_New s_R_L s_NextID s_NextAp) with
       | some r24 => some ((r24.1, r24.2.1, r24.2.2.1, r24.2.2.2.1, r24.2.2.2.2.1, r24.2.2.2.2.2.1, r24.2.2.2.2.2.2.1, r24.2.2.2.2.2.2.2.1, r24.2.2.2.2.2.2.2.2.1, r24.2.2.2.2.2.2.2.2.2.1, r24.2.2.2.2.2.2.2.2.2.2), (3, 0), (0, 0, 0, 0, [], [], []))
       | none => none)
      else bif Nat.ble ((r3.2.2.1 ++ ([(Ape.mk r3.2.2.2.2.2.2.2.2.2.2 (wI (r3.1 + o_Within)) o_C o_V 0)])).length) 100000 then some ((r3.1, r3.2.1, (r3.2.2.1 ++ ([(Ape.mk r3.2.2.2.2.2.2.2.2.2.2 (wI (r3.1 + o_Within)) o_C o_V 0)])), r3.2.2.2.1, r3.2.2.2.2.1, r3.2.2.2.2.2.1, r3.2.2.2.2.2.2.1, r3.2.2.2.2.2.2.2.1, r3.2.2.2.2.2.2.2.2.1, r3.2.2.2.2.2.2.2.2.2.1, (wI (r3.2.2.2.2.2.2.2.2.2.2 + 1))), (0, r3.2.2.2.2.2.2.2.2.2.2), (0, 0, 0, 0, [], [], []))
      else none
     else bif decide (o_Kind = 4) then (match (F53 r3.1 r3.2.1 r3.2.2.1 r3.2.2.2.1 r3.2.2.2.2.1 r3.2.2.2.2.2.1 r3.2.2.2.2.2.2.1 r3.2.2.2.2.2.2.2.1 r3.2.2.2.2.2.2.2.2.1 r3.2.2.2.2.2.2.2.2.2.1 r3.2.2.2.2.2.2.2.2.2.2) with
      | some r25 => (match (F54 r25.1.1 r25.1.2.1 r25.1.2.2.1 r25.1.2.2.2.1 o_D) with
       | some r26 => bif (!r26.2.2) then
         (match (F11 s_W_Now s_W_T s_W_A s_W_Cur s_R_On s_R_Since s_R_By s_R_New s_R_L s_NextID s_NextAp) with
         | some r27 => some ((r27.1, r27.2.1, r27.2.2.1, r27.2.2.2.1, r27.2.2.2.2.1, r27.2.2.2.2.2.1, r27.2.2.2.2.2.2.1, r27.2.2.2.2.2.2.2.1, r27.2.2.2.2.2.2.2.2.1, r27.2.2.2.2.2.2.2.2.2.1, r27.2.2.2.2.2.2.2.2.2.2), (1, 0), (0, 0, 0, 0, [], [], []))
         | none => none)
        else some ((r26.1.1, r26.1.2.1, r26.1.2.2.1, r26.1.2.2.2, r25.1.2.2.2.2.1, r25.1.2.2.2.2.2.1, r25.1.2.2.2.2.2.2.1, r25.1.2.2.2.2.2.2.2.1, r25.1.2.2.2.2.2.2.2.2.1, r25.1.2.2.2.2.2.2.2.2.2.1, r25.1.2.2.2.2.2.2.2.2.2.2), (0, r26.1.1), (r26.2.1.1, r26.2.1.2.1, r26.2.1.2.2.1, r26.2.1.2.2.2.1, r26.2.1.2.2.2.2.1, r26.2.1.2.2.2.2.2.1, r26.2.1.2.2.2.2.2.2))
       | none => none)
      | none => none)
     else none
    else bif (!(decide (r2 = 0))) then
     (match (F11 s_W_Now s_W_T s_W_A s_W_Cur s_R_On s_R_Since s_R_By s_R_New s_R_L s_NextID s_NextAp) with
     | some r28 => some ((r28.1, r28.2.1, r28.2.2.1, r28.2.2.2.1, r28.2.2.2.2.1, r28.2.2.2.2.2.1, r28.2.2.2.2.2.2.1, r28.2.2.2.2.2.2.2.1, r28.2.2.2.2.2.2.2.2.1, r28.2.2.2.2.2.2.2.2.2.1, r28.2.2.2.2.2.2.2.2.2.2), (r2, 0), (0, 0, 0, 0, [], [], []))
     | none => none)
    else some ((r3.1, r3.2.1, r3.2.2.1, r3.2.2.2.1, r3.2.2.2.2.1, r3.2.2.2.2.2.1, r3.2.2.2.2.2.2.1, r3.2.2.2.2.2.2.2.1, r3.2.2.2.2.2.2.2.2.1, r3.2.2.2.2.2.2.2.2.2.1, r3.2.2.2.2.2.2.2.2.2.2), (0, 0), (0, 0, 0, 0, [], [], []))
   | none => none)
  | none => none)
 | none => none)
theorem ev6 (s_W_Now : Int) (s_W_T : List Task) (s_W_A : List Ape) (s_W_Cur : Int) (s_R_On : Bool) (s_R_Since s_R_By s_R_New : Int) (s_R_L : List Aim) (s_NextID s_NextAp o_Kind o_ID o_S_C o_S_T o_S_Max o_S_M o_S_K o_S_E o_T o_Max o_Within o_C o_V : Int) (o_D : List Int) : evC (R' := [.agg [.i, .own .task 54, .own .ape 88, .i, .b, .i, .i, .i, .own .aim 91, .i, .i], .agg [.i, .i], .agg [.i, .i, .i, .i, .own .int 3, .own .int 3, .own .int 3]]) P KK T5 LOrc.none 6 [.agg [.i, .sl .task, .sl .ape, .i, .b, .i, .i, .i, .sl .aim, .i, .i], .agg [.i, .i, .i, .i, .i, .i, .i, .i, .i, .i, .i, .i, .i, .sl .int]] ((s_W_Now, s_W_T, s_W_A, s_W_Cur, s_R_On, s_R_Since, s_R_By, s_R_New, s_R_L, s_NextID, s_NextAp, ()), (o_Kind, o_ID, o_S_C, o_S_T, o_S_Max, o_S_M, o_S_K, o_S_E, o_T, o_Max, o_Within, o_C, o_V, o_D, ()), ()) = F6 s_W_Now s_W_T s_W_A s_W_Cur s_R_On s_R_Since s_R_By s_R_New s_R_L s_NextID s_NextAp o_Kind o_ID o_S_C o_S_T o_S_Max o_S_M o_S_K o_S_E o_T o_Max o_Within o_C o_V o_D := by kernel_rfl
def g6 : Sig := ⟨[.agg [.i, .sl .task, .sl .ape, .i, .b, .i, .i, .i, .sl .aim, .i, .i], .agg [.i, .i, .i, .i, .i, .i, .i, .i, .i, .i, .i, .i, .i, .sl .int]], [.agg [.i, .own .task 54, .own .ape 88, .i, .b, .i, .i, .i, .own .aim 91, .i, .i], .agg [.i, .i], .agg [.i, .i, .i, .i, .own .int 3, .own .int 3, .own .int 3]]⟩
def T6 {R : Type} : Orc R := fun f args h k => bif Nat.beq f 6 then contract g6 (fun d => F6 d.1.1 d.1.2.1 d.1.2.2.1 d.1.2.2.2.1 d.1.2.2.2.2.1 d.1.2.2.2.2.2.1 d.1.2.2.2.2.2.2.1 d.1.2.2.2.2.2.2.2.1 d.1.2.2.2.2.2.2.2.2.1 d.1.2.2.2.2.2.2.2.2.2.1 d.1.2.2.2.2.2.2.2.2.2.2.1 d.2.1.1 d.2.1.2.1 d.2.1.2.2.1 d.2.1.2.2.2.1 d.2.1.2.2.2.2.1 d.2.1.2.2.2.2.2.1 d.2.1.2.2.2.2.2.2.1 d.2.1.2.2.2.2.2.2.2.1 d.2.1.2.2.2.2.2.2.2.2.1 d.2.1.2.2.2.2.2.2.2.2.2.1 d.2.1.2.2.2.2.2.2.2.2.2.2.1 d.2.1.2.2.2.2.2.2.2.2.2.2.2.1 d.2.1.2.2.2.2.2.2.2.2.2.2.2.2.1 d.2.1.2.2.2.2.2.2.2.2.2.2.2.2.2.1) args h k else T5 f args h k
def F7  : Spec :=
 (Spec.mk 2 10 20 1 2 3)
theorem ev7  : evC (R' := [.el .spec]) P KK T6 LOrc.none 7 [] () = some (F7) := by kernel_rfl
def g7 : Sig := ⟨[], [.el .spec]⟩
def T7 {R : Type} : Orc R := fun f args h k => bif Nat.beq f 7 then contract g7 (fun d => some (F7)) args h k else T6 f args h k
def F4  : Option (Bool) :=
 let r1 := F5
 let r2 := F7
 (match (F6 r1.1 r1.2.1 r1.2.2.1 r1.2.2.2.1 r1.2.2.2.2.1 r1.2.2.2.2.2.1 r1.2.2.2.2.2.2.1 r1.2.2.2.2.2.2.2.1 r1.2.2.2.2.2.2.2.2.1 r1.2.2.2.2.2.2.2.2.2.1 r1.2.2.2.2.2.2.2.2.2.2 0 0 r2.C r2.T r2.Max r2.M r2.K r2.E 0 0 0 0 0 []) with
 | some r3 => (match (F6 r3.1.1 r3.1.2.1 r3.1.2.2.1 r3.1.2.2.2.1 r3.1.2.2.2.2.1 r3.1.2.2.2.2.2.1 r3.1.2.2.2.2.2.2.1 r3.1.2.2.2.2.2.2.2.1 r3.1.2.2.2.2.2.2.2.2.1 r3.1.2.2.2.2.2.2.2.2.2.1 r3.1.2.2.2.2.2.2.2.2.2.2 4 0 0 0 0 0 0 0 0 0 0 0 0 []) with
  | some r4 => (match (F6 r4.1.1 r4.1.2.1 r4.1.2.2.1 r4.1.2.2.2.1 r4.1.2.2.2.2.1 r4.1.2.2.2.2.2.1 r4.1.2.2.2.2.2.2.1 r4.1.2.2.2.2.2.2.2.1 r4.1.2.2.2.2.2.2.2.2.1 r4.1.2.2.2.2.2.2.2.2.2.1 r4.1.2.2.2.2.2.2.2.2.2.2 4 0 0 0 0 0 0 0 0 0 0 0 0 []) with
   | some r5 => bif (decide (r3.2.1.1 = 0) && (decide (r3.2.1.2 = 0) && true)) then
     bif (decide (r4.2.2.2.1 = 1) && (decide (r4.2.2.2.2.1 = 0) && true)) then
      bif decide (r5.2.2.2.2.2.1 = 1) then
       bif decide ((r5.1.2.1.length : Int) = 1) then
        bif decide (0 < (r5.1.2.1.length : Int)) then (match r5.1.2.1[0]? with
         | some x6 => (match (F8 x6.H 1) with
          | some r7 => some (decide (r7 = 1))
          | none => none)
         | none => none)
        else none
       else some false
      else some false
     else some false
    else some false
   | none => none)
  | none => none)
 | none => none)
theorem ev4  : evC (R' := [.cell .b]) P KK T7 LOrc.none 4 [] () = F4 := by kernel_rfl
def g4 : Sig := ⟨[], [.cell .b]⟩
def T4 {R : Type} : Orc R := fun f args h k => bif Nat.beq f 4 then contract g4 (fun d => F4) args h k else T7 f args h k
def S3_7 {R : Type} (e0 : Bool → Int → Int → Bool → Int → Int → Int → Int → Int → Int → Int → Bool → Int → Int → Int → Int → Int → (List Task) → (List Ape) → (List Aim) → (List Task) → (List Ape) → (List Aim) → Option R) (e1 : Int → Int → Bool → Int → Int → Int → Int → Int → Int → Int → Bool → Int → Int → Int → Int → Int → (List Task) → (List Ape) → (List Aim) → (List Task) → (List Ape) → (List Aim) → Option R) (y5 : List OpD) (rec : Int → Int → Int → Bool → Int → Int → Int → Int → Int → Int → Int → Bool → Int → Int → Int → Int → Int → (List Task) → (List Ape) → (List Aim) → (List Task) → (List Ape) → (List Aim) → Option R) (y4 y6 y7 : Int) (y8 : Bool) (y9 y10 y11 y12 y13 y14 y15 : Int) (y16 : Bool) (y17 y18 y19 y20 y21 : Int) (y22 : List Task) (y23 : List Ape) (y24 : List Aim) (y25 : List Task) (y26 : List Ape) (y27 : List Aim) : Option R :=
 bif decide (y4 < (y5.length : Int)) then
  bif (decide (0 ≤ y4) && decide (y4 < (y5.length : Int))) then (match y5[(Int.toNat y4)]? with
   | some x28 => (match y5[(Int.toNat y4)]? with
    | some x29 => (match (F6 y6 y22 y23 y7 y8 y9 y10 y11 y24 y12 y13 x28.Kind x28.ID x28.S.C x28.S.T x28.S.Max x28.S.M x28.S.K x28.S.E x28.T x28.Max x28.Within x28.C x28.V x29.D) with
     | some r30 => bif (decide (0 ≤ y4) && decide (y4 < (y5.length : Int))) then (match y5[(Int.toNat y4)]? with
       | some x31 => bif decide (x31.Kind = 3) then
         rec (wI (y4 + 1)) r30.1.1 r30.1.2.2.2.1 r30.1.2.2.2.2.1 r30.1.2.2.2.2.2.1 r30.1.2.2.2.2.2.2.1 r30.1.2.2.2.2.2.2.2.1 r30.1.2.2.2.2.2.2.2.2.2.1 r30.1.2.2.2.2.2.2.2.2.2.2 y14 y15 y16 y17 y18 y19 y20 y21 r30.1.2.1 r30.1.2.2.1 r30.1.2.2.2.2.2.2.2.2.1 y25 y26 y27
        else bif (decide (0 ≤ y4) && decide (y4 < (y5.length : Int))) then (match y5[(Int.toNat y4)]? with
         | some x32 => (match y5[(Int.toNat y4)]? with
          | some x33 => (match (F6 y14 y25 y26 y15 y16 y17 y18 y19 y27 y20 y21 x32.Kind x32.ID x32.S.C x32.S.T x32.S.Max x32.S.M x32.S.K x32.S.E x32.T x32.Max x32.Within x32.C x32.V x33.D) with
           | some r34 => bif (!(decide (r30.2.1.1 = r34.2.1.1) && (decide (r30.2.1.2 = r34.2.1.2) && true))) then
             e0 false r30.1.1 r30.1.2.2.2.1 r30.1.2.2.2.2.1 r30.1.2.2.2.2.2.1 r30.1.2.2.2.2.2.2.1 r30.1.2.2.2.2.2.2.2.1 r30.1.2.2.2.2.2.2.2.2.2.1 r30.1.2.2.2.2.2.2.2.2.2.2 r34.1.1 r34.1.2.2.2.1 r34.1.2.2.2.2.1 r34.1.2.2.2.2.2.1 r34.1.2.2.2.2.2.2.1 r34.1.2.2.2.2.2.2.2.1 r34.1.2.2.2.2.2.2.2.2.2.1 r34.1.2.2.2.2.2.2.2.2.2.2 r30.1.2.1 r30.1.2.2.1 r30.1.2.2.2.2.2.2.2.2.1 r34.1.2.1 r34.1.2.2.1 r34.1.2.2.2.2.2.2.2.2.1
            else bif (!((decide (r30.2.2.2.1 = 1)) == (decide (r34.2.2.2.1 = 1)))) then
             e0 false r30.1.1 r30.1.2.2.2.1 r30.1.2.2.2.2.1 r30.1.2.2.2.2.2.1 r30.1.2.2.2.2.2.2.1 r30.1.2.2.2.2.2.2.2.1 r30.1.2.2.2.2.2.2.2.2.2.1 r30.1.2.2.2.2.2.2.2.2.2.2 r34.1.1 r34.1.2.2.2.1 r34.1.2.2.2.2.1 r34.1.2.2.2.2.2.1 r34.1.2.2.2.2.2.2.1 r34.1.2.2.2.2.2.2.2.1 r34.1.2.2.2.2.2.2.2.2.2.1 r34.1.2.2.2.2.2.2.2.2.2.2 r30.1.2.1 r30.1.2.2.1 r30.1.2.2.2.2.2.2.2.2.1 r34.1.2.1 r34.1.2.2.1 r34.1.2.2.2.2.2.2.2.2.1
            else bif decide (r30.2.2.2.1 = 1) then
             bif (!(decide (r30.2.2.2.2.1 = r34.2.2.2.2.1))) then
              e0 false r30.1.1 r30.1.2.2.2.1 r30.1.2.2.2.2.1 r30.1.2.2.2.2.2.1 r30.1.2.2.2.2.2.2.1 r30.1.2.2.2.2.2.2.2.1 r30.1.2.2.2.2.2.2.2.2.2.1 r30.1.2.2.2.2.2.2.2.2.2.2 r34.1.1 r34.1.2.2.2.1 r34.1.2.2.2.2.1 r34.1.2.2.2.2.2.1 r34.1.2.2.2.2.2.2.1 r34.1.2.2.2.2.2.2.2.1 r34.1.2.2.2.2.2.2.2.2.2.1 r34.1.2.2.2.2.2.2.2.2.2.2 r30.1.2.1 r30.1.2.2.1 r30.1.2.2.2.2.2.2.2.2.1 r34.1.2.1 r34.1.2.2.1 r34.1.2.2.2.2.2.2.2.2.1
             else bif (!(decide ((r30.1.2.1.length : Int) = (r34.1.2.1.length : Int)))) then
              e0 false r30.1.1 r30.1.2.2.2.1 r30.1.2.2.2.2.1 r30.1.2.2.2.2.2.1 r30.1.2.2.2.2.2.2.1 r30.1.2.2.2.2.2.2.2.1 r30.1.2.2.2.2.2.2.2.2.2.1 r30.1.2.2.2.2.2.2.2.2.2.2 r34.1.1 r34.1.2.2.2.1 r34.1.2.2.2.2.1 r34.1.2.2.2.2.2.1 r34.1.2.2.2.2.2.2.1 r34.1.2.2.2.2.2.2.2.1 r34.1.2.2.2.2.2.2.2.2.2.1 r34.1.2.2.2.2.2.2.2.2.2.2 r30.1.2.1 r30.1.2.2.1 r30.1.2.2.2.2.2.2.2.2.1 r34.1.2.1 r34.1.2.2.1 r34.1.2.2.2.2.2.2.2.2.1
             else bif (!(decide ((r30.2.2.2.2.2.2.1.length : Int) = (r34.2.2.2.2.2.2.1.length : Int)))) then
              e0 false r30.1.1 r30.1.2.2.2.1 r30.1.2.2.2.2.1 r30.1.2.2.2.2.2.1 r30.1.2.2.2.2.2.2.1 r30.1.2.2.2.2.2.2.2.1 r30.1.2.2.2.2.2.2.2.2.2.1 r30.1.2.2.2.2.2.2.2.2.2.2 r34.1.1 r34.1.2.2.2.1 r34.1.2.2.2.2.1 r34.1.2.2.2.2.2.1 r34.1.2.2.2.2.2.2.1 r34.1.2.2.2.2.2.2.2.1 r34.1.2.2.2.2.2.2.2.2.2.1 r34.1.2.2.2.2.2.2.2.2.2.2 r30.1.2.1 r30.1.2.2.1 r30.1.2.2.2.2.2.2.2.2.1 r34.1.2.1 r34.1.2.2.1 r34.1.2.2.2.2.2.2.2.2.1
             else rec (wI (y4 + 1)) r30.1.1 r30.1.2.2.2.1 r30.1.2.2.2.2.1 r30.1.2.2.2.2.2.1 r30.1.2.2.2.2.2.2.1 r30.1.2.2.2.2.2.2.2.1 r30.1.2.2.2.2.2.2.2.2.2.1 r30.1.2.2.2.2.2.2.2.2.2.2 r34.1.1 r34.1.2.2.2.1 r34.1.2.2.2.2.1 r34.1.2.2.2.2.2.1 r34.1.2.2.2.2.2.2.1 r34.1.2.2.2.2.2.2.2.1 r34.1.2.2.2.2.2.2.2.2.2.1 r34.1.2.2.2.2.2.2.2.2.2.2 r30.1.2.1 r30.1.2.2.1 r30.1.2.2.2.2.2.2.2.2.1 r34.1.2.1 r34.1.2.2.1 r34.1.2.2.2.2.2.2.2.2.1
            else bif (!(decide ((r30.1.2.1.length : Int) = (r34.1.2.1.length : Int)))) then
             e0 false r30.1.1 r30.1.2.2.2.1 r30.1.2.2.2.2.1 r30.1.2.2.2.2.2.1 r30.1.2.2.2.2.2.2.1 r30.1.2.2.2.2.2.2.2.1 r30.1.2.2.2.2.2.2.2.2.2.1 r30.1.2.2.2.2.2.2.2.2.2.2 r34.1.1 r34.1.2.2.2.1 r34.1.2.2.2.2.1 r34.1.2.2.2.2.2.1 r34.1.2.2.2.2.2.2.1 r34.1.2.2.2.2.2.2.2.1 r34.1.2.2.2.2.2.2.2.2.2.1 r34.1.2.2.2.2.2.2.2.2.2.2 r30.1.2.1 r30.1.2.2.1 r30.1.2.2.2.2.2.2.2.2.1 r34.1.2.1 r34.1.2.2.1 r34.1.2.2.2.2.2.2.2.2.1
            else bif (!(decide ((r30.2.2.2.2.2.2.1.length : Int) = (r34.2.2.2.2.2.2.1.length : Int)))) then
             e0 false r30.1.1 r30.1.2.2.2.1 r30.1.2.2.2.2.1 r30.1.2.2.2.2.2.1 r30.1.2.2.2.2.2.2.1 r30.1.2.2.2.2.2.2.2.1 r30.1.2.2.2.2.2.2.2.2.2.1 r30.1.2.2.2.2.2.2.2.2.2.2 r34.1.1 r34.1.2.2.2.1 r34.1.2.2.2.2.1 r34.1.2.2.2.2.2.1 r34.1.2.2.2.2.2.2.1 r34.1.2.2.2.2.2.2.2.1 r34.1.2.2.2.2.2.2.2.2.2.1 r34.1.2.2.2.2.2.2.2.2.2.2 r30.1.2.1 r30.1.2.2.1 r30.1.2.2.2.2.2.2.2.2.1 r34.1.2.1 r34.1.2.2.1 r34.1.2.2.2.2.2.2.2.2.1
            else rec (wI (y4 + 1)) r30.1.1 r30.1.2.2.2.1 r30.1.2.2.2.2.1 r30.1.2.2.2.2.2.1 r30.1.2.2.2.2.2.2.1 r30.1.2.2.2.2.2.2.2.1 r30.1.2.2.2.2.2.2.2.2.2.1 r30.1.2.2.2.2.2.2.2.2.2.2 r34.1.1 r34.1.2.2.2.1 r34.1.2.2.2.2.1 r34.1.2.2.2.2.2.1 r34.1.2.2.2.2.2.2.1 r34.1.2.2.2.2.2.2.2.1 r34.1.2.2.2.2.2.2.2.2.2.1 r34.1.2.2.2.2.2.2.2.2.2.2 r30.1.2.1 r30.1.2.2.1 r30.1.2.2.2.2.2.2.2.2.1 r34.1.2.1 r34.1.2.2.1 r34.1.2.2.2.2.2.2.2.2.1
           | none => none)
          | none => none)
         | none => none)
        else none
       | none => none)
      else none
     | none => none)
    | none => none)
   | none => none)
  else none
 else e1 y6 y7 y8 y9 y10 y11 y12 y13 y14 y15 y16 y17 y18 y19 y20 y21 y22 y23 y24 y25 y26 y27
def L3_7 {R : Type} (e0 : Bool → Int → Int → Bool → Int → Int → Int → Int → Int → Int → Int → Bool → Int → Int → Int → Int → Int → (List Task) → (List Ape) → (List Aim) → (List Task) → (List Ape) → (List Aim) → Option R) (e1 : Int → Int → Bool → Int → Int → Int → Int → Int → Int → Int → Bool → Int → Int → Int → Int → Int → (List Task) → (List Ape) → (List Aim) → (List Task) → (List Ape) → (List Aim) → Option R) (y5 : List OpD) : Nat → Int → Int → Int → Bool → Int → Int → Int → Int → Int → Int → Int → Bool → Int → Int → Int → Int → Int → (List Task) → (List Ape) → (List Aim) → (List Task) → (List Ape) → (List Aim) → Option R
 | 0 => fun _ _ _ _ _ _ _ _ _ _ _ _ _ _ _ _ _ _ _ _ _ _ _ => none
 | n + 1 => S3_7  e0 e1 y5 (L3_7  e0 e1 y5 n)
def ps3_7 : PSt := { live := [0, 4, 5, 6], nt := 196, env := [.whole 0, .ptr 4 0 0, .ptr 8 0 0, .i], heap := [.ops, .none, .none, .none, .gen true false false 0 11 [[.i, .whole 9, .whole 10, .i, .b, .i, .i, .i, .whole 11, .i, .i]], .none, .none, .none, .gen true false false 0 11 [[.i, .whole 12, .whole 13, .i, .b, .i, .i, .i, .whole 14, .i, .i]], .typ true true false 54 .task, .typ true true false 88 .ape, .typ true true false 91 .aim, .typ true true false 54 .task, .typ true true false 88 .ape, .typ true true false 91 .aim] }
abbrev st3_7 (y4 : Int) (y5 : List OpD) (y6 y7 : Int) (y8 : Bool) (y9 y10 y11 y12 y13 y14 y15 : Int) (y16 : Bool) (y17 y18 y19 y20 y21 : Int) (y22 : List Task) (y23 : List Ape) (y24 : List Aim) (y25 : List Task) (y26 : List Ape) (y27 : List Aim) : St := ⟨[.whole 0, dd, dd, dd, .ptr 4 0 0, .ptr 8 0 0, I y4, dd, dd, dd, dd, dd, dd, dd, dd, dd, dd, dd, dd, dd, dd, dd, dd, dd, dd, dd, dd, dd, dd, dd, dd, dd, dd, dd, dd, dd, dd, dd, dd, dd, dd, dd, dd, dd, dd, dd, dd, dd, dd, dd, dd, dd, dd, dd, dd, dd, dd, dd, dd, dd, dd, dd, dd, dd, dd, dd, dd, dd, dd, dd, dd, dd, dd, dd, dd, dd, dd, dd, dd, dd, dd, dd, dd, dd, dd, dd, dd, dd, dd, dd, dd, dd, dd, dd, dd, dd, dd, dd, dd, dd, dd, dd, dd, dd, dd, dd, dd, dd, dd, dd, dd, dd, dd, dd, dd, dd, dd, dd, dd, dd, dd, dd, dd, dd, dd, dd, dd, dd, dd, dd, dd, dd, dd, dd, dd, dd, dd, dd, dd, dd, dd, dd, dd, dd, dd, dd, dd, dd, dd, dd, dd, dd, dd, dd, dd, dd, dd, dd, dd, dd, dd, dd, dd, dd, dd, dd, dd, dd, dd, dd, dd, dd, dd, dd, dd, dd, dd, dd, dd, dd, dd, dd, dd, dd, dd, dd, dd, dd, dd, dd, dd, dd, dd, dd, dd, dd], [some ⟨false, true, false, 0, .ops y5⟩, none, none, none, some ⟨true, false, false, 0, .gen 11 [[I y6, .whole 9, .whole 10, I y7, .bool y8, I y9, I y10, I y11, .whole 11, I y12, I y13]]⟩, none, none, none, some ⟨true, false, false, 0, .gen 11 [[I y14, .whole 12, .whole 13, I y15, .bool y16, I y17, I y18, I y19, .whole 14, I y20, I y21]]⟩, some ⟨true, true, false, 54, .typ .task y22⟩, some ⟨true, true, false, 88, .typ .ape y23⟩, some ⟨true, true, false, 91, .typ .aim y24⟩, some ⟨true, true, false, 54, .typ .task y25⟩, some ⟨true, true, false, 88, .typ .ape y26⟩, some ⟨true, true, false, 91, .typ .aim y27⟩]⟩
abbrev sx3_7_0 (z0 : Bool) (z1 : List OpD) (z2 z3 : Int) (z4 : Bool) (z5 z6 z7 z8 z9 z10 z11 : Int) (z12 : Bool) (z13 z14 z15 z16 z17 : Int) (z18 : List Task) (z19 : List Ape) (z20 : List Aim) (z21 : List Task) (z22 : List Ape) (z23 : List Aim) : St := ⟨[dd, dd, .bool z0, dd, .ptr 4 0 0, .ptr 8 0 0, dd, dd, dd, dd, dd, dd, dd, dd, dd, dd, dd, dd, dd, dd, dd, dd, dd, dd, dd, dd, dd, dd, dd, dd, dd, dd, dd, dd, dd, dd, dd, dd, dd, dd, dd, dd, dd, dd, dd, dd, dd, dd, dd, dd, dd, dd, dd, dd, dd, dd, dd, dd, dd, dd, dd, dd, dd, dd, dd, dd, dd, dd, dd, dd, dd, dd, dd, dd, dd, dd, dd, dd, dd, dd, dd, dd, dd, dd, dd, dd, dd, dd, dd, dd, dd, dd, dd, dd, dd, dd, dd, dd, dd, dd, dd, dd, dd, dd, dd, dd, dd, dd, dd, dd, dd, dd, dd, dd, dd, dd, dd, dd, dd, dd, dd, dd, dd, dd, dd, dd, dd, dd, dd, dd, dd, dd, dd, dd, dd, dd, dd, dd, dd, dd, dd, dd, dd, dd, dd, dd, dd, dd, dd, dd, dd, dd, dd, dd, dd, dd, dd, dd, dd, dd, dd, dd, dd, dd, dd, dd, dd, dd, dd, dd, dd, dd, dd, dd, dd, dd, dd, dd, dd, dd, dd, dd, dd, dd, dd, dd, dd, dd, dd, dd, dd, dd, dd, dd, dd, dd], [some ⟨false, true, false, 0, .ops z1⟩, none, none, none, some ⟨true, false, false, 0, .gen 11 [[I z2, .whole 9, .whole 10, I z3, .bool z4, I z5, I z6, I z7, .whole 11, I z8, I z9]]⟩, none, none, none, some ⟨true, false, false, 0, .gen 11 [[I z10, .whole 12, .whole 13, I z11, .bool z12, I z13, I z14, I z15, .whole 14, I z16, I z17]]⟩, some ⟨true, true, false, 54, .typ .task z18⟩, some ⟨true, true, false, 88, .typ .ape z19⟩, some ⟨true, true, false, 91, .typ .aim z20⟩, some ⟨true, true, false, 54, .typ .task z21⟩, some ⟨true, true, false, 88, .typ .ape z22⟩, some ⟨true, true, false, 91, .typ .aim z23⟩]⟩
abbrev sx3_7_1 (z0 : List OpD) (z1 z2 : Int) (z3 : Bool) (z4 z5 z6 z7 z8 z9 z10 : Int) (z11 : Bool) (z12 z13 z14 z15 z16 : Int) (z17 : List Task) (z18 : List Ape) (z19 : List Aim) (z20 : List Task) (z21 : List Ape) (z22 : List Aim) : St := ⟨[dd, dd, dd, dd, .ptr 4 0 0, .ptr 8 0 0, dd, dd, dd, dd, dd, dd, dd, dd, dd, dd, dd, dd, dd, dd, dd, dd, dd, dd, dd, dd, dd, dd, dd, dd, dd, dd, dd, dd, dd, dd, dd, dd, dd, dd, dd, dd, dd, dd, dd, dd, dd, dd, dd, dd, dd, dd, dd, dd, dd, dd, dd, dd, dd, dd, dd, dd, dd, dd, dd, dd, dd, dd, dd, dd, dd, dd, dd, dd, dd, dd, dd, dd, dd, dd, dd, dd, dd, dd, dd, dd, dd, dd, dd, dd, dd, dd, dd, dd, dd, dd, dd, dd, dd, dd, dd, dd, dd, dd, dd, dd, dd, dd, dd, dd, dd, dd, dd, dd, dd, dd, dd, dd, dd, dd, dd, dd, dd, dd, dd, dd, dd, dd, dd, dd, dd, dd, dd, dd, dd, dd, dd, dd, dd, dd, dd, dd, dd, dd, dd, dd, dd, dd, dd, dd, dd, dd, dd, dd, dd, dd, dd, dd, dd, dd, dd, dd, dd, dd, dd, dd, dd, dd, dd, dd, dd, dd, dd, dd, dd, dd, dd, dd, dd, dd, dd, dd, dd, dd, dd, dd, dd, dd, dd, dd, dd, dd, dd, dd, dd, dd], [some ⟨false, true, false, 0, .ops z0⟩, none, none, none, some ⟨true, false, false, 0, .gen 11 [[I z1, .whole 9, .whole 10, I z2, .bool z3, I z4, I z5, I z6, .whole 11, I z7, I z8]]⟩, none, none, none, some ⟨true, false, false, 0, .gen 11 [[I z9, .whole 12, .whole 13, I z10, .bool z11, I z12, I z13, I z14, .whole 14, I z15, I z16]]⟩, some ⟨true, true, false, 54, .typ .task z17⟩, some ⟨true, true, false, 88, .typ .ape z18⟩, some ⟨true, true, false, 91, .typ .aim z19⟩, some ⟨true, true, false, 54, .typ .task z20⟩, some ⟨true, true, false, 88, .typ .ape z21⟩, some ⟨true, true, false, 91, .typ .aim z22⟩]⟩
theorem ly3_7 (y4 : Int) (y5 : List OpD) (y6 y7 : Int) (y8 : Bool) (y9 y10 y11 y12 y13 y14 y15 : Int) (y16 : Bool) (y17 y18 y19 y20 y21 : Int) (y22 : List Task) (y23 : List Ape) (y24 : List Aim) (y25 : List Task) (y26 : List Ape) (y27 : List Aim) : layS ps3_7 (y4, y5, y6, y7, y8, y9, y10, y11, y12, y13, y14, y15, y16, y17, y18, y19, y20, y21, y22, y23, y24, y25, y26, y27, ()) = st3_7 y4 y5 y6 y7 y8 y9 y10 y11 y12 y13 y14 y15 y16 y17 y18 y19 y20 y21 y22 y23 y24 y25 y26 y27 := by kernel_rfl
abbrev E3_7_0 {R : Type} (k : Ex → St → Option R) (y5 : List OpD) (z0 : Bool) (z2 z3 : Int) (z4 : Bool) (z5 z6 z7 z8 z9 z10 z11 : Int) (z12 : Bool) (z13 z14 z15 z16 z17 : Int) (z18 : List Task) (z19 : List Ape) (z20 : List Aim) (z21 : List Task) (z22 : List Ape) (z23 : List Aim) : Option R := k .ret (sx3_7_0 z0 y5 z2 z3 z4 z5 z6 z7 z8 z9 z10 z11 z12 z13 z14 z15 z16 z17 z18 z19 z20 z21 z22 z23)
abbrev E3_7_1 {R : Type} (k : Ex → St → Option R) (y5 : List OpD) (z1 z2 : Int) (z3 : Bool) (z4 z5 z6 z7 z8 z9 z10 : Int) (z11 : Bool) (z12 z13 z14 z15 z16 : Int) (z17 : List Task) (z18 : List Ape) (z19 : List Aim) (z20 : List Task) (z21 : List Ape) (z22 : List Aim) : Option R := k (.exit 0) (sx3_7_1 y5 z1 z2 z3 z4 z5 z6 z7 z8 z9 z10 z11 z12 z13 z14 z15 z16 z17 z18 z19 z20 z21 z22)
noncomputable abbrev J3_7 {R : Type} (n : Nat) (y5 : List OpD) (y4 y6 y7 : Int) (y8 : Bool) (y9 y10 y11 y12 y13 y14 y15 : Int) (y16 : Bool) (y17 y18 y19 y20 y21 : Int) (y22 : List Task) (y23 : List Ape) (y24 : List Aim) (y25 : List Task) (y26 : List Ape) (y27 : List Aim) (k : Ex → St → Option R) : Option R :=
 iter (ev P KK T4 LOrc.none 300 3 (loopOf P 3 7)) (headL P KK (KK.ann 3 7) 9) (gcL (KK.ann 3 7).out 9) n (st3_7 y4 y5 y6 y7 y8 y9 y10 y11 y12 y13 y14 y15 y16 y17 y18 y19 y20 y21 y22 y23 y24 y25 y26 y27) k
theorem k3_7 {R : Type} (n : Nat) (y5 : List OpD) (y4 y6 y7 : Int) (y8 : Bool) (y9 y10 y11 y12 y13 y14 y15 : Int) (y16 : Bool) (y17 y18 y19 y20 y21 : Int) (y22 : List Task) (y23 : List Ape) (y24 : List Aim) (y25 : List Task) (y26 : List Ape) (y27 : List Aim) (k : Ex → St → Option R) : J3_7  (n + 1) y5 y4 y6 y7 y8 y9 y10 y11 y12 y13 y14 y15 y16 y17 y18 y19 y20 y21 y22 y23 y24 y25 y26 y27 k = S3_7  (E3_7_0 k y5) (E3_7_1 k y5) y5 (fun y4 y6 y7 y8 y9 y10 y11 y12 y13 y14 y15 y16 y17 y18 y19 y20 y21 y22 y23 y24 y25 y26 y27 => J3_7  n y5 y4 y6 y7 y8 y9 y10 y11 y12 y13 y14 y15 y16 y17 y18 y19 y20 y21 y22 y23 y24 y25 y26 y27 k) y4 y6 y7 y8 y9 y10 y11 y12 y13 y14 y15 y16 y17 y18 y19 y20 y21 y22 y23 y24 y25 y26 y27 := by kernel_rfl
theorem it3_7 {R : Type} (y5 : List OpD) (k : Ex → St → Option R) : ∀ (n : Nat) (y4 y6 y7 : Int) (y8 : Bool) (y9 y10 y11 y12 y13 y14 y15 : Int) (y16 : Bool) (y17 y18 y19 y20 y21 : Int) (y22 : List Task) (y23 : List Ape) (y24 : List Aim) (y25 : List Task) (y26 : List Ape) (y27 : List Aim), J3_7  n y5 y4 y6 y7 y8 y9 y10 y11 y12 y13 y14 y15 y16 y17 y18 y19 y20 y21 y22 y23 y24 y25 y26 y27 k = L3_7  (E3_7_0 k y5) (E3_7_1 k y5) y5 n y4 y6 y7 y8 y9 y10 y11 y12 y13 y14 y15 y16 y17 y18 y19 y20 y21 y22 y23 y24 y25 y26 y27 := by
 intro n
 induction n with
 | zero => intros; rfl
 | succ n ih =>
  intro y4 y6 y7 y8 y9 y10 y11 y12 y13 y14 y15 y16 y17 y18 y19 y20 y21 y22 y23 y24 y25 y26 y27
  rw [k3_7, show (fun y4 y6 y7 y8 y9 y10 y11 y12 y13 y14 y15 y16 y17 y18 y19 y20 y21 y22 y23 y24 y25 y26 y27 => J3_7  n y5 y4 y6 y7 y8 y9 y10 y11 y12 y13 y14 y15 y16 y17 y18 y19 y20 y21 y22 y23 y24 y25 y26 y27 k) = L3_7  (E3_7_0 k y5) (E3_7_1 k y5) y5 n from by funext y4 y6 y7 y8 y9 y10 y11 y12 y13 y14 y15 y16 y17 y18 y19 y20 y21 y22 y23 y24 y25 y26 y27; exact ih y4 y6 y7 y8 y9 y10 y11 y12 y13 y14 y15 y16 y17 y18 y19 y20 y21 y22 y23 y24 y25 y26 y27]
  rfl
def lb3_7 {R : Type} (lf : Nat) (d : ps3_7.D) (k : Ex → St → Option R) : Option R := match d with
 | (y4, y5, y6, y7, y8, y9, y10, y11, y12, y13, y14, y15, y16, y17, y18, y19, y20, y21, y22, y23, y24, y25, y26, y27, ()) => L3_7  (E3_7_0 k y5) (E3_7_1 k y5) y5 lf y4 y6 y7 y8 y9 y10 y11 y12 y13 y14 y15 y16 y17 y18 y19 y20 y21 y22 y23 y24 y25 y26 y27
def lt3_7 {R : Type} (lf : Nat) : LOrc R := fun f id n0 st k => bif Nat.beq f 3 && (Nat.beq id 7 && Nat.beq n0 9) then readS ps3_7 st fun d => lb3_7 lf d k else LOrc.none f id n0 st k
def S3_17 {R : Type} (e0 : Bool → Option R) (e1 : Option R) (y81 : List OpD) (y82 y83 : Int) (y84 : Bool) (y85 y86 y87 y88 y89 y90 y91 : Int) (y92 : Bool) (y93 y94 y95 y96 y97 : Int) (y98 : List Task) (y99 : List Ape) (y100 : List Aim) (y101 : List Task) (y102 : List Ape) (y103 : List Aim) (rec : Int → Option R) (y80 : Int) : Option R :=
 bif decide (y80 < (y98.length : Int)) then
  bif (decide (0 ≤ y80) && decide (y80 < (y98.length : Int))) then (match y98[(Int.toNat y80)]? with
   | some x104 => bif (decide (0 ≤ y80) && decide (y80 < (y101.length : Int))) then (match y101[(Int.toNat y80)]? with
     | some x105 => bif (!(decide (x104.ID = x105.ID))) then
       e0 false
      else bif (decide (0 ≤ y80) && decide (y80 < (y98.length : Int))) then (match y98[(Int.toNat y80)]? with
       | some x106 => bif (decide (0 ≤ y80) && decide (y80 < (y101.length : Int))) then (match y101[(Int.toNat y80)]? with
         | some x107 => bif (!(decide (x106.At = x107.At))) then
           e0 false
          else bif (decide (0 ≤ y80) && decide (y80 < (y98.length : Int))) then (match y98[(Int.toNat y80)]? with
           | some x108 => bif (decide (0 ≤ y80) && decide (y80 < (y101.length : Int))) then (match y101[(Int.toNat y80)]? with
             | some x109 => bif (!(decide (x108.N = x109.N))) then
               e0 false
              else bif (decide (0 ≤ y80) && decide (y80 < (y98.length : Int))) then (match y98[(Int.toNat y80)]? with
               | some x110 => bif (decide (0 ≤ y80) && decide (y80 < (y101.length : Int))) then (match y101[(Int.toNat y80)]? with
                 | some x111 => bif (!(decide (x110.Next = x111.Next))) then
                   e0 false
                  else rec (wI (y80 + 1))
                 | none => none)
                else none
               | none => none)
              else none
             | none => none)
            else none
           | none => none)
          else none
         | none => none)
        else none
       | none => none)
      else none
     | none => none)
    else none
   | none => none)
  else none
 else e1
def L3_17 {R : Type} (e0 : Bool → Option R) (e1 : Option R) (y81 : List OpD) (y82 y83 : Int) (y84 : Bool) (y85 y86 y87 y88 y89 y90 y91 : Int) (y92 : Bool) (y93 y94 y95 y96 y97 : Int) (y98 : List Task) (y99 : List Ape) (y100 : List Aim) (y101 : List Task) (y102 : List Ape) (y103 : List Aim) : Nat → Int → Option R
 | 0 => fun _ => none
 | n + 1 => S3_17  e0 e1 y81 y82 y83 y84 y85 y86 y87 y88 y89 y90 y91 y92 y93 y94 y95 y96 y97 y98 y99 y100 y101 y102 y103 (L3_17  e0 e1 y81 y82 y83 y84 y85 y86 y87 y88 y89 y90 y91 y92 y93 y94 y95 y96 y97 y98 y99 y100 y101 y102 y103 n)
def ps3_17 : PSt := { live := [4, 5, 13], nt := 196, env := [.ptr 4 0 0, .ptr 8 0 0, .i], heap := [.ops, .none, .none, .none, .gen true false false 0 11 [[.i, .whole 9, .whole 10, .i, .b, .i, .i, .i, .whole 11, .i, .i]], .none, .none, .none, .gen true false false 0 11 [[.i, .whole 12, .whole 13, .i, .b, .i, .i, .i, .whole 14, .i, .i]], .typ true true false 54 .task, .typ true true false 88 .ape, .typ true true false 91 .aim, .typ true true false 54 .task, .typ true true false 88 .ape, .typ true true false 91 .aim] }
abbrev st3_17 (y80 : Int) (y81 : List OpD) (y82 y83 : Int) (y84 : Bool) (y85 y86 y87 y88 y89 y90 y91 : Int) (y92 : Bool) (y93 y94 y95 y96 y97 : Int) (y98 : List Task) (y99 : List Ape) (y100 : List Aim) (y101 : List Task) (y102 : List Ape) (y103 : List Aim) : St := ⟨[dd, dd, dd, dd, .ptr 4 0 0, .ptr 8 0 0, dd, dd, dd, dd, dd, dd, dd, I y80, dd, dd, dd, dd, dd, dd, dd, dd, dd, dd, dd, dd, dd, dd, dd, dd, dd, dd, dd, dd, dd, dd, dd, dd, dd, dd, dd, dd, dd, dd, dd, dd, dd, dd, dd, dd, dd, dd, dd, dd, dd, dd, dd, dd, dd, dd, dd, dd, dd, dd, dd, dd, dd, dd, dd, dd, dd, dd, dd, dd, dd, dd, dd, dd, dd, dd, dd, dd, dd, dd, dd, dd, dd, dd, dd, dd, dd, dd, dd, dd, dd, dd, dd, dd, dd, dd, dd, dd, dd, dd, dd, dd, dd, dd, dd, dd, dd, dd, dd, dd, dd, dd, dd, dd, dd, dd, dd, dd, dd, dd, dd, dd, dd, dd, dd, dd, dd, dd, dd, dd, dd, dd, dd, dd, dd, dd, dd, dd, dd, dd, dd, dd, dd, dd, dd, dd, dd, dd, dd, dd, dd, dd, dd, dd, dd, dd, dd, dd, dd, dd, dd, dd, dd, dd, dd, dd, dd, dd, dd, dd, dd, dd, dd, dd, dd, dd, dd, dd, dd, dd, dd, dd, dd, dd, dd, dd, dd, dd, dd, dd, dd, dd], [some ⟨false, true, false, 0, .ops y81⟩, none, none, none, some ⟨true, false, false, 0, .gen 11 [[I y82, .whole 9, .whole 10, I y83, .bool y84, I y85, I y86, I y87, .whole 11, I y88, I y89]]⟩, none, none, none, some ⟨true, false, false, 0, .gen 11 [[I y90, .whole 12, .whole 13, I y91, .bool y92, I y93, I y94, I y95, .whole 14, I y96, I y97]]⟩, some ⟨true, true, false, 54, .typ .task y98⟩, some ⟨true, true, false, 88, .typ .ape y99⟩, some ⟨true, true, false, 91, .typ .aim y100⟩, some ⟨true, true, false, 54, .typ .task y101⟩, some ⟨true, true, false, 88, .typ .ape y102⟩, some ⟨true, true, false, 91, .typ .aim y103⟩]⟩
abbrev sx3_17_0 (z0 : Bool) (z1 : List OpD) (z2 z3 : Int) (z4 : Bool) (z5 z6 z7 z8 z9 z10 z11 : Int) (z12 : Bool) (z13 z14 z15 z16 z17 : Int) (z18 : List Task) (z19 : List Ape) (z20 : List Aim) (z21 : List Task) (z22 : List Ape) (z23 : List Aim) : St := ⟨[dd, dd, .bool z0, dd, .ptr 4 0 0, .ptr 8 0 0, dd, dd, dd, dd, dd, dd, dd, dd, dd, dd, dd, dd, dd, dd, dd, dd, dd, dd, dd, dd, dd, dd, dd, dd, dd, dd, dd, dd, dd, dd, dd, dd, dd, dd, dd, dd, dd, dd, dd, dd, dd, dd, dd, dd, dd, dd, dd, dd, dd, dd, dd, dd, dd, dd, dd, dd, dd, dd, dd, dd, dd, dd, dd, dd, dd, dd, dd, dd, dd, dd, dd, dd, dd, dd, dd, dd, dd, dd, dd, dd, dd, dd, dd, dd, dd, dd, dd, dd, dd, dd, dd, dd, dd, dd, dd, dd, dd, dd, dd, dd, dd, dd, dd, dd, dd, dd, dd, dd, dd, dd, dd, dd, dd, dd, dd, dd, dd, dd, dd, dd, dd, dd, dd, dd, dd, dd, dd, dd, dd, dd, dd, dd, dd, dd, dd, dd, dd, dd, dd, dd, dd, dd, dd, dd, dd, dd, dd, dd, dd, dd, dd, dd, dd, dd, dd, dd, dd, dd, dd, dd, dd, dd, dd, dd, dd, dd, dd, dd, dd, dd, dd, dd, dd, dd, dd, dd, dd, dd, dd, dd, dd, dd, dd, dd, dd, dd, dd, dd, dd, dd], [some ⟨false, true, false, 0, .ops z1⟩, none, none, none, some ⟨true, false, false, 0, .gen 11 [[I z2, .whole 9, .whole 10, I z3, .bool z4, I z5, I z6, I z7, .whole 11, I z8, I z9]]⟩, none, none, none, some ⟨true, false, false, 0, .gen 11 [[I z10, .whole 12, .whole 13, I z11, .bool z12, I z13, I z14, I z15, .whole 14, I z16, I z17]]⟩, some ⟨true, true, false, 54, .typ .task z18⟩, some ⟨true, true, false, 88, .typ .ape z19⟩, some ⟨true, true, false, 91, .typ .aim z20⟩, some ⟨true, true, false, 54, .typ .task z21⟩, some ⟨true, true, false, 88, .typ .ape z22⟩, some ⟨true, true, false, 91, .typ .aim z23⟩]⟩
abbrev sx3_17_1 (z0 : List OpD) (z1 z2 : Int) (z3 : Bool) (z4 z5 z6 z7 z8 z9 z10 : Int) (z11 : Bool) (z12 z13 z14 z15 z16 : Int) (z17 : List Task) (z18 : List Ape) (z19 : List Aim) (z20 : List Task) (z21 : List Ape) (z22 : List Aim) : St := ⟨[dd, dd, dd, dd, .ptr 4 0 0, .ptr 8 0 0, dd, dd, dd, dd, dd, dd, dd, dd, dd, dd, dd, dd, dd, dd, dd, dd, dd, dd, dd, dd, dd, dd, dd, dd, dd, dd, dd, dd, dd, dd, dd, dd, dd, dd, dd, dd, dd, dd, dd, dd, dd, dd, dd, dd, dd, dd, dd, dd, dd, dd, dd, dd, dd, dd, dd, dd, dd, dd, dd, dd, dd, dd, dd, dd, dd, dd, dd, dd, dd, dd, dd, dd, dd, dd, dd, dd, dd, dd, dd, dd, dd, dd, dd, dd, dd, dd, dd, dd, dd, dd, dd, dd, dd, dd, dd, dd, dd, dd, dd, dd, dd, dd, dd, dd, dd, dd, dd, dd, dd, dd, dd, dd, dd, dd, dd, dd, dd, dd, dd, dd, dd, dd, dd, dd, dd, dd, dd, dd, dd, dd, dd, dd, dd, dd, dd, dd, dd, dd, dd, dd, dd, dd, dd, dd, dd, dd, dd, dd, dd, dd, dd, dd, dd, dd, dd, dd, dd, dd, dd, dd, dd, dd, dd, dd, dd, dd, dd, dd, dd, dd, dd, dd, dd, dd, dd, dd, dd, dd, dd, dd, dd, dd, dd, dd, dd, dd, dd, dd, dd, dd], [some ⟨false, true, false, 0, .ops z0⟩, none, none, none, some ⟨true, false, false, 0, .gen 11 [[I z1, .whole 9, .whole 10, I z2, .bool z3, I z4, I z5, I z6, .whole 11, I z7, I z8]]⟩, none, none, none, some ⟨true, false, false, 0, .gen 11 [[I z9, .whole 12, .whole 13, I z10, .bool z11, I z12, I z13, I z14, .whole 14, I z15, I z16]]⟩, some ⟨true, true, false, 54, .typ .task z17⟩, some ⟨true, true, false, 88, .typ .ape z18⟩, some ⟨true, true, false, 91, .typ .aim z19⟩, some ⟨true, true, false, 54, .typ .task z20⟩, some ⟨true, true, false, 88, .typ .ape z21⟩, some ⟨true, true, false, 91, .typ .aim z22⟩]⟩
theorem ly3_17 (y80 : Int) (y81 : List OpD) (y82 y83 : Int) (y84 : Bool) (y85 y86 y87 y88 y89 y90 y91 : Int) (y92 : Bool) (y93 y94 y95 y96 y97 : Int) (y98 : List Task) (y99 : List Ape) (y100 : List Aim) (y101 : List Task) (y102 : List Ape) (y103 : List Aim) : layS ps3_17 (y80, y81, y82, y83, y84, y85, y86, y87, y88, y89, y90, y91, y92, y93, y94, y95, y96, y97, y98, y99, y100, y101, y102, y103, ()) = st3_17 y80 y81 y82 y83 y84 y85 y86 y87 y88 y89 y90 y91 y92 y93 y94 y95 y96 y97 y98 y99 y100 y101 y102 y103 := by kernel_rfl
abbrev E3_17_0 {R : Type} (k : Ex → St → Option R) (y81 : List OpD) (y82 y83 : Int) (y84 : Bool) (y85 y86 y87 y88 y89 y90 y91 : Int) (y92 : Bool) (y93 y94 y95 y96 y97 : Int) (y98 : List Task) (y99 : List Ape) (y100 : List Aim) (y101 : List Task) (y102 : List Ape) (y103 : List Aim) (z0 : Bool) : Option R := k .ret (sx3_17_0 z0 y81 y82 y83 y84 y85 y86 y87 y88 y89 y90 y91 y92 y93 y94 y95 y96 y97 y98 y99 y100 y101 y102 y103)
abbrev E3_17_1 {R : Type} (k : Ex → St → Option R) (y81 : List OpD) (y82 y83 : Int) (y84 : Bool) (y85 y86 y87 y88 y89 y90 y91 : Int) (y92 : Bool) (y93 y94 y95 y96 y97 : Int) (y98 : List Task) (y99 : List Ape) (y100 : List Aim) (y101 : List Task) (y102 : List Ape) (y103 : List Aim) : Option R := k (.exit 2) (sx3_17_1 y81 y82 y83 y84 y85 y86 y87 y88 y89 y90 y91 y92 y93 y94 y95 y96 y97 y98 y99 y100 y101 y102 y103)
noncomputable abbrev J3_17 {R : Type} (n : Nat) (y81 : List OpD) (y82 y83 : Int) (y84 : Bool) (y85 y86 y87 y88 y89 y90 y91 : Int) (y92 : Bool) (y93 y94 y95 y96 y97 : Int) (y98 : List Task) (y99 : List Ape) (y100 : List Aim) (y101 : List Task) (y102 : List Ape) (y103 : List Aim) (y80 : Int) (k : Ex → St → Option R) : Option R :=
 iter (ev P KK T4 (lt3_7 lf) 300 3 (loopOf P 3 17)) (headL P KK (KK.ann 3 17) 15) (gcL (KK.ann 3 17).out 15) n (st3_17 y80 y81 y82 y83 y84 y85 y86 y87 y88 y89 y90 y91 y92 y93 y94 y95 y96 y97 y98 y99 y100 y101 y102 y103) k
theorem k3_17 {R : Type} (n : Nat) (y81 : List OpD) (y82 y83 : Int) (y84 : Bool) (y85 y86 y87 y88 y89 y90 y91 : Int) (y92 : Bool) (y93 y94 y95 y96 y97 : Int) (y98 : List Task) (y99 : List Ape) (y100 : List Aim) (y101 : List Task) (y102 : List Ape) (y103 : List Aim) (y80 : Int) (k : Ex → St → Option R) : J3_17  (n + 1) y81 y82 y83 y84 y85 y86 y87 y88 y89 y90 y91 y92 y93 y94 y95 y96 y97 y98 y99 y100 y101 y102 y103 y80 k = S3_17  (E3_17_0 k y81 y82 y83 y84 y85 y86 y87 y88 y89 y90 y91 y92 y93 y94 y95 y96 y97 y98 y99 y100 y101 y102 y103) (E3_17_1 k y81 y82 y83 y84 y85 y86 y87 y88 y89 y90 y91 y92 y93 y94 y95 y96 y97 y98 y99 y100 y101 y102 y103) y81 y82 y83 y84 y85 y86 y87 y88 y89 y90 y91 y92 y93 y94 y95 y96 y97 y98 y99 y100 y101 y102 y103 (fun y80 => J3_17  n y81 y82 y83 y84 y85 y86 y87 y88 y89 y90 y91 y92 y93 y94 y95 y96 y97 y98 y99 y100 y101 y102 y103 y80 k) y80 := by kernel_rfl
theorem it3_17 {R : Type} (y81 : List OpD) (y82 y83 : Int) (y84 : Bool) (y85 y86 y87 y88 y89 y90 y91 : Int) (y92 : Bool) (y93 y94 y95 y96 y97 : Int) (y98 : List Task) (y99 : List Ape) (y100 : List Aim) (y101 : List Task) (y102 : List Ape) (y103 : List Aim) (k : Ex → St → Option R) : ∀ (n : Nat) (y80 : Int), J3_17  n y81 y82 y83 y84 y85 y86 y87 y88 y89 y90 y91 y92 y93 y94 y95 y96 y97 y98 y99 y100 y101 y102 y103 y80 k = L3_17  (E3_17_0 k y81 y82 y83 y84 y85 y86 y87 y88 y89 y90 y91 y92 y93 y94 y95 y96 y97 y98 y99 y100 y101 y102 y103) (E3_17_1 k y81 y82 y83 y84 y85 y86 y87 y88 y89 y90 y91 y92 y93 y94 y95 y96 y97 y98 y99 y100 y101 y102 y103) y81 y82 y83 y84 y85 y86 y87 y88 y89 y90 y91 y92 y93 y94 y95 y96 y97 y98 y99 y100 y101 y102 y103 n y80 := by
 intro n
 induction n with
 | zero => intros; rfl
 | succ n ih =>
  intro y80
  rw [k3_17, show (fun y80 => J3_17  n y81 y82 y83 y84 y85 y86 y87 y88 y89 y90 y91 y92 y93 y94 y95 y96 y97 y98 y99 y100 y101 y102 y103 y80 k) = L3_17  (E3_17_0 k y81 y82 y83 y84 y85 y86 y87 y88 y89 y90 y91 y92 y93 y94 y95 y96 y97 y98 y99 y100 y101 y102 y103) (E3_17_1 k y81 y82 y83 y84 y85 y86 y87 y88 y89 y90 y91 y92 y93 y94 y95 y96 y97 y98 y99 y100 y101 y102 y103) y81 y82 y83 y84 y85 y86 y87 y88 y89 y90 y91 y92 y93 y94 y95 y96 y97 y98 y99 y100 y101 y102 y103 n from by funext y80; exact ih y80]
  rfl
def lb3_17 {R : Type} (lf : Nat) (d : ps3_17.D) (k : Ex → St → Option R) : Option R := match d with
 | (y80, y81, y82, y83, y84, y85, y86, y87, y88, y89, y90, y91, y92, y93, y94, y95, y96, y97, y98, y99, y100, y101, y102, y103, ()) => L3_17  (E3_17_0 k y81 y82 y83 y84 y85 y86 y87 y88 y89 y90 y91 y92 y93 y94 y95 y96 y97 y98 y99 y100 y101 y102 y103) (E3_17_1 k y81 y82 y83 y84 y85 y86 y87 y88 y89 y90 y91 y92 y93 y94 y95 y96 y97 y98 y99 y100 y101 y102 y103) y81 y82 y83 y84 y85 y86 y87 y88 y89 y90 y91 y92 y93 y94 y95 y96 y97 y98 y99 y100 y101 y102 y103 lf y80
def lt3_17 {R : Type} (lf : Nat) : LOrc R := fun f id n0 st k => bif Nat.beq f 3 && (Nat.beq id 17 && Nat.beq n0 15) then readS ps3_17 st fun d => lb3_17 lf d k else (lt3_7 lf) f id n0 st k
def F3 (lf : Nat) (l : List OpD) : Option (Bool) :=
 (match F4 with
 | some r1 => bif (!r1) then
   some r1
  else bif decide (150 < (l.length : Int)) then
   some r1
  else let r2 := F5
  let r3 := F5
  L3_7 (fun z35 z36 z37 z38 z39 z40 z41 z42 z43 z44 z45 z46 z47 z48 z49 z50 z51 z52 z53 z54 z55 z56 z57 => some z35) (fun z58 z59 z60 z61 z62 z63 z64 z65 z66 z67 z68 z69 z70 z71 z72 z73 z74 z75 z76 z77 z78 z79 => L3_17 (fun z112 => some z112) (bif decide (z58 = z66) then
       some (decide (z64 = z72))
      else some false) l z58 z59 z60 z61 z62 z63 z64 z65 z66 z67 z68 z69 z70 z71 z72 z73 z74 z75 z76 z77 z78 z79 lf 0) l lf 0 r2.1 r2.2.2.2.1 r2.2.2.2.2.1 r2.2.2.2.2.2.1 r2.2.2.2.2.2.2.1 r2.2.2.2.2.2.2.2.1 r2.2.2.2.2.2.2.2.2.2.1 r2.2.2.2.2.2.2.2.2.2.2 r3.1 r3.2.2.2.1 r3.2.2.2.2.1 r3.2.2.2.2.2.1 r3.2.2.2.2.2.2.1 r3.2.2.2.2.2.2.2.1 r3.2.2.2.2.2.2.2.2.2.1 r3.2.2.2.2.2.2.2.2.2.2 r2.2.1 r2.2.2.1 r2.2.2.2.2.2.2.2.2.1 r3.2.1 r3.2.2.1 r3.2.2.2.2.2.2.2.2.1
 | none => none)
theorem ev3 (lf : Nat) (l : List OpD) : ev3C T4 (lt3_17 lf) l = F3 lf l := by kernel_rfl
end Go.Abs
