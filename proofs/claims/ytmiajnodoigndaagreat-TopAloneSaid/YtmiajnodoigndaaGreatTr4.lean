/- Own: Functions of the program as Lean functions, and that the interpreter comes to them. -/
import Derived.Test.YtmiajnodoigndaaGreatTr3
set_option linter.unusedVariables false
set_option linter.unusedSimpArgs false
set_option maxRecDepth 1000000
set_option maxHeartbeats 16000000
namespace Go.Abs
def S241_2 {R : Type} (e0 : Int → Option R) (e1 : Option R) (y1 : Int) (y3 y4 : List Int) (rec : Int → Option R) (y2 : Int) : Option R :=
 bif decide (y2 < y1) then
  bif (decide (0 ≤ y2) && decide (y2 < (y3.length : Int))) then (match y3[(Int.toNat y2)]? with
   | some x5 => bif decide ((y4.length : Int) ≤ y2) then
     e0 1
    else bif (decide (0 ≤ y2) && decide (y2 < (y4.length : Int))) then (match y4[(Int.toNat y2)]? with
     | some x6 => bif (!(decide ((F242 x5 x6) = 0))) then
       e0 (F242 x5 x6)
      else rec (wI (y2 + 1))
     | none => none)
    else none
   | none => none)
  else none
 else e1
def L241_2 {R : Type} (e0 : Int → Option R) (e1 : Option R) (y1 : Int) (y3 y4 : List Int) : Nat → Int → Option R
 | 0 => fun _ => none
 | n + 1 => S241_2  e0 e1 y1 y3 y4 (L241_2  e0 e1 y1 y3 y4 n)
def ps241_2 : PSt := { live := [0, 1, 9, 10, 11], nt := 36, env := [.whole 0, .whole 1, .whole 0, .i, .i], heap := [.typ false true false 0 .int, .typ false true false 0 .int] }
abbrev st241_2 (y1 y2 : Int) (y3 y4 : List Int) : St := ⟨[.whole 0, .whole 1, dd, dd, dd, dd, dd, dd, dd, .whole 0, I y1, I y2, dd, dd, dd, dd, dd, dd, dd, dd, dd, dd, dd, dd, dd, dd, dd, dd, dd, dd, dd, dd, dd, dd, dd, dd], [some ⟨false, true, false, 0, .typ .int y3⟩, some ⟨false, true, false, 0, .typ .int y4⟩]⟩
abbrev sx241_2_0 (z0 : Int) (z1 z2 : List Int) : St := ⟨[.whole 0, .whole 1, dd, dd, I z0, dd, dd, dd, dd, dd, dd, dd, dd, dd, dd, dd, dd, dd, dd, dd, dd, dd, dd, dd, dd, dd, dd, dd, dd, dd, dd, dd, dd, dd, dd, dd], [some ⟨false, true, false, 0, .typ .int z1⟩, some ⟨false, true, false, 0, .typ .int z2⟩]⟩
abbrev sx241_2_1 (z0 z1 : List Int) : St := ⟨[.whole 0, .whole 1, dd, dd, dd, dd, dd, dd, dd, dd, dd, dd, dd, dd, dd, dd, dd, dd, dd, dd, dd, dd, dd, dd, dd, dd, dd, dd, dd, dd, dd, dd, dd, dd, dd, dd], [some ⟨false, true, false, 0, .typ .int z0⟩, some ⟨false, true, false, 0, .typ .int z1⟩]⟩
theorem ly241_2 (y1 y2 : Int) (y3 y4 : List Int) : layS ps241_2 (y1, y2, y3, y4, ()) = st241_2 y1 y2 y3 y4 := by kernel_rfl
abbrev E241_2_0 {R : Type} (k : Ex → St → Option R) (y3 y4 : List Int) (z0 : Int) : Option R := k .ret (sx241_2_0 z0 y3 y4)
abbrev E241_2_1 {R : Type} (k : Ex → St → Option R) (y3 y4 : List Int) : Option R := k (.exit 0) (sx241_2_1 y3 y4)
noncomputable abbrev J241_2 {R : Type} (n : Nat) (y1 : Int) (y3 y4 : List Int) (y2 : Int) (k : Ex → St → Option R) : Option R :=
 iter (ev P KK T242 LOrc.none 300 241 (loopOf P 241 2)) (headL P KK (KK.ann 241 2) 2) (gcL (KK.ann 241 2).out 2) n (st241_2 y1 y2 y3 y4) k
theorem k241_2 {R : Type} (n : Nat) (y1 : Int) (y3 y4 : List Int) (y2 : Int) (k : Ex → St → Option R) : J241_2  (n + 1) y1 y3 y4 y2 k = S241_2  (E241_2_0 k y3 y4) (E241_2_1 k y3 y4) y1 y3 y4 (fun y2 => J241_2  n y1 y3 y4 y2 k) y2 := by kernel_rfl
theorem it241_2 {R : Type} (y1 : Int) (y3 y4 : List Int) (k : Ex → St → Option R) : ∀ (n : Nat) (y2 : Int), J241_2  n y1 y3 y4 y2 k = L241_2  (E241_2_0 k y3 y4) (E241_2_1 k y3 y4) y1 y3 y4 n y2 := by
 intro n
 induction n with
 | zero => intros; rfl
 | succ n ih =>
  intro y2
  rw [k241_2, show (fun y2 => J241_2  n y1 y3 y4 y2 k) = L241_2  (E241_2_0 k y3 y4) (E241_2_1 k y3 y4) y1 y3 y4 n from by funext y2; exact ih y2]
  rfl
def lb241_2 {R : Type} (lf : Nat) (d : ps241_2.D) (k : Ex → St → Option R) : Option R := match d with
 | (y1, y2, y3, y4, ()) => L241_2  (E241_2_0 k y3 y4) (E241_2_1 k y3 y4) y1 y3 y4 lf y2
def lt241_2 {R : Type} (lf : Nat) : LOrc R := fun f id n0 st k => bif Nat.beq f 241 && (Nat.beq id 2 && Nat.beq n0 2) then readS ps241_2 st fun d => lb241_2 lf d k else LOrc.none f id n0 st k
def F241 (lf : Nat) (s1 s2 : List Int) : Option (Int) :=
 L241_2 (fun z7 => some z7) (bif decide ((s1.length : Int) < (s2.length : Int)) then
    some (-1)
   else some 0) (s1.length : Int) s1 s2 lf 0
theorem ev241 (lf : Nat) (s1 s2 : List Int) : evC (R' := [.cell .i]) P KK T242 (lt241_2 lf) 241 [.cell (.sl .int), .cell (.sl .int)] (s1, s2, ()) = F241 lf s1 s2 := by kernel_rfl
def g241 : Sig := ⟨[.cell (.sl .int), .cell (.sl .int)], [.cell .i]⟩
def T241 {R : Type} : Orc R := fun f args h k => bif Nat.beq f 241 then contract g241 (fun d => F241 fuel d.1 d.2.1) args h k else T242 f args h k
def F239 (a b : Opt) : Option (Bool) :=
 let r1 := (F240 a)
 let r2 := (F240 b)
 bif (!(decide (r1.1 = r2.1) && (decide (r1.2.1 = r2.2.1) && (decide (r1.2.2 = r2.2.2) && true)))) then
  (match (F241 fuel [r1.1, r1.2.1, r1.2.2] [r2.1, r2.2.1, r2.2.2]) with
  | some r3 => some (decide (r3 < 0))
  | none => none)
 else some false
theorem ev239 (a b : Opt) : evC (R' := [.cell .b]) P KK T241 LOrc.none 239 [.el .opt, .el .opt] (a, b, ()) = F239 a b := by kernel_rfl
def g239 : Sig := ⟨[.el .opt, .el .opt], [.cell .b]⟩
def T239 {R : Type} : Orc R := fun f args h k => bif Nat.beq f 239 then contract g239 (fun d => F239 d.1 d.2.1) args h k else T241 f args h k
def F235 (id : Int) (s : Spec) (j : Job) (h : Ring) : Option (Opt × Bool) :=
 bif (!j.On) then
  some ((Opt.mk 0 0 0), false)
 else bif j.Mand then
  some ((Opt.mk 0 0 0), false)
 else bif decide ((F237 j) = 0) then
  some ((Opt.mk 0 0 0), false)
 else (match (F238 fuel h s.M s.K) with
 | some r1 => some ((Opt.mk r1 j.Due id), true)
 | none => none)
theorem ev235 (id : Int) (s : Spec) (j : Job) (h : Ring) : evC (R' := [.el .opt, .cell .b]) P KK T239 LOrc.none 235 [.cell .i, .el .spec, .el .job, .el .ring] (id, s, j, h, ()) = F235 id s j h := by kernel_rfl
def g235 : Sig := ⟨[.cell .i, .el .spec, .el .job, .el .ring], [.el .opt, .cell .b]⟩
def T235 {R : Type} : Orc R := fun f args h k => bif Nat.beq f 235 then contract g235 (fun d => F235 d.1 d.2.1 d.2.2.1 d.2.2.2.1) args h k else T239 f args h k
def S236_3 {R : Type} (e0 : Int → Option R) (y2 : Int) (y4 : List Opt) (rec : Int → Int → Option R) (y1 y3 : Int) : Option R :=
 bif decide (y3 < y2) then
  bif (decide (0 ≤ y3) && decide (y3 < (y4.length : Int))) then (match y4[(Int.toNat y3)]? with
   | some x5 => bif decide (y1 = (-1)) then
     rec y3 (wI (y3 + 1))
    else bif (decide (0 ≤ y1) && decide (y1 < (y4.length : Int))) then (match y4[(Int.toNat y1)]? with
     | some x6 => (match (F239 x5 x6) with
      | some r7 => bif r7 then
        rec y3 (wI (y3 + 1))
       else rec y1 (wI (y3 + 1))
      | none => none)
     | none => none)
    else none
   | none => none)
  else none
 else e0 y1
def L236_3 {R : Type} (e0 : Int → Option R) (y2 : Int) (y4 : List Opt) : Nat → Int → Int → Option R
 | 0 => fun _ _ => none
 | n + 1 => S236_3  e0 y2 y4 (L236_3  e0 y2 y4 n)
def ps236_3 : PSt := { live := [0, 3, 6, 7, 8], nt := 26, env := [.whole 0, .i, .whole 0, .i, .i], heap := [.typ false true false 0 .opt] }
abbrev st236_3 (y1 y2 y3 : Int) (y4 : List Opt) : St := ⟨[.whole 0, dd, dd, I y1, dd, dd, .whole 0, I y2, I y3, dd, dd, dd, dd, dd, dd, dd, dd, dd, dd, dd, dd, dd, dd, dd, dd, dd], [some ⟨false, true, false, 0, .typ .opt y4⟩]⟩
abbrev sx236_3_0 (z0 : Int) (z1 : List Opt) : St := ⟨[dd, dd, dd, I z0, dd, dd, dd, dd, dd, dd, dd, dd, dd, dd, dd, dd, dd, dd, dd, dd, dd, dd, dd, dd, dd, dd], [some ⟨false, true, false, 0, .typ .opt z1⟩]⟩
theorem ly236_3 (y1 y2 y3 : Int) (y4 : List Opt) : layS ps236_3 (y1, y2, y3, y4, ()) = st236_3 y1 y2 y3 y4 := by kernel_rfl
abbrev E236_3_0 {R : Type} (k : Ex → St → Option R) (y4 : List Opt) (z0 : Int) : Option R := k (.exit 0) (sx236_3_0 z0 y4)
noncomputable abbrev J236_3 {R : Type} (n : Nat) (y2 : Int) (y4 : List Opt) (y1 y3 : Int) (k : Ex → St → Option R) : Option R :=
 iter (ev P KK T235 LOrc.none 300 236 (loopOf P 236 3)) (headL P KK (KK.ann 236 3) 1) (gcL (KK.ann 236 3).out 1) n (st236_3 y1 y2 y3 y4) k
theorem k236_3 {R : Type} (n : Nat) (y2 : Int) (y4 : List Opt) (y1 y3 : Int) (k : Ex → St → Option R) : J236_3  (n + 1) y2 y4 y1 y3 k = S236_3  (E236_3_0 k y4) y2 y4 (fun y1 y3 => J236_3  n y2 y4 y1 y3 k) y1 y3 := by kernel_rfl
theorem it236_3 {R : Type} (y2 : Int) (y4 : List Opt) (k : Ex → St → Option R) : ∀ (n : Nat) (y1 y3 : Int), J236_3  n y2 y4 y1 y3 k = L236_3  (E236_3_0 k y4) y2 y4 n y1 y3 := by
 intro n
 induction n with
 | zero => intros; rfl
 | succ n ih =>
  intro y1 y3
  rw [k236_3, show (fun y1 y3 => J236_3  n y2 y4 y1 y3 k) = L236_3  (E236_3_0 k y4) y2 y4 n from by funext y1 y3; exact ih y1 y3]
  rfl
def lb236_3 {R : Type} (lf : Nat) (d : ps236_3.D) (k : Ex → St → Option R) : Option R := match d with
 | (y1, y2, y3, y4, ()) => L236_3  (E236_3_0 k y4) y2 y4 lf y1 y3
def lt236_3 {R : Type} (lf : Nat) : LOrc R := fun f id n0 st k => bif Nat.beq f 236 && (Nat.beq id 3 && Nat.beq n0 1) then readS ps236_3 st fun d => lb236_3 lf d k else LOrc.none f id n0 st k
def F236 (lf : Nat) (l : List Opt) : Option (Int) :=
 L236_3 (fun z8 => some z8) (l.length : Int) l lf (-1) 0
theorem ev236 (lf : Nat) (l : List Opt) : evC (R' := [.cell .i]) P KK T235 (lt236_3 lf) 236 [.cell (.sl .opt)] (l, ()) = F236 lf l := by kernel_rfl
def g236 : Sig := ⟨[.cell (.sl .opt)], [.cell .i]⟩
def T236 {R : Type} : Orc R := fun f args h k => bif Nat.beq f 236 then contract g236 (fun d => F236 fuel d.1) args h k else T235 f args h k
def g21 : Sig := ⟨[.cell (.sl .task)], [.cell (.own .task 54)]⟩
def T21 {R : Type} : Orc R := fun f args h k => bif Nat.beq f 21 then contract g21 (fun d => cloneB d.1) args h k else T236 f args h k
def F109 (w_Now : Int) (w_T : List Task) (w_A : List Ape) (w_Cur : Int) : Option (Int × (List Task) × (List Ape) × Int) :=
 (match (cloneB w_T) with
 | some r1 => (match (cloneB w_A) with
  | some r2 => some (w_Now, r1, r2, w_Cur)
  | none => none)
 | none => none)
theorem ev109 (w_Now : Int) (w_T : List Task) (w_A : List Ape) (w_Cur : Int) : evC (R' := [.agg [.i, .own .task 54, .own .ape 88, .i]]) P KK T21 LOrc.none 109 [.agg [.i, .sl .task, .sl .ape, .i]] ((w_Now, w_T, w_A, w_Cur, ()), ()) = F109 w_Now w_T w_A w_Cur := by kernel_rfl
def g109 : Sig := ⟨[.agg [.i, .sl .task, .sl .ape, .i]], [.agg [.i, .own .task 54, .own .ape 88, .i]]⟩
def T109 {R : Type} : Orc R := fun f args h k => bif Nat.beq f 109 then contract g109 (fun d => F109 d.1.1 d.1.2.1 d.1.2.2.1 d.1.2.2.2.1) args h k else T21 f args h k
def S57_3 {R : Type} (e0 : (List Live) → Option R) (y1 : Int) (y3 : List Task) (y4 : List Ape) (y5 y6 : Int) (rec : Int → (List Live) → Option R) (y2 : Int) (y7 : List Live) : Option R :=
 bif decide (y2 < y1) then
  bif (decide (0 ≤ y2) && decide (y2 < (y3.length : Int))) then (match y3[(Int.toNat y2)]? with
   | some x8 => let r9 := (F91 x8)
    bif Nat.ble ((y7 ++ ([r9])).length) 100000 then rec (wI (y2 + 1)) (y7 ++ ([r9]))
    else none
   | none => none)
  else none
 else e0 y7
def L57_3 {R : Type} (e0 : (List Live) → Option R) (y1 : Int) (y3 : List Task) (y4 : List Ape) (y5 y6 : Int) : Nat → Int → (List Live) → Option R
 | 0 => fun _ _ => none
 | n + 1 => S57_3  e0 y1 y3 y4 y5 y6 (L57_3  e0 y1 y3 y4 y5 y6 n)
def ps57_3 : PSt := { live := [3, 7, 8, 9], nt := 20, env := [.whole 3, .whole 0, .i, .i], heap := [.typ false true false 0 .task, .typ false true false 0 .ape, .gen true false false 0 4 [[.i, .whole 0, .whole 1, .i]], .typ true true false 159 .live] }
abbrev st57_3 (y1 y2 : Int) (y3 : List Task) (y4 : List Ape) (y5 y6 : Int) (y7 : List Live) : St := ⟨[dd, dd, dd, .whole 3, dd, dd, dd, .whole 0, I y1, I y2, dd, dd, dd, dd, dd, dd, dd, dd, dd, dd], [some ⟨false, true, false, 0, .typ .task y3⟩, some ⟨false, true, false, 0, .typ .ape y4⟩, some ⟨true, false, false, 0, .gen 4 [[I y5, .whole 0, .whole 1, I y6]]⟩, some ⟨true, true, false, 159, .typ .live y7⟩]⟩
abbrev sx57_3_0 (z0 : List Task) (z1 : List Ape) (z2 z3 : Int) (z4 : List Live) : St := ⟨[dd, dd, dd, .whole 3, dd, dd, dd, dd, dd, dd, dd, dd, dd, dd, dd, dd, dd, dd, dd, dd], [some ⟨false, true, false, 0, .typ .task z0⟩, some ⟨false, true, false, 0, .typ .ape z1⟩, some ⟨true, false, false, 0, .gen 4 [[I z2, .whole 0, .whole 1, I z3]]⟩, some ⟨true, true, false, 159, .typ .live z4⟩]⟩
theorem ly57_3 (y1 y2 : Int) (y3 : List Task) (y4 : List Ape) (y5 y6 : Int) (y7 : List Live) : layS ps57_3 (y1, y2, y3, y4, y5, y6, y7, ()) = st57_3 y1 y2 y3 y4 y5 y6 y7 := by kernel_rfl
abbrev E57_3_0 {R : Type} (k : Ex → St → Option R) (y3 : List Task) (y4 : List Ape) (y5 y6 : Int) (z4 : List Live) : Option R := k (.exit 0) (sx57_3_0 y3 y4 y5 y6 z4)
noncomputable abbrev J57_3 {R : Type} (n : Nat) (y1 : Int) (y3 : List Task) (y4 : List Ape) (y5 y6 y2 : Int) (y7 : List Live) (k : Ex → St → Option R) : Option R :=
 iter (ev P KK T109 LOrc.none 300 57 (loopOf P 57 3)) (headL P KK (KK.ann 57 3) 3) (gcL (KK.ann 57 3).out 3) n (st57_3 y1 y2 y3 y4 y5 y6 y7) k
theorem k57_3 {R : Type} (n : Nat) (y1 : Int) (y3 : List Task) (y4 : List Ape) (y5 y6 y2 : Int) (y7 : List Live) (k : Ex → St → Option R) : J57_3  (n + 1) y1 y3 y4 y5 y6 y2 y7 k = S57_3  (E57_3_0 k y3 y4 y5 y6) y1 y3 y4 y5 y6 (fun y2 y7 => J57_3  n y1 y3 y4 y5 y6 y2 y7 k) y2 y7 := by kernel_rfl
theorem it57_3 {R : Type} (y1 : Int) (y3 : List Task) (y4 : List Ape) (y5 y6 : Int) (k : Ex → St → Option R) : ∀ (n : Nat) (y2 : Int) (y7 : List Live), J57_3  n y1 y3 y4 y5 y6 y2 y7 k = L57_3  (E57_3_0 k y3 y4 y5 y6) y1 y3 y4 y5 y6 n y2 y7 := by
 intro n
 induction n with
 | zero => intros; rfl
 | succ n ih =>
  intro y2 y7
  rw [k57_3, show (fun y2 y7 => J57_3  n y1 y3 y4 y5 y6 y2 y7 k) = L57_3  (E57_3_0 k y3 y4 y5 y6) y1 y3 y4 y5 y6 n from by funext y2 y7; exact ih y2 y7]
  rfl
def lb57_3 {R : Type} (lf : Nat) (d : ps57_3.D) (k : Ex → St → Option R) : Option R := match d with
 | (y1, y2, y3, y4, y5, y6, y7, ()) => L57_3  (E57_3_0 k y3 y4 y5 y6) y1 y3 y4 y5 y6 lf y2 y7
def lt57_3 {R : Type} (lf : Nat) : LOrc R := fun f id n0 st k => bif Nat.beq f 57 && (Nat.beq id 3 && Nat.beq n0 3) then readS ps57_3 st fun d => lb57_3 lf d k else LOrc.none f id n0 st k
def F57 (lf : Nat) (w_Now : Int) (w_T : List Task) (w_A : List Ape) (w_Cur : Int) : Option (List Live) :=
 L57_3 (fun z10 => some z10) (w_T.length : Int) w_T w_A w_Now w_Cur lf 0 ([])
theorem ev57 (lf : Nat) (w_Now : Int) (w_T : List Task) (w_A : List Ape) (w_Cur : Int) : evC (R' := [.cell (.own .live 159)]) P KK T109 (lt57_3 lf) 57 [.agg [.i, .sl .task, .sl .ape, .i]] ((w_Now, w_T, w_A, w_Cur, ()), ()) = F57 lf w_Now w_T w_A w_Cur := by kernel_rfl
def g57 : Sig := ⟨[.agg [.i, .sl .task, .sl .ape, .i]], [.cell (.own .live 159)]⟩
def T57 {R : Type} : Orc R := fun f args h k => bif Nat.beq f 57 then contract g57 (fun d => F57 fuel d.1.1 d.1.2.1 d.1.2.2.1 d.1.2.2.2.1) args h k else T109 f args h k
def S86_87_2 {R : Type} (e0 : Bool → Option R) (e1 : Option R) (y2 : List Ape) (rec : Int → Option R) (y1 : Int) : Option R :=
 bif decide (0 < y1) then
  bif (decide (0 ≤ y1) && decide (y1 < (y2.length : Int))) then (match y2[(Int.toNat y1)]? with
   | some x3 => bif (decide (0 ≤ (wI (y1 - 1))) && decide ((wI (y1 - 1)) < (y2.length : Int))) then (match y2[(Int.toNat (wI (y1 - 1)))]? with
     | some x4 => bif decide ((wI (x3.ID - x4.ID)) < 0) then
       e0 false
      else rec (wI (y1 - 1))
     | none => none)
    else none
   | none => none)
  else none
 else e1
def L86_87_2 {R : Type} (e0 : Bool → Option R) (e1 : Option R) (y2 : List Ape) : Nat → Int → Option R
 | 0 => fun _ => none
 | n + 1 => S86_87_2  e0 e1 y2 (L86_87_2  e0 e1 y2 n)
def ps86_87_2 : PSt := { live := [0, 1, 5], nt := 25, env := [.whole 0, .fn 87 [], .i], heap := [.typ false true false 0 .ape] }
abbrev st86_87_2 (y1 : Int) (y2 : List Ape) : St := ⟨[.whole 0, .fn (.func 87) [] [], dd, dd, dd, I y1, dd, dd, dd, dd, dd, dd, dd, dd, dd, dd, dd, dd, dd, dd, dd, dd, dd, dd, dd], [some ⟨false, true, false, 0, .typ .ape y2⟩]⟩
abbrev sx86_87_2_0 (z0 : Bool) (z1 : List Ape) : St := ⟨[dd, dd, dd, dd, .bool z0, dd, dd, dd, dd, dd, dd, dd, dd, dd, dd, dd, dd, dd, dd, dd, dd, dd, dd, dd, dd], [some ⟨false, true, false, 0, .typ .ape z1⟩]⟩
abbrev sx86_87_2_1 (z0 : List Ape) : St := ⟨[dd, dd, dd, dd, dd, dd, dd, dd, dd, dd, dd, dd, dd, dd, dd, dd, dd, dd, dd, dd, dd, dd, dd, dd, dd], [some ⟨false, true, false, 0, .typ .ape z0⟩]⟩
theorem ly86_87_2 (y1 : Int) (y2 : List Ape) : layS ps86_87_2 (y1, y2, ()) = st86_87_2 y1 y2 := by kernel_rfl
abbrev E86_87_2_0 {R : Type} (k : Ex → St → Option R) (y2 : List Ape) (z0 : Bool) : Option R := k .ret (sx86_87_2_0 z0 y2)
abbrev E86_87_2_1 {R : Type} (k : Ex → St → Option R) (y2 : List Ape) : Option R := k (.exit 0) (sx86_87_2_1 y2)
noncomputable abbrev J86_87_2 {R : Type} (n : Nat) (y2 : List Ape) (y1 : Int) (k : Ex → St → Option R) : Option R :=
 iter (ev P KK T57 LOrc.none 300 86 (loopOf P 86 2)) (headL P KK (KK.ann 86 2) 1) (gcL (KK.ann 86 2).out 1) n (st86_87_2 y1 y2) k
theorem k86_87_2 {R : Type} (n : Nat) (y2 : List Ape) (y1 : Int) (k : Ex → St → Option R) : J86_87_2  (n + 1) y2 y1 k = S86_87_2  (E86_87_2_0 k y2) (E86_87_2_1 k y2) y2 (fun y1 => J86_87_2  n y2 y1 k) y1 := by kernel_rfl
theorem it86_87_2 {R : Type} (y2 : List Ape) (k : Ex → St → Option R) : ∀ (n : Nat) (y1 : Int), J86_87_2  n y2 y1 k = L86_87_2  (E86_87_2_0 k y2) (E86_87_2_1 k y2) y2 n y1 := by
 intro n
 induction n with
 | zero => intros; rfl
 | succ n ih =>
  intro y1
  rw [k86_87_2, show (fun y1 => J86_87_2  n y2 y1 k) = L86_87_2  (E86_87_2_0 k y2) (E86_87_2_1 k y2) y2 n from by funext y1; exact ih y1]
  rfl
def lb86_87_2 {R : Type} (lf : Nat) (d : ps86_87_2.D) (k : Ex → St → Option R) : Option R := match d with
 | (y1, y2, ()) => L86_87_2  (E86_87_2_0 k y2) (E86_87_2_1 k y2) y2 lf y1
def lt86_87_2 {R : Type} (lf : Nat) : LOrc R := fun f id n0 st k => bif Nat.beq f 86 && (Nat.beq id 2 && Nat.beq n0 1) then readS ps86_87_2 st fun d => lb86_87_2 lf d k else LOrc.none f id n0 st k
def F86_87 (lf : Nat) (x : List Ape) : Option (Bool) :=
 L86_87_2 (fun z5 => some z5) (some true) x lf (wI ((x.length : Int) - 1))
theorem ev86_87 (lf : Nat) (x : List Ape) : evC (R' := [.cell .b]) P KK T57 (lt86_87_2 lf) 86 [.cell (.sl .ape), .clo 87 []] (x, (()), ()) = F86_87 lf x := by kernel_rfl
def g86_87 : Sig := ⟨[.cell (.sl .ape), .clo 87 []], [.cell .b]⟩
def T86_87 {R : Type} : Orc R := fun f args h k => bif Nat.beq f 86 && cloIs 1 87 args then contract g86_87 (fun d => F86_87 fuel d.1) args h k else T57 f args h k
def S55_4 {R : Type} (e0 : Bool → Option R) (e1 : Option R) (y2 : Int) (y4 : List Task) (y5 : List Ape) (y6 y7 : Int) (rec : Int → Option R) (y3 : Int) : Option R :=
 bif decide (y3 < y2) then
  bif (decide (0 ≤ y3) && decide (y3 < (y4.length : Int))) then (match y4[(Int.toNat y3)]? with
   | some x8 => bif decide (0 < y3) then
     bif (decide (0 ≤ (wI (y3 - 1))) && decide ((wI (y3 - 1)) < (y4.length : Int))) then (match y4[(Int.toNat (wI (y3 - 1)))]? with
      | some x9 => bif decide (x8.ID ≤ x9.ID) then
        e0 false
       else (match (F85 x8 y6) with
       | some r10 => bif (!r10) then
         e0 false
        else bif x8.J.On then
         bif decide (x8.J.Due ≤ y6) then
          e0 false
         else rec (wI (y3 + 1))
        else rec (wI (y3 + 1))
       | none => none)
      | none => none)
     else none
    else (match (F85 x8 y6) with
    | some r11 => bif (!r11) then
      e0 false
     else bif x8.J.On then
      bif decide (x8.J.Due ≤ y6) then
       e0 false
      else rec (wI (y3 + 1))
     else rec (wI (y3 + 1))
    | none => none)
   | none => none)
  else none
 else e1
def L55_4 {R : Type} (e0 : Bool → Option R) (e1 : Option R) (y2 : Int) (y4 : List Task) (y5 : List Ape) (y6 y7 : Int) : Nat → Int → Option R
 | 0 => fun _ => none
 | n + 1 => S55_4  e0 e1 y2 y4 y5 y6 y7 (L55_4  e0 e1 y2 y4 y5 y6 y7 n)
def ps55_4 : PSt := { live := [1, 38, 39, 40], nt := 83, env := [.ptr 2 0 0, .whole 0, .i, .i], heap := [.typ false true false 0 .task, .typ false true false 0 .ape, .gen true false false 0 4 [[.i, .whole 0, .whole 1, .i]]] }
abbrev st55_4 (y2 y3 : Int) (y4 : List Task) (y5 : List Ape) (y6 y7 : Int) : St := ⟨[dd, .ptr 2 0 0, dd, dd, dd, dd, dd, dd, dd, dd, dd, dd, dd, dd, dd, dd, dd, dd, dd, dd, dd, dd, dd, dd, dd, dd, dd, dd, dd, dd, dd, dd, dd, dd, dd, dd, dd, dd, .whole 0, I y2, I y3, dd, dd, dd, dd, dd, dd, dd, dd, dd, dd, dd, dd, dd, dd, dd, dd, dd, dd, dd, dd, dd, dd, dd, dd, dd, dd, dd, dd, dd, dd, dd, dd, dd, dd, dd, dd, dd, dd, dd, dd, dd, dd], [some ⟨false, true, false, 0, .typ .task y4⟩, some ⟨false, true, false, 0, .typ .ape y5⟩, some ⟨true, false, false, 0, .gen 4 [[I y6, .whole 0, .whole 1, I y7]]⟩]⟩
abbrev sx55_4_0 (z0 : Bool) (z1 : List Task) (z2 : List Ape) (z3 z4 : Int) : St := ⟨[dd, .ptr 2 0 0, .bool z0, dd, dd, dd, dd, dd, dd, dd, dd, dd, dd, dd, dd, dd, dd, dd, dd, dd, dd, dd, dd, dd, dd, dd, dd, dd, dd, dd, dd, dd, dd, dd, dd, dd, dd, dd, dd, dd, dd, dd, dd, dd, dd, dd, dd, dd, dd, dd, dd, dd, dd, dd, dd, dd, dd, dd, dd, dd, dd, dd, dd, dd, dd, dd, dd, dd, dd, dd, dd, dd, dd, dd, dd, dd, dd, dd, dd, dd, dd, dd, dd], [some ⟨false, true, false, 0, .typ .task z1⟩, some ⟨false, true, false, 0, .typ .ape z2⟩, some ⟨true, false, false, 0, .gen 4 [[I z3, .whole 0, .whole 1, I z4]]⟩]⟩
abbrev sx55_4_1 (z0 : List Task) (z1 : List Ape) (z2 z3 : Int) : St := ⟨[dd, .ptr 2 0 0, dd, dd, dd, dd, dd, dd, dd, dd, dd, dd, dd, dd, dd, dd, dd, dd, dd, dd, dd, dd, dd, dd, dd, dd, dd, dd, dd, dd, dd, dd, dd, dd, dd, dd, dd, dd, dd, dd, dd, dd, dd, dd, dd, dd, dd, dd, dd, dd, dd, dd, dd, dd, dd, dd, dd, dd, dd, dd, dd, dd, dd, dd, dd, dd, dd, dd, dd, dd, dd, dd, dd, dd, dd, dd, dd, dd, dd, dd, dd, dd, dd], [some ⟨false, true, false, 0, .typ .task z0⟩, some ⟨false, true, false, 0, .typ .ape z1⟩, some ⟨true, false, false, 0, .gen 4 [[I z2, .whole 0, .whole 1, I z3]]⟩]⟩
theorem ly55_4 (y2 y3 : Int) (y4 : List Task) (y5 : List Ape) (y6 y7 : Int) : layS ps55_4 (y2, y3, y4, y5, y6, y7, ()) = st55_4 y2 y3 y4 y5 y6 y7 := by kernel_rfl
abbrev E55_4_0 {R : Type} (k : Ex → St → Option R) (y4 : List Task) (y5 : List Ape) (y6 y7 : Int) (z0 : Bool) : Option R := k .ret (sx55_4_0 z0 y4 y5 y6 y7)
abbrev E55_4_1 {R : Type} (k : Ex → St → Option R) (y4 : List Task) (y5 : List Ape) (y6 y7 : Int) : Option R := k (.exit 0) (sx55_4_1 y4 y5 y6 y7)
noncomputable abbrev J55_4 {R : Type} (n : Nat) (y2 : Int) (y4 : List Task) (y5 : List Ape) (y6 y7 y3 : Int) (k : Ex → St → Option R) : Option R :=
 iter (ev P KK T86_87 LOrc.none 300 55 (loopOf P 55 4)) (headL P KK (KK.ann 55 4) 3) (gcL (KK.ann 55 4).out 3) n (st55_4 y2 y3 y4 y5 y6 y7) k
theorem k55_4 {R : Type} (n : Nat) (y2 : Int) (y4 : List Task) (y5 : List Ape) (y6 y7 y3 : Int) (k : Ex → St → Option R) : J55_4  (n + 1) y2 y4 y5 y6 y7 y3 k = S55_4  (E55_4_0 k y4 y5 y6 y7) (E55_4_1 k y4 y5 y6 y7) y2 y4 y5 y6 y7 (fun y3 => J55_4  n y2 y4 y5 y6 y7 y3 k) y3 := by kernel_rfl
theorem it55_4 {R : Type} (y2 : Int) (y4 : List Task) (y5 : List Ape) (y6 y7 : Int) (k : Ex → St → Option R) : ∀ (n : Nat) (y3 : Int), J55_4  n y2 y4 y5 y6 y7 y3 k = L55_4  (E55_4_0 k y4 y5 y6 y7) (E55_4_1 k y4 y5 y6 y7) y2 y4 y5 y6 y7 n y3 := by
 intro n
 induction n with
 | zero => intros; rfl
 | succ n ih =>
  intro y3
  rw [k55_4, show (fun y3 => J55_4  n y2 y4 y5 y6 y7 y3 k) = L55_4  (E55_4_0 k y4 y5 y6 y7) (E55_4_1 k y4 y5 y6 y7) y2 y4 y5 y6 y7 n from by funext y3; exact ih y3]
  rfl
def lb55_4 {R : Type} (lf : Nat) (d : ps55_4.D) (k : Ex → St → Option R) : Option R := match d with
 | (y2, y3, y4, y5, y6, y7, ()) => L55_4  (E55_4_0 k y4 y5 y6 y7) (E55_4_1 k y4 y5 y6 y7) y2 y4 y5 y6 y7 lf y3
def lt55_4 {R : Type} (lf : Nat) : LOrc R := fun f id n0 st k => bif Nat.beq f 55 && (Nat.beq id 4 && Nat.beq n0 3) then readS ps55_4 st fun d => lb55_4 lf d k else LOrc.none f id n0 st k
def F55 (lf : Nat) (w_Now : Int) (w_T : List Task) (w_A : List Ape) (w_Cur : Int) : Option (Bool) :=
 bif decide (w_Now < 0) then
  some false
 else bif decide (274877906944 < w_Now) then
  some false
 else bif decide (4 < (w_T.length : Int)) then
  some false
 else bif decide (w_Cur < (-1)) then
  some false
 else bif decide (549755813888 < w_Cur) then
  some false
 else (match (F84 fuel w_A w_Now) with
 | some r1 => bif (!r1) then
   some false
  else L55_4 (fun z12 => some z12) ((match (F86_87 fuel w_A) with
    | some r13 => some r13
    | none => none)) (w_T.length : Int) w_T w_A w_Now w_Cur lf 0
 | none => none)
theorem ev55 (lf : Nat) (w_Now : Int) (w_T : List Task) (w_A : List Ape) (w_Cur : Int) : evC (R' := [.cell .b]) P KK T86_87 (lt55_4 lf) 55 [.agg [.i, .sl .task, .sl .ape, .i]] ((w_Now, w_T, w_A, w_Cur, ()), ()) = F55 lf w_Now w_T w_A w_Cur := by kernel_rfl
def g55 : Sig := ⟨[.agg [.i, .sl .task, .sl .ape, .i]], [.cell .b]⟩
def T55 {R : Type} : Orc R := fun f args h k => bif Nat.beq f 55 then contract g55 (fun d => F55 fuel d.1.1 d.1.2.1 d.1.2.2.1 d.1.2.2.2.1) args h k else T86_87 f args h k
def S30_5 {R : Type} (e0 : (List Fix) → Option R) (y2 : Int) (y4 : List Task) (y5 : List Ape) (y6 y7 : Int) (rec : Int → (List Fix) → Option R) (y3 : Int) (y8 : List Fix) : Option R :=
 bif decide (y3 < y2) then
  bif (decide (0 ≤ y3) && decide (y3 < (y4.length : Int))) then (match y4[(Int.toNat y3)]? with
   | some x9 => bif Nat.ble ((y8 ++ ([(Fix.mk x9.S x9.Next)])).length) 100000 then rec (wI (y3 + 1)) (y8 ++ ([(Fix.mk x9.S x9.Next)]))
    else none
   | none => none)
  else none
 else e0 y8
def L30_5 {R : Type} (e0 : (List Fix) → Option R) (y2 : Int) (y4 : List Task) (y5 : List Ape) (y6 y7 : Int) : Nat → Int → (List Fix) → Option R
 | 0 => fun _ _ => none
 | n + 1 => S30_5  e0 y2 y4 y5 y6 y7 (L30_5  e0 y2 y4 y5 y6 y7 n)
def ps30_5 : PSt := { live := [1, 3, 12, 13, 14], nt := 40, env := [.ptr 2 0 0, .whole 3, .whole 0, .i, .i], heap := [.typ false true false 0 .task, .typ false true false 0 .ape, .gen true false false 0 4 [[.i, .whole 0, .whole 1, .i]], .typ true true false 112 .fix] }
abbrev st30_5 (y2 y3 : Int) (y4 : List Task) (y5 : List Ape) (y6 y7 : Int) (y8 : List Fix) : St := ⟨[dd, .ptr 2 0 0, dd, .whole 3, dd, dd, dd, dd, dd, dd, dd, dd, .whole 0, I y2, I y3, dd, dd, dd, dd, dd, dd, dd, dd, dd, dd, dd, dd, dd, dd, dd, dd, dd, dd, dd, dd, dd, dd, dd, dd, dd], [some ⟨false, true, false, 0, .typ .task y4⟩, some ⟨false, true, false, 0, .typ .ape y5⟩, some ⟨true, false, false, 0, .gen 4 [[I y6, .whole 0, .whole 1, I y7]]⟩, some ⟨true, true, false, 112, .typ .fix y8⟩]⟩
abbrev sx30_5_0 (z0 : List Task) (z1 : List Ape) (z2 z3 : Int) (z4 : List Fix) : St := ⟨[dd, .ptr 2 0 0, dd, .whole 3, dd, dd, dd, dd, dd, dd, dd, dd, dd, dd, dd, dd, dd, dd, dd, dd, dd, dd, dd, dd, dd, dd, dd, dd, dd, dd, dd, dd, dd, dd, dd, dd, dd, dd, dd, dd], [some ⟨false, true, false, 0, .typ .task z0⟩, some ⟨false, true, false, 0, .typ .ape z1⟩, some ⟨true, false, false, 0, .gen 4 [[I z2, .whole 0, .whole 1, I z3]]⟩, some ⟨true, true, false, 112, .typ .fix z4⟩]⟩
theorem ly30_5 (y2 y3 : Int) (y4 : List Task) (y5 : List Ape) (y6 y7 : Int) (y8 : List Fix) : layS ps30_5 (y2, y3, y4, y5, y6, y7, y8, ()) = st30_5 y2 y3 y4 y5 y6 y7 y8 := by kernel_rfl
abbrev E30_5_0 {R : Type} (k : Ex → St → Option R) (y4 : List Task) (y5 : List Ape) (y6 y7 : Int) (z4 : List Fix) : Option R := k (.exit 0) (sx30_5_0 y4 y5 y6 y7 z4)
noncomputable abbrev J30_5 {R : Type} (n : Nat) (y2 : Int) (y4 : List Task) (y5 : List Ape) (y6 y7 y3 : Int) (y8 : List Fix) (k : Ex → St → Option R) : Option R :=
 iter (ev P KK T55 LOrc.none 300 30 (loopOf P 30 5)) (headL P KK (KK.ann 30 5) 3) (gcL (KK.ann 30 5).out 3) n (st30_5 y2 y3 y4 y5 y6 y7 y8) k
theorem k30_5 {R : Type} (n : Nat) (y2 : Int) (y4 : List Task) (y5 : List Ape) (y6 y7 y3 : Int) (y8 : List Fix) (k : Ex → St → Option R) : J30_5  (n + 1) y2 y4 y5 y6 y7 y3 y8 k = S30_5  (E30_5_0 k y4 y5 y6 y7) y2 y4 y5 y6 y7 (fun y3 y8 => J30_5  n y2 y4 y5 y6 y7 y3 y8 k) y3 y8 := by kernel_rfl
theorem it30_5 {R : Type} (y2 : Int) (y4 : List Task) (y5 : List Ape) (y6 y7 : Int) (k : Ex → St → Option R) : ∀ (n : Nat) (y3 : Int) (y8 : List Fix), J30_5  n y2 y4 y5 y6 y7 y3 y8 k = L30_5  (E30_5_0 k y4 y5 y6 y7) y2 y4 y5 y6 y7 n y3 y8 := by
 intro n
 induction n with
 | zero => intros; rfl
 | succ n ih =>
  intro y3 y8
  rw [k30_5, show (fun y3 y8 => J30_5  n y2 y4 y5 y6 y7 y3 y8 k) = L30_5  (E30_5_0 k y4 y5 y6 y7) y2 y4 y5 y6 y7 n from by funext y3 y8; exact ih y3 y8]
  rfl
def lb30_5 {R : Type} (lf : Nat) (d : ps30_5.D) (k : Ex → St → Option R) : Option R := match d with
 | (y2, y3, y4, y5, y6, y7, y8, ()) => L30_5  (E30_5_0 k y4 y5 y6 y7) y2 y4 y5 y6 y7 lf y3 y8
def lt30_5 {R : Type} (lf : Nat) : LOrc R := fun f id n0 st k => bif Nat.beq f 30 && (Nat.beq id 5 && Nat.beq n0 3) then readS ps30_5 st fun d => lb30_5 lf d k else LOrc.none f id n0 st k
def F30 (lf : Nat) (w_Now : Int) (w_T : List Task) (w_A : List Ape) (w_Cur : Int) : Option (Bool) :=
 (match (F55 fuel w_Now w_T w_A w_Cur) with
 | some r1 => bif (!r1) then
   some false
  else L30_5 (fun z10 => (match (F57 fuel w_Now w_T w_A w_Cur) with
    | some r11 => (match (F56 fuel r11 w_Now) with
     | some r12 => bif r12.2 then
       (match (F58 fuel z10) with
       | some r13 => some r13
       | none => none)
      else some false
     | none => none)
    | none => none)) (w_T.length : Int) w_T w_A w_Now w_Cur lf 0 ([])
 | none => none)
theorem ev30 (lf : Nat) (w_Now : Int) (w_T : List Task) (w_A : List Ape) (w_Cur : Int) : evC (R' := [.cell .b]) P KK T55 (lt30_5 lf) 30 [.agg [.i, .sl .task, .sl .ape, .i]] ((w_Now, w_T, w_A, w_Cur, ()), ()) = F30 lf w_Now w_T w_A w_Cur := by kernel_rfl
def g30 : Sig := ⟨[.agg [.i, .sl .task, .sl .ape, .i]], [.cell .b]⟩
def T30 {R : Type} : Orc R := fun f args h k => bif Nat.beq f 30 then contract g30 (fun d => F30 fuel d.1.1 d.1.2.1 d.1.2.2.1 d.1.2.2.2.1) args h k else T55 f args h k
def S76_6 {R : Type} (e0 : (List Task) → (List (Int × Bool)) → Option R) (y5 : Int) (y7 : List Task) (y8 : List Ape) (y9 : List Int) (y10 y11 y12 y13 : Int) (y15 : List Ape) (rec : Nat → Nat → Int → (List Task) → (List (Int × Bool)) → Option R) (y3 y4 : Nat) (y6 : Int) (y14 : List Task) (y16 : List (Int × Bool)) : Option R :=
 bif decide (y6 < y5) then
  bif (decide (0 ≤ y6) && decide (y6 < (y14.length : Int))) then (match y14[(Int.toNat y6)]? with
   | some x17 => bif decide ((y4 : Int) = 0) then
     (match (F111 x17 y10 x17.S.C) with
     | some r18 => bif r18.2 then
       bif (decide (0 ≤ y6) && decide (y6 < (y14.length : Int))) then (match y14[(Int.toNat y6)]? with
        | some x19 => rec 0 0 (wI (y6 + 1)) (y14.set (Int.toNat y6) r18.1) (putM y16 x17.ID true)
        | none => none)
       else none
      else rec y3 y4 (wI (y6 + 1)) y14 y16
     | none => none)
    else bif decide (0 < (y4 : Int)) then (match y9[(y3 + 0)]? with
     | some x20 => bif decide (x20 < 1) then
       bif decide (1 ≤ (y4 : Int)) then (match (F111 x17 y10 x17.S.C) with
        | some r21 => bif r21.2 then
          bif (decide (0 ≤ y6) && decide (y6 < (y14.length : Int))) then (match y14[(Int.toNat y6)]? with
           | some x22 => rec (y3 + 1) (y4 - 1) (wI (y6 + 1)) (y14.set (Int.toNat y6) r21.1) (putM y16 x17.ID true)
           | none => none)
          else none
         else rec y3 y4 (wI (y6 + 1)) y14 y16
        | none => none)
       else none
      else bif decide (0 < (y4 : Int)) then (match y9[(y3 + 0)]? with
       | some x23 => bif decide (20 < x23) then
         bif decide (1 ≤ (y4 : Int)) then (match (F111 x17 y10 x17.S.C) with
          | some r24 => bif r24.2 then
            bif (decide (0 ≤ y6) && decide (y6 < (y14.length : Int))) then (match y14[(Int.toNat y6)]? with
             | some x25 => rec (y3 + 1) (y4 - 1) (wI (y6 + 1)) (y14.set (Int.toNat y6) r24.1) (putM y16 x17.ID true)
             | none => none)
            else none
           else rec y3 y4 (wI (y6 + 1)) y14 y16
          | none => none)
         else none
        else bif decide (0 < (y4 : Int)) then (match y9[(y3 + 0)]? with
         | some x26 => bif decide (1 ≤ (y4 : Int)) then (match (F111 x17 y10 x26) with
           | some r27 => bif r27.2 then
             bif (decide (0 ≤ y6) && decide (y6 < (y14.length : Int))) then (match y14[(Int.toNat y6)]? with
              | some x28 => rec (y3 + 1) (y4 - 1) (wI (y6 + 1)) (y14.set (Int.toNat y6) r27.1) (putM y16 x17.ID true)
              | none => none)
             else none
            else rec y3 y4 (wI (y6 + 1)) y14 y16
           | none => none)
          else none
         | none => none)
        else none
       | none => none)
      else none
     | none => none)
    else none
   | none => none)
  else none
 else e0 y14 y16
def L76_6 {R : Type} (e0 : (List Task) → (List (Int × Bool)) → Option R) (y5 : Int) (y7 : List Task) (y8 : List Ape) (y9 : List Int) (y10 y11 y12 y13 : Int) (y15 : List Ape) : Nat → Nat → Nat → Int → (List Task) → (List (Int × Bool)) → Option R
 | 0 => fun _ _ _ _ _ => none
 | n + 1 => S76_6  e0 y5 y7 y8 y9 y10 y11 y12 y13 y15 (L76_6  e0 y5 y7 y8 y9 y10 y11 y12 y13 y15 n)
def ps76_6 : PSt := { live := [1, 2, 4, 6, 24, 25, 26], nt := 75, env := [.lim 2, .ptr 3 0 0, .ptr 4 0 0, .mapv 7, .whole 5, .i, .i], heap := [.typ false true false 0 .task, .typ false true false 0 .ape, .typ false true false 0 .int, .gen true false false 0 4 [[.i, .whole 5, .whole 6, .i]], .gen true false false 0 4 [[.i, .nils, .nils, .i]], .typ true true false 54 .task, .typ true true false 88 .ape, .mp true false .bool] }
abbrev st76_6 (y3 y4 : Nat) (y5 y6 : Int) (y7 : List Task) (y8 : List Ape) (y9 : List Int) (y10 y11 y12 y13 : Int) (y14 : List Task) (y15 : List Ape) (y16 : List (Int × Bool)) : St := ⟨[dd, .lim 2 y3 y4, .ptr 3 0 0, dd, .ptr 4 0 0, dd, .mapv 7, dd, dd, dd, dd, dd, dd, dd, dd, dd, dd, dd, dd, dd, dd, dd, dd, dd, .whole 5, I y5, I y6, dd, dd, dd, dd, dd, dd, dd, dd, dd, dd, dd, dd, dd, dd, dd, dd, dd, dd, dd, dd, dd, dd, dd, dd, dd, dd, dd, dd, dd, dd, dd, dd, dd, dd, dd, dd, dd, dd, dd, dd, dd, dd, dd, dd, dd, dd, dd, dd], [some ⟨false, true, false, 0, .typ .task y7⟩, some ⟨false, true, false, 0, .typ .ape y8⟩, some ⟨false, true, false, 0, .typ .int y9⟩, some ⟨true, false, false, 0, .gen 4 [[I y10, .whole 5, .whole 6, I y11]]⟩, some ⟨true, false, false, 0, .gen 4 [[I y12, .nils, .nils, I y13]]⟩, some ⟨true, true, false, 54, .typ .task y14⟩, some ⟨true, true, false, 88, .typ .ape y15⟩, some ⟨true, false, false, 0, .mp .bool y16⟩]⟩
abbrev sx76_6_0 (z0 : List Task) (z1 : List Ape) (z2 : List Int) (z3 z4 z5 z6 : Int) (z7 : List Task) (z8 : List Ape) (z9 : List (Int × Bool)) : St := ⟨[dd, dd, .ptr 3 0 0, dd, .ptr 4 0 0, dd, .mapv 7, dd, dd, dd, dd, dd, dd, dd, dd, dd, dd, dd, dd, dd, dd, dd, dd, dd, dd, dd, dd, dd, dd, dd, dd, dd, dd, dd, dd, dd, dd, dd, dd, dd, dd, dd, dd, dd, dd, dd, dd, dd, dd, dd, dd, dd, dd, dd, dd, dd, dd, dd, dd, dd, dd, dd, dd, dd, dd, dd, dd, dd, dd, dd, dd, dd, dd, dd, dd], [some ⟨false, true, false, 0, .typ .task z0⟩, some ⟨false, true, false, 0, .typ .ape z1⟩, some ⟨false, true, false, 0, .typ .int z2⟩, some ⟨true, false, false, 0, .gen 4 [[I z3, .whole 5, .whole 6, I z4]]⟩, some ⟨true, false, false, 0, .gen 4 [[I z5, .nils, .nils, I z6]]⟩, some ⟨true, true, false, 54, .typ .task z7⟩, some ⟨true, true, false, 88, .typ .ape z8⟩, some ⟨true, false, false, 0, .mp .bool z9⟩]⟩
theorem ly76_6 (y3 y4 : Nat) (y5 y6 : Int) (y7 : List Task) (y8 : List Ape) (y9 : List Int) (y10 y11 y12 y13 : Int) (y14 : List Task) (y15 : List Ape) (y16 : List (Int × Bool)) : layS ps76_6 (y3, y4, y5, y6, y7, y8, y9, y10, y11, y12, y13, y14, y15, y16, ()) = st76_6 y3 y4 y5 y6 y7 y8 y9 y10 y11 y12 y13 y14 y15 y16 := by kernel_rfl
abbrev E76_6_0 {R : Type} (k : Ex → St → Option R) (y7 : List Task) (y8 : List Ape) (y9 : List Int) (y10 y11 y12 y13 : Int) (y15 : List Ape) (z7 : List Task) (z9 : List (Int × Bool)) : Option R := k (.exit 0) (sx76_6_0 y7 y8 y9 y10 y11 y12 y13 z7 y15 z9)
noncomputable abbrev J76_6 {R : Type} (n : Nat) (y5 : Int) (y7 : List Task) (y8 : List Ape) (y9 : List Int) (y10 y11 y12 y13 : Int) (y15 : List Ape) (y3 y4 : Nat) (y6 : Int) (y14 : List Task) (y16 : List (Int × Bool)) (k : Ex → St → Option R) : Option R :=
 iter (ev P KK T30 LOrc.none 300 76 (loopOf P 76 6)) (headL P KK (KK.ann 76 6) 8) (gcL (KK.ann 76 6).out 8) n (st76_6 y3 y4 y5 y6 y7 y8 y9 y10 y11 y12 y13 y14 y15 y16) k
theorem k76_6 {R : Type} (n : Nat) (y5 : Int) (y7 : List Task) (y8 : List Ape) (y9 : List Int) (y10 y11 y12 y13 : Int) (y15 : List Ape) (y3 y4 : Nat) (y6 : Int) (y14 : List Task) (y16 : List (Int × Bool)) (k : Ex → St → Option R) : J76_6  (n + 1) y5 y7 y8 y9 y10 y11 y12 y13 y15 y3 y4 y6 y14 y16 k = S76_6  (E76_6_0 k y7 y8 y9 y10 y11 y12 y13 y15) y5 y7 y8 y9 y10 y11 y12 y13 y15 (fun y3 y4 y6 y14 y16 => J76_6  n y5 y7 y8 y9 y10 y11 y12 y13 y15 y3 y4 y6 y14 y16 k) y3 y4 y6 y14 y16 := by kernel_rfl
theorem it76_6 {R : Type} (y5 : Int) (y7 : List Task) (y8 : List Ape) (y9 : List Int) (y10 y11 y12 y13 : Int) (y15 : List Ape) (k : Ex → St → Option R) : ∀ (n : Nat) (y3 y4 : Nat) (y6 : Int) (y14 : List Task) (y16 : List (Int × Bool)), J76_6  n y5 y7 y8 y9 y10 y11 y12 y13 y15 y3 y4 y6 y14 y16 k = L76_6  (E76_6_0 k y7 y8 y9 y10 y11 y12 y13 y15) y5 y7 y8 y9 y10 y11 y12 y13 y15 n y3 y4 y6 y14 y16 := by
 intro n
 induction n with
 | zero => intros; rfl
 | succ n ih =>
  intro y3 y4 y6 y14 y16
  rw [k76_6, show (fun y3 y4 y6 y14 y16 => J76_6  n y5 y7 y8 y9 y10 y11 y12 y13 y15 y3 y4 y6 y14 y16 k) = L76_6  (E76_6_0 k y7 y8 y9 y10 y11 y12 y13 y15) y5 y7 y8 y9 y10 y11 y12 y13 y15 n from by funext y3 y4 y6 y14 y16; exact ih y3 y4 y6 y14 y16]
  rfl
def lb76_6 {R : Type} (lf : Nat) (d : ps76_6.D) (k : Ex → St → Option R) : Option R := match d with
 | (y3, y4, y5, y6, y7, y8, y9, y10, y11, y12, y13, y14, y15, y16, ()) => L76_6  (E76_6_0 k y7 y8 y9 y10 y11 y12 y13 y15) y5 y7 y8 y9 y10 y11 y12 y13 y15 lf y3 y4 y6 y14 y16
def lt76_6 {R : Type} (lf : Nat) : LOrc R := fun f id n0 st k => bif Nat.beq f 76 && (Nat.beq id 6 && Nat.beq n0 8) then readS ps76_6 st fun d => lb76_6 lf d k else LOrc.none f id n0 st k
def S76_16 {R : Type} (e0 : (List Int) → Option R) (y31 : Int) (y33 : List Task) (y34 : List Ape) (y35 : List Int) (y36 y37 y38 y39 : Int) (y40 : List Task) (y41 : List Ape) (y42 : List (Int × Bool)) (rec : Int → (List Int) → Option R) (y32 : Int) (y43 : List Int) : Option R :=
 bif decide (y32 < y31) then
  bif (decide (0 ≤ y32) && decide (y32 < (y40.length : Int))) then (match y40[(Int.toNat y32)]? with
   | some x44 => bif ((getM y42 x44.ID).getD false) then
     bif Nat.ble ((y43 ++ ([x44.ID])).length) 100000 then rec (wI (y32 + 1)) (y43 ++ ([x44.ID]))
     else none
    else rec (wI (y32 + 1)) y43
   | none => none)
  else none
 else e0 y43
def L76_16 {R : Type} (e0 : (List Int) → Option R) (y31 : Int) (y33 : List Task) (y34 : List Ape) (y35 : List Int) (y36 y37 y38 y39 : Int) (y40 : List Task) (y41 : List Ape) (y42 : List (Int × Bool)) : Nat → Int → (List Int) → Option R
 | 0 => fun _ _ => none
 | n + 1 => S76_16  e0 y31 y33 y34 y35 y36 y37 y38 y39 y40 y41 y42 (L76_16  e0 y31 y33 y34 y35 y36 y37 y38 y39 y40 y41 y42 n)
def ps76_16 : PSt := { live := [2, 4, 6, 13, 57, 58, 59], nt := 75, env := [.ptr 3 0 0, .ptr 4 0 0, .mapv 7, .whole 8, .whole 5, .i, .i], heap := [.typ false true false 0 .task, .typ false true false 0 .ape, .typ false true false 0 .int, .gen true false false 0 4 [[.i, .whole 5, .whole 6, .i]], .gen true false false 0 4 [[.i, .nils, .nils, .i]], .typ true true false 54 .task, .typ true true false 88 .ape, .mp true false .bool, .typ true true false 3 .int] }
abbrev st76_16 (y31 y32 : Int) (y33 : List Task) (y34 : List Ape) (y35 : List Int) (y36 y37 y38 y39 : Int) (y40 : List Task) (y41 : List Ape) (y42 : List (Int × Bool)) (y43 : List Int) : St := ⟨[dd, dd, .ptr 3 0 0, dd, .ptr 4 0 0, dd, .mapv 7, dd, dd, dd, dd, dd, dd, .whole 8, dd, dd, dd, dd, dd, dd, dd, dd, dd, dd, dd, dd, dd, dd, dd, dd, dd, dd, dd, dd, dd, dd, dd, dd, dd, dd, dd, dd, dd, dd, dd, dd, dd, dd, dd, dd, dd, dd, dd, dd, dd, dd, dd, .whole 5, I y31, I y32, dd, dd, dd, dd, dd, dd, dd, dd, dd, dd, dd, dd, dd, dd, dd], [some ⟨false, true, false, 0, .typ .task y33⟩, some ⟨false, true, false, 0, .typ .ape y34⟩, some ⟨false, true, false, 0, .typ .int y35⟩, some ⟨true, false, false, 0, .gen 4 [[I y36, .whole 5, .whole 6, I y37]]⟩, some ⟨true, false, false, 0, .gen 4 [[I y38, .nils, .nils, I y39]]⟩, some ⟨true, true, false, 54, .typ .task y40⟩, some ⟨true, true, false, 88, .typ .ape y41⟩, some ⟨true, false, false, 0, .mp .bool y42⟩, some ⟨true, true, false, 3, .typ .int y43⟩]⟩
abbrev sx76_16_0 (z0 : List Task) (z1 : List Ape) (z2 : List Int) (z3 z4 z5 z6 : Int) (z7 : List Task) (z8 : List Ape) (z9 : List (Int × Bool)) (z10 : List Int) : St := ⟨[dd, dd, .ptr 3 0 0, dd, .ptr 4 0 0, dd, dd, dd, dd, dd, dd, dd, dd, .whole 8, dd, dd, dd, dd, dd, dd, dd, dd, dd, dd, dd, dd, dd, dd, dd, dd, dd, dd, dd, dd, dd, dd, dd, dd, dd, dd, dd, dd, dd, dd, dd, dd, dd, dd, dd, dd, dd, dd, dd, dd, dd, dd, dd, dd, dd, dd, dd, dd, dd, dd, dd, dd, dd, dd, dd, dd, dd, dd, dd, dd, dd], [some ⟨false, true, false, 0, .typ .task z0⟩, some ⟨false, true, false, 0, .typ .ape z1⟩, some ⟨false, true, false, 0, .typ .int z2⟩, some ⟨true, false, false, 0, .gen 4 [[I z3, .whole 5, .whole 6, I z4]]⟩, some ⟨true, false, false, 0, .gen 4 [[I z5, .nils, .nils, I z6]]⟩, some ⟨true, true, false, 54, .typ .task z7⟩, some ⟨true, true, false, 88, .typ .ape z8⟩, some ⟨true, false, false, 0, .mp .bool z9⟩, some ⟨true, true, false, 3, .typ .int z10⟩]⟩
theorem ly76_16 (y31 y32 : Int) (y33 : List Task) (y34 : List Ape) (y35 : List Int) (y36 y37 y38 y39 : Int) (y40 : List Task) (y41 : List Ape) (y42 : List (Int × Bool)) (y43 : List Int) : layS ps76_16 (y31, y32, y33, y34, y35, y36, y37, y38, y39, y40, y41, y42, y43, ()) = st76_16 y31 y32 y33 y34 y35 y36 y37 y38 y39 y40 y41 y42 y43 := by kernel_rfl
abbrev E76_16_0 {R : Type} (k : Ex → St → Option R) (y33 : List Task) (y34 : List Ape) (y35 : List Int) (y36 y37 y38 y39 : Int) (y40 : List Task) (y41 : List Ape) (y42 : List (Int × Bool)) (z10 : List Int) : Option R := k (.exit 2) (sx76_16_0 y33 y34 y35 y36 y37 y38 y39 y40 y41 y42 z10)
noncomputable abbrev J76_16 {R : Type} (n : Nat) (y31 : Int) (y33 : List Task) (y34 : List Ape) (y35 : List Int) (y36 y37 y38 y39 : Int) (y40 : List Task) (y41 : List Ape) (y42 : List (Int × Bool)) (y32 : Int) (y43 : List Int) (k : Ex → St → Option R) : Option R :=
 iter (ev P KK T30 (lt76_6 lf) 300 76 (loopOf P 76 16)) (headL P KK (KK.ann 76 16) 8) (gcL (KK.ann 76 16).out 8) n (st76_16 y31 y32 y33 y34 y35 y36 y37 y38 y39 y40 y41 y42 y43) k
theorem k76_16 {R : Type} (n : Nat) (y31 : Int) (y33 : List Task) (y34 : List Ape) (y35 : List Int) (y36 y37 y38 y39 : Int) (y40 : List Task) (y41 : List Ape) (y42 : List (Int × Bool)) (y32 : Int) (y43 : List Int) (k : Ex → St → Option R) : J76_16  (n + 1) y31 y33 y34 y35 y36 y37 y38 y39 y40 y41 y42 y32 y43 k = S76_16  (E76_16_0 k y33 y34 y35 y36 y37 y38 y39 y40 y41 y42) y31 y33 y34 y35 y36 y37 y38 y39 y40 y41 y42 (fun y32 y43 => J76_16  n y31 y33 y34 y35 y36 y37 y38 y39 y40 y41 y42 y32 y43 k) y32 y43 := by kernel_rfl
theorem it76_16 {R : Type} (y31 : Int) (y33 : List Task) (y34 : List Ape) (y35 : List Int) (y36 y37 y38 y39 : Int) (y40 : List Task) (y41 : List Ape) (y42 : List (Int × Bool)) (k : Ex → St → Option R) : ∀ (n : Nat) (y32 : Int) (y43 : List Int), J76_16  n y31 y33 y34 y35 y36 y37 y38 y39 y40 y41 y42 y32 y43 k = L76_16  (E76_16_0 k y33 y34 y35 y36 y37 y38 y39 y40 y41 y42) y31 y33 y34 y35 y36 y37 y38 y39 y40 y41 y42 n y32 y43 := by
 intro n
 induction n with
 | zero => intros; rfl
 | succ n ih =>
  intro y32 y43
  rw [k76_16, show (fun y32 y43 => J76_16  n y31 y33 y34 y35 y36 y37 y38 y39 y40 y41 y42 y32 y43 k) = L76_16  (E76_16_0 k y33 y34 y35 y36 y37 y38 y39 y40 y41 y42) y31 y33 y34 y35 y36 y37 y38 y39 y40 y41 y42 n from by funext y32 y43; exact ih y32 y43]
  rfl
def lb76_16 {R : Type} (lf : Nat) (d : ps76_16.D) (k : Ex → St → Option R) : Option R := match d with
 | (y31, y32, y33, y34, y35, y36, y37, y38, y39, y40, y41, y42, y43, ()) => L76_16  (E76_16_0 k y33 y34 y35 y36 y37 y38 y39 y40 y41 y42) y31 y33 y34 y35 y36 y37 y38 y39 y40 y41 y42 lf y32 y43
def lt76_16 {R : Type} (lf : Nat) : LOrc R := fun f id n0 st k => bif Nat.beq f 76 && (Nat.beq id 16 && Nat.beq n0 8) then readS ps76_16 st fun d => lb76_16 lf d k else (lt76_6 lf) f id n0 st k
def F76 (lf : Nat) (w_Now : Int) (w_T : List Task) (w_A : List Ape) (w_Cur : Int) (d : List Int) : Option ((Int × (List Task) × (List Ape) × Int) × (List Int)) :=
 (match (F109 w_Now w_T w_A w_Cur) with
 | some r1 => (match (F55 fuel r1.1 r1.2.1 r1.2.2.1 r1.2.2.2) with
  | some r2 => bif (!r2) then
    some ((r1.1, r1.2.1, r1.2.2.1, r1.2.2.2), [])
   else L76_6 (fun z29 z30 => L76_16 (fun z45 => some ((r1.1, z29, r1.2.2.1, r1.2.2.2), z45)) (z29.length : Int) w_T w_A d r1.1 r1.2.2.2 0 0 z29 r1.2.2.1 z30 lf 0 ([])) (r1.2.1.length : Int) w_T w_A d r1.1 r1.2.2.2 0 0 r1.2.2.1 lf 0 d.length 0 r1.2.1 ([])
  | none => none)
 | none => none)
theorem ev76 (lf : Nat) (w_Now : Int) (w_T : List Task) (w_A : List Ape) (w_Cur : Int) (d : List Int) : evC (R' := [.agg [.i, .own .task 54, .own .ape 88, .i], .cell (.own .int 3)]) P KK T30 (lt76_16 lf) 76 [.agg [.i, .sl .task, .sl .ape, .i], .cell (.sl .int)] ((w_Now, w_T, w_A, w_Cur, ()), d, ()) = F76 lf w_Now w_T w_A w_Cur d := by kernel_rfl
def g76 : Sig := ⟨[.agg [.i, .sl .task, .sl .ape, .i], .cell (.sl .int)], [.agg [.i, .own .task 54, .own .ape 88, .i], .cell (.own .int 3)]⟩
def T76 {R : Type} : Orc R := fun f args h k => bif Nat.beq f 76 then contract g76 (fun d => F76 fuel d.1.1 d.1.2.1 d.1.2.2.1 d.1.2.2.2.1 d.2.1) args h k else T30 f args h k
def S83_4 {R : Type} (e0 : (List Task) → (List Int) → Option R) (y2 : Int) (y4 : List Task) (y5 : List Ape) (y6 y7 y8 y9 : Int) (y11 : List Ape) (rec : Int → (List Task) → (List Int) → Option R) (y3 : Int) (y10 : List Task) (y12 : List Int) : Option R :=
 bif decide (y3 < y2) then
  bif (decide (0 ≤ y3) && decide (y3 < (y10.length : Int))) then (match y10[(Int.toNat y3)]? with
   | some x13 => (match (F119 x13 y6) with
    | some r14 => bif decide (r14.2 = 3) then
      bif x13.J.Mand then
       bif Nat.ble ((y12 ++ ([x13.ID])).length) 100000 then bif (decide (0 ≤ y3) && decide (y3 < (y10.length : Int))) then (match y10[(Int.toNat y3)]? with
         | some x15 => rec (wI (y3 + 1)) (y10.set (Int.toNat y3) r14.1) (y12 ++ ([x13.ID]))
         | none => none)
        else none
       else none
      else bif (decide (0 ≤ y3) && decide (y3 < (y10.length : Int))) then (match y10[(Int.toNat y3)]? with
       | some x16 => rec (wI (y3 + 1)) (y10.set (Int.toNat y3) r14.1) y12
       | none => none)
      else none
     else bif (decide (0 ≤ y3) && decide (y3 < (y10.length : Int))) then (match y10[(Int.toNat y3)]? with
      | some x17 => rec (wI (y3 + 1)) (y10.set (Int.toNat y3) r14.1) y12
      | none => none)
     else none
    | none => none)
   | none => none)
  else none
 else e0 y10 y12
def L83_4 {R : Type} (e0 : (List Task) → (List Int) → Option R) (y2 : Int) (y4 : List Task) (y5 : List Ape) (y6 y7 y8 y9 : Int) (y11 : List Ape) : Nat → Int → (List Task) → (List Int) → Option R
 | 0 => fun _ _ _ => none
 | n + 1 => S83_4  e0 y2 y4 y5 y6 y7 y8 y9 y11 (L83_4  e0 y2 y4 y5 y6 y7 y8 y9 y11 n)
def ps83_4 : PSt := { live := [1, 2, 4, 12, 13, 14], nt := 46, env := [.ptr 2 0 0, .ptr 3 0 0, .whole 6, .whole 4, .i, .i], heap := [.typ false true false 0 .task, .typ false true false 0 .ape, .gen true false false 0 4 [[.i, .whole 4, .whole 5, .i]], .gen true false false 0 4 [[.i, .nils, .nils, .i]], .typ true true false 54 .task, .typ true true false 88 .ape, .typ true true false 3 .int] }
abbrev st83_4 (y2 y3 : Int) (y4 : List Task) (y5 : List Ape) (y6 y7 y8 y9 : Int) (y10 : List Task) (y11 : List Ape) (y12 : List Int) : St := ⟨[dd, .ptr 2 0 0, .ptr 3 0 0, dd, .whole 6, dd, dd, dd, dd, dd, dd, dd, .whole 4, I y2, I y3, dd, dd, dd, dd, dd, dd, dd, dd, dd, dd, dd, dd, dd, dd, dd, dd, dd, dd, dd, dd, dd, dd, dd, dd, dd, dd, dd, dd, dd, dd, dd], [some ⟨false, true, false, 0, .typ .task y4⟩, some ⟨false, true, false, 0, .typ .ape y5⟩, some ⟨true, false, false, 0, .gen 4 [[I y6, .whole 4, .whole 5, I y7]]⟩, some ⟨true, false, false, 0, .gen 4 [[I y8, .nils, .nils, I y9]]⟩, some ⟨true, true, false, 54, .typ .task y10⟩, some ⟨true, true, false, 88, .typ .ape y11⟩, some ⟨true, true, false, 3, .typ .int y12⟩]⟩
abbrev sx83_4_0 (z0 : List Task) (z1 : List Ape) (z2 z3 z4 z5 : Int) (z6 : List Task) (z7 : List Ape) (z8 : List Int) : St := ⟨[dd, .ptr 2 0 0, .ptr 3 0 0, dd, .whole 6, dd, dd, dd, dd, dd, dd, dd, dd, dd, dd, dd, dd, dd, dd, dd, dd, dd, dd, dd, dd, dd, dd, dd, dd, dd, dd, dd, dd, dd, dd, dd, dd, dd, dd, dd, dd, dd, dd, dd, dd, dd], [some ⟨false, true, false, 0, .typ .task z0⟩, some ⟨false, true, false, 0, .typ .ape z1⟩, some ⟨true, false, false, 0, .gen 4 [[I z2, .whole 4, .whole 5, I z3]]⟩, some ⟨true, false, false, 0, .gen 4 [[I z4, .nils, .nils, I z5]]⟩, some ⟨true, true, false, 54, .typ .task z6⟩, some ⟨true, true, false, 88, .typ .ape z7⟩, some ⟨true, true, false, 3, .typ .int z8⟩]⟩
theorem ly83_4 (y2 y3 : Int) (y4 : List Task) (y5 : List Ape) (y6 y7 y8 y9 : Int) (y10 : List Task) (y11 : List Ape) (y12 : List Int) : layS ps83_4 (y2, y3, y4, y5, y6, y7, y8, y9, y10, y11, y12, ()) = st83_4 y2 y3 y4 y5 y6 y7 y8 y9 y10 y11 y12 := by kernel_rfl
abbrev E83_4_0 {R : Type} (k : Ex → St → Option R) (y4 : List Task) (y5 : List Ape) (y6 y7 y8 y9 : Int) (y11 : List Ape) (z6 : List Task) (z8 : List Int) : Option R := k (.exit 0) (sx83_4_0 y4 y5 y6 y7 y8 y9 z6 y11 z8)
noncomputable abbrev J83_4 {R : Type} (n : Nat) (y2 : Int) (y4 : List Task) (y5 : List Ape) (y6 y7 y8 y9 : Int) (y11 : List Ape) (y3 : Int) (y10 : List Task) (y12 : List Int) (k : Ex → St → Option R) : Option R :=
 iter (ev P KK T76 LOrc.none 300 83 (loopOf P 83 4)) (headL P KK (KK.ann 83 4) 6) (gcL (KK.ann 83 4).out 6) n (st83_4 y2 y3 y4 y5 y6 y7 y8 y9 y10 y11 y12) k
theorem k83_4 {R : Type} (n : Nat) (y2 : Int) (y4 : List Task) (y5 : List Ape) (y6 y7 y8 y9 : Int) (y11 : List Ape) (y3 : Int) (y10 : List Task) (y12 : List Int) (k : Ex → St → Option R) : J83_4  (n + 1) y2 y4 y5 y6 y7 y8 y9 y11 y3 y10 y12 k = S83_4  (E83_4_0 k y4 y5 y6 y7 y8 y9 y11) y2 y4 y5 y6 y7 y8 y9 y11 (fun y3 y10 y12 => J83_4  n y2 y4 y5 y6 y7 y8 y9 y11 y3 y10 y12 k) y3 y10 y12 := by kernel_rfl
theorem it83_4 {R : Type} (y2 : Int) (y4 : List Task) (y5 : List Ape) (y6 y7 y8 y9 : Int) (y11 : List Ape) (k : Ex → St → Option R) : ∀ (n : Nat) (y3 : Int) (y10 : List Task) (y12 : List Int), J83_4  n y2 y4 y5 y6 y7 y8 y9 y11 y3 y10 y12 k = L83_4  (E83_4_0 k y4 y5 y6 y7 y8 y9 y11) y2 y4 y5 y6 y7 y8 y9 y11 n y3 y10 y12 := by
 intro n
 induction n with
 | zero => intros; rfl
 | succ n ih =>
  intro y3 y10 y12
  rw [k83_4, show (fun y3 y10 y12 => J83_4  n y2 y4 y5 y6 y7 y8 y9 y11 y3 y10 y12 k) = L83_4  (E83_4_0 k y4 y5 y6 y7 y8 y9 y11) y2 y4 y5 y6 y7 y8 y9 y11 n from by funext y3 y10 y12; exact ih y3 y10 y12]
  rfl
def lb83_4 {R : Type} (lf : Nat) (d : ps83_4.D) (k : Ex → St → Option R) : Option R := match d with
 | (y2, y3, y4, y5, y6, y7, y8, y9, y10, y11, y12, ()) => L83_4  (E83_4_0 k y4 y5 y6 y7 y8 y9 y11) y2 y4 y5 y6 y7 y8 y9 y11 lf y3 y10 y12
def lt83_4 {R : Type} (lf : Nat) : LOrc R := fun f id n0 st k => bif Nat.beq f 83 && (Nat.beq id 4 && Nat.beq n0 6) then readS ps83_4 st fun d => lb83_4 lf d k else LOrc.none f id n0 st k
def F83 (lf : Nat) (w_Now : Int) (w_T : List Task) (w_A : List Ape) (w_Cur : Int) : Option ((Int × (List Task) × (List Ape) × Int) × (List Int)) :=
 (match (F109 w_Now w_T w_A w_Cur) with
 | some r1 => L83_4 (fun z18 z19 => some ((r1.1, z18, r1.2.2.1, r1.2.2.2), z19)) (r1.2.1.length : Int) w_T w_A r1.1 r1.2.2.2 0 0 r1.2.2.1 lf 0 r1.2.1 ([])
 | none => none)
theorem ev83 (lf : Nat) (w_Now : Int) (w_T : List Task) (w_A : List Ape) (w_Cur : Int) : evC (R' := [.agg [.i, .own .task 54, .own .ape 88, .i], .cell (.own .int 3)]) P KK T76 (lt83_4 lf) 83 [.agg [.i, .sl .task, .sl .ape, .i]] ((w_Now, w_T, w_A, w_Cur, ()), ()) = F83 lf w_Now w_T w_A w_Cur := by kernel_rfl
def g83 : Sig := ⟨[.agg [.i, .sl .task, .sl .ape, .i]], [.agg [.i, .own .task 54, .own .ape 88, .i], .cell (.own .int 3)]⟩
def T83 {R : Type} : Orc R := fun f args h k => bif Nat.beq f 83 then contract g83 (fun d => F83 fuel d.1.1 d.1.2.1 d.1.2.2.1 d.1.2.2.2.1) args h k else T76 f args h k
def K204 {R : Type} (kk : Bool → R) (s : Spr) : R :=
 bif decide (1 ≤ s.Min) then
  bif decide (s.Min ≤ s.U) then
   bif decide (s.U ≤ 1048576) then
    bif decide (0 ≤ s.E) then
     kk (decide (s.E ≤ 8))
    else kk false
   else kk false
  else kk false
 else kk false
def F204 (s : Spr) : Bool := K204 (fun r => r) s
theorem ev204 (s : Spr) : evC (R' := [.cell .b]) P KK T83 LOrc.none 204 [.el .spr] (s, ()) = some (F204 s) := by
 rw [show evC (R' := [.cell .b]) P KK T83 LOrc.none 204 [.el .spr] (s, ()) = K204 some s from by kernel_rfl]
 simp only [F204, K204, some_cond]
 try rfl
def g204 : Sig := ⟨[.el .spr], [.cell .b]⟩
def T204 {R : Type} : Orc R := fun f args h k => bif Nat.beq f 204 then contract g204 (fun d => some (F204 d.1)) args h k else T83 f args h k
def S209_203_2 {R : Type} (e0 : Int → Option R) (e1 : Option R) (y1 : Int) (y3 : List Spr) (rec : Int → Option R) (y2 : Int) : Option R :=
 bif decide (y2 < y1) then
  bif (decide (0 ≤ y2) && decide (y2 < (y3.length : Int))) then (match y3[(Int.toNat y2)]? with
   | some x4 => bif (!(F204 x4)) then
     e0 y2
    else rec (wI (y2 + 1))
   | none => none)
  else none
 else e1
def L209_203_2 {R : Type} (e0 : Int → Option R) (e1 : Option R) (y1 : Int) (y3 : List Spr) : Nat → Int → Option R
 | 0 => fun _ => none
 | n + 1 => S209_203_2  e0 e1 y1 y3 (L209_203_2  e0 e1 y1 y3 n)
def ps209_203_2 : PSt := { live := [0, 1, 7, 8], nt := 19, env := [.whole 0, .fn 203 [], .i, .i], heap := [.typ false true false 0 .spr] }
abbrev st209_203_2 (y1 y2 : Int) (y3 : List Spr) : St := ⟨[.whole 0, .fn (.func 203) [] [], dd, dd, dd, dd, dd, I y1, I y2, dd, dd, dd, dd, dd, dd, dd, dd, dd, dd], [some ⟨false, true, false, 0, .typ .spr y3⟩]⟩
abbrev sx209_203_2_0 (z0 : Int) (z1 : List Spr) : St := ⟨[dd, dd, dd, dd, I z0, dd, dd, dd, dd, dd, dd, dd, dd, dd, dd, dd, dd, dd, dd], [some ⟨false, true, false, 0, .typ .spr z1⟩]⟩
abbrev sx209_203_2_1 (z0 : List Spr) : St := ⟨[dd, dd, dd, dd, dd, dd, dd, dd, dd, dd, dd, dd, dd, dd, dd, dd, dd, dd, dd], [some ⟨false, true, false, 0, .typ .spr z0⟩]⟩
theorem ly209_203_2 (y1 y2 : Int) (y3 : List Spr) : layS ps209_203_2 (y1, y2, y3, ()) = st209_203_2 y1 y2 y3 := by kernel_rfl
abbrev E209_203_2_0 {R : Type} (k : Ex → St → Option R) (y3 : List Spr) (z0 : Int) : Option R := k .ret (sx209_203_2_0 z0 y3)
abbrev E209_203_2_1 {R : Type} (k : Ex → St → Option R) (y3 : List Spr) : Option R := k (.exit 0) (sx209_203_2_1 y3)
noncomputable abbrev J209_203_2 {R : Type} (n : Nat) (y1 : Int) (y3 : List Spr) (y2 : Int) (k : Ex → St → Option R) : Option R :=
 iter (ev P KK T204 LOrc.none 300 209 (loopOf P 209 2)) (headL P KK (KK.ann 209 2) 1) (gcL (KK.ann 209 2).out 1) n (st209_203_2 y1 y2 y3) k
theorem k209_203_2 {R : Type} (n : Nat) (y1 : Int) (y3 : List Spr) (y2 : Int) (k : Ex → St → Option R) : J209_203_2  (n + 1) y1 y3 y2 k = S209_203_2  (E209_203_2_0 k y3) (E209_203_2_1 k y3) y1 y3 (fun y2 => J209_203_2  n y1 y3 y2 k) y2 := by kernel_rfl
theorem it209_203_2 {R : Type} (y1 : Int) (y3 : List Spr) (k : Ex → St → Option R) : ∀ (n : Nat) (y2 : Int), J209_203_2  n y1 y3 y2 k = L209_203_2  (E209_203_2_0 k y3) (E209_203_2_1 k y3) y1 y3 n y2 := by
 intro n
 induction n with
 | zero => intros; rfl
 | succ n ih =>
  intro y2
  rw [k209_203_2, show (fun y2 => J209_203_2  n y1 y3 y2 k) = L209_203_2  (E209_203_2_0 k y3) (E209_203_2_1 k y3) y1 y3 n from by funext y2; exact ih y2]
  rfl
def lb209_203_2 {R : Type} (lf : Nat) (d : ps209_203_2.D) (k : Ex → St → Option R) : Option R := match d with
 | (y1, y2, y3, ()) => L209_203_2  (E209_203_2_0 k y3) (E209_203_2_1 k y3) y1 y3 lf y2
def lt209_203_2 {R : Type} (lf : Nat) : LOrc R := fun f id n0 st k => bif Nat.beq f 209 && (Nat.beq id 2 && Nat.beq n0 1) then readS ps209_203_2 st fun d => lb209_203_2 lf d k else LOrc.none f id n0 st k
def F209_203 (lf : Nat) (s : List Spr) : Option (Int) :=
 L209_203_2 (fun z5 => some z5) (some (-1)) (s.length : Int) s lf 0
theorem ev209_203 (lf : Nat) (s : List Spr) : evC (R' := [.cell .i]) P KK T204 (lt209_203_2 lf) 209 [.cell (.sl .spr), .clo 203 []] (s, (()), ()) = F209_203 lf s := by kernel_rfl
def g209_203 : Sig := ⟨[.cell (.sl .spr), .clo 203 []], [.cell .i]⟩
def T209_203 {R : Type} : Orc R := fun f args h k => bif Nat.beq f 209 && cloIs 1 203 args then contract g209_203 (fun d => F209_203 fuel d.1) args h k else T204 f args h k
def F194 (l : List Spr) : Option (Bool) :=
 bif decide ((l.length : Int) ≤ 4) then
  (match (F209_203 fuel l) with
  | some r1 => some (!(decide (0 ≤ r1)))
  | none => none)
 else some false
theorem ev194 (l : List Spr) : evC (R' := [.cell .b]) P KK T209_203 LOrc.none 194 [.cell (.sl .spr)] (l, ()) = F194 l := by kernel_rfl
def g194 : Sig := ⟨[.cell (.sl .spr)], [.cell .b]⟩
def T194 {R : Type} : Orc R := fun f args h k => bif Nat.beq f 194 then contract g194 (fun d => F194 d.1) args h k else T209_203 f args h k
def K146 {R : Type} (kk : Int → R) (s : Spr) : R :=
 bif decide (s.E = 0) then
  kk s.U
 else kk s.Min
def F146 (s : Spr) : Int := K146 (fun r => r) s
theorem ev146 (s : Spr) : evC (R' := [.cell .i]) P KK T194 LOrc.none 146 [.el .spr] (s, ()) = some (F146 s) := by
 rw [show evC (R' := [.cell .i]) P KK T194 LOrc.none 146 [.el .spr] (s, ()) = K146 some s from by kernel_rfl]
 simp only [F146, K146, some_cond]
 try rfl
def g146 : Sig := ⟨[.el .spr], [.cell .i]⟩
def T146 {R : Type} : Orc R := fun f args h k => bif Nat.beq f 146 then contract g146 (fun d => some (F146 d.1)) args h k else T194 f args h k
def S147_146_3 {R : Type} (e0 : (List Int) → Option R) (y1 : Int) (y3 : List Spr) (rec : Int → (List Int) → Option R) (y2 : Int) (y4 : List Int) : Option R :=
 bif decide (y2 < y1) then
  bif (decide (0 ≤ y2) && decide (y2 < (y3.length : Int))) then (match y3[(Int.toNat y2)]? with
   | some x5 => bif Nat.ble ((y4 ++ ([(F146 x5)])).length) 100000 then rec (wI (y2 + 1)) (y4 ++ ([(F146 x5)]))
    else none
   | none => none)
  else none
 else e0 y4
def L147_146_3 {R : Type} (e0 : (List Int) → Option R) (y1 : Int) (y3 : List Spr) : Nat → Int → (List Int) → Option R
 | 0 => fun _ _ => none
 | n + 1 => S147_146_3  e0 y1 y3 (L147_146_3  e0 y1 y3 n)
def ps147_146_3 : PSt := { live := [1, 5, 8, 9, 10], nt := 22, env := [.fn 146 [], .whole 1, .whole 0, .i, .i], heap := [.typ false true false 0 .spr, .typ true true false 3 .int] }
abbrev st147_146_3 (y1 y2 : Int) (y3 : List Spr) (y4 : List Int) : St := ⟨[dd, .fn (.func 146) [] [], dd, dd, dd, .whole 1, dd, dd, .whole 0, I y1, I y2, dd, dd, dd, dd, dd, dd, dd, dd, dd, dd, dd], [some ⟨false, true, false, 0, .typ .spr y3⟩, some ⟨true, true, false, 3, .typ .int y4⟩]⟩
abbrev sx147_146_3_0 (z0 : List Spr) (z1 : List Int) : St := ⟨[dd, dd, dd, dd, dd, .whole 1, dd, dd, dd, dd, dd, dd, dd, dd, dd, dd, dd, dd, dd, dd, dd, dd], [some ⟨false, true, false, 0, .typ .spr z0⟩, some ⟨true, true, false, 3, .typ .int z1⟩]⟩
theorem ly147_146_3 (y1 y2 : Int) (y3 : List Spr) (y4 : List Int) : layS ps147_146_3 (y1, y2, y3, y4, ()) = st147_146_3 y1 y2 y3 y4 := by kernel_rfl
abbrev E147_146_3_0 {R : Type} (k : Ex → St → Option R) (y3 : List Spr) (z1 : List Int) : Option R := k (.exit 0) (sx147_146_3_0 y3 z1)
noncomputable abbrev J147_146_3 {R : Type} (n : Nat) (y1 : Int) (y3 : List Spr) (y2 : Int) (y4 : List Int) (k : Ex → St → Option R) : Option R :=
 iter (ev P KK T146 LOrc.none 300 147 (loopOf P 147 3)) (headL P KK (KK.ann 147 3) 1) (gcL (KK.ann 147 3).out 1) n (st147_146_3 y1 y2 y3 y4) k
theorem k147_146_3 {R : Type} (n : Nat) (y1 : Int) (y3 : List Spr) (y2 : Int) (y4 : List Int) (k : Ex → St → Option R) : J147_146_3  (n + 1) y1 y3 y2 y4 k = S147_146_3  (E147_146_3_0 k y3) y1 y3 (fun y2 y4 => J147_146_3  n y1 y3 y2 y4 k) y2 y4 := by kernel_rfl
theorem it147_146_3 {R : Type} (y1 : Int) (y3 : List Spr) (k : Ex → St → Option R) : ∀ (n : Nat) (y2 : Int) (y4 : List Int), J147_146_3  n y1 y3 y2 y4 k = L147_146_3  (E147_146_3_0 k y3) y1 y3 n y2 y4 := by
 intro n
 induction n with
 | zero => intros; rfl
 | succ n ih =>
  intro y2 y4
  rw [k147_146_3, show (fun y2 y4 => J147_146_3  n y1 y3 y2 y4 k) = L147_146_3  (E147_146_3_0 k y3) y1 y3 n from by funext y2 y4; exact ih y2 y4]
  rfl
def lb147_146_3 {R : Type} (lf : Nat) (d : ps147_146_3.D) (k : Ex → St → Option R) : Option R := match d with
 | (y1, y2, y3, y4, ()) => L147_146_3  (E147_146_3_0 k y3) y1 y3 lf y2 y4
def lt147_146_3 {R : Type} (lf : Nat) : LOrc R := fun f id n0 st k => bif Nat.beq f 147 && (Nat.beq id 3 && Nat.beq n0 1) then readS ps147_146_3 st fun d => lb147_146_3 lf d k else LOrc.none f id n0 st k
def F147_146 (lf : Nat) (l : List Spr) : Option (List Int) :=
 L147_146_3 (fun z6 => some z6) (l.length : Int) l lf 0 ([])
theorem ev147_146 (lf : Nat) (l : List Spr) : evC (R' := [.cell (.own .int 3)]) P KK T146 (lt147_146_3 lf) 147 [.cell (.sl .spr), .clo 146 []] (l, (()), ()) = F147_146 lf l := by kernel_rfl
def g147_146 : Sig := ⟨[.cell (.sl .spr), .clo 146 []], [.cell (.own .int 3)]⟩
def T147_146 {R : Type} : Orc R := fun f args h k => bif Nat.beq f 147 && cloIs 1 146 args then contract g147_146 (fun d => F147_146 fuel d.1) args h k else T146 f args h k
def S147_145_3 {R : Type} (e0 : (List Int) → Option R) (y1 : Int) (y3 : List Spr) (y4 y5 : Int) (rec : Int → (List Int) → Option R) (y2 : Int) (y6 : List Int) : Option R :=
 bif decide (y2 < y1) then
  bif (decide (0 ≤ y2) && decide (y2 < (y3.length : Int))) then (match y3[(Int.toNat y2)]? with
   | some x7 => (match (F137 (wI (y4 * x7.E)) y5) with
    | some r8 => bif Nat.ble ((y6 ++ ([(max (F146 x7) (wI (x7.U - r8.1)))])).length) 100000 then rec (wI (y2 + 1)) (y6 ++ ([(max (F146 x7) (wI (x7.U - r8.1)))]))
     else none
    | none => none)
   | none => none)
  else none
 else e0 y6
def L147_145_3 {R : Type} (e0 : (List Int) → Option R) (y1 : Int) (y3 : List Spr) (y4 y5 : Int) : Nat → Int → (List Int) → Option R
 | 0 => fun _ _ => none
 | n + 1 => S147_145_3  e0 y1 y3 y4 y5 (L147_145_3  e0 y1 y3 y4 y5 n)
def ps147_145_3 : PSt := { live := [1, 5, 8, 9, 10], nt := 22, env := [.fn 145 [1, 2], .whole 3, .whole 0, .i, .i], heap := [.typ false true false 0 .spr, .gen false false false 0 1 [[.i]], .gen false false false 0 1 [[.i]], .typ true true false 3 .int] }
abbrev st147_145_3 (y1 y2 : Int) (y3 : List Spr) (y4 y5 : Int) (y6 : List Int) : St := ⟨[dd, .fn (.func 145) [] [.ptr 1 0 0, .ptr 2 0 0], dd, dd, dd, .whole 3, dd, dd, .whole 0, I y1, I y2, dd, dd, dd, dd, dd, dd, dd, dd, dd, dd, dd], [some ⟨false, true, false, 0, .typ .spr y3⟩, some ⟨false, false, false, 0, .gen 1 [[I y4]]⟩, some ⟨false, false, false, 0, .gen 1 [[I y5]]⟩, some ⟨true, true, false, 3, .typ .int y6⟩]⟩
abbrev sx147_145_3_0 (z0 : List Spr) (z1 z2 : Int) (z3 : List Int) : St := ⟨[dd, dd, dd, dd, dd, .whole 3, dd, dd, dd, dd, dd, dd, dd, dd, dd, dd, dd, dd, dd, dd, dd, dd], [some ⟨false, true, false, 0, .typ .spr z0⟩, some ⟨false, false, false, 0, .gen 1 [[I z1]]⟩, some ⟨false, false, false, 0, .gen 1 [[I z2]]⟩, some ⟨true, true, false, 3, .typ .int z3⟩]⟩
theorem ly147_145_3 (y1 y2 : Int) (y3 : List Spr) (y4 y5 : Int) (y6 : List Int) : layS ps147_145_3 (y1, y2, y3, y4, y5, y6, ()) = st147_145_3 y1 y2 y3 y4 y5 y6 := by kernel_rfl
abbrev E147_145_3_0 {R : Type} (k : Ex → St → Option R) (y3 : List Spr) (y4 y5 : Int) (z3 : List Int) : Option R := k (.exit 0) (sx147_145_3_0 y3 y4 y5 z3)
noncomputable abbrev J147_145_3 {R : Type} (n : Nat) (y1 : Int) (y3 : List Spr) (y4 y5 y2 : Int) (y6 : List Int) (k : Ex → St → Option R) : Option R :=
 iter (ev P KK T147_146 LOrc.none 300 147 (loopOf P 147 3)) (headL P KK (KK.ann 147 3) 3) (gcL (KK.ann 147 3).out 3) n (st147_145_3 y1 y2 y3 y4 y5 y6) k
theorem k147_145_3 {R : Type} (n : Nat) (y1 : Int) (y3 : List Spr) (y4 y5 y2 : Int) (y6 : List Int) (k : Ex → St → Option R) : J147_145_3  (n + 1) y1 y3 y4 y5 y2 y6 k = S147_145_3  (E147_145_3_0 k y3 y4 y5) y1 y3 y4 y5 (fun y2 y6 => J147_145_3  n y1 y3 y4 y5 y2 y6 k) y2 y6 := by kernel_rfl
theorem it147_145_3 {R : Type} (y1 : Int) (y3 : List Spr) (y4 y5 : Int) (k : Ex → St → Option R) : ∀ (n : Nat) (y2 : Int) (y6 : List Int), J147_145_3  n y1 y3 y4 y5 y2 y6 k = L147_145_3  (E147_145_3_0 k y3 y4 y5) y1 y3 y4 y5 n y2 y6 := by
 intro n
 induction n with
 | zero => intros; rfl
 | succ n ih =>
  intro y2 y6
  rw [k147_145_3, show (fun y2 y6 => J147_145_3  n y1 y3 y4 y5 y2 y6 k) = L147_145_3  (E147_145_3_0 k y3 y4 y5) y1 y3 y4 y5 n from by funext y2 y6; exact ih y2 y6]
  rfl
def lb147_145_3 {R : Type} (lf : Nat) (d : ps147_145_3.D) (k : Ex → St → Option R) : Option R := match d with
 | (y1, y2, y3, y4, y5, y6, ()) => L147_145_3  (E147_145_3_0 k y3 y4 y5) y1 y3 y4 y5 lf y2 y6
def lt147_145_3 {R : Type} (lf : Nat) : LOrc R := fun f id n0 st k => bif Nat.beq f 147 && (Nat.beq id 3 && Nat.beq n0 3) then readS ps147_145_3 st fun d => lb147_145_3 lf d k else LOrc.none f id n0 st k
def F147_145 (lf : Nat) (l : List Spr) (c1_0_0 c1_1_0 : Int) : Option (List Int) :=
 L147_145_3 (fun z9 => some z9) (l.length : Int) l c1_0_0 c1_1_0 lf 0 ([])
theorem ev147_145 (lf : Nat) (l : List Spr) (c1_0_0 c1_1_0 : Int) : evC (R' := [.cell (.own .int 3)]) P KK T147_146 (lt147_145_3 lf) 147 [.cell (.sl .spr), .clo 145 [[.i], [.i]]] (l, ((c1_0_0, ()), (c1_1_0, ()), ()), ()) = F147_145 lf l c1_0_0 c1_1_0 := by kernel_rfl
def g147_145 : Sig := ⟨[.cell (.sl .spr), .clo 145 [[.i], [.i]]], [.cell (.own .int 3)]⟩
def T147_145 {R : Type} : Orc R := fun f args h k => bif Nat.beq f 147 && cloIs 1 145 args then contract g147_145 (fun d => F147_145 fuel d.1 d.2.1.1.1 d.2.1.2.1.1) args h k else T147_146 f args h k
def F171 (l : List Spr) (load : Int) : Option (Bool) :=
 (match (F194 l) with
 | some r1 => bif (!r1) then
   some false
  else bif decide (load < 0) then
   some false
  else bif decide (1099511627776 < load) then
   some false
  else (match (F147_146 fuel l) with
  | some r2 => (match (F164 fuel r2) with
   | some r3 => bif r3.2 then
     some (decide (r3.1 ≤ load))
    else some false
   | none => none)
  | none => none)
 | none => none)
theorem ev171 (l : List Spr) (load : Int) : evC (R' := [.cell .b]) P KK T147_145 LOrc.none 171 [.cell (.sl .spr), .cell .i] (l, load, ()) = F171 l load := by kernel_rfl
def g171 : Sig := ⟨[.cell (.sl .spr), .cell .i], [.cell .b]⟩
def T171 {R : Type} : Orc R := fun f args h k => bif Nat.beq f 171 then contract g171 (fun d => F171 d.1 d.2.1) args h k else T147_145 f args h k
def S205_1 {R : Type} (e0 : Int → Option R)  (rec : Int → Int → Option R) (y1 y2 : Int) : Option R :=
 bif decide (0 < y2) then
  bif decide (y2 = 0) then none
  else rec y2 (Int.tmod y1 y2)
 else e0 y1
def L205_1 {R : Type} (e0 : Int → Option R)  : Nat → Int → Int → Option R
 | 0 => fun _ _ => none
 | n + 1 => S205_1  e0  (L205_1  e0  n)
def ps205_1 : PSt := { live := [0, 1], nt := 12, env := [.i, .i], heap := [] }
abbrev st205_1 (y1 y2 : Int) : St := ⟨[I y1, I y2, dd, dd, dd, dd, dd, dd, dd, dd, dd, dd], []⟩
abbrev sx205_1_0 (z0 : Int) : St := ⟨[I z0, dd, dd, dd, dd, dd, dd, dd, dd, dd, dd, dd], []⟩
theorem ly205_1 (y1 y2 : Int) : layS ps205_1 (y1, y2, ()) = st205_1 y1 y2 := by kernel_rfl
abbrev E205_1_0 {R : Type} (k : Ex → St → Option R) (z0 : Int) : Option R := k (.exit 0) (sx205_1_0 z0)
noncomputable abbrev J205_1 {R : Type} (n : Nat) (y1 y2 : Int) (k : Ex → St → Option R) : Option R :=
 iter (ev P KK T171 LOrc.none 300 205 (loopOf P 205 1)) (headL P KK (KK.ann 205 1) 0) (gcL (KK.ann 205 1).out 0) n (st205_1 y1 y2) k
theorem k205_1 {R : Type} (n : Nat) (y1 y2 : Int) (k : Ex → St → Option R) : J205_1  (n + 1) y1 y2 k = S205_1  (E205_1_0 k)  (fun y1 y2 => J205_1  n y1 y2 k) y1 y2 := by kernel_rfl
theorem it205_1 {R : Type}  (k : Ex → St → Option R) : ∀ (n : Nat) (y1 y2 : Int), J205_1  n y1 y2 k = L205_1  (E205_1_0 k)  n y1 y2 := by
 intro n
 induction n with
 | zero => intros; rfl
 | succ n ih =>
  intro y1 y2
  rw [k205_1, show (fun y1 y2 => J205_1  n y1 y2 k) = L205_1  (E205_1_0 k)  n from by funext y1 y2; exact ih y1 y2]
  rfl
def lb205_1 {R : Type} (lf : Nat) (d : ps205_1.D) (k : Ex → St → Option R) : Option R := match d with
 | (y1, y2, ()) => L205_1  (E205_1_0 k)  lf y1 y2
def lt205_1 {R : Type} (lf : Nat) : LOrc R := fun f id n0 st k => bif Nat.beq f 205 && (Nat.beq id 1 && Nat.beq n0 0) then readS ps205_1 st fun d => lb205_1 lf d k else LOrc.none f id n0 st k
def F205 (lf : Nat) (a b : Int) : Option (Int) :=
 L205_1 (fun z3 => some z3) lf a b
theorem ev205 (lf : Nat) (a b : Int) : evC (R' := [.cell .i]) P KK T171 (lt205_1 lf) 205 [.cell .i, .cell .i] (a, b, ()) = F205 lf a b := by kernel_rfl
def g205 : Sig := ⟨[.cell .i, .cell .i], [.cell .i]⟩
def T205 {R : Type} : Orc R := fun f args h k => bif Nat.beq f 205 then contract g205 (fun d => F205 fuel d.1 d.2.1) args h k else T171 f args h k
def F216 (x : Int) : Bool :=
 (!(decide (x = x)))
theorem ev216 (x : Int) : evC (R' := [.cell .b]) P KK T205 LOrc.none 216 [.cell .u] (x, ()) = some (F216 x) := by kernel_rfl
def g216 : Sig := ⟨[.cell .u], [.cell .b]⟩
def T216 {R : Type} : Orc R := fun f args h k => bif Nat.beq f 216 then contract g216 (fun d => some (F216 d.1)) args h k else T205 f args h k
def K214 {R : Type} (kk : Int → R) (x y : Int) : R :=
 bif (F216 x) then
  bif (F216 y) then
   kk 0
  else kk (-1)
 else bif (F216 y) then
  kk 1
 else bif decide (x < y) then
  kk (-1)
 else bif decide (y < x) then
  kk 1
 else kk 0
def F214 (x y : Int) : Int := K214 (fun r => r) x y
theorem ev214 (x y : Int) : evC (R' := [.cell .i]) P KK T216 LOrc.none 214 [.cell .u, .cell .u] (x, y, ()) = some (F214 x y) := by
 rw [show evC (R' := [.cell .i]) P KK T216 LOrc.none 214 [.cell .u, .cell .u] (x, y, ()) = K214 some x y from by kernel_rfl]
 simp only [F214, K214, some_cond]
 try rfl
def g214 : Sig := ⟨[.cell .u, .cell .u], [.cell .i]⟩
def T214 {R : Type} : Orc R := fun f args h k => bif Nat.beq f 214 then contract g214 (fun d => some (F214 d.1 d.2.1)) args h k else T216 f args h k
def S211_2 {R : Type} (e0 : Int → Option R) (e1 : Option R) (y1 : Int) (y3 y4 : List Int) (rec : Int → Option R) (y2 : Int) : Option R :=
 bif decide (y2 < y1) then
  bif (decide (0 ≤ y2) && decide (y2 < (y3.length : Int))) then (match y3[(Int.toNat y2)]? with
   | some x5 => bif decide ((y4.length : Int) ≤ y2) then
     e0 1
    else bif (decide (0 ≤ y2) && decide (y2 < (y4.length : Int))) then (match y4[(Int.toNat y2)]? with
     | some x6 => bif (!(decide ((F214 x5 x6) = 0))) then
       e0 (F214 x5 x6)
      else rec (wI (y2 + 1))
     | none => none)
    else none
   | none => none)
  else none
 else e1
def L211_2 {R : Type} (e0 : Int → Option R) (e1 : Option R) (y1 : Int) (y3 y4 : List Int) : Nat → Int → Option R
 | 0 => fun _ => none
 | n + 1 => S211_2  e0 e1 y1 y3 y4 (L211_2  e0 e1 y1 y3 y4 n)
def ps211_2 : PSt := { live := [0, 1, 9, 10, 11], nt := 36, env := [.whole 0, .whole 1, .whole 0, .i, .i], heap := [.typ false true false 0 .u64, .typ false true false 0 .u64] }
abbrev st211_2 (y1 y2 : Int) (y3 y4 : List Int) : St := ⟨[.whole 0, .whole 1, dd, dd, dd, dd, dd, dd, dd, .whole 0, I y1, I y2, dd, dd, dd, dd, dd, dd, dd, dd, dd, dd, dd, dd, dd, dd, dd, dd, dd, dd, dd, dd, dd, dd, dd, dd], [some ⟨false, true, false, 0, .typ .u64 y3⟩, some ⟨false, true, false, 0, .typ .u64 y4⟩]⟩
abbrev sx211_2_0 (z0 : Int) (z1 z2 : List Int) : St := ⟨[.whole 0, .whole 1, dd, dd, I z0, dd, dd, dd, dd, dd, dd, dd, dd, dd, dd, dd, dd, dd, dd, dd, dd, dd, dd, dd, dd, dd, dd, dd, dd, dd, dd, dd, dd, dd, dd, dd], [some ⟨false, true, false, 0, .typ .u64 z1⟩, some ⟨false, true, false, 0, .typ .u64 z2⟩]⟩
abbrev sx211_2_1 (z0 z1 : List Int) : St := ⟨[.whole 0, .whole 1, dd, dd, dd, dd, dd, dd, dd, dd, dd, dd, dd, dd, dd, dd, dd, dd, dd, dd, dd, dd, dd, dd, dd, dd, dd, dd, dd, dd, dd, dd, dd, dd, dd, dd], [some ⟨false, true, false, 0, .typ .u64 z0⟩, some ⟨false, true, false, 0, .typ .u64 z1⟩]⟩
theorem ly211_2 (y1 y2 : Int) (y3 y4 : List Int) : layS ps211_2 (y1, y2, y3, y4, ()) = st211_2 y1 y2 y3 y4 := by kernel_rfl
abbrev E211_2_0 {R : Type} (k : Ex → St → Option R) (y3 y4 : List Int) (z0 : Int) : Option R := k .ret (sx211_2_0 z0 y3 y4)
abbrev E211_2_1 {R : Type} (k : Ex → St → Option R) (y3 y4 : List Int) : Option R := k (.exit 0) (sx211_2_1 y3 y4)
noncomputable abbrev J211_2 {R : Type} (n : Nat) (y1 : Int) (y3 y4 : List Int) (y2 : Int) (k : Ex → St → Option R) : Option R :=
 iter (ev P KK T214 LOrc.none 300 211 (loopOf P 211 2)) (headL P KK (KK.ann 211 2) 2) (gcL (KK.ann 211 2).out 2) n (st211_2 y1 y2 y3 y4) k
theorem k211_2 {R : Type} (n : Nat) (y1 : Int) (y3 y4 : List Int) (y2 : Int) (k : Ex → St → Option R) : J211_2  (n + 1) y1 y3 y4 y2 k = S211_2  (E211_2_0 k y3 y4) (E211_2_1 k y3 y4) y1 y3 y4 (fun y2 => J211_2  n y1 y3 y4 y2 k) y2 := by kernel_rfl
theorem it211_2 {R : Type} (y1 : Int) (y3 y4 : List Int) (k : Ex → St → Option R) : ∀ (n : Nat) (y2 : Int), J211_2  n y1 y3 y4 y2 k = L211_2  (E211_2_0 k y3 y4) (E211_2_1 k y3 y4) y1 y3 y4 n y2 := by
 intro n
 induction n with
 | zero => intros; rfl
 | succ n ih =>
  intro y2
  rw [k211_2, show (fun y2 => J211_2  n y1 y3 y4 y2 k) = L211_2  (E211_2_0 k y3 y4) (E211_2_1 k y3 y4) y1 y3 y4 n from by funext y2; exact ih y2]
  rfl
def lb211_2 {R : Type} (lf : Nat) (d : ps211_2.D) (k : Ex → St → Option R) : Option R := match d with
 | (y1, y2, y3, y4, ()) => L211_2  (E211_2_0 k y3 y4) (E211_2_1 k y3 y4) y1 y3 y4 lf y2
def lt211_2 {R : Type} (lf : Nat) : LOrc R := fun f id n0 st k => bif Nat.beq f 211 && (Nat.beq id 2 && Nat.beq n0 2) then readS ps211_2 st fun d => lb211_2 lf d k else LOrc.none f id n0 st k
def F211 (lf : Nat) (s1 s2 : List Int) : Option (Int) :=
 L211_2 (fun z7 => some z7) (bif decide ((s1.length : Int) < (s2.length : Int)) then
    some (-1)
   else some 0) (s1.length : Int) s1 s2 lf 0
theorem ev211 (lf : Nat) (s1 s2 : List Int) : evC (R' := [.cell .i]) P KK T214 (lt211_2 lf) 211 [.cell (.sl .u64), .cell (.sl .u64)] (s1, s2, ()) = F211 lf s1 s2 := by kernel_rfl
def g211 : Sig := ⟨[.cell (.sl .u64), .cell (.sl .u64)], [.cell .i]⟩
def T211 {R : Type} : Orc R := fun f args h k => bif Nat.beq f 211 then contract g211 (fun d => F211 fuel d.1 d.2.1) args h k else T214 f args h k
def F213 (x y : Int) : Int × Int :=
 ((wU ((wU ((wU ((shr .u64 x 32) * (shr .u64 y 32))) + (shr .u64 (wU ((wU ((shr .u64 x 32) * (bits .and .u64 y 4294967295))) + (shr .u64 (wU ((bits .and .u64 x 4294967295) * (bits .and .u64 y 4294967295))) 32))) 32))) + (shr .u64 (wU ((bits .and .u64 (wU ((wU ((shr .u64 x 32) * (bits .and .u64 y 4294967295))) + (shr .u64 (wU ((bits .and .u64 x 4294967295) * (bits .and .u64 y 4294967295))) 32))) 4294967295) + (wU ((bits .and .u64 x 4294967295) * (shr .u64 y 32))))) 32))), (wU (x * y)))
theorem ev213 (x y : Int) : evC (R' := [.cell .u, .cell .u]) P KK T211 LOrc.none 213 [.cell .u, .cell .u] (x, y, ()) = some (F213 x y) := by kernel_rfl
def g213 : Sig := ⟨[.cell .u, .cell .u], [.cell .u, .cell .u]⟩
def T213 {R : Type} : Orc R := fun f args h k => bif Nat.beq f 213 then contract g213 (fun d => some (F213 d.1 d.2.1)) args h k else T211 f args h k
end Go.Abs
