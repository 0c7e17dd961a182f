/- Own: Functions of the program as Lean functions, and that the interpreter comes to them. -/
import Derived.Test.YtmiajnodoigndaaGreatTr2
set_option linter.unusedVariables false
set_option linter.unusedSimpArgs false
set_option maxRecDepth 1000000
set_option maxHeartbeats 16000000
namespace Go.Abs
def F119 (t : Task) (now : Int) : Option (Task × Int) :=
 bif (!t.J.On) then
  some (t, 0)
 else let r1 := (F131 t.J now)
 (match (F158 (Task.mk t.ID t.S t.P t.Next t.At t.N r1.1 t.H t.Kept) r1.2) with
 | some r2 => some (r2, r1.2)
 | none => none)
theorem ev119 (t : Task) (now : Int) : evC (R' := [.el .task, .cell .i]) P KK T117 LOrc.none 119 [.el .task, .cell .i] (t, now, ()) = F119 t now := by kernel_rfl
def g119 : Sig := ⟨[.el .task, .cell .i], [.el .task, .cell .i]⟩
def T119 {R : Type} : Orc R := fun f args h k => bif Nat.beq f 119 then contract g119 (fun d => F119 d.1 d.2.1) args h k else T117 f args h k
def F133 (x : Fix) : Option (Bool) :=
 (match (F134 x.S x.P) with
 | some r1 => some (decide (0 < r1))
 | none => none)
theorem ev133 (x : Fix) : evC (R' := [.cell .b]) P KK T119 LOrc.none 133 [.el .fix] (x, ()) = F133 x := by kernel_rfl
def g133 : Sig := ⟨[.el .fix], [.cell .b]⟩
def T133 {R : Type} : Orc R := fun f args h k => bif Nat.beq f 133 then contract g133 (fun d => F133 d.1) args h k else T119 f args h k
def S92_3 {R : Type} (e0 : Bool → (List Int) → Option R) (e1 : (List Int) → Option R) (y1 : Int) (y3 : List Fix) (rec : Int → (List Int) → Option R) (y2 : Int) (y4 : List Int) : Option R :=
 bif decide (y2 < y1) then
  bif (decide (0 ≤ y2) && decide (y2 < (y3.length : Int))) then (match y3[(Int.toNat y2)]? with
   | some x5 => (match (F133 x5) with
    | some r6 => bif (!r6) then
      e0 false y4
     else (match (F134 x5.S x5.P) with
     | some r7 => bif Nat.ble ((y4 ++ ([r7])).length) 100000 then rec (wI (y2 + 1)) (y4 ++ ([r7]))
      else none
     | none => none)
    | none => none)
   | none => none)
  else none
 else e1 y4
def L92_3 {R : Type} (e0 : Bool → (List Int) → Option R) (e1 : (List Int) → Option R) (y1 : Int) (y3 : List Fix) : Nat → Int → (List Int) → Option R
 | 0 => fun _ _ => none
 | n + 1 => S92_3  e0 e1 y1 y3 (L92_3  e0 e1 y1 y3 n)
def ps92_3 : PSt := { live := [0, 3, 6, 7, 8], nt := 31, env := [.whole 0, .whole 1, .whole 0, .i, .i], heap := [.typ false true false 0 .fix, .typ true true false 3 .int] }
abbrev st92_3 (y1 y2 : Int) (y3 : List Fix) (y4 : List Int) : St := ⟨[.whole 0, dd, dd, .whole 1, dd, dd, .whole 0, I y1, I y2, dd, dd, dd, dd, dd, dd, dd, dd, dd, dd, dd, dd, dd, dd, dd, dd, dd, dd, dd, dd, dd, dd], [some ⟨false, true, false, 0, .typ .fix y3⟩, some ⟨true, true, false, 3, .typ .int y4⟩]⟩
abbrev sx92_3_0 (z0 : Bool) (z1 : List Fix) (z2 : List Int) : St := ⟨[.whole 0, dd, .bool z0, .whole 1, dd, dd, dd, dd, dd, dd, dd, dd, dd, dd, dd, dd, dd, dd, dd, dd, dd, dd, dd, dd, dd, dd, dd, dd, dd, dd, dd], [some ⟨false, true, false, 0, .typ .fix z1⟩, some ⟨true, true, false, 3, .typ .int z2⟩]⟩
abbrev sx92_3_1 (z0 : List Fix) (z1 : List Int) : St := ⟨[.whole 0, dd, dd, .whole 1, dd, dd, dd, dd, dd, dd, dd, dd, dd, dd, dd, dd, dd, dd, dd, dd, dd, dd, dd, dd, dd, dd, dd, dd, dd, dd, dd], [some ⟨false, true, false, 0, .typ .fix z0⟩, some ⟨true, true, false, 3, .typ .int z1⟩]⟩
theorem ly92_3 (y1 y2 : Int) (y3 : List Fix) (y4 : List Int) : layS ps92_3 (y1, y2, y3, y4, ()) = st92_3 y1 y2 y3 y4 := by kernel_rfl
abbrev E92_3_0 {R : Type} (k : Ex → St → Option R) (y3 : List Fix) (z0 : Bool) (z2 : List Int) : Option R := k .ret (sx92_3_0 z0 y3 z2)
abbrev E92_3_1 {R : Type} (k : Ex → St → Option R) (y3 : List Fix) (z1 : List Int) : Option R := k (.exit 0) (sx92_3_1 y3 z1)
noncomputable abbrev J92_3 {R : Type} (n : Nat) (y1 : Int) (y3 : List Fix) (y2 : Int) (y4 : List Int) (k : Ex → St → Option R) : Option R :=
 iter (ev P KK T133 LOrc.none 300 92 (loopOf P 92 3)) (headL P KK (KK.ann 92 3) 1) (gcL (KK.ann 92 3).out 1) n (st92_3 y1 y2 y3 y4) k
theorem k92_3 {R : Type} (n : Nat) (y1 : Int) (y3 : List Fix) (y2 : Int) (y4 : List Int) (k : Ex → St → Option R) : J92_3  (n + 1) y1 y3 y2 y4 k = S92_3  (E92_3_0 k y3) (E92_3_1 k y3) y1 y3 (fun y2 y4 => J92_3  n y1 y3 y2 y4 k) y2 y4 := by kernel_rfl
theorem it92_3 {R : Type} (y1 : Int) (y3 : List Fix) (k : Ex → St → Option R) : ∀ (n : Nat) (y2 : Int) (y4 : List Int), J92_3  n y1 y3 y2 y4 k = L92_3  (E92_3_0 k y3) (E92_3_1 k y3) y1 y3 n y2 y4 := by
 intro n
 induction n with
 | zero => intros; rfl
 | succ n ih =>
  intro y2 y4
  rw [k92_3, show (fun y2 y4 => J92_3  n y1 y3 y2 y4 k) = L92_3  (E92_3_0 k y3) (E92_3_1 k y3) y1 y3 n from by funext y2 y4; exact ih y2 y4]
  rfl
def lb92_3 {R : Type} (lf : Nat) (d : ps92_3.D) (k : Ex → St → Option R) : Option R := match d with
 | (y1, y2, y3, y4, ()) => L92_3  (E92_3_0 k y3) (E92_3_1 k y3) y1 y3 lf y2 y4
def lt92_3 {R : Type} (lf : Nat) : LOrc R := fun f id n0 st k => bif Nat.beq f 92 && (Nat.beq id 3 && Nat.beq n0 1) then readS ps92_3 st fun d => lb92_3 lf d k else LOrc.none f id n0 st k
def F92 (lf : Nat) (l : List Fix) : Option (Bool) :=
 L92_3 (fun z8 z9 => some z8) (fun z10 => bif decide ((l.length : Int) ≤ 4) then
    (match (F135 z10) with
    | some r11 => some r11
    | none => none)
   else some false) (l.length : Int) l lf 0 ([])
theorem ev92 (lf : Nat) (l : List Fix) : evC (R' := [.cell .b]) P KK T133 (lt92_3 lf) 92 [.cell (.sl .fix)] (l, ()) = F92 lf l := by kernel_rfl
def g92 : Sig := ⟨[.cell (.sl .fix)], [.cell .b]⟩
def T92 {R : Type} : Orc R := fun f args h k => bif Nat.beq f 92 then contract g92 (fun d => F92 fuel d.1) args h k else T133 f args h k
def F138 (x : Fix) (n : Int) : Option (Int) :=
 (match (F133 x) with
 | some r1 => bif (!r1) then
   some 0
  else bif decide (n < 0) then
   some 0
  else bif decide (1099511627776 < n) then
   some 0
  else bif decide (x.P = 0) then none
  else (match (F168 x.S.M x.S.K (wI (Int.tdiv n x.P))) with
  | some r2 => some (wI (x.S.C * r2))
  | none => none)
 | none => none)
theorem ev138 (x : Fix) (n : Int) : evC (R' := [.cell .i]) P KK T92 LOrc.none 138 [.el .fix, .cell .i] (x, n, ()) = F138 x n := by kernel_rfl
def g138 : Sig := ⟨[.el .fix, .cell .i], [.cell .i]⟩
def T138 {R : Type} : Orc R := fun f args h k => bif Nat.beq f 138 then contract g138 (fun d => F138 d.1 d.2.1) args h k else T92 f args h k
def S95_5 {R : Type} (e0 : Int → Option R) (y1 y3 : Int) (y5 : List Fix) (rec : Int → Int → Option R) (y2 y4 : Int) : Option R :=
 bif decide (y4 < y3) then
  bif (decide (0 ≤ y4) && decide (y4 < (y5.length : Int))) then (match y5[(Int.toNat y4)]? with
   | some x6 => (match (F138 x6 y1) with
    | some r7 => rec (wI (y2 + r7)) (wI (y4 + 1))
    | none => none)
   | none => none)
  else none
 else e0 y2
def L95_5 {R : Type} (e0 : Int → Option R) (y1 y3 : Int) (y5 : List Fix) : Nat → Int → Int → Option R
 | 0 => fun _ _ => none
 | n + 1 => S95_5  e0 y1 y3 y5 (L95_5  e0 y1 y3 y5 n)
def ps95_5 : PSt := { live := [1, 5, 12, 13, 14], nt := 25, env := [.i, .i, .whole 0, .i, .i], heap := [.typ false true false 0 .fix] }
abbrev st95_5 (y1 y2 y3 y4 : Int) (y5 : List Fix) : St := ⟨[dd, I y1, dd, dd, dd, I y2, dd, dd, dd, dd, dd, dd, .whole 0, I y3, I y4, dd, dd, dd, dd, dd, dd, dd, dd, dd, dd], [some ⟨false, true, false, 0, .typ .fix y5⟩]⟩
abbrev sx95_5_0 (z0 : Int) (z1 : List Fix) : St := ⟨[dd, dd, dd, dd, dd, I z0, dd, dd, dd, dd, dd, dd, dd, dd, dd, dd, dd, dd, dd, dd, dd, dd, dd, dd, dd], [some ⟨false, true, false, 0, .typ .fix z1⟩]⟩
theorem ly95_5 (y1 y2 y3 y4 : Int) (y5 : List Fix) : layS ps95_5 (y1, y2, y3, y4, y5, ()) = st95_5 y1 y2 y3 y4 y5 := by kernel_rfl
abbrev E95_5_0 {R : Type} (k : Ex → St → Option R) (y5 : List Fix) (z0 : Int) : Option R := k (.exit 0) (sx95_5_0 z0 y5)
noncomputable abbrev J95_5 {R : Type} (n : Nat) (y1 y3 : Int) (y5 : List Fix) (y2 y4 : Int) (k : Ex → St → Option R) : Option R :=
 iter (ev P KK T138 LOrc.none 300 95 (loopOf P 95 5)) (headL P KK (KK.ann 95 5) 1) (gcL (KK.ann 95 5).out 1) n (st95_5 y1 y2 y3 y4 y5) k
theorem k95_5 {R : Type} (n : Nat) (y1 y3 : Int) (y5 : List Fix) (y2 y4 : Int) (k : Ex → St → Option R) : J95_5  (n + 1) y1 y3 y5 y2 y4 k = S95_5  (E95_5_0 k y5) y1 y3 y5 (fun y2 y4 => J95_5  n y1 y3 y5 y2 y4 k) y2 y4 := by kernel_rfl
theorem it95_5 {R : Type} (y1 y3 : Int) (y5 : List Fix) (k : Ex → St → Option R) : ∀ (n : Nat) (y2 y4 : Int), J95_5  n y1 y3 y5 y2 y4 k = L95_5  (E95_5_0 k y5) y1 y3 y5 n y2 y4 := by
 intro n
 induction n with
 | zero => intros; rfl
 | succ n ih =>
  intro y2 y4
  rw [k95_5, show (fun y2 y4 => J95_5  n y1 y3 y5 y2 y4 k) = L95_5  (E95_5_0 k y5) y1 y3 y5 n from by funext y2 y4; exact ih y2 y4]
  rfl
def lb95_5 {R : Type} (lf : Nat) (d : ps95_5.D) (k : Ex → St → Option R) : Option R := match d with
 | (y1, y2, y3, y4, y5, ()) => L95_5  (E95_5_0 k y5) y1 y3 y5 lf y2 y4
def lt95_5 {R : Type} (lf : Nat) : LOrc R := fun f id n0 st k => bif Nat.beq f 95 && (Nat.beq id 5 && Nat.beq n0 1) then readS ps95_5 st fun d => lb95_5 lf d k else LOrc.none f id n0 st k
def F95 (lf : Nat) (l : List Fix) (n : Int) : Option (Int) :=
 bif decide (1000 < (l.length : Int)) then
  some 0
 else L95_5 (fun z8 => some z8) n (l.length : Int) l lf 0 0
theorem ev95 (lf : Nat) (l : List Fix) (n : Int) : evC (R' := [.cell .i]) P KK T138 (lt95_5 lf) 95 [.cell (.sl .fix), .cell .i] (l, n, ()) = F95 lf l n := by kernel_rfl
def g95 : Sig := ⟨[.cell (.sl .fix), .cell .i], [.cell .i]⟩
def T95 {R : Type} : Orc R := fun f args h k => bif Nat.beq f 95 then contract g95 (fun d => F95 fuel d.1 d.2.1) args h k else T138 f args h k
def S94_5 {R : Type} (e0 : Int → Option R) (y3 : Int) (y5 : List Fix) (rec : Int → Int → Option R) (y2 y4 : Int) : Option R :=
 bif decide (y4 < y3) then
  bif (decide (0 ≤ y4) && decide (y4 < (y5.length : Int))) then (match y5[(Int.toNat y4)]? with
   | some x6 => rec (wI (y2 + x6.S.C)) (wI (y4 + 1))
   | none => none)
  else none
 else e0 y2
def L94_5 {R : Type} (e0 : Int → Option R) (y3 : Int) (y5 : List Fix) : Nat → Int → Int → Option R
 | 0 => fun _ _ => none
 | n + 1 => S94_5  e0 y3 y5 (L94_5  e0 y3 y5 n)
def ps94_5 : PSt := { live := [3, 11, 12, 13], nt := 30, env := [.i, .whole 0, .i, .i], heap := [.typ false true false 0 .fix] }
abbrev st94_5 (y2 y3 y4 : Int) (y5 : List Fix) : St := ⟨[dd, dd, dd, I y2, dd, dd, dd, dd, dd, dd, dd, .whole 0, I y3, I y4, dd, dd, dd, dd, dd, dd, dd, dd, dd, dd, dd, dd, dd, dd, dd, dd], [some ⟨false, true, false, 0, .typ .fix y5⟩]⟩
abbrev sx94_5_0 (z0 : Int) (z1 : List Fix) : St := ⟨[dd, dd, dd, I z0, dd, dd, dd, dd, dd, dd, dd, dd, dd, dd, dd, dd, dd, dd, dd, dd, dd, dd, dd, dd, dd, dd, dd, dd, dd, dd], [some ⟨false, true, false, 0, .typ .fix z1⟩]⟩
theorem ly94_5 (y2 y3 y4 : Int) (y5 : List Fix) : layS ps94_5 (y2, y3, y4, y5, ()) = st94_5 y2 y3 y4 y5 := by kernel_rfl
abbrev E94_5_0 {R : Type} (k : Ex → St → Option R) (y5 : List Fix) (z0 : Int) : Option R := k (.exit 0) (sx94_5_0 z0 y5)
noncomputable abbrev J94_5 {R : Type} (n : Nat) (y3 : Int) (y5 : List Fix) (y2 y4 : Int) (k : Ex → St → Option R) : Option R :=
 iter (ev P KK T95 LOrc.none 300 94 (loopOf P 94 5)) (headL P KK (KK.ann 94 5) 1) (gcL (KK.ann 94 5).out 1) n (st94_5 y2 y3 y4 y5) k
theorem k94_5 {R : Type} (n : Nat) (y3 : Int) (y5 : List Fix) (y2 y4 : Int) (k : Ex → St → Option R) : J94_5  (n + 1) y3 y5 y2 y4 k = S94_5  (E94_5_0 k y5) y3 y5 (fun y2 y4 => J94_5  n y3 y5 y2 y4 k) y2 y4 := by kernel_rfl
theorem it94_5 {R : Type} (y3 : Int) (y5 : List Fix) (k : Ex → St → Option R) : ∀ (n : Nat) (y2 y4 : Int), J94_5  n y3 y5 y2 y4 k = L94_5  (E94_5_0 k y5) y3 y5 n y2 y4 := by
 intro n
 induction n with
 | zero => intros; rfl
 | succ n ih =>
  intro y2 y4
  rw [k94_5, show (fun y2 y4 => J94_5  n y3 y5 y2 y4 k) = L94_5  (E94_5_0 k y5) y3 y5 n from by funext y2 y4; exact ih y2 y4]
  rfl
def lb94_5 {R : Type} (lf : Nat) (d : ps94_5.D) (k : Ex → St → Option R) : Option R := match d with
 | (y2, y3, y4, y5, ()) => L94_5  (E94_5_0 k y5) y3 y5 lf y2 y4
def lt94_5 {R : Type} (lf : Nat) : LOrc R := fun f id n0 st k => bif Nat.beq f 94 && (Nat.beq id 5 && Nat.beq n0 1) then readS ps94_5 st fun d => lb94_5 lf d k else LOrc.none f id n0 st k
def F94 (lf : Nat) (l : List Fix) : Option (Int) :=
 (match (F92 fuel l) with
 | some r1 => bif (!r1) then
   some 0
  else L94_5 (fun z7 => (match (F137 (wI (z7 * 1048576)) 65536) with
    | some r8 => some r8.1
    | none => none)) (l.length : Int) l lf 0 0
 | none => none)
theorem ev94 (lf : Nat) (l : List Fix) : evC (R' := [.cell .i]) P KK T95 (lt94_5 lf) 94 [.cell (.sl .fix)] (l, ()) = F94 lf l := by kernel_rfl
def g94 : Sig := ⟨[.cell (.sl .fix)], [.cell .i]⟩
def T94 {R : Type} : Orc R := fun f args h k => bif Nat.beq f 94 then contract g94 (fun d => F94 fuel d.1) args h k else T95 f args h k
def g165 : Sig := ⟨[.agg [.i, .i, .i]], [.cell (.own .int 3)]⟩
def T165 {R : Type} : Orc R := fun f args h k => bif Nat.beq f 165 then contract g165 (fun d => stepsB d.1.1 d.1.2.1 d.1.2.2.1) args h k else T94 f args h k
def F136 (s : Spec) (p from_ upto : Int) : Option (List Int) :=
 (match (F134 s p) with
 | some r1 => bif decide (r1 = 0) then
   some ([])
  else bif decide (from_ < 0) then
   some ([])
  else bif decide (upto < from_) then
   some ([])
  else bif decide (1099511627776 < upto) then
   some ([])
  else bif decide (5000 < (wI (upto - from_))) then
   some ([])
  else (match (stepsB (wI (from_ + p)) p upto) with
  | some r2 => some r2
  | none => none)
 | none => none)
theorem ev136 (s : Spec) (p from_ upto : Int) : evC (R' := [.cell (.own .int 3)]) P KK T165 LOrc.none 136 [.el .spec, .cell .i, .cell .i, .cell .i] (s, p, from_, upto, ()) = F136 s p from_ upto := by kernel_rfl
def g136 : Sig := ⟨[.el .spec, .cell .i, .cell .i, .cell .i], [.cell (.own .int 3)]⟩
def T136 {R : Type} : Orc R := fun f args h k => bif Nat.beq f 136 then contract g136 (fun d => F136 d.1 d.2.1 d.2.2.1 d.2.2.2.1) args h k else T165 f args h k
def S93_3 {R : Type} (e0 : Int → Option R) (y1 y3 : Int) (y5 : List Fix) (rec : Int → Int → Option R) (y2 y4 : Int) : Option R :=
 bif decide (y4 < y3) then
  bif (decide (0 ≤ y4) && decide (y4 < (y5.length : Int))) then (match y5[(Int.toNat y4)]? with
   | some x6 => (match (F136 x6.S x6.P 0 (wI (y1 - 1))) with
    | some r7 => bif decide (0 < (r7.length : Int)) then
      bif (decide (0 ≤ (wI ((r7.length : Int) - 1))) && decide ((wI ((r7.length : Int) - 1)) < (r7.length : Int))) then (match r7[(Int.toNat (wI ((r7.length : Int) - 1)))]? with
       | some x8 => rec (max y2 x8) (wI (y4 + 1))
       | none => none)
      else none
     else rec y2 (wI (y4 + 1))
    | none => none)
   | none => none)
  else none
 else e0 y2
def L93_3 {R : Type} (e0 : Int → Option R) (y1 y3 : Int) (y5 : List Fix) : Nat → Int → Int → Option R
 | 0 => fun _ _ => none
 | n + 1 => S93_3  e0 y1 y3 y5 (L93_3  e0 y1 y3 y5 n)
def ps93_3 : PSt := { live := [1, 5, 9, 10, 11], nt := 35, env := [.i, .i, .whole 0, .i, .i], heap := [.typ false true false 0 .fix] }
abbrev st93_3 (y1 y2 y3 y4 : Int) (y5 : List Fix) : St := ⟨[dd, I y1, dd, dd, dd, I y2, dd, dd, dd, .whole 0, I y3, I y4, dd, dd, dd, dd, dd, dd, dd, dd, dd, dd, dd, dd, dd, dd, dd, dd, dd, dd, dd, dd, dd, dd, dd], [some ⟨false, true, false, 0, .typ .fix y5⟩]⟩
abbrev sx93_3_0 (z0 : Int) (z1 : List Fix) : St := ⟨[dd, dd, dd, dd, dd, I z0, dd, dd, dd, dd, dd, dd, dd, dd, dd, dd, dd, dd, dd, dd, dd, dd, dd, dd, dd, dd, dd, dd, dd, dd, dd, dd, dd, dd, dd], [some ⟨false, true, false, 0, .typ .fix z1⟩]⟩
theorem ly93_3 (y1 y2 y3 y4 : Int) (y5 : List Fix) : layS ps93_3 (y1, y2, y3, y4, y5, ()) = st93_3 y1 y2 y3 y4 y5 := by kernel_rfl
abbrev E93_3_0 {R : Type} (k : Ex → St → Option R) (y5 : List Fix) (z0 : Int) : Option R := k (.exit 0) (sx93_3_0 z0 y5)
noncomputable abbrev J93_3 {R : Type} (n : Nat) (y1 y3 : Int) (y5 : List Fix) (y2 y4 : Int) (k : Ex → St → Option R) : Option R :=
 iter (ev P KK T136 LOrc.none 300 93 (loopOf P 93 3)) (headL P KK (KK.ann 93 3) 1) (gcL (KK.ann 93 3).out 1) n (st93_3 y1 y2 y3 y4 y5) k
theorem k93_3 {R : Type} (n : Nat) (y1 y3 : Int) (y5 : List Fix) (y2 y4 : Int) (k : Ex → St → Option R) : J93_3  (n + 1) y1 y3 y5 y2 y4 k = S93_3  (E93_3_0 k y5) y1 y3 y5 (fun y2 y4 => J93_3  n y1 y3 y5 y2 y4 k) y2 y4 := by kernel_rfl
theorem it93_3 {R : Type} (y1 y3 : Int) (y5 : List Fix) (k : Ex → St → Option R) : ∀ (n : Nat) (y2 y4 : Int), J93_3  n y1 y3 y5 y2 y4 k = L93_3  (E93_3_0 k y5) y1 y3 y5 n y2 y4 := by
 intro n
 induction n with
 | zero => intros; rfl
 | succ n ih =>
  intro y2 y4
  rw [k93_3, show (fun y2 y4 => J93_3  n y1 y3 y5 y2 y4 k) = L93_3  (E93_3_0 k y5) y1 y3 y5 n from by funext y2 y4; exact ih y2 y4]
  rfl
def lb93_3 {R : Type} (lf : Nat) (d : ps93_3.D) (k : Ex → St → Option R) : Option R := match d with
 | (y1, y2, y3, y4, y5, ()) => L93_3  (E93_3_0 k y5) y1 y3 y5 lf y2 y4
def lt93_3 {R : Type} (lf : Nat) : LOrc R := fun f id n0 st k => bif Nat.beq f 93 && (Nat.beq id 3 && Nat.beq n0 1) then readS ps93_3 st fun d => lb93_3 lf d k else LOrc.none f id n0 st k
def F93 (lf : Nat) (l : List Fix) (n : Int) : Option (Int) :=
 L93_3 (fun z9 => some z9) n (l.length : Int) l lf 0 0
theorem ev93 (lf : Nat) (l : List Fix) (n : Int) : evC (R' := [.cell .i]) P KK T136 (lt93_3 lf) 93 [.cell (.sl .fix), .cell .i] (l, n, ()) = F93 lf l n := by kernel_rfl
def g93 : Sig := ⟨[.cell (.sl .fix), .cell .i], [.cell .i]⟩
def T93 {R : Type} : Orc R := fun f args h k => bif Nat.beq f 93 then contract g93 (fun d => F93 fuel d.1 d.2.1) args h k else T136 f args h k
def S58_4 {R : Type} (e0 : Bool → Option R) (y7 : List Fix) (rec : Int → Option R) (y6 : Int) : Option R :=
 bif decide (y6 = 0) then
  e0 true
 else (match (F95 fuel y7 y6) with
 | some r8 => bif decide (y6 < r8) then
   e0 false
  else bif decide (r8 < y6) then
   bif decide (0 < r8) then
    (match (F93 fuel y7 (wI (r8 + 1))) with
    | some r9 => rec r9
    | none => none)
   else bif decide (r8 = y6) then
    (match (F93 fuel y7 y6) with
    | some r10 => rec r10
    | none => none)
   else e0 true
  else bif decide (r8 = y6) then
   (match (F93 fuel y7 y6) with
   | some r11 => rec r11
   | none => none)
  else e0 true
 | none => none)
def L58_4 {R : Type} (e0 : Bool → Option R) (y7 : List Fix) : Nat → Int → Option R
 | 0 => fun _ => none
 | n + 1 => S58_4  e0 y7 (L58_4  e0 y7 n)
def ps58_4 : PSt := { live := [0, 3], nt := 40, env := [.whole 0, .i], heap := [.typ false true false 0 .fix] }
abbrev st58_4 (y6 : Int) (y7 : List Fix) : St := ⟨[.whole 0, dd, dd, I y6, dd, dd, dd, dd, dd, dd, dd, dd, dd, dd, dd, dd, dd, dd, dd, dd, dd, dd, dd, dd, dd, dd, dd, dd, dd, dd, dd, dd, dd, dd, dd, dd, dd, dd, dd, dd], [some ⟨false, true, false, 0, .typ .fix y7⟩]⟩
abbrev sx58_4_0 (z0 : Bool) (z1 : List Fix) : St := ⟨[dd, dd, .bool z0, dd, dd, dd, dd, dd, dd, dd, dd, dd, dd, dd, dd, dd, dd, dd, dd, dd, dd, dd, dd, dd, dd, dd, dd, dd, dd, dd, dd, dd, dd, dd, dd, dd, dd, dd, dd, dd], [some ⟨false, true, false, 0, .typ .fix z1⟩]⟩
theorem ly58_4 (y6 : Int) (y7 : List Fix) : layS ps58_4 (y6, y7, ()) = st58_4 y6 y7 := by kernel_rfl
abbrev E58_4_0 {R : Type} (k : Ex → St → Option R) (y7 : List Fix) (z0 : Bool) : Option R := k .ret (sx58_4_0 z0 y7)
noncomputable abbrev J58_4 {R : Type} (n : Nat) (y7 : List Fix) (y6 : Int) (k : Ex → St → Option R) : Option R :=
 iterJ 0 (ev P KK T93 LOrc.none 300 58 (loopOf P 58 4)) (headL P KK (KK.ann 58 4) 1) (gcL (KK.ann 58 4).out 1) n (st58_4 y6 y7) k
theorem k58_4 {R : Type} (n : Nat) (y7 : List Fix) (y6 : Int) (k : Ex → St → Option R) : J58_4  (n + 1) y7 y6 k = S58_4  (E58_4_0 k y7) y7 (fun y6 => J58_4  n y7 y6 k) y6 := by kernel_rfl
theorem it58_4 {R : Type} (y7 : List Fix) (k : Ex → St → Option R) : ∀ (n : Nat) (y6 : Int), J58_4  n y7 y6 k = L58_4  (E58_4_0 k y7) y7 n y6 := by
 intro n
 induction n with
 | zero => intros; rfl
 | succ n ih =>
  intro y6
  rw [k58_4, show (fun y6 => J58_4  n y7 y6 k) = L58_4  (E58_4_0 k y7) y7 n from by funext y6; exact ih y6]
  rfl
def lb58_4 {R : Type} (lf : Nat) (d : ps58_4.D) (k : Ex → St → Option R) : Option R := match d with
 | (y6, y7, ()) => L58_4  (E58_4_0 k y7) y7 lf y6
def lt58_4 {R : Type} (lf : Nat) : LOrc R := fun f id n0 st k => bif Nat.beq f 58 && (Nat.beq id 4 && Nat.beq n0 1) then readS ps58_4 st fun d => lb58_4 lf d k else LOrc.none f id n0 st k
def F58 (lf : Nat) (l : List Fix) : Option (Bool) :=
 (match (F92 fuel l) with
 | some r1 => bif (!r1) then
   some false
  else (match (F94 fuel l) with
  | some r2 => (match (F93 fuel l r2) with
   | some r3 => bif decide (r3 = 0) then
     some true
    else (match (F95 fuel l r3) with
    | some r4 => bif decide (r3 < r4) then
      some false
     else bif decide (r4 < r3) then
      bif decide (0 < r4) then
       (match (F93 fuel l (wI (r4 + 1))) with
       | some r5 => L58_4 (fun z12 => some z12) l lf r5
       | none => none)
      else bif decide (r4 = r3) then
       (match (F93 fuel l r3) with
       | some r13 => L58_4 (fun z14 => some z14) l lf r13
       | none => none)
      else some true
     else bif decide (r4 = r3) then
      (match (F93 fuel l r3) with
      | some r15 => L58_4 (fun z16 => some z16) l lf r15
      | none => none)
     else some true
    | none => none)
   | none => none)
  | none => none)
 | none => none)
theorem ev58 (lf : Nat) (l : List Fix) : evC (R' := [.cell .b]) P KK T93 (lt58_4 lf) 58 [.cell (.sl .fix)] (l, ()) = F58 lf l := by kernel_rfl
def g58 : Sig := ⟨[.cell (.sl .fix)], [.cell .b]⟩
def T58 {R : Type} : Orc R := fun f args h k => bif Nat.beq f 58 then contract g58 (fun d => F58 fuel d.1) args h k else T93 f args h k
def K121 {R : Type} (kk : Bool → R) (n low high : Int) : R :=
 bif decide (low ≤ n) then
  kk (decide (n ≤ high))
 else kk false
def F121 (n low high : Int) : Bool := K121 (fun r => r) n low high
theorem ev121 (n low high : Int) : evC (R' := [.cell .b]) P KK T58 LOrc.none 121 [.cell .i, .cell .i, .cell .i] (n, low, high, ()) = some (F121 n low high) := by
 rw [show evC (R' := [.cell .b]) P KK T58 LOrc.none 121 [.cell .i, .cell .i, .cell .i] (n, low, high, ()) = K121 some n low high from by kernel_rfl]
 simp only [F121, K121, some_cond]
 try rfl
def g121 : Sig := ⟨[.cell .i, .cell .i, .cell .i], [.cell .b]⟩
def T121 {R : Type} : Orc R := fun f args h k => bif Nat.beq f 121 then contract g121 (fun d => some (F121 d.1 d.2.1 d.2.2.1)) args h k else T58 f args h k
def K120 {R : Type} (kk : Bool → R) (a : Ape) : R :=
 bif (F121 a.ID 0 549755813888) then
  bif (F121 a.Due 1 1099511627776) then
   bif (F121 a.C 1 40) then
    bif (F121 a.V 1 1000) then
     kk (F121 a.Ran 0 (wI (a.C - 1)))
    else kk false
   else kk false
  else kk false
 else kk false
def F120 (a : Ape) : Bool := K120 (fun r => r) a
theorem ev120 (a : Ape) : evC (R' := [.cell .b]) P KK T121 LOrc.none 120 [.el .ape] (a, ()) = some (F120 a) := by
 rw [show evC (R' := [.cell .b]) P KK T121 LOrc.none 120 [.el .ape] (a, ()) = K120 some a from by kernel_rfl]
 simp only [F120, K120, some_cond]
 try rfl
def g120 : Sig := ⟨[.el .ape], [.cell .b]⟩
def T120 {R : Type} : Orc R := fun f args h k => bif Nat.beq f 120 then contract g120 (fun d => some (F120 d.1)) args h k else T121 f args h k
def S84_3 {R : Type} (e0 : Bool → (List (Int × Ape)) → Option R) (e1 : (List (Int × Ape)) → Option R) (y1 y2 : Int) (y4 : List Ape) (rec : Int → (List (Int × Ape)) → Option R) (y3 : Int) (y5 : List (Int × Ape)) : Option R :=
 bif decide (y3 < y2) then
  bif (decide (0 ≤ y3) && decide (y3 < (y4.length : Int))) then (match y4[(Int.toNat y3)]? with
   | some x6 => bif (!(F120 x6)) then
     e0 false (putM y5 x6.ID x6)
    else rec (wI (y3 + 1)) (putM y5 x6.ID x6)
   | none => none)
  else none
 else e1 y5
def L84_3 {R : Type} (e0 : Bool → (List (Int × Ape)) → Option R) (e1 : (List (Int × Ape)) → Option R) (y1 y2 : Int) (y4 : List Ape) : Nat → Int → (List (Int × Ape)) → Option R
 | 0 => fun _ _ => none
 | n + 1 => S84_3  e0 e1 y1 y2 y4 (L84_3  e0 e1 y1 y2 y4 n)
def ps84_3 : PSt := { live := [0, 1, 5, 9, 10, 11], nt := 37, env := [.whole 0, .i, .mapv 1, .whole 0, .i, .i], heap := [.typ false true false 0 .ape, .mp true true .ape] }
abbrev st84_3 (y1 y2 y3 : Int) (y4 : List Ape) (y5 : List (Int × Ape)) : St := ⟨[.whole 0, I y1, dd, dd, dd, .mapv 1, dd, dd, dd, .whole 0, I y2, I y3, dd, dd, dd, dd, dd, dd, dd, dd, dd, dd, dd, dd, dd, dd, dd, dd, dd, dd, dd, dd, dd, dd, dd, dd, dd], [some ⟨false, true, false, 0, .typ .ape y4⟩, some ⟨true, false, true, 0, .mp .ape y5⟩]⟩
abbrev sx84_3_0 (z0 : Int) (z1 : Bool) (z2 : List Ape) (z3 : List (Int × Ape)) : St := ⟨[.whole 0, I z0, dd, dd, .bool z1, .mapv 1, dd, dd, dd, dd, dd, dd, dd, dd, dd, dd, dd, dd, dd, dd, dd, dd, dd, dd, dd, dd, dd, dd, dd, dd, dd, dd, dd, dd, dd, dd, dd], [some ⟨false, true, false, 0, .typ .ape z2⟩, some ⟨true, false, true, 0, .mp .ape z3⟩]⟩
abbrev sx84_3_1 (z0 : Int) (z1 : List Ape) (z2 : List (Int × Ape)) : St := ⟨[.whole 0, I z0, dd, dd, dd, .mapv 1, dd, dd, dd, dd, dd, dd, dd, dd, dd, dd, dd, dd, dd, dd, dd, dd, dd, dd, dd, dd, dd, dd, dd, dd, dd, dd, dd, dd, dd, dd, dd], [some ⟨false, true, false, 0, .typ .ape z1⟩, some ⟨true, false, true, 0, .mp .ape z2⟩]⟩
theorem ly84_3 (y1 y2 y3 : Int) (y4 : List Ape) (y5 : List (Int × Ape)) : layS ps84_3 (y1, y2, y3, y4, y5, ()) = st84_3 y1 y2 y3 y4 y5 := by kernel_rfl
abbrev E84_3_0 {R : Type} (k : Ex → St → Option R) (y1 : Int) (y4 : List Ape) (z1 : Bool) (z3 : List (Int × Ape)) : Option R := k .ret (sx84_3_0 y1 z1 y4 z3)
abbrev E84_3_1 {R : Type} (k : Ex → St → Option R) (y1 : Int) (y4 : List Ape) (z2 : List (Int × Ape)) : Option R := k (.exit 0) (sx84_3_1 y1 y4 z2)
noncomputable abbrev J84_3 {R : Type} (n : Nat) (y1 y2 : Int) (y4 : List Ape) (y3 : Int) (y5 : List (Int × Ape)) (k : Ex → St → Option R) : Option R :=
 iter (ev P KK T120 LOrc.none 300 84 (loopOf P 84 3)) (headL P KK (KK.ann 84 3) 2) (gcL (KK.ann 84 3).out 2) n (st84_3 y1 y2 y3 y4 y5) k
theorem k84_3 {R : Type} (n : Nat) (y1 y2 : Int) (y4 : List Ape) (y3 : Int) (y5 : List (Int × Ape)) (k : Ex → St → Option R) : J84_3  (n + 1) y1 y2 y4 y3 y5 k = S84_3  (E84_3_0 k y1 y4) (E84_3_1 k y1 y4) y1 y2 y4 (fun y3 y5 => J84_3  n y1 y2 y4 y3 y5 k) y3 y5 := by kernel_rfl
theorem it84_3 {R : Type} (y1 y2 : Int) (y4 : List Ape) (k : Ex → St → Option R) : ∀ (n : Nat) (y3 : Int) (y5 : List (Int × Ape)), J84_3  n y1 y2 y4 y3 y5 k = L84_3  (E84_3_0 k y1 y4) (E84_3_1 k y1 y4) y1 y2 y4 n y3 y5 := by
 intro n
 induction n with
 | zero => intros; rfl
 | succ n ih =>
  intro y3 y5
  rw [k84_3, show (fun y3 y5 => J84_3  n y1 y2 y4 y3 y5 k) = L84_3  (E84_3_0 k y1 y4) (E84_3_1 k y1 y4) y1 y2 y4 n from by funext y3 y5; exact ih y3 y5]
  rfl
def lb84_3 {R : Type} (lf : Nat) (d : ps84_3.D) (k : Ex → St → Option R) : Option R := match d with
 | (y1, y2, y3, y4, y5, ()) => L84_3  (E84_3_0 k y1 y4) (E84_3_1 k y1 y4) y1 y2 y4 lf y3 y5
def lt84_3 {R : Type} (lf : Nat) : LOrc R := fun f id n0 st k => bif Nat.beq f 84 && (Nat.beq id 3 && Nat.beq n0 2) then readS ps84_3 st fun d => lb84_3 lf d k else LOrc.none f id n0 st k
def F84 (lf : Nat) (l : List Ape) (now : Int) : Option (Bool) :=
 L84_3 (fun z7 z8 => some z7) (fun z9 => bif decide ((z9.length : Int) = (l.length : Int)) then
    bif decide ((l.length : Int) ≤ 4) then
     some (F121 now 0 549755813888)
    else some false
   else some false) now (l.length : Int) l lf 0 ([])
theorem ev84 (lf : Nat) (l : List Ape) (now : Int) : evC (R' := [.cell .b]) P KK T120 (lt84_3 lf) 84 [.cell (.sl .ape), .cell .i] (l, now, ()) = F84 lf l now := by kernel_rfl
def g84 : Sig := ⟨[.cell (.sl .ape), .cell .i], [.cell .b]⟩
def T84 {R : Type} : Orc R := fun f args h k => bif Nat.beq f 84 then contract g84 (fun d => F84 fuel d.1 d.2.1) args h k else T120 f args h k
def F183 (a : Ape) : Int :=
 (wI (a.C - a.Ran))
theorem ev183 (a : Ape) : evC (R' := [.cell .i]) P KK T84 LOrc.none 183 [.el .ape] (a, ()) = some (F183 a) := by kernel_rfl
def g183 : Sig := ⟨[.el .ape], [.cell .i]⟩
def T183 {R : Type} : Orc R := fun f args h k => bif Nat.beq f 183 then contract g183 (fun d => some (F183 d.1)) args h k else T84 f args h k
def F151 (a : Ape) (now : Int) : Int :=
 (wI ((wI (a.Due - now)) - (F183 a)))
theorem ev151 (a : Ape) (now : Int) : evC (R' := [.cell .i]) P KK T183 LOrc.none 151 [.el .ape, .cell .i] (a, now, ()) = some (F151 a now) := by kernel_rfl
def g151 : Sig := ⟨[.el .ape, .cell .i], [.cell .i]⟩
def T151 {R : Type} : Orc R := fun f args h k => bif Nat.beq f 151 then contract g151 (fun d => some (F151 d.1 d.2.1)) args h k else T183 f args h k
def g22 : Sig := ⟨[.cell (.sl .ape)], [.cell (.own .ape 88)]⟩
def T22 {R : Type} : Orc R := fun f args h k => bif Nat.beq f 22 then contract g22 (fun d => cloneB d.1) args h k else T151 f args h k
def K185 {R : Type} (kk : Int → R) (a b : Ape) : R :=
 bif decide (a.Due < b.Due) then
  bif (decide (a.ID = b.ID) && (decide (a.Due = b.Due) && (decide (a.C = b.C) && (decide (a.V = b.V) && (decide (a.Ran = b.Ran) && true))))) then
   kk 0
  else kk (-1)
 else bif decide (a.Due = b.Due) then
  bif (decide (a.ID = b.ID) && (decide (a.Due = b.Due) && (decide (a.C = b.C) && (decide (a.V = b.V) && (decide (a.Ran = b.Ran) && true))))) then
   kk 0
  else bif (!(decide (a.ID < b.ID))) then
   bif decide (a.Due = b.Due) then
    bif decide (a.ID = b.ID) then
     kk 0
    else bif decide (a.ID < b.ID) then
     kk (-1)
    else kk 1
   else bif decide (a.ID < b.ID) then
    kk (-1)
   else kk 1
  else bif decide (a.ID < b.ID) then
   kk (-1)
  else kk 1
 else bif (decide (a.ID = b.ID) && (decide (a.Due = b.Due) && (decide (a.C = b.C) && (decide (a.V = b.V) && (decide (a.Ran = b.Ran) && true))))) then
  kk 0
 else bif decide (a.Due = b.Due) then
  bif decide (a.ID = b.ID) then
   kk 0
  else kk 1
 else kk 1
def F185 (a b : Ape) : Int := K185 (fun r => r) a b
theorem ev185 (a b : Ape) : evC (R' := [.cell .i]) P KK T22 LOrc.none 185 [.el .ape, .el .ape] (a, b, ()) = some (F185 a b) := by
 rw [show evC (R' := [.cell .i]) P KK T22 LOrc.none 185 [.el .ape, .el .ape] (a, b, ()) = K185 some a b from by kernel_rfl]
 simp only [F185, K185, some_cond]
 try rfl
def g185 : Sig := ⟨[.el .ape, .el .ape], [.cell .i]⟩
def T185 {R : Type} : Orc R := fun f args h k => bif Nat.beq f 185 then contract g185 (fun d => some (F185 d.1 d.2.1)) args h k else T22 f args h k
def S154_207_4 {R : Type} (e0 : (List Ape) → Option R) (y13 y14 y15 : Int) (y17 : List Ape) (rec : Int → (List Ape) → Option R) (y16 : Int) (y18 : List Ape) : Option R :=
 bif decide (y13 < y16) then
  bif (decide (0 ≤ y16) && decide (y16 < (y18.length : Int))) then (match y18[(Int.toNat y16)]? with
   | some x19 => bif (decide (0 ≤ (wI (y16 - 1))) && decide ((wI (y16 - 1)) < (y18.length : Int))) then (match y18[(Int.toNat (wI (y16 - 1)))]? with
     | some x20 => bif decide ((F185 x19 x20) < 0) then
       bif (decide (0 ≤ (wI (y16 - 1))) && decide ((wI (y16 - 1)) < (y18.length : Int))) then (match y18[(Int.toNat (wI (y16 - 1)))]? with
        | some x21 => bif (decide (0 ≤ y16) && decide (y16 < (y18.length : Int))) then (match y18[(Int.toNat y16)]? with
          | some x22 => bif (decide (0 ≤ y16) && decide (y16 < (y18.length : Int))) then (match y18[(Int.toNat y16)]? with
            | some x23 => bif (decide (0 ≤ (wI (y16 - 1))) && decide ((wI (y16 - 1)) < ((y18.set (Int.toNat y16) x21).length : Int))) then (match (y18.set (Int.toNat y16) x21)[(Int.toNat (wI (y16 - 1)))]? with
              | some x24 => rec (wI (y16 - 1)) ((y18.set (Int.toNat y16) x21).set (Int.toNat (wI (y16 - 1))) x22)
              | none => none)
             else none
            | none => none)
           else none
          | none => none)
         else none
        | none => none)
       else none
      else e0 y18
     | none => none)
    else none
   | none => none)
  else none
 else e0 y18
def L154_207_4 {R : Type} (e0 : (List Ape) → Option R) (y13 y14 y15 : Int) (y17 : List Ape) : Nat → Int → (List Ape) → Option R
 | 0 => fun _ _ => none
 | n + 1 => S154_207_4  e0 y13 y14 y15 y17 (L154_207_4  e0 y13 y14 y15 y17 n)
def ps154_207_4 : PSt := { live := [0, 1, 2, 3, 8, 9], nt := 53, env := [.whole 1, .i, .i, .fn 185 [], .i, .i], heap := [.typ false true false 0 .ape, .typ true true false 88 .ape] }
abbrev st154_207_4 (y13 y14 y15 y16 : Int) (y17 y18 : List Ape) : St := ⟨[.whole 1, I y13, I y14, .fn (.func 185) [] [], dd, dd, dd, dd, I y15, I y16, dd, dd, dd, dd, dd, dd, dd, dd, dd, dd, dd, dd, dd, dd, dd, dd, dd, dd, dd, dd, dd, dd, dd, dd, dd, dd, dd, dd, dd, dd, dd, dd, dd, dd, dd, dd, dd, dd, dd, dd, dd, dd, dd], [some ⟨false, true, false, 0, .typ .ape y17⟩, some ⟨true, true, false, 88, .typ .ape y18⟩]⟩
abbrev sx154_207_4_0 (z0 z1 z2 : Int) (z3 z4 : List Ape) : St := ⟨[.whole 1, I z0, I z1, .fn (.func 185) [] [], dd, dd, dd, dd, I z2, dd, dd, dd, dd, dd, dd, dd, dd, dd, dd, dd, dd, dd, dd, dd, dd, dd, dd, dd, dd, dd, dd, dd, dd, dd, dd, dd, dd, dd, dd, dd, dd, dd, dd, dd, dd, dd, dd, dd, dd, dd, dd, dd, dd], [some ⟨false, true, false, 0, .typ .ape z3⟩, some ⟨true, true, false, 88, .typ .ape z4⟩]⟩
theorem ly154_207_4 (y13 y14 y15 y16 : Int) (y17 y18 : List Ape) : layS ps154_207_4 (y13, y14, y15, y16, y17, y18, ()) = st154_207_4 y13 y14 y15 y16 y17 y18 := by kernel_rfl
abbrev E154_207_4_0 {R : Type} (k : Ex → St → Option R) (y13 y14 y15 : Int) (y17 z4 : List Ape) : Option R := k (.exit 2) (sx154_207_4_0 y13 y14 y15 y17 z4)
noncomputable abbrev J154_207_4 {R : Type} (n : Nat) (y13 y14 y15 : Int) (y17 : List Ape) (y16 : Int) (y18 : List Ape) (k : Ex → St → Option R) : Option R :=
 iter (ev P KK T185 LOrc.none 300 207 (loopOf P 207 4)) (headL P KK (KK.ann 207 4) 2) (gcL (KK.ann 207 4).out 2) n (st154_207_4 y13 y14 y15 y16 y17 y18) k
theorem k154_207_4 {R : Type} (n : Nat) (y13 y14 y15 : Int) (y17 : List Ape) (y16 : Int) (y18 : List Ape) (k : Ex → St → Option R) : J154_207_4  (n + 1) y13 y14 y15 y17 y16 y18 k = S154_207_4  (E154_207_4_0 k y13 y14 y15 y17) y13 y14 y15 y17 (fun y16 y18 => J154_207_4  n y13 y14 y15 y17 y16 y18 k) y16 y18 := by kernel_rfl
theorem it154_207_4 {R : Type} (y13 y14 y15 : Int) (y17 : List Ape) (k : Ex → St → Option R) : ∀ (n : Nat) (y16 : Int) (y18 : List Ape), J154_207_4  n y13 y14 y15 y17 y16 y18 k = L154_207_4  (E154_207_4_0 k y13 y14 y15 y17) y13 y14 y15 y17 n y16 y18 := by
 intro n
 induction n with
 | zero => intros; rfl
 | succ n ih =>
  intro y16 y18
  rw [k154_207_4, show (fun y16 y18 => J154_207_4  n y13 y14 y15 y17 y16 y18 k) = L154_207_4  (E154_207_4_0 k y13 y14 y15 y17) y13 y14 y15 y17 n from by funext y16 y18; exact ih y16 y18]
  rfl
def lb154_207_4 {R : Type} (lf : Nat) (d : ps154_207_4.D) (k : Ex → St → Option R) : Option R := match d with
 | (y13, y14, y15, y16, y17, y18, ()) => L154_207_4  (E154_207_4_0 k y13 y14 y15 y17) y13 y14 y15 y17 lf y16 y18
def lt154_207_4 {R : Type} (lf : Nat) : LOrc R := fun f id n0 st k => bif Nat.beq f 207 && (Nat.beq id 4 && Nat.beq n0 2) then readS ps154_207_4 st fun d => lb154_207_4 lf d k else LOrc.none f id n0 st k
def S154_207_1 {R : Type} (lf : Nat) (e0 : (List Ape) → Option R) (y8 y9 : Int) (y11 : List Ape) (rec : Int → (List Ape) → Option R) (y10 : Int) (y12 : List Ape) : Option R :=
 bif decide (y10 < y9) then
  L154_207_4 (fun z25 => rec (wI (y10 + 1)) z25) y8 y9 y10 y11 lf y10 y12
 else e0 y12
def L154_207_1 {R : Type} (lf : Nat) (e0 : (List Ape) → Option R) (y8 y9 : Int) (y11 : List Ape) : Nat → Int → (List Ape) → Option R
 | 0 => fun _ _ => none
 | n + 1 => S154_207_1 lf  e0 y8 y9 y11 (L154_207_1 lf  e0 y8 y9 y11 n)
def ps154_207_1 : PSt := { live := [0, 1, 2, 3, 8], nt := 53, env := [.whole 1, .i, .i, .fn 185 [], .i], heap := [.typ false true false 0 .ape, .typ true true false 88 .ape] }
abbrev st154_207_1 (y8 y9 y10 : Int) (y11 y12 : List Ape) : St := ⟨[.whole 1, I y8, I y9, .fn (.func 185) [] [], dd, dd, dd, dd, I y10, dd, dd, dd, dd, dd, dd, dd, dd, dd, dd, dd, dd, dd, dd, dd, dd, dd, dd, dd, dd, dd, dd, dd, dd, dd, dd, dd, dd, dd, dd, dd, dd, dd, dd, dd, dd, dd, dd, dd, dd, dd, dd, dd, dd], [some ⟨false, true, false, 0, .typ .ape y11⟩, some ⟨true, true, false, 88, .typ .ape y12⟩]⟩
abbrev sx154_207_1_0 (z0 z1 : List Ape) : St := ⟨[dd, dd, dd, dd, dd, dd, dd, dd, dd, dd, dd, dd, dd, dd, dd, dd, dd, dd, dd, dd, dd, dd, dd, dd, dd, dd, dd, dd, dd, dd, dd, dd, dd, dd, dd, dd, dd, dd, dd, dd, dd, dd, dd, dd, dd, dd, dd, dd, dd, dd, dd, dd, dd], [some ⟨false, true, false, 0, .typ .ape z0⟩, some ⟨true, true, false, 88, .typ .ape z1⟩]⟩
theorem ly154_207_1 (y8 y9 y10 : Int) (y11 y12 : List Ape) : layS ps154_207_1 (y8, y9, y10, y11, y12, ()) = st154_207_1 y8 y9 y10 y11 y12 := by kernel_rfl
abbrev E154_207_1_0 {R : Type} (k : Ex → St → Option R) (y11 z1 : List Ape) : Option R := k (.exit 0) (sx154_207_1_0 y11 z1)
noncomputable abbrev J154_207_1 {R : Type} (lf : Nat) (n : Nat) (y8 y9 : Int) (y11 : List Ape) (y10 : Int) (y12 : List Ape) (k : Ex → St → Option R) : Option R :=
 iter (ev P KK T185 (lt154_207_4 lf) 300 207 (loopOf P 207 1)) (headL P KK (KK.ann 207 1) 2) (gcL (KK.ann 207 1).out 2) n (st154_207_1 y8 y9 y10 y11 y12) k
theorem k154_207_1 {R : Type} (lf : Nat) (n : Nat) (y8 y9 : Int) (y11 : List Ape) (y10 : Int) (y12 : List Ape) (k : Ex → St → Option R) : J154_207_1 lf  (n + 1) y8 y9 y11 y10 y12 k = S154_207_1 lf  (E154_207_1_0 k y11) y8 y9 y11 (fun y10 y12 => J154_207_1 lf  n y8 y9 y11 y10 y12 k) y10 y12 := by kernel_rfl
theorem it154_207_1 {R : Type} (lf : Nat) (y8 y9 : Int) (y11 : List Ape) (k : Ex → St → Option R) : ∀ (n : Nat) (y10 : Int) (y12 : List Ape), J154_207_1 lf  n y8 y9 y11 y10 y12 k = L154_207_1 lf  (E154_207_1_0 k y11) y8 y9 y11 n y10 y12 := by
 intro n
 induction n with
 | zero => intros; rfl
 | succ n ih =>
  intro y10 y12
  rw [k154_207_1, show (fun y10 y12 => J154_207_1 lf  n y8 y9 y11 y10 y12 k) = L154_207_1 lf  (E154_207_1_0 k y11) y8 y9 y11 n from by funext y10 y12; exact ih y10 y12]
  rfl
def lb154_207_1 {R : Type} (lf : Nat) (d : ps154_207_1.D) (k : Ex → St → Option R) : Option R := match d with
 | (y8, y9, y10, y11, y12, ()) => L154_207_1 lf  (E154_207_1_0 k y11) y8 y9 y11 lf y10 y12
def lt154_207_1 {R : Type} (lf : Nat) : LOrc R := fun f id n0 st k => bif Nat.beq f 207 && (Nat.beq id 1 && Nat.beq n0 2) then readS ps154_207_1 st fun d => lb154_207_1 lf d k else (lt154_207_4 lf) f id n0 st k
def S154_198_2 {R : Type} (lf : Nat) (e0 : Int → (List Ape) → Option R) (y2 y3 : Int) (y6 : List Ape) (rec : Int → Int → (List Ape) → Option R) (y4 y5 : Int) (y7 : List Ape) : Option R :=
 bif decide (y5 ≤ y2) then
  L154_207_1 lf (fun z26 => rec y5 (wI (y5 + y3)) z26) y4 y5 y6 lf (wI (y4 + 1)) y7
 else e0 y4 y7
def L154_198_2 {R : Type} (lf : Nat) (e0 : Int → (List Ape) → Option R) (y2 y3 : Int) (y6 : List Ape) : Nat → Int → Int → (List Ape) → Option R
 | 0 => fun _ _ _ => none
 | n + 1 => S154_198_2 lf  e0 y2 y3 y6 (L154_198_2 lf  e0 y2 y3 y6 n)
def ps154_198_2 : PSt := { live := [0, 1, 2, 6, 7, 8], nt := 63, env := [.whole 1, .i, .fn 185 [], .i, .i, .i], heap := [.typ false true false 0 .ape, .typ true true false 88 .ape] }
abbrev st154_198_2 (y2 y3 y4 y5 : Int) (y6 y7 : List Ape) : St := ⟨[.whole 1, I y2, .fn (.func 185) [] [], dd, dd, dd, I y3, I y4, I y5, dd, dd, dd, dd, dd, dd, dd, dd, dd, dd, dd, dd, dd, dd, dd, dd, dd, dd, dd, dd, dd, dd, dd, dd, dd, dd, dd, dd, dd, dd, dd, dd, dd, dd, dd, dd, dd, dd, dd, dd, dd, dd, dd, dd, dd, dd, dd, dd, dd, dd, dd, dd, dd, dd], [some ⟨false, true, false, 0, .typ .ape y6⟩, some ⟨true, true, false, 88, .typ .ape y7⟩]⟩
abbrev sx154_198_2_0 (z0 z1 z2 : Int) (z3 z4 : List Ape) : St := ⟨[.whole 1, I z0, .fn (.func 185) [] [], dd, dd, dd, I z1, I z2, dd, dd, dd, dd, dd, dd, dd, dd, dd, dd, dd, dd, dd, dd, dd, dd, dd, dd, dd, dd, dd, dd, dd, dd, dd, dd, dd, dd, dd, dd, dd, dd, dd, dd, dd, dd, dd, dd, dd, dd, dd, dd, dd, dd, dd, dd, dd, dd, dd, dd, dd, dd, dd, dd, dd], [some ⟨false, true, false, 0, .typ .ape z3⟩, some ⟨true, true, false, 88, .typ .ape z4⟩]⟩
theorem ly154_198_2 (y2 y3 y4 y5 : Int) (y6 y7 : List Ape) : layS ps154_198_2 (y2, y3, y4, y5, y6, y7, ()) = st154_198_2 y2 y3 y4 y5 y6 y7 := by kernel_rfl
abbrev E154_198_2_0 {R : Type} (k : Ex → St → Option R) (y2 y3 : Int) (y6 : List Ape) (z2 : Int) (z4 : List Ape) : Option R := k (.exit 0) (sx154_198_2_0 y2 y3 z2 y6 z4)
noncomputable abbrev J154_198_2 {R : Type} (lf : Nat) (n : Nat) (y2 y3 : Int) (y6 : List Ape) (y4 y5 : Int) (y7 : List Ape) (k : Ex → St → Option R) : Option R :=
 iter (ev P KK T185 (lt154_207_1 lf) 300 198 (loopOf P 198 2)) (headL P KK (KK.ann 198 2) 2) (gcL (KK.ann 198 2).out 2) n (st154_198_2 y2 y3 y4 y5 y6 y7) k
theorem k154_198_2 {R : Type} (lf : Nat) (n : Nat) (y2 y3 : Int) (y6 : List Ape) (y4 y5 : Int) (y7 : List Ape) (k : Ex → St → Option R) : J154_198_2 lf  (n + 1) y2 y3 y6 y4 y5 y7 k = S154_198_2 lf  (E154_198_2_0 k y2 y3 y6) y2 y3 y6 (fun y4 y5 y7 => J154_198_2 lf  n y2 y3 y6 y4 y5 y7 k) y4 y5 y7 := by kernel_rfl
theorem it154_198_2 {R : Type} (lf : Nat) (y2 y3 : Int) (y6 : List Ape) (k : Ex → St → Option R) : ∀ (n : Nat) (y4 y5 : Int) (y7 : List Ape), J154_198_2 lf  n y2 y3 y6 y4 y5 y7 k = L154_198_2 lf  (E154_198_2_0 k y2 y3 y6) y2 y3 y6 n y4 y5 y7 := by
 intro n
 induction n with
 | zero => intros; rfl
 | succ n ih =>
  intro y4 y5 y7
  rw [k154_198_2, show (fun y4 y5 y7 => J154_198_2 lf  n y2 y3 y6 y4 y5 y7 k) = L154_198_2 lf  (E154_198_2_0 k y2 y3 y6) y2 y3 y6 n from by funext y4 y5 y7; exact ih y4 y5 y7]
  rfl
def lb154_198_2 {R : Type} (lf : Nat) (d : ps154_198_2.D) (k : Ex → St → Option R) : Option R := match d with
 | (y2, y3, y4, y5, y6, y7, ()) => L154_198_2 lf  (E154_198_2_0 k y2 y3 y6) y2 y3 y6 lf y4 y5 y7
def lt154_198_2 {R : Type} (lf : Nat) : LOrc R := fun f id n0 st k => bif Nat.beq f 198 && (Nat.beq id 2 && Nat.beq n0 2) then readS ps154_198_2 st fun d => lb154_198_2 lf d k else (lt154_207_1 lf) f id n0 st k
def S154_198_9 {R : Type} (e0 : Option R) (y34 y35 y36 y37 : Int) (y38 y39 : List Ape) (rec : Option R)  : Option R :=
 bif decide (y37 ≤ y34) then none
 else e0
def L154_198_9 {R : Type} (e0 : Option R) (y34 y35 y36 y37 : Int) (y38 y39 : List Ape) : Nat → Option R
 | 0 => none
 | n + 1 => S154_198_9  e0 y34 y35 y36 y37 y38 y39 (L154_198_9  e0 y34 y35 y36 y37 y38 y39 n)
def ps154_198_9 : PSt := { live := [0, 1, 2, 6, 7, 8], nt := 63, env := [.whole 1, .i, .fn 185 [], .i, .i, .i], heap := [.typ false true false 0 .ape, .typ true true false 88 .ape] }
abbrev st154_198_9 (y34 y35 y36 y37 : Int) (y38 y39 : List Ape) : St := ⟨[.whole 1, I y34, .fn (.func 185) [] [], dd, dd, dd, I y35, I y36, I y37, dd, dd, dd, dd, dd, dd, dd, dd, dd, dd, dd, dd, dd, dd, dd, dd, dd, dd, dd, dd, dd, dd, dd, dd, dd, dd, dd, dd, dd, dd, dd, dd, dd, dd, dd, dd, dd, dd, dd, dd, dd, dd, dd, dd, dd, dd, dd, dd, dd, dd, dd, dd, dd, dd], [some ⟨false, true, false, 0, .typ .ape y38⟩, some ⟨true, true, false, 88, .typ .ape y39⟩]⟩
abbrev sx154_198_9_0 (z0 z1 z2 : Int) (z3 z4 : List Ape) : St := ⟨[.whole 1, I z0, .fn (.func 185) [] [], dd, dd, dd, I z1, I z2, dd, dd, dd, dd, dd, dd, dd, dd, dd, dd, dd, dd, dd, dd, dd, dd, dd, dd, dd, dd, dd, dd, dd, dd, dd, dd, dd, dd, dd, dd, dd, dd, dd, dd, dd, dd, dd, dd, dd, dd, dd, dd, dd, dd, dd, dd, dd, dd, dd, dd, dd, dd, dd, dd, dd], [some ⟨false, true, false, 0, .typ .ape z3⟩, some ⟨true, true, false, 88, .typ .ape z4⟩]⟩
theorem ly154_198_9 (y34 y35 y36 y37 : Int) (y38 y39 : List Ape) : layS ps154_198_9 (y34, y35, y36, y37, y38, y39, ()) = st154_198_9 y34 y35 y36 y37 y38 y39 := by kernel_rfl
abbrev E154_198_9_0 {R : Type} (k : Ex → St → Option R) (y34 y35 y36 : Int) (y38 y39 : List Ape) : Option R := k (.exit 4) (sx154_198_9_0 y34 y35 y36 y38 y39)
noncomputable abbrev J154_198_9 {R : Type} (n : Nat) (y34 y35 y36 y37 : Int) (y38 y39 : List Ape) (k : Ex → St → Option R) : Option R :=
 iter (ev P KK T185 (lt154_198_2 lf) 300 198 (loopOf P 198 9)) (headL P KK (KK.ann 198 9) 2) (gcL (KK.ann 198 9).out 2) n (st154_198_9 y34 y35 y36 y37 y38 y39) k
theorem k154_198_9 {R : Type} (n : Nat) (y34 y35 y36 y37 : Int) (y38 y39 : List Ape) (k : Ex → St → Option R) : J154_198_9  (n + 1) y34 y35 y36 y37 y38 y39 k = S154_198_9  (E154_198_9_0 k y34 y35 y36 y38 y39) y34 y35 y36 y37 y38 y39 (J154_198_9  n y34 y35 y36 y37 y38 y39 k)  := by kernel_rfl
theorem it154_198_9 {R : Type} (y34 y35 y36 y37 : Int) (y38 y39 : List Ape) (k : Ex → St → Option R) : ∀ (n : Nat) , J154_198_9  n y34 y35 y36 y37 y38 y39 k = L154_198_9  (E154_198_9_0 k y34 y35 y36 y38 y39) y34 y35 y36 y37 y38 y39 n  := by
 intro n
 induction n with
 | zero => intros; rfl
 | succ n ih =>
  skip
  rw [k154_198_9, show (J154_198_9  n y34 y35 y36 y37 y38 y39 k) = L154_198_9  (E154_198_9_0 k y34 y35 y36 y38 y39) y34 y35 y36 y37 y38 y39 n from ih]
  rfl
def lb154_198_9 {R : Type} (lf : Nat) (d : ps154_198_9.D) (k : Ex → St → Option R) : Option R := match d with
 | (y34, y35, y36, y37, y38, y39, ()) => L154_198_9  (E154_198_9_0 k y34 y35 y36 y38 y39) y34 y35 y36 y37 y38 y39 lf
def lt154_198_9 {R : Type} (lf : Nat) : LOrc R := fun f id n0 st k => bif Nat.beq f 198 && (Nat.beq id 9 && Nat.beq n0 2) then readS ps154_198_9 st fun d => lb154_198_9 lf d k else (lt154_198_2 lf) f id n0 st k
def S154_198_7 {R : Type} (lf : Nat) (e0 : Option R) (y30 : Int) (y32 y33 : List Ape) (rec : Int → Option R) (y31 : Int) : Option R :=
 bif decide (y31 < y30) then
  L154_198_9 (bif decide ((wI (0 + y31)) < y30) then none
    else rec (wI (y31 * 2))) y30 y31 0 (wI (2 * y31)) y32 y33 lf
 else e0
def L154_198_7 {R : Type} (lf : Nat) (e0 : Option R) (y30 : Int) (y32 y33 : List Ape) : Nat → Int → Option R
 | 0 => fun _ => none
 | n + 1 => S154_198_7 lf  e0 y30 y32 y33 (L154_198_7 lf  e0 y30 y32 y33 n)
def ps154_198_7 : PSt := { live := [0, 1, 2, 6], nt := 63, env := [.whole 1, .i, .fn 185 [], .i], heap := [.typ false true false 0 .ape, .typ true true false 88 .ape] }
abbrev st154_198_7 (y30 y31 : Int) (y32 y33 : List Ape) : St := ⟨[.whole 1, I y30, .fn (.func 185) [] [], dd, dd, dd, I y31, dd, dd, dd, dd, dd, dd, dd, dd, dd, dd, dd, dd, dd, dd, dd, dd, dd, dd, dd, dd, dd, dd, dd, dd, dd, dd, dd, dd, dd, dd, dd, dd, dd, dd, dd, dd, dd, dd, dd, dd, dd, dd, dd, dd, dd, dd, dd, dd, dd, dd, dd, dd, dd, dd, dd, dd], [some ⟨false, true, false, 0, .typ .ape y32⟩, some ⟨true, true, false, 88, .typ .ape y33⟩]⟩
abbrev sx154_198_7_0 (z0 z1 : List Ape) : St := ⟨[dd, dd, dd, dd, dd, dd, dd, dd, dd, dd, dd, dd, dd, dd, dd, dd, dd, dd, dd, dd, dd, dd, dd, dd, dd, dd, dd, dd, dd, dd, dd, dd, dd, dd, dd, dd, dd, dd, dd, dd, dd, dd, dd, dd, dd, dd, dd, dd, dd, dd, dd, dd, dd, dd, dd, dd, dd, dd, dd, dd, dd, dd, dd], [some ⟨false, true, false, 0, .typ .ape z0⟩, some ⟨true, true, false, 88, .typ .ape z1⟩]⟩
theorem ly154_198_7 (y30 y31 : Int) (y32 y33 : List Ape) : layS ps154_198_7 (y30, y31, y32, y33, ()) = st154_198_7 y30 y31 y32 y33 := by kernel_rfl
abbrev E154_198_7_0 {R : Type} (k : Ex → St → Option R) (y32 y33 : List Ape) : Option R := k (.exit 2) (sx154_198_7_0 y32 y33)
noncomputable abbrev J154_198_7 {R : Type} (lf : Nat) (n : Nat) (y30 : Int) (y32 y33 : List Ape) (y31 : Int) (k : Ex → St → Option R) : Option R :=
 iter (ev P KK T185 (lt154_198_9 lf) 300 198 (loopOf P 198 7)) (headL P KK (KK.ann 198 7) 2) (gcL (KK.ann 198 7).out 2) n (st154_198_7 y30 y31 y32 y33) k
theorem k154_198_7 {R : Type} (lf : Nat) (n : Nat) (y30 : Int) (y32 y33 : List Ape) (y31 : Int) (k : Ex → St → Option R) : J154_198_7 lf  (n + 1) y30 y32 y33 y31 k = S154_198_7 lf  (E154_198_7_0 k y32 y33) y30 y32 y33 (fun y31 => J154_198_7 lf  n y30 y32 y33 y31 k) y31 := by kernel_rfl
theorem it154_198_7 {R : Type} (lf : Nat) (y30 : Int) (y32 y33 : List Ape) (k : Ex → St → Option R) : ∀ (n : Nat) (y31 : Int), J154_198_7 lf  n y30 y32 y33 y31 k = L154_198_7 lf  (E154_198_7_0 k y32 y33) y30 y32 y33 n y31 := by
 intro n
 induction n with
 | zero => intros; rfl
 | succ n ih =>
  intro y31
  rw [k154_198_7, show (fun y31 => J154_198_7 lf  n y30 y32 y33 y31 k) = L154_198_7 lf  (E154_198_7_0 k y32 y33) y30 y32 y33 n from by funext y31; exact ih y31]
  rfl
def lb154_198_7 {R : Type} (lf : Nat) (d : ps154_198_7.D) (k : Ex → St → Option R) : Option R := match d with
 | (y30, y31, y32, y33, ()) => L154_198_7 lf  (E154_198_7_0 k y32 y33) y30 y32 y33 lf y31
def lt154_198_7 {R : Type} (lf : Nat) : LOrc R := fun f id n0 st k => bif Nat.beq f 198 && (Nat.beq id 7 && Nat.beq n0 2) then readS ps154_198_7 st fun d => lb154_198_7 lf d k else (lt154_198_9 lf) f id n0 st k
def F154 (lf : Nat) (l : List Ape) : Option (List Ape) :=
 (match (cloneB l) with
 | some r1 => L154_198_2 lf (fun z27 z28 => L154_207_1 lf (fun z29 => L154_198_7 lf (some z29) (r1.length : Int) l z29 lf 20) z27 (r1.length : Int) l lf (wI (z27 + 1)) z28) (r1.length : Int) 20 l lf 0 20 r1
 | none => none)
theorem ev154 (lf : Nat) (l : List Ape) : evC (R' := [.cell (.own .ape 88)]) P KK T185 (lt154_198_7 lf) 154 [.cell (.sl .ape)] (l, ()) = F154 lf l := by kernel_rfl
def g154 : Sig := ⟨[.cell (.sl .ape)], [.cell (.own .ape 88)]⟩
def T154 {R : Type} : Orc R := fun f args h k => bif Nat.beq f 154 then contract g154 (fun d => F154 fuel d.1) args h k else T185 f args h k
def S155_2 {R : Type} (e0 : Bool → Option R) (e1 : Option R) (y3 : Int) (y5 y6 : List Ape) (rec : Int → Int → Option R) (y2 y4 : Int) : Option R :=
 bif decide (y4 < y3) then
  bif (decide (0 ≤ y4) && decide (y4 < (y6.length : Int))) then (match y6[(Int.toNat y4)]? with
   | some x7 => bif decide (x7.Due < (wI (y2 + (F183 x7)))) then
     e0 false
    else rec (wI (y2 + (F183 x7))) (wI (y4 + 1))
   | none => none)
  else none
 else e1
def L155_2 {R : Type} (e0 : Bool → Option R) (e1 : Option R) (y3 : Int) (y5 y6 : List Ape) : Nat → Int → Int → Option R
 | 0 => fun _ _ => none
 | n + 1 => S155_2  e0 e1 y3 y5 y6 (L155_2  e0 e1 y3 y5 y6 n)
def ps155_2 : PSt := { live := [1, 8, 9, 10], nt := 23, env := [.i, .whole 1, .i, .i], heap := [.typ false true false 0 .ape, .typ true true false 88 .ape] }
abbrev st155_2 (y2 y3 y4 : Int) (y5 y6 : List Ape) : St := ⟨[dd, I y2, dd, dd, dd, dd, dd, dd, .whole 1, I y3, I y4, dd, dd, dd, dd, dd, dd, dd, dd, dd, dd, dd, dd], [some ⟨false, true, false, 0, .typ .ape y5⟩, some ⟨true, true, false, 88, .typ .ape y6⟩]⟩
abbrev sx155_2_0 (z0 : Bool) (z1 z2 : List Ape) : St := ⟨[dd, dd, dd, dd, .bool z0, dd, dd, dd, dd, dd, dd, dd, dd, dd, dd, dd, dd, dd, dd, dd, dd, dd, dd], [some ⟨false, true, false, 0, .typ .ape z1⟩, some ⟨true, true, false, 88, .typ .ape z2⟩]⟩
abbrev sx155_2_1 (z0 z1 : List Ape) : St := ⟨[dd, dd, dd, dd, dd, dd, dd, dd, dd, dd, dd, dd, dd, dd, dd, dd, dd, dd, dd, dd, dd, dd, dd], [some ⟨false, true, false, 0, .typ .ape z0⟩, some ⟨true, true, false, 88, .typ .ape z1⟩]⟩
theorem ly155_2 (y2 y3 y4 : Int) (y5 y6 : List Ape) : layS ps155_2 (y2, y3, y4, y5, y6, ()) = st155_2 y2 y3 y4 y5 y6 := by kernel_rfl
abbrev E155_2_0 {R : Type} (k : Ex → St → Option R) (y5 y6 : List Ape) (z0 : Bool) : Option R := k .ret (sx155_2_0 z0 y5 y6)
abbrev E155_2_1 {R : Type} (k : Ex → St → Option R) (y5 y6 : List Ape) : Option R := k (.exit 0) (sx155_2_1 y5 y6)
noncomputable abbrev J155_2 {R : Type} (n : Nat) (y3 : Int) (y5 y6 : List Ape) (y2 y4 : Int) (k : Ex → St → Option R) : Option R :=
 iter (ev P KK T154 LOrc.none 300 155 (loopOf P 155 2)) (headL P KK (KK.ann 155 2) 2) (gcL (KK.ann 155 2).out 2) n (st155_2 y2 y3 y4 y5 y6) k
theorem k155_2 {R : Type} (n : Nat) (y3 : Int) (y5 y6 : List Ape) (y2 y4 : Int) (k : Ex → St → Option R) : J155_2  (n + 1) y3 y5 y6 y2 y4 k = S155_2  (E155_2_0 k y5 y6) (E155_2_1 k y5 y6) y3 y5 y6 (fun y2 y4 => J155_2  n y3 y5 y6 y2 y4 k) y2 y4 := by kernel_rfl
theorem it155_2 {R : Type} (y3 : Int) (y5 y6 : List Ape) (k : Ex → St → Option R) : ∀ (n : Nat) (y2 y4 : Int), J155_2  n y3 y5 y6 y2 y4 k = L155_2  (E155_2_0 k y5 y6) (E155_2_1 k y5 y6) y3 y5 y6 n y2 y4 := by
 intro n
 induction n with
 | zero => intros; rfl
 | succ n ih =>
  intro y2 y4
  rw [k155_2, show (fun y2 y4 => J155_2  n y3 y5 y6 y2 y4 k) = L155_2  (E155_2_0 k y5 y6) (E155_2_1 k y5 y6) y3 y5 y6 n from by funext y2 y4; exact ih y2 y4]
  rfl
def lb155_2 {R : Type} (lf : Nat) (d : ps155_2.D) (k : Ex → St → Option R) : Option R := match d with
 | (y2, y3, y4, y5, y6, ()) => L155_2  (E155_2_0 k y5 y6) (E155_2_1 k y5 y6) y3 y5 y6 lf y2 y4
def lt155_2 {R : Type} (lf : Nat) : LOrc R := fun f id n0 st k => bif Nat.beq f 155 && (Nat.beq id 2 && Nat.beq n0 2) then readS ps155_2 st fun d => lb155_2 lf d k else LOrc.none f id n0 st k
def F155 (lf : Nat) (l : List Ape) (now : Int) : Option (Bool) :=
 (match (F154 fuel l) with
 | some r1 => L155_2 (fun z8 => some z8) (some true) (r1.length : Int) l r1 lf now 0
 | none => none)
theorem ev155 (lf : Nat) (l : List Ape) (now : Int) : evC (R' := [.cell .b]) P KK T154 (lt155_2 lf) 155 [.cell (.sl .ape), .cell .i] (l, now, ()) = F155 lf l now := by kernel_rfl
def g155 : Sig := ⟨[.cell (.sl .ape), .cell .i], [.cell .b]⟩
def T155 {R : Type} : Orc R := fun f args h k => bif Nat.beq f 155 then contract g155 (fun d => F155 fuel d.1 d.2.1) args h k else T154 f args h k
def K186 {R : Type} (kk : Bool → R) (v s k : Int) : R :=
 bif (!(F199 v 0 1048576)) then
  kk false
 else bif (!(F199 s 0 1048576)) then
  kk false
 else bif (!(F199 k 0 1048576)) then
  kk false
 else bif decide (v ≤ s) then
  kk false
 else kk (decide ((wI ((wI (k * s)) * s)) < (wI ((wI (v - s)) * (wI (v - s))))))
def F186 (v s k : Int) : Bool := K186 (fun r => r) v s k
theorem ev186 (v s k : Int) : evC (R' := [.cell .b]) P KK T155 LOrc.none 186 [.cell .i, .cell .i, .cell .i] (v, s, k, ()) = some (F186 v s k) := by
 rw [show evC (R' := [.cell .b]) P KK T155 LOrc.none 186 [.cell .i, .cell .i, .cell .i] (v, s, k, ()) = K186 some v s k from by kernel_rfl]
 simp only [F186, K186, some_cond]
 try rfl
def g186 : Sig := ⟨[.cell .i, .cell .i, .cell .i], [.cell .b]⟩
def T186 {R : Type} : Orc R := fun f args h k => bif Nat.beq f 186 then contract g186 (fun d => some (F186 d.1 d.2.1 d.2.2.1)) args h k else T155 f args h k
def S112_6 {R : Type} (e0 : (List (Int × Ape)) → (List Int) → Option R) (y2 y3 : Int) (y5 : List Ape) (y7 : Int) (y8 : List Ape) (rec : Int → (List (Int × Ape)) → (List Int) → Option R) (y4 : Int) (y6 : List (Int × Ape)) (y9 : List Int) : Option R :=
 bif decide (y4 < y3) then
  bif (decide (0 ≤ y4) && decide (y4 < (y5.length : Int))) then (match y5[(Int.toNat y4)]? with
   | some x10 => bif decide ((F151 x10 y2) < 0) then
     bif Nat.ble ((y9 ++ ([x10.ID])).length) 100000 then rec (wI (y4 + 1)) (delM (putM y6 x10.ID x10) x10.ID) (y9 ++ ([x10.ID]))
     else none
    else rec (wI (y4 + 1)) (putM y6 x10.ID x10) y9
   | none => none)
  else none
 else e0 y6 y9
def L112_6 {R : Type} (e0 : (List (Int × Ape)) → (List Int) → Option R) (y2 y3 : Int) (y5 : List Ape) (y7 : Int) (y8 : List Ape) : Nat → Int → (List (Int × Ape)) → (List Int) → Option R
 | 0 => fun _ _ _ => none
 | n + 1 => S112_6  e0 y2 y3 y5 y7 y8 (L112_6  e0 y2 y3 y5 y7 y8 n)
def ps112_6 : PSt := { live := [0, 2, 8, 9, 28, 29, 30], nt := 157, env := [.whole 0, .i, .ptr 3 0 0, .whole 4, .whole 0, .i, .i], heap := [.typ false true false 0 .ape, .mp true true .ape, .gen true false false 0 3 [[.mapv 1, .whole 5, .i]], .gen true false false 0 1 [[.ptr 2 0 0]], .typ true true false 88 .ape, .typ true true false 3 .int] }
abbrev st112_6 (y2 y3 y4 : Int) (y5 : List Ape) (y6 : List (Int × Ape)) (y7 : Int) (y8 : List Ape) (y9 : List Int) : St := ⟨[.whole 0, dd, I y2, dd, dd, dd, dd, dd, .ptr 3 0 0, .whole 4, dd, dd, dd, dd, dd, dd, dd, dd, dd, dd, dd, dd, dd, dd, dd, dd, dd, dd, .whole 0, I y3, I y4, dd, dd, dd, dd, dd, dd, dd, dd, dd, dd, dd, dd, dd, dd, dd, dd, dd, dd, dd, dd, dd, dd, dd, dd, dd, dd, dd, dd, dd, dd, dd, dd, dd, dd, dd, dd, dd, dd, dd, dd, dd, dd, dd, dd, dd, dd, dd, dd, dd, dd, dd, dd, dd, dd, dd, dd, dd, dd, dd, dd, dd, dd, dd, dd, dd, dd, dd, dd, dd, dd, dd, dd, dd, dd, dd, dd, dd, dd, dd, dd, dd, dd, dd, dd, dd, dd, dd, dd, dd, dd, dd, dd, dd, dd, dd, dd, dd, dd, dd, dd, dd, dd, dd, dd, dd, dd, dd, dd, dd, dd, dd, dd, dd, dd, dd, dd, dd, dd, dd, dd, dd, dd, dd, dd, dd, dd], [some ⟨false, true, false, 0, .typ .ape y5⟩, some ⟨true, false, true, 0, .mp .ape y6⟩, some ⟨true, false, false, 0, .gen 3 [[.mapv 1, .whole 5, I y7]]⟩, some ⟨true, false, false, 0, .gen 1 [[.ptr 2 0 0]]⟩, some ⟨true, true, false, 88, .typ .ape y8⟩, some ⟨true, true, false, 3, .typ .int y9⟩]⟩
abbrev sx112_6_0 (z0 : Int) (z1 : List Ape) (z2 : List (Int × Ape)) (z3 : Int) (z4 : List Ape) (z5 : List Int) : St := ⟨[.whole 0, dd, I z0, dd, dd, dd, dd, dd, .ptr 3 0 0, .whole 4, dd, dd, dd, dd, dd, dd, dd, dd, dd, dd, dd, dd, dd, dd, dd, dd, dd, dd, dd, dd, dd, dd, dd, dd, dd, dd, dd, dd, dd, dd, dd, dd, dd, dd, dd, dd, dd, dd, dd, dd, dd, dd, dd, dd, dd, dd, dd, dd, dd, dd, dd, dd, dd, dd, dd, dd, dd, dd, dd, dd, dd, dd, dd, dd, dd, dd, dd, dd, dd, dd, dd, dd, dd, dd, dd, dd, dd, dd, dd, dd, dd, dd, dd, dd, dd, dd, dd, dd, dd, dd, dd, dd, dd, dd, dd, dd, dd, dd, dd, dd, dd, dd, dd, dd, dd, dd, dd, dd, dd, dd, dd, dd, dd, dd, dd, dd, dd, dd, dd, dd, dd, dd, dd, dd, dd, dd, dd, dd, dd, dd, dd, dd, dd, dd, dd, dd, dd, dd, dd, dd, dd, dd, dd, dd, dd, dd, dd], [some ⟨false, true, false, 0, .typ .ape z1⟩, some ⟨true, false, true, 0, .mp .ape z2⟩, some ⟨true, false, false, 0, .gen 3 [[.mapv 1, .whole 5, I z3]]⟩, some ⟨true, false, false, 0, .gen 1 [[.ptr 2 0 0]]⟩, some ⟨true, true, false, 88, .typ .ape z4⟩, some ⟨true, true, false, 3, .typ .int z5⟩]⟩
theorem ly112_6 (y2 y3 y4 : Int) (y5 : List Ape) (y6 : List (Int × Ape)) (y7 : Int) (y8 : List Ape) (y9 : List Int) : layS ps112_6 (y2, y3, y4, y5, y6, y7, y8, y9, ()) = st112_6 y2 y3 y4 y5 y6 y7 y8 y9 := by kernel_rfl
abbrev E112_6_0 {R : Type} (k : Ex → St → Option R) (y2 : Int) (y5 : List Ape) (y7 : Int) (y8 : List Ape) (z2 : List (Int × Ape)) (z5 : List Int) : Option R := k (.exit 0) (sx112_6_0 y2 y5 z2 y7 y8 z5)
noncomputable abbrev J112_6 {R : Type} (n : Nat) (y2 y3 : Int) (y5 : List Ape) (y7 : Int) (y8 : List Ape) (y4 : Int) (y6 : List (Int × Ape)) (y9 : List Int) (k : Ex → St → Option R) : Option R :=
 iter (ev P KK T186 LOrc.none 300 112 (loopOf P 112 6)) (headL P KK (KK.ann 112 6) 4) (gcL (KK.ann 112 6).out 4) n (st112_6 y2 y3 y4 y5 y6 y7 y8 y9) k
theorem k112_6 {R : Type} (n : Nat) (y2 y3 : Int) (y5 : List Ape) (y7 : Int) (y8 : List Ape) (y4 : Int) (y6 : List (Int × Ape)) (y9 : List Int) (k : Ex → St → Option R) : J112_6  (n + 1) y2 y3 y5 y7 y8 y4 y6 y9 k = S112_6  (E112_6_0 k y2 y5 y7 y8) y2 y3 y5 y7 y8 (fun y4 y6 y9 => J112_6  n y2 y3 y5 y7 y8 y4 y6 y9 k) y4 y6 y9 := by kernel_rfl
theorem it112_6 {R : Type} (y2 y3 : Int) (y5 : List Ape) (y7 : Int) (y8 : List Ape) (k : Ex → St → Option R) : ∀ (n : Nat) (y4 : Int) (y6 : List (Int × Ape)) (y9 : List Int), J112_6  n y2 y3 y5 y7 y8 y4 y6 y9 k = L112_6  (E112_6_0 k y2 y5 y7 y8) y2 y3 y5 y7 y8 n y4 y6 y9 := by
 intro n
 induction n with
 | zero => intros; rfl
 | succ n ih =>
  intro y4 y6 y9
  rw [k112_6, show (fun y4 y6 y9 => J112_6  n y2 y3 y5 y7 y8 y4 y6 y9 k) = L112_6  (E112_6_0 k y2 y5 y7 y8) y2 y3 y5 y7 y8 n from by funext y4 y6 y9; exact ih y4 y6 y9]
  rfl
def lb112_6 {R : Type} (lf : Nat) (d : ps112_6.D) (k : Ex → St → Option R) : Option R := match d with
 | (y2, y3, y4, y5, y6, y7, y8, y9, ()) => L112_6  (E112_6_0 k y2 y5 y7 y8) y2 y3 y5 y7 y8 lf y4 y6 y9
def lt112_6 {R : Type} (lf : Nat) : LOrc R := fun f id n0 st k => bif Nat.beq f 112 && (Nat.beq id 6 && Nat.beq n0 4) then readS ps112_6 st fun d => lb112_6 lf d k else LOrc.none f id n0 st k
def S112_14 {R : Type} (e0 : (List Ape) → Option R) (y14 y15 : Int) (y17 : List Ape) (y18 : List (Int × Ape)) (y19 : Int) (y20 : List Int) (y21 : List Ape) (rec : Int → (List Ape) → Option R) (y16 : Int) (y22 : List Ape) : Option R :=
 bif decide (y16 < y15) then
  bif (decide (0 ≤ y16) && decide (y16 < (y21.length : Int))) then (match y21[(Int.toNat y16)]? with
   | some x23 => bif (getM y18 x23.ID).isSome then
     bif (decide (x23.ID = ((getM y18 x23.ID).getD (Ape.mk 0 0 0 0 0)).ID) && (decide (x23.Due = ((getM y18 x23.ID).getD (Ape.mk 0 0 0 0 0)).Due) && (decide (x23.C = ((getM y18 x23.ID).getD (Ape.mk 0 0 0 0 0)).C) && (decide (x23.V = ((getM y18 x23.ID).getD (Ape.mk 0 0 0 0 0)).V) && (decide (x23.Ran = ((getM y18 x23.ID).getD (Ape.mk 0 0 0 0 0)).Ran) && true))))) then
      bif Nat.ble ((y22 ++ ([x23])).length) 100000 then rec (wI (y16 + 1)) (y22 ++ ([x23]))
      else none
     else rec (wI (y16 + 1)) y22
    else rec (wI (y16 + 1)) y22
   | none => none)
  else none
 else e0 y22
def L112_14 {R : Type} (e0 : (List Ape) → Option R) (y14 y15 : Int) (y17 : List Ape) (y18 : List (Int × Ape)) (y19 : Int) (y20 : List Int) (y21 : List Ape) : Nat → Int → (List Ape) → Option R
 | 0 => fun _ _ => none
 | n + 1 => S112_14  e0 y14 y15 y17 y18 y19 y20 y21 (L112_14  e0 y14 y15 y17 y18 y19 y20 y21 n)
def ps112_14 : PSt := { live := [2, 8, 9, 12, 52, 53, 54], nt := 157, env := [.i, .ptr 3 0 0, .whole 7, .fn 153 [3], .whole 6, .i, .i], heap := [.typ false true false 0 .ape, .mp true true .ape, .gen true false false 0 3 [[.mapv 1, .whole 5, .i]], .gen true false false 0 1 [[.ptr 2 0 0]], .none, .typ true true false 3 .int, .typ true true false 88 .ape, .typ true true false 88 .ape] }
abbrev st112_14 (y14 y15 y16 : Int) (y17 : List Ape) (y18 : List (Int × Ape)) (y19 : Int) (y20 : List Int) (y21 y22 : List Ape) : St := ⟨[dd, dd, I y14, dd, dd, dd, dd, dd, .ptr 3 0 0, .whole 7, dd, dd, .fn (.func 153) [] [.ptr 3 0 0], dd, dd, dd, dd, dd, dd, dd, dd, dd, dd, dd, dd, dd, dd, dd, dd, dd, dd, dd, dd, dd, dd, dd, dd, dd, dd, dd, dd, dd, dd, dd, dd, dd, dd, dd, dd, dd, dd, dd, .whole 6, I y15, I y16, dd, dd, dd, dd, dd, dd, dd, dd, dd, dd, dd, dd, dd, dd, dd, dd, dd, dd, dd, dd, dd, dd, dd, dd, dd, dd, dd, dd, dd, dd, dd, dd, dd, dd, dd, dd, dd, dd, dd, dd, dd, dd, dd, dd, dd, dd, dd, dd, dd, dd, dd, dd, dd, dd, dd, dd, dd, dd, dd, dd, dd, dd, dd, dd, dd, dd, dd, dd, dd, dd, dd, dd, dd, dd, dd, dd, dd, dd, dd, dd, dd, dd, dd, dd, dd, dd, dd, dd, dd, dd, dd, dd, dd, dd, dd, dd, dd, dd, dd, dd, dd, dd], [some ⟨false, true, false, 0, .typ .ape y17⟩, some ⟨true, false, true, 0, .mp .ape y18⟩, some ⟨true, false, false, 0, .gen 3 [[.mapv 1, .whole 5, I y19]]⟩, some ⟨true, false, false, 0, .gen 1 [[.ptr 2 0 0]]⟩, none, some ⟨true, true, false, 3, .typ .int y20⟩, some ⟨true, true, false, 88, .typ .ape y21⟩, some ⟨true, true, false, 88, .typ .ape y22⟩]⟩
abbrev sx112_14_0 (z0 : Int) (z1 : List Ape) (z2 : List (Int × Ape)) (z3 : Int) (z4 : List Int) (z5 z6 : List Ape) : St := ⟨[dd, dd, I z0, dd, dd, dd, dd, dd, .ptr 3 0 0, .whole 7, dd, dd, .fn (.func 153) [] [.ptr 3 0 0], dd, dd, dd, dd, dd, dd, dd, dd, dd, dd, dd, dd, dd, dd, dd, dd, dd, dd, dd, dd, dd, dd, dd, dd, dd, dd, dd, dd, dd, dd, dd, dd, dd, dd, dd, dd, dd, dd, dd, dd, dd, dd, dd, dd, dd, dd, dd, dd, dd, dd, dd, dd, dd, dd, dd, dd, dd, dd, dd, dd, dd, dd, dd, dd, dd, dd, dd, dd, dd, dd, dd, dd, dd, dd, dd, dd, dd, dd, dd, dd, dd, dd, dd, dd, dd, dd, dd, dd, dd, dd, dd, dd, dd, dd, dd, dd, dd, dd, dd, dd, dd, dd, dd, dd, dd, dd, dd, dd, dd, dd, dd, dd, dd, dd, dd, dd, dd, dd, dd, dd, dd, dd, dd, dd, dd, dd, dd, dd, dd, dd, dd, dd, dd, dd, dd, dd, dd, dd, dd, dd, dd, dd, dd, dd], [some ⟨false, true, false, 0, .typ .ape z1⟩, some ⟨true, false, true, 0, .mp .ape z2⟩, some ⟨true, false, false, 0, .gen 3 [[.mapv 1, .whole 5, I z3]]⟩, some ⟨true, false, false, 0, .gen 1 [[.ptr 2 0 0]]⟩, none, some ⟨true, true, false, 3, .typ .int z4⟩, some ⟨true, true, false, 88, .typ .ape z5⟩, some ⟨true, true, false, 88, .typ .ape z6⟩]⟩
theorem ly112_14 (y14 y15 y16 : Int) (y17 : List Ape) (y18 : List (Int × Ape)) (y19 : Int) (y20 : List Int) (y21 y22 : List Ape) : layS ps112_14 (y14, y15, y16, y17, y18, y19, y20, y21, y22, ()) = st112_14 y14 y15 y16 y17 y18 y19 y20 y21 y22 := by kernel_rfl
abbrev E112_14_0 {R : Type} (k : Ex → St → Option R) (y14 : Int) (y17 : List Ape) (y18 : List (Int × Ape)) (y19 : Int) (y20 : List Int) (y21 z6 : List Ape) : Option R := k (.exit 2) (sx112_14_0 y14 y17 y18 y19 y20 y21 z6)
noncomputable abbrev J112_14 {R : Type} (n : Nat) (y14 y15 : Int) (y17 : List Ape) (y18 : List (Int × Ape)) (y19 : Int) (y20 : List Int) (y21 : List Ape) (y16 : Int) (y22 : List Ape) (k : Ex → St → Option R) : Option R :=
 iter (ev P KK T186 (lt112_6 lf) 300 112 (loopOf P 112 14)) (headL P KK (KK.ann 112 14) 7) (gcL (KK.ann 112 14).out 7) n (st112_14 y14 y15 y16 y17 y18 y19 y20 y21 y22) k
theorem k112_14 {R : Type} (n : Nat) (y14 y15 : Int) (y17 : List Ape) (y18 : List (Int × Ape)) (y19 : Int) (y20 : List Int) (y21 : List Ape) (y16 : Int) (y22 : List Ape) (k : Ex → St → Option R) : J112_14  (n + 1) y14 y15 y17 y18 y19 y20 y21 y16 y22 k = S112_14  (E112_14_0 k y14 y17 y18 y19 y20 y21) y14 y15 y17 y18 y19 y20 y21 (fun y16 y22 => J112_14  n y14 y15 y17 y18 y19 y20 y21 y16 y22 k) y16 y22 := by kernel_rfl
theorem it112_14 {R : Type} (y14 y15 : Int) (y17 : List Ape) (y18 : List (Int × Ape)) (y19 : Int) (y20 : List Int) (y21 : List Ape) (k : Ex → St → Option R) : ∀ (n : Nat) (y16 : Int) (y22 : List Ape), J112_14  n y14 y15 y17 y18 y19 y20 y21 y16 y22 k = L112_14  (E112_14_0 k y14 y17 y18 y19 y20 y21) y14 y15 y17 y18 y19 y20 y21 n y16 y22 := by
 intro n
 induction n with
 | zero => intros; rfl
 | succ n ih =>
  intro y16 y22
  rw [k112_14, show (fun y16 y22 => J112_14  n y14 y15 y17 y18 y19 y20 y21 y16 y22 k) = L112_14  (E112_14_0 k y14 y17 y18 y19 y20 y21) y14 y15 y17 y18 y19 y20 y21 n from by funext y16 y22; exact ih y16 y22]
  rfl
def lb112_14 {R : Type} (lf : Nat) (d : ps112_14.D) (k : Ex → St → Option R) : Option R := match d with
 | (y14, y15, y16, y17, y18, y19, y20, y21, y22, ()) => L112_14  (E112_14_0 k y14 y17 y18 y19 y20 y21) y14 y15 y17 y18 y19 y20 y21 lf y16 y22
def lt112_14 {R : Type} (lf : Nat) : LOrc R := fun f id n0 st k => bif Nat.beq f 112 && (Nat.beq id 14 && Nat.beq n0 7) then readS ps112_14 st fun d => lb112_14 lf d k else (lt112_6 lf) f id n0 st k
def S112_24 {R : Type} (e0 : (List (Int × Ape)) → Int → (List Int) → Option R) (y27 y28 : Int) (y30 y33 y34 : List Ape) (rec : Int → (List (Int × Ape)) → Int → (List Int) → Option R) (y29 : Int) (y31 : List (Int × Ape)) (y32 : Int) (y35 : List Int) : Option R :=
 bif decide (y29 < y28) then
  bif (decide (0 ≤ y29) && decide (y29 < (y34.length : Int))) then (match y34[(Int.toNat y29)]? with
   | some x36 => bif decide (x36.ID = y32) then
     rec (wI (y29 + 1)) y31 y32 y35
    else bif decide (0 < (F151 x36 y27)) then
     rec (wI (y29 + 1)) y31 y32 y35
    else bif (!((getM y31 y32).isSome)) then
     rec (wI (y29 + 1)) y31 x36.ID y35
    else bif (F186 x36.V (((getM y31 y32).getD (Ape.mk 0 0 0 0 0)).V) 4) then
     rec (wI (y29 + 1)) y31 x36.ID y35
    else bif Nat.ble ((y35 ++ ([x36.ID])).length) 100000 then rec (wI (y29 + 1)) (delM y31 x36.ID) y32 (y35 ++ ([x36.ID]))
    else none
   | none => none)
  else none
 else e0 y31 y32 y35
def L112_24 {R : Type} (e0 : (List (Int × Ape)) → Int → (List Int) → Option R) (y27 y28 : Int) (y30 y33 y34 : List Ape) : Nat → Int → (List (Int × Ape)) → Int → (List Int) → Option R
 | 0 => fun _ _ _ _ => none
 | n + 1 => S112_24  e0 y27 y28 y30 y33 y34 (L112_24  e0 y27 y28 y30 y33 y34 n)
def ps112_24 : PSt := { live := [2, 8, 9, 12, 84, 85, 86], nt := 157, env := [.i, .ptr 3 0 0, .whole 7, .fn 153 [3], .whole 7, .i, .i], heap := [.typ false true false 0 .ape, .mp true true .ape, .gen true false false 0 3 [[.mapv 1, .whole 8, .i]], .gen true false false 0 1 [[.ptr 2 0 0]], .none, .none, .typ true true false 88 .ape, .typ true true false 88 .ape, .typ true true false 3 .int] }
abbrev st112_24 (y27 y28 y29 : Int) (y30 : List Ape) (y31 : List (Int × Ape)) (y32 : Int) (y33 y34 : List Ape) (y35 : List Int) : St := ⟨[dd, dd, I y27, dd, dd, dd, dd, dd, .ptr 3 0 0, .whole 7, dd, dd, .fn (.func 153) [] [.ptr 3 0 0], dd, dd, dd, dd, dd, dd, dd, dd, dd, dd, dd, dd, dd, dd, dd, dd, dd, dd, dd, dd, dd, dd, dd, dd, dd, dd, dd, dd, dd, dd, dd, dd, dd, dd, dd, dd, dd, dd, dd, dd, dd, dd, dd, dd, dd, dd, dd, dd, dd, dd, dd, dd, dd, dd, dd, dd, dd, dd, dd, dd, dd, dd, dd, dd, dd, dd, dd, dd, dd, dd, dd, .whole 7, I y28, I y29, dd, dd, dd, dd, dd, dd, dd, dd, dd, dd, dd, dd, dd, dd, dd, dd, dd, dd, dd, dd, dd, dd, dd, dd, dd, dd, dd, dd, dd, dd, dd, dd, dd, dd, dd, dd, dd, dd, dd, dd, dd, dd, dd, dd, dd, dd, dd, dd, dd, dd, dd, dd, dd, dd, dd, dd, dd, dd, dd, dd, dd, dd, dd, dd, dd, dd, dd, dd, dd, dd], [some ⟨false, true, false, 0, .typ .ape y30⟩, some ⟨true, false, true, 0, .mp .ape y31⟩, some ⟨true, false, false, 0, .gen 3 [[.mapv 1, .whole 8, I y32]]⟩, some ⟨true, false, false, 0, .gen 1 [[.ptr 2 0 0]]⟩, none, none, some ⟨true, true, false, 88, .typ .ape y33⟩, some ⟨true, true, false, 88, .typ .ape y34⟩, some ⟨true, true, false, 3, .typ .int y35⟩]⟩
abbrev sx112_24_0 (z0 : List Ape) (z1 : List (Int × Ape)) (z2 : Int) (z3 z4 : List Ape) (z5 : List Int) : St := ⟨[dd, dd, dd, dd, dd, dd, dd, dd, .ptr 3 0 0, .whole 7, dd, dd, .fn (.func 153) [] [.ptr 3 0 0], dd, dd, dd, dd, dd, dd, dd, dd, dd, dd, dd, dd, dd, dd, dd, dd, dd, dd, dd, dd, dd, dd, dd, dd, dd, dd, dd, dd, dd, dd, dd, dd, dd, dd, dd, dd, dd, dd, dd, dd, dd, dd, dd, dd, dd, dd, dd, dd, dd, dd, dd, dd, dd, dd, dd, dd, dd, dd, dd, dd, dd, dd, dd, dd, dd, dd, dd, dd, dd, dd, dd, dd, dd, dd, dd, dd, dd, dd, dd, dd, dd, dd, dd, dd, dd, dd, dd, dd, dd, dd, dd, dd, dd, dd, dd, dd, dd, dd, dd, dd, dd, dd, dd, dd, dd, dd, dd, dd, dd, dd, dd, dd, dd, dd, dd, dd, dd, dd, dd, dd, dd, dd, dd, dd, dd, dd, dd, dd, dd, dd, dd, dd, dd, dd, dd, dd, dd, dd, dd, dd, dd, dd, dd, dd], [some ⟨false, true, false, 0, .typ .ape z0⟩, some ⟨true, false, true, 0, .mp .ape z1⟩, some ⟨true, false, false, 0, .gen 3 [[.mapv 1, .whole 8, I z2]]⟩, some ⟨true, false, false, 0, .gen 1 [[.ptr 2 0 0]]⟩, none, none, some ⟨true, true, false, 88, .typ .ape z3⟩, some ⟨true, true, false, 88, .typ .ape z4⟩, some ⟨true, true, false, 3, .typ .int z5⟩]⟩
theorem ly112_24 (y27 y28 y29 : Int) (y30 : List Ape) (y31 : List (Int × Ape)) (y32 : Int) (y33 y34 : List Ape) (y35 : List Int) : layS ps112_24 (y27, y28, y29, y30, y31, y32, y33, y34, y35, ()) = st112_24 y27 y28 y29 y30 y31 y32 y33 y34 y35 := by kernel_rfl
abbrev E112_24_0 {R : Type} (k : Ex → St → Option R) (y30 y33 y34 : List Ape) (z1 : List (Int × Ape)) (z2 : Int) (z5 : List Int) : Option R := k (.exit 4) (sx112_24_0 y30 z1 z2 y33 y34 z5)
noncomputable abbrev J112_24 {R : Type} (n : Nat) (y27 y28 : Int) (y30 y33 y34 : List Ape) (y29 : Int) (y31 : List (Int × Ape)) (y32 : Int) (y35 : List Int) (k : Ex → St → Option R) : Option R :=
 iter (ev P KK T186 (lt112_14 lf) 300 112 (loopOf P 112 24)) (headL P KK (KK.ann 112 24) 8) (gcL (KK.ann 112 24).out 8) n (st112_24 y27 y28 y29 y30 y31 y32 y33 y34 y35) k
theorem k112_24 {R : Type} (n : Nat) (y27 y28 : Int) (y30 y33 y34 : List Ape) (y29 : Int) (y31 : List (Int × Ape)) (y32 : Int) (y35 : List Int) (k : Ex → St → Option R) : J112_24  (n + 1) y27 y28 y30 y33 y34 y29 y31 y32 y35 k = S112_24  (E112_24_0 k y30 y33 y34) y27 y28 y30 y33 y34 (fun y29 y31 y32 y35 => J112_24  n y27 y28 y30 y33 y34 y29 y31 y32 y35 k) y29 y31 y32 y35 := by kernel_rfl
theorem it112_24 {R : Type} (y27 y28 : Int) (y30 y33 y34 : List Ape) (k : Ex → St → Option R) : ∀ (n : Nat) (y29 : Int) (y31 : List (Int × Ape)) (y32 : Int) (y35 : List Int), J112_24  n y27 y28 y30 y33 y34 y29 y31 y32 y35 k = L112_24  (E112_24_0 k y30 y33 y34) y27 y28 y30 y33 y34 n y29 y31 y32 y35 := by
 intro n
 induction n with
 | zero => intros; rfl
 | succ n ih =>
  intro y29 y31 y32 y35
  rw [k112_24, show (fun y29 y31 y32 y35 => J112_24  n y27 y28 y30 y33 y34 y29 y31 y32 y35 k) = L112_24  (E112_24_0 k y30 y33 y34) y27 y28 y30 y33 y34 n from by funext y29 y31 y32 y35; exact ih y29 y31 y32 y35]
  rfl
def lb112_24 {R : Type} (lf : Nat) (d : ps112_24.D) (k : Ex → St → Option R) : Option R := match d with
 | (y27, y28, y29, y30, y31, y32, y33, y34, y35, ()) => L112_24  (E112_24_0 k y30 y33 y34) y27 y28 y30 y33 y34 lf y29 y31 y32 y35
def lt112_24 {R : Type} (lf : Nat) : LOrc R := fun f id n0 st k => bif Nat.beq f 112 && (Nat.beq id 24 && Nat.beq n0 8) then readS ps112_24 st fun d => lb112_24 lf d k else (lt112_14 lf) f id n0 st k
def S112_60_2 {R : Type} (e0 : Int → Option R) (e1 : Option R) (y40 : Int) (y42 : List Ape) (y43 : List (Int × Ape)) (y44 : Int) (y45 y46 : List Ape) (y47 : List Int) (y48 y49 y50 y51 y52 : Int) (rec : Int → Option R) (y41 : Int) : Option R :=
 bif decide (y41 < y40) then
  bif (decide (0 ≤ y41) && decide (y41 < (y46.length : Int))) then (match y46[(Int.toNat y41)]? with
   | some x53 => bif (getM y43 x53.ID).isSome then
     bif (decide (x53.ID = ((getM y43 x53.ID).getD (Ape.mk 0 0 0 0 0)).ID) && (decide (x53.Due = ((getM y43 x53.ID).getD (Ape.mk 0 0 0 0 0)).Due) && (decide (x53.C = ((getM y43 x53.ID).getD (Ape.mk 0 0 0 0 0)).C) && (decide (x53.V = ((getM y43 x53.ID).getD (Ape.mk 0 0 0 0 0)).V) && (decide (x53.Ran = ((getM y43 x53.ID).getD (Ape.mk 0 0 0 0 0)).Ran) && true))))) then
      e0 y41
     else rec (wI (y41 + 1))
    else rec (wI (y41 + 1))
   | none => none)
  else none
 else e1
def L112_60_2 {R : Type} (e0 : Int → Option R) (e1 : Option R) (y40 : Int) (y42 : List Ape) (y43 : List (Int × Ape)) (y44 : Int) (y45 y46 : List Ape) (y47 : List Int) (y48 y49 y50 y51 y52 : Int) : Nat → Int → Option R
 | 0 => fun _ => none
 | n + 1 => S112_60_2  e0 e1 y40 y42 y43 y44 y45 y46 y47 y48 y49 y50 y51 y52 (L112_60_2  e0 e1 y40 y42 y43 y44 y45 y46 y47 y48 y49 y50 y51 y52 n)
def ps112_60_2 : PSt := { live := [0, 1, 7, 8], nt := 19, env := [.whole 7, .fn 153 [3], .i, .i], heap := [.typ false true false 0 .ape, .mp true true .ape, .gen true false false 0 3 [[.mapv 1, .whole 8, .i]], .gen true false false 0 1 [[.ptr 2 0 0]], .none, .none, .typ true true false 88 .ape, .typ true true false 88 .ape, .typ true true false 3 .int, .gen true false false 0 5 [[.i, .i, .i, .i, .i]]] }
abbrev st112_60_2 (y40 y41 : Int) (y42 : List Ape) (y43 : List (Int × Ape)) (y44 : Int) (y45 y46 : List Ape) (y47 : List Int) (y48 y49 y50 y51 y52 : Int) : St := ⟨[.whole 7, .fn (.func 153) [] [.ptr 3 0 0], dd, dd, dd, dd, dd, I y40, I y41, dd, dd, dd, dd, dd, dd, dd, dd, dd, dd], [some ⟨false, true, false, 0, .typ .ape y42⟩, some ⟨true, false, true, 0, .mp .ape y43⟩, some ⟨true, false, false, 0, .gen 3 [[.mapv 1, .whole 8, I y44]]⟩, some ⟨true, false, false, 0, .gen 1 [[.ptr 2 0 0]]⟩, none, none, some ⟨true, true, false, 88, .typ .ape y45⟩, some ⟨true, true, false, 88, .typ .ape y46⟩, some ⟨true, true, false, 3, .typ .int y47⟩, some ⟨true, false, false, 0, .gen 5 [[I y48, I y49, I y50, I y51, I y52]]⟩]⟩
abbrev sx112_60_2_0 (z0 : Int) (z1 : List Ape) (z2 : List (Int × Ape)) (z3 : Int) (z4 z5 : List Ape) (z6 : List Int) (z7 z8 z9 z10 z11 : Int) : St := ⟨[dd, dd, dd, dd, I z0, dd, dd, dd, dd, dd, dd, dd, dd, dd, dd, dd, dd, dd, dd], [some ⟨false, true, false, 0, .typ .ape z1⟩, some ⟨true, false, true, 0, .mp .ape z2⟩, some ⟨true, false, false, 0, .gen 3 [[.mapv 1, .whole 8, I z3]]⟩, some ⟨true, false, false, 0, .gen 1 [[.ptr 2 0 0]]⟩, none, none, some ⟨true, true, false, 88, .typ .ape z4⟩, some ⟨true, true, false, 88, .typ .ape z5⟩, some ⟨true, true, false, 3, .typ .int z6⟩, some ⟨true, false, false, 0, .gen 5 [[I z7, I z8, I z9, I z10, I z11]]⟩]⟩
abbrev sx112_60_2_1 (z0 : List Ape) (z1 : List (Int × Ape)) (z2 : Int) (z3 z4 : List Ape) (z5 : List Int) (z6 z7 z8 z9 z10 : Int) : St := ⟨[dd, dd, dd, dd, dd, dd, dd, dd, dd, dd, dd, dd, dd, dd, dd, dd, dd, dd, dd], [some ⟨false, true, false, 0, .typ .ape z0⟩, some ⟨true, false, true, 0, .mp .ape z1⟩, some ⟨true, false, false, 0, .gen 3 [[.mapv 1, .whole 8, I z2]]⟩, some ⟨true, false, false, 0, .gen 1 [[.ptr 2 0 0]]⟩, none, none, some ⟨true, true, false, 88, .typ .ape z3⟩, some ⟨true, true, false, 88, .typ .ape z4⟩, some ⟨true, true, false, 3, .typ .int z5⟩, some ⟨true, false, false, 0, .gen 5 [[I z6, I z7, I z8, I z9, I z10]]⟩]⟩
theorem ly112_60_2 (y40 y41 : Int) (y42 : List Ape) (y43 : List (Int × Ape)) (y44 : Int) (y45 y46 : List Ape) (y47 : List Int) (y48 y49 y50 y51 y52 : Int) : layS ps112_60_2 (y40, y41, y42, y43, y44, y45, y46, y47, y48, y49, y50, y51, y52, ()) = st112_60_2 y40 y41 y42 y43 y44 y45 y46 y47 y48 y49 y50 y51 y52 := by kernel_rfl
abbrev E112_60_2_0 {R : Type} (k : Ex → St → Option R) (y42 : List Ape) (y43 : List (Int × Ape)) (y44 : Int) (y45 y46 : List Ape) (y47 : List Int) (y48 y49 y50 y51 y52 z0 : Int) : Option R := k .ret (sx112_60_2_0 z0 y42 y43 y44 y45 y46 y47 y48 y49 y50 y51 y52)
abbrev E112_60_2_1 {R : Type} (k : Ex → St → Option R) (y42 : List Ape) (y43 : List (Int × Ape)) (y44 : Int) (y45 y46 : List Ape) (y47 : List Int) (y48 y49 y50 y51 y52 : Int) : Option R := k (.exit 0) (sx112_60_2_1 y42 y43 y44 y45 y46 y47 y48 y49 y50 y51 y52)
noncomputable abbrev J112_60_2 {R : Type} (n : Nat) (y40 : Int) (y42 : List Ape) (y43 : List (Int × Ape)) (y44 : Int) (y45 y46 : List Ape) (y47 : List Int) (y48 y49 y50 y51 y52 y41 : Int) (k : Ex → St → Option R) : Option R :=
 iter (ev P KK T186 (lt112_24 lf) 300 60 (loopOf P 60 2)) (headL P KK (KK.ann 60 2) 10) (gcL (KK.ann 60 2).out 10) n (st112_60_2 y40 y41 y42 y43 y44 y45 y46 y47 y48 y49 y50 y51 y52) k
theorem k112_60_2 {R : Type} (n : Nat) (y40 : Int) (y42 : List Ape) (y43 : List (Int × Ape)) (y44 : Int) (y45 y46 : List Ape) (y47 : List Int) (y48 y49 y50 y51 y52 y41 : Int) (k : Ex → St → Option R) : J112_60_2  (n + 1) y40 y42 y43 y44 y45 y46 y47 y48 y49 y50 y51 y52 y41 k = S112_60_2  (E112_60_2_0 k y42 y43 y44 y45 y46 y47 y48 y49 y50 y51 y52) (E112_60_2_1 k y42 y43 y44 y45 y46 y47 y48 y49 y50 y51 y52) y40 y42 y43 y44 y45 y46 y47 y48 y49 y50 y51 y52 (fun y41 => J112_60_2  n y40 y42 y43 y44 y45 y46 y47 y48 y49 y50 y51 y52 y41 k) y41 := by kernel_rfl
theorem it112_60_2 {R : Type} (y40 : Int) (y42 : List Ape) (y43 : List (Int × Ape)) (y44 : Int) (y45 y46 : List Ape) (y47 : List Int) (y48 y49 y50 y51 y52 : Int) (k : Ex → St → Option R) : ∀ (n : Nat) (y41 : Int), J112_60_2  n y40 y42 y43 y44 y45 y46 y47 y48 y49 y50 y51 y52 y41 k = L112_60_2  (E112_60_2_0 k y42 y43 y44 y45 y46 y47 y48 y49 y50 y51 y52) (E112_60_2_1 k y42 y43 y44 y45 y46 y47 y48 y49 y50 y51 y52) y40 y42 y43 y44 y45 y46 y47 y48 y49 y50 y51 y52 n y41 := by
 intro n
 induction n with
 | zero => intros; rfl
 | succ n ih =>
  intro y41
  rw [k112_60_2, show (fun y41 => J112_60_2  n y40 y42 y43 y44 y45 y46 y47 y48 y49 y50 y51 y52 y41 k) = L112_60_2  (E112_60_2_0 k y42 y43 y44 y45 y46 y47 y48 y49 y50 y51 y52) (E112_60_2_1 k y42 y43 y44 y45 y46 y47 y48 y49 y50 y51 y52) y40 y42 y43 y44 y45 y46 y47 y48 y49 y50 y51 y52 n from by funext y41; exact ih y41]
  rfl
def lb112_60_2 {R : Type} (lf : Nat) (d : ps112_60_2.D) (k : Ex → St → Option R) : Option R := match d with
 | (y40, y41, y42, y43, y44, y45, y46, y47, y48, y49, y50, y51, y52, ()) => L112_60_2  (E112_60_2_0 k y42 y43 y44 y45 y46 y47 y48 y49 y50 y51 y52) (E112_60_2_1 k y42 y43 y44 y45 y46 y47 y48 y49 y50 y51 y52) y40 y42 y43 y44 y45 y46 y47 y48 y49 y50 y51 y52 lf y41
def lt112_60_2 {R : Type} (lf : Nat) : LOrc R := fun f id n0 st k => bif Nat.beq f 60 && (Nat.beq id 2 && Nat.beq n0 10) then readS ps112_60_2 st fun d => lb112_60_2 lf d k else (lt112_24 lf) f id n0 st k
def F112 (lf : Nat) (l : List Ape) (cur now : Int) : Option (Int × (List Int)) :=
 (match (F84 fuel l now) with
 | some r1 => bif (!r1) then
   some ((-1), [])
  else L112_6 (fun z11 z12 => (match (F154 fuel l) with
    | some r13 => L112_14 (fun z24 => bif decide ((z24.length : Int) = 0) then
        some ((-1), z12)
       else (match (F155 fuel z24 now) with
       | some r25 => bif r25 then
         bif decide (0 < (z24.length : Int)) then (match z24[0]? with
          | some x26 => some (x26.ID, z12)
          | none => none)
         else none
        else L112_24 (fun z37 z38 z39 => bif (getM z37 z38).isSome then
           some (z38, z39)
          else L112_60_2 (fun z54 => bif decide (z54 < 0) then
             some ((-1), z39)
            else bif (decide (0 ≤ z54) && decide (z54 < (z24.length : Int))) then (match z24[(Int.toNat z54)]? with
             | some x55 => some (x55.ID, z39)
             | none => none)
            else none) (some ((-1), z39)) (z24.length : Int) l z37 z38 r13 z24 z39 (((getM z37 z38).getD (Ape.mk 0 0 0 0 0)).ID) (((getM z37 z38).getD (Ape.mk 0 0 0 0 0)).Due) (((getM z37 z38).getD (Ape.mk 0 0 0 0 0)).C) (((getM z37 z38).getD (Ape.mk 0 0 0 0 0)).V) (((getM z37 z38).getD (Ape.mk 0 0 0 0 0)).Ran) lf 0) now (z24.length : Int) l r13 z24 lf 0 z11 cur z12
       | none => none)) now (r13.length : Int) l z11 cur z12 r13 lf 0 ([])
    | none => none)) now (l.length : Int) l cur ([]) lf 0 ([]) ([])
 | none => none)
theorem ev112 (lf : Nat) (l : List Ape) (cur now : Int) : evC (R' := [.cell .i, .cell (.own .int 3)]) P KK T186 (lt112_60_2 lf) 112 [.cell (.sl .ape), .cell .i, .cell .i] (l, cur, now, ()) = F112 lf l cur now := by kernel_rfl
def g112 : Sig := ⟨[.cell (.sl .ape), .cell .i, .cell .i], [.cell .i, .cell (.own .int 3)]⟩
def T112 {R : Type} : Orc R := fun f args h k => bif Nat.beq f 112 then contract g112 (fun d => F112 fuel d.1 d.2.1 d.2.2.1) args h k else T186 f args h k
def F240 (a : Opt) : Int × Int × Int :=
 (a.Far, a.Due, a.ID)
theorem ev240 (a : Opt) : evC (R' := [.agg [.i, .i, .i]]) P KK T112 LOrc.none 240 [.el .opt] (a, ()) = some (F240 a) := by kernel_rfl
def g240 : Sig := ⟨[.el .opt], [.agg [.i, .i, .i]]⟩
def T240 {R : Type} : Orc R := fun f args h k => bif Nat.beq f 240 then contract g240 (fun d => some (F240 d.1)) args h k else T112 f args h k
def F243 (x : Int) : Bool :=
 (!(decide (x = x)))
theorem ev243 (x : Int) : evC (R' := [.cell .b]) P KK T240 LOrc.none 243 [.cell .i] (x, ()) = some (F243 x) := by kernel_rfl
def g243 : Sig := ⟨[.cell .i], [.cell .b]⟩
def T243 {R : Type} : Orc R := fun f args h k => bif Nat.beq f 243 then contract g243 (fun d => some (F243 d.1)) args h k else T240 f args h k
def K242 {R : Type} (kk : Int → R) (x y : Int) : R :=
 bif (F243 x) then
  bif (F243 y) then
   kk 0
  else kk (-1)
 else bif (F243 y) then
  kk 1
 else bif decide (x < y) then
  kk (-1)
 else bif decide (y < x) then
  kk 1
 else kk 0
def F242 (x y : Int) : Int := K242 (fun r => r) x y
theorem ev242 (x y : Int) : evC (R' := [.cell .i]) P KK T243 LOrc.none 242 [.cell .i, .cell .i] (x, y, ()) = some (F242 x y) := by
 rw [show evC (R' := [.cell .i]) P KK T243 LOrc.none 242 [.cell .i, .cell .i] (x, y, ()) = K242 some x y from by kernel_rfl]
 simp only [F242, K242, some_cond]
 try rfl
def g242 : Sig := ⟨[.cell .i, .cell .i], [.cell .i]⟩
def T242 {R : Type} : Orc R := fun f args h k => bif Nat.beq f 242 then contract g242 (fun d => some (F242 d.1 d.2.1)) args h k else T243 f args h k
end Go.Abs
