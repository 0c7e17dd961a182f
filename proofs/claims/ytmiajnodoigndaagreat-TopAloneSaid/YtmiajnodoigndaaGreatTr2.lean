/- Own: Functions of the program as Lean functions, and that the interpreter comes to them. -/
import Derived.Test.YtmiajnodoigndaaGreatTr1
set_option linter.unusedVariables false
set_option linter.unusedSimpArgs false
set_option maxRecDepth 1000000
set_option maxHeartbeats 16000000
namespace Go.Abs
def S160_126_2 {R : Type} (e0 : Int → Option R) (e1 : Option R) (y1 : Int) (y3 : List Live) (y4 : Int) (rec : Int → Option R) (y2 : Int) : Option R :=
 bif decide (y2 < y1) then
  bif (decide (0 ≤ y2) && decide (y2 < (y3.length : Int))) then (match y3[(Int.toNat y2)]? with
   | some x5 => (match (F127 x5 y4) with
    | some r6 => bif (!r6) then
      e0 y2
     else rec (wI (y2 + 1))
    | none => none)
   | none => none)
  else none
 else e1
def L160_126_2 {R : Type} (e0 : Int → Option R) (e1 : Option R) (y1 : Int) (y3 : List Live) (y4 : Int) : Nat → Int → Option R
 | 0 => fun _ => none
 | n + 1 => S160_126_2  e0 e1 y1 y3 y4 (L160_126_2  e0 e1 y1 y3 y4 n)
def ps160_126_2 : PSt := { live := [0, 1, 7, 8], nt := 19, env := [.whole 0, .fn 126 [1], .i, .i], heap := [.typ false true false 0 .live, .gen false false false 0 1 [[.i]]] }
abbrev st160_126_2 (y1 y2 : Int) (y3 : List Live) (y4 : Int) : St := ⟨[.whole 0, .fn (.func 126) [] [.ptr 1 0 0], dd, dd, dd, dd, dd, I y1, I y2, dd, dd, dd, dd, dd, dd, dd, dd, dd, dd], [some ⟨false, true, false, 0, .typ .live y3⟩, some ⟨false, false, false, 0, .gen 1 [[I y4]]⟩]⟩
abbrev sx160_126_2_0 (z0 : Int) (z1 : List Live) (z2 : Int) : St := ⟨[dd, dd, dd, dd, I z0, dd, dd, dd, dd, dd, dd, dd, dd, dd, dd, dd, dd, dd, dd], [some ⟨false, true, false, 0, .typ .live z1⟩, some ⟨false, false, false, 0, .gen 1 [[I z2]]⟩]⟩
abbrev sx160_126_2_1 (z0 : List Live) (z1 : Int) : St := ⟨[dd, dd, dd, dd, dd, dd, dd, dd, dd, dd, dd, dd, dd, dd, dd, dd, dd, dd, dd], [some ⟨false, true, false, 0, .typ .live z0⟩, some ⟨false, false, false, 0, .gen 1 [[I z1]]⟩]⟩
theorem ly160_126_2 (y1 y2 : Int) (y3 : List Live) (y4 : Int) : layS ps160_126_2 (y1, y2, y3, y4, ()) = st160_126_2 y1 y2 y3 y4 := by kernel_rfl
abbrev E160_126_2_0 {R : Type} (k : Ex → St → Option R) (y3 : List Live) (y4 z0 : Int) : Option R := k .ret (sx160_126_2_0 z0 y3 y4)
abbrev E160_126_2_1 {R : Type} (k : Ex → St → Option R) (y3 : List Live) (y4 : Int) : Option R := k (.exit 0) (sx160_126_2_1 y3 y4)
noncomputable abbrev J160_126_2 {R : Type} (n : Nat) (y1 : Int) (y3 : List Live) (y4 y2 : Int) (k : Ex → St → Option R) : Option R :=
 iter (ev P KK T127 LOrc.none 300 160 (loopOf P 160 2)) (headL P KK (KK.ann 160 2) 2) (gcL (KK.ann 160 2).out 2) n (st160_126_2 y1 y2 y3 y4) k
theorem k160_126_2 {R : Type} (n : Nat) (y1 : Int) (y3 : List Live) (y4 y2 : Int) (k : Ex → St → Option R) : J160_126_2  (n + 1) y1 y3 y4 y2 k = S160_126_2  (E160_126_2_0 k y3 y4) (E160_126_2_1 k y3 y4) y1 y3 y4 (fun y2 => J160_126_2  n y1 y3 y4 y2 k) y2 := by kernel_rfl
theorem it160_126_2 {R : Type} (y1 : Int) (y3 : List Live) (y4 : Int) (k : Ex → St → Option R) : ∀ (n : Nat) (y2 : Int), J160_126_2  n y1 y3 y4 y2 k = L160_126_2  (E160_126_2_0 k y3 y4) (E160_126_2_1 k y3 y4) y1 y3 y4 n y2 := by
 intro n
 induction n with
 | zero => intros; rfl
 | succ n ih =>
  intro y2
  rw [k160_126_2, show (fun y2 => J160_126_2  n y1 y3 y4 y2 k) = L160_126_2  (E160_126_2_0 k y3 y4) (E160_126_2_1 k y3 y4) y1 y3 y4 n from by funext y2; exact ih y2]
  rfl
def lb160_126_2 {R : Type} (lf : Nat) (d : ps160_126_2.D) (k : Ex → St → Option R) : Option R := match d with
 | (y1, y2, y3, y4, ()) => L160_126_2  (E160_126_2_0 k y3 y4) (E160_126_2_1 k y3 y4) y1 y3 y4 lf y2
def lt160_126_2 {R : Type} (lf : Nat) : LOrc R := fun f id n0 st k => bif Nat.beq f 160 && (Nat.beq id 2 && Nat.beq n0 2) then readS ps160_126_2 st fun d => lb160_126_2 lf d k else LOrc.none f id n0 st k
def F160_126 (lf : Nat) (s : List Live) (c1_0_0 : Int) : Option (Int) :=
 L160_126_2 (fun z7 => some z7) (some (-1)) (s.length : Int) s c1_0_0 lf 0
theorem ev160_126 (lf : Nat) (s : List Live) (c1_0_0 : Int) : evC (R' := [.cell .i]) P KK T127 (lt160_126_2 lf) 160 [.cell (.sl .live), .clo 126 [[.i]]] (s, ((c1_0_0, ()), ()), ()) = F160_126 lf s c1_0_0 := by kernel_rfl
def g160_126 : Sig := ⟨[.cell (.sl .live), .clo 126 [[.i]]], [.cell .i]⟩
def T160_126 {R : Type} : Orc R := fun f args h k => bif Nat.beq f 160 && cloIs 1 126 args then contract g160_126 (fun d => F160_126 fuel d.1 d.2.1.1.1) args h k else T127 f args h k
def F88 (l : List Live) (now : Int) : Option (Bool) :=
 bif decide (4 < (l.length : Int)) then
  some false
 else bif (!(F124 now 0 549755813888)) then
  some false
 else (match (F160_126 fuel l now) with
 | some r1 => some (!(decide (0 ≤ r1)))
 | none => none)
theorem ev88 (l : List Live) (now : Int) : evC (R' := [.cell .b]) P KK T160_126 LOrc.none 88 [.cell (.sl .live), .cell .i] (l, now, ()) = F88 l now := by kernel_rfl
def g88 : Sig := ⟨[.cell (.sl .live), .cell .i], [.cell .b]⟩
def T88 {R : Type} : Orc R := fun f args h k => bif Nat.beq f 88 then contract g88 (fun d => F88 d.1 d.2.1) args h k else T160_126 f args h k
def g162 : Sig := ⟨[.cell (.sl .live)], [.cell (.own .live 159)]⟩
def T162 {R : Type} : Orc R := fun f args h k => bif Nat.beq f 162 then contract g162 (fun d => cloneB d.1) args h k else T88 f args h k
def S129_3 {R : Type} (e0 : (List Live) → Option R) (y2 y3 : Int) (y5 : List Live) (rec : Int → (List Live) → Option R) (y4 : Int) (y6 : List Live) : Option R :=
 bif decide (y4 < y3) then
  bif (decide (0 ≤ y4) && decide (y4 < (y6.length : Int))) then (match y6[(Int.toNat y4)]? with
   | some x7 => bif decide (y2 < x7.At) then
     rec (wI (y4 + 1)) y6
    else (match (F150 x7.S x7.N y2 (wI (y2 + x7.P)) x7.S.C) with
    | some r8 => bif (decide (0 ≤ y4) && decide (y4 < (y6.length : Int))) then (match y6[(Int.toNat y4)]? with
      | some x9 => rec (wI (y4 + 1)) (y6.set (Int.toNat y4) (Live.mk x7.S r8.1 x7.P (wI (y2 + x7.P)) (wI (x7.N + 1))))
      | none => none)
     else none
    | none => none)
   | none => none)
  else none
 else e0 y6
def L129_3 {R : Type} (e0 : (List Live) → Option R) (y2 y3 : Int) (y5 : List Live) : Nat → Int → (List Live) → Option R
 | 0 => fun _ _ => none
 | n + 1 => S129_3  e0 y2 y3 y5 (L129_3  e0 y2 y3 y5 n)
def ps129_3 : PSt := { live := [1, 5, 10, 11, 12], nt := 53, env := [.i, .whole 1, .whole 1, .i, .i], heap := [.typ false true false 0 .live, .typ true true false 159 .live] }
abbrev st129_3 (y2 y3 y4 : Int) (y5 y6 : List Live) : St := ⟨[dd, I y2, dd, dd, dd, .whole 1, dd, dd, dd, dd, .whole 1, I y3, I y4, dd, dd, dd, dd, dd, dd, dd, dd, dd, dd, dd, dd, dd, dd, dd, dd, dd, dd, dd, dd, dd, dd, dd, dd, dd, dd, dd, dd, dd, dd, dd, dd, dd, dd, dd, dd, dd, dd, dd, dd], [some ⟨false, true, false, 0, .typ .live y5⟩, some ⟨true, true, false, 159, .typ .live y6⟩]⟩
abbrev sx129_3_0 (z0 z1 : List Live) : St := ⟨[dd, dd, dd, dd, dd, .whole 1, dd, dd, dd, dd, dd, dd, dd, dd, dd, dd, dd, dd, dd, dd, dd, dd, dd, dd, dd, dd, dd, dd, dd, dd, dd, dd, dd, dd, dd, dd, dd, dd, dd, dd, dd, dd, dd, dd, dd, dd, dd, dd, dd, dd, dd, dd, dd], [some ⟨false, true, false, 0, .typ .live z0⟩, some ⟨true, true, false, 159, .typ .live z1⟩]⟩
theorem ly129_3 (y2 y3 y4 : Int) (y5 y6 : List Live) : layS ps129_3 (y2, y3, y4, y5, y6, ()) = st129_3 y2 y3 y4 y5 y6 := by kernel_rfl
abbrev E129_3_0 {R : Type} (k : Ex → St → Option R) (y5 z1 : List Live) : Option R := k (.exit 0) (sx129_3_0 y5 z1)
noncomputable abbrev J129_3 {R : Type} (n : Nat) (y2 y3 : Int) (y5 : List Live) (y4 : Int) (y6 : List Live) (k : Ex → St → Option R) : Option R :=
 iter (ev P KK T162 LOrc.none 300 129 (loopOf P 129 3)) (headL P KK (KK.ann 129 3) 2) (gcL (KK.ann 129 3).out 2) n (st129_3 y2 y3 y4 y5 y6) k
theorem k129_3 {R : Type} (n : Nat) (y2 y3 : Int) (y5 : List Live) (y4 : Int) (y6 : List Live) (k : Ex → St → Option R) : J129_3  (n + 1) y2 y3 y5 y4 y6 k = S129_3  (E129_3_0 k y5) y2 y3 y5 (fun y4 y6 => J129_3  n y2 y3 y5 y4 y6 k) y4 y6 := by kernel_rfl
theorem it129_3 {R : Type} (y2 y3 : Int) (y5 : List Live) (k : Ex → St → Option R) : ∀ (n : Nat) (y4 : Int) (y6 : List Live), J129_3  n y2 y3 y5 y4 y6 k = L129_3  (E129_3_0 k y5) y2 y3 y5 n y4 y6 := by
 intro n
 induction n with
 | zero => intros; rfl
 | succ n ih =>
  intro y4 y6
  rw [k129_3, show (fun y4 y6 => J129_3  n y2 y3 y5 y4 y6 k) = L129_3  (E129_3_0 k y5) y2 y3 y5 n from by funext y4 y6; exact ih y4 y6]
  rfl
def lb129_3 {R : Type} (lf : Nat) (d : ps129_3.D) (k : Ex → St → Option R) : Option R := match d with
 | (y2, y3, y4, y5, y6, ()) => L129_3  (E129_3_0 k y5) y2 y3 y5 lf y4 y6
def lt129_3 {R : Type} (lf : Nat) : LOrc R := fun f id n0 st k => bif Nat.beq f 129 && (Nat.beq id 3 && Nat.beq n0 2) then readS ps129_3 st fun d => lb129_3 lf d k else LOrc.none f id n0 st k
def F129 (lf : Nat) (l : List Live) (now : Int) : Option (List Live) :=
 (match (cloneB l) with
 | some r1 => L129_3 (fun z10 => some z10) now (r1.length : Int) l lf 0 r1
 | none => none)
theorem ev129 (lf : Nat) (l : List Live) (now : Int) : evC (R' := [.cell (.own .live 159)]) P KK T162 (lt129_3 lf) 129 [.cell (.sl .live), .cell .i] (l, now, ()) = F129 lf l now := by kernel_rfl
def g129 : Sig := ⟨[.cell (.sl .live), .cell .i], [.cell (.own .live 159)]⟩
def T129 {R : Type} : Orc R := fun f args h k => bif Nat.beq f 129 then contract g129 (fun d => F129 fuel d.1 d.2.1) args h k else T162 f args h k
def S128_4 {R : Type} (e0 : Int → Option R) (y1 : Int) (y3 : List Live) (rec : Int → Int → Option R) (y2 y4 : Int) : Option R :=
 bif decide (y2 < y1) then
  bif (decide (0 ≤ y2) && decide (y2 < (y3.length : Int))) then (match y3[(Int.toNat y2)]? with
   | some x5 => bif (F132 x5.J) then
     bif decide (y4 = (-1)) then
      rec (wI (y2 + 1)) y2
     else bif (decide (0 ≤ y2) && decide (y2 < (y3.length : Int))) then (match y3[(Int.toNat y2)]? with
      | some x6 => bif (decide (0 ≤ y4) && decide (y4 < (y3.length : Int))) then (match y3[(Int.toNat y4)]? with
        | some x7 => bif decide (x6.J.Due < x7.J.Due) then
          rec (wI (y2 + 1)) y2
         else rec (wI (y2 + 1)) y4
        | none => none)
       else none
      | none => none)
     else none
    else rec (wI (y2 + 1)) y4
   | none => none)
  else none
 else e0 y4
def L128_4 {R : Type} (e0 : Int → Option R) (y1 : Int) (y3 : List Live) : Nat → Int → Int → Option R
 | 0 => fun _ _ => none
 | n + 1 => S128_4  e0 y1 y3 (L128_4  e0 y1 y3 n)
def ps128_4 : PSt := { live := [1, 3, 4, 8, 9], nt := 26, env := [.ptr 1 0 0, .ptr 2 0 0, .fn 161 [2, 1], .i, .i], heap := [.typ false true false 0 .live, .gen true false false 0 1 [[.whole 0]], .gen true false false 0 1 [[.i]]] }
abbrev st128_4 (y1 y2 : Int) (y3 : List Live) (y4 : Int) : St := ⟨[dd, .ptr 1 0 0, dd, .ptr 2 0 0, .fn (.func 161) [] [.ptr 2 0 0, .ptr 1 0 0], dd, dd, dd, I y1, I y2, dd, dd, dd, dd, dd, dd, dd, dd, dd, dd, dd, dd, dd, dd, dd, dd], [some ⟨false, true, false, 0, .typ .live y3⟩, some ⟨true, false, false, 0, .gen 1 [[.whole 0]]⟩, some ⟨true, false, false, 0, .gen 1 [[I y4]]⟩]⟩
abbrev sx128_4_0 (z0 : List Live) (z1 : Int) : St := ⟨[dd, dd, dd, .ptr 2 0 0, dd, dd, dd, dd, dd, dd, dd, dd, dd, dd, dd, dd, dd, dd, dd, dd, dd, dd, dd, dd, dd, dd], [some ⟨false, true, false, 0, .typ .live z0⟩, some ⟨true, false, false, 0, .gen 1 [[.whole 0]]⟩, some ⟨true, false, false, 0, .gen 1 [[I z1]]⟩]⟩
theorem ly128_4 (y1 y2 : Int) (y3 : List Live) (y4 : Int) : layS ps128_4 (y1, y2, y3, y4, ()) = st128_4 y1 y2 y3 y4 := by kernel_rfl
abbrev E128_4_0 {R : Type} (k : Ex → St → Option R) (y3 : List Live) (z1 : Int) : Option R := k (.exit 0) (sx128_4_0 y3 z1)
noncomputable abbrev J128_4 {R : Type} (n : Nat) (y1 : Int) (y3 : List Live) (y2 y4 : Int) (k : Ex → St → Option R) : Option R :=
 iter (ev P KK T129 LOrc.none 300 128 (loopOf P 128 4)) (headL P KK (KK.ann 128 4) 3) (gcL (KK.ann 128 4).out 3) n (st128_4 y1 y2 y3 y4) k
theorem k128_4 {R : Type} (n : Nat) (y1 : Int) (y3 : List Live) (y2 y4 : Int) (k : Ex → St → Option R) : J128_4  (n + 1) y1 y3 y2 y4 k = S128_4  (E128_4_0 k y3) y1 y3 (fun y2 y4 => J128_4  n y1 y3 y2 y4 k) y2 y4 := by kernel_rfl
theorem it128_4 {R : Type} (y1 : Int) (y3 : List Live) (k : Ex → St → Option R) : ∀ (n : Nat) (y2 y4 : Int), J128_4  n y1 y3 y2 y4 k = L128_4  (E128_4_0 k y3) y1 y3 n y2 y4 := by
 intro n
 induction n with
 | zero => intros; rfl
 | succ n ih =>
  intro y2 y4
  rw [k128_4, show (fun y2 y4 => J128_4  n y1 y3 y2 y4 k) = L128_4  (E128_4_0 k y3) y1 y3 n from by funext y2 y4; exact ih y2 y4]
  rfl
def lb128_4 {R : Type} (lf : Nat) (d : ps128_4.D) (k : Ex → St → Option R) : Option R := match d with
 | (y1, y2, y3, y4, ()) => L128_4  (E128_4_0 k y3) y1 y3 lf y2 y4
def lt128_4 {R : Type} (lf : Nat) : LOrc R := fun f id n0 st k => bif Nat.beq f 128 && (Nat.beq id 4 && Nat.beq n0 3) then readS ps128_4 st fun d => lb128_4 lf d k else LOrc.none f id n0 st k
def F128 (lf : Nat) (l : List Live) : Option (Int) :=
 L128_4 (fun z8 => some z8) (l.length : Int) l lf 0 (-1)
theorem ev128 (lf : Nat) (l : List Live) : evC (R' := [.cell .i]) P KK T129 (lt128_4 lf) 128 [.cell (.sl .live)] (l, ()) = F128 lf l := by kernel_rfl
def g128 : Sig := ⟨[.cell (.sl .live)], [.cell .i]⟩
def T128 {R : Type} : Orc R := fun f args h k => bif Nat.beq f 128 then contract g128 (fun d => F128 fuel d.1) args h k else T129 f args h k
def F89 (l : List Live) : Option (Bool) :=
 (match (F128 fuel l) with
 | some r1 => some (decide (r1 = (-1)))
 | none => none)
theorem ev89 (l : List Live) : evC (R' := [.cell .b]) P KK T128 LOrc.none 89 [.cell (.sl .live)] (l, ()) = F89 l := by kernel_rfl
def g89 : Sig := ⟨[.cell (.sl .live)], [.cell .b]⟩
def T89 {R : Type} : Orc R := fun f args h k => bif Nat.beq f 89 then contract g89 (fun d => F89 d.1) args h k else T128 f args h k
def S90_7 {R : Type} (e0 : Bool → (List Live) → Option R) (y6 y8 : Int) (y10 : List Live) (rec : Bool → Int → (List Live) → Option R) (y7 : Bool) (y9 : Int) (y11 : List Live) : Option R :=
 bif decide (y9 < y8) then
  bif (decide (0 ≤ y9) && decide (y9 < (y11.length : Int))) then (match y11[(Int.toNat y9)]? with
   | some x12 => let r13 := (F131 x12.J (wI (y6 + 1)))
    bif y7 then
     bif (decide (0 ≤ y9) && decide (y9 < (y11.length : Int))) then (match y11[(Int.toNat y9)]? with
      | some x14 => rec true (wI (y9 + 1)) (y11.set (Int.toNat y9) (Live.mk x14.S r13.1 x14.P x14.At x14.N))
      | none => none)
     else none
    else bif decide (r13.2 = 3) then
     bif (decide (0 ≤ y9) && decide (y9 < (y11.length : Int))) then (match y11[(Int.toNat y9)]? with
      | some x15 => rec (F132 x12.J) (wI (y9 + 1)) (y11.set (Int.toNat y9) (Live.mk x15.S r13.1 x15.P x15.At x15.N))
      | none => none)
     else none
    else bif (decide (0 ≤ y9) && decide (y9 < (y11.length : Int))) then (match y11[(Int.toNat y9)]? with
     | some x16 => rec false (wI (y9 + 1)) (y11.set (Int.toNat y9) (Live.mk x16.S r13.1 x16.P x16.At x16.N))
     | none => none)
    else none
   | none => none)
  else none
 else e0 y7 y11
def L90_7 {R : Type} (e0 : Bool → (List Live) → Option R) (y6 y8 : Int) (y10 : List Live) : Nat → Bool → Int → (List Live) → Option R
 | 0 => fun _ _ _ => none
 | n + 1 => S90_7  e0 y6 y8 y10 (L90_7  e0 y6 y8 y10 n)
def ps90_7 : PSt := { live := [1, 6, 8, 33, 34, 35], nt := 66, env := [.i, .whole 1, .b, .whole 1, .i, .i], heap := [.typ false true false 0 .live, .typ true true false 159 .live] }
abbrev st90_7 (y6 : Int) (y7 : Bool) (y8 y9 : Int) (y10 y11 : List Live) : St := ⟨[dd, I y6, dd, dd, dd, dd, .whole 1, dd, .bool y7, dd, dd, dd, dd, dd, dd, dd, dd, dd, dd, dd, dd, dd, dd, dd, dd, dd, dd, dd, dd, dd, dd, dd, dd, .whole 1, I y8, I y9, dd, dd, dd, dd, dd, dd, dd, dd, dd, dd, dd, dd, dd, dd, dd, dd, dd, dd, dd, dd, dd, dd, dd, dd, dd, dd, dd, dd, dd, dd], [some ⟨false, true, false, 0, .typ .live y10⟩, some ⟨true, true, false, 159, .typ .live y11⟩]⟩
abbrev sx90_7_0 (z0 : Bool) (z1 z2 : List Live) : St := ⟨[dd, dd, dd, dd, dd, dd, .whole 1, dd, .bool z0, dd, dd, dd, dd, dd, dd, dd, dd, dd, dd, dd, dd, dd, dd, dd, dd, dd, dd, dd, dd, dd, dd, dd, dd, dd, dd, dd, dd, dd, dd, dd, dd, dd, dd, dd, dd, dd, dd, dd, dd, dd, dd, dd, dd, dd, dd, dd, dd, dd, dd, dd, dd, dd, dd, dd, dd, dd], [some ⟨false, true, false, 0, .typ .live z1⟩, some ⟨true, true, false, 159, .typ .live z2⟩]⟩
theorem ly90_7 (y6 : Int) (y7 : Bool) (y8 y9 : Int) (y10 y11 : List Live) : layS ps90_7 (y6, y7, y8, y9, y10, y11, ()) = st90_7 y6 y7 y8 y9 y10 y11 := by kernel_rfl
abbrev E90_7_0 {R : Type} (k : Ex → St → Option R) (y10 : List Live) (z0 : Bool) (z2 : List Live) : Option R := k (.exit 0) (sx90_7_0 z0 y10 z2)
noncomputable abbrev J90_7 {R : Type} (n : Nat) (y6 y8 : Int) (y10 : List Live) (y7 : Bool) (y9 : Int) (y11 : List Live) (k : Ex → St → Option R) : Option R :=
 iter (ev P KK T89 LOrc.none 300 90 (loopOf P 90 7)) (headL P KK (KK.ann 90 7) 2) (gcL (KK.ann 90 7).out 2) n (st90_7 y6 y7 y8 y9 y10 y11) k
theorem k90_7 {R : Type} (n : Nat) (y6 y8 : Int) (y10 : List Live) (y7 : Bool) (y9 : Int) (y11 : List Live) (k : Ex → St → Option R) : J90_7  (n + 1) y6 y8 y10 y7 y9 y11 k = S90_7  (E90_7_0 k y10) y6 y8 y10 (fun y7 y9 y11 => J90_7  n y6 y8 y10 y7 y9 y11 k) y7 y9 y11 := by kernel_rfl
theorem it90_7 {R : Type} (y6 y8 : Int) (y10 : List Live) (k : Ex → St → Option R) : ∀ (n : Nat) (y7 : Bool) (y9 : Int) (y11 : List Live), J90_7  n y6 y8 y10 y7 y9 y11 k = L90_7  (E90_7_0 k y10) y6 y8 y10 n y7 y9 y11 := by
 intro n
 induction n with
 | zero => intros; rfl
 | succ n ih =>
  intro y7 y9 y11
  rw [k90_7, show (fun y7 y9 y11 => J90_7  n y6 y8 y10 y7 y9 y11 k) = L90_7  (E90_7_0 k y10) y6 y8 y10 n from by funext y7 y9 y11; exact ih y7 y9 y11]
  rfl
def lb90_7 {R : Type} (lf : Nat) (d : ps90_7.D) (k : Ex → St → Option R) : Option R := match d with
 | (y6, y7, y8, y9, y10, y11, ()) => L90_7  (E90_7_0 k y10) y6 y8 y10 lf y7 y9 y11
def lt90_7 {R : Type} (lf : Nat) : LOrc R := fun f id n0 st k => bif Nat.beq f 90 && (Nat.beq id 7 && Nat.beq n0 2) then readS ps90_7 st fun d => lb90_7 lf d k else LOrc.none f id n0 st k
def F90 (lf : Nat) (l : List Live) (now : Int) : Option ((List Live) × Bool) :=
 (match (F129 fuel l now) with
 | some r1 => (match (F128 fuel r1) with
  | some r2 => bif (!(decide (r2 = (-1)))) then
    bif (decide (0 ≤ r2) && decide (r2 < (r1.length : Int))) then (match r1[(Int.toNat r2)]? with
     | some x3 => let r4 := (F130 x3.J)
      bif (decide (0 ≤ r2) && decide (r2 < (r1.length : Int))) then (match r1[(Int.toNat r2)]? with
       | some x5 => L90_7 (fun z17 z18 => some (z18, z17)) now ((r1.set (Int.toNat r2) (Live.mk x5.S r4.1 x5.P x5.At x5.N)).length : Int) l lf false 0 (r1.set (Int.toNat r2) (Live.mk x5.S r4.1 x5.P x5.At x5.N))
       | none => none)
      else none
     | none => none)
    else none
   else L90_7 (fun z19 z20 => some (z20, z19)) now (r1.length : Int) l lf false 0 r1
  | none => none)
 | none => none)
theorem ev90 (lf : Nat) (l : List Live) (now : Int) : evC (R' := [.cell (.own .live 159), .cell .b]) P KK T89 (lt90_7 lf) 90 [.cell (.sl .live), .cell .i] (l, now, ()) = F90 lf l now := by kernel_rfl
def g90 : Sig := ⟨[.cell (.sl .live), .cell .i], [.cell (.own .live 159), .cell .b]⟩
def T90 {R : Type} : Orc R := fun f args h k => bif Nat.beq f 90 then contract g90 (fun d => F90 fuel d.1 d.2.1) args h k else T89 f args h k
def S56_4 {R : Type} (e0 : Int → Bool → Option R) (e1 : Option R) (y2 : Int) (y4 : List Live) (rec : Int → (List Live) → Option R) (y3 : Int) (y5 : List Live) : Option R :=
 bif decide (y3 < 2000) then
  (match (F89 y5) with
  | some r6 => bif r6 then
    e0 (wI (y2 + y3)) true
   else (match (F90 fuel y5 (wI (y2 + y3))) with
   | some r7 => bif r7.2 then
     e0 (wI (y2 + y3)) false
    else rec (wI (y3 + 1)) r7.1
   | none => none)
  | none => none)
 else e1
def L56_4 {R : Type} (e0 : Int → Bool → Option R) (e1 : Option R) (y2 : Int) (y4 : List Live) : Nat → Int → (List Live) → Option R
 | 0 => fun _ _ => none
 | n + 1 => S56_4  e0 e1 y2 y4 (L56_4  e0 e1 y2 y4 n)
def ps56_4 : PSt := { live := [0, 1, 13], nt := 37, env := [.whole 1, .i, .i], heap := [.typ false true false 0 .live, .typ false true false 0 .live] }
abbrev st56_4 (y2 y3 : Int) (y4 y5 : List Live) : St := ⟨[.whole 1, I y2, dd, dd, dd, dd, dd, dd, dd, dd, dd, dd, dd, I y3, dd, dd, dd, dd, dd, dd, dd, dd, dd, dd, dd, dd, dd, dd, dd, dd, dd, dd, dd, dd, dd, dd, dd], [some ⟨false, true, false, 0, .typ .live y4⟩, some ⟨false, true, false, 0, .typ .live y5⟩]⟩
abbrev sx56_4_0 (z0 z1 : Int) (z2 : Bool) (z3 : List Live) : St := ⟨[dd, I z0, dd, dd, I z1, .bool z2, dd, dd, dd, dd, dd, dd, dd, dd, dd, dd, dd, dd, dd, dd, dd, dd, dd, dd, dd, dd, dd, dd, dd, dd, dd, dd, dd, dd, dd, dd, dd], [some ⟨false, true, false, 0, .typ .live z3⟩]⟩
abbrev sx56_4_1 (z0 : Int) (z1 : List Live) : St := ⟨[dd, I z0, dd, dd, dd, dd, dd, dd, dd, dd, dd, dd, dd, dd, dd, dd, dd, dd, dd, dd, dd, dd, dd, dd, dd, dd, dd, dd, dd, dd, dd, dd, dd, dd, dd, dd, dd], [some ⟨false, true, false, 0, .typ .live z1⟩]⟩
theorem ly56_4 (y2 y3 : Int) (y4 y5 : List Live) : layS ps56_4 (y2, y3, y4, y5, ()) = st56_4 y2 y3 y4 y5 := by kernel_rfl
abbrev E56_4_0 {R : Type} (k : Ex → St → Option R) (y2 : Int) (y4 : List Live) (z1 : Int) (z2 : Bool) : Option R := k .ret (sx56_4_0 y2 z1 z2 y4)
abbrev E56_4_1 {R : Type} (k : Ex → St → Option R) (y2 : Int) (y4 : List Live) : Option R := k (.exit 0) (sx56_4_1 y2 y4)
noncomputable abbrev J56_4 {R : Type} (n : Nat) (y2 : Int) (y4 : List Live) (y3 : Int) (y5 : List Live) (k : Ex → St → Option R) : Option R :=
 iter (ev P KK T90 LOrc.none 300 56 (loopOf P 56 4)) (headL P KK (KK.ann 56 4) 1) (gcL (KK.ann 56 4).out 1) n (st56_4 y2 y3 y4 y5) k
theorem k56_4 {R : Type} (n : Nat) (y2 : Int) (y4 : List Live) (y3 : Int) (y5 : List Live) (k : Ex → St → Option R) : J56_4  (n + 1) y2 y4 y3 y5 k = S56_4  (E56_4_0 k y2 y4) (E56_4_1 k y2 y4) y2 y4 (fun y3 y5 => J56_4  n y2 y4 y3 y5 k) y3 y5 := by kernel_rfl
theorem it56_4 {R : Type} (y2 : Int) (y4 : List Live) (k : Ex → St → Option R) : ∀ (n : Nat) (y3 : Int) (y5 : List Live), J56_4  n y2 y4 y3 y5 k = L56_4  (E56_4_0 k y2 y4) (E56_4_1 k y2 y4) y2 y4 n y3 y5 := by
 intro n
 induction n with
 | zero => intros; rfl
 | succ n ih =>
  intro y3 y5
  rw [k56_4, show (fun y3 y5 => J56_4  n y2 y4 y3 y5 k) = L56_4  (E56_4_0 k y2 y4) (E56_4_1 k y2 y4) y2 y4 n from by funext y3 y5; exact ih y3 y5]
  rfl
def lb56_4 {R : Type} (lf : Nat) (d : ps56_4.D) (k : Ex → St → Option R) : Option R := match d with
 | (y2, y3, y4, y5, ()) => L56_4  (E56_4_0 k y2 y4) (E56_4_1 k y2 y4) y2 y4 lf y3 y5
def lt56_4 {R : Type} (lf : Nat) : LOrc R := fun f id n0 st k => bif Nat.beq f 56 && (Nat.beq id 4 && Nat.beq n0 1) then readS ps56_4 st fun d => lb56_4 lf d k else LOrc.none f id n0 st k
def F56 (lf : Nat) (l : List Live) (now : Int) : Option (Int × Bool) :=
 (match (F88 l now) with
 | some r1 => bif (!r1) then
   some (0, false)
  else L56_4 (fun z8 z9 => some (z8, z9)) (some ((wI (now + 2000)), false)) now l lf 0 l
 | none => none)
theorem ev56 (lf : Nat) (l : List Live) (now : Int) : evC (R' := [.cell .i, .cell .b]) P KK T90 (lt56_4 lf) 56 [.cell (.sl .live), .cell .i] (l, now, ()) = F56 lf l now := by kernel_rfl
def g56 : Sig := ⟨[.cell (.sl .live), .cell .i], [.cell .i, .cell .b]⟩
def T56 {R : Type} : Orc R := fun f args h k => bif Nat.beq f 56 then contract g56 (fun d => F56 fuel d.1 d.2.1) args h k else T90 f args h k
def F29 (r : Ring) : Option (Bool) :=
 bif decide (0 ≤ r.N) then
  bif decide (r.N ≤ 60) then
   bif decide (r.N < 0) then none
   else some (decide ((shr .u64 r.B r.N) = 0))
  else some false
 else some false
theorem ev29 (r : Ring) : evC (R' := [.cell .b]) P KK T56 LOrc.none 29 [.el .ring] (r, ()) = F29 r := by kernel_rfl
def g29 : Sig := ⟨[.el .ring], [.cell .b]⟩
def T29 {R : Type} : Orc R := fun f args h k => bif Nat.beq f 29 then contract g29 (fun d => F29 d.1) args h k else T56 f args h k
def F13 (r : Ring) : Option (Ring) :=
 (match (F29 r) with
 | some r1 => bif (!r1) then
   some (Ring.mk 0 0)
  else some r
 | none => none)
theorem ev13 (r : Ring) : evC (R' := [.el .ring]) P KK T29 LOrc.none 13 [.el .ring] (r, ()) = F13 r := by kernel_rfl
def g13 : Sig := ⟨[.el .ring], [.el .ring]⟩
def T13 {R : Type} : Orc R := fun f args h k => bif Nat.beq f 13 then contract g13 (fun d => F13 d.1) args h k else T29 f args h k
def F15 (n : Int) : Option (Int) :=
 bif decide (n < 0) then none
 else some (wU ((shl .u64 1 n) - 1))
theorem ev15 (n : Int) : evC (R' := [.cell .u]) P KK T13 LOrc.none 15 [.cell .i] (n, ()) = F15 n := by kernel_rfl
def g15 : Sig := ⟨[.cell .i], [.cell .u]⟩
def T15 {R : Type} : Orc R := fun f args h k => bif Nat.beq f 15 then contract g15 (fun d => F15 d.1) args h k else T13 f args h k
def F14 (x : Int) : Int :=
 (bits .and .i64 (wI (wU ((wU ((wU ((bits .and .u64 (wU ((shr .u64 (wU ((bits .and .u64 (shr .u64 (wU ((bits .and .u64 (shr .u64 x 1) 6148914691236517205) + (bits .and .u64 x 6148914691236517205))) 2) 3689348814741910323) + (bits .and .u64 (wU ((bits .and .u64 (shr .u64 x 1) 6148914691236517205) + (bits .and .u64 x 6148914691236517205))) 3689348814741910323))) 4) + (wU ((bits .and .u64 (shr .u64 (wU ((bits .and .u64 (shr .u64 x 1) 6148914691236517205) + (bits .and .u64 x 6148914691236517205))) 2) 3689348814741910323) + (bits .and .u64 (wU ((bits .and .u64 (shr .u64 x 1) 6148914691236517205) + (bits .and .u64 x 6148914691236517205))) 3689348814741910323))))) 1085102592571150095) + (shr .u64 (bits .and .u64 (wU ((shr .u64 (wU ((bits .and .u64 (shr .u64 (wU ((bits .and .u64 (shr .u64 x 1) 6148914691236517205) + (bits .and .u64 x 6148914691236517205))) 2) 3689348814741910323) + (bits .and .u64 (wU ((bits .and .u64 (shr .u64 x 1) 6148914691236517205) + (bits .and .u64 x 6148914691236517205))) 3689348814741910323))) 4) + (wU ((bits .and .u64 (shr .u64 (wU ((bits .and .u64 (shr .u64 x 1) 6148914691236517205) + (bits .and .u64 x 6148914691236517205))) 2) 3689348814741910323) + (bits .and .u64 (wU ((bits .and .u64 (shr .u64 x 1) 6148914691236517205) + (bits .and .u64 x 6148914691236517205))) 3689348814741910323))))) 1085102592571150095) 8))) + (shr .u64 (wU ((bits .and .u64 (wU ((shr .u64 (wU ((bits .and .u64 (shr .u64 (wU ((bits .and .u64 (shr .u64 x 1) 6148914691236517205) + (bits .and .u64 x 6148914691236517205))) 2) 3689348814741910323) + (bits .and .u64 (wU ((bits .and .u64 (shr .u64 x 1) 6148914691236517205) + (bits .and .u64 x 6148914691236517205))) 3689348814741910323))) 4) + (wU ((bits .and .u64 (shr .u64 (wU ((bits .and .u64 (shr .u64 x 1) 6148914691236517205) + (bits .and .u64 x 6148914691236517205))) 2) 3689348814741910323) + (bits .and .u64 (wU ((bits .and .u64 (shr .u64 x 1) 6148914691236517205) + (bits .and .u64 x 6148914691236517205))) 3689348814741910323))))) 1085102592571150095) + (shr .u64 (bits .and .u64 (wU ((shr .u64 (wU ((bits .and .u64 (shr .u64 (wU ((bits .and .u64 (shr .u64 x 1) 6148914691236517205) + (bits .and .u64 x 6148914691236517205))) 2) 3689348814741910323) + (bits .and .u64 (wU ((bits .and .u64 (shr .u64 x 1) 6148914691236517205) + (bits .and .u64 x 6148914691236517205))) 3689348814741910323))) 4) + (wU ((bits .and .u64 (shr .u64 (wU ((bits .and .u64 (shr .u64 x 1) 6148914691236517205) + (bits .and .u64 x 6148914691236517205))) 2) 3689348814741910323) + (bits .and .u64 (wU ((bits .and .u64 (shr .u64 x 1) 6148914691236517205) + (bits .and .u64 x 6148914691236517205))) 3689348814741910323))))) 1085102592571150095) 8))) 16))) + (shr .u64 (wU ((wU ((bits .and .u64 (wU ((shr .u64 (wU ((bits .and .u64 (shr .u64 (wU ((bits .and .u64 (shr .u64 x 1) 6148914691236517205) + (bits .and .u64 x 6148914691236517205))) 2) 3689348814741910323) + (bits .and .u64 (wU ((bits .and .u64 (shr .u64 x 1) 6148914691236517205) + (bits .and .u64 x 6148914691236517205))) 3689348814741910323))) 4) + (wU ((bits .and .u64 (shr .u64 (wU ((bits .and .u64 (shr .u64 x 1) 6148914691236517205) + (bits .and .u64 x 6148914691236517205))) 2) 3689348814741910323) + (bits .and .u64 (wU ((bits .and .u64 (shr .u64 x 1) 6148914691236517205) + (bits .and .u64 x 6148914691236517205))) 3689348814741910323))))) 1085102592571150095) + (shr .u64 (bits .and .u64 (wU ((shr .u64 (wU ((bits .and .u64 (shr .u64 (wU ((bits .and .u64 (shr .u64 x 1) 6148914691236517205) + (bits .and .u64 x 6148914691236517205))) 2) 3689348814741910323) + (bits .and .u64 (wU ((bits .and .u64 (shr .u64 x 1) 6148914691236517205) + (bits .and .u64 x 6148914691236517205))) 3689348814741910323))) 4) + (wU ((bits .and .u64 (shr .u64 (wU ((bits .and .u64 (shr .u64 x 1) 6148914691236517205) + (bits .and .u64 x 6148914691236517205))) 2) 3689348814741910323) + (bits .and .u64 (wU ((bits .and .u64 (shr .u64 x 1) 6148914691236517205) + (bits .and .u64 x 6148914691236517205))) 3689348814741910323))))) 1085102592571150095) 8))) + (shr .u64 (wU ((bits .and .u64 (wU ((shr .u64 (wU ((bits .and .u64 (shr .u64 (wU ((bits .and .u64 (shr .u64 x 1) 6148914691236517205) + (bits .and .u64 x 6148914691236517205))) 2) 3689348814741910323) + (bits .and .u64 (wU ((bits .and .u64 (shr .u64 x 1) 6148914691236517205) + (bits .and .u64 x 6148914691236517205))) 3689348814741910323))) 4) + (wU ((bits .and .u64 (shr .u64 (wU ((bits .and .u64 (shr .u64 x 1) 6148914691236517205) + (bits .and .u64 x 6148914691236517205))) 2) 3689348814741910323) + (bits .and .u64 (wU ((bits .and .u64 (shr .u64 x 1) 6148914691236517205) + (bits .and .u64 x 6148914691236517205))) 3689348814741910323))))) 1085102592571150095) + (shr .u64 (bits .and .u64 (wU ((shr .u64 (wU ((bits .and .u64 (shr .u64 (wU ((bits .and .u64 (shr .u64 x 1) 6148914691236517205) + (bits .and .u64 x 6148914691236517205))) 2) 3689348814741910323) + (bits .and .u64 (wU ((bits .and .u64 (shr .u64 x 1) 6148914691236517205) + (bits .and .u64 x 6148914691236517205))) 3689348814741910323))) 4) + (wU ((bits .and .u64 (shr .u64 (wU ((bits .and .u64 (shr .u64 x 1) 6148914691236517205) + (bits .and .u64 x 6148914691236517205))) 2) 3689348814741910323) + (bits .and .u64 (wU ((bits .and .u64 (shr .u64 x 1) 6148914691236517205) + (bits .and .u64 x 6148914691236517205))) 3689348814741910323))))) 1085102592571150095) 8))) 16))) 32)))) 127)
theorem ev14 (x : Int) : evC (R' := [.cell .i]) P KK T15 LOrc.none 14 [.cell .u] (x, ()) = some (F14 x) := by kernel_rfl
def g14 : Sig := ⟨[.cell .u], [.cell .i]⟩
def T14 {R : Type} : Orc R := fun f args h k => bif Nat.beq f 14 then contract g14 (fun d => some (F14 d.1)) args h k else T15 f args h k
def F200 (r : Ring) (good : Bool) : Option (Ring) :=
 (match (F13 r) with
 | some r1 => (match (F15 60) with
  | some r2 => bif good then
    some (Ring.mk (min (wI (r1.N + 1)) 60) (bits .or .u64 (bits .and .u64 (shl .u64 r1.B 1) r2) 1))
   else some (Ring.mk (min (wI (r1.N + 1)) 60) (bits .and .u64 (shl .u64 r1.B 1) r2))
  | none => none)
 | none => none)
theorem ev200 (r : Ring) (good : Bool) : evC (R' := [.el .ring]) P KK T14 LOrc.none 200 [.el .ring, .cell .b] (r, good, ()) = F200 r good := by kernel_rfl
def g200 : Sig := ⟨[.el .ring, .cell .b], [.el .ring]⟩
def T200 {R : Type} : Orc R := fun f args h k => bif Nat.beq f 200 then contract g200 (fun d => F200 d.1 d.2.1) args h k else T14 f args h k
def F8 (r : Ring) (n : Int) : Option (Int) :=
 (match (F13 r) with
 | some r1 => (match (F15 (min (max n 0) r1.N)) with
  | some r2 => some (F14 (bits .and .u64 r1.B r2))
  | none => none)
 | none => none)
theorem ev8 (r : Ring) (n : Int) : evC (R' := [.cell .i]) P KK T200 LOrc.none 8 [.el .ring, .cell .i] (r, n, ()) = F8 r n := by kernel_rfl
def g8 : Sig := ⟨[.el .ring, .cell .i], [.cell .i]⟩
def T8 {R : Type} : Orc R := fun f args h k => bif Nat.beq f 8 then contract g8 (fun d => F8 d.1 d.2.1) args h k else T200 f args h k
def S238_6 {R : Type} (e0 : Int → Option R) (e1 : Option R) (y3 y4 y5 y6 y8 y9 y10 y11 : Int) (rec : Int → Option R) (y7 : Int) : Option R :=
 bif decide (y7 < y6) then
  (match (F15 (wI (y4 - y7))) with
  | some r12 => bif decide ((F14 (bits .and .u64 y5 r12)) < y3) then
    e0 y7
   else rec (wI (y7 + 1))
  | none => none)
 else e1
def L238_6 {R : Type} (e0 : Int → Option R) (e1 : Option R) (y3 y4 y5 y6 y8 y9 y10 y11 : Int) : Nat → Int → Option R
 | 0 => fun _ => none
 | n + 1 => S238_6  e0 e1 y3 y4 y5 y6 y8 y9 y10 y11 (L238_6  e0 e1 y3 y4 y5 y6 y8 y9 y10 y11 n)
def ps238_6 : PSt := { live := [1, 2, 8, 27, 28], nt := 43, env := [.i, .i, .u, .i, .i], heap := [.gen true false false 0 2 [[.i, .u]], .gen true false false 0 2 [[.i, .u]]] }
abbrev st238_6 (y3 y4 y5 y6 y7 y8 y9 y10 y11 : Int) : St := ⟨[dd, I y3, I y4, dd, dd, dd, dd, dd, .int .u64 y5, dd, dd, dd, dd, dd, dd, dd, dd, dd, dd, dd, dd, dd, dd, dd, dd, dd, dd, I y6, I y7, dd, dd, dd, dd, dd, dd, dd, dd, dd, dd, dd, dd, dd, dd], [some ⟨true, false, false, 0, .gen 2 [[I y8, .int .u64 y9]]⟩, some ⟨true, false, false, 0, .gen 2 [[I y10, .int .u64 y11]]⟩]⟩
abbrev sx238_6_0 (z0 z1 z2 z3 z4 z5 : Int) : St := ⟨[dd, dd, I z0, dd, dd, dd, I z1, dd, dd, dd, dd, dd, dd, dd, dd, dd, dd, dd, dd, dd, dd, dd, dd, dd, dd, dd, dd, dd, dd, dd, dd, dd, dd, dd, dd, dd, dd, dd, dd, dd, dd, dd, dd], [some ⟨true, false, false, 0, .gen 2 [[I z2, .int .u64 z3]]⟩, some ⟨true, false, false, 0, .gen 2 [[I z4, .int .u64 z5]]⟩]⟩
abbrev sx238_6_1 (z0 z1 z2 z3 z4 : Int) : St := ⟨[dd, dd, I z0, dd, dd, dd, dd, dd, dd, dd, dd, dd, dd, dd, dd, dd, dd, dd, dd, dd, dd, dd, dd, dd, dd, dd, dd, dd, dd, dd, dd, dd, dd, dd, dd, dd, dd, dd, dd, dd, dd, dd, dd], [some ⟨true, false, false, 0, .gen 2 [[I z1, .int .u64 z2]]⟩, some ⟨true, false, false, 0, .gen 2 [[I z3, .int .u64 z4]]⟩]⟩
theorem ly238_6 (y3 y4 y5 y6 y7 y8 y9 y10 y11 : Int) : layS ps238_6 (y3, y4, y5, y6, y7, y8, y9, y10, y11, ()) = st238_6 y3 y4 y5 y6 y7 y8 y9 y10 y11 := by kernel_rfl
abbrev E238_6_0 {R : Type} (k : Ex → St → Option R) (y4 y8 y9 y10 y11 z1 : Int) : Option R := k .ret (sx238_6_0 y4 z1 y8 y9 y10 y11)
abbrev E238_6_1 {R : Type} (k : Ex → St → Option R) (y4 y8 y9 y10 y11 : Int) : Option R := k (.exit 0) (sx238_6_1 y4 y8 y9 y10 y11)
noncomputable abbrev J238_6 {R : Type} (n : Nat) (y3 y4 y5 y6 y8 y9 y10 y11 y7 : Int) (k : Ex → St → Option R) : Option R :=
 iter (ev P KK T8 LOrc.none 300 238 (loopOf P 238 6)) (headL P KK (KK.ann 238 6) 2) (gcL (KK.ann 238 6).out 2) n (st238_6 y3 y4 y5 y6 y7 y8 y9 y10 y11) k
theorem k238_6 {R : Type} (n : Nat) (y3 y4 y5 y6 y8 y9 y10 y11 y7 : Int) (k : Ex → St → Option R) : J238_6  (n + 1) y3 y4 y5 y6 y8 y9 y10 y11 y7 k = S238_6  (E238_6_0 k y4 y8 y9 y10 y11) (E238_6_1 k y4 y8 y9 y10 y11) y3 y4 y5 y6 y8 y9 y10 y11 (fun y7 => J238_6  n y3 y4 y5 y6 y8 y9 y10 y11 y7 k) y7 := by kernel_rfl
theorem it238_6 {R : Type} (y3 y4 y5 y6 y8 y9 y10 y11 : Int) (k : Ex → St → Option R) : ∀ (n : Nat) (y7 : Int), J238_6  n y3 y4 y5 y6 y8 y9 y10 y11 y7 k = L238_6  (E238_6_0 k y4 y8 y9 y10 y11) (E238_6_1 k y4 y8 y9 y10 y11) y3 y4 y5 y6 y8 y9 y10 y11 n y7 := by
 intro n
 induction n with
 | zero => intros; rfl
 | succ n ih =>
  intro y7
  rw [k238_6, show (fun y7 => J238_6  n y3 y4 y5 y6 y8 y9 y10 y11 y7 k) = L238_6  (E238_6_0 k y4 y8 y9 y10 y11) (E238_6_1 k y4 y8 y9 y10 y11) y3 y4 y5 y6 y8 y9 y10 y11 n from by funext y7; exact ih y7]
  rfl
def lb238_6 {R : Type} (lf : Nat) (d : ps238_6.D) (k : Ex → St → Option R) : Option R := match d with
 | (y3, y4, y5, y6, y7, y8, y9, y10, y11, ()) => L238_6  (E238_6_0 k y4 y8 y9 y10 y11) (E238_6_1 k y4 y8 y9 y10 y11) y3 y4 y5 y6 y8 y9 y10 y11 lf y7
def lt238_6 {R : Type} (lf : Nat) : LOrc R := fun f id n0 st k => bif Nat.beq f 238 && (Nat.beq id 6 && Nat.beq n0 2) then readS ps238_6 st fun d => lb238_6 lf d k else LOrc.none f id n0 st k
def F238 (lf : Nat) (r : Ring) (m k : Int) : Option (Int) :=
 (match (F13 r) with
 | some r1 => bif (!(F149 m k)) then
   some k
  else (match (F15 k) with
  | some r2 => bif decide (r1.N < 0) then none
   else L238_6 (fun z13 => some z13) (some k) m k (bits .or .u64 r1.B (shl .u64 r2 r1.N)) k r.N r.B r1.N r1.B lf 0
  | none => none)
 | none => none)
theorem ev238 (lf : Nat) (r : Ring) (m k : Int) : evC (R' := [.cell .i]) P KK T8 (lt238_6 lf) 238 [.el .ring, .cell .i, .cell .i] (r, m, k, ()) = F238 lf r m k := by kernel_rfl
def g238 : Sig := ⟨[.el .ring, .cell .i, .cell .i], [.cell .i]⟩
def T238 {R : Type} : Orc R := fun f args h k => bif Nat.beq f 238 then contract g238 (fun d => F238 fuel d.1 d.2.1 d.2.2.1) args h k else T8 f args h k
def K123 {R : Type} (kk : Int → R) (w : Task) : R :=
 bif w.J.On then
  kk (wI (w.N - 1))
 else kk w.N
def F123 (w : Task) : Int := K123 (fun r => r) w
theorem ev123 (w : Task) : evC (R' := [.cell .i]) P KK T238 LOrc.none 123 [.el .task] (w, ()) = some (F123 w) := by
 rw [show evC (R' := [.cell .i]) P KK T238 LOrc.none 123 [.el .task] (w, ()) = K123 some w from by kernel_rfl]
 simp only [F123, K123, some_cond]
 try rfl
def g123 : Sig := ⟨[.el .task], [.cell .i]⟩
def T123 {R : Type} : Orc R := fun f args h k => bif Nat.beq f 123 then contract g123 (fun d => some (F123 d.1)) args h k else T238 f args h k
def F187 (w : Task) (good : Bool) : Option (Task) :=
 (match (F200 w.H good) with
 | some r1 => some (Task.mk w.ID w.S w.P w.Next w.At w.N w.J r1 w.Kept)
 | none => none)
theorem ev187 (w : Task) (good : Bool) : evC (R' := [.el .task]) P KK T123 LOrc.none 187 [.el .task, .cell .b] (w, good, ()) = F187 w good := by kernel_rfl
def g187 : Sig := ⟨[.el .task, .cell .b], [.el .task]⟩
def T187 {R : Type} : Orc R := fun f args h k => bif Nat.beq f 187 then contract g187 (fun d => F187 d.1 d.2.1) args h k else T123 f args h k
def F158 (w : Task) (f : Int) : Option (Task) :=
 bif decide (f = 0) then
  some w
 else (match (F187 w (decide (f = 1))) with
 | some r1 => some r1
 | none => none)
theorem ev158 (w : Task) (f : Int) : evC (R' := [.el .task]) P KK T187 LOrc.none 158 [.el .task, .cell .i] (w, f, ()) = F158 w f := by kernel_rfl
def g158 : Sig := ⟨[.el .task, .cell .i], [.el .task]⟩
def T158 {R : Type} : Orc R := fun f args h k => bif Nat.beq f 158 then contract g158 (fun d => F158 d.1 d.2.1) args h k else T187 f args h k
def K91 {R : Type} (kk : Live → R) (t : Task) : R :=
 bif t.J.On then
  kk (Live.mk t.S (Job.mk t.J.On t.J.J t.J.Rel t.J.Due t.J.Mand t.J.C t.S.C t.J.Ran) t.Next t.At t.N)
 else kk (Live.mk t.S t.J t.Next t.At t.N)
def F91 (t : Task) : Live := K91 (fun r => r) t
theorem ev91 (t : Task) : evC (R' := [.el .live]) P KK T158 LOrc.none 91 [.el .task] (t, ()) = some (F91 t) := by
 rw [show evC (R' := [.el .live]) P KK T158 LOrc.none 91 [.el .task] (t, ()) = K91 some t from by kernel_rfl]
 simp only [F91, K91, some_cond]
 try rfl
def g91 : Sig := ⟨[.el .task], [.el .live]⟩
def T91 {R : Type} : Orc R := fun f args h k => bif Nat.beq f 91 then contract g91 (fun d => some (F91 d.1)) args h k else T158 f args h k
def F85 (t : Task) (now : Int) : Option (Bool) :=
 bif decide (t.ID < 0) then
  some false
 else bif decide (549755813888 < t.ID) then
  some false
 else bif decide (t.P < 1) then
  some false
 else bif decide (48 < t.P) then
  some false
 else (match (F29 t.H) with
 | some r1 => bif (!r1) then
   some false
  else let r2 := (F91 t)
  (match (F88 ([r2]) now) with
  | some r3 => bif r3 then
    (match (F122 t.S t.J) with
    | some r4 => bif r4 then
      some (decide (t.H.N = (min (F123 t) 60)))
     else some false
    | none => none)
   else some false
  | none => none)
 | none => none)
theorem ev85 (t : Task) (now : Int) : evC (R' := [.cell .b]) P KK T91 LOrc.none 85 [.el .task, .cell .i] (t, now, ()) = F85 t now := by kernel_rfl
def g85 : Sig := ⟨[.el .task, .cell .i], [.cell .b]⟩
def T85 {R : Type} : Orc R := fun f args h k => bif Nat.beq f 85 then contract g85 (fun d => F85 d.1 d.2.1) args h k else T91 f args h k
def F107 (t : Task) (s : Spec) (p : Int) : Option (Task × Bool) :=
 bif (!(decide (s.C = t.S.C))) then
  some (t, false)
 else bif (!(decide (s.M = t.S.M))) then
  some (t, false)
 else bif (!(decide (s.K = t.S.K))) then
  some (t, false)
 else (match (F134 s p) with
 | some r1 => bif decide (r1 = 0) then
   some (t, false)
  else some ((Task.mk t.ID s t.P p t.At t.N t.J t.H t.Kept), true)
 | none => none)
theorem ev107 (t : Task) (s : Spec) (p : Int) : evC (R' := [.el .task, .cell .b]) P KK T85 LOrc.none 107 [.el .task, .el .spec, .cell .i] (t, s, p, ()) = F107 t s p := by kernel_rfl
def g107 : Sig := ⟨[.el .task, .el .spec, .cell .i], [.el .task, .cell .b]⟩
def T107 {R : Type} : Orc R := fun f args h k => bif Nat.beq f 107 then contract g107 (fun d => F107 d.1 d.2.1 d.2.2.1) args h k else T85 f args h k
def F108 (id : Int) (s : Spec) (p now : Int) : Option (Task × Bool) :=
 (match (F85 (Task.mk id s p p now 0 (Job.mk false 0 0 0 false 0 0 0) (Ring.mk 0 0) true) now) with
 | some r1 => bif (!r1) then
   some ((Task.mk 0 (Spec.mk 0 0 0 0 0 0) 0 0 0 0 (Job.mk false 0 0 0 false 0 0 0) (Ring.mk 0 0) false), false)
  else some ((Task.mk id s p p now 0 (Job.mk false 0 0 0 false 0 0 0) (Ring.mk 0 0) true), true)
 | none => none)
theorem ev108 (id : Int) (s : Spec) (p now : Int) : evC (R' := [.el .task, .cell .b]) P KK T107 LOrc.none 108 [.cell .i, .el .spec, .cell .i, .cell .i] (id, s, p, now, ()) = F108 id s p now := by kernel_rfl
def g108 : Sig := ⟨[.cell .i, .el .spec, .cell .i, .cell .i], [.el .task, .cell .b]⟩
def T108 {R : Type} : Orc R := fun f args h k => bif Nat.beq f 108 then contract g108 (fun d => F108 d.1 d.2.1 d.2.2.1 d.2.2.2.1) args h k else T107 f args h k
def F111 (t : Task) (now d : Int) : Option (Task × Bool) :=
 bif t.J.On then
  some (t, false)
 else bif (!(decide (now = t.At))) then
  some (t, false)
 else (match (F150 t.S t.N now (wI (now + t.Next)) d) with
 | some r1 => bif (!r1.2) then
   some (t, false)
  else bif t.Kept then
   some ((Task.mk t.ID t.S t.Next t.Next (wI (now + t.Next)) (wI (t.N + 1)) r1.1 t.H (decide (d ≤ t.S.C))), true)
  else some ((Task.mk t.ID t.S t.Next t.Next (wI (now + t.Next)) (wI (t.N + 1)) r1.1 t.H false), true)
 | none => none)
theorem ev111 (t : Task) (now d : Int) : evC (R' := [.el .task, .cell .b]) P KK T108 LOrc.none 111 [.el .task, .cell .i, .cell .i] (t, now, d, ()) = F111 t now d := by kernel_rfl
def g111 : Sig := ⟨[.el .task, .cell .i, .cell .i], [.el .task, .cell .b]⟩
def T111 {R : Type} : Orc R := fun f args h k => bif Nat.beq f 111 then contract g111 (fun d => F111 d.1 d.2.1 d.2.2.1) args h k else T108 f args h k
def F117 (t : Task) : Option (Task × Int) :=
 bif (!t.J.On) then
  some (t, 3)
 else let r1 := (F130 t.J)
 (match (F158 (Task.mk t.ID t.S t.P t.Next t.At t.N r1.1 t.H t.Kept) r1.2) with
 | some r2 => some (r2, r1.2)
 | none => none)
theorem ev117 (t : Task) : evC (R' := [.el .task, .cell .i]) P KK T111 LOrc.none 117 [.el .task] (t, ()) = F117 t := by kernel_rfl
def g117 : Sig := ⟨[.el .task], [.el .task, .cell .i]⟩
def T117 {R : Type} : Orc R := fun f args h k => bif Nat.beq f 117 then contract g117 (fun d => F117 d.1) args h k else T111 f args h k
end Go.Abs
