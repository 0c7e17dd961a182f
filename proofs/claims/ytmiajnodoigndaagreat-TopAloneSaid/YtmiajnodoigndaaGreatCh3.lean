/- Own: What the interpreter tells of the functions holds of the machine. -/
import Derived.Test.YtmiajnodoigndaaGreatCh2
set_option linter.unusedVariables false
set_option maxRecDepth 1000000
set_option maxHeartbeats 1000000
namespace Go.Abs
theorem hi78_79_5 {R : Type} (lf : Nat) (d : ps78_79_5.D) (k : Ex → St → Option R) : iter (ev P KK T60_79 LOrc.none 300 78 (loopOf P 78 5)) (headL P KK (KK.ann 78 5) 3) (gcL (KK.ann 78 5).out 3) lf (layS ps78_79_5 d) k = lb78_79_5 lf d k := by
 obtain ⟨y2, y3, y4, y5, ⟨⟩⟩ := d
 exact (congrArg (fun st => iter (ev P KK T60_79 LOrc.none 300 78 (loopOf P 78 5)) (headL P KK (KK.ann 78 5) 3) (gcL (KK.ann 78 5).out 3) lf st k) (ly78_79_5 y2 y3 y4 y5)).trans (it78_79_5 y5 k lf y2 y3 y4)
theorem lo78_79_5 {R : Type} (lf : Nat) : LOrcOK P KK (lt78_79_5 (R := R) lf) :=
 LOrcOK.add (L := lb78_79_5 lf) ground oc60_79 LOrcOK.none (D := 300) (f0 := 78) (id0 := 5) (n00 := 3) (n := lf) (ps := ps78_79_5) (by kernel_rfl) (hi78_79_5 lf) LOrcOK.none
theorem oc78_79 {R : Type} : OrcOK P (T78_79 (R := R)) :=
 OrcOK.add (s := g78_79) (f := 78) (F := fun d => F78_79 fuel d.1 d.2.1.1.1) (cond := fun args => cloIs 1 79 args) (fun d r h => by
  obtain ⟨x1, ⟨⟨x2, ⟨⟩⟩, ⟨⟩⟩, ⟨⟩⟩ := d
  exact Meets.toW (Meets.of_evC ground oc60_79 (lo78_79_5 fuel) ((ev78_79 fuel x1 x2).trans h))) oc60_79
theorem oc118 {R : Type} : OrcOK P (T118 (R := R)) :=
 OrcOK.add1 (s := g118) (f := 118) (F := fun d => F118 d.1 d.2.1 d.2.2.1) (fun d r h => by
  obtain ⟨x1, x2, x3, ⟨⟩⟩ := d
  exact Meets.toW (Meets.of_evC ground oc78_79 LOrcOK.none ((ev118 x1 x2 x3).trans h))) oc78_79
theorem me82 (x : RL g82.io) (d : DA g82.args) (r : RL g82.io × DR g82.res) (h : F82 x.1 x.2.1 x.2.2.1 x.2.2.2 d.1.1 d.1.2.1 = some r) : MeetsIO P 82 g82 x d r := by
 obtain ⟨⟨x1, x2, ⟨⟩⟩, ⟨⟩⟩ := d
 obtain ⟨x3, x4, x5, x6⟩ := x
 exact MeetsIO.of_evIO ground oc118 LOrcOK.none ((ev82 x3 x4 x5 x6 x1 x2).trans h)
theorem oc82 {R : Type} : OrcOK P (T82 (R := R)) :=
 OrcOK.addIO (s := g82) (f := 82) rfl (fun x d r h => me82 x d r h) oc118
theorem oc54 {R : Type} : OrcOK P (T54 (R := R)) :=
 OrcOK.add1 (s := g54) (f := 54) (F := fun d => F54 d.1.1 d.1.2.1 d.1.2.2.1 d.1.2.2.2.1 d.2.1) (fun d r h => by
  obtain ⟨⟨x1, x2, x3, x4, ⟨⟩⟩, x5, ⟨⟩⟩ := d
  exact Meets.toW (Meets.of_evC ground oc82 LOrcOK.none ((ev54 x1 x2 x3 x4 x5).trans h))) oc82
theorem oc61 {R : Type} : OrcOK P (T61 (R := R)) :=
 OrcOK.add1 (s := g61) (f := 61) (F := fun d => some (F61 d.1 d.2.1)) (fun d r h => by
  obtain ⟨x1, x2, ⟨⟩⟩ := d
  exact Meets.toW (Meets.of_evC ground oc54 LOrcOK.none ((ev61 x1 x2).trans h))) oc54
theorem hi62_2 {R : Type} (lf : Nat) (d : ps62_2.D) (k : Ex → St → Option R) : iter (ev P KK T61 LOrc.none 300 62 (loopOf P 62 2)) (headL P KK (KK.ann 62 2) 1) (gcL (KK.ann 62 2).out 1) lf (layS ps62_2 d) k = lb62_2 lf d k := by
 obtain ⟨y1, y2, y3, ⟨⟩⟩ := d
 exact (congrArg (fun st => iter (ev P KK T61 LOrc.none 300 62 (loopOf P 62 2)) (headL P KK (KK.ann 62 2) 1) (gcL (KK.ann 62 2).out 1) lf st k) (ly62_2 y1 y2 y3)).trans (it62_2 y1 y3 k lf y2)
theorem lo62_2 {R : Type} (lf : Nat) : LOrcOK P KK (lt62_2 (R := R) lf) :=
 LOrcOK.add (L := lb62_2 lf) ground oc61 LOrcOK.none (D := 300) (f0 := 62) (id0 := 2) (n00 := 1) (n := lf) (ps := ps62_2) (by kernel_rfl) (hi62_2 lf) LOrcOK.none
theorem oc62 {R : Type} : OrcOK P (T62 (R := R)) :=
 OrcOK.add1 (s := g62) (f := 62) (F := fun d => F62 fuel d.1) (fun d r h => by
  obtain ⟨x1, ⟨⟩⟩ := d
  exact Meets.toW (Meets.of_evC ground oc61 (lo62_2 fuel) ((ev62 fuel x1).trans h))) oc61
theorem hi66_3 {R : Type} (lf : Nat) (d : ps66_3.D) (k : Ex → St → Option R) : iter (ev P KK T62 LOrc.none 300 66 (loopOf P 66 3)) (headL P KK (KK.ann 66 3) 4) (gcL (KK.ann 66 3).out 4) lf (layS ps66_3 d) k = lb66_3 lf d k := by
 obtain ⟨y1, y2, y3, y4, y5, y6, y7, y8, y9, y10, y11, y12, y13, y14, ⟨⟩⟩ := d
 exact (congrArg (fun st => iter (ev P KK T62 LOrc.none 300 66 (loopOf P 66 3)) (headL P KK (KK.ann 66 3) 4) (gcL (KK.ann 66 3).out 4) lf st k) (ly66_3 y1 y2 y3 y4 y5 y6 y7 y8 y9 y10 y11 y12 y13 y14)).trans (it66_3 y1 y3 y4 y5 y6 y7 y8 y9 y10 y11 y12 y13 k lf y2 y14)
theorem lo66_3 {R : Type} (lf : Nat) : LOrcOK P KK (lt66_3 (R := R) lf) :=
 LOrcOK.add (L := lb66_3 lf) ground oc62 LOrcOK.none (D := 300) (f0 := 66) (id0 := 3) (n00 := 4) (n := lf) (ps := ps66_3) (by kernel_rfl) (hi66_3 lf) LOrcOK.none
theorem oc66 {R : Type} : OrcOK P (T66 (R := R)) :=
 OrcOK.add1 (s := g66) (f := 66) (F := fun d => F66 fuel d.1.1 d.1.2.1 d.1.2.2.1 d.1.2.2.2.1 d.1.2.2.2.2.1 d.1.2.2.2.2.2.1 d.1.2.2.2.2.2.2.1 d.1.2.2.2.2.2.2.2.1 d.1.2.2.2.2.2.2.2.2.1 d.1.2.2.2.2.2.2.2.2.2.1 d.1.2.2.2.2.2.2.2.2.2.2.1) (fun d r h => by
  obtain ⟨⟨x1, x2, x3, x4, x5, x6, x7, x8, x9, x10, x11, ⟨⟩⟩, ⟨⟩⟩ := d
  exact Meets.toW (Meets.of_evC ground oc62 (lo66_3 fuel) ((ev66 fuel x1 x2 x3 x4 x5 x6 x7 x8 x9 x10 x11).trans h))) oc62
theorem hi59_103_2 {R : Type} (lf : Nat) (d : ps59_103_2.D) (k : Ex → St → Option R) : iter (ev P KK T66 LOrc.none 300 59 (loopOf P 59 2)) (headL P KK (KK.ann 59 2) 2) (gcL (KK.ann 59 2).out 2) lf (layS ps59_103_2 d) k = lb59_103_2 lf d k := by
 obtain ⟨y1, y2, y3, y4, ⟨⟩⟩ := d
 exact (congrArg (fun st => iter (ev P KK T66 LOrc.none 300 59 (loopOf P 59 2)) (headL P KK (KK.ann 59 2) 2) (gcL (KK.ann 59 2).out 2) lf st k) (ly59_103_2 y1 y2 y3 y4)).trans (it59_103_2 y1 y3 y4 k lf y2)
theorem lo59_103_2 {R : Type} (lf : Nat) : LOrcOK P KK (lt59_103_2 (R := R) lf) :=
 LOrcOK.add (L := lb59_103_2 lf) ground oc66 LOrcOK.none (D := 300) (f0 := 59) (id0 := 2) (n00 := 2) (n := lf) (ps := ps59_103_2) (by kernel_rfl) (hi59_103_2 lf) LOrcOK.none
theorem oc59_103 {R : Type} : OrcOK P (T59_103 (R := R)) :=
 OrcOK.add (s := g59_103) (f := 59) (F := fun d => F59_103 fuel d.1 d.2.1.1.1) (cond := fun args => cloIs 1 103 args) (fun d r h => by
  obtain ⟨x1, ⟨⟨x2, ⟨⟩⟩, ⟨⟩⟩, ⟨⟩⟩ := d
  exact Meets.toW (Meets.of_evC ground oc66 (lo59_103_2 fuel) ((ev59_103 fuel x1 x2).trans h))) oc66
theorem oc68 {R : Type} : OrcOK P (T68 (R := R)) :=
 OrcOK.add1 (s := g68) (f := 68) (F := fun d => F68 d.1.1 d.1.2.1 d.1.2.2.1 d.1.2.2.2.1 d.1.2.2.2.2.1 d.1.2.2.2.2.2.1 d.1.2.2.2.2.2.2.1 d.1.2.2.2.2.2.2.2.1 d.1.2.2.2.2.2.2.2.2.1 d.1.2.2.2.2.2.2.2.2.2.1 d.1.2.2.2.2.2.2.2.2.2.2.1 d.2.1) (fun d r h => by
  obtain ⟨⟨x1, x2, x3, x4, x5, x6, x7, x8, x9, x10, x11, ⟨⟩⟩, x12, ⟨⟩⟩ := d
  exact Meets.toW (Meets.of_evC ground oc59_103 LOrcOK.none ((ev68 x1 x2 x3 x4 x5 x6 x7 x8 x9 x10 x11 x12).trans h))) oc59_103
theorem hi35_9 {R : Type} (lf : Nat) (d : ps35_9.D) (k : Ex → St → Option R) : iter (ev P KK T68 LOrc.none 300 35 (loopOf P 35 9)) (headL P KK (KK.ann 35 9) 5) (gcL (KK.ann 35 9).out 5) lf (layS ps35_9 d) k = lb35_9 lf d k := by
 obtain ⟨y1, y2, y3, y4, y5, y6, y7, y8, y9, y10, y11, y12, y13, y14, y15, y16, y17, y18, ⟨⟩⟩ := d
 exact (congrArg (fun st => iter (ev P KK T68 LOrc.none 300 35 (loopOf P 35 9)) (headL P KK (KK.ann 35 9) 5) (gcL (KK.ann 35 9).out 5) lf st k) (ly35_9 y1 y2 y3 y4 y5 y6 y7 y8 y9 y10 y11 y12 y13 y14 y15 y16 y17 y18)).trans (it35_9 y1 y3 y4 y5 y6 y7 y8 y9 y10 y11 y12 y13 y14 y15 y16 y17 k lf y2 y18)
theorem lo35_9 {R : Type} (lf : Nat) : LOrcOK P KK (lt35_9 (R := R) lf) :=
 LOrcOK.add (L := lb35_9 lf) ground oc68 LOrcOK.none (D := 300) (f0 := 35) (id0 := 9) (n00 := 5) (n := lf) (ps := ps35_9) (by kernel_rfl) (hi35_9 lf) LOrcOK.none
theorem oc35 {R : Type} : OrcOK P (T35 (R := R)) :=
 OrcOK.add1 (s := g35) (f := 35) (F := fun d => F35 fuel d.1.1 d.1.2.1 d.1.2.2.1 d.1.2.2.2.1 d.1.2.2.2.2.1 d.1.2.2.2.2.2.1 d.1.2.2.2.2.2.2.1 d.1.2.2.2.2.2.2.2.1 d.1.2.2.2.2.2.2.2.2.1 d.1.2.2.2.2.2.2.2.2.2.1 d.1.2.2.2.2.2.2.2.2.2.2.1) (fun d r h => by
  obtain ⟨⟨x1, x2, x3, x4, x5, x6, x7, x8, x9, x10, x11, ⟨⟩⟩, ⟨⟩⟩ := d
  exact Meets.toW (Meets.of_evC ground oc68 (lo35_9 fuel) ((ev35 fuel x1 x2 x3 x4 x5 x6 x7 x8 x9 x10 x11).trans h))) oc68
theorem hi59_32_2 {R : Type} (lf : Nat) (d : ps59_32_2.D) (k : Ex → St → Option R) : iter (ev P KK T35 LOrc.none 300 59 (loopOf P 59 2)) (headL P KK (KK.ann 59 2) 5) (gcL (KK.ann 59 2).out 5) lf (layS ps59_32_2 d) k = lb59_32_2 lf d k := by
 obtain ⟨y1, y2, y3, y4, y5, y6, y7, y8, y9, y10, y11, y12, y13, y14, ⟨⟩⟩ := d
 exact (congrArg (fun st => iter (ev P KK T35 LOrc.none 300 59 (loopOf P 59 2)) (headL P KK (KK.ann 59 2) 5) (gcL (KK.ann 59 2).out 5) lf st k) (ly59_32_2 y1 y2 y3 y4 y5 y6 y7 y8 y9 y10 y11 y12 y13 y14)).trans (it59_32_2 y1 y3 y4 y5 y6 y7 y8 y9 y10 y11 y12 y13 y14 k lf y2)
theorem lo59_32_2 {R : Type} (lf : Nat) : LOrcOK P KK (lt59_32_2 (R := R) lf) :=
 LOrcOK.add (L := lb59_32_2 lf) ground oc35 LOrcOK.none (D := 300) (f0 := 59) (id0 := 2) (n00 := 5) (n := lf) (ps := ps59_32_2) (by kernel_rfl) (hi59_32_2 lf) LOrcOK.none
theorem oc59_32 {R : Type} : OrcOK P (T59_32 (R := R)) :=
 OrcOK.add (s := g59_32) (f := 59) (F := fun d => F59_32 fuel d.1 d.2.1.1.1 d.2.1.1.2.1 d.2.1.1.2.2.1 d.2.1.1.2.2.2.1 d.2.1.1.2.2.2.2.1 d.2.1.1.2.2.2.2.2.1 d.2.1.1.2.2.2.2.2.2.1 d.2.1.1.2.2.2.2.2.2.2.1 d.2.1.1.2.2.2.2.2.2.2.2.1 d.2.1.1.2.2.2.2.2.2.2.2.2.1 d.2.1.1.2.2.2.2.2.2.2.2.2.2.1) (cond := fun args => cloIs 1 32 args) (fun d r h => by
  obtain ⟨x1, ⟨⟨x2, x3, x4, x5, x6, x7, x8, x9, x10, x11, x12, ⟨⟩⟩, ⟨⟩⟩, ⟨⟩⟩ := d
  exact Meets.toW (Meets.of_evC ground oc35 (lo59_32_2 fuel) ((ev59_32 fuel x1 x2 x3 x4 x5 x6 x7 x8 x9 x10 x11 x12).trans h))) oc35
theorem hi60_34_2 {R : Type} (lf : Nat) (d : ps60_34_2.D) (k : Ex → St → Option R) : iter (ev P KK T59_32 LOrc.none 300 60 (loopOf P 60 2)) (headL P KK (KK.ann 60 2) 5) (gcL (KK.ann 60 2).out 5) lf (layS ps60_34_2 d) k = lb60_34_2 lf d k := by
 obtain ⟨y1, y2, y3, y4, y5, y6, y7, y8, y9, y10, y11, y12, y13, y14, ⟨⟩⟩ := d
 exact (congrArg (fun st => iter (ev P KK T59_32 LOrc.none 300 60 (loopOf P 60 2)) (headL P KK (KK.ann 60 2) 5) (gcL (KK.ann 60 2).out 5) lf st k) (ly60_34_2 y1 y2 y3 y4 y5 y6 y7 y8 y9 y10 y11 y12 y13 y14)).trans (it60_34_2 y1 y3 y4 y5 y6 y7 y8 y9 y10 y11 y12 y13 y14 k lf y2)
theorem lo60_34_2 {R : Type} (lf : Nat) : LOrcOK P KK (lt60_34_2 (R := R) lf) :=
 LOrcOK.add (L := lb60_34_2 lf) ground oc59_32 LOrcOK.none (D := 300) (f0 := 60) (id0 := 2) (n00 := 5) (n := lf) (ps := ps60_34_2) (by kernel_rfl) (hi60_34_2 lf) LOrcOK.none
theorem oc60_34 {R : Type} : OrcOK P (T60_34 (R := R)) :=
 OrcOK.add (s := g60_34) (f := 60) (F := fun d => F60_34 fuel d.1 d.2.1.1.1 d.2.1.1.2.1 d.2.1.1.2.2.1 d.2.1.1.2.2.2.1 d.2.1.1.2.2.2.2.1 d.2.1.1.2.2.2.2.2.1 d.2.1.1.2.2.2.2.2.2.1 d.2.1.1.2.2.2.2.2.2.2.1 d.2.1.1.2.2.2.2.2.2.2.2.1 d.2.1.1.2.2.2.2.2.2.2.2.2.1 d.2.1.1.2.2.2.2.2.2.2.2.2.2.1) (cond := fun args => cloIs 1 34 args) (fun d r h => by
  obtain ⟨x1, ⟨⟨x2, x3, x4, x5, x6, x7, x8, x9, x10, x11, x12, ⟨⟩⟩, ⟨⟩⟩, ⟨⟩⟩ := d
  exact Meets.toW (Meets.of_evC ground oc59_32 (lo60_34_2 fuel) ((ev60_34 fuel x1 x2 x3 x4 x5 x6 x7 x8 x9 x10 x11 x12).trans h))) oc59_32
theorem oc16 {R : Type} : OrcOK P (T16 (R := R)) :=
 OrcOK.add1 (s := g16) (f := 16) (F := fun d => F16 d.1.1 d.1.2.1 d.1.2.2.1 d.1.2.2.2.1 d.1.2.2.2.2.1 d.1.2.2.2.2.2.1 d.1.2.2.2.2.2.2.1 d.1.2.2.2.2.2.2.2.1 d.1.2.2.2.2.2.2.2.2.1 d.1.2.2.2.2.2.2.2.2.2.1 d.1.2.2.2.2.2.2.2.2.2.2.1) (fun d r h => by
  obtain ⟨⟨x1, x2, x3, x4, x5, x6, x7, x8, x9, x10, x11, ⟨⟩⟩, ⟨⟩⟩ := d
  exact Meets.toW (Meets.of_evC ground oc60_34 LOrcOK.none ((ev16 x1 x2 x3 x4 x5 x6 x7 x8 x9 x10 x11).trans h))) oc60_34
theorem oc23 {R : Type} : OrcOK P (T23 (R := R)) :=
 OrcOK.add1 (s := g23) (f := 23) (F := fun d => cloneB d.1) (fun d r h => me23 d r h) oc16
theorem oc64 {R : Type} : OrcOK P (T64 (R := R)) :=
 OrcOK.add1 (s := g64) (f := 64) (F := fun d => F64 d.1.1 d.1.2.1 d.1.2.2.1 d.1.2.2.2.1 d.1.2.2.2.2.1 d.1.2.2.2.2.2.1 d.1.2.2.2.2.2.2.1 d.1.2.2.2.2.2.2.2.1 d.1.2.2.2.2.2.2.2.2.1 d.1.2.2.2.2.2.2.2.2.2.1 d.1.2.2.2.2.2.2.2.2.2.2.1) (fun d r h => by
  obtain ⟨⟨x1, x2, x3, x4, x5, x6, x7, x8, x9, x10, x11, ⟨⟩⟩, ⟨⟩⟩ := d
  exact Meets.toW (Meets.of_evC ground oc23 LOrcOK.none ((ev64 x1 x2 x3 x4 x5 x6 x7 x8 x9 x10 x11).trans h))) oc23
theorem hi67_5 {R : Type} (lf : Nat) (d : ps67_5.D) (k : Ex → St → Option R) : iter (ev P KK T64 LOrc.none 300 67 (loopOf P 67 5)) (headL P KK (KK.ann 67 5) 9) (gcL (KK.ann 67 5).out 9) lf (layS ps67_5 d) k = lb67_5 lf d k := by
 obtain ⟨y2, y3, y4, y5, y6, y7, y8, y9, y10, y11, y12, y13, y14, y15, y16, y17, y18, y19, y20, y21, y22, y23, y24, y25, y26, y27, y28, y29, ⟨⟩⟩ := d
 exact (congrArg (fun st => iter (ev P KK T64 LOrc.none 300 67 (loopOf P 67 5)) (headL P KK (KK.ann 67 5) 9) (gcL (KK.ann 67 5).out 9) lf st k) (ly67_5 y2 y3 y4 y5 y6 y7 y8 y9 y10 y11 y12 y13 y14 y15 y16 y17 y18 y19 y20 y21 y22 y23 y24 y25 y26 y27 y28 y29)).trans (it67_5 y2 y4 y6 y7 y8 y9 y10 y11 y12 y13 y14 y15 y16 y17 y18 y19 y20 y21 y22 y23 y24 y25 y26 y27 y28 k lf y3 y5 y29)
theorem lo67_5 {R : Type} (lf : Nat) : LOrcOK P KK (lt67_5 (R := R) lf) :=
 LOrcOK.add (L := lb67_5 lf) ground oc64 LOrcOK.none (D := 300) (f0 := 67) (id0 := 5) (n00 := 9) (n := lf) (ps := ps67_5) (by kernel_rfl) (hi67_5 lf) LOrcOK.none
theorem hi67_13 {R : Type} (lf : Nat) (d : ps67_13.D) (k : Ex → St → Option R) : iter (ev P KK T64 (lt67_5 _root_.Go.Abs.lf) 300 67 (loopOf P 67 13)) (headL P KK (KK.ann 67 13) 10) (gcL (KK.ann 67 13).out 10) lf (layS ps67_13 d) k = lb67_13 lf d k := by
 obtain ⟨y34, y35, y36, y37, y38, y39, y40, y41, y42, y43, y44, y45, y46, y47, y48, y49, y50, y51, y52, y53, y54, y55, y56, y57, y58, y59, y60, y61, ⟨⟩⟩ := d
 exact (congrArg (fun st => iter (ev P KK T64 (lt67_5 _root_.Go.Abs.lf) 300 67 (loopOf P 67 13)) (headL P KK (KK.ann 67 13) 10) (gcL (KK.ann 67 13).out 10) lf st k) (ly67_13 y34 y35 y36 y37 y38 y39 y40 y41 y42 y43 y44 y45 y46 y47 y48 y49 y50 y51 y52 y53 y54 y55 y56 y57 y58 y59 y60 y61)).trans (it67_13 y34 y35 y37 y38 y39 y40 y41 y42 y43 y44 y45 y46 y47 y48 y49 y50 y51 y52 y53 y54 y55 y56 y57 y58 y59 y60 k lf y36 y61)
theorem lo67_13 {R : Type} (lf : Nat) : LOrcOK P KK (lt67_13 (R := R) lf) :=
 LOrcOK.add (L := lb67_13 lf) ground oc64 (lo67_5 _root_.Go.Abs.lf) (D := 300) (f0 := 67) (id0 := 13) (n00 := 10) (n := lf) (ps := ps67_13) (by kernel_rfl) (hi67_13 lf) (lo67_5 lf)
theorem oc67 {R : Type} : OrcOK P (T67 (R := R)) :=
 OrcOK.add1 (s := g67) (f := 67) (F := fun d => F67 fuel d.1.1 d.1.2.1 d.1.2.2.1 d.1.2.2.2.1 d.1.2.2.2.2.1 d.1.2.2.2.2.2.1 d.1.2.2.2.2.2.2.1 d.1.2.2.2.2.2.2.2.1 d.1.2.2.2.2.2.2.2.2.1 d.1.2.2.2.2.2.2.2.2.2.1 d.1.2.2.2.2.2.2.2.2.2.2.1 d.2.1 d.2.2.1) (fun d r h => by
  obtain ⟨⟨x1, x2, x3, x4, x5, x6, x7, x8, x9, x10, x11, ⟨⟩⟩, x12, x13, ⟨⟩⟩ := d
  exact Meets.toW (Meets.of_evC ground oc64 (lo67_13 fuel) ((ev67 fuel x1 x2 x3 x4 x5 x6 x7 x8 x9 x10 x11 x12 x13).trans h))) oc64
theorem oc63 {R : Type} : OrcOK P (T63 (R := R)) :=
 OrcOK.add1 (s := g63) (f := 63) (F := fun d => F63 d.1.1 d.1.2.1 d.1.2.2.1 d.1.2.2.2.1 d.1.2.2.2.2.1 d.1.2.2.2.2.2.1 d.1.2.2.2.2.2.2.1 d.1.2.2.2.2.2.2.2.1 d.1.2.2.2.2.2.2.2.2.1 d.1.2.2.2.2.2.2.2.2.2.1 d.1.2.2.2.2.2.2.2.2.2.2.1) (fun d r h => by
  obtain ⟨⟨x1, x2, x3, x4, x5, x6, x7, x8, x9, x10, x11, ⟨⟩⟩, ⟨⟩⟩ := d
  exact Meets.toW (Meets.of_evC ground oc67 LOrcOK.none ((ev63 x1 x2 x3 x4 x5 x6 x7 x8 x9 x10 x11).trans h))) oc67
theorem oc50 {R : Type} : OrcOK P (T50 (R := R)) :=
 OrcOK.add1 (s := g50) (f := 50) (F := fun d => F50 d.1.1 d.1.2.1 d.1.2.2.1 d.1.2.2.2.1 d.1.2.2.2.2.1 d.1.2.2.2.2.2.1 d.1.2.2.2.2.2.2.1 d.1.2.2.2.2.2.2.2.1 d.1.2.2.2.2.2.2.2.2.1 d.1.2.2.2.2.2.2.2.2.2.1 d.1.2.2.2.2.2.2.2.2.2.2.1 d.2.1) (fun d r h => by
  obtain ⟨⟨x1, x2, x3, x4, x5, x6, x7, x8, x9, x10, x11, ⟨⟩⟩, x12, ⟨⟩⟩ := d
  exact Meets.toW (Meets.of_evC ground oc63 LOrcOK.none ((ev50 x1 x2 x3 x4 x5 x6 x7 x8 x9 x10 x11 x12).trans h))) oc63
theorem oc69 {R : Type} : OrcOK P (T69 (R := R)) :=
 OrcOK.add1 (s := g69) (f := 69) (F := fun d => some (F69 d.1 d.2.1 d.2.2.1)) (fun d r h => by
  obtain ⟨x1, x2, x3, ⟨⟩⟩ := d
  exact Meets.toW (Meets.of_evC ground oc50 LOrcOK.none ((ev69 x1 x2 x3).trans h))) oc50
theorem oc51 {R : Type} : OrcOK P (T51 (R := R)) :=
 OrcOK.add1 (s := g51) (f := 51) (F := fun d => F51 d.1.1 d.1.2.1 d.1.2.2.1 d.1.2.2.2.1 d.1.2.2.2.2.1 d.1.2.2.2.2.2.1 d.1.2.2.2.2.2.2.1 d.1.2.2.2.2.2.2.2.1 d.1.2.2.2.2.2.2.2.2.1 d.1.2.2.2.2.2.2.2.2.2.1 d.1.2.2.2.2.2.2.2.2.2.2.1 d.2.1 d.2.2.1 d.2.2.2.1) (fun d r h => by
  obtain ⟨⟨x1, x2, x3, x4, x5, x6, x7, x8, x9, x10, x11, ⟨⟩⟩, x12, x13, x14, ⟨⟩⟩ := d
  exact Meets.toW (Meets.of_evC ground oc69 LOrcOK.none ((ev51 x1 x2 x3 x4 x5 x6 x7 x8 x9 x10 x11 x12 x13 x14).trans h))) oc69
theorem oc70 {R : Type} : OrcOK P (T70 (R := R)) :=
 OrcOK.add1 (s := g70) (f := 70) (F := fun d => some (F70)) (fun d r h => by
  obtain ⟨⟩ := d
  exact Meets.toW (Meets.of_evC ground oc51 LOrcOK.none ((ev70 ).trans h))) oc51
theorem hi59_72_2 {R : Type} (lf : Nat) (d : ps59_72_2.D) (k : Ex → St → Option R) : iter (ev P KK T70 LOrc.none 300 59 (loopOf P 59 2)) (headL P KK (KK.ann 59 2) 2) (gcL (KK.ann 59 2).out 2) lf (layS ps59_72_2 d) k = lb59_72_2 lf d k := by
 obtain ⟨y1, y2, y3, y4, ⟨⟩⟩ := d
 exact (congrArg (fun st => iter (ev P KK T70 LOrc.none 300 59 (loopOf P 59 2)) (headL P KK (KK.ann 59 2) 2) (gcL (KK.ann 59 2).out 2) lf st k) (ly59_72_2 y1 y2 y3 y4)).trans (it59_72_2 y1 y3 y4 k lf y2)
theorem lo59_72_2 {R : Type} (lf : Nat) : LOrcOK P KK (lt59_72_2 (R := R) lf) :=
 LOrcOK.add (L := lb59_72_2 lf) ground oc70 LOrcOK.none (D := 300) (f0 := 59) (id0 := 2) (n00 := 2) (n := lf) (ps := ps59_72_2) (by kernel_rfl) (hi59_72_2 lf) LOrcOK.none
theorem oc59_72 {R : Type} : OrcOK P (T59_72 (R := R)) :=
 OrcOK.add (s := g59_72) (f := 59) (F := fun d => F59_72 fuel d.1 d.2.1.1.1) (cond := fun args => cloIs 1 72 args) (fun d r h => by
  obtain ⟨x1, ⟨⟨x2, ⟨⟩⟩, ⟨⟩⟩, ⟨⟩⟩ := d
  exact Meets.toW (Meets.of_evC ground oc70 (lo59_72_2 fuel) ((ev59_72 fuel x1 x2).trans h))) oc70
theorem hi105_74_2 {R : Type} (lf : Nat) (d : ps105_74_2.D) (k : Ex → St → Option R) : iter (ev P KK T59_72 LOrc.none 300 105 (loopOf P 105 2)) (headL P KK (KK.ann 105 2) 2) (gcL (KK.ann 105 2).out 2) lf (layS ps105_74_2 d) k = lb105_74_2 lf d k := by
 obtain ⟨y1, y2, y3, y4, ⟨⟩⟩ := d
 exact (congrArg (fun st => iter (ev P KK T59_72 LOrc.none 300 105 (loopOf P 105 2)) (headL P KK (KK.ann 105 2) 2) (gcL (KK.ann 105 2).out 2) lf st k) (ly105_74_2 y1 y2 y3 y4)).trans (it105_74_2 y1 y3 y4 k lf y2)
theorem lo105_74_2 {R : Type} (lf : Nat) : LOrcOK P KK (lt105_74_2 (R := R) lf) :=
 LOrcOK.add (L := lb105_74_2 lf) ground oc59_72 LOrcOK.none (D := 300) (f0 := 105) (id0 := 2) (n00 := 2) (n := lf) (ps := ps105_74_2) (by kernel_rfl) (hi105_74_2 lf) LOrcOK.none
theorem oc105_74 {R : Type} : OrcOK P (T105_74 (R := R)) :=
 OrcOK.add (s := g105_74) (f := 105) (F := fun d => F105_74 fuel d.1 d.2.1.1.1) (cond := fun args => cloIs 1 74 args) (fun d r h => by
  obtain ⟨x1, ⟨⟨x2, ⟨⟩⟩, ⟨⟩⟩, ⟨⟩⟩ := d
  exact Meets.toW (Meets.of_evC ground oc59_72 (lo105_74_2 fuel) ((ev105_74 fuel x1 x2).trans h))) oc59_72
theorem hi71_72_5 {R : Type} (lf : Nat) (d : ps71_72_5.D) (k : Ex → St → Option R) : iter (ev P KK T105_74 LOrc.none 300 71 (loopOf P 71 5)) (headL P KK (KK.ann 71 5) 2) (gcL (KK.ann 71 5).out 2) lf (layS ps71_72_5 d) k = lb71_72_5 lf d k := by
 obtain ⟨y2, y3, y4, y5, ⟨⟩⟩ := d
 exact (congrArg (fun st => iter (ev P KK T105_74 LOrc.none 300 71 (loopOf P 71 5)) (headL P KK (KK.ann 71 5) 2) (gcL (KK.ann 71 5).out 2) lf st k) (ly71_72_5 y2 y3 y4 y5)).trans (it71_72_5 y5 k lf y2 y3 y4)
theorem lo71_72_5 {R : Type} (lf : Nat) : LOrcOK P KK (lt71_72_5 (R := R) lf) :=
 LOrcOK.add (L := lb71_72_5 lf) ground oc105_74 LOrcOK.none (D := 300) (f0 := 71) (id0 := 5) (n00 := 2) (n := lf) (ps := ps71_72_5) (by kernel_rfl) (hi71_72_5 lf) LOrcOK.none
theorem oc71_72 {R : Type} : OrcOK P (T71_72 (R := R)) :=
 OrcOK.add (s := g71_72) (f := 71) (F := fun d => F71_72 fuel d.1 d.2.1.1.1) (cond := fun args => cloIs 1 72 args) (fun d r h => by
  obtain ⟨x1, ⟨⟨x2, ⟨⟩⟩, ⟨⟩⟩, ⟨⟩⟩ := d
  exact Meets.toW (Meets.of_evC ground oc105_74 (lo71_72_5 fuel) ((ev71_72 fuel x1 x2).trans h))) oc105_74
theorem hi73_74_5 {R : Type} (lf : Nat) (d : ps73_74_5.D) (k : Ex → St → Option R) : iter (ev P KK T71_72 LOrc.none 300 73 (loopOf P 73 5)) (headL P KK (KK.ann 73 5) 2) (gcL (KK.ann 73 5).out 2) lf (layS ps73_74_5 d) k = lb73_74_5 lf d k := by
 obtain ⟨y2, y3, y4, y5, ⟨⟩⟩ := d
 exact (congrArg (fun st => iter (ev P KK T71_72 LOrc.none 300 73 (loopOf P 73 5)) (headL P KK (KK.ann 73 5) 2) (gcL (KK.ann 73 5).out 2) lf st k) (ly73_74_5 y2 y3 y4 y5)).trans (it73_74_5 y5 k lf y2 y3 y4)
theorem lo73_74_5 {R : Type} (lf : Nat) : LOrcOK P KK (lt73_74_5 (R := R) lf) :=
 LOrcOK.add (L := lb73_74_5 lf) ground oc71_72 LOrcOK.none (D := 300) (f0 := 73) (id0 := 5) (n00 := 2) (n := lf) (ps := ps73_74_5) (by kernel_rfl) (hi73_74_5 lf) LOrcOK.none
theorem oc73_74 {R : Type} : OrcOK P (T73_74 (R := R)) :=
 OrcOK.add (s := g73_74) (f := 73) (F := fun d => F73_74 fuel d.1 d.2.1.1.1) (cond := fun args => cloIs 1 74 args) (fun d r h => by
  obtain ⟨x1, ⟨⟨x2, ⟨⟩⟩, ⟨⟩⟩, ⟨⟩⟩ := d
  exact Meets.toW (Meets.of_evC ground oc71_72 (lo73_74_5 fuel) ((ev73_74 fuel x1 x2).trans h))) oc71_72
theorem oc52 {R : Type} : OrcOK P (T52 (R := R)) :=
 OrcOK.add1 (s := g52) (f := 52) (F := fun d => F52 d.1.1 d.1.2.1 d.1.2.2.1 d.1.2.2.2.1 d.1.2.2.2.2.1 d.1.2.2.2.2.2.1 d.1.2.2.2.2.2.2.1 d.1.2.2.2.2.2.2.2.1 d.1.2.2.2.2.2.2.2.2.1 d.1.2.2.2.2.2.2.2.2.2.1 d.1.2.2.2.2.2.2.2.2.2.2.1 d.2.1) (fun d r h => by
  obtain ⟨⟨x1, x2, x3, x4, x5, x6, x7, x8, x9, x10, x11, ⟨⟩⟩, x12, ⟨⟩⟩ := d
  exact Meets.toW (Meets.of_evC ground oc73_74 LOrcOK.none ((ev52 x1 x2 x3 x4 x5 x6 x7 x8 x9 x10 x11 x12).trans h))) oc73_74
theorem hi75_6 {R : Type} (lf : Nat) (d : ps75_6.D) (k : Ex → St → Option R) : iter (ev P KK T52 LOrc.none 300 75 (loopOf P 75 6)) (headL P KK (KK.ann 75 6) 9) (gcL (KK.ann 75 6).out 9) lf (layS ps75_6 d) k = lb75_6 lf d k := by
 obtain ⟨y3, y4, y5, y6, y7, y8, y9, y10, y11, y12, y13, y14, y15, y16, y17, y18, y19, y20, y21, y22, ⟨⟩⟩ := d
 exact (congrArg (fun st => iter (ev P KK T52 LOrc.none 300 75 (loopOf P 75 6)) (headL P KK (KK.ann 75 6) 9) (gcL (KK.ann 75 6).out 9) lf st k) (ly75_6 y3 y4 y5 y6 y7 y8 y9 y10 y11 y12 y13 y14 y15 y16 y17 y18 y19 y20 y21 y22)).trans (it75_6 y3 y5 y6 y7 y8 y9 y10 y11 y12 y13 y14 y15 y16 y17 y18 y19 y20 y21 k lf y4 y22)
theorem lo75_6 {R : Type} (lf : Nat) : LOrcOK P KK (lt75_6 (R := R) lf) :=
 LOrcOK.add (L := lb75_6 lf) ground oc52 LOrcOK.none (D := 300) (f0 := 75) (id0 := 6) (n00 := 9) (n := lf) (ps := ps75_6) (by kernel_rfl) (hi75_6 lf) LOrcOK.none
theorem oc75 {R : Type} : OrcOK P (T75 (R := R)) :=
 OrcOK.add1 (s := g75) (f := 75) (F := fun d => F75 fuel d.1.1 d.1.2.1 d.1.2.2.1 d.1.2.2.2.1 d.1.2.2.2.2.1 d.1.2.2.2.2.2.1 d.1.2.2.2.2.2.2.1 d.1.2.2.2.2.2.2.2.1 d.1.2.2.2.2.2.2.2.2.1 d.1.2.2.2.2.2.2.2.2.2.1 d.1.2.2.2.2.2.2.2.2.2.2.1) (fun d r h => by
  obtain ⟨⟨x1, x2, x3, x4, x5, x6, x7, x8, x9, x10, x11, ⟨⟩⟩, ⟨⟩⟩ := d
  exact Meets.toW (Meets.of_evC ground oc52 (lo75_6 fuel) ((ev75 fuel x1 x2 x3 x4 x5 x6 x7 x8 x9 x10 x11).trans h))) oc52
theorem oc53 {R : Type} : OrcOK P (T53 (R := R)) :=
 OrcOK.add1 (s := g53) (f := 53) (F := fun d => F53 d.1.1 d.1.2.1 d.1.2.2.1 d.1.2.2.2.1 d.1.2.2.2.2.1 d.1.2.2.2.2.2.1 d.1.2.2.2.2.2.2.1 d.1.2.2.2.2.2.2.2.1 d.1.2.2.2.2.2.2.2.2.1 d.1.2.2.2.2.2.2.2.2.2.1 d.1.2.2.2.2.2.2.2.2.2.2.1) (fun d r h => by
  obtain ⟨⟨x1, x2, x3, x4, x5, x6, x7, x8, x9, x10, x11, ⟨⟩⟩, ⟨⟩⟩ := d
  exact Meets.toW (Meets.of_evC ground oc75 LOrcOK.none ((ev53 x1 x2 x3 x4 x5 x6 x7 x8 x9 x10 x11).trans h))) oc75
theorem hi48_4 {R : Type} (lf : Nat) (d : ps48_4.D) (k : Ex → St → Option R) : iter (ev P KK T53 LOrc.none 300 48 (loopOf P 48 4)) (headL P KK (KK.ann 48 4) 2) (gcL (KK.ann 48 4).out 2) lf (layS ps48_4 d) k = lb48_4 lf d k := by
 obtain ⟨y1, y2, y3, y4, ⟨⟩⟩ := d
 exact (congrArg (fun st => iter (ev P KK T53 LOrc.none 300 48 (loopOf P 48 4)) (headL P KK (KK.ann 48 4) 2) (gcL (KK.ann 48 4).out 2) lf st k) (ly48_4 y1 y2 y3 y4)).trans (it48_4 y1 y3 y4 k lf y2)
theorem lo48_4 {R : Type} (lf : Nat) : LOrcOK P KK (lt48_4 (R := R) lf) :=
 LOrcOK.add (L := lb48_4 lf) ground oc53 LOrcOK.none (D := 300) (f0 := 48) (id0 := 4) (n00 := 2) (n := lf) (ps := ps48_4) (by kernel_rfl) (hi48_4 lf) LOrcOK.none
theorem oc48 {R : Type} : OrcOK P (T48 (R := R)) :=
 OrcOK.add1 (s := g48) (f := 48) (F := fun d => F48 fuel d.1 d.2.1) (fun d r h => by
  obtain ⟨x1, x2, ⟨⟩⟩ := d
  exact Meets.toW (Meets.of_evC ground oc53 (lo48_4 fuel) ((ev48 fuel x1 x2).trans h))) oc53
theorem oc19 {R : Type} : OrcOK P (T19 (R := R)) :=
 OrcOK.add1 (s := g19) (f := 19) (F := fun d => F19 d.1.1 d.1.2.1 d.1.2.2.1 d.1.2.2.2.1 d.1.2.2.2.2.1 d.1.2.2.2.2.2.1 d.1.2.2.2.2.2.2.1 d.1.2.2.2.2.2.2.2.1 d.1.2.2.2.2.2.2.2.2.1 d.1.2.2.2.2.2.2.2.2.2.1 d.1.2.2.2.2.2.2.2.2.2.2.1 d.1.2.2.2.2.2.2.2.2.2.2.2.1 d.1.2.2.2.2.2.2.2.2.2.2.2.2.1 d.1.2.2.2.2.2.2.2.2.2.2.2.2.2.1 d.2.1.1 d.2.1.2.1 d.2.1.2.2.1 d.2.1.2.2.2.1 d.2.1.2.2.2.2.1 d.2.1.2.2.2.2.2.1 d.2.1.2.2.2.2.2.2.1 d.2.1.2.2.2.2.2.2.2.1 d.2.1.2.2.2.2.2.2.2.2.1 d.2.1.2.2.2.2.2.2.2.2.2.1 d.2.1.2.2.2.2.2.2.2.2.2.2.1 d.2.1.2.2.2.2.2.2.2.2.2.2.2.1 d.2.1.2.2.2.2.2.2.2.2.2.2.2.2.1 d.2.1.2.2.2.2.2.2.2.2.2.2.2.2.2.1) (fun d r h => by
  obtain ⟨⟨x1, x2, x3, x4, x5, x6, x7, x8, x9, x10, x11, x12, x13, x14, ⟨⟩⟩, ⟨x15, x16, x17, x18, x19, x20, x21, x22, x23, x24, x25, x26, x27, x28, ⟨⟩⟩, ⟨⟩⟩ := d
  exact Meets.toW (Meets.of_evC ground oc48 LOrcOK.none ((ev19 x1 x2 x3 x4 x5 x6 x7 x8 x9 x10 x11 x12 x13 x14 x15 x16 x17 x18 x19 x20 x21 x22 x23 x24 x25 x26 x27 x28).trans h))) oc48
theorem hi49_18_2 {R : Type} (lf : Nat) (d : ps49_18_2.D) (k : Ex → St → Option R) : iter (ev P KK T19 LOrc.none 300 49 (loopOf P 49 2)) (headL P KK (KK.ann 49 2) 1) (gcL (KK.ann 49 2).out 1) lf (layS ps49_18_2 d) k = lb49_18_2 lf d k := by
 obtain ⟨y1, y2, y3, ⟨⟩⟩ := d
 exact (congrArg (fun st => iter (ev P KK T19 LOrc.none 300 49 (loopOf P 49 2)) (headL P KK (KK.ann 49 2) 1) (gcL (KK.ann 49 2).out 1) lf st k) (ly49_18_2 y1 y2 y3)).trans (it49_18_2 y1 y3 k lf y2)
theorem lo49_18_2 {R : Type} (lf : Nat) : LOrcOK P KK (lt49_18_2 (R := R) lf) :=
 LOrcOK.add (L := lb49_18_2 lf) ground oc19 LOrcOK.none (D := 300) (f0 := 49) (id0 := 2) (n00 := 1) (n := lf) (ps := ps49_18_2) (by kernel_rfl) (hi49_18_2 lf) LOrcOK.none
theorem oc49_18 {R : Type} : OrcOK P (T49_18 (R := R)) :=
 OrcOK.add (s := g49_18) (f := 49) (F := fun d => F49_18 fuel d.1) (cond := fun args => cloIs 1 18 args) (fun d r h => by
  obtain ⟨x1, ⟨⟨⟩⟩, ⟨⟩⟩ := d
  exact Meets.toW (Meets.of_evC ground oc19 (lo49_18_2 fuel) ((ev49_18 fuel x1).trans h))) oc19
theorem oc10 {R : Type} : OrcOK P (T10 (R := R)) :=
 OrcOK.add1 (s := g10) (f := 10) (F := fun d => F10 d.1.1 d.1.2.1 d.1.2.2.1 d.1.2.2.2.1 d.1.2.2.2.2.1 d.1.2.2.2.2.2.1 d.1.2.2.2.2.2.2.1 d.1.2.2.2.2.2.2.2.1 d.1.2.2.2.2.2.2.2.2.1 d.1.2.2.2.2.2.2.2.2.2.1 d.1.2.2.2.2.2.2.2.2.2.2.1 d.1.2.2.2.2.2.2.2.2.2.2.2.1 d.1.2.2.2.2.2.2.2.2.2.2.2.2.1 d.1.2.2.2.2.2.2.2.2.2.2.2.2.2.1) (fun d r h => by
  obtain ⟨⟨x1, x2, x3, x4, x5, x6, x7, x8, x9, x10, x11, x12, x13, x14, ⟨⟩⟩, ⟨⟩⟩ := d
  exact Meets.toW (Meets.of_evC ground oc49_18 LOrcOK.none ((ev10 x1 x2 x3 x4 x5 x6 x7 x8 x9 x10 x11 x12 x13 x14).trans h))) oc49_18
theorem oc11 {R : Type} : OrcOK P (T11 (R := R)) :=
 OrcOK.add1 (s := g11) (f := 11) (F := fun d => F11 d.1.1 d.1.2.1 d.1.2.2.1 d.1.2.2.2.1 d.1.2.2.2.2.1 d.1.2.2.2.2.2.1 d.1.2.2.2.2.2.2.1 d.1.2.2.2.2.2.2.2.1 d.1.2.2.2.2.2.2.2.2.1 d.1.2.2.2.2.2.2.2.2.2.1 d.1.2.2.2.2.2.2.2.2.2.2.1) (fun d r h => by
  obtain ⟨⟨x1, x2, x3, x4, x5, x6, x7, x8, x9, x10, x11, ⟨⟩⟩, ⟨⟩⟩ := d
  exact Meets.toW (Meets.of_evC ground oc10 LOrcOK.none ((ev11 x1 x2 x3 x4 x5 x6 x7 x8 x9 x10 x11).trans h))) oc10
theorem oc9 {R : Type} : OrcOK P (T9 (R := R)) :=
 OrcOK.add1 (s := g9) (f := 9) (F := fun d => F9 d.1.1 d.1.2.1 d.1.2.2.1 d.1.2.2.2.1 d.1.2.2.2.2.1 d.1.2.2.2.2.2.1 d.1.2.2.2.2.2.2.1 d.1.2.2.2.2.2.2.2.1 d.1.2.2.2.2.2.2.2.2.1 d.1.2.2.2.2.2.2.2.2.2.1 d.1.2.2.2.2.2.2.2.2.2.2.1 d.2.1) (fun d r h => by
  obtain ⟨⟨x1, x2, x3, x4, x5, x6, x7, x8, x9, x10, x11, ⟨⟩⟩, x12, ⟨⟩⟩ := d
  exact Meets.toW (Meets.of_evC ground oc11 LOrcOK.none ((ev9 x1 x2 x3 x4 x5 x6 x7 x8 x9 x10 x11 x12).trans h))) oc11
theorem oc5 {R : Type} : OrcOK P (T5 (R := R)) :=
 OrcOK.add1 (s := g5) (f := 5) (F := fun d => some (F5)) (fun d r h => by
  obtain ⟨⟩ := d
  exact Meets.toW (Meets.of_evC ground oc9 LOrcOK.none ((ev5 ).trans h))) oc9
theorem oc6 {R : Type} : OrcOK P (T6 (R := R)) :=
 OrcOK.add1 (s := g6) (f := 6) (F := fun d => F6 d.1.1 d.1.2.1 d.1.2.2.1 d.1.2.2.2.1 d.1.2.2.2.2.1 d.1.2.2.2.2.2.1 d.1.2.2.2.2.2.2.1 d.1.2.2.2.2.2.2.2.1 d.1.2.2.2.2.2.2.2.2.1 d.1.2.2.2.2.2.2.2.2.2.1 d.1.2.2.2.2.2.2.2.2.2.2.1 d.2.1.1 d.2.1.2.1 d.2.1.2.2.1 d.2.1.2.2.2.1 d.2.1.2.2.2.2.1 d.2.1.2.2.2.2.2.1 d.2.1.2.2.2.2.2.2.1 d.2.1.2.2.2.2.2.2.2.1 d.2.1.2.2.2.2.2.2.2.2.1 d.2.1.2.2.2.2.2.2.2.2.2.1 d.2.1.2.2.2.2.2.2.2.2.2.2.1 d.2.1.2.2.2.2.2.2.2.2.2.2.2.1 d.2.1.2.2.2.2.2.2.2.2.2.2.2.2.1 d.2.1.2.2.2.2.2.2.2.2.2.2.2.2.2.1) (fun d r h => by
  obtain ⟨⟨x1, x2, x3, x4, x5, x6, x7, x8, x9, x10, x11, ⟨⟩⟩, ⟨x12, x13, x14, x15, x16, x17, x18, x19, x20, x21, x22, x23, x24, x25, ⟨⟩⟩, ⟨⟩⟩ := d
  exact Meets.toW (Meets.of_evC ground oc5 LOrcOK.none ((ev6 x1 x2 x3 x4 x5 x6 x7 x8 x9 x10 x11 x12 x13 x14 x15 x16 x17 x18 x19 x20 x21 x22 x23 x24 x25).trans h))) oc5
theorem oc7 {R : Type} : OrcOK P (T7 (R := R)) :=
 OrcOK.add1 (s := g7) (f := 7) (F := fun d => some (F7)) (fun d r h => by
  obtain ⟨⟩ := d
  exact Meets.toW (Meets.of_evC ground oc6 LOrcOK.none ((ev7 ).trans h))) oc6
theorem oc4 {R : Type} : OrcOK P (T4 (R := R)) :=
 OrcOK.add1 (s := g4) (f := 4) (F := fun d => F4) (fun d r h => by
  obtain ⟨⟩ := d
  exact Meets.toW (Meets.of_evC ground oc7 LOrcOK.none ((ev4 ).trans h))) oc7
theorem hi3_7 {R : Type} (lf : Nat) (d : ps3_7.D) (k : Ex → St → Option R) : iter (ev P KK T4 LOrc.none 300 3 (loopOf P 3 7)) (headL P KK (KK.ann 3 7) 9) (gcL (KK.ann 3 7).out 9) lf (layS ps3_7 d) k = lb3_7 lf d k := by
 obtain ⟨y4, y5, y6, y7, y8, y9, y10, y11, y12, y13, y14, y15, y16, y17, y18, y19, y20, y21, y22, y23, y24, y25, y26, y27, ⟨⟩⟩ := d
 exact (congrArg (fun st => iter (ev P KK T4 LOrc.none 300 3 (loopOf P 3 7)) (headL P KK (KK.ann 3 7) 9) (gcL (KK.ann 3 7).out 9) lf st k) (ly3_7 y4 y5 y6 y7 y8 y9 y10 y11 y12 y13 y14 y15 y16 y17 y18 y19 y20 y21 y22 y23 y24 y25 y26 y27)).trans (it3_7 y5 k lf y4 y6 y7 y8 y9 y10 y11 y12 y13 y14 y15 y16 y17 y18 y19 y20 y21 y22 y23 y24 y25 y26 y27)
theorem lo3_7 {R : Type} (lf : Nat) : LOrcOK P KK (lt3_7 (R := R) lf) :=
 LOrcOK.add (L := lb3_7 lf) ground oc4 LOrcOK.none (D := 300) (f0 := 3) (id0 := 7) (n00 := 9) (n := lf) (ps := ps3_7) (by kernel_rfl) (hi3_7 lf) LOrcOK.none
theorem hi3_17 {R : Type} (lf : Nat) (d : ps3_17.D) (k : Ex → St → Option R) : iter (ev P KK T4 (lt3_7 _root_.Go.Abs.lf) 300 3 (loopOf P 3 17)) (headL P KK (KK.ann 3 17) 15) (gcL (KK.ann 3 17).out 15) lf (layS ps3_17 d) k = lb3_17 lf d k := by
 obtain ⟨y80, y81, y82, y83, y84, y85, y86, y87, y88, y89, y90, y91, y92, y93, y94, y95, y96, y97, y98, y99, y100, y101, y102, y103, ⟨⟩⟩ := d
 exact (congrArg (fun st => iter (ev P KK T4 (lt3_7 _root_.Go.Abs.lf) 300 3 (loopOf P 3 17)) (headL P KK (KK.ann 3 17) 15) (gcL (KK.ann 3 17).out 15) lf st k) (ly3_17 y80 y81 y82 y83 y84 y85 y86 y87 y88 y89 y90 y91 y92 y93 y94 y95 y96 y97 y98 y99 y100 y101 y102 y103)).trans (it3_17 y81 y82 y83 y84 y85 y86 y87 y88 y89 y90 y91 y92 y93 y94 y95 y96 y97 y98 y99 y100 y101 y102 y103 k lf y80)
theorem lo3_17 {R : Type} (lf : Nat) : LOrcOK P KK (lt3_17 (R := R) lf) :=
 LOrcOK.add (L := lb3_17 lf) ground oc4 (lo3_7 _root_.Go.Abs.lf) (D := 300) (f0 := 3) (id0 := 17) (n00 := 15) (n := lf) (ps := ps3_17) (by kernel_rfl) (hi3_17 lf) (lo3_7 lf)
theorem me3 (l : List OpD) (b : Bool) (h : F3 fuel l = some b) : ∃ v h2, CallOK P 3 [.whole 0] [some ⟨false, true, false, 0, .ops l⟩] v h2 ∧ v = .bool b :=
 ev3C_sound ground oc4 (lo3_17 fuel) ((ev3 fuel l).trans h)
end Go.Abs
