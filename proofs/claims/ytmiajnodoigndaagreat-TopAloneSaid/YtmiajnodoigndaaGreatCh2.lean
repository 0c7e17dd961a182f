/- Own: What the interpreter tells of the functions holds of the machine. -/
import Derived.Test.YtmiajnodoigndaaGreatCh1
set_option linter.unusedVariables false
set_option maxRecDepth 1000000
set_option maxHeartbeats 1000000
namespace Go.Abs
theorem hi84_3 {R : Type} (lf : Nat) (d : ps84_3.D) (k : Ex → St → Option R) : iter (ev P KK T120 LOrc.none 300 84 (loopOf P 84 3)) (headL P KK (KK.ann 84 3) 2) (gcL (KK.ann 84 3).out 2) lf (layS ps84_3 d) k = lb84_3 lf d k := by
 obtain ⟨y1, y2, y3, y4, y5, ⟨⟩⟩ := d
 exact (congrArg (fun st => iter (ev P KK T120 LOrc.none 300 84 (loopOf P 84 3)) (headL P KK (KK.ann 84 3) 2) (gcL (KK.ann 84 3).out 2) lf st k) (ly84_3 y1 y2 y3 y4 y5)).trans (it84_3 y1 y2 y4 k lf y3 y5)
theorem lo84_3 {R : Type} (lf : Nat) : LOrcOK P KK (lt84_3 (R := R) lf) :=
 LOrcOK.add (L := lb84_3 lf) ground oc120 LOrcOK.none (D := 300) (f0 := 84) (id0 := 3) (n00 := 2) (n := lf) (ps := ps84_3) (by kernel_rfl) (hi84_3 lf) LOrcOK.none
theorem oc84 {R : Type} : OrcOK P (T84 (R := R)) :=
 OrcOK.add1 (s := g84) (f := 84) (F := fun d => F84 fuel d.1 d.2.1) (fun d r h => by
  obtain ⟨x1, x2, ⟨⟩⟩ := d
  exact Meets.toW (Meets.of_evC ground oc120 (lo84_3 fuel) ((ev84 fuel x1 x2).trans h))) oc120
theorem oc183 {R : Type} : OrcOK P (T183 (R := R)) :=
 OrcOK.add1 (s := g183) (f := 183) (F := fun d => some (F183 d.1)) (fun d r h => by
  obtain ⟨x1, ⟨⟩⟩ := d
  exact Meets.toW (Meets.of_evC ground oc84 LOrcOK.none ((ev183 x1).trans h))) oc84
theorem oc151 {R : Type} : OrcOK P (T151 (R := R)) :=
 OrcOK.add1 (s := g151) (f := 151) (F := fun d => some (F151 d.1 d.2.1)) (fun d r h => by
  obtain ⟨x1, x2, ⟨⟩⟩ := d
  exact Meets.toW (Meets.of_evC ground oc183 LOrcOK.none ((ev151 x1 x2).trans h))) oc183
theorem oc22 {R : Type} : OrcOK P (T22 (R := R)) :=
 OrcOK.add1 (s := g22) (f := 22) (F := fun d => cloneB d.1) (fun d r h => me22 d r h) oc151
theorem oc185 {R : Type} : OrcOK P (T185 (R := R)) :=
 OrcOK.add1 (s := g185) (f := 185) (F := fun d => some (F185 d.1 d.2.1)) (fun d r h => by
  obtain ⟨x1, x2, ⟨⟩⟩ := d
  exact Meets.toW (Meets.of_evC ground oc22 LOrcOK.none ((ev185 x1 x2).trans h))) oc22
theorem hi154_207_4 {R : Type} (lf : Nat) (d : ps154_207_4.D) (k : Ex → St → Option R) : iter (ev P KK T185 LOrc.none 300 207 (loopOf P 207 4)) (headL P KK (KK.ann 207 4) 2) (gcL (KK.ann 207 4).out 2) lf (layS ps154_207_4 d) k = lb154_207_4 lf d k := by
 obtain ⟨y13, y14, y15, y16, y17, y18, ⟨⟩⟩ := d
 exact (congrArg (fun st => iter (ev P KK T185 LOrc.none 300 207 (loopOf P 207 4)) (headL P KK (KK.ann 207 4) 2) (gcL (KK.ann 207 4).out 2) lf st k) (ly154_207_4 y13 y14 y15 y16 y17 y18)).trans (it154_207_4 y13 y14 y15 y17 k lf y16 y18)
theorem lo154_207_4 {R : Type} (lf : Nat) : LOrcOK P KK (lt154_207_4 (R := R) lf) :=
 LOrcOK.add (L := lb154_207_4 lf) ground oc185 LOrcOK.none (D := 300) (f0 := 207) (id0 := 4) (n00 := 2) (n := lf) (ps := ps154_207_4) (by kernel_rfl) (hi154_207_4 lf) LOrcOK.none
theorem hi154_207_1 {R : Type} (lf : Nat) (d : ps154_207_1.D) (k : Ex → St → Option R) : iter (ev P KK T185 (lt154_207_4 lf) 300 207 (loopOf P 207 1)) (headL P KK (KK.ann 207 1) 2) (gcL (KK.ann 207 1).out 2) lf (layS ps154_207_1 d) k = lb154_207_1 lf d k := by
 obtain ⟨y8, y9, y10, y11, y12, ⟨⟩⟩ := d
 exact (congrArg (fun st => iter (ev P KK T185 (lt154_207_4 lf) 300 207 (loopOf P 207 1)) (headL P KK (KK.ann 207 1) 2) (gcL (KK.ann 207 1).out 2) lf st k) (ly154_207_1 y8 y9 y10 y11 y12)).trans (it154_207_1 lf y8 y9 y11 k lf y10 y12)
theorem lo154_207_1 {R : Type} (lf : Nat) : LOrcOK P KK (lt154_207_1 (R := R) lf) :=
 LOrcOK.add (L := lb154_207_1 lf) ground oc185 (lo154_207_4 lf) (D := 300) (f0 := 207) (id0 := 1) (n00 := 2) (n := lf) (ps := ps154_207_1) (by kernel_rfl) (hi154_207_1 lf) (lo154_207_4 lf)
theorem hi154_198_2 {R : Type} (lf : Nat) (d : ps154_198_2.D) (k : Ex → St → Option R) : iter (ev P KK T185 (lt154_207_1 lf) 300 198 (loopOf P 198 2)) (headL P KK (KK.ann 198 2) 2) (gcL (KK.ann 198 2).out 2) lf (layS ps154_198_2 d) k = lb154_198_2 lf d k := by
 obtain ⟨y2, y3, y4, y5, y6, y7, ⟨⟩⟩ := d
 exact (congrArg (fun st => iter (ev P KK T185 (lt154_207_1 lf) 300 198 (loopOf P 198 2)) (headL P KK (KK.ann 198 2) 2) (gcL (KK.ann 198 2).out 2) lf st k) (ly154_198_2 y2 y3 y4 y5 y6 y7)).trans (it154_198_2 lf y2 y3 y6 k lf y4 y5 y7)
theorem lo154_198_2 {R : Type} (lf : Nat) : LOrcOK P KK (lt154_198_2 (R := R) lf) :=
 LOrcOK.add (L := lb154_198_2 lf) ground oc185 (lo154_207_1 lf) (D := 300) (f0 := 198) (id0 := 2) (n00 := 2) (n := lf) (ps := ps154_198_2) (by kernel_rfl) (hi154_198_2 lf) (lo154_207_1 lf)
theorem hi154_198_9 {R : Type} (lf : Nat) (d : ps154_198_9.D) (k : Ex → St → Option R) : iter (ev P KK T185 (lt154_198_2 _root_.Go.Abs.lf) 300 198 (loopOf P 198 9)) (headL P KK (KK.ann 198 9) 2) (gcL (KK.ann 198 9).out 2) lf (layS ps154_198_9 d) k = lb154_198_9 lf d k := by
 obtain ⟨y34, y35, y36, y37, y38, y39, ⟨⟩⟩ := d
 exact (congrArg (fun st => iter (ev P KK T185 (lt154_198_2 _root_.Go.Abs.lf) 300 198 (loopOf P 198 9)) (headL P KK (KK.ann 198 9) 2) (gcL (KK.ann 198 9).out 2) lf st k) (ly154_198_9 y34 y35 y36 y37 y38 y39)).trans (it154_198_9 y34 y35 y36 y37 y38 y39 k lf )
theorem lo154_198_9 {R : Type} (lf : Nat) : LOrcOK P KK (lt154_198_9 (R := R) lf) :=
 LOrcOK.add (L := lb154_198_9 lf) ground oc185 (lo154_198_2 _root_.Go.Abs.lf) (D := 300) (f0 := 198) (id0 := 9) (n00 := 2) (n := lf) (ps := ps154_198_9) (by kernel_rfl) (hi154_198_9 lf) (lo154_198_2 lf)
theorem hi154_198_7 {R : Type} (lf : Nat) (d : ps154_198_7.D) (k : Ex → St → Option R) : iter (ev P KK T185 (lt154_198_9 lf) 300 198 (loopOf P 198 7)) (headL P KK (KK.ann 198 7) 2) (gcL (KK.ann 198 7).out 2) lf (layS ps154_198_7 d) k = lb154_198_7 lf d k := by
 obtain ⟨y30, y31, y32, y33, ⟨⟩⟩ := d
 exact (congrArg (fun st => iter (ev P KK T185 (lt154_198_9 lf) 300 198 (loopOf P 198 7)) (headL P KK (KK.ann 198 7) 2) (gcL (KK.ann 198 7).out 2) lf st k) (ly154_198_7 y30 y31 y32 y33)).trans (it154_198_7 lf y30 y32 y33 k lf y31)
theorem lo154_198_7 {R : Type} (lf : Nat) : LOrcOK P KK (lt154_198_7 (R := R) lf) :=
 LOrcOK.add (L := lb154_198_7 lf) ground oc185 (lo154_198_9 lf) (D := 300) (f0 := 198) (id0 := 7) (n00 := 2) (n := lf) (ps := ps154_198_7) (by kernel_rfl) (hi154_198_7 lf) (lo154_198_9 lf)
theorem oc154 {R : Type} : OrcOK P (T154 (R := R)) :=
 OrcOK.add1 (s := g154) (f := 154) (F := fun d => F154 fuel d.1) (fun d r h => by
  obtain ⟨x1, ⟨⟩⟩ := d
  exact Meets.toW (Meets.of_evC ground oc185 (lo154_198_7 fuel) ((ev154 fuel x1).trans h))) oc185
theorem hi155_2 {R : Type} (lf : Nat) (d : ps155_2.D) (k : Ex → St → Option R) : iter (ev P KK T154 LOrc.none 300 155 (loopOf P 155 2)) (headL P KK (KK.ann 155 2) 2) (gcL (KK.ann 155 2).out 2) lf (layS ps155_2 d) k = lb155_2 lf d k := by
 obtain ⟨y2, y3, y4, y5, y6, ⟨⟩⟩ := d
 exact (congrArg (fun st => iter (ev P KK T154 LOrc.none 300 155 (loopOf P 155 2)) (headL P KK (KK.ann 155 2) 2) (gcL (KK.ann 155 2).out 2) lf st k) (ly155_2 y2 y3 y4 y5 y6)).trans (it155_2 y3 y5 y6 k lf y2 y4)
theorem lo155_2 {R : Type} (lf : Nat) : LOrcOK P KK (lt155_2 (R := R) lf) :=
 LOrcOK.add (L := lb155_2 lf) ground oc154 LOrcOK.none (D := 300) (f0 := 155) (id0 := 2) (n00 := 2) (n := lf) (ps := ps155_2) (by kernel_rfl) (hi155_2 lf) LOrcOK.none
theorem oc155 {R : Type} : OrcOK P (T155 (R := R)) :=
 OrcOK.add1 (s := g155) (f := 155) (F := fun d => F155 fuel d.1 d.2.1) (fun d r h => by
  obtain ⟨x1, x2, ⟨⟩⟩ := d
  exact Meets.toW (Meets.of_evC ground oc154 (lo155_2 fuel) ((ev155 fuel x1 x2).trans h))) oc154
theorem oc186 {R : Type} : OrcOK P (T186 (R := R)) :=
 OrcOK.add1 (s := g186) (f := 186) (F := fun d => some (F186 d.1 d.2.1 d.2.2.1)) (fun d r h => by
  obtain ⟨x1, x2, x3, ⟨⟩⟩ := d
  exact Meets.toW (Meets.of_evC ground oc155 LOrcOK.none ((ev186 x1 x2 x3).trans h))) oc155
theorem hi112_6 {R : Type} (lf : Nat) (d : ps112_6.D) (k : Ex → St → Option R) : iter (ev P KK T186 LOrc.none 300 112 (loopOf P 112 6)) (headL P KK (KK.ann 112 6) 4) (gcL (KK.ann 112 6).out 4) lf (layS ps112_6 d) k = lb112_6 lf d k := by
 obtain ⟨y2, y3, y4, y5, y6, y7, y8, y9, ⟨⟩⟩ := d
 exact (congrArg (fun st => iter (ev P KK T186 LOrc.none 300 112 (loopOf P 112 6)) (headL P KK (KK.ann 112 6) 4) (gcL (KK.ann 112 6).out 4) lf st k) (ly112_6 y2 y3 y4 y5 y6 y7 y8 y9)).trans (it112_6 y2 y3 y5 y7 y8 k lf y4 y6 y9)
theorem lo112_6 {R : Type} (lf : Nat) : LOrcOK P KK (lt112_6 (R := R) lf) :=
 LOrcOK.add (L := lb112_6 lf) ground oc186 LOrcOK.none (D := 300) (f0 := 112) (id0 := 6) (n00 := 4) (n := lf) (ps := ps112_6) (by kernel_rfl) (hi112_6 lf) LOrcOK.none
theorem hi112_14 {R : Type} (lf : Nat) (d : ps112_14.D) (k : Ex → St → Option R) : iter (ev P KK T186 (lt112_6 _root_.Go.Abs.lf) 300 112 (loopOf P 112 14)) (headL P KK (KK.ann 112 14) 7) (gcL (KK.ann 112 14).out 7) lf (layS ps112_14 d) k = lb112_14 lf d k := by
 obtain ⟨y14, y15, y16, y17, y18, y19, y20, y21, y22, ⟨⟩⟩ := d
 exact (congrArg (fun st => iter (ev P KK T186 (lt112_6 _root_.Go.Abs.lf) 300 112 (loopOf P 112 14)) (headL P KK (KK.ann 112 14) 7) (gcL (KK.ann 112 14).out 7) lf st k) (ly112_14 y14 y15 y16 y17 y18 y19 y20 y21 y22)).trans (it112_14 y14 y15 y17 y18 y19 y20 y21 k lf y16 y22)
theorem lo112_14 {R : Type} (lf : Nat) : LOrcOK P KK (lt112_14 (R := R) lf) :=
 LOrcOK.add (L := lb112_14 lf) ground oc186 (lo112_6 _root_.Go.Abs.lf) (D := 300) (f0 := 112) (id0 := 14) (n00 := 7) (n := lf) (ps := ps112_14) (by kernel_rfl) (hi112_14 lf) (lo112_6 lf)
theorem hi112_24 {R : Type} (lf : Nat) (d : ps112_24.D) (k : Ex → St → Option R) : iter (ev P KK T186 (lt112_14 _root_.Go.Abs.lf) 300 112 (loopOf P 112 24)) (headL P KK (KK.ann 112 24) 8) (gcL (KK.ann 112 24).out 8) lf (layS ps112_24 d) k = lb112_24 lf d k := by
 obtain ⟨y27, y28, y29, y30, y31, y32, y33, y34, y35, ⟨⟩⟩ := d
 exact (congrArg (fun st => iter (ev P KK T186 (lt112_14 _root_.Go.Abs.lf) 300 112 (loopOf P 112 24)) (headL P KK (KK.ann 112 24) 8) (gcL (KK.ann 112 24).out 8) lf st k) (ly112_24 y27 y28 y29 y30 y31 y32 y33 y34 y35)).trans (it112_24 y27 y28 y30 y33 y34 k lf y29 y31 y32 y35)
theorem lo112_24 {R : Type} (lf : Nat) : LOrcOK P KK (lt112_24 (R := R) lf) :=
 LOrcOK.add (L := lb112_24 lf) ground oc186 (lo112_14 _root_.Go.Abs.lf) (D := 300) (f0 := 112) (id0 := 24) (n00 := 8) (n := lf) (ps := ps112_24) (by kernel_rfl) (hi112_24 lf) (lo112_14 lf)
theorem hi112_60_2 {R : Type} (lf : Nat) (d : ps112_60_2.D) (k : Ex → St → Option R) : iter (ev P KK T186 (lt112_24 _root_.Go.Abs.lf) 300 60 (loopOf P 60 2)) (headL P KK (KK.ann 60 2) 10) (gcL (KK.ann 60 2).out 10) lf (layS ps112_60_2 d) k = lb112_60_2 lf d k := by
 obtain ⟨y40, y41, y42, y43, y44, y45, y46, y47, y48, y49, y50, y51, y52, ⟨⟩⟩ := d
 exact (congrArg (fun st => iter (ev P KK T186 (lt112_24 _root_.Go.Abs.lf) 300 60 (loopOf P 60 2)) (headL P KK (KK.ann 60 2) 10) (gcL (KK.ann 60 2).out 10) lf st k) (ly112_60_2 y40 y41 y42 y43 y44 y45 y46 y47 y48 y49 y50 y51 y52)).trans (it112_60_2 y40 y42 y43 y44 y45 y46 y47 y48 y49 y50 y51 y52 k lf y41)
theorem lo112_60_2 {R : Type} (lf : Nat) : LOrcOK P KK (lt112_60_2 (R := R) lf) :=
 LOrcOK.add (L := lb112_60_2 lf) ground oc186 (lo112_24 _root_.Go.Abs.lf) (D := 300) (f0 := 60) (id0 := 2) (n00 := 10) (n := lf) (ps := ps112_60_2) (by kernel_rfl) (hi112_60_2 lf) (lo112_24 lf)
theorem oc112 {R : Type} : OrcOK P (T112 (R := R)) :=
 OrcOK.add1 (s := g112) (f := 112) (F := fun d => F112 fuel d.1 d.2.1 d.2.2.1) (fun d r h => by
  obtain ⟨x1, x2, x3, ⟨⟩⟩ := d
  exact Meets.toW (Meets.of_evC ground oc186 (lo112_60_2 fuel) ((ev112 fuel x1 x2 x3).trans h))) oc186
theorem oc240 {R : Type} : OrcOK P (T240 (R := R)) :=
 OrcOK.add1 (s := g240) (f := 240) (F := fun d => some (F240 d.1)) (fun d r h => by
  obtain ⟨x1, ⟨⟩⟩ := d
  exact Meets.toW (Meets.of_evC ground oc112 LOrcOK.none ((ev240 x1).trans h))) oc112
theorem oc243 {R : Type} : OrcOK P (T243 (R := R)) :=
 OrcOK.add1 (s := g243) (f := 243) (F := fun d => some (F243 d.1)) (fun d r h => by
  obtain ⟨x1, ⟨⟩⟩ := d
  exact Meets.toW (Meets.of_evC ground oc240 LOrcOK.none ((ev243 x1).trans h))) oc240
theorem oc242 {R : Type} : OrcOK P (T242 (R := R)) :=
 OrcOK.add1 (s := g242) (f := 242) (F := fun d => some (F242 d.1 d.2.1)) (fun d r h => by
  obtain ⟨x1, x2, ⟨⟩⟩ := d
  exact Meets.toW (Meets.of_evC ground oc243 LOrcOK.none ((ev242 x1 x2).trans h))) oc243
theorem hi241_2 {R : Type} (lf : Nat) (d : ps241_2.D) (k : Ex → St → Option R) : iter (ev P KK T242 LOrc.none 300 241 (loopOf P 241 2)) (headL P KK (KK.ann 241 2) 2) (gcL (KK.ann 241 2).out 2) lf (layS ps241_2 d) k = lb241_2 lf d k := by
 obtain ⟨y1, y2, y3, y4, ⟨⟩⟩ := d
 exact (congrArg (fun st => iter (ev P KK T242 LOrc.none 300 241 (loopOf P 241 2)) (headL P KK (KK.ann 241 2) 2) (gcL (KK.ann 241 2).out 2) lf st k) (ly241_2 y1 y2 y3 y4)).trans (it241_2 y1 y3 y4 k lf y2)
theorem lo241_2 {R : Type} (lf : Nat) : LOrcOK P KK (lt241_2 (R := R) lf) :=
 LOrcOK.add (L := lb241_2 lf) ground oc242 LOrcOK.none (D := 300) (f0 := 241) (id0 := 2) (n00 := 2) (n := lf) (ps := ps241_2) (by kernel_rfl) (hi241_2 lf) LOrcOK.none
theorem oc241 {R : Type} : OrcOK P (T241 (R := R)) :=
 OrcOK.add1 (s := g241) (f := 241) (F := fun d => F241 fuel d.1 d.2.1) (fun d r h => by
  obtain ⟨x1, x2, ⟨⟩⟩ := d
  exact Meets.toW (Meets.of_evC ground oc242 (lo241_2 fuel) ((ev241 fuel x1 x2).trans h))) oc242
theorem oc239 {R : Type} : OrcOK P (T239 (R := R)) :=
 OrcOK.add1 (s := g239) (f := 239) (F := fun d => F239 d.1 d.2.1) (fun d r h => by
  obtain ⟨x1, x2, ⟨⟩⟩ := d
  exact Meets.toW (Meets.of_evC ground oc241 LOrcOK.none ((ev239 x1 x2).trans h))) oc241
theorem oc235 {R : Type} : OrcOK P (T235 (R := R)) :=
 OrcOK.add1 (s := g235) (f := 235) (F := fun d => F235 d.1 d.2.1 d.2.2.1 d.2.2.2.1) (fun d r h => by
  obtain ⟨x1, x2, x3, x4, ⟨⟩⟩ := d
  exact Meets.toW (Meets.of_evC ground oc239 LOrcOK.none ((ev235 x1 x2 x3 x4).trans h))) oc239
theorem hi236_3 {R : Type} (lf : Nat) (d : ps236_3.D) (k : Ex → St → Option R) : iter (ev P KK T235 LOrc.none 300 236 (loopOf P 236 3)) (headL P KK (KK.ann 236 3) 1) (gcL (KK.ann 236 3).out 1) lf (layS ps236_3 d) k = lb236_3 lf d k := by
 obtain ⟨y1, y2, y3, y4, ⟨⟩⟩ := d
 exact (congrArg (fun st => iter (ev P KK T235 LOrc.none 300 236 (loopOf P 236 3)) (headL P KK (KK.ann 236 3) 1) (gcL (KK.ann 236 3).out 1) lf st k) (ly236_3 y1 y2 y3 y4)).trans (it236_3 y2 y4 k lf y1 y3)
theorem lo236_3 {R : Type} (lf : Nat) : LOrcOK P KK (lt236_3 (R := R) lf) :=
 LOrcOK.add (L := lb236_3 lf) ground oc235 LOrcOK.none (D := 300) (f0 := 236) (id0 := 3) (n00 := 1) (n := lf) (ps := ps236_3) (by kernel_rfl) (hi236_3 lf) LOrcOK.none
theorem oc236 {R : Type} : OrcOK P (T236 (R := R)) :=
 OrcOK.add1 (s := g236) (f := 236) (F := fun d => F236 fuel d.1) (fun d r h => by
  obtain ⟨x1, ⟨⟩⟩ := d
  exact Meets.toW (Meets.of_evC ground oc235 (lo236_3 fuel) ((ev236 fuel x1).trans h))) oc235
theorem oc21 {R : Type} : OrcOK P (T21 (R := R)) :=
 OrcOK.add1 (s := g21) (f := 21) (F := fun d => cloneB d.1) (fun d r h => me21 d r h) oc236
theorem oc109 {R : Type} : OrcOK P (T109 (R := R)) :=
 OrcOK.add1 (s := g109) (f := 109) (F := fun d => F109 d.1.1 d.1.2.1 d.1.2.2.1 d.1.2.2.2.1) (fun d r h => by
  obtain ⟨⟨x1, x2, x3, x4, ⟨⟩⟩, ⟨⟩⟩ := d
  exact Meets.toW (Meets.of_evC ground oc21 LOrcOK.none ((ev109 x1 x2 x3 x4).trans h))) oc21
theorem hi57_3 {R : Type} (lf : Nat) (d : ps57_3.D) (k : Ex → St → Option R) : iter (ev P KK T109 LOrc.none 300 57 (loopOf P 57 3)) (headL P KK (KK.ann 57 3) 3) (gcL (KK.ann 57 3).out 3) lf (layS ps57_3 d) k = lb57_3 lf d k := by
 obtain ⟨y1, y2, y3, y4, y5, y6, y7, ⟨⟩⟩ := d
 exact (congrArg (fun st => iter (ev P KK T109 LOrc.none 300 57 (loopOf P 57 3)) (headL P KK (KK.ann 57 3) 3) (gcL (KK.ann 57 3).out 3) lf st k) (ly57_3 y1 y2 y3 y4 y5 y6 y7)).trans (it57_3 y1 y3 y4 y5 y6 k lf y2 y7)
theorem lo57_3 {R : Type} (lf : Nat) : LOrcOK P KK (lt57_3 (R := R) lf) :=
 LOrcOK.add (L := lb57_3 lf) ground oc109 LOrcOK.none (D := 300) (f0 := 57) (id0 := 3) (n00 := 3) (n := lf) (ps := ps57_3) (by kernel_rfl) (hi57_3 lf) LOrcOK.none
theorem oc57 {R : Type} : OrcOK P (T57 (R := R)) :=
 OrcOK.add1 (s := g57) (f := 57) (F := fun d => F57 fuel d.1.1 d.1.2.1 d.1.2.2.1 d.1.2.2.2.1) (fun d r h => by
  obtain ⟨⟨x1, x2, x3, x4, ⟨⟩⟩, ⟨⟩⟩ := d
  exact Meets.toW (Meets.of_evC ground oc109 (lo57_3 fuel) ((ev57 fuel x1 x2 x3 x4).trans h))) oc109
theorem hi86_87_2 {R : Type} (lf : Nat) (d : ps86_87_2.D) (k : Ex → St → Option R) : iter (ev P KK T57 LOrc.none 300 86 (loopOf P 86 2)) (headL P KK (KK.ann 86 2) 1) (gcL (KK.ann 86 2).out 1) lf (layS ps86_87_2 d) k = lb86_87_2 lf d k := by
 obtain ⟨y1, y2, ⟨⟩⟩ := d
 exact (congrArg (fun st => iter (ev P KK T57 LOrc.none 300 86 (loopOf P 86 2)) (headL P KK (KK.ann 86 2) 1) (gcL (KK.ann 86 2).out 1) lf st k) (ly86_87_2 y1 y2)).trans (it86_87_2 y2 k lf y1)
theorem lo86_87_2 {R : Type} (lf : Nat) : LOrcOK P KK (lt86_87_2 (R := R) lf) :=
 LOrcOK.add (L := lb86_87_2 lf) ground oc57 LOrcOK.none (D := 300) (f0 := 86) (id0 := 2) (n00 := 1) (n := lf) (ps := ps86_87_2) (by kernel_rfl) (hi86_87_2 lf) LOrcOK.none
theorem oc86_87 {R : Type} : OrcOK P (T86_87 (R := R)) :=
 OrcOK.add (s := g86_87) (f := 86) (F := fun d => F86_87 fuel d.1) (cond := fun args => cloIs 1 87 args) (fun d r h => by
  obtain ⟨x1, ⟨⟨⟩⟩, ⟨⟩⟩ := d
  exact Meets.toW (Meets.of_evC ground oc57 (lo86_87_2 fuel) ((ev86_87 fuel x1).trans h))) oc57
theorem hi55_4 {R : Type} (lf : Nat) (d : ps55_4.D) (k : Ex → St → Option R) : iter (ev P KK T86_87 LOrc.none 300 55 (loopOf P 55 4)) (headL P KK (KK.ann 55 4) 3) (gcL (KK.ann 55 4).out 3) lf (layS ps55_4 d) k = lb55_4 lf d k := by
 obtain ⟨y2, y3, y4, y5, y6, y7, ⟨⟩⟩ := d
 exact (congrArg (fun st => iter (ev P KK T86_87 LOrc.none 300 55 (loopOf P 55 4)) (headL P KK (KK.ann 55 4) 3) (gcL (KK.ann 55 4).out 3) lf st k) (ly55_4 y2 y3 y4 y5 y6 y7)).trans (it55_4 y2 y4 y5 y6 y7 k lf y3)
theorem lo55_4 {R : Type} (lf : Nat) : LOrcOK P KK (lt55_4 (R := R) lf) :=
 LOrcOK.add (L := lb55_4 lf) ground oc86_87 LOrcOK.none (D := 300) (f0 := 55) (id0 := 4) (n00 := 3) (n := lf) (ps := ps55_4) (by kernel_rfl) (hi55_4 lf) LOrcOK.none
theorem oc55 {R : Type} : OrcOK P (T55 (R := R)) :=
 OrcOK.add1 (s := g55) (f := 55) (F := fun d => F55 fuel d.1.1 d.1.2.1 d.1.2.2.1 d.1.2.2.2.1) (fun d r h => by
  obtain ⟨⟨x1, x2, x3, x4, ⟨⟩⟩, ⟨⟩⟩ := d
  exact Meets.toW (Meets.of_evC ground oc86_87 (lo55_4 fuel) ((ev55 fuel x1 x2 x3 x4).trans h))) oc86_87
theorem hi30_5 {R : Type} (lf : Nat) (d : ps30_5.D) (k : Ex → St → Option R) : iter (ev P KK T55 LOrc.none 300 30 (loopOf P 30 5)) (headL P KK (KK.ann 30 5) 3) (gcL (KK.ann 30 5).out 3) lf (layS ps30_5 d) k = lb30_5 lf d k := by
 obtain ⟨y2, y3, y4, y5, y6, y7, y8, ⟨⟩⟩ := d
 exact (congrArg (fun st => iter (ev P KK T55 LOrc.none 300 30 (loopOf P 30 5)) (headL P KK (KK.ann 30 5) 3) (gcL (KK.ann 30 5).out 3) lf st k) (ly30_5 y2 y3 y4 y5 y6 y7 y8)).trans (it30_5 y2 y4 y5 y6 y7 k lf y3 y8)
theorem lo30_5 {R : Type} (lf : Nat) : LOrcOK P KK (lt30_5 (R := R) lf) :=
 LOrcOK.add (L := lb30_5 lf) ground oc55 LOrcOK.none (D := 300) (f0 := 30) (id0 := 5) (n00 := 3) (n := lf) (ps := ps30_5) (by kernel_rfl) (hi30_5 lf) LOrcOK.none
theorem oc30 {R : Type} : OrcOK P (T30 (R := R)) :=
 OrcOK.add1 (s := g30) (f := 30) (F := fun d => F30 fuel d.1.1 d.1.2.1 d.1.2.2.1 d.1.2.2.2.1) (fun d r h => by
  obtain ⟨⟨x1, x2, x3, x4, ⟨⟩⟩, ⟨⟩⟩ := d
  exact Meets.toW (Meets.of_evC ground oc55 (lo30_5 fuel) ((ev30 fuel x1 x2 x3 x4).trans h))) oc55
theorem hi76_6 {R : Type} (lf : Nat) (d : ps76_6.D) (k : Ex → St → Option R) : iter (ev P KK T30 LOrc.none 300 76 (loopOf P 76 6)) (headL P KK (KK.ann 76 6) 8) (gcL (KK.ann 76 6).out 8) lf (layS ps76_6 d) k = lb76_6 lf d k := by
 obtain ⟨y3, y4, y5, y6, y7, y8, y9, y10, y11, y12, y13, y14, y15, y16, ⟨⟩⟩ := d
 exact (congrArg (fun st => iter (ev P KK T30 LOrc.none 300 76 (loopOf P 76 6)) (headL P KK (KK.ann 76 6) 8) (gcL (KK.ann 76 6).out 8) lf st k) (ly76_6 y3 y4 y5 y6 y7 y8 y9 y10 y11 y12 y13 y14 y15 y16)).trans (it76_6 y5 y7 y8 y9 y10 y11 y12 y13 y15 k lf y3 y4 y6 y14 y16)
theorem lo76_6 {R : Type} (lf : Nat) : LOrcOK P KK (lt76_6 (R := R) lf) :=
 LOrcOK.add (L := lb76_6 lf) ground oc30 LOrcOK.none (D := 300) (f0 := 76) (id0 := 6) (n00 := 8) (n := lf) (ps := ps76_6) (by kernel_rfl) (hi76_6 lf) LOrcOK.none
theorem hi76_16 {R : Type} (lf : Nat) (d : ps76_16.D) (k : Ex → St → Option R) : iter (ev P KK T30 (lt76_6 _root_.Go.Abs.lf) 300 76 (loopOf P 76 16)) (headL P KK (KK.ann 76 16) 8) (gcL (KK.ann 76 16).out 8) lf (layS ps76_16 d) k = lb76_16 lf d k := by
 obtain ⟨y31, y32, y33, y34, y35, y36, y37, y38, y39, y40, y41, y42, y43, ⟨⟩⟩ := d
 exact (congrArg (fun st => iter (ev P KK T30 (lt76_6 _root_.Go.Abs.lf) 300 76 (loopOf P 76 16)) (headL P KK (KK.ann 76 16) 8) (gcL (KK.ann 76 16).out 8) lf st k) (ly76_16 y31 y32 y33 y34 y35 y36 y37 y38 y39 y40 y41 y42 y43)).trans (it76_16 y31 y33 y34 y35 y36 y37 y38 y39 y40 y41 y42 k lf y32 y43)
theorem lo76_16 {R : Type} (lf : Nat) : LOrcOK P KK (lt76_16 (R := R) lf) :=
 LOrcOK.add (L := lb76_16 lf) ground oc30 (lo76_6 _root_.Go.Abs.lf) (D := 300) (f0 := 76) (id0 := 16) (n00 := 8) (n := lf) (ps := ps76_16) (by kernel_rfl) (hi76_16 lf) (lo76_6 lf)
theorem oc76 {R : Type} : OrcOK P (T76 (R := R)) :=
 OrcOK.add1 (s := g76) (f := 76) (F := fun d => F76 fuel d.1.1 d.1.2.1 d.1.2.2.1 d.1.2.2.2.1 d.2.1) (fun d r h => by
  obtain ⟨⟨x1, x2, x3, x4, ⟨⟩⟩, x5, ⟨⟩⟩ := d
  exact Meets.toW (Meets.of_evC ground oc30 (lo76_16 fuel) ((ev76 fuel x1 x2 x3 x4 x5).trans h))) oc30
theorem hi83_4 {R : Type} (lf : Nat) (d : ps83_4.D) (k : Ex → St → Option R) : iter (ev P KK T76 LOrc.none 300 83 (loopOf P 83 4)) (headL P KK (KK.ann 83 4) 6) (gcL (KK.ann 83 4).out 6) lf (layS ps83_4 d) k = lb83_4 lf d k := by
 obtain ⟨y2, y3, y4, y5, y6, y7, y8, y9, y10, y11, y12, ⟨⟩⟩ := d
 exact (congrArg (fun st => iter (ev P KK T76 LOrc.none 300 83 (loopOf P 83 4)) (headL P KK (KK.ann 83 4) 6) (gcL (KK.ann 83 4).out 6) lf st k) (ly83_4 y2 y3 y4 y5 y6 y7 y8 y9 y10 y11 y12)).trans (it83_4 y2 y4 y5 y6 y7 y8 y9 y11 k lf y3 y10 y12)
theorem lo83_4 {R : Type} (lf : Nat) : LOrcOK P KK (lt83_4 (R := R) lf) :=
 LOrcOK.add (L := lb83_4 lf) ground oc76 LOrcOK.none (D := 300) (f0 := 83) (id0 := 4) (n00 := 6) (n := lf) (ps := ps83_4) (by kernel_rfl) (hi83_4 lf) LOrcOK.none
theorem oc83 {R : Type} : OrcOK P (T83 (R := R)) :=
 OrcOK.add1 (s := g83) (f := 83) (F := fun d => F83 fuel d.1.1 d.1.2.1 d.1.2.2.1 d.1.2.2.2.1) (fun d r h => by
  obtain ⟨⟨x1, x2, x3, x4, ⟨⟩⟩, ⟨⟩⟩ := d
  exact Meets.toW (Meets.of_evC ground oc76 (lo83_4 fuel) ((ev83 fuel x1 x2 x3 x4).trans h))) oc76
theorem oc204 {R : Type} : OrcOK P (T204 (R := R)) :=
 OrcOK.add1 (s := g204) (f := 204) (F := fun d => some (F204 d.1)) (fun d r h => by
  obtain ⟨x1, ⟨⟩⟩ := d
  exact Meets.toW (Meets.of_evC ground oc83 LOrcOK.none ((ev204 x1).trans h))) oc83
theorem hi209_203_2 {R : Type} (lf : Nat) (d : ps209_203_2.D) (k : Ex → St → Option R) : iter (ev P KK T204 LOrc.none 300 209 (loopOf P 209 2)) (headL P KK (KK.ann 209 2) 1) (gcL (KK.ann 209 2).out 1) lf (layS ps209_203_2 d) k = lb209_203_2 lf d k := by
 obtain ⟨y1, y2, y3, ⟨⟩⟩ := d
 exact (congrArg (fun st => iter (ev P KK T204 LOrc.none 300 209 (loopOf P 209 2)) (headL P KK (KK.ann 209 2) 1) (gcL (KK.ann 209 2).out 1) lf st k) (ly209_203_2 y1 y2 y3)).trans (it209_203_2 y1 y3 k lf y2)
theorem lo209_203_2 {R : Type} (lf : Nat) : LOrcOK P KK (lt209_203_2 (R := R) lf) :=
 LOrcOK.add (L := lb209_203_2 lf) ground oc204 LOrcOK.none (D := 300) (f0 := 209) (id0 := 2) (n00 := 1) (n := lf) (ps := ps209_203_2) (by kernel_rfl) (hi209_203_2 lf) LOrcOK.none
theorem oc209_203 {R : Type} : OrcOK P (T209_203 (R := R)) :=
 OrcOK.add (s := g209_203) (f := 209) (F := fun d => F209_203 fuel d.1) (cond := fun args => cloIs 1 203 args) (fun d r h => by
  obtain ⟨x1, ⟨⟨⟩⟩, ⟨⟩⟩ := d
  exact Meets.toW (Meets.of_evC ground oc204 (lo209_203_2 fuel) ((ev209_203 fuel x1).trans h))) oc204
theorem oc194 {R : Type} : OrcOK P (T194 (R := R)) :=
 OrcOK.add1 (s := g194) (f := 194) (F := fun d => F194 d.1) (fun d r h => by
  obtain ⟨x1, ⟨⟩⟩ := d
  exact Meets.toW (Meets.of_evC ground oc209_203 LOrcOK.none ((ev194 x1).trans h))) oc209_203
theorem oc146 {R : Type} : OrcOK P (T146 (R := R)) :=
 OrcOK.add1 (s := g146) (f := 146) (F := fun d => some (F146 d.1)) (fun d r h => by
  obtain ⟨x1, ⟨⟩⟩ := d
  exact Meets.toW (Meets.of_evC ground oc194 LOrcOK.none ((ev146 x1).trans h))) oc194
theorem hi147_146_3 {R : Type} (lf : Nat) (d : ps147_146_3.D) (k : Ex → St → Option R) : iter (ev P KK T146 LOrc.none 300 147 (loopOf P 147 3)) (headL P KK (KK.ann 147 3) 1) (gcL (KK.ann 147 3).out 1) lf (layS ps147_146_3 d) k = lb147_146_3 lf d k := by
 obtain ⟨y1, y2, y3, y4, ⟨⟩⟩ := d
 exact (congrArg (fun st => iter (ev P KK T146 LOrc.none 300 147 (loopOf P 147 3)) (headL P KK (KK.ann 147 3) 1) (gcL (KK.ann 147 3).out 1) lf st k) (ly147_146_3 y1 y2 y3 y4)).trans (it147_146_3 y1 y3 k lf y2 y4)
theorem lo147_146_3 {R : Type} (lf : Nat) : LOrcOK P KK (lt147_146_3 (R := R) lf) :=
 LOrcOK.add (L := lb147_146_3 lf) ground oc146 LOrcOK.none (D := 300) (f0 := 147) (id0 := 3) (n00 := 1) (n := lf) (ps := ps147_146_3) (by kernel_rfl) (hi147_146_3 lf) LOrcOK.none
theorem oc147_146 {R : Type} : OrcOK P (T147_146 (R := R)) :=
 OrcOK.add (s := g147_146) (f := 147) (F := fun d => F147_146 fuel d.1) (cond := fun args => cloIs 1 146 args) (fun d r h => by
  obtain ⟨x1, ⟨⟨⟩⟩, ⟨⟩⟩ := d
  exact Meets.toW (Meets.of_evC ground oc146 (lo147_146_3 fuel) ((ev147_146 fuel x1).trans h))) oc146
theorem hi147_145_3 {R : Type} (lf : Nat) (d : ps147_145_3.D) (k : Ex → St → Option R) : iter (ev P KK T147_146 LOrc.none 300 147 (loopOf P 147 3)) (headL P KK (KK.ann 147 3) 3) (gcL (KK.ann 147 3).out 3) lf (layS ps147_145_3 d) k = lb147_145_3 lf d k := by
 obtain ⟨y1, y2, y3, y4, y5, y6, ⟨⟩⟩ := d
 exact (congrArg (fun st => iter (ev P KK T147_146 LOrc.none 300 147 (loopOf P 147 3)) (headL P KK (KK.ann 147 3) 3) (gcL (KK.ann 147 3).out 3) lf st k) (ly147_145_3 y1 y2 y3 y4 y5 y6)).trans (it147_145_3 y1 y3 y4 y5 k lf y2 y6)
theorem lo147_145_3 {R : Type} (lf : Nat) : LOrcOK P KK (lt147_145_3 (R := R) lf) :=
 LOrcOK.add (L := lb147_145_3 lf) ground oc147_146 LOrcOK.none (D := 300) (f0 := 147) (id0 := 3) (n00 := 3) (n := lf) (ps := ps147_145_3) (by kernel_rfl) (hi147_145_3 lf) LOrcOK.none
theorem oc147_145 {R : Type} : OrcOK P (T147_145 (R := R)) :=
 OrcOK.add (s := g147_145) (f := 147) (F := fun d => F147_145 fuel d.1 d.2.1.1.1 d.2.1.2.1.1) (cond := fun args => cloIs 1 145 args) (fun d r h => by
  obtain ⟨x1, ⟨⟨x2, ⟨⟩⟩, ⟨x3, ⟨⟩⟩, ⟨⟩⟩, ⟨⟩⟩ := d
  exact Meets.toW (Meets.of_evC ground oc147_146 (lo147_145_3 fuel) ((ev147_145 fuel x1 x2 x3).trans h))) oc147_146
theorem oc171 {R : Type} : OrcOK P (T171 (R := R)) :=
 OrcOK.add1 (s := g171) (f := 171) (F := fun d => F171 d.1 d.2.1) (fun d r h => by
  obtain ⟨x1, x2, ⟨⟩⟩ := d
  exact Meets.toW (Meets.of_evC ground oc147_145 LOrcOK.none ((ev171 x1 x2).trans h))) oc147_145
theorem hi205_1 {R : Type} (lf : Nat) (d : ps205_1.D) (k : Ex → St → Option R) : iter (ev P KK T171 LOrc.none 300 205 (loopOf P 205 1)) (headL P KK (KK.ann 205 1) 0) (gcL (KK.ann 205 1).out 0) lf (layS ps205_1 d) k = lb205_1 lf d k := by
 obtain ⟨y1, y2, ⟨⟩⟩ := d
 exact (congrArg (fun st => iter (ev P KK T171 LOrc.none 300 205 (loopOf P 205 1)) (headL P KK (KK.ann 205 1) 0) (gcL (KK.ann 205 1).out 0) lf st k) (ly205_1 y1 y2)).trans (it205_1  k lf y1 y2)
theorem lo205_1 {R : Type} (lf : Nat) : LOrcOK P KK (lt205_1 (R := R) lf) :=
 LOrcOK.add (L := lb205_1 lf) ground oc171 LOrcOK.none (D := 300) (f0 := 205) (id0 := 1) (n00 := 0) (n := lf) (ps := ps205_1) (by kernel_rfl) (hi205_1 lf) LOrcOK.none
theorem oc205 {R : Type} : OrcOK P (T205 (R := R)) :=
 OrcOK.add1 (s := g205) (f := 205) (F := fun d => F205 fuel d.1 d.2.1) (fun d r h => by
  obtain ⟨x1, x2, ⟨⟩⟩ := d
  exact Meets.toW (Meets.of_evC ground oc171 (lo205_1 fuel) ((ev205 fuel x1 x2).trans h))) oc171
theorem oc216 {R : Type} : OrcOK P (T216 (R := R)) :=
 OrcOK.add1 (s := g216) (f := 216) (F := fun d => some (F216 d.1)) (fun d r h => by
  obtain ⟨x1, ⟨⟩⟩ := d
  exact Meets.toW (Meets.of_evC ground oc205 LOrcOK.none ((ev216 x1).trans h))) oc205
theorem oc214 {R : Type} : OrcOK P (T214 (R := R)) :=
 OrcOK.add1 (s := g214) (f := 214) (F := fun d => some (F214 d.1 d.2.1)) (fun d r h => by
  obtain ⟨x1, x2, ⟨⟩⟩ := d
  exact Meets.toW (Meets.of_evC ground oc216 LOrcOK.none ((ev214 x1 x2).trans h))) oc216
theorem hi211_2 {R : Type} (lf : Nat) (d : ps211_2.D) (k : Ex → St → Option R) : iter (ev P KK T214 LOrc.none 300 211 (loopOf P 211 2)) (headL P KK (KK.ann 211 2) 2) (gcL (KK.ann 211 2).out 2) lf (layS ps211_2 d) k = lb211_2 lf d k := by
 obtain ⟨y1, y2, y3, y4, ⟨⟩⟩ := d
 exact (congrArg (fun st => iter (ev P KK T214 LOrc.none 300 211 (loopOf P 211 2)) (headL P KK (KK.ann 211 2) 2) (gcL (KK.ann 211 2).out 2) lf st k) (ly211_2 y1 y2 y3 y4)).trans (it211_2 y1 y3 y4 k lf y2)
theorem lo211_2 {R : Type} (lf : Nat) : LOrcOK P KK (lt211_2 (R := R) lf) :=
 LOrcOK.add (L := lb211_2 lf) ground oc214 LOrcOK.none (D := 300) (f0 := 211) (id0 := 2) (n00 := 2) (n := lf) (ps := ps211_2) (by kernel_rfl) (hi211_2 lf) LOrcOK.none
theorem oc211 {R : Type} : OrcOK P (T211 (R := R)) :=
 OrcOK.add1 (s := g211) (f := 211) (F := fun d => F211 fuel d.1 d.2.1) (fun d r h => by
  obtain ⟨x1, x2, ⟨⟩⟩ := d
  exact Meets.toW (Meets.of_evC ground oc214 (lo211_2 fuel) ((ev211 fuel x1 x2).trans h))) oc214
theorem oc213 {R : Type} : OrcOK P (T213 (R := R)) :=
 OrcOK.add1 (s := g213) (f := 213) (F := fun d => some (F213 d.1 d.2.1)) (fun d r h => by
  obtain ⟨x1, x2, ⟨⟩⟩ := d
  exact Meets.toW (Meets.of_evC ground oc211 LOrcOK.none ((ev213 x1 x2).trans h))) oc211
theorem oc210 {R : Type} : OrcOK P (T210 (R := R)) :=
 OrcOK.add1 (s := g210) (f := 210) (F := fun d => some (F210 d.1 d.2.1)) (fun d r h => by
  obtain ⟨x1, x2, ⟨⟩⟩ := d
  exact Meets.toW (Meets.of_evC ground oc213 LOrcOK.none ((ev210 x1 x2).trans h))) oc213
theorem oc206 {R : Type} : OrcOK P (T206 (R := R)) :=
 OrcOK.add1 (s := g206) (f := 206) (F := fun d => F206 d.1 d.2.1 d.2.2.1 d.2.2.2.1) (fun d r h => by
  obtain ⟨x1, x2, x3, x4, ⟨⟩⟩ := d
  exact Meets.toW (Meets.of_evC ground oc210 LOrcOK.none ((ev206 x1 x2 x3 x4).trans h))) oc210
theorem oc196 {R : Type} : OrcOK P (T196 (R := R)) :=
 OrcOK.add1 (s := g196) (f := 196) (F := fun d => F196 d.1.1 d.1.2.1 d.2.1) (fun d r h => by
  obtain ⟨⟨x1, x2, ⟨⟩⟩, x3, ⟨⟩⟩ := d
  exact Meets.toW (Meets.of_evC ground oc206 LOrcOK.none ((ev196 x1 x2 x3).trans h))) oc206
theorem hi195_3 {R : Type} (lf : Nat) (d : ps195_3.D) (k : Ex → St → Option R) : iter (ev P KK T196 LOrc.none 300 195 (loopOf P 195 3)) (headL P KK (KK.ann 195 3) 3) (gcL (KK.ann 195 3).out 3) lf (layS ps195_3 d) k = lb195_3 lf d k := by
 obtain ⟨y1, y2, y3, y4, y5, y6, y7, y8, ⟨⟩⟩ := d
 exact (congrArg (fun st => iter (ev P KK T196 LOrc.none 300 195 (loopOf P 195 3)) (headL P KK (KK.ann 195 3) 3) (gcL (KK.ann 195 3).out 3) lf st k) (ly195_3 y1 y2 y3 y4 y5 y6 y7 y8)).trans (it195_3 y3 y5 y6 y7 y8 k lf y1 y2 y4)
theorem lo195_3 {R : Type} (lf : Nat) : LOrcOK P KK (lt195_3 (R := R) lf) :=
 LOrcOK.add (L := lb195_3 lf) ground oc196 LOrcOK.none (D := 300) (f0 := 195) (id0 := 3) (n00 := 3) (n := lf) (ps := ps195_3) (by kernel_rfl) (hi195_3 lf) LOrcOK.none
theorem oc195 {R : Type} : OrcOK P (T195 (R := R)) :=
 OrcOK.add1 (s := g195) (f := 195) (F := fun d => F195 fuel d.1 d.2.1 d.2.2.1) (fun d r h => by
  obtain ⟨x1, x2, x3, ⟨⟩⟩ := d
  exact Meets.toW (Meets.of_evC ground oc196 (lo195_3 fuel) ((ev195 fuel x1 x2 x3).trans h))) oc196
theorem hi172_3 {R : Type} (lf : Nat) (d : ps172_3.D) (k : Ex → St → Option R) : iter (ev P KK T195 LOrc.none 300 172 (loopOf P 172 3)) (headL P KK (KK.ann 172 3) 3) (gcL (KK.ann 172 3).out 3) lf (layS ps172_3 d) k = lb172_3 lf d k := by
 obtain ⟨y1, y2, y3, y4, y5, y6, y7, ⟨⟩⟩ := d
 exact (congrArg (fun st => iter (ev P KK T195 LOrc.none 300 172 (loopOf P 172 3)) (headL P KK (KK.ann 172 3) 3) (gcL (KK.ann 172 3).out 3) lf st k) (ly172_3 y1 y2 y3 y4 y5 y6 y7)).trans (it172_3 y1 y2 y4 y5 y6 k lf y3 y7)
theorem lo172_3 {R : Type} (lf : Nat) : LOrcOK P KK (lt172_3 (R := R) lf) :=
 LOrcOK.add (L := lb172_3 lf) ground oc195 LOrcOK.none (D := 300) (f0 := 172) (id0 := 3) (n00 := 3) (n := lf) (ps := ps172_3) (by kernel_rfl) (hi172_3 lf) LOrcOK.none
theorem hi172_11 {R : Type} (lf : Nat) (d : ps172_11.D) (k : Ex → St → Option R) : iter (ev P KK T195 (lt172_3 _root_.Go.Abs.lf) 300 172 (loopOf P 172 11)) (headL P KK (KK.ann 172 11) 4) (gcL (KK.ann 172 11).out 4) lf (layS ps172_11 d) k = lb172_11 lf d k := by
 obtain ⟨y16, y17, y18, y19, y20, y21, y22, y23, y24, y25, ⟨⟩⟩ := d
 exact (congrArg (fun st => iter (ev P KK T195 (lt172_3 _root_.Go.Abs.lf) 300 172 (loopOf P 172 11)) (headL P KK (KK.ann 172 11) 4) (gcL (KK.ann 172 11).out 4) lf st k) (ly172_11 y16 y17 y18 y19 y20 y21 y22 y23 y24 y25)).trans (it172_11 y16 y17 y18 y20 y21 y22 y24 y25 k lf y19 y23)
theorem lo172_11 {R : Type} (lf : Nat) : LOrcOK P KK (lt172_11 (R := R) lf) :=
 LOrcOK.add (L := lb172_11 lf) ground oc195 (lo172_3 _root_.Go.Abs.lf) (D := 300) (f0 := 172) (id0 := 11) (n00 := 4) (n := lf) (ps := ps172_11) (by kernel_rfl) (hi172_11 lf) (lo172_3 lf)
theorem hi172_8 {R : Type} (lf : Nat) (d : ps172_8.D) (k : Ex → St → Option R) : iter (ev P KK T195 (lt172_11 lf) 300 172 (loopOf P 172 8)) (headL P KK (KK.ann 172 8) 3) (gcL (KK.ann 172 8).out 3) lf (layS ps172_8 d) k = lb172_8 lf d k := by
 obtain ⟨y10, y11, y12, y13, y14, ⟨⟩⟩ := d
 exact (congrArg (fun st => iter (ev P KK T195 (lt172_11 lf) 300 172 (loopOf P 172 8)) (headL P KK (KK.ann 172 8) 3) (gcL (KK.ann 172 8).out 3) lf st k) (ly172_8 y10 y11 y12 y13 y14)).trans (it172_8 lf y10 y11 y12 y13 k lf y14)
theorem lo172_8 {R : Type} (lf : Nat) : LOrcOK P KK (lt172_8 (R := R) lf) :=
 LOrcOK.add (L := lb172_8 lf) ground oc195 (lo172_11 lf) (D := 300) (f0 := 172) (id0 := 8) (n00 := 3) (n := lf) (ps := ps172_8) (by kernel_rfl) (hi172_8 lf) (lo172_11 lf)
theorem oc172 {R : Type} : OrcOK P (T172 (R := R)) :=
 OrcOK.add1 (s := g172) (f := 172) (F := fun d => F172 fuel d.1 d.2.1) (fun d r h => by
  obtain ⟨x1, x2, ⟨⟩⟩ := d
  exact Meets.toW (Meets.of_evC ground oc195 (lo172_8 fuel) ((ev172 fuel x1 x2).trans h))) oc195
theorem oc144 {R : Type} : OrcOK P (T144 (R := R)) :=
 OrcOK.add1 (s := g144) (f := 144) (F := fun d => F144 d.1 d.2.1) (fun d r h => by
  obtain ⟨x1, x2, ⟨⟩⟩ := d
  exact Meets.toW (Meets.of_evC ground oc172 LOrcOK.none ((ev144 x1 x2).trans h))) oc172
theorem oc97 {R : Type} : OrcOK P (T97 (R := R)) :=
 OrcOK.add1 (s := g97) (f := 97) (F := fun d => F97 d.1 d.2.1) (fun d r h => by
  obtain ⟨x1, x2, ⟨⟩⟩ := d
  exact Meets.toW (Meets.of_evC ground oc144 LOrcOK.none ((ev97 x1 x2).trans h))) oc144
theorem oc100 {R : Type} : OrcOK P (T100 (R := R)) :=
 OrcOK.add1 (s := g100) (f := 100) (F := fun d => F100 d.1 d.2.1) (fun d r h => by
  obtain ⟨x1, x2, ⟨⟩⟩ := d
  exact Meets.toW (Meets.of_evC ground oc97 LOrcOK.none ((ev100 x1 x2).trans h))) oc97
theorem hi193_170_2 {R : Type} (lf : Nat) (d : ps193_170_2.D) (k : Ex → St → Option R) : iter (ev P KK T100 LOrc.none 300 193 (loopOf P 193 2)) (headL P KK (KK.ann 193 2) 1) (gcL (KK.ann 193 2).out 1) lf (layS ps193_170_2 d) k = lb193_170_2 lf d k := by
 obtain ⟨y1, y2, y3, ⟨⟩⟩ := d
 exact (congrArg (fun st => iter (ev P KK T100 LOrc.none 300 193 (loopOf P 193 2)) (headL P KK (KK.ann 193 2) 1) (gcL (KK.ann 193 2).out 1) lf st k) (ly193_170_2 y1 y2 y3)).trans (it193_170_2 y1 y3 k lf y2)
theorem lo193_170_2 {R : Type} (lf : Nat) : LOrcOK P KK (lt193_170_2 (R := R) lf) :=
 LOrcOK.add (L := lb193_170_2 lf) ground oc100 LOrcOK.none (D := 300) (f0 := 193) (id0 := 2) (n00 := 1) (n := lf) (ps := ps193_170_2) (by kernel_rfl) (hi193_170_2 lf) LOrcOK.none
theorem oc193_170 {R : Type} : OrcOK P (T193_170 (R := R)) :=
 OrcOK.add (s := g193_170) (f := 193) (F := fun d => F193_170 fuel d.1) (cond := fun args => cloIs 1 170 args) (fun d r h => by
  obtain ⟨x1, ⟨⟨⟩⟩, ⟨⟩⟩ := d
  exact Meets.toW (Meets.of_evC ground oc100 (lo193_170_2 fuel) ((ev193_170 fuel x1).trans h))) oc100
theorem oc139 {R : Type} : OrcOK P (T139 (R := R)) :=
 OrcOK.add1 (s := g139) (f := 139) (F := fun d => F139 d.1) (fun d r h => by
  obtain ⟨x1, ⟨⟩⟩ := d
  exact Meets.toW (Meets.of_evC ground oc193_170 LOrcOK.none ((ev139 x1).trans h))) oc193_170
theorem hi140_141_3 {R : Type} (lf : Nat) (d : ps140_141_3.D) (k : Ex → St → Option R) : iter (ev P KK T139 LOrc.none 300 140 (loopOf P 140 3)) (headL P KK (KK.ann 140 3) 1) (gcL (KK.ann 140 3).out 1) lf (layS ps140_141_3 d) k = lb140_141_3 lf d k := by
 obtain ⟨y1, y2, y3, y4, ⟨⟩⟩ := d
 exact (congrArg (fun st => iter (ev P KK T139 LOrc.none 300 140 (loopOf P 140 3)) (headL P KK (KK.ann 140 3) 1) (gcL (KK.ann 140 3).out 1) lf st k) (ly140_141_3 y1 y2 y3 y4)).trans (it140_141_3 y1 y3 k lf y2 y4)
theorem lo140_141_3 {R : Type} (lf : Nat) : LOrcOK P KK (lt140_141_3 (R := R) lf) :=
 LOrcOK.add (L := lb140_141_3 lf) ground oc139 LOrcOK.none (D := 300) (f0 := 140) (id0 := 3) (n00 := 1) (n := lf) (ps := ps140_141_3) (by kernel_rfl) (hi140_141_3 lf) LOrcOK.none
theorem oc140_141 {R : Type} : OrcOK P (T140_141 (R := R)) :=
 OrcOK.add (s := g140_141) (f := 140) (F := fun d => F140_141 fuel d.1) (cond := fun args => cloIs 1 141 args) (fun d r h => by
  obtain ⟨x1, ⟨⟨⟩⟩, ⟨⟩⟩ := d
  exact Meets.toW (Meets.of_evC ground oc139 (lo140_141_3 fuel) ((ev140_141 fuel x1).trans h))) oc139
theorem oc96 {R : Type} : OrcOK P (T96 (R := R)) :=
 OrcOK.add1 (s := g96) (f := 96) (F := fun d => F96 d.1) (fun d r h => by
  obtain ⟨x1, ⟨⟩⟩ := d
  exact Meets.toW (Meets.of_evC ground oc140_141 LOrcOK.none ((ev96 x1).trans h))) oc140_141
theorem hi98_99_3 {R : Type} (lf : Nat) (d : ps98_99_3.D) (k : Ex → St → Option R) : iter (ev P KK T96 LOrc.none 300 98 (loopOf P 98 3)) (headL P KK (KK.ann 98 3) 3) (gcL (KK.ann 98 3).out 3) lf (layS ps98_99_3 d) k = lb98_99_3 lf d k := by
 obtain ⟨y1, y2, y3, y4, y5, ⟨⟩⟩ := d
 exact (congrArg (fun st => iter (ev P KK T96 LOrc.none 300 98 (loopOf P 98 3)) (headL P KK (KK.ann 98 3) 3) (gcL (KK.ann 98 3).out 3) lf st k) (ly98_99_3 y1 y2 y3 y4 y5)).trans (it98_99_3 y1 y3 y4 k lf y2 y5)
theorem lo98_99_3 {R : Type} (lf : Nat) : LOrcOK P KK (lt98_99_3 (R := R) lf) :=
 LOrcOK.add (L := lb98_99_3 lf) ground oc96 LOrcOK.none (D := 300) (f0 := 98) (id0 := 3) (n00 := 3) (n := lf) (ps := ps98_99_3) (by kernel_rfl) (hi98_99_3 lf) LOrcOK.none
theorem oc98_99 {R : Type} : OrcOK P (T98_99 (R := R)) :=
 OrcOK.add (s := g98_99) (f := 98) (F := fun d => F98_99 fuel d.1 d.2.1.1.1) (cond := fun args => cloIs 1 99 args) (fun d r h => by
  obtain ⟨x1, ⟨⟨x2, ⟨⟩⟩, ⟨⟩⟩, ⟨⟩⟩ := d
  exact Meets.toW (Meets.of_evC ground oc96 (lo98_99_3 fuel) ((ev98_99 fuel x1 x2).trans h))) oc96
theorem oc65 {R : Type} : OrcOK P (T65 (R := R)) :=
 OrcOK.add1 (s := g65) (f := 65) (F := fun d => F65 d.1) (fun d r h => by
  obtain ⟨x1, ⟨⟩⟩ := d
  exact Meets.toW (Meets.of_evC ground oc98_99 LOrcOK.none ((ev65 x1).trans h))) oc98_99
theorem hi102_4 {R : Type} (lf : Nat) (d : ps102_4.D) (k : Ex → St → Option R) : iter (ev P KK T65 LOrc.none 300 102 (loopOf P 102 4)) (headL P KK (KK.ann 102 4) 1) (gcL (KK.ann 102 4).out 1) lf (layS ps102_4 d) k = lb102_4 lf d k := by
 obtain ⟨y2, y3, y4, y5, ⟨⟩⟩ := d
 exact (congrArg (fun st => iter (ev P KK T65 LOrc.none 300 102 (loopOf P 102 4)) (headL P KK (KK.ann 102 4) 1) (gcL (KK.ann 102 4).out 1) lf st k) (ly102_4 y2 y3 y4 y5)).trans (it102_4 y3 y5 k lf y2 y4)
theorem lo102_4 {R : Type} (lf : Nat) : LOrcOK P KK (lt102_4 (R := R) lf) :=
 LOrcOK.add (L := lb102_4 lf) ground oc65 LOrcOK.none (D := 300) (f0 := 102) (id0 := 4) (n00 := 1) (n := lf) (ps := ps102_4) (by kernel_rfl) (hi102_4 lf) LOrcOK.none
theorem oc102 {R : Type} : OrcOK P (T102 (R := R)) :=
 OrcOK.add1 (s := g102) (f := 102) (F := fun d => F102 fuel d.1 d.2.1) (fun d r h => by
  obtain ⟨x1, x2, ⟨⟩⟩ := d
  exact Meets.toW (Meets.of_evC ground oc65 (lo102_4 fuel) ((ev102 fuel x1 x2).trans h))) oc65
theorem oc232 {R : Type} : OrcOK P (T232 (R := R)) :=
 OrcOK.add1 (s := g232) (f := 232) (F := fun d => F232 d.2.1.1 d.2.1.2.1 d.2.1.2.2.1 d.2.1.2.2.2.1) (fun d r h => by
  obtain ⟨⟨⟨⟩⟩, ⟨x1, x2, x3, x4, ⟨⟩⟩, ⟨⟩⟩ := d
  exact Meets.toW (Meets.of_evC ground oc102 LOrcOK.none ((ev232 x1 x2 x3 x4).trans h))) oc102
theorem oc233 {R : Type} : OrcOK P (T233 (R := R)) :=
 OrcOK.add1 (s := g233) (f := 233) (F := fun d => F233 d.2.1.1 d.2.1.2.1 d.2.1.2.2.1 d.2.1.2.2.2.1) (fun d r h => by
  obtain ⟨⟨⟨⟩⟩, ⟨x1, x2, x3, x4, ⟨⟩⟩, ⟨⟩⟩ := d
  exact Meets.toW (Meets.of_evC ground oc232 LOrcOK.none ((ev233 x1 x2 x3 x4).trans h))) oc232
theorem hi234_3 {R : Type} (lf : Nat) (d : ps234_3.D) (k : Ex → St → Option R) : iter (ev P KK T233 LOrc.none 300 234 (loopOf P 234 3)) (headL P KK (KK.ann 234 3) 4) (gcL (KK.ann 234 3).out 4) lf (layS ps234_3 d) k = lb234_3 lf d k := by
 obtain ⟨y1, y2, y3, y4, y5, y6, y7, ⟨⟩⟩ := d
 exact (congrArg (fun st => iter (ev P KK T233 LOrc.none 300 234 (loopOf P 234 3)) (headL P KK (KK.ann 234 3) 4) (gcL (KK.ann 234 3).out 4) lf st k) (ly234_3 y1 y2 y3 y4 y5 y6 y7)).trans (it234_3 y1 y3 y4 y5 y6 k lf y2 y7)
theorem lo234_3 {R : Type} (lf : Nat) : LOrcOK P KK (lt234_3 (R := R) lf) :=
 LOrcOK.add (L := lb234_3 lf) ground oc233 LOrcOK.none (D := 300) (f0 := 234) (id0 := 3) (n00 := 4) (n := lf) (ps := ps234_3) (by kernel_rfl) (hi234_3 lf) LOrcOK.none
theorem oc234 {R : Type} : OrcOK P (T234 (R := R)) :=
 OrcOK.add1 (s := g234) (f := 234) (F := fun d => F234 fuel d.2.1.1 d.2.1.2.1 d.2.1.2.2.1 d.2.1.2.2.2.1) (fun d r h => by
  obtain ⟨⟨⟨⟩⟩, ⟨x1, x2, x3, x4, ⟨⟩⟩, ⟨⟩⟩ := d
  exact Meets.toW (Meets.of_evC ground oc233 (lo234_3 fuel) ((ev234 fuel x1 x2 x3 x4).trans h))) oc233
theorem oc77 {R : Type} : OrcOK P (T77 (R := R)) :=
 OrcOK.add1 (s := g77) (f := 77) (F := fun d => F77 d.1.1 d.1.2.1 d.1.2.2.1 d.1.2.2.2.1) (fun d r h => by
  obtain ⟨⟨x1, x2, x3, x4, ⟨⟩⟩, ⟨⟩⟩ := d
  exact Meets.toW (Meets.of_evC ground oc234 LOrcOK.none ((ev77 x1 x2 x3 x4).trans h))) oc234
theorem hi59_115_2 {R : Type} (lf : Nat) (d : ps59_115_2.D) (k : Ex → St → Option R) : iter (ev P KK T77 LOrc.none 300 59 (loopOf P 59 2)) (headL P KK (KK.ann 59 2) 2) (gcL (KK.ann 59 2).out 2) lf (layS ps59_115_2 d) k = lb59_115_2 lf d k := by
 obtain ⟨y1, y2, y3, y4, y5, ⟨⟩⟩ := d
 exact (congrArg (fun st => iter (ev P KK T77 LOrc.none 300 59 (loopOf P 59 2)) (headL P KK (KK.ann 59 2) 2) (gcL (KK.ann 59 2).out 2) lf st k) (ly59_115_2 y1 y2 y3 y4 y5)).trans (it59_115_2 y1 y3 y4 y5 k lf y2)
theorem lo59_115_2 {R : Type} (lf : Nat) : LOrcOK P KK (lt59_115_2 (R := R) lf) :=
 LOrcOK.add (L := lb59_115_2 lf) ground oc77 LOrcOK.none (D := 300) (f0 := 59) (id0 := 2) (n00 := 2) (n := lf) (ps := ps59_115_2) (by kernel_rfl) (hi59_115_2 lf) LOrcOK.none
theorem oc59_115 {R : Type} : OrcOK P (T59_115 (R := R)) :=
 OrcOK.add (s := g59_115) (f := 59) (F := fun d => F59_115 fuel d.1 d.2.1.1.1 d.2.1.1.2.1) (cond := fun args => cloIs 1 115 args) (fun d r h => by
  obtain ⟨x1, ⟨⟨x2, x3, ⟨⟩⟩, ⟨⟩⟩, ⟨⟩⟩ := d
  exact Meets.toW (Meets.of_evC ground oc77 (lo59_115_2 fuel) ((ev59_115 fuel x1 x2 x3).trans h))) oc77
theorem hi60_157_2 {R : Type} (lf : Nat) (d : ps60_157_2.D) (k : Ex → St → Option R) : iter (ev P KK T59_115 LOrc.none 300 60 (loopOf P 60 2)) (headL P KK (KK.ann 60 2) 2) (gcL (KK.ann 60 2).out 2) lf (layS ps60_157_2 d) k = lb60_157_2 lf d k := by
 obtain ⟨y1, y2, y3, y4, ⟨⟩⟩ := d
 exact (congrArg (fun st => iter (ev P KK T59_115 LOrc.none 300 60 (loopOf P 60 2)) (headL P KK (KK.ann 60 2) 2) (gcL (KK.ann 60 2).out 2) lf st k) (ly60_157_2 y1 y2 y3 y4)).trans (it60_157_2 y1 y3 y4 k lf y2)
theorem lo60_157_2 {R : Type} (lf : Nat) : LOrcOK P KK (lt60_157_2 (R := R) lf) :=
 LOrcOK.add (L := lb60_157_2 lf) ground oc59_115 LOrcOK.none (D := 300) (f0 := 60) (id0 := 2) (n00 := 2) (n := lf) (ps := ps60_157_2) (by kernel_rfl) (hi60_157_2 lf) LOrcOK.none
theorem oc60_157 {R : Type} : OrcOK P (T60_157 (R := R)) :=
 OrcOK.add (s := g60_157) (f := 60) (F := fun d => F60_157 fuel d.1 d.2.1.1.1) (cond := fun args => cloIs 1 157 args) (fun d r h => by
  obtain ⟨x1, ⟨⟨x2, ⟨⟩⟩, ⟨⟩⟩, ⟨⟩⟩ := d
  exact Meets.toW (Meets.of_evC ground oc59_115 (lo60_157_2 fuel) ((ev60_157 fuel x1 x2).trans h))) oc59_115
theorem oc116 {R : Type} : OrcOK P (T116 (R := R)) :=
 OrcOK.add1 (s := g116) (f := 116) (F := fun d => F116 d.1 d.2.1) (fun d r h => by
  obtain ⟨x1, x2, ⟨⟩⟩ := d
  exact Meets.toW (Meets.of_evC ground oc60_157 LOrcOK.none ((ev116 x1 x2).trans h))) oc60_157
theorem hi114_2 {R : Type} (lf : Nat) (d : ps114_2.D) (k : Ex → St → Option R) : iter (ev P KK T116 LOrc.none 300 114 (loopOf P 114 2)) (headL P KK (KK.ann 114 2) 1) (gcL (KK.ann 114 2).out 1) lf (layS ps114_2 d) k = lb114_2 lf d k := by
 obtain ⟨y1, y2, y3, y4, ⟨⟩⟩ := d
 exact (congrArg (fun st => iter (ev P KK T116 LOrc.none 300 114 (loopOf P 114 2)) (headL P KK (KK.ann 114 2) 1) (gcL (KK.ann 114 2).out 1) lf st k) (ly114_2 y1 y2 y3 y4)).trans (it114_2 y1 y2 y4 k lf y3)
theorem lo114_2 {R : Type} (lf : Nat) : LOrcOK P KK (lt114_2 (R := R) lf) :=
 LOrcOK.add (L := lb114_2 lf) ground oc116 LOrcOK.none (D := 300) (f0 := 114) (id0 := 2) (n00 := 1) (n := lf) (ps := ps114_2) (by kernel_rfl) (hi114_2 lf) LOrcOK.none
theorem oc114 {R : Type} : OrcOK P (T114 (R := R)) :=
 OrcOK.add1 (s := g114) (f := 114) (F := fun d => F114 fuel d.1 d.2.1) (fun d r h => by
  obtain ⟨x1, x2, ⟨⟩⟩ := d
  exact Meets.toW (Meets.of_evC ground oc116 (lo114_2 fuel) ((ev114 fuel x1 x2).trans h))) oc116
theorem hi60_79_2 {R : Type} (lf : Nat) (d : ps60_79_2.D) (k : Ex → St → Option R) : iter (ev P KK T114 LOrc.none 300 60 (loopOf P 60 2)) (headL P KK (KK.ann 60 2) 3) (gcL (KK.ann 60 2).out 3) lf (layS ps60_79_2 d) k = lb60_79_2 lf d k := by
 obtain ⟨y1, y2, y3, y4, ⟨⟩⟩ := d
 exact (congrArg (fun st => iter (ev P KK T114 LOrc.none 300 60 (loopOf P 60 2)) (headL P KK (KK.ann 60 2) 3) (gcL (KK.ann 60 2).out 3) lf st k) (ly60_79_2 y1 y2 y3 y4)).trans (it60_79_2 y1 y3 y4 k lf y2)
theorem lo60_79_2 {R : Type} (lf : Nat) : LOrcOK P KK (lt60_79_2 (R := R) lf) :=
 LOrcOK.add (L := lb60_79_2 lf) ground oc114 LOrcOK.none (D := 300) (f0 := 60) (id0 := 2) (n00 := 3) (n := lf) (ps := ps60_79_2) (by kernel_rfl) (hi60_79_2 lf) LOrcOK.none
theorem oc60_79 {R : Type} : OrcOK P (T60_79 (R := R)) :=
 OrcOK.add (s := g60_79) (f := 60) (F := fun d => F60_79 fuel d.1 d.2.1.1.1) (cond := fun args => cloIs 1 79 args) (fun d r h => by
  obtain ⟨x1, ⟨⟨x2, ⟨⟩⟩, ⟨⟩⟩, ⟨⟩⟩ := d
  exact Meets.toW (Meets.of_evC ground oc114 (lo60_79_2 fuel) ((ev60_79 fuel x1 x2).trans h))) oc114
end Go.Abs
