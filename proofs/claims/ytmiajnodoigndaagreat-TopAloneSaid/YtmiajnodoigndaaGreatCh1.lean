/- Own: What the interpreter tells of the functions holds of the machine. -/
import Derived.Test.YtmiajnodoigndaaGreatTr7
import Derived.Test.YtmiajnodoigndaaGreatSp
set_option linter.unusedVariables false
set_option maxRecDepth 1000000
set_option maxHeartbeats 1000000
namespace Go.Abs
theorem oc199 {R : Type} : OrcOK P (T199 (R := R)) :=
 OrcOK.add1 (s := g199) (f := 199) (F := fun d => some (F199 d.1 d.2.1 d.2.2.1)) (fun d r h => by
  obtain ⟨x1, x2, x3, ⟨⟩⟩ := d
  exact Meets.toW (Meets.of_evC ground OrcOK.none LOrcOK.none ((ev199 x1 x2 x3).trans h))) OrcOK.none
theorem oc137 {R : Type} : OrcOK P (T137 (R := R)) :=
 OrcOK.add1 (s := g137) (f := 137) (F := fun d => F137 d.1 d.2.1) (fun d r h => by
  obtain ⟨x1, x2, ⟨⟩⟩ := d
  exact Meets.toW (Meets.of_evC ground oc199 LOrcOK.none ((ev137 x1 x2).trans h))) oc199
theorem oc149 {R : Type} : OrcOK P (T149 (R := R)) :=
 OrcOK.add1 (s := g149) (f := 149) (F := fun d => some (F149 d.1 d.2.1)) (fun d r h => by
  obtain ⟨x1, x2, ⟨⟩⟩ := d
  exact Meets.toW (Meets.of_evC ground oc137 LOrcOK.none ((ev149 x1 x2).trans h))) oc137
theorem oc188 {R : Type} : OrcOK P (T188 (R := R)) :=
 OrcOK.add1 (s := g188) (f := 188) (F := fun d => some (F188 d.1)) (fun d r h => by
  obtain ⟨x1, ⟨⟩⟩ := d
  exact Meets.toW (Meets.of_evC ground oc149 LOrcOK.none ((ev188 x1).trans h))) oc149
theorem hi189_3 {R : Type} (lf : Nat) (d : ps189_3.D) (k : Ex → St → Option R) : iter (ev P KK T188 LOrc.none 300 189 (loopOf P 189 3)) (headL P KK (KK.ann 189 3) 2) (gcL (KK.ann 189 3).out 2) lf (layS ps189_3 d) k = lb189_3 lf d k := by
 obtain ⟨y1, y2, y3, y4, y5, y6, y7, y8, y9, y10, y11, y12, y13, y14, y15, y16, ⟨⟩⟩ := d
 exact (congrArg (fun st => iter (ev P KK T188 LOrc.none 300 189 (loopOf P 189 3)) (headL P KK (KK.ann 189 3) 2) (gcL (KK.ann 189 3).out 2) lf st k) (ly189_3 y1 y2 y3 y4 y5 y6 y7 y8 y9 y10 y11 y12 y13 y14 y15 y16)).trans (it189_3 y1 y2 y3 y5 y6 y7 y8 y9 y10 k lf y4 y11 y12 y13 y14 y15 y16)
theorem lo189_3 {R : Type} (lf : Nat) : LOrcOK P KK (lt189_3 (R := R) lf) :=
 LOrcOK.add (L := lb189_3 lf) ground oc188 LOrcOK.none (D := 300) (f0 := 189) (id0 := 3) (n00 := 2) (n := lf) (ps := ps189_3) (by kernel_rfl) (hi189_3 lf) LOrcOK.none
theorem oc189 {R : Type} : OrcOK P (T189 (R := R)) :=
 OrcOK.add1 (s := g189) (f := 189) (F := fun d => F189 fuel d.1 d.2.1) (fun d r h => by
  obtain ⟨x1, x2, ⟨⟩⟩ := d
  exact Meets.toW (Meets.of_evC ground oc188 (lo189_3 fuel) ((ev189 fuel x1 x2).trans h))) oc188
theorem oc159 {R : Type} : OrcOK P (T159 (R := R)) :=
 OrcOK.add1 (s := g159) (f := 159) (F := fun d => F159 d.1 d.2.1 d.2.2.1) (fun d r h => by
  obtain ⟨x1, x2, x3, ⟨⟩⟩ := d
  exact Meets.toW (Meets.of_evC ground oc189 LOrcOK.none ((ev159 x1 x2 x3).trans h))) oc189
theorem oc168 {R : Type} : OrcOK P (T168 (R := R)) :=
 OrcOK.add1 (s := g168) (f := 168) (F := fun d => F168 d.1 d.2.1 d.2.2.1) (fun d r h => by
  obtain ⟨x1, x2, x3, ⟨⟩⟩ := d
  exact Meets.toW (Meets.of_evC ground oc159 LOrcOK.none ((ev168 x1 x2 x3).trans h))) oc159
theorem oc104 {R : Type} : OrcOK P (T104 (R := R)) :=
 OrcOK.add1 (s := g104) (f := 104) (F := fun d => some (F104 d.1)) (fun d r h => by
  obtain ⟨x1, ⟨⟩⟩ := d
  exact Meets.toW (Meets.of_evC ground oc168 LOrcOK.none ((ev104 x1).trans h))) oc168
theorem oc134 {R : Type} : OrcOK P (T134 (R := R)) :=
 OrcOK.add1 (s := g134) (f := 134) (F := fun d => F134 d.1 d.2.1) (fun d r h => by
  obtain ⟨x1, x2, ⟨⟩⟩ := d
  exact Meets.toW (Meets.of_evC ground oc104 LOrcOK.none ((ev134 x1 x2).trans h))) oc104
theorem oc142 {R : Type} : OrcOK P (T142 (R := R)) :=
 OrcOK.add1 (s := g142) (f := 142) (F := fun d => F142 d.1) (fun d r h => by
  obtain ⟨x1, ⟨⟩⟩ := d
  exact Meets.toW (Meets.of_evC ground oc134 LOrcOK.none ((ev142 x1).trans h))) oc134
theorem oc143 {R : Type} : OrcOK P (T143 (R := R)) :=
 OrcOK.add1 (s := g143) (f := 143) (F := fun d => F143 d.1) (fun d r h => by
  obtain ⟨x1, ⟨⟩⟩ := d
  exact Meets.toW (Meets.of_evC ground oc142 LOrcOK.none ((ev143 x1).trans h))) oc142
theorem oc190 {R : Type} : OrcOK P (T190 (R := R)) :=
 OrcOK.add1 (s := g190) (f := 190) (F := fun d => some (F190)) (fun d r h => by
  obtain ⟨⟩ := d
  exact Meets.toW (Meets.of_evC ground oc143 LOrcOK.none ((ev190 ).trans h))) oc143
theorem hi164_8 {R : Type} (lf : Nat) (d : ps164_8.D) (k : Ex → St → Option R) : iter (ev P KK T190 LOrc.none 300 164 (loopOf P 164 8)) (headL P KK (KK.ann 164 8) 2) (gcL (KK.ann 164 8).out 2) lf (layS ps164_8 d) k = lb164_8 lf d k := by
 obtain ⟨y8, y9, y10, y11, y12, y13, y14, y15, y16, y17, y18, ⟨⟩⟩ := d
 exact (congrArg (fun st => iter (ev P KK T190 LOrc.none 300 164 (loopOf P 164 8)) (headL P KK (KK.ann 164 8) 2) (gcL (KK.ann 164 8).out 2) lf st k) (ly164_8 y8 y9 y10 y11 y12 y13 y14 y15 y16 y17 y18)).trans (it164_8 y9 y10 y11 y12 y13 y14 y16 y17 y18 k lf y8 y15)
theorem lo164_8 {R : Type} (lf : Nat) : LOrcOK P KK (lt164_8 (R := R) lf) :=
 LOrcOK.add (L := lb164_8 lf) ground oc190 LOrcOK.none (D := 300) (f0 := 164) (id0 := 8) (n00 := 2) (n := lf) (ps := ps164_8) (by kernel_rfl) (hi164_8 lf) LOrcOK.none
theorem hi164_5 {R : Type} (lf : Nat) (d : ps164_5.D) (k : Ex → St → Option R) : iter (ev P KK T190 (lt164_8 lf) 300 164 (loopOf P 164 5)) (headL P KK (KK.ann 164 5) 2) (gcL (KK.ann 164 5).out 2) lf (layS ps164_5 d) k = lb164_5 lf d k := by
 obtain ⟨y2, y3, y4, y5, y6, y7, ⟨⟩⟩ := d
 exact (congrArg (fun st => iter (ev P KK T190 (lt164_8 lf) 300 164 (loopOf P 164 5)) (headL P KK (KK.ann 164 5) 2) (gcL (KK.ann 164 5).out 2) lf st k) (ly164_5 y2 y3 y4 y5 y6 y7)).trans (it164_5 lf y5 y6 y7 k lf y2 y3 y4)
theorem lo164_5 {R : Type} (lf : Nat) : LOrcOK P KK (lt164_5 (R := R) lf) :=
 LOrcOK.add (L := lb164_5 lf) ground oc190 (lo164_8 lf) (D := 300) (f0 := 164) (id0 := 5) (n00 := 2) (n := lf) (ps := ps164_5) (by kernel_rfl) (hi164_5 lf) (lo164_8 lf)
theorem oc164 {R : Type} : OrcOK P (T164 (R := R)) :=
 OrcOK.add1 (s := g164) (f := 164) (F := fun d => F164 fuel d.1) (fun d r h => by
  obtain ⟨x1, ⟨⟩⟩ := d
  exact Meets.toW (Meets.of_evC ground oc190 (lo164_5 fuel) ((ev164 fuel x1).trans h))) oc190
theorem oc135 {R : Type} : OrcOK P (T135 (R := R)) :=
 OrcOK.add1 (s := g135) (f := 135) (F := fun d => F135 d.1) (fun d r h => by
  obtain ⟨x1, ⟨⟩⟩ := d
  exact Meets.toW (Meets.of_evC ground oc164 LOrcOK.none ((ev135 x1).trans h))) oc164
theorem oc122 {R : Type} : OrcOK P (T122 (R := R)) :=
 OrcOK.add1 (s := g122) (f := 122) (F := fun d => F122 d.1 d.2.1) (fun d r h => by
  obtain ⟨x1, x2, ⟨⟩⟩ := d
  exact Meets.toW (Meets.of_evC ground oc135 LOrcOK.none ((ev122 x1 x2).trans h))) oc135
theorem oc150 {R : Type} : OrcOK P (T150 (R := R)) :=
 OrcOK.add1 (s := g150) (f := 150) (F := fun d => F150 d.1 d.2.1 d.2.2.1 d.2.2.2.1 d.2.2.2.2.1) (fun d r h => by
  obtain ⟨x1, x2, x3, x4, x5, ⟨⟩⟩ := d
  exact Meets.toW (Meets.of_evC ground oc122 LOrcOK.none ((ev150 x1 x2 x3 x4 x5).trans h))) oc122
theorem oc101 {R : Type} : OrcOK P (T101 (R := R)) :=
 OrcOK.add1 (s := g101) (f := 101) (F := fun d => some (F101 d.1)) (fun d r h => by
  obtain ⟨x1, ⟨⟩⟩ := d
  exact Meets.toW (Meets.of_evC ground oc150 LOrcOK.none ((ev101 x1).trans h))) oc150
theorem oc237 {R : Type} : OrcOK P (T237 (R := R)) :=
 OrcOK.add1 (s := g237) (f := 237) (F := fun d => some (F237 d.1)) (fun d r h => by
  obtain ⟨x1, ⟨⟩⟩ := d
  exact Meets.toW (Meets.of_evC ground oc101 LOrcOK.none ((ev237 x1).trans h))) oc101
theorem oc163 {R : Type} : OrcOK P (T163 (R := R)) :=
 OrcOK.add1 (s := g163) (f := 163) (F := fun d => some (F163)) (fun d r h => by
  obtain ⟨⟩ := d
  exact Meets.toW (Meets.of_evC ground oc237 LOrcOK.none ((ev163 ).trans h))) oc237
theorem oc130 {R : Type} : OrcOK P (T130 (R := R)) :=
 OrcOK.add1 (s := g130) (f := 130) (F := fun d => some (F130 d.1)) (fun d r h => by
  obtain ⟨x1, ⟨⟩⟩ := d
  exact Meets.toW (Meets.of_evC ground oc163 LOrcOK.none ((ev130 x1).trans h))) oc163
theorem oc131 {R : Type} : OrcOK P (T131 (R := R)) :=
 OrcOK.add1 (s := g131) (f := 131) (F := fun d => some (F131 d.1 d.2.1)) (fun d r h => by
  obtain ⟨x1, x2, ⟨⟩⟩ := d
  exact Meets.toW (Meets.of_evC ground oc130 LOrcOK.none ((ev131 x1 x2).trans h))) oc130
theorem oc132 {R : Type} : OrcOK P (T132 (R := R)) :=
 OrcOK.add1 (s := g132) (f := 132) (F := fun d => some (F132 d.1)) (fun d r h => by
  obtain ⟨x1, ⟨⟩⟩ := d
  exact Meets.toW (Meets.of_evC ground oc131 LOrcOK.none ((ev132 x1).trans h))) oc131
theorem oc124 {R : Type} : OrcOK P (T124 (R := R)) :=
 OrcOK.add1 (s := g124) (f := 124) (F := fun d => some (F124 d.1 d.2.1 d.2.2.1)) (fun d r h => by
  obtain ⟨x1, x2, x3, ⟨⟩⟩ := d
  exact Meets.toW (Meets.of_evC ground oc132 LOrcOK.none ((ev124 x1 x2 x3).trans h))) oc132
theorem oc127 {R : Type} : OrcOK P (T127 (R := R)) :=
 OrcOK.add1 (s := g127) (f := 127) (F := fun d => F127 d.1 d.2.1) (fun d r h => by
  obtain ⟨x1, x2, ⟨⟩⟩ := d
  exact Meets.toW (Meets.of_evC ground oc124 LOrcOK.none ((ev127 x1 x2).trans h))) oc124
theorem hi160_126_2 {R : Type} (lf : Nat) (d : ps160_126_2.D) (k : Ex → St → Option R) : iter (ev P KK T127 LOrc.none 300 160 (loopOf P 160 2)) (headL P KK (KK.ann 160 2) 2) (gcL (KK.ann 160 2).out 2) lf (layS ps160_126_2 d) k = lb160_126_2 lf d k := by
 obtain ⟨y1, y2, y3, y4, ⟨⟩⟩ := d
 exact (congrArg (fun st => iter (ev P KK T127 LOrc.none 300 160 (loopOf P 160 2)) (headL P KK (KK.ann 160 2) 2) (gcL (KK.ann 160 2).out 2) lf st k) (ly160_126_2 y1 y2 y3 y4)).trans (it160_126_2 y1 y3 y4 k lf y2)
theorem lo160_126_2 {R : Type} (lf : Nat) : LOrcOK P KK (lt160_126_2 (R := R) lf) :=
 LOrcOK.add (L := lb160_126_2 lf) ground oc127 LOrcOK.none (D := 300) (f0 := 160) (id0 := 2) (n00 := 2) (n := lf) (ps := ps160_126_2) (by kernel_rfl) (hi160_126_2 lf) LOrcOK.none
theorem oc160_126 {R : Type} : OrcOK P (T160_126 (R := R)) :=
 OrcOK.add (s := g160_126) (f := 160) (F := fun d => F160_126 fuel d.1 d.2.1.1.1) (cond := fun args => cloIs 1 126 args) (fun d r h => by
  obtain ⟨x1, ⟨⟨x2, ⟨⟩⟩, ⟨⟩⟩, ⟨⟩⟩ := d
  exact Meets.toW (Meets.of_evC ground oc127 (lo160_126_2 fuel) ((ev160_126 fuel x1 x2).trans h))) oc127
theorem oc88 {R : Type} : OrcOK P (T88 (R := R)) :=
 OrcOK.add1 (s := g88) (f := 88) (F := fun d => F88 d.1 d.2.1) (fun d r h => by
  obtain ⟨x1, x2, ⟨⟩⟩ := d
  exact Meets.toW (Meets.of_evC ground oc160_126 LOrcOK.none ((ev88 x1 x2).trans h))) oc160_126
theorem oc162 {R : Type} : OrcOK P (T162 (R := R)) :=
 OrcOK.add1 (s := g162) (f := 162) (F := fun d => cloneB d.1) (fun d r h => me162 d r h) oc88
theorem hi129_3 {R : Type} (lf : Nat) (d : ps129_3.D) (k : Ex → St → Option R) : iter (ev P KK T162 LOrc.none 300 129 (loopOf P 129 3)) (headL P KK (KK.ann 129 3) 2) (gcL (KK.ann 129 3).out 2) lf (layS ps129_3 d) k = lb129_3 lf d k := by
 obtain ⟨y2, y3, y4, y5, y6, ⟨⟩⟩ := d
 exact (congrArg (fun st => iter (ev P KK T162 LOrc.none 300 129 (loopOf P 129 3)) (headL P KK (KK.ann 129 3) 2) (gcL (KK.ann 129 3).out 2) lf st k) (ly129_3 y2 y3 y4 y5 y6)).trans (it129_3 y2 y3 y5 k lf y4 y6)
theorem lo129_3 {R : Type} (lf : Nat) : LOrcOK P KK (lt129_3 (R := R) lf) :=
 LOrcOK.add (L := lb129_3 lf) ground oc162 LOrcOK.none (D := 300) (f0 := 129) (id0 := 3) (n00 := 2) (n := lf) (ps := ps129_3) (by kernel_rfl) (hi129_3 lf) LOrcOK.none
theorem oc129 {R : Type} : OrcOK P (T129 (R := R)) :=
 OrcOK.add1 (s := g129) (f := 129) (F := fun d => F129 fuel d.1 d.2.1) (fun d r h => by
  obtain ⟨x1, x2, ⟨⟩⟩ := d
  exact Meets.toW (Meets.of_evC ground oc162 (lo129_3 fuel) ((ev129 fuel x1 x2).trans h))) oc162
theorem hi128_4 {R : Type} (lf : Nat) (d : ps128_4.D) (k : Ex → St → Option R) : iter (ev P KK T129 LOrc.none 300 128 (loopOf P 128 4)) (headL P KK (KK.ann 128 4) 3) (gcL (KK.ann 128 4).out 3) lf (layS ps128_4 d) k = lb128_4 lf d k := by
 obtain ⟨y1, y2, y3, y4, ⟨⟩⟩ := d
 exact (congrArg (fun st => iter (ev P KK T129 LOrc.none 300 128 (loopOf P 128 4)) (headL P KK (KK.ann 128 4) 3) (gcL (KK.ann 128 4).out 3) lf st k) (ly128_4 y1 y2 y3 y4)).trans (it128_4 y1 y3 k lf y2 y4)
theorem lo128_4 {R : Type} (lf : Nat) : LOrcOK P KK (lt128_4 (R := R) lf) :=
 LOrcOK.add (L := lb128_4 lf) ground oc129 LOrcOK.none (D := 300) (f0 := 128) (id0 := 4) (n00 := 3) (n := lf) (ps := ps128_4) (by kernel_rfl) (hi128_4 lf) LOrcOK.none
theorem oc128 {R : Type} : OrcOK P (T128 (R := R)) :=
 OrcOK.add1 (s := g128) (f := 128) (F := fun d => F128 fuel d.1) (fun d r h => by
  obtain ⟨x1, ⟨⟩⟩ := d
  exact Meets.toW (Meets.of_evC ground oc129 (lo128_4 fuel) ((ev128 fuel x1).trans h))) oc129
theorem oc89 {R : Type} : OrcOK P (T89 (R := R)) :=
 OrcOK.add1 (s := g89) (f := 89) (F := fun d => F89 d.1) (fun d r h => by
  obtain ⟨x1, ⟨⟩⟩ := d
  exact Meets.toW (Meets.of_evC ground oc128 LOrcOK.none ((ev89 x1).trans h))) oc128
theorem hi90_7 {R : Type} (lf : Nat) (d : ps90_7.D) (k : Ex → St → Option R) : iter (ev P KK T89 LOrc.none 300 90 (loopOf P 90 7)) (headL P KK (KK.ann 90 7) 2) (gcL (KK.ann 90 7).out 2) lf (layS ps90_7 d) k = lb90_7 lf d k := by
 obtain ⟨y6, y7, y8, y9, y10, y11, ⟨⟩⟩ := d
 exact (congrArg (fun st => iter (ev P KK T89 LOrc.none 300 90 (loopOf P 90 7)) (headL P KK (KK.ann 90 7) 2) (gcL (KK.ann 90 7).out 2) lf st k) (ly90_7 y6 y7 y8 y9 y10 y11)).trans (it90_7 y6 y8 y10 k lf y7 y9 y11)
theorem lo90_7 {R : Type} (lf : Nat) : LOrcOK P KK (lt90_7 (R := R) lf) :=
 LOrcOK.add (L := lb90_7 lf) ground oc89 LOrcOK.none (D := 300) (f0 := 90) (id0 := 7) (n00 := 2) (n := lf) (ps := ps90_7) (by kernel_rfl) (hi90_7 lf) LOrcOK.none
theorem oc90 {R : Type} : OrcOK P (T90 (R := R)) :=
 OrcOK.add1 (s := g90) (f := 90) (F := fun d => F90 fuel d.1 d.2.1) (fun d r h => by
  obtain ⟨x1, x2, ⟨⟩⟩ := d
  exact Meets.toW (Meets.of_evC ground oc89 (lo90_7 fuel) ((ev90 fuel x1 x2).trans h))) oc89
theorem hi56_4 {R : Type} (lf : Nat) (d : ps56_4.D) (k : Ex → St → Option R) : iter (ev P KK T90 LOrc.none 300 56 (loopOf P 56 4)) (headL P KK (KK.ann 56 4) 1) (gcL (KK.ann 56 4).out 1) lf (layS ps56_4 d) k = lb56_4 lf d k := by
 obtain ⟨y2, y3, y4, y5, ⟨⟩⟩ := d
 exact (congrArg (fun st => iter (ev P KK T90 LOrc.none 300 56 (loopOf P 56 4)) (headL P KK (KK.ann 56 4) 1) (gcL (KK.ann 56 4).out 1) lf st k) (ly56_4 y2 y3 y4 y5)).trans (it56_4 y2 y4 k lf y3 y5)
theorem lo56_4 {R : Type} (lf : Nat) : LOrcOK P KK (lt56_4 (R := R) lf) :=
 LOrcOK.add (L := lb56_4 lf) ground oc90 LOrcOK.none (D := 300) (f0 := 56) (id0 := 4) (n00 := 1) (n := lf) (ps := ps56_4) (by kernel_rfl) (hi56_4 lf) LOrcOK.none
theorem oc56 {R : Type} : OrcOK P (T56 (R := R)) :=
 OrcOK.add1 (s := g56) (f := 56) (F := fun d => F56 fuel d.1 d.2.1) (fun d r h => by
  obtain ⟨x1, x2, ⟨⟩⟩ := d
  exact Meets.toW (Meets.of_evC ground oc90 (lo56_4 fuel) ((ev56 fuel x1 x2).trans h))) oc90
theorem oc29 {R : Type} : OrcOK P (T29 (R := R)) :=
 OrcOK.add1 (s := g29) (f := 29) (F := fun d => F29 d.1) (fun d r h => by
  obtain ⟨x1, ⟨⟩⟩ := d
  exact Meets.toW (Meets.of_evC ground oc56 LOrcOK.none ((ev29 x1).trans h))) oc56
theorem oc13 {R : Type} : OrcOK P (T13 (R := R)) :=
 OrcOK.add1 (s := g13) (f := 13) (F := fun d => F13 d.1) (fun d r h => by
  obtain ⟨x1, ⟨⟩⟩ := d
  exact Meets.toW (Meets.of_evC ground oc29 LOrcOK.none ((ev13 x1).trans h))) oc29
theorem oc15 {R : Type} : OrcOK P (T15 (R := R)) :=
 OrcOK.add1 (s := g15) (f := 15) (F := fun d => F15 d.1) (fun d r h => by
  obtain ⟨x1, ⟨⟩⟩ := d
  exact Meets.toW (Meets.of_evC ground oc13 LOrcOK.none ((ev15 x1).trans h))) oc13
theorem oc14 {R : Type} : OrcOK P (T14 (R := R)) :=
 OrcOK.add1 (s := g14) (f := 14) (F := fun d => some (F14 d.1)) (fun d r h => by
  obtain ⟨x1, ⟨⟩⟩ := d
  exact Meets.toW (Meets.of_evC ground oc15 LOrcOK.none ((ev14 x1).trans h))) oc15
theorem oc200 {R : Type} : OrcOK P (T200 (R := R)) :=
 OrcOK.add1 (s := g200) (f := 200) (F := fun d => F200 d.1 d.2.1) (fun d r h => by
  obtain ⟨x1, x2, ⟨⟩⟩ := d
  exact Meets.toW (Meets.of_evC ground oc14 LOrcOK.none ((ev200 x1 x2).trans h))) oc14
theorem oc8 {R : Type} : OrcOK P (T8 (R := R)) :=
 OrcOK.add1 (s := g8) (f := 8) (F := fun d => F8 d.1 d.2.1) (fun d r h => by
  obtain ⟨x1, x2, ⟨⟩⟩ := d
  exact Meets.toW (Meets.of_evC ground oc200 LOrcOK.none ((ev8 x1 x2).trans h))) oc200
theorem hi238_6 {R : Type} (lf : Nat) (d : ps238_6.D) (k : Ex → St → Option R) : iter (ev P KK T8 LOrc.none 300 238 (loopOf P 238 6)) (headL P KK (KK.ann 238 6) 2) (gcL (KK.ann 238 6).out 2) lf (layS ps238_6 d) k = lb238_6 lf d k := by
 obtain ⟨y3, y4, y5, y6, y7, y8, y9, y10, y11, ⟨⟩⟩ := d
 exact (congrArg (fun st => iter (ev P KK T8 LOrc.none 300 238 (loopOf P 238 6)) (headL P KK (KK.ann 238 6) 2) (gcL (KK.ann 238 6).out 2) lf st k) (ly238_6 y3 y4 y5 y6 y7 y8 y9 y10 y11)).trans (it238_6 y3 y4 y5 y6 y8 y9 y10 y11 k lf y7)
theorem lo238_6 {R : Type} (lf : Nat) : LOrcOK P KK (lt238_6 (R := R) lf) :=
 LOrcOK.add (L := lb238_6 lf) ground oc8 LOrcOK.none (D := 300) (f0 := 238) (id0 := 6) (n00 := 2) (n := lf) (ps := ps238_6) (by kernel_rfl) (hi238_6 lf) LOrcOK.none
theorem oc238 {R : Type} : OrcOK P (T238 (R := R)) :=
 OrcOK.add1 (s := g238) (f := 238) (F := fun d => F238 fuel d.1 d.2.1 d.2.2.1) (fun d r h => by
  obtain ⟨x1, x2, x3, ⟨⟩⟩ := d
  exact Meets.toW (Meets.of_evC ground oc8 (lo238_6 fuel) ((ev238 fuel x1 x2 x3).trans h))) oc8
theorem oc123 {R : Type} : OrcOK P (T123 (R := R)) :=
 OrcOK.add1 (s := g123) (f := 123) (F := fun d => some (F123 d.1)) (fun d r h => by
  obtain ⟨x1, ⟨⟩⟩ := d
  exact Meets.toW (Meets.of_evC ground oc238 LOrcOK.none ((ev123 x1).trans h))) oc238
theorem oc187 {R : Type} : OrcOK P (T187 (R := R)) :=
 OrcOK.add1 (s := g187) (f := 187) (F := fun d => F187 d.1 d.2.1) (fun d r h => by
  obtain ⟨x1, x2, ⟨⟩⟩ := d
  exact Meets.toW (Meets.of_evC ground oc123 LOrcOK.none ((ev187 x1 x2).trans h))) oc123
theorem oc158 {R : Type} : OrcOK P (T158 (R := R)) :=
 OrcOK.add1 (s := g158) (f := 158) (F := fun d => F158 d.1 d.2.1) (fun d r h => by
  obtain ⟨x1, x2, ⟨⟩⟩ := d
  exact Meets.toW (Meets.of_evC ground oc187 LOrcOK.none ((ev158 x1 x2).trans h))) oc187
theorem oc91 {R : Type} : OrcOK P (T91 (R := R)) :=
 OrcOK.add1 (s := g91) (f := 91) (F := fun d => some (F91 d.1)) (fun d r h => by
  obtain ⟨x1, ⟨⟩⟩ := d
  exact Meets.toW (Meets.of_evC ground oc158 LOrcOK.none ((ev91 x1).trans h))) oc158
theorem oc85 {R : Type} : OrcOK P (T85 (R := R)) :=
 OrcOK.add1 (s := g85) (f := 85) (F := fun d => F85 d.1 d.2.1) (fun d r h => by
  obtain ⟨x1, x2, ⟨⟩⟩ := d
  exact Meets.toW (Meets.of_evC ground oc91 LOrcOK.none ((ev85 x1 x2).trans h))) oc91
theorem oc107 {R : Type} : OrcOK P (T107 (R := R)) :=
 OrcOK.add1 (s := g107) (f := 107) (F := fun d => F107 d.1 d.2.1 d.2.2.1) (fun d r h => by
  obtain ⟨x1, x2, x3, ⟨⟩⟩ := d
  exact Meets.toW (Meets.of_evC ground oc85 LOrcOK.none ((ev107 x1 x2 x3).trans h))) oc85
theorem oc108 {R : Type} : OrcOK P (T108 (R := R)) :=
 OrcOK.add1 (s := g108) (f := 108) (F := fun d => F108 d.1 d.2.1 d.2.2.1 d.2.2.2.1) (fun d r h => by
  obtain ⟨x1, x2, x3, x4, ⟨⟩⟩ := d
  exact Meets.toW (Meets.of_evC ground oc107 LOrcOK.none ((ev108 x1 x2 x3 x4).trans h))) oc107
theorem oc111 {R : Type} : OrcOK P (T111 (R := R)) :=
 OrcOK.add1 (s := g111) (f := 111) (F := fun d => F111 d.1 d.2.1 d.2.2.1) (fun d r h => by
  obtain ⟨x1, x2, x3, ⟨⟩⟩ := d
  exact Meets.toW (Meets.of_evC ground oc108 LOrcOK.none ((ev111 x1 x2 x3).trans h))) oc108
theorem oc117 {R : Type} : OrcOK P (T117 (R := R)) :=
 OrcOK.add1 (s := g117) (f := 117) (F := fun d => F117 d.1) (fun d r h => by
  obtain ⟨x1, ⟨⟩⟩ := d
  exact Meets.toW (Meets.of_evC ground oc111 LOrcOK.none ((ev117 x1).trans h))) oc111
theorem oc119 {R : Type} : OrcOK P (T119 (R := R)) :=
 OrcOK.add1 (s := g119) (f := 119) (F := fun d => F119 d.1 d.2.1) (fun d r h => by
  obtain ⟨x1, x2, ⟨⟩⟩ := d
  exact Meets.toW (Meets.of_evC ground oc117 LOrcOK.none ((ev119 x1 x2).trans h))) oc117
theorem oc133 {R : Type} : OrcOK P (T133 (R := R)) :=
 OrcOK.add1 (s := g133) (f := 133) (F := fun d => F133 d.1) (fun d r h => by
  obtain ⟨x1, ⟨⟩⟩ := d
  exact Meets.toW (Meets.of_evC ground oc119 LOrcOK.none ((ev133 x1).trans h))) oc119
theorem hi92_3 {R : Type} (lf : Nat) (d : ps92_3.D) (k : Ex → St → Option R) : iter (ev P KK T133 LOrc.none 300 92 (loopOf P 92 3)) (headL P KK (KK.ann 92 3) 1) (gcL (KK.ann 92 3).out 1) lf (layS ps92_3 d) k = lb92_3 lf d k := by
 obtain ⟨y1, y2, y3, y4, ⟨⟩⟩ := d
 exact (congrArg (fun st => iter (ev P KK T133 LOrc.none 300 92 (loopOf P 92 3)) (headL P KK (KK.ann 92 3) 1) (gcL (KK.ann 92 3).out 1) lf st k) (ly92_3 y1 y2 y3 y4)).trans (it92_3 y1 y3 k lf y2 y4)
theorem lo92_3 {R : Type} (lf : Nat) : LOrcOK P KK (lt92_3 (R := R) lf) :=
 LOrcOK.add (L := lb92_3 lf) ground oc133 LOrcOK.none (D := 300) (f0 := 92) (id0 := 3) (n00 := 1) (n := lf) (ps := ps92_3) (by kernel_rfl) (hi92_3 lf) LOrcOK.none
theorem oc92 {R : Type} : OrcOK P (T92 (R := R)) :=
 OrcOK.add1 (s := g92) (f := 92) (F := fun d => F92 fuel d.1) (fun d r h => by
  obtain ⟨x1, ⟨⟩⟩ := d
  exact Meets.toW (Meets.of_evC ground oc133 (lo92_3 fuel) ((ev92 fuel x1).trans h))) oc133
theorem oc138 {R : Type} : OrcOK P (T138 (R := R)) :=
 OrcOK.add1 (s := g138) (f := 138) (F := fun d => F138 d.1 d.2.1) (fun d r h => by
  obtain ⟨x1, x2, ⟨⟩⟩ := d
  exact Meets.toW (Meets.of_evC ground oc92 LOrcOK.none ((ev138 x1 x2).trans h))) oc92
theorem hi95_5 {R : Type} (lf : Nat) (d : ps95_5.D) (k : Ex → St → Option R) : iter (ev P KK T138 LOrc.none 300 95 (loopOf P 95 5)) (headL P KK (KK.ann 95 5) 1) (gcL (KK.ann 95 5).out 1) lf (layS ps95_5 d) k = lb95_5 lf d k := by
 obtain ⟨y1, y2, y3, y4, y5, ⟨⟩⟩ := d
 exact (congrArg (fun st => iter (ev P KK T138 LOrc.none 300 95 (loopOf P 95 5)) (headL P KK (KK.ann 95 5) 1) (gcL (KK.ann 95 5).out 1) lf st k) (ly95_5 y1 y2 y3 y4 y5)).trans (it95_5 y1 y3 y5 k lf y2 y4)
theorem lo95_5 {R : Type} (lf : Nat) : LOrcOK P KK (lt95_5 (R := R) lf) :=
 LOrcOK.add (L := lb95_5 lf) ground oc138 LOrcOK.none (D := 300) (f0 := 95) (id0 := 5) (n00 := 1) (n := lf) (ps := ps95_5) (by kernel_rfl) (hi95_5 lf) LOrcOK.none
theorem oc95 {R : Type} : OrcOK P (T95 (R := R)) :=
 OrcOK.add1 (s := g95) (f := 95) (F := fun d => F95 fuel d.1 d.2.1) (fun d r h => by
  obtain ⟨x1, x2, ⟨⟩⟩ := d
  exact Meets.toW (Meets.of_evC ground oc138 (lo95_5 fuel) ((ev95 fuel x1 x2).trans h))) oc138
theorem hi94_5 {R : Type} (lf : Nat) (d : ps94_5.D) (k : Ex → St → Option R) : iter (ev P KK T95 LOrc.none 300 94 (loopOf P 94 5)) (headL P KK (KK.ann 94 5) 1) (gcL (KK.ann 94 5).out 1) lf (layS ps94_5 d) k = lb94_5 lf d k := by
 obtain ⟨y2, y3, y4, y5, ⟨⟩⟩ := d
 exact (congrArg (fun st => iter (ev P KK T95 LOrc.none 300 94 (loopOf P 94 5)) (headL P KK (KK.ann 94 5) 1) (gcL (KK.ann 94 5).out 1) lf st k) (ly94_5 y2 y3 y4 y5)).trans (it94_5 y3 y5 k lf y2 y4)
theorem lo94_5 {R : Type} (lf : Nat) : LOrcOK P KK (lt94_5 (R := R) lf) :=
 LOrcOK.add (L := lb94_5 lf) ground oc95 LOrcOK.none (D := 300) (f0 := 94) (id0 := 5) (n00 := 1) (n := lf) (ps := ps94_5) (by kernel_rfl) (hi94_5 lf) LOrcOK.none
theorem oc94 {R : Type} : OrcOK P (T94 (R := R)) :=
 OrcOK.add1 (s := g94) (f := 94) (F := fun d => F94 fuel d.1) (fun d r h => by
  obtain ⟨x1, ⟨⟩⟩ := d
  exact Meets.toW (Meets.of_evC ground oc95 (lo94_5 fuel) ((ev94 fuel x1).trans h))) oc95
theorem oc165 {R : Type} : OrcOK P (T165 (R := R)) :=
 OrcOK.add1 (s := g165) (f := 165) (F := fun d => stepsB d.1.1 d.1.2.1 d.1.2.2.1) (fun d r h => me165 d r h) oc94
theorem oc136 {R : Type} : OrcOK P (T136 (R := R)) :=
 OrcOK.add1 (s := g136) (f := 136) (F := fun d => F136 d.1 d.2.1 d.2.2.1 d.2.2.2.1) (fun d r h => by
  obtain ⟨x1, x2, x3, x4, ⟨⟩⟩ := d
  exact Meets.toW (Meets.of_evC ground oc165 LOrcOK.none ((ev136 x1 x2 x3 x4).trans h))) oc165
theorem hi93_3 {R : Type} (lf : Nat) (d : ps93_3.D) (k : Ex → St → Option R) : iter (ev P KK T136 LOrc.none 300 93 (loopOf P 93 3)) (headL P KK (KK.ann 93 3) 1) (gcL (KK.ann 93 3).out 1) lf (layS ps93_3 d) k = lb93_3 lf d k := by
 obtain ⟨y1, y2, y3, y4, y5, ⟨⟩⟩ := d
 exact (congrArg (fun st => iter (ev P KK T136 LOrc.none 300 93 (loopOf P 93 3)) (headL P KK (KK.ann 93 3) 1) (gcL (KK.ann 93 3).out 1) lf st k) (ly93_3 y1 y2 y3 y4 y5)).trans (it93_3 y1 y3 y5 k lf y2 y4)
theorem lo93_3 {R : Type} (lf : Nat) : LOrcOK P KK (lt93_3 (R := R) lf) :=
 LOrcOK.add (L := lb93_3 lf) ground oc136 LOrcOK.none (D := 300) (f0 := 93) (id0 := 3) (n00 := 1) (n := lf) (ps := ps93_3) (by kernel_rfl) (hi93_3 lf) LOrcOK.none
theorem oc93 {R : Type} : OrcOK P (T93 (R := R)) :=
 OrcOK.add1 (s := g93) (f := 93) (F := fun d => F93 fuel d.1 d.2.1) (fun d r h => by
  obtain ⟨x1, x2, ⟨⟩⟩ := d
  exact Meets.toW (Meets.of_evC ground oc136 (lo93_3 fuel) ((ev93 fuel x1 x2).trans h))) oc136
theorem hi58_4 {R : Type} (lf : Nat) (d : ps58_4.D) (k : Ex → St → Option R) : iterJ 0 (ev P KK T93 LOrc.none 300 58 (loopOf P 58 4)) (headL P KK (KK.ann 58 4) 1) (gcL (KK.ann 58 4).out 1) lf (layS ps58_4 d) k = lb58_4 lf d k := by
 obtain ⟨y6, y7, ⟨⟩⟩ := d
 exact (congrArg (fun st => iterJ 0 (ev P KK T93 LOrc.none 300 58 (loopOf P 58 4)) (headL P KK (KK.ann 58 4) 1) (gcL (KK.ann 58 4).out 1) lf st k) (ly58_4 y6 y7)).trans (it58_4 y7 k lf y6)
theorem lo58_4 {R : Type} (lf : Nat) : LOrcOK P KK (lt58_4 (R := R) lf) :=
 LOrcOK.addJ (L := lb58_4 lf) ground oc93 LOrcOK.none (D := 300) (f0 := 58) (id0 := 4) (n00 := 1) (n := lf) (ps := ps58_4) (by kernel_rfl) (hi58_4 lf) LOrcOK.none
theorem oc58 {R : Type} : OrcOK P (T58 (R := R)) :=
 OrcOK.add1 (s := g58) (f := 58) (F := fun d => F58 fuel d.1) (fun d r h => by
  obtain ⟨x1, ⟨⟩⟩ := d
  exact Meets.toW (Meets.of_evC ground oc93 (lo58_4 fuel) ((ev58 fuel x1).trans h))) oc93
theorem oc121 {R : Type} : OrcOK P (T121 (R := R)) :=
 OrcOK.add1 (s := g121) (f := 121) (F := fun d => some (F121 d.1 d.2.1 d.2.2.1)) (fun d r h => by
  obtain ⟨x1, x2, x3, ⟨⟩⟩ := d
  exact Meets.toW (Meets.of_evC ground oc58 LOrcOK.none ((ev121 x1 x2 x3).trans h))) oc58
theorem oc120 {R : Type} : OrcOK P (T120 (R := R)) :=
 OrcOK.add1 (s := g120) (f := 120) (F := fun d => some (F120 d.1)) (fun d r h => by
  obtain ⟨x1, ⟨⟩⟩ := d
  exact Meets.toW (Meets.of_evC ground oc121 LOrcOK.none ((ev120 x1).trans h))) oc121
end Go.Abs
