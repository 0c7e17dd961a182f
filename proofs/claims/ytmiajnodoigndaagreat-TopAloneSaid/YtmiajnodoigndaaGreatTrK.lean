/- Own: What is told of the program beside its code: kinds of elements, loops, which functions are walked where they are called. -/
import Derived.Test.YtmiajnodoigndaaGreatAbsA
import Derived.Test.YtmiajnodoigndaaGreatProg
import Derived.KernelRfl
namespace Go.Abs
noncomputable abbrev P : Program := Go.Proofs.Tryz.prog
def annL : List (Nat × Nat × LAnn) := [
 (3, 7, ⟨true, [0, 4, 5, 6], [2, 4, 5], [.mvC 4 1, .mvC 4 2, .mvC 4 8, .mvC 8 1, .mvC 8 2, .mvC 8 8]⟩),
 (3, 17, ⟨true, [4, 5, 13], [2, 4, 5], []⟩),
 (10, 5, ⟨false, [1, 3, 21, 22, 23], [1, 2, 3], []⟩),
 (30, 5, ⟨true, [1, 3, 12, 13, 14], [1, 2, 3], [.nilT 3 112]⟩),
 (35, 9, ⟨true, [1, 3, 4, 6, 31, 32, 33], [2, 6], [.nilT 6 112]⟩),
 (48, 4, ⟨true, [0, 1, 12, 13], [4], []⟩),
 (49, 2, ⟨true, [0, 1, 7, 8], [4], []⟩),
 (55, 4, ⟨true, [1, 38, 39, 40], [1, 2], []⟩),
 (56, 4, ⟨true, [0, 1, 13], [1, 4, 5], [.view 0]⟩),
 (57, 3, ⟨true, [3, 7, 8, 9], [2, 3], [.nilT 3 159]⟩),
 (58, 4, ⟨true, [0, 3], [2], []⟩),
 (59, 2, ⟨true, [0, 1, 7, 8], [4], []⟩),
 (60, 2, ⟨true, [0, 1, 7, 8], [4], []⟩),
 (62, 2, ⟨true, [5, 6, 7], [2], []⟩),
 (66, 3, ⟨true, [3, 8, 9, 10], [2, 3], [.nilT 3 45]⟩),
 (67, 5, ⟨true, [1, 2, 3, 6, 7, 8, 18, 19, 20], [1, 2, 3, 6, 7, 8], [.nilT 8 112]⟩),
 (67, 13, ⟨true, [1, 3, 6, 55, 56, 57], [3, 6], [.nilC 4 8 91]⟩),
 (71, 5, ⟨true, [0, 1, 5, 6], [0, 4, 5], []⟩),
 (73, 5, ⟨true, [0, 1, 5, 6], [0, 4, 5], []⟩),
 (75, 6, ⟨true, [2, 4, 5, 24, 25, 26], [2, 3, 4], [.mvC 8 1]⟩),
 (76, 6, ⟨true, [1, 2, 4, 6, 24, 25, 26], [2, 4, 5, 6], [.limT 1 2]⟩),
 (76, 16, ⟨true, [2, 4, 6, 13, 57, 58, 59], [2, 4, 5, 13], [.nilT 13 3]⟩),
 (77, 3, ⟨false, [1, 2, 5, 20, 21, 22], [2, 3, 5], []⟩),
 (78, 5, ⟨true, [0, 1, 5, 6], [0, 4, 5], []⟩),
 (83, 4, ⟨true, [1, 2, 4, 12, 13, 14], [1, 2, 3, 4], [.nilT 4 3]⟩),
 (84, 3, ⟨true, [0, 1, 5, 9, 10, 11], [0, 1, 4, 5], []⟩),
 (86, 2, ⟨true, [0, 1, 5], [4], []⟩),
 (90, 7, ⟨true, [1, 6, 8, 33, 34, 35], [4, 5, 6, 8], []⟩),
 (92, 3, ⟨true, [0, 3, 6, 7, 8], [0, 2, 3], [.nilT 3 3]⟩),
 (93, 3, ⟨true, [1, 5, 9, 10, 11], [4, 5], []⟩),
 (94, 5, ⟨true, [3, 11, 12, 13], [2, 3], []⟩),
 (95, 5, ⟨true, [1, 5, 12, 13, 14], [4, 5], []⟩),
 (98, 3, ⟨true, [1, 5, 8, 9, 10], [4, 5], [.nilT 5 112]⟩),
 (102, 4, ⟨true, [1, 20, 21, 22], [1, 4], []⟩),
 (104, 2, ⟨false, [1, 6, 7], [1, 2], []⟩),
 (105, 2, ⟨true, [0, 1, 7, 8], [4], []⟩),
 (112, 6, ⟨true, [0, 2, 8, 9, 28, 29, 30], [0, 2, 6, 7, 8, 9], [.nilT 9 88, .nilC 2 1 3]⟩),
 (112, 14, ⟨true, [2, 8, 9, 12, 52, 53, 54], [2, 6, 7, 8, 9, 12], [.mvT 9]⟩),
 (112, 24, ⟨true, [2, 8, 9, 12, 84, 85, 86], [6, 7, 8, 9, 12], [.mvC 2 1]⟩),
 (114, 2, ⟨true, [0, 1, 7, 8], [4], []⟩),
 (128, 4, ⟨true, [1, 3, 4, 8, 9], [2, 3], []⟩),
 (129, 3, ⟨true, [1, 5, 10, 11, 12], [4, 5], []⟩),
 (140, 3, ⟨true, [1, 5, 8, 9, 10], [4, 5], [.nilT 5 221]⟩),
 (147, 3, ⟨true, [1, 5, 8, 9, 10], [4, 5], [.nilT 5 3]⟩),
 (155, 2, ⟨true, [1, 8, 9, 10], [4], []⟩),
 (160, 2, ⟨true, [0, 1, 7, 8], [4], []⟩),
 (164, 5, ⟨true, [4, 5, 6], [2, 3, 5], [.limT 6 0]⟩),
 (164, 8, ⟨true, [4, 5, 6, 7, 24, 25, 26], [2, 3, 4, 5, 6, 7], []⟩),
 (172, 3, ⟨true, [0, 1, 4, 5, 15, 16, 17], [0, 1, 4, 5], []⟩),
 (172, 8, ⟨true, [0, 1, 4, 5], [4], []⟩),
 (172, 11, ⟨true, [0, 1, 4, 5, 8, 9, 35, 36, 37], [0, 1, 4, 5, 8, 9], []⟩),
 (189, 3, ⟨true, [0, 1, 4, 5, 11, 12], [4, 5], []⟩),
 (193, 2, ⟨true, [0, 1, 7, 8], [4], []⟩),
 (195, 3, ⟨true, [0, 6, 7, 8, 16, 17, 18], [6, 7, 8], []⟩),
 (198, 2, ⟨true, [0, 1, 2, 6, 7, 8], [0, 1, 2, 6, 7], []⟩),
 (198, 7, ⟨true, [0, 1, 2, 6], [], []⟩),
 (198, 9, ⟨true, [0, 1, 2, 6, 7, 8], [0, 1, 2, 6, 7], []⟩),
 (201, 1, ⟨true, [0, 1, 3], [], []⟩),
 (205, 1, ⟨true, [0, 1], [0, 4], []⟩),
 (207, 1, ⟨true, [0, 1, 2, 3, 8], [], []⟩),
 (207, 4, ⟨true, [0, 1, 2, 3, 8, 9], [0, 1, 2, 3, 8], []⟩),
 (208, 3, ⟨true, [0, 1, 4, 10, 11], [0, 1, 10], []⟩),
 (208, 9, ⟨true, [0, 10, 13], [], []⟩),
 (208, 15, ⟨true, [0, 2, 4, 14, 15], [0, 2, 14], []⟩),
 (208, 21, ⟨true, [0, 14, 17], [], []⟩),
 (208, 33, ⟨true, [0, 1, 2, 3, 4, 18, 19, 20, 21, 22], [0, 1, 2, 3, 4, 18, 19, 20], []⟩),
 (209, 2, ⟨true, [0, 1, 7, 8], [4], []⟩),
 (211, 2, ⟨true, [0, 1, 9, 10, 11], [0, 1, 4], []⟩),
 (212, 2, ⟨true, [0, 2, 4, 10, 11], [0, 2, 4, 10], []⟩),
 (215, 1, ⟨true, [0, 1, 2, 3, 10], [], []⟩),
 (234, 3, ⟨true, [6, 13, 14, 15], [4, 5, 6], [.nilT 6 319]⟩),
 (236, 3, ⟨true, [0, 3, 6, 7, 8], [2, 3], []⟩),
 (238, 6, ⟨true, [1, 2, 8, 27, 28], [2, 6], []⟩),
 (241, 2, ⟨true, [0, 1, 9, 10, 11], [0, 1, 4], []⟩)]
def codeL : List (Nat × TC) := [(3, .int), (4, .bool), (34, .int), (45, .spec), (49, .job), (50, .u64), (52, .ring), (54, .task), (88, .ape), (91, .aim), (112, .fix), (159, .live), (221, .spr), (319, .opt)]
def eqL : List (Nat × List Bool) := [(36, [true, true]), (38, [true, true]), (45, [true, true, true, true, true, true]), (49, [false, true, true, true, false, true, true, true]), (88, [true, true, true, true, true]), (294, [true, true]), (325, [true, true, true])]
def inlL : List Nat := [3, 12, 17, 18, 20, 24, 25, 26, 27, 28, 31, 32, 33, 34, 36, 37, 38, 39, 40, 41, 42, 43, 44, 45, 46, 47, 72, 74, 79, 80, 81, 87, 99, 103, 106, 110, 113, 115, 125, 126, 141, 145, 148, 152, 153, 156, 157, 161, 166, 167, 169, 170, 173, 174, 175, 176, 177, 178, 179, 180, 181, 182, 184, 191, 192, 197, 198, 201, 202, 203, 207, 217, 218, 219, 220, 221, 222, 223, 224, 225, 226, 227, 228, 229, 230, 231]
def wbL : List (Nat × Nat × List Nat) := [(6, 7, [6, 7]), (28, 5, [12]), (54, 13, [4]), (207, 6, [1])]
def methL : List (Nat × String × Nat) := [(244, "fusee/choose.who", 232), (245, "fusee/choose.who", 233), (246, "fusee/choose.who", 234)]
def KK : Kinds where
 code := fun t => codeOf t codeL
 eq := fun t a b => match eqShape t eqL with | some s => eqRow s a b | none => none
 ann := fun f id => annOf f id annL
 inl := fun f => memB f inlL
 inlC := fun f args => (Nat.beq f 60 && cloIs 1 153 args)
 qt := fun f => Nat.beq f 12
 qs := fun f id => (Nat.beq f 110 && Nat.beq id 4) || (Nat.beq f 110 && Nat.beq id 5) || (Nat.beq f 118 && Nat.beq id 5)
 meth := fun t m => methOf t m methL
 wb := fun f id => wbOf f id wbL
abbrev dd : AV := .dead
def cloneB {α : Type} (l : List α) : Option (List α) := bif Nat.ble l.length maxRows then some l else none
def stepsL (from' by' : Int) : Nat → List Int
 | 0 => []
 | n + 1 => from' :: stepsL (wI (from' + by')) by' n
def stepsP (from' by' upto : Int) : List Int := stepsL from' by' (((upto - from') / by' + 1).toNat)
noncomputable def ev3C (orc : Orc Bool) (lorc : LOrc Bool) (l : List OpD) : Option Bool :=
 evIn P (ev P KK orc lorc 400) 3 [.whole 0] [some ⟨false, true, false, 0, .ops l⟩] fun v _ => match v with
  | .bool b => some b
  | _ => none
def stepsB (from' by' upto : Int) : Option (List Int) :=
 bif decide (1 ≤ by') && (decide (by' ≤ 1000000) && (decide (0 ≤ from') && (decide (upto ≤ 2199023255552) && decide (upto - from' ≤ 10000)))) then some (stepsP from' by' upto) else none
end Go.Abs
