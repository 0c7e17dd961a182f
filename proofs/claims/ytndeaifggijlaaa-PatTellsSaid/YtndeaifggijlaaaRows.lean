/-
  No cell of these rows narrows 'for every input' (looked for: loops, veiled, ifaces, maps, wideKeys, modest, calm, conditions, laid).
  DERIVED. THE GIVEN ROWS OF THIS SEAT. 7 by the template 'for every input the law returns true; each argument reads behind the call as it read before'; 0 by the template 'total and deterministic' (their statements: YtndeaifggijlaaaTotals.lean).
  GIVEN WITH THE SEED: the statements are not yours to turn. If you find one false, say at which input.
  Laid BY PROGRAM, IN A SANDBOX (cutbox-rows.mjs): the forced cells as the released guide's own fill.sh prints them over the translation 3625021e67c85833… (all of the seat's roots in one cut). By AI agents, Wed Nov 11 2026. No macro, syntax, notation, axiom, sorry.
-/
import Derived.Test.YtndeaifggijlaaaChecked
import GoSem.Claim
import GoSem.ClaimJoined
import GoSem.ClaimMapViews
import Derived.JoinedTies
import Derived.KernelRfl
namespace Go.Proofs.Ytndeaifggijlaaa
/- THE CELL 'sum', in the pinned program and in every row, IS THE sha256 OF THE DUMP (.gsa) THAT YtndeaifggijlaaaProg.lean LOADS. Nothing in Lean hashes anything: it is a label: what it is worth is what the hold of that sum in a sandbox is worth. -/
noncomputable def Try.pinned : Pinned := { name := "ytndeaifggijlaaa", sum := "3625021e67c85833fa0e325c9b57dda7b2894b9a16c11ab19d9ef67b631ec8ce", checked := Try.checked }
namespace Rows
def none {H : Type} : Left H := { results := [], args := [] }

/-- 'fuseelaw02.PatWindow': WHATEVER THE INPUT: true; the input reads as it did. -/
def patWindowSpec : ChangeSpec := { name := "patWindow", fn := fun _ => fun
  | [d1, d2, d3] => { results := [.lit (.bool true)], args := [d1, d2, d3] }
  | _ => none }
def patWindowRow : OpenClaim := { program := "ytndeaifggijlaaa", sum := "3625021e67c85833fa0e325c9b57dda7b2894b9a16c11ab19d9ef67b631ec8ce", func := "fusee/fuseelaw02.PatWindow", spec := "patWindow", unfollowed := true, recurses := true, apart := false }
def PatWindowSaid : Prop := patWindowRow.holds Try.pinned (OpenSpec.ofChange patWindowSpec)

/-- ITS FALSE NEIGHBOUR: 'it returns false'. Refute it at one input. -/
def patWindowWrong : ChangeSpec := { name := "patWindow", fn := fun _ => fun
  | [d1, d2, d3] => { results := [.lit (.bool false)], args := [d1, d2, d3] }
  | _ => none }
def PatWindowWrongFalsely : Prop := patWindowRow.holds Try.pinned (OpenSpec.ofChange patWindowWrong)

/-- 'fuseelaw02.PatTurns': WHATEVER THE INPUT: true; the input reads as it did. -/
def patTurnsSpec : ChangeSpec := { name := "patTurns", fn := fun _ => fun
  | [d1, d2, d3] => { results := [.lit (.bool true)], args := [d1, d2, d3] }
  | _ => none }
def patTurnsRow : OpenClaim := { program := "ytndeaifggijlaaa", sum := "3625021e67c85833fa0e325c9b57dda7b2894b9a16c11ab19d9ef67b631ec8ce", func := "fusee/fuseelaw02.PatTurns", spec := "patTurns", unfollowed := true, recurses := true, apart := false }
def PatTurnsSaid : Prop := patTurnsRow.holds Try.pinned (OpenSpec.ofChange patTurnsSpec)

/-- ITS FALSE NEIGHBOUR: 'it returns false'. Refute it at one input. -/
def patTurnsWrong : ChangeSpec := { name := "patTurns", fn := fun _ => fun
  | [d1, d2, d3] => { results := [.lit (.bool false)], args := [d1, d2, d3] }
  | _ => none }
def PatTurnsWrongFalsely : Prop := patTurnsRow.holds Try.pinned (OpenSpec.ofChange patTurnsWrong)

/-- 'fuseelaw02.PatSpread': WHATEVER THE INPUT: true; the input reads as it did. -/
def patSpreadSpec : ChangeSpec := { name := "patSpread", fn := fun _ => fun
  | [d1, d2, d3, d4, d5] => { results := [.lit (.bool true)], args := [d1, d2, d3, d4, d5] }
  | _ => none }
def patSpreadRow : OpenClaim := { program := "ytndeaifggijlaaa", sum := "3625021e67c85833fa0e325c9b57dda7b2894b9a16c11ab19d9ef67b631ec8ce", func := "fusee/fuseelaw02.PatSpread", spec := "patSpread", unfollowed := true, recurses := true, apart := false }
def PatSpreadSaid : Prop := patSpreadRow.holds Try.pinned (OpenSpec.ofChange patSpreadSpec)

/-- ITS FALSE NEIGHBOUR: 'it returns false'. Refute it at one input. -/
def patSpreadWrong : ChangeSpec := { name := "patSpread", fn := fun _ => fun
  | [d1, d2, d3, d4, d5] => { results := [.lit (.bool false)], args := [d1, d2, d3, d4, d5] }
  | _ => none }
def PatSpreadWrongFalsely : Prop := patSpreadRow.holds Try.pinned (OpenSpec.ofChange patSpreadWrong)

/-- 'fuseelaw02.PatMost': WHATEVER THE INPUT: true; the input reads as it did. -/
def patMostSpec : ChangeSpec := { name := "patMost", fn := fun _ => fun
  | [d1, d2, d3, d4] => { results := [.lit (.bool true)], args := [d1, d2, d3, d4] }
  | _ => none }
def patMostRow : OpenClaim := { program := "ytndeaifggijlaaa", sum := "3625021e67c85833fa0e325c9b57dda7b2894b9a16c11ab19d9ef67b631ec8ce", func := "fusee/fuseelaw02.PatMost", spec := "patMost", unfollowed := true, recurses := true, apart := false }
def PatMostSaid : Prop := patMostRow.holds Try.pinned (OpenSpec.ofChange patMostSpec)

/-- ITS FALSE NEIGHBOUR: 'it returns false'. Refute it at one input. -/
def patMostWrong : ChangeSpec := { name := "patMost", fn := fun _ => fun
  | [d1, d2, d3, d4] => { results := [.lit (.bool false)], args := [d1, d2, d3, d4] }
  | _ => none }
def PatMostWrongFalsely : Prop := patMostRow.holds Try.pinned (OpenSpec.ofChange patMostWrong)

/-- 'fuseelaw02.PatSum': WHATEVER THE INPUT: true; the input reads as it did. -/
def patSumSpec : ChangeSpec := { name := "patSum", fn := fun _ => fun
  | [d1, d2, d3, d4, d5] => { results := [.lit (.bool true)], args := [d1, d2, d3, d4, d5] }
  | _ => none }
def patSumRow : OpenClaim := { program := "ytndeaifggijlaaa", sum := "3625021e67c85833fa0e325c9b57dda7b2894b9a16c11ab19d9ef67b631ec8ce", func := "fusee/fuseelaw02.PatSum", spec := "patSum", unfollowed := true, recurses := true, apart := false }
def PatSumSaid : Prop := patSumRow.holds Try.pinned (OpenSpec.ofChange patSumSpec)

/-- ITS FALSE NEIGHBOUR: 'it returns false'. Refute it at one input. -/
def patSumWrong : ChangeSpec := { name := "patSum", fn := fun _ => fun
  | [d1, d2, d3, d4, d5] => { results := [.lit (.bool false)], args := [d1, d2, d3, d4, d5] }
  | _ => none }
def PatSumWrongFalsely : Prop := patSumRow.holds Try.pinned (OpenSpec.ofChange patSumWrong)

/-- 'fuseelaw02.PatWord': WHATEVER THE INPUT: true; the input reads as it did. -/
def patWordSpec : ChangeSpec := { name := "patWord", fn := fun _ => fun
  | [d1, d2, d3] => { results := [.lit (.bool true)], args := [d1, d2, d3] }
  | _ => none }
def patWordRow : OpenClaim := { program := "ytndeaifggijlaaa", sum := "3625021e67c85833fa0e325c9b57dda7b2894b9a16c11ab19d9ef67b631ec8ce", func := "fusee/fuseelaw02.PatWord", spec := "patWord", unfollowed := true, recurses := true, apart := false }
def PatWordSaid : Prop := patWordRow.holds Try.pinned (OpenSpec.ofChange patWordSpec)

/-- ITS FALSE NEIGHBOUR: 'it returns false'. Refute it at one input. -/
def patWordWrong : ChangeSpec := { name := "patWord", fn := fun _ => fun
  | [d1, d2, d3] => { results := [.lit (.bool false)], args := [d1, d2, d3] }
  | _ => none }
def PatWordWrongFalsely : Prop := patWordRow.holds Try.pinned (OpenSpec.ofChange patWordWrong)

/-- 'fuseelaw02.PatTells': WHATEVER THE INPUT: true; the input reads as it did. -/
def patTellsSpec : ChangeSpec := { name := "patTells", fn := fun _ => fun
  | [d1, d2, d3, d4] => { results := [.lit (.bool true)], args := [d1, d2, d3, d4] }
  | _ => none }
def patTellsRow : OpenClaim := { program := "ytndeaifggijlaaa", sum := "3625021e67c85833fa0e325c9b57dda7b2894b9a16c11ab19d9ef67b631ec8ce", func := "fusee/fuseelaw02.PatTells", spec := "patTells", unfollowed := true, recurses := true, apart := false }
def PatTellsSaid : Prop := patTellsRow.holds Try.pinned (OpenSpec.ofChange patTellsSpec)

/-- ITS FALSE NEIGHBOUR: 'it returns false'. Refute it at one input. -/
def patTellsWrong : ChangeSpec := { name := "patTells", fn := fun _ => fun
  | [d1, d2, d3, d4] => { results := [.lit (.bool false)], args := [d1, d2, d3, d4] }
  | _ => none }
def PatTellsWrongFalsely : Prop := patTellsRow.holds Try.pinned (OpenSpec.ofChange patTellsWrong)

/- THE SECOND FORM. 'bulk': how many values and letters a reading holds, each counted each time it is reached (what is shared counts as often as it is met; a slice's spare places count too). A statement '..UptoSaid' is the law's where the arguments, and the package variables that the reading takes, are together of bulk at most 1048576: NARROWER than '..Said'. Prove '..Said' where nothing that the law and all that it calls make is longer than what came in: it says more and counts as full. Else prove '..UptoSaid'. A law counts once. -/
mutual
def uptoBulk {H : Type} : DataW H → Nat
  | .lit (.string bytes) => bytes.length + 1
  | .lit _ => 1
  | .nil => 1
  | .ptr d => uptoBulk d + 1
  | .slice elems spare => uptoBulkAll elems + uptoBulkAll spare + 1
  | .agg parts => uptoBulkAll parts + 1
  | .iface _ d => uptoBulk d + 1
  | .map entries => uptoBulkEntries entries + 1
  | .held _ => 1
def uptoBulkAll {H : Type} : List (DataW H) → Nat
  | [] => 0
  | d :: r => uptoBulk d + uptoBulkAll r
def uptoBulkEntries {H : Type} : List (Lit × DataW H) → Nat
  | [] => 0
  | x :: r => uptoBulkEntry x + uptoBulkEntries r
def uptoBulkEntry {H : Type} : Lit × DataW H → Nat
  | (.string bytes, d) => bytes.length + uptoBulk d + 1
  | (_, d) => uptoBulk d + 1
 end
def uptoSmall : (H : Type) → List (DataW H) → Bool := fun _ ds => decide (uptoBulkAll ds ≤ 1048576)
def OpenSpec.upto (s : _root_.Go.ChangeSpec) : _root_.Go.OpenSpec := { _root_.Go.OpenSpec.ofChange s with cond := some uptoSmall }

/-- 'fuseelaw02.PatWindow', WHERE WHAT IT READS IS OF BULK AT MOST 1048576: true; the input reads as it did. -/
def patWindowUptoRow : OpenClaim := { program := "ytndeaifggijlaaa", sum := "3625021e67c85833fa0e325c9b57dda7b2894b9a16c11ab19d9ef67b631ec8ce", func := "fusee/fuseelaw02.PatWindow", spec := "patWindow", unfollowed := true, recurses := true, apart := false, narrowed := true }
def PatWindowUptoSaid : Prop := patWindowUptoRow.holds Try.pinned (OpenSpec.upto patWindowSpec)

/-- 'fuseelaw02.PatTurns', WHERE WHAT IT READS IS OF BULK AT MOST 1048576: true; the input reads as it did. -/
def patTurnsUptoRow : OpenClaim := { program := "ytndeaifggijlaaa", sum := "3625021e67c85833fa0e325c9b57dda7b2894b9a16c11ab19d9ef67b631ec8ce", func := "fusee/fuseelaw02.PatTurns", spec := "patTurns", unfollowed := true, recurses := true, apart := false, narrowed := true }
def PatTurnsUptoSaid : Prop := patTurnsUptoRow.holds Try.pinned (OpenSpec.upto patTurnsSpec)

/-- 'fuseelaw02.PatSpread', WHERE WHAT IT READS IS OF BULK AT MOST 1048576: true; the input reads as it did. -/
def patSpreadUptoRow : OpenClaim := { program := "ytndeaifggijlaaa", sum := "3625021e67c85833fa0e325c9b57dda7b2894b9a16c11ab19d9ef67b631ec8ce", func := "fusee/fuseelaw02.PatSpread", spec := "patSpread", unfollowed := true, recurses := true, apart := false, narrowed := true }
def PatSpreadUptoSaid : Prop := patSpreadUptoRow.holds Try.pinned (OpenSpec.upto patSpreadSpec)

/-- 'fuseelaw02.PatMost', WHERE WHAT IT READS IS OF BULK AT MOST 1048576: true; the input reads as it did. -/
def patMostUptoRow : OpenClaim := { program := "ytndeaifggijlaaa", sum := "3625021e67c85833fa0e325c9b57dda7b2894b9a16c11ab19d9ef67b631ec8ce", func := "fusee/fuseelaw02.PatMost", spec := "patMost", unfollowed := true, recurses := true, apart := false, narrowed := true }
def PatMostUptoSaid : Prop := patMostUptoRow.holds Try.pinned (OpenSpec.upto patMostSpec)

/-- 'fuseelaw02.PatSum', WHERE WHAT IT READS IS OF BULK AT MOST 1048576: true; the input reads as it did. -/
def patSumUptoRow : OpenClaim := { program := "ytndeaifggijlaaa", sum := "3625021e67c85833fa0e325c9b57dda7b2894b9a16c11ab19d9ef67b631ec8ce", func := "fusee/fuseelaw02.PatSum", spec := "patSum", unfollowed := true, recurses := true, apart := false, narrowed := true }
def PatSumUptoSaid : Prop := patSumUptoRow.holds Try.pinned (OpenSpec.upto patSumSpec)

/-- 'fuseelaw02.PatWord', WHERE WHAT IT READS IS OF BULK AT MOST 1048576: true; the input reads as it did. -/
def patWordUptoRow : OpenClaim := { program := "ytndeaifggijlaaa", sum := "3625021e67c85833fa0e325c9b57dda7b2894b9a16c11ab19d9ef67b631ec8ce", func := "fusee/fuseelaw02.PatWord", spec := "patWord", unfollowed := true, recurses := true, apart := false, narrowed := true }
def PatWordUptoSaid : Prop := patWordUptoRow.holds Try.pinned (OpenSpec.upto patWordSpec)

/-- 'fuseelaw02.PatTells', WHERE WHAT IT READS IS OF BULK AT MOST 1048576: true; the input reads as it did. -/
def patTellsUptoRow : OpenClaim := { program := "ytndeaifggijlaaa", sum := "3625021e67c85833fa0e325c9b57dda7b2894b9a16c11ab19d9ef67b631ec8ce", func := "fusee/fuseelaw02.PatTells", spec := "patTells", unfollowed := true, recurses := true, apart := false, narrowed := true }
def PatTellsUptoSaid : Prop := patTellsUptoRow.holds Try.pinned (OpenSpec.upto patTellsSpec)

end Rows
end Go.Proofs.Ytndeaifggijlaaa
