/-
  No cell of these rows narrows 'for every input' (looked for: loops, veiled, ifaces, maps, wideKeys, modest, calm, conditions, laid).
  DERIVED. THE GIVEN ROWS OF THIS SEAT. 6 by the template 'for every input the law returns true; each argument reads behind the call as it read before'; 0 by the template 'total and deterministic' (their statements: YtmknoiiflciclaaTotals.lean).
  GIVEN WITH THE SEED: the statements are not yours to turn. If you find one false, say at which input.
  Laid BY PROGRAM, IN A SANDBOX (cutbox-rows.mjs): the forced cells as the released guide's own fill.sh prints them over the translation d50126f3936068bc… (all of the seat's roots in one cut). By AI agents, Wed Nov 11 2026. No macro, syntax, notation, axiom, sorry.
-/
import Derived.Test.YtmknoiiflciclaaChecked
import GoSem.Claim
import GoSem.ClaimJoined
import GoSem.ClaimMapViews
import Derived.JoinedTies
import Derived.KernelRfl
namespace Go.Proofs.Ytmknoiiflciclaa
/- THE CELL 'sum', in the pinned program and in every row, IS THE sha256 OF THE DUMP (.gsa) THAT YtmknoiiflciclaaProg.lean LOADS. Nothing in Lean hashes anything: it is a label: what it is worth is what the hold of that sum in a sandbox is worth. -/
noncomputable def Try.pinned : Pinned := { name := "ytmknoiiflciclaa", sum := "d50126f3936068bc6a5ad10593ddc8a49844b5ed56b65d6e8a6e43092140144c", checked := Try.checked }
namespace Rows
def none {H : Type} : Left H := { results := [], args := [] }

/-- 'fuseelaw13.DoverCan': WHATEVER THE INPUT: true; the input reads as it did. -/
def doverCanSpec : ChangeSpec := { name := "doverCan", fn := fun _ => fun
  | [d1, d2, d3] => { results := [.lit (.bool true)], args := [d1, d2, d3] }
  | _ => none }
def doverCanRow : OpenClaim := { program := "ytmknoiiflciclaa", sum := "d50126f3936068bc6a5ad10593ddc8a49844b5ed56b65d6e8a6e43092140144c", func := "fusee/fuseelaw13.DoverCan", spec := "doverCan", unfollowed := true, recurses := true, apart := false }
def DoverCanSaid : Prop := doverCanRow.holds Try.pinned (OpenSpec.ofChange doverCanSpec)

/-- ITS FALSE NEIGHBOUR: 'it returns false'. Refute it at one input. -/
def doverCanWrong : ChangeSpec := { name := "doverCan", fn := fun _ => fun
  | [d1, d2, d3] => { results := [.lit (.bool false)], args := [d1, d2, d3] }
  | _ => none }
def DoverCanWrongFalsely : Prop := doverCanRow.holds Try.pinned (OpenSpec.ofChange doverCanWrong)

/-- 'fuseelaw13.DoverRival': WHATEVER THE INPUT: true; the input reads as it did. -/
def doverRivalSpec : ChangeSpec := { name := "doverRival", fn := fun _ => fun
  | [d1, d2, d3] => { results := [.lit (.bool true)], args := [d1, d2, d3] }
  | _ => none }
def doverRivalRow : OpenClaim := { program := "ytmknoiiflciclaa", sum := "d50126f3936068bc6a5ad10593ddc8a49844b5ed56b65d6e8a6e43092140144c", func := "fusee/fuseelaw13.DoverRival", spec := "doverRival", unfollowed := true, recurses := true, apart := false }
def DoverRivalSaid : Prop := doverRivalRow.holds Try.pinned (OpenSpec.ofChange doverRivalSpec)

/-- ITS FALSE NEIGHBOUR: 'it returns false'. Refute it at one input. -/
def doverRivalWrong : ChangeSpec := { name := "doverRival", fn := fun _ => fun
  | [d1, d2, d3] => { results := [.lit (.bool false)], args := [d1, d2, d3] }
  | _ => none }
def DoverRivalWrongFalsely : Prop := doverRivalRow.holds Try.pinned (OpenSpec.ofChange doverRivalWrong)

/-- 'fuseelaw13.DoverWaits': WHATEVER THE INPUT: true; the input reads as it did. -/
def doverWaitsSpec : ChangeSpec := { name := "doverWaits", fn := fun _ => fun
  | [d1, d2, d3] => { results := [.lit (.bool true)], args := [d1, d2, d3] }
  | _ => none }
def doverWaitsRow : OpenClaim := { program := "ytmknoiiflciclaa", sum := "d50126f3936068bc6a5ad10593ddc8a49844b5ed56b65d6e8a6e43092140144c", func := "fusee/fuseelaw13.DoverWaits", spec := "doverWaits", unfollowed := true, recurses := true, apart := false }
def DoverWaitsSaid : Prop := doverWaitsRow.holds Try.pinned (OpenSpec.ofChange doverWaitsSpec)

/-- ITS FALSE NEIGHBOUR: 'it returns false'. Refute it at one input. -/
def doverWaitsWrong : ChangeSpec := { name := "doverWaits", fn := fun _ => fun
  | [d1, d2, d3] => { results := [.lit (.bool false)], args := [d1, d2, d3] }
  | _ => none }
def DoverWaitsWrongFalsely : Prop := doverWaitsRow.holds Try.pinned (OpenSpec.ofChange doverWaitsWrong)

/-- 'fuseelaw13.DoverBeaten': WHATEVER THE INPUT: true; the input reads as it did. -/
def doverBeatenSpec : ChangeSpec := { name := "doverBeaten", fn := fun _ => fun
  | [d1, d2, d3] => { results := [.lit (.bool true)], args := [d1, d2, d3] }
  | _ => none }
def doverBeatenRow : OpenClaim := { program := "ytmknoiiflciclaa", sum := "d50126f3936068bc6a5ad10593ddc8a49844b5ed56b65d6e8a6e43092140144c", func := "fusee/fuseelaw13.DoverBeaten", spec := "doverBeaten", unfollowed := true, recurses := true, apart := false }
def DoverBeatenSaid : Prop := doverBeatenRow.holds Try.pinned (OpenSpec.ofChange doverBeatenSpec)

/-- ITS FALSE NEIGHBOUR: 'it returns false'. Refute it at one input. -/
def doverBeatenWrong : ChangeSpec := { name := "doverBeaten", fn := fun _ => fun
  | [d1, d2, d3] => { results := [.lit (.bool false)], args := [d1, d2, d3] }
  | _ => none }
def DoverBeatenWrongFalsely : Prop := doverBeatenRow.holds Try.pinned (OpenSpec.ofChange doverBeatenWrong)

/-- 'fuseelaw13.DoverFits': WHATEVER THE INPUT: true; the input reads as it did. -/
def doverFitsSpec : ChangeSpec := { name := "doverFits", fn := fun _ => fun
  | [d1, d2, d3] => { results := [.lit (.bool true)], args := [d1, d2, d3] }
  | _ => none }
def doverFitsRow : OpenClaim := { program := "ytmknoiiflciclaa", sum := "d50126f3936068bc6a5ad10593ddc8a49844b5ed56b65d6e8a6e43092140144c", func := "fusee/fuseelaw13.DoverFits", spec := "doverFits", unfollowed := true, recurses := true, apart := false }
def DoverFitsSaid : Prop := doverFitsRow.holds Try.pinned (OpenSpec.ofChange doverFitsSpec)

/-- ITS FALSE NEIGHBOUR: 'it returns false'. Refute it at one input. -/
def doverFitsWrong : ChangeSpec := { name := "doverFits", fn := fun _ => fun
  | [d1, d2, d3] => { results := [.lit (.bool false)], args := [d1, d2, d3] }
  | _ => none }
def DoverFitsWrongFalsely : Prop := doverFitsRow.holds Try.pinned (OpenSpec.ofChange doverFitsWrong)

/-- 'fuseelaw13.DoverTurned': WHATEVER THE INPUT: true; the input reads as it did. -/
def doverTurnedSpec : ChangeSpec := { name := "doverTurned", fn := fun _ => fun
  | [d1, d2, d3] => { results := [.lit (.bool true)], args := [d1, d2, d3] }
  | _ => none }
def doverTurnedRow : OpenClaim := { program := "ytmknoiiflciclaa", sum := "d50126f3936068bc6a5ad10593ddc8a49844b5ed56b65d6e8a6e43092140144c", func := "fusee/fuseelaw13.DoverTurned", spec := "doverTurned", unfollowed := true, recurses := true, apart := false }
def DoverTurnedSaid : Prop := doverTurnedRow.holds Try.pinned (OpenSpec.ofChange doverTurnedSpec)

/-- ITS FALSE NEIGHBOUR: 'it returns false'. Refute it at one input. -/
def doverTurnedWrong : ChangeSpec := { name := "doverTurned", fn := fun _ => fun
  | [d1, d2, d3] => { results := [.lit (.bool false)], args := [d1, d2, d3] }
  | _ => none }
def DoverTurnedWrongFalsely : Prop := doverTurnedRow.holds Try.pinned (OpenSpec.ofChange doverTurnedWrong)

/- THE SECOND FORM. 'bulk': how many values and letters a reading holds, each counted each time it is reached (what is shared counts as often as it is met; a slice's spare places count too). A statement '..UptoSaid' is the law's where the arguments, and the package variables that the reading takes, are together of bulk at most 1048576: NARROWER than '..Said'. Prove '..Said' where nothing that the law and all that it calls make is longer than what came in: it says more and counts as full. Else prove '..UptoSaid'. A law counts once. -/
mutual
def uptoBulk {H : Type} : DataW H → Nat
  | .lit (.string bytes) => bytes.length + 1
  | .lit _ => 1
  | .nil => 1
  | .ptr d => uptoBulk d + 1
  | .slice elems spare => uptoBulkAll elems + uptoBulkAll spare + 1
  | .agg parts => uptoBulkAll parts + 1
  | .iface _ d => uptoBulk d + 1
  | .map entries => uptoBulkEntries entries + 1
  | .held _ => 1
def uptoBulkAll {H : Type} : List (DataW H) → Nat
  | [] => 0
  | d :: r => uptoBulk d + uptoBulkAll r
def uptoBulkEntries {H : Type} : List (Lit × DataW H) → Nat
  | [] => 0
  | x :: r => uptoBulkEntry x + uptoBulkEntries r
def uptoBulkEntry {H : Type} : Lit × DataW H → Nat
  | (.string bytes, d) => bytes.length + uptoBulk d + 1
  | (_, d) => uptoBulk d + 1
 end
def uptoSmall : (H : Type) → List (DataW H) → Bool := fun _ ds => decide (uptoBulkAll ds ≤ 1048576)
def OpenSpec.upto (s : _root_.Go.ChangeSpec) : _root_.Go.OpenSpec := { _root_.Go.OpenSpec.ofChange s with cond := some uptoSmall }

/-- 'fuseelaw13.DoverCan', WHERE WHAT IT READS IS OF BULK AT MOST 1048576: true; the input reads as it did. -/
def doverCanUptoRow : OpenClaim := { program := "ytmknoiiflciclaa", sum := "d50126f3936068bc6a5ad10593ddc8a49844b5ed56b65d6e8a6e43092140144c", func := "fusee/fuseelaw13.DoverCan", spec := "doverCan", unfollowed := true, recurses := true, apart := false, narrowed := true }
def DoverCanUptoSaid : Prop := doverCanUptoRow.holds Try.pinned (OpenSpec.upto doverCanSpec)

/-- 'fuseelaw13.DoverRival', WHERE WHAT IT READS IS OF BULK AT MOST 1048576: true; the input reads as it did. -/
def doverRivalUptoRow : OpenClaim := { program := "ytmknoiiflciclaa", sum := "d50126f3936068bc6a5ad10593ddc8a49844b5ed56b65d6e8a6e43092140144c", func := "fusee/fuseelaw13.DoverRival", spec := "doverRival", unfollowed := true, recurses := true, apart := false, narrowed := true }
def DoverRivalUptoSaid : Prop := doverRivalUptoRow.holds Try.pinned (OpenSpec.upto doverRivalSpec)

/-- 'fuseelaw13.DoverWaits', WHERE WHAT IT READS IS OF BULK AT MOST 1048576: true; the input reads as it did. -/
def doverWaitsUptoRow : OpenClaim := { program := "ytmknoiiflciclaa", sum := "d50126f3936068bc6a5ad10593ddc8a49844b5ed56b65d6e8a6e43092140144c", func := "fusee/fuseelaw13.DoverWaits", spec := "doverWaits", unfollowed := true, recurses := true, apart := false, narrowed := true }
def DoverWaitsUptoSaid : Prop := doverWaitsUptoRow.holds Try.pinned (OpenSpec.upto doverWaitsSpec)

/-- 'fuseelaw13.DoverBeaten', WHERE WHAT IT READS IS OF BULK AT MOST 1048576: true; the input reads as it did. -/
def doverBeatenUptoRow : OpenClaim := { program := "ytmknoiiflciclaa", sum := "d50126f3936068bc6a5ad10593ddc8a49844b5ed56b65d6e8a6e43092140144c", func := "fusee/fuseelaw13.DoverBeaten", spec := "doverBeaten", unfollowed := true, recurses := true, apart := false, narrowed := true }
def DoverBeatenUptoSaid : Prop := doverBeatenUptoRow.holds Try.pinned (OpenSpec.upto doverBeatenSpec)

/-- 'fuseelaw13.DoverFits', WHERE WHAT IT READS IS OF BULK AT MOST 1048576: true; the input reads as it did. -/
def doverFitsUptoRow : OpenClaim := { program := "ytmknoiiflciclaa", sum := "d50126f3936068bc6a5ad10593ddc8a49844b5ed56b65d6e8a6e43092140144c", func := "fusee/fuseelaw13.DoverFits", spec := "doverFits", unfollowed := true, recurses := true, apart := false, narrowed := true }
def DoverFitsUptoSaid : Prop := doverFitsUptoRow.holds Try.pinned (OpenSpec.upto doverFitsSpec)

/-- 'fuseelaw13.DoverTurned', WHERE WHAT IT READS IS OF BULK AT MOST 1048576: true; the input reads as it did. -/
def doverTurnedUptoRow : OpenClaim := { program := "ytmknoiiflciclaa", sum := "d50126f3936068bc6a5ad10593ddc8a49844b5ed56b65d6e8a6e43092140144c", func := "fusee/fuseelaw13.DoverTurned", spec := "doverTurned", unfollowed := true, recurses := true, apart := false, narrowed := true }
def DoverTurnedUptoSaid : Prop := doverTurnedUptoRow.holds Try.pinned (OpenSpec.upto doverTurnedSpec)

end Rows
end Go.Proofs.Ytmknoiiflciclaa
