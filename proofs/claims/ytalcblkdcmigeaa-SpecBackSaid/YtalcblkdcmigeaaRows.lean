/-
  No cell of these rows narrows 'for every input' (looked for: loops, veiled, ifaces, maps, wideKeys, modest, calm, conditions, laid).
  DERIVED. THE GIVEN ROWS OF THIS SEAT. 5 by the template 'for every input the law returns true; each argument reads behind the call as it read before'; 0 by the template 'total and deterministic' (their statements: YtalcblkdcmigeaaTotals.lean).
  GIVEN WITH THE SEED: the statements are not yours to turn. If you find one false, say at which input.
  Laid BY PROGRAM, IN A SANDBOX (cutbox-rows.mjs): the forced cells as the released guide's own fill.sh prints them over the translation 56fb9dca7dacb03e… (all of the seat's roots in one cut). By AI agents, Wed Nov 11 2026. No macro, syntax, notation, axiom, sorry.
-/
import Derived.Test.YtalcblkdcmigeaaChecked
import GoSem.Claim
import GoSem.ClaimJoined
import GoSem.ClaimMapViews
import Derived.JoinedTies
import Derived.KernelRfl
namespace Go.Proofs.Ytalcblkdcmigeaa
/- THE CELL 'sum', in the pinned program and in every row, IS THE sha256 OF THE DUMP (.gsa) THAT YtalcblkdcmigeaaProg.lean LOADS. Nothing in Lean hashes anything: it is a label: what it is worth is what the hold of that sum in a sandbox is worth. -/
noncomputable def Try.pinned : Pinned := { name := "ytalcblkdcmigeaa", sum := "56fb9dca7dacb03ecf605ae5830bb8340548200df2794e455b16ce1fd61ac71e", checked := Try.checked }
namespace Rows
def none {H : Type} : Left H := { results := [], args := [] }

/-- 'fuseelaw05.SpecLess': WHATEVER THE INPUT: true; the input reads as it did. -/
def specLessSpec : ChangeSpec := { name := "specLess", fn := fun _ => fun
  | [d1, d2] => { results := [.lit (.bool true)], args := [d1, d2] }
  | _ => none }
def specLessRow : OpenClaim := { program := "ytalcblkdcmigeaa", sum := "56fb9dca7dacb03ecf605ae5830bb8340548200df2794e455b16ce1fd61ac71e", func := "fusee/fuseelaw05.SpecLess", spec := "specLess", unfollowed := true, recurses := true, apart := false }
def SpecLessSaid : Prop := specLessRow.holds Try.pinned (OpenSpec.ofChange specLessSpec)

/-- ITS FALSE NEIGHBOUR: 'it returns false'. Refute it at one input. -/
def specLessWrong : ChangeSpec := { name := "specLess", fn := fun _ => fun
  | [d1, d2] => { results := [.lit (.bool false)], args := [d1, d2] }
  | _ => none }
def SpecLessWrongFalsely : Prop := specLessRow.holds Try.pinned (OpenSpec.ofChange specLessWrong)

/-- 'fuseelaw05.SpecStretch': WHATEVER THE INPUT: true; the input reads as it did. -/
def specStretchSpec : ChangeSpec := { name := "specStretch", fn := fun _ => fun
  | [d1, d2, d3] => { results := [.lit (.bool true)], args := [d1, d2, d3] }
  | _ => none }
def specStretchRow : OpenClaim := { program := "ytalcblkdcmigeaa", sum := "56fb9dca7dacb03ecf605ae5830bb8340548200df2794e455b16ce1fd61ac71e", func := "fusee/fuseelaw05.SpecStretch", spec := "specStretch", unfollowed := true, recurses := true, apart := false }
def SpecStretchSaid : Prop := specStretchRow.holds Try.pinned (OpenSpec.ofChange specStretchSpec)

/-- ITS FALSE NEIGHBOUR: 'it returns false'. Refute it at one input. -/
def specStretchWrong : ChangeSpec := { name := "specStretch", fn := fun _ => fun
  | [d1, d2, d3] => { results := [.lit (.bool false)], args := [d1, d2, d3] }
  | _ => none }
def SpecStretchWrongFalsely : Prop := specStretchRow.holds Try.pinned (OpenSpec.ofChange specStretchWrong)

/-- 'fuseelaw05.SpecOne': WHATEVER THE INPUT: true; the input reads as it did. -/
def specOneSpec : ChangeSpec := { name := "specOne", fn := fun _ => fun
  | [d1, d2] => { results := [.lit (.bool true)], args := [d1, d2] }
  | _ => none }
def specOneRow : OpenClaim := { program := "ytalcblkdcmigeaa", sum := "56fb9dca7dacb03ecf605ae5830bb8340548200df2794e455b16ce1fd61ac71e", func := "fusee/fuseelaw05.SpecOne", spec := "specOne", unfollowed := true, recurses := true, apart := false }
def SpecOneSaid : Prop := specOneRow.holds Try.pinned (OpenSpec.ofChange specOneSpec)

/-- ITS FALSE NEIGHBOUR: 'it returns false'. Refute it at one input. -/
def specOneWrong : ChangeSpec := { name := "specOne", fn := fun _ => fun
  | [d1, d2] => { results := [.lit (.bool false)], args := [d1, d2] }
  | _ => none }
def SpecOneWrongFalsely : Prop := specOneRow.holds Try.pinned (OpenSpec.ofChange specOneWrong)

/-- 'fuseelaw05.SpecBack': WHATEVER THE INPUT: true; the input reads as it did. -/
def specBackSpec : ChangeSpec := { name := "specBack", fn := fun _ => fun
  | [d1, d2] => { results := [.lit (.bool true)], args := [d1, d2] }
  | _ => none }
def specBackRow : OpenClaim := { program := "ytalcblkdcmigeaa", sum := "56fb9dca7dacb03ecf605ae5830bb8340548200df2794e455b16ce1fd61ac71e", func := "fusee/fuseelaw05.SpecBack", spec := "specBack", unfollowed := true, recurses := true, apart := false }
def SpecBackSaid : Prop := specBackRow.holds Try.pinned (OpenSpec.ofChange specBackSpec)

/-- ITS FALSE NEIGHBOUR: 'it returns false'. Refute it at one input. -/
def specBackWrong : ChangeSpec := { name := "specBack", fn := fun _ => fun
  | [d1, d2] => { results := [.lit (.bool false)], args := [d1, d2] }
  | _ => none }
def SpecBackWrongFalsely : Prop := specBackRow.holds Try.pinned (OpenSpec.ofChange specBackWrong)

/-- 'fuseelaw05.SpecTells': WHATEVER THE INPUT: true; the input reads as it did. -/
def specTellsSpec : ChangeSpec := { name := "specTells", fn := fun _ => fun
  | [d1, d2, d3, d4] => { results := [.lit (.bool true)], args := [d1, d2, d3, d4] }
  | _ => none }
def specTellsRow : OpenClaim := { program := "ytalcblkdcmigeaa", sum := "56fb9dca7dacb03ecf605ae5830bb8340548200df2794e455b16ce1fd61ac71e", func := "fusee/fuseelaw05.SpecTells", spec := "specTells", unfollowed := true, recurses := true, apart := false }
def SpecTellsSaid : Prop := specTellsRow.holds Try.pinned (OpenSpec.ofChange specTellsSpec)

/-- ITS FALSE NEIGHBOUR: 'it returns false'. Refute it at one input. -/
def specTellsWrong : ChangeSpec := { name := "specTells", fn := fun _ => fun
  | [d1, d2, d3, d4] => { results := [.lit (.bool false)], args := [d1, d2, d3, d4] }
  | _ => none }
def SpecTellsWrongFalsely : Prop := specTellsRow.holds Try.pinned (OpenSpec.ofChange specTellsWrong)

/- THE SECOND FORM. 'bulk': how many values and letters a reading holds, each counted each time it is reached (what is shared counts as often as it is met; a slice's spare places count too). A statement '..UptoSaid' is the law's where the arguments, and the package variables that the reading takes, are together of bulk at most 1048576: NARROWER than '..Said'. Prove '..Said' where nothing that the law and all that it calls make is longer than what came in: it says more and counts as full. Else prove '..UptoSaid'. A law counts once. -/
mutual
def uptoBulk {H : Type} : DataW H → Nat
  | .lit (.string bytes) => bytes.length + 1
  | .lit _ => 1
  | .nil => 1
  | .ptr d => uptoBulk d + 1
  | .slice elems spare => uptoBulkAll elems + uptoBulkAll spare + 1
  | .agg parts => uptoBulkAll parts + 1
  | .iface _ d => uptoBulk d + 1
  | .map entries => uptoBulkEntries entries + 1
  | .held _ => 1
def uptoBulkAll {H : Type} : List (DataW H) → Nat
  | [] => 0
  | d :: r => uptoBulk d + uptoBulkAll r
def uptoBulkEntries {H : Type} : List (Lit × DataW H) → Nat
  | [] => 0
  | x :: r => uptoBulkEntry x + uptoBulkEntries r
def uptoBulkEntry {H : Type} : Lit × DataW H → Nat
  | (.string bytes, d) => bytes.length + uptoBulk d + 1
  | (_, d) => uptoBulk d + 1
 end
def uptoSmall : (H : Type) → List (DataW H) → Bool := fun _ ds => decide (uptoBulkAll ds ≤ 1048576)
def OpenSpec.upto (s : _root_.Go.ChangeSpec) : _root_.Go.OpenSpec := { _root_.Go.OpenSpec.ofChange s with cond := some uptoSmall }

/-- 'fuseelaw05.SpecLess', WHERE WHAT IT READS IS OF BULK AT MOST 1048576: true; the input reads as it did. -/
def specLessUptoRow : OpenClaim := { program := "ytalcblkdcmigeaa", sum := "56fb9dca7dacb03ecf605ae5830bb8340548200df2794e455b16ce1fd61ac71e", func := "fusee/fuseelaw05.SpecLess", spec := "specLess", unfollowed := true, recurses := true, apart := false, narrowed := true }
def SpecLessUptoSaid : Prop := specLessUptoRow.holds Try.pinned (OpenSpec.upto specLessSpec)

/-- 'fuseelaw05.SpecStretch', WHERE WHAT IT READS IS OF BULK AT MOST 1048576: true; the input reads as it did. -/
def specStretchUptoRow : OpenClaim := { program := "ytalcblkdcmigeaa", sum := "56fb9dca7dacb03ecf605ae5830bb8340548200df2794e455b16ce1fd61ac71e", func := "fusee/fuseelaw05.SpecStretch", spec := "specStretch", unfollowed := true, recurses := true, apart := false, narrowed := true }
def SpecStretchUptoSaid : Prop := specStretchUptoRow.holds Try.pinned (OpenSpec.upto specStretchSpec)

/-- 'fuseelaw05.SpecOne', WHERE WHAT IT READS IS OF BULK AT MOST 1048576: true; the input reads as it did. -/
def specOneUptoRow : OpenClaim := { program := "ytalcblkdcmigeaa", sum := "56fb9dca7dacb03ecf605ae5830bb8340548200df2794e455b16ce1fd61ac71e", func := "fusee/fuseelaw05.SpecOne", spec := "specOne", unfollowed := true, recurses := true, apart := false, narrowed := true }
def SpecOneUptoSaid : Prop := specOneUptoRow.holds Try.pinned (OpenSpec.upto specOneSpec)

/-- 'fuseelaw05.SpecBack', WHERE WHAT IT READS IS OF BULK AT MOST 1048576: true; the input reads as it did. -/
def specBackUptoRow : OpenClaim := { program := "ytalcblkdcmigeaa", sum := "56fb9dca7dacb03ecf605ae5830bb8340548200df2794e455b16ce1fd61ac71e", func := "fusee/fuseelaw05.SpecBack", spec := "specBack", unfollowed := true, recurses := true, apart := false, narrowed := true }
def SpecBackUptoSaid : Prop := specBackUptoRow.holds Try.pinned (OpenSpec.upto specBackSpec)

/-- 'fuseelaw05.SpecTells', WHERE WHAT IT READS IS OF BULK AT MOST 1048576: true; the input reads as it did. -/
def specTellsUptoRow : OpenClaim := { program := "ytalcblkdcmigeaa", sum := "56fb9dca7dacb03ecf605ae5830bb8340548200df2794e455b16ce1fd61ac71e", func := "fusee/fuseelaw05.SpecTells", spec := "specTells", unfollowed := true, recurses := true, apart := false, narrowed := true }
def SpecTellsUptoSaid : Prop := specTellsUptoRow.holds Try.pinned (OpenSpec.upto specTellsSpec)

end Rows
end Go.Proofs.Ytalcblkdcmigeaa
