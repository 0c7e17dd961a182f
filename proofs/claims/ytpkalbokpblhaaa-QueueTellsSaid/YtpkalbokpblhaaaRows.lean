/-
  No cell of these rows narrows 'for every input' (looked for: loops, veiled, ifaces, maps, wideKeys, modest, calm, conditions, laid).
  DERIVED. THE GIVEN ROWS OF THIS SEAT. 7 by the template 'for every input the law returns true; each argument reads behind the call as it read before'; 0 by the template 'total and deterministic' (their statements: YtpkalbokpblhaaaTotals.lean).
  GIVEN WITH THE SEED: the statements are not yours to turn. If you find one false, say at which input.
  Laid BY PROGRAM, IN A SANDBOX (cutbox-rows.mjs): the forced cells as the released guide's own fill.sh prints them over the translation 21187174a6caf3fe… (all of the seat's roots in one cut). By AI agents, Wed Nov 11 2026. No macro, syntax, notation, axiom, sorry.
-/
import Derived.Test.YtpkalbokpblhaaaChecked
import GoSem.Claim
import GoSem.ClaimJoined
import GoSem.ClaimMapViews
import Derived.JoinedTies
import Derived.KernelRfl
namespace Go.Proofs.Ytpkalbokpblhaaa
/- THE CELL 'sum', in the pinned program and in every row, IS THE sha256 OF THE DUMP (.gsa) THAT YtpkalbokpblhaaaProg.lean LOADS. Nothing in Lean hashes anything: it is a label: what it is worth is what the hold of that sum in a sandbox is worth. -/
noncomputable def Try.pinned : Pinned := { name := "ytpkalbokpblhaaa", sum := "21187174a6caf3fe2dc9b784578e86611376b5ef2c182860cf529a2c09805c3b", checked := Try.checked }
namespace Rows
def none {H : Type} : Left H := { results := [], args := [] }

/-- 'fuseelaw04.QueueSorts': WHATEVER THE INPUT: true; the input reads as it did. -/
def queueSortsSpec : ChangeSpec := { name := "queueSorts", fn := fun _ => fun
  | [d1, d2] => { results := [.lit (.bool true)], args := [d1, d2] }
  | _ => none }
def queueSortsRow : OpenClaim := { program := "ytpkalbokpblhaaa", sum := "21187174a6caf3fe2dc9b784578e86611376b5ef2c182860cf529a2c09805c3b", func := "fusee/fuseelaw04.QueueSorts", spec := "queueSorts", unfollowed := true, recurses := true, apart := false }
def QueueSortsSaid : Prop := queueSortsRow.holds Try.pinned (OpenSpec.ofChange queueSortsSpec)

/-- ITS FALSE NEIGHBOUR: 'it returns false'. Refute it at one input. -/
def queueSortsWrong : ChangeSpec := { name := "queueSorts", fn := fun _ => fun
  | [d1, d2] => { results := [.lit (.bool false)], args := [d1, d2] }
  | _ => none }
def QueueSortsWrongFalsely : Prop := queueSortsRow.holds Try.pinned (OpenSpec.ofChange queueSortsWrong)

/-- 'fuseelaw04.QueueBoth': WHATEVER THE INPUT: true; the input reads as it did. -/
def queueBothSpec : ChangeSpec := { name := "queueBoth", fn := fun _ => fun
  | [d1, d2] => { results := [.lit (.bool true)], args := [d1, d2] }
  | _ => none }
def queueBothRow : OpenClaim := { program := "ytpkalbokpblhaaa", sum := "21187174a6caf3fe2dc9b784578e86611376b5ef2c182860cf529a2c09805c3b", func := "fusee/fuseelaw04.QueueBoth", spec := "queueBoth", unfollowed := true, recurses := true, apart := false }
def QueueBothSaid : Prop := queueBothRow.holds Try.pinned (OpenSpec.ofChange queueBothSpec)

/-- ITS FALSE NEIGHBOUR: 'it returns false'. Refute it at one input. -/
def queueBothWrong : ChangeSpec := { name := "queueBoth", fn := fun _ => fun
  | [d1, d2] => { results := [.lit (.bool false)], args := [d1, d2] }
  | _ => none }
def QueueBothWrongFalsely : Prop := queueBothRow.holds Try.pinned (OpenSpec.ofChange queueBothWrong)

/-- 'fuseelaw04.QueueLeast': WHATEVER THE INPUT: true; the input reads as it did. -/
def queueLeastSpec : ChangeSpec := { name := "queueLeast", fn := fun _ => fun
  | [d1, d2] => { results := [.lit (.bool true)], args := [d1, d2] }
  | _ => none }
def queueLeastRow : OpenClaim := { program := "ytpkalbokpblhaaa", sum := "21187174a6caf3fe2dc9b784578e86611376b5ef2c182860cf529a2c09805c3b", func := "fusee/fuseelaw04.QueueLeast", spec := "queueLeast", unfollowed := true, recurses := true, apart := false }
def QueueLeastSaid : Prop := queueLeastRow.holds Try.pinned (OpenSpec.ofChange queueLeastSpec)

/-- ITS FALSE NEIGHBOUR: 'it returns false'. Refute it at one input. -/
def queueLeastWrong : ChangeSpec := { name := "queueLeast", fn := fun _ => fun
  | [d1, d2] => { results := [.lit (.bool false)], args := [d1, d2] }
  | _ => none }
def QueueLeastWrongFalsely : Prop := queueLeastRow.holds Try.pinned (OpenSpec.ofChange queueLeastWrong)

/-- 'fuseelaw04.QueuePops': WHATEVER THE INPUT: true; the input reads as it did. -/
def queuePopsSpec : ChangeSpec := { name := "queuePops", fn := fun _ => fun
  | [d] => { results := [.lit (.bool true)], args := [d] }
  | _ => none }
def queuePopsRow : OpenClaim := { program := "ytpkalbokpblhaaa", sum := "21187174a6caf3fe2dc9b784578e86611376b5ef2c182860cf529a2c09805c3b", func := "fusee/fuseelaw04.QueuePops", spec := "queuePops", unfollowed := true, recurses := true, apart := false }
def QueuePopsSaid : Prop := queuePopsRow.holds Try.pinned (OpenSpec.ofChange queuePopsSpec)

/-- ITS FALSE NEIGHBOUR: 'it returns false'. Refute it at one input. -/
def queuePopsWrong : ChangeSpec := { name := "queuePops", fn := fun _ => fun
  | [d] => { results := [.lit (.bool false)], args := [d] }
  | _ => none }
def QueuePopsWrongFalsely : Prop := queuePopsRow.holds Try.pinned (OpenSpec.ofChange queuePopsWrong)

/-- 'fuseelaw04.QueueFirst': WHATEVER THE INPUT: true; the input reads as it did. -/
def queueFirstSpec : ChangeSpec := { name := "queueFirst", fn := fun _ => fun
  | [d1, d2] => { results := [.lit (.bool true)], args := [d1, d2] }
  | _ => none }
def queueFirstRow : OpenClaim := { program := "ytpkalbokpblhaaa", sum := "21187174a6caf3fe2dc9b784578e86611376b5ef2c182860cf529a2c09805c3b", func := "fusee/fuseelaw04.QueueFirst", spec := "queueFirst", unfollowed := true, recurses := true, apart := false }
def QueueFirstSaid : Prop := queueFirstRow.holds Try.pinned (OpenSpec.ofChange queueFirstSpec)

/-- ITS FALSE NEIGHBOUR: 'it returns false'. Refute it at one input. -/
def queueFirstWrong : ChangeSpec := { name := "queueFirst", fn := fun _ => fun
  | [d1, d2] => { results := [.lit (.bool false)], args := [d1, d2] }
  | _ => none }
def QueueFirstWrongFalsely : Prop := queueFirstRow.holds Try.pinned (OpenSpec.ofChange queueFirstWrong)

/-- 'fuseelaw04.QueueDrops': WHATEVER THE INPUT: true; the input reads as it did. -/
def queueDropsSpec : ChangeSpec := { name := "queueDrops", fn := fun _ => fun
  | [d1, d2] => { results := [.lit (.bool true)], args := [d1, d2] }
  | _ => none }
def queueDropsRow : OpenClaim := { program := "ytpkalbokpblhaaa", sum := "21187174a6caf3fe2dc9b784578e86611376b5ef2c182860cf529a2c09805c3b", func := "fusee/fuseelaw04.QueueDrops", spec := "queueDrops", unfollowed := true, recurses := true, apart := false }
def QueueDropsSaid : Prop := queueDropsRow.holds Try.pinned (OpenSpec.ofChange queueDropsSpec)

/-- ITS FALSE NEIGHBOUR: 'it returns false'. Refute it at one input. -/
def queueDropsWrong : ChangeSpec := { name := "queueDrops", fn := fun _ => fun
  | [d1, d2] => { results := [.lit (.bool false)], args := [d1, d2] }
  | _ => none }
def QueueDropsWrongFalsely : Prop := queueDropsRow.holds Try.pinned (OpenSpec.ofChange queueDropsWrong)

/-- 'fuseelaw04.QueueTells': WHATEVER THE INPUT: true; the input reads as it did. -/
def queueTellsSpec : ChangeSpec := { name := "queueTells", fn := fun _ => fun
  | [d1, d2, d3] => { results := [.lit (.bool true)], args := [d1, d2, d3] }
  | _ => none }
def queueTellsRow : OpenClaim := { program := "ytpkalbokpblhaaa", sum := "21187174a6caf3fe2dc9b784578e86611376b5ef2c182860cf529a2c09805c3b", func := "fusee/fuseelaw04.QueueTells", spec := "queueTells", unfollowed := true, recurses := true, apart := false }
def QueueTellsSaid : Prop := queueTellsRow.holds Try.pinned (OpenSpec.ofChange queueTellsSpec)

/-- ITS FALSE NEIGHBOUR: 'it returns false'. Refute it at one input. -/
def queueTellsWrong : ChangeSpec := { name := "queueTells", fn := fun _ => fun
  | [d1, d2, d3] => { results := [.lit (.bool false)], args := [d1, d2, d3] }
  | _ => none }
def QueueTellsWrongFalsely : Prop := queueTellsRow.holds Try.pinned (OpenSpec.ofChange queueTellsWrong)

/- THE SECOND FORM. 'bulk': how many values and letters a reading holds, each counted each time it is reached (what is shared counts as often as it is met; a slice's spare places count too). A statement '..UptoSaid' is the law's where the arguments, and the package variables that the reading takes, are together of bulk at most 1048576: NARROWER than '..Said'. Prove '..Said' where nothing that the law and all that it calls make is longer than what came in: it says more and counts as full. Else prove '..UptoSaid'. A law counts once. -/
mutual
def uptoBulk {H : Type} : DataW H → Nat
  | .lit (.string bytes) => bytes.length + 1
  | .lit _ => 1
  | .nil => 1
  | .ptr d => uptoBulk d + 1
  | .slice elems spare => uptoBulkAll elems + uptoBulkAll spare + 1
  | .agg parts => uptoBulkAll parts + 1
  | .iface _ d => uptoBulk d + 1
  | .map entries => uptoBulkEntries entries + 1
  | .held _ => 1
def uptoBulkAll {H : Type} : List (DataW H) → Nat
  | [] => 0
  | d :: r => uptoBulk d + uptoBulkAll r
def uptoBulkEntries {H : Type} : List (Lit × DataW H) → Nat
  | [] => 0
  | x :: r => uptoBulkEntry x + uptoBulkEntries r
def uptoBulkEntry {H : Type} : Lit × DataW H → Nat
  | (.string bytes, d) => bytes.length + uptoBulk d + 1
  | (_, d) => uptoBulk d + 1
 end
def uptoSmall : (H : Type) → List (DataW H) → Bool := fun _ ds => decide (uptoBulkAll ds ≤ 1048576)
def OpenSpec.upto (s : _root_.Go.ChangeSpec) : _root_.Go.OpenSpec := { _root_.Go.OpenSpec.ofChange s with cond := some uptoSmall }

/-- 'fuseelaw04.QueueSorts', WHERE WHAT IT READS IS OF BULK AT MOST 1048576: true; the input reads as it did. -/
def queueSortsUptoRow : OpenClaim := { program := "ytpkalbokpblhaaa", sum := "21187174a6caf3fe2dc9b784578e86611376b5ef2c182860cf529a2c09805c3b", func := "fusee/fuseelaw04.QueueSorts", spec := "queueSorts", unfollowed := true, recurses := true, apart := false, narrowed := true }
def QueueSortsUptoSaid : Prop := queueSortsUptoRow.holds Try.pinned (OpenSpec.upto queueSortsSpec)

/-- 'fuseelaw04.QueueBoth', WHERE WHAT IT READS IS OF BULK AT MOST 1048576: true; the input reads as it did. -/
def queueBothUptoRow : OpenClaim := { program := "ytpkalbokpblhaaa", sum := "21187174a6caf3fe2dc9b784578e86611376b5ef2c182860cf529a2c09805c3b", func := "fusee/fuseelaw04.QueueBoth", spec := "queueBoth", unfollowed := true, recurses := true, apart := false, narrowed := true }
def QueueBothUptoSaid : Prop := queueBothUptoRow.holds Try.pinned (OpenSpec.upto queueBothSpec)

/-- 'fuseelaw04.QueueLeast', WHERE WHAT IT READS IS OF BULK AT MOST 1048576: true; the input reads as it did. -/
def queueLeastUptoRow : OpenClaim := { program := "ytpkalbokpblhaaa", sum := "21187174a6caf3fe2dc9b784578e86611376b5ef2c182860cf529a2c09805c3b", func := "fusee/fuseelaw04.QueueLeast", spec := "queueLeast", unfollowed := true, recurses := true, apart := false, narrowed := true }
def QueueLeastUptoSaid : Prop := queueLeastUptoRow.holds Try.pinned (OpenSpec.upto queueLeastSpec)

/-- 'fuseelaw04.QueuePops', WHERE WHAT IT READS IS OF BULK AT MOST 1048576: true; the input reads as it did. -/
def queuePopsUptoRow : OpenClaim := { program := "ytpkalbokpblhaaa", sum := "21187174a6caf3fe2dc9b784578e86611376b5ef2c182860cf529a2c09805c3b", func := "fusee/fuseelaw04.QueuePops", spec := "queuePops", unfollowed := true, recurses := true, apart := false, narrowed := true }
def QueuePopsUptoSaid : Prop := queuePopsUptoRow.holds Try.pinned (OpenSpec.upto queuePopsSpec)

/-- 'fuseelaw04.QueueFirst', WHERE WHAT IT READS IS OF BULK AT MOST 1048576: true; the input reads as it did. -/
def queueFirstUptoRow : OpenClaim := { program := "ytpkalbokpblhaaa", sum := "21187174a6caf3fe2dc9b784578e86611376b5ef2c182860cf529a2c09805c3b", func := "fusee/fuseelaw04.QueueFirst", spec := "queueFirst", unfollowed := true, recurses := true, apart := false, narrowed := true }
def QueueFirstUptoSaid : Prop := queueFirstUptoRow.holds Try.pinned (OpenSpec.upto queueFirstSpec)

/-- 'fuseelaw04.QueueDrops', WHERE WHAT IT READS IS OF BULK AT MOST 1048576: true; the input reads as it did. -/
def queueDropsUptoRow : OpenClaim := { program := "ytpkalbokpblhaaa", sum := "21187174a6caf3fe2dc9b784578e86611376b5ef2c182860cf529a2c09805c3b", func := "fusee/fuseelaw04.QueueDrops", spec := "queueDrops", unfollowed := true, recurses := true, apart := false, narrowed := true }
def QueueDropsUptoSaid : Prop := queueDropsUptoRow.holds Try.pinned (OpenSpec.upto queueDropsSpec)

/-- 'fuseelaw04.QueueTells', WHERE WHAT IT READS IS OF BULK AT MOST 1048576: true; the input reads as it did. -/
def queueTellsUptoRow : OpenClaim := { program := "ytpkalbokpblhaaa", sum := "21187174a6caf3fe2dc9b784578e86611376b5ef2c182860cf529a2c09805c3b", func := "fusee/fuseelaw04.QueueTells", spec := "queueTells", unfollowed := true, recurses := true, apart := false, narrowed := true }
def QueueTellsUptoSaid : Prop := queueTellsUptoRow.holds Try.pinned (OpenSpec.upto queueTellsSpec)

end Rows
end Go.Proofs.Ytpkalbokpblhaaa
