/- What dover's functions compute, in plain Lean. -/
import Derived.Test.YtmknoiiflciclaaPAx0
namespace Go.Proofs.Ytmknoiiflciclaa.PA
open Go.RowKit Go.Proofs.YtmknoiiflciclaaW.PrintWords Go.Proofs.YtmknoiiflciclaaW.PrintLast Go.Proofs.YtmknoiiflciclaaW.PrintMore
set_option linter.unusedVariables false
set_option linter.unusedSimpArgs false
/-- A job's cells. -/
def apeC (a : S29) : List Value := [.int .i64 a.f0, .int .i64 a.f1, .int .i64 a.f2, .int .i64 a.f3, .int .i64 a.f4]
/-- A job, by value. -/
def apeV (a : S29) : Value := .agg #[.int .i64 a.f0, .int .i64 a.f1, .int .i64 a.f2, .int .i64 a.f3, .int .i64 a.f4]
def at_ (l : List S29) (i : Nat) : S29 := l.getD i z29
theorem at_get {l : List S29} {i : Nat} (h : i < l.length) : at_ l i = l[i] := by
  unfold at_
  rw [List.getD_eq_getElem?_getD, List.getElem?_eq_getElem h, Option.getD_some]
theorem rd_at (l : List S29) (i : Nat) : rd_T29 l (i : Int) = at_ l i := by
  unfold rd_T29 at_
  rw [Int.toNat_natCast]
/-! A table of jobs by their IDs. -/
def getM : List S29 → Int → Option S29
  | [], _ => none
  | a :: M, k => if a.f0 = k then some a else getM M k
def putM : List S29 → S29 → List S29
  | [], x => [x]
  | a :: M, x => if a.f0 = x.f0 then x :: M else a :: putM M x
def delM : List S29 → Int → List S29
  | [], _ => []
  | a :: M, k => if a.f0 = k then M else a :: delM M k
/-- A job may be. -/
def ok1 (a : S29) : Bool := decide (0 ≤ a.f0 ∧ a.f0 ≤ 549755813888 ∧ 1 ≤ a.f1 ∧ a.f1 ≤ 1099511627776 ∧ 1 ≤ a.f2 ∧ a.f2 ≤ 40 ∧ 1 ≤ a.f3 ∧ a.f3 ≤ 1000 ∧ 0 ≤ a.f4 ∧ a.f4 ≤ wrap64 (a.f2 - 1))
/-- All before one may be. -/
def mayS (l : List S29) (now : Int) : Bool := l.all ok1 && (((l.foldl putM []).length == l.length) && (decide (l.length ≤ 4) && decide (0 ≤ now ∧ now ≤ 549755813888)))
/-- Who is ahead. -/
def ahd (a b : S29) : Bool := decide (a.f1 < b.f1 ∨ a.f1 = b.f1 ∧ a.f0 < b.f0)
/-- One is taken down to where it belongs. -/
def down (l : List S29) : Nat → List S29
  | 0 => l
  | j + 1 => if ahd (at_ l (j + 1)) (at_ l j) = true then down ((l.set (j + 1) (at_ l j)).set j (at_ l (j + 1))) j else l
/-- m more are taken down, from i on. -/
def downs (l : List S29) (i : Nat) : Nat → List S29
  | 0 => l
  | m + 1 => downs (down l i) (i + 1) m
/-- Jobs, in order. -/
def isort (l : List S29) : List S29 := downs l 1 (l.length - 1)
def leftS (a : S29) : Int := wrap64 (a.f2 - a.f4)
def laxS (a : S29) (now : Int) : Int := wrap64 (wrap64 (a.f1 - now) - leftS a)
def fitsL : List S29 → Int → Bool
  | [], _ => true
  | a :: l, now => if wrap64 (now + leftS a) > a.f1 then false else fitsL l (wrap64 (now + leftS a))
/-- All can end. -/
def fitsS (l : List S29) (now : Int) : Bool := fitsL (isort l) now
/-- One is so much more. -/
def beatsS (v s : Int) : Bool := if 0 ≤ v ∧ v ≤ 1048576 ∧ 0 ≤ s ∧ s ≤ 1048576 ∧ s < v then decide (wrap64 (wrap64 (v - s) * wrap64 (v - s)) > wrap64 (wrap64 (4 * s) * s)) else false
/-- The table and who is gone, when those are struck that can't end. -/
def struck : List S29 → Int → List S29 → List Int → List S29 × List Int
  | [], _, M, g => (M, g)
  | a :: l, now, M, g => if laxS a now < 0 then struck l now (delM (putM M a) a.f0) (g ++ [a.f0]) else struck l now (putM M a) g
instance : DecidableEq S29 := fun a b => decidable_of_iff (a.f0 = b.f0 ∧ a.f1 = b.f1 ∧ a.f2 = b.f2 ∧ a.f3 = b.f3 ∧ a.f4 = b.f4) ⟨fun ⟨h0, h1, h2, h3, h4⟩ => by cases a; cases b; simp_all, fun h => by subst h; simp⟩
/-- One is there still. -/
def stillS (M : List S29) (a : S29) : Bool := decide (getM M a.f0 = some a)
/-- One beats the one that runs. -/
def beatenS (M : List S29) (cur : Int) (a : S29) : Bool :=
  match getM M cur with
  | none => true
  | some c => beatsS a.f3 c.f3
/-- Those that can wait no longer, one by one. -/
def picks : List S29 → Int → List S29 → List Int → Int → List S29 × List Int × Int
  | [], _, M, g, cur => (M, g, cur)
  | a :: l, now, M, g, cur =>
    if a.f0 = cur ∨ laxS a now > 0 then picks l now M g cur
    else if beatenS M cur a = true then picks l now M g a.f0
    else picks l now (delM M a.f0) (g ++ [a.f0]) cur
/-- Who runs, of those that are there. -/
def lastS (there M : List S29) (g : List Int) (cur : Int) : Int × List Int :=
  if (getM M cur).isSome = true then (cur, g)
  else match there.find? (stillS M) with
    | none => (-1, g)
    | some a => (a.f0, g)
/-- Who runs, and who is gone. -/
def pickS (l : List S29) (cur now : Int) : Int × List Int :=
  if mayS l now = true then
    let (M, g) := struck l now [] []
    let there := (isort l).filter (stillS M)
    match there with
    | [] => (-1, g)
    | a :: _ => if fitsS there now = true then (a.f0, g)
      else let (M', g', c') := picks there now M g cur
        lastS there M' g' c'
  else (-1, [])
end Go.Proofs.Ytmknoiiflciclaa.PA
