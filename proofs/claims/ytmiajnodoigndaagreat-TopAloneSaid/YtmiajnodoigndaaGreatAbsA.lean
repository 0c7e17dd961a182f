/- Own: Values without a heap's addresses, and what code makes of them: definitions alone. -/
import Derived.RowKit
import Derived.Calls
import Derived.Orders
namespace Go.Abs
inductive AV where
 | bool (b : Bool)
 | int (k : IntKind) (n : Int)
 | ptr (b i o : Nat)
 | whole (b : Nat)
 | part (b i n : Nat)
 | lim (b i n : Nat)
 | inn (b i : Nat)
 | arr (b i o n : Nat)
 | nils
 | nilp
 | fn (f : Fn) (first cap : List AV)
 | nilfn
 | iface (t : TypeId) (v : AV)
 | nilif
 | mapv (b : Nat)
 | agg (l : List AV)
 | tup (l : List AV)
 | dead
structure Spec where
 (C T Max M K E : Int)
structure Job where
 (On : Bool) (J Rel Due : Int) (Mand : Bool) (C D Ran : Int)
structure Fix where
 (S : Spec) (P : Int)
structure Live where
 (S : Spec) (J : Job) (P At N : Int)
structure Ape where
 (ID Due C V Ran : Int)
structure Opt where
 (Far Due ID : Int)
structure Ring where
 (N B : Int)
structure Task where
 (ID : Int) (S : Spec) (P Next At N : Int) (J : Job) (H : Ring) (Kept : Bool)
structure Aim where
 (ID : Int) (S : Spec) (P : Int)
structure Spr where
 (U Min E : Int)
structure OpD where
 (Kind ID : Int) (S : Spec) (T Max Within C V : Int) (D : List Int)
inductive TC where
 | int | u64 | bool | spec | job | ring | fix | live | ape | opt | task | aim | spr
 deriving DecidableEq
def El : TC → Type
 | .int | .u64 => Int
 | .bool => Bool
 | .spec => Spec | .job => Job | .ring => Ring | .fix => Fix | .live => Live | .ape => Ape | .opt => Opt | .task => Task | .aim => Aim | .spr => Spr
abbrev I (n : Int) : AV := .int .i64 n
def Spec.row (s : Spec) : List AV := [I s.C, I s.T, I s.Max, I s.M, I s.K, I s.E]
def Job.row (j : Job) : List AV := [.bool j.On, I j.J, I j.Rel, I j.Due, .bool j.Mand, I j.C, I j.D, I j.Ran]
def Fix.row (x : Fix) : List AV := [I x.S.C, I x.S.T, I x.S.Max, I x.S.M, I x.S.K, I x.S.E, I x.P]
def Live.row (x : Live) : List AV := [I x.S.C, I x.S.T, I x.S.Max, I x.S.M, I x.S.K, I x.S.E, .bool x.J.On, I x.J.J, I x.J.Rel, I x.J.Due, .bool x.J.Mand, I x.J.C, I x.J.D, I x.J.Ran, I x.P, I x.At, I x.N]
def Ape.row (a : Ape) : List AV := [I a.ID, I a.Due, I a.C, I a.V, I a.Ran]
def Opt.row (a : Opt) : List AV := [I a.Far, I a.Due, I a.ID]
def Ring.row (r : Ring) : List AV := [I r.N, .int .u64 r.B]
def Task.row (t : Task) : List AV := [I t.ID, I t.S.C, I t.S.T, I t.S.Max, I t.S.M, I t.S.K, I t.S.E, I t.P, I t.Next, I t.At, I t.N, .bool t.J.On, I t.J.J, I t.J.Rel, I t.J.Due, .bool t.J.Mand, I t.J.C, I t.J.D, I t.J.Ran, I t.H.N, .int .u64 t.H.B, .bool t.Kept]
def Aim.row (a : Aim) : List AV := [I a.ID, I a.S.C, I a.S.T, I a.S.Max, I a.S.M, I a.S.K, I a.S.E, I a.P]
def Spr.row (s : Spr) : List AV := [I s.U, I s.Min, I s.E]
def OpD.row (o : OpD) (b i : Nat) : List AV := [I o.Kind, I o.ID, I o.S.C, I o.S.T, I o.S.Max, I o.S.M, I o.S.K, I o.S.E, I o.T, I o.Max, I o.Within, I o.C, I o.V, .inn b i]
def rowOf : (c : TC) → El c → List AV
 | .int, n => [I n] | .u64, n => [.int .u64 n] | .bool, b => [.bool b]
 | .spec, x => Spec.row x | .job, x => Job.row x | .ring, x => Ring.row x | .fix, x => Fix.row x | .live, x => Live.row x | .ape, x => Ape.row x | .opt, x => Opt.row x
 | .task, x => Task.row x | .aim, x => Aim.row x | .spr, x => Spr.row x
def width : TC → Nat
 | .int | .u64 | .bool => 1 | .spec => 6 | .job => 8 | .ring => 2 | .fix => 7 | .live => 17 | .ape => 5 | .opt => 3 | .task => 22 | .aim => 8 | .spr => 3
def pI {R : Type} (l : List AV) (k : Int → List AV → Option R) : Option R := match l with
 | .int .i64 n :: l => k n l
 | _ => none
def pU {R : Type} (l : List AV) (k : Int → List AV → Option R) : Option R := match l with
 | .int .u64 n :: l => k n l
 | _ => none
def pB {R : Type} (l : List AV) (k : Bool → List AV → Option R) : Option R := match l with
 | .bool n :: l => k n l
 | _ => none
def pEnd {R : Type} (l : List AV) (x : R) : Option R := match l with
 | [] => some x
 | _ => none
def pSpec {R : Type} (l : List AV) (k : Spec → List AV → Option R) : Option R :=
 pI l fun a l => pI l fun b l => pI l fun c l => pI l fun d l => pI l fun e l => pI l fun f l => k ⟨a, b, c, d, e, f⟩ l
def pJob {R : Type} (l : List AV) (k : Job → List AV → Option R) : Option R :=
 pB l fun a l => pI l fun b l => pI l fun c l => pI l fun d l => pB l fun e l => pI l fun f l => pI l fun g l => pI l fun h l => k ⟨a, b, c, d, e, f, g, h⟩ l
def pRing {R : Type} (l : List AV) (k : Ring → List AV → Option R) : Option R :=
 pI l fun a l => pU l fun b l => k ⟨a, b⟩ l
def unRow : (c : TC) → List AV → Option (El c)
 | .int, l => pI l fun n l => pEnd l n
 | .u64, l => pU l fun n l => pEnd l n
 | .bool, l => pB l fun n l => pEnd l n
 | .spec, l => pSpec l fun s l => pEnd l s
 | .job, l => pJob l fun s l => pEnd l s
 | .ring, l => pRing l fun s l => pEnd l s
 | .fix, l => pSpec l fun s l => pI l fun p l => pEnd l (⟨s, p⟩ : Fix)
 | .live, l => pSpec l fun s l => pJob l fun j l => pI l fun p l => pI l fun a l => pI l fun n l => pEnd l (⟨s, j, p, a, n⟩ : Live)
 | .ape, l => pI l fun a l => pI l fun b l => pI l fun c l => pI l fun d l => pI l fun e l => pEnd l (⟨a, b, c, d, e⟩ : Ape)
 | .opt, l => pI l fun a l => pI l fun b l => pI l fun c l => pEnd l (⟨a, b, c⟩ : Opt)
 | .task, l => pI l fun i l => pSpec l fun s l => pI l fun p l => pI l fun x l => pI l fun a l => pI l fun n l => pJob l fun j l => pRing l fun h l => pB l fun q l => pEnd l (⟨i, s, p, x, a, n, j, h, q⟩ : Task)
 | .aim, l => pI l fun i l => pSpec l fun s l => pI l fun p l => pEnd l (⟨i, s, p⟩ : Aim)
 | .spr, l => pI l fun a l => pI l fun b l => pI l fun c l => pEnd l (⟨a, b, c⟩ : Spr)
def getM {α : Type} : List (Int × α) → Int → Option α
 | [], _ => none
 | x :: l, k => if k = x.1 then some x.2 else getM l k
def putM {α : Type} : List (Int × α) → Int → α → List (Int × α)
 | [], k, v => [(k, v)]
 | x :: l, k, v => if k = x.1 then (k, v) :: l else x :: putM l k v
def delM {α : Type} : List (Int × α) → Int → List (Int × α)
 | [], _ => []
 | x :: l, k => if k = x.1 then l else x :: delM l k
def valOf (agg : Bool) (row : List AV) : AV := match agg, row with
 | true, row => .agg row
 | false, [v] => v
 | false, _ => .dead
inductive Rows where
 | gen (sz : Nat) (l : List (List AV))
 | typ (c : TC) (l : List (El c))
 | mp (c : TC) (l : List (Int × El c))
 | mg (l : List (Int × List AV))
 | ops (l : List OpD)
def opsRows (b : Nat) : Nat → List OpD → List (List AV)
 | _, [] => []
 | i, x :: l => OpD.row x b i :: opsRows b (i + 1) l
def Rows.list (b : Nat) : Rows → List (List AV)
 | .gen _ l => l
 | .typ c l => l.map (rowOf c)
 | .ops l => opsRows b 0 l
 | _ => []
def Rows.sz : Rows → Nat
 | .gen sz _ => sz
 | .typ c _ => width c
 | .ops _ => 14
 | _ => 0
def Rows.len : Rows → Nat
 | .gen _ l => l.length
 | .typ _ l => l.length
 | .mp _ l => l.length
 | .mg l => l.length
 | .ops l => l.length
structure Cell where
 wr : Bool
 sl : Bool
 nn : Bool
 elem : TypeId
 rows : Rows
abbrev Heap := List (Option Cell)
def Rows.get {R : Type} (r : Rows) (b i : Nat) (k : List AV → Option R) : Option R :=
 match r with
 | .gen _ l => (match l[i]? with | some x => k x | none => none)
 | .typ c l => (match l[i]? with | some x => k (rowOf c x) | none => none)
 | .ops l => (match l[i]? with | some x => k (OpD.row x b i) | none => none)
 | _ => none
def Rows.set {R : Type} (r : Rows) (i : Nat) (row : List AV) (k : Rows → Option R) : Option R :=
 match r with
 | .gen sz l => bif Nat.beq row.length sz then k (.gen sz (l.set i row)) else none
 | .typ c l => (match unRow c row with | some x => k (.typ c (l.set i x)) | none => none)
 | _ => none
def Rows.sub : Rows → Nat → Nat → Rows
 | .gen sz l, i, n => .gen sz ((l.drop i).take n)
 | .typ c l, i, n => .typ c ((l.drop i).take n)
 | r, _, _ => r
def Rows.app : Rows → Rows → Option Rows
 | .gen sz l, .gen sz' l' => bif Nat.beq sz sz' then some (.gen sz (l ++ l')) else none
 | .typ c l, .typ c' l' => if h : c' = c then some (.typ c (l ++ h ▸ l')) else none
 | _, _ => none
def Rows.over : Rows → Nat → Rows → Option Rows
 | .gen sz l, i, .gen sz' l' => bif Nat.beq sz sz' then some (.gen sz (l.take i ++ (l' ++ l.drop (i + l'.length)))) else none
 | .typ c l, i, .typ c' l' => if h : c' = c then some (.typ c (l.take i ++ ((h ▸ l') ++ l.drop (i + l'.length)))) else none
 | _, _, _ => none
def Rows.zero : Rows → Nat → Nat → List AV → Option Rows
 | .gen sz l, i, n, z => bif Nat.beq z.length sz then some (.gen sz (l.take i ++ (List.replicate n z ++ l.drop (i + n)))) else none
 | .typ c l, i, n, z => (match unRow c z with | some z => some (.typ c (l.take i ++ (List.replicate n z ++ l.drop (i + n)))) | none => none)
 | _, _, _, _ => none
def unRows (c : TC) : List (List AV) → Option (List (El c))
 | [] => some []
 | r :: rs => match unRow c r with
  | none => none
  | some x => match unRows c rs with
   | none => none
   | some xs => some (x :: xs)
mutual
def AV.refs : AV → List Nat
 | .ptr b _ _ => [b]
 | .whole b => [b]
 | .part b _ _ => [b]
 | .lim b _ _ => [b]
 | .inn b _ => [b]
 | .arr b _ _ _ => [b]
 | .mapv b => [b]
 | .fn _ fs cs => refsL fs ++ refsL cs
 | .iface _ v => v.refs
 | .agg l => refsL l
 | .tup l => refsL l
 | _ => []
def refsL : List AV → List Nat
 | [] => []
 | v :: l => v.refs ++ refsL l
end
mutual
def AV.ren (f : Nat → Option Nat) : AV → AV
 | .ptr b i o => (match f b with | some b => .ptr b i o | none => .dead)
 | .whole b => (match f b with | some b => .whole b | none => .dead)
 | .part b i n => (match f b with | some b => .part b i n | none => .dead)
 | .lim b i n => (match f b with | some b => .lim b i n | none => .dead)
 | .inn b i => (match f b with | some b => .inn b i | none => .dead)
 | .arr b i o n => (match f b with | some b => .arr b i o n | none => .dead)
 | .mapv b => (match f b with | some b => .mapv b | none => .dead)
 | .fn g fs cs => .fn g (renL f fs) (renL f cs)
 | .iface t v => .iface t (v.ren f)
 | .agg l => .agg (renL f l)
 | .tup l => .tup (renL f l)
 | v => v
def renL (f : Nat → Option Nat) : List AV → List AV
 | [] => []
 | v :: l => v.ren f :: renL f l
end
def renLL (f : Nat → Option Nat) : List (List AV) → List (List AV)
 | [] => []
 | v :: l => renL f v :: renLL f l
def refsLL : List (List AV) → List Nat
 | [] => []
 | v :: l => refsL v ++ refsLL l
def renM (f : Nat → Option Nat) : List (Int × List AV) → List (Int × List AV)
 | [] => []
 | v :: l => (v.1, renL f v.2) :: renM f l
def refsM : List (Int × List AV) → List Nat
 | [] => []
 | v :: l => refsL v.2 ++ refsM l
def Rows.refs : Rows → List Nat
 | .gen _ l => refsLL l
 | .mg l => refsM l
 | _ => []
def Rows.ren (f : Nat → Option Nat) : Rows → Rows
 | .gen sz l => .gen sz (renLL f l)
 | .mg l => .mg (renM f l)
 | r => r
def Cell.ren (f : Nat → Option Nat) (c : Cell) : Cell := ⟨c.wr, c.sl, c.nn, c.elem, c.rows.ren f⟩
def Cell.renRo (f : Nat → Option Nat) (c : Cell) : Cell := ⟨false, c.sl, c.nn, c.elem, c.rows.ren f⟩
def cellAt (h : Heap) (b : Nat) : Option Cell := match h[b]? with | some (some c) => some c | _ => none
def memB (b : Nat) : List Nat → Bool
 | [] => false
 | x :: l => bif Nat.beq x b then true else memB b l
def idx (b : Nat) : List Nat → Option Nat
 | [] => none
 | x :: l => bif Nat.beq x b then some 0 else (match idx b l with | some i => some (i + 1) | none => none)
def reach (h : Heap) (np : Nat) : Nat → List Nat → List Nat → List Nat
 | 0, _, done => done
 | _ + 1, [], done => done
 | n + 1, b :: todo, done =>
  bif Nat.blt b np || memB b done then reach h np n todo done else
  match cellAt h b with
  | some c => reach h np n (c.rows.refs ++ todo) (done ++ [b])
  | none => reach h np n todo done
structure St where
 env : List AV
 h : Heap
def envGet (e : List AV) (t : Nat) : AV := match e[t]? with | some v => v | none => .dead
def put (e : List AV) (d : Option Tmp) (v : AV) : List AV := match d with | some t => e.set t v | none => e
def mask (live : List Nat) : Nat → List AV → List AV
 | _, [] => []
 | i, v :: l => (bif memB i live then v else .dead) :: mask live (i + 1) l
def renHeap (f : Nat → Option Nat) : Heap → Heap
 | [] => []
 | some c :: l => some (c.ren f) :: renHeap f l
 | none :: l => none :: renHeap f l
def pickHeap (f : Nat → Option Nat) (h : Heap) : List Nat → Heap
 | [] => []
 | b :: l => (match cellAt h b with | some c => some (c.ren f) | none => none) :: pickHeap f h l
def heapRefs : Heap → List Nat
 | [] => []
 | some c :: l => c.rows.refs ++ heapRefs l
 | none :: l => heapRefs l
def gcMap (n0 : Nat) (perm : List Nat) (b : Nat) : Option Nat := bif Nat.blt b n0 then some b else (match idx b perm with | some i => some (n0 + i) | none => none)
def gc (n0 : Nat) (env : List AV) (h : Heap) : St :=
 let base := h.take n0
 let perm := reach h n0 200 (refsL env ++ heapRefs base) []
 let f := gcMap n0 perm
 ⟨renL f env, renHeap f base ++ pickHeap f h perm⟩
inductive Ex where
 | normal
 | exit (id : Nat)
 | goto (l : Nat)
 | ret
def absConst : Value → AV
 | .bool b => .bool b
 | .int k n => .int k n
 | .slice none 0 0 => .nils
 | .pointer none => .nilp
 | .nilFunc => .nilfn
 | .nilIface => .nilif
 | _ => .dead
def evalO (e : List AV) : Operand → AV
 | .tmp t => envGet e t
 | .const v => absConst v
 | .func f => .fn (.func f) [] []
 | .global _ => .dead
def constRow : List Value → List AV
 | [] => []
 | v :: l => absConst v :: constRow l
def evalAll (e : List AV) : List Operand → List AV
 | [] => []
 | x :: l => evalO e x :: evalAll e l
def evalParts (e : List AV) : List (Nat × Operand) → List (Nat × AV)
 | [] => []
 | (i, x) :: l => (i, evalO e x) :: evalParts e l
inductive Fx where
 | nilT (t : Nat) (e : TypeId)
 | nilC (b o : Nat) (e : TypeId)
 | view (t : Nat)
 | mvT (t : Nat)
 | mvC (b o : Nat)
 | limT (t b : Nat)
 | partC (b o : Nat)
structure LAnn where
 sym : Bool
 live : List Nat
 out : List Nat
 fx : List Fx
structure Kinds where
 code : TypeId → Option TC
 eq : TypeId → List AV → List AV → Option Bool
 ann : FuncId → Nat → LAnn
 inl : FuncId → Bool
 inlC : FuncId → List AV → Bool
 qt : FuncId → Bool
 qs : FuncId → Nat → Bool
 meth : TypeId → String → Option FuncId
 wb : FuncId → Nat → List Nat
section
variable (P : Program) (K : Kinds)
def isAggT (t : TypeId) : Bool := match P.underlying t with | some (.struct _) => true | some (.array _ _) => true | _ => false
def sizeT (t : TypeId) : Option Nat := match P.info? t with | some i => some i.size | none => none
def zeroRow (t : TypeId) : Option (List AV) := match P.info? t with
 | some i => (match i.zero with
  | some v => bif v.cells.toList.all Value.oneCell' then some (constRow v.cells.toList) else none
  | none => none)
 | none => none
def cellsOf : AV → Option (List AV)
 | .agg l => some l
 | .tup _ => none
 | .dead => none
 | v => some [v]
def ofRow (t : TypeId) (row : List AV) : Option AV := match isAggT P t with
 | true => some (.agg row)
 | false => (match row with | [v] => some v | _ => none)
def cellsIf (agg : Bool) (v : AV) : Option (List AV) := match agg, v with
 | true, .agg l => some l
 | true, _ => none
 | false, .agg _ => none
 | false, v => cellsOf v
def eqB (a b : Bool) : Bool := match a, b with
 | true, true => true
 | false, false => true
 | _, _ => false
def codeT : Option TC → List (List AV) → Nat → Option Rows
 | some c, l, _ => (match unRows c l with | some r => some (.typ c r) | none => none)
 | none, l, sz => some (.gen sz l)
variable {R : Type}
def opLoad (t : TypeId) (a : AV) (h : Heap) (k : AV → Option R) : Option R :=
 match a with
 | .ptr b i o => (match cellAt h b with
  | none => none
  | some c => bif (P.underlying t).isNone then none else c.rows.get b i fun row =>
   match isAggT P t with
   | true => (match sizeT P t with
    | none => none
    | some n => bif Nat.ble (o + n) row.length then k (.agg ((row.drop o).take n)) else none)
   | false => (match row[o]? with
    | some v => k v
    | none => none))
 | _ => none
def patch (row : List AV) (o : Nat) (cs : List AV) : Option (List AV) :=
 bif Nat.ble (o + cs.length) row.length then some (row.take o ++ (cs ++ row.drop (o + cs.length))) else none
def opStore (t : TypeId) (a v : AV) (h : Heap) (k : Heap → Option R) : Option R :=
 match a, cellsOf v, sizeT P t with
 | .ptr b i o, some cs, some n => bif Nat.beq cs.length n then (match cellAt h b with
  | none => none
  | some c => bif c.wr then c.rows.get b i fun row =>
   (match patch row o cs with
   | none => none
   | some row => c.rows.set i row fun rows => k (h.set b (some ⟨c.wr, c.sl, c.nn, c.elem, rows⟩)))
   else none) else none
 | _, _, _ => none
def opNew (row : List AV) (h : Heap) (k : AV → Heap → Option R) : Option R :=
 k (.ptr h.length 0 0) (h ++ [some ⟨true, false, false, 0, .gen row.length [row]⟩])
def placesT (t : TypeId) : Option (List (Nat × Nat)) := match P.underlying t with
 | some (.struct fs) => fs.toList.mapM fun f => (P.info? f.type).map fun i => (f.offset, i.size)
 | _ => none
def fillRow (fs : Nat → Option (Nat × Nat)) (row : List AV) : List (Nat × AV) → Option (List AV)
 | [] => some row
 | (i, v) :: l => match fs i, cellsOf v with
  | some (o, n), some cs => bif Nat.beq cs.length n then (match patch row o cs with | some row => fillRow fs row l | none => none) else none
  | _, _ => none
def opBuild (t : TypeId) (parts : List (Nat × AV)) : Option AV :=
 match P.underlying t with
 | some (.struct _) => (match zeroRow P t, placesT P t with
  | some z, some fs => (match fillRow (fun i => fs[i]?) z parts with | some row => some (.agg row) | none => none)
  | _, _ => none)
 | some (.array _ e) => (match zeroRow P t, sizeT P e with
  | some z, some s => (match fillRow (fun i => some (i * s, s)) z parts with | some row => some (.agg row) | none => none)
  | _, _ => none)
 | _ => none
def replRow (z : List AV) : Nat → List (List AV)
 | 0 => []
 | n + 1 => z :: replRow z n
def fillRows (sz : Nat) (rows : List (List AV)) : List (Nat × AV) → Option (List (List AV))
 | [] => some rows
 | (i, v) :: l => match cellsOf v with
  | some cs => bif Nat.beq cs.length sz && Nat.blt i rows.length then fillRows sz (rows.set i cs) l else none
  | none => none
def opBuildSlice (t : TypeId) (len : Nat) (parts : List (Nat × AV)) (h : Heap) (k : AV → Heap → Option R) : Option R :=
 match P.underlying t with
 | some (.slice e) => (match zeroRow P e, sizeT P e with
  | some z, some s => bif Nat.beq z.length s && Nat.ble (len * s) 1000 && Nat.ble len 1000 then (match fillRows s (replRow z len) parts with
   | some rows => (match codeT (K.code e) rows s with
    | some r => k (.whole h.length) (h ++ [some ⟨true, true, true, e, r⟩])
    | none => none)
   | none => none) else none
  | _, _ => none)
 | _ => none
def opFieldAddr (s : TypeId) (a : AV) (f : Nat) : Option AV :=
 match a, P.underlying s with
 | .ptr b i o, some (.struct fs) => (match fs[f]? with
  | some fd => (match sizeT P fd.type with
   | some (_ + 1) => some (.ptr b i (o + fd.offset))
   | _ => none)
  | none => none)
 | _, _ => none
def opField (s : TypeId) (a : AV) (f : Nat) : Option AV :=
 match a, P.underlying s with
 | .agg l, some (.struct fs) => (match fs[f]? with
  | some fd => (match P.underlying fd.type, isAggT P fd.type, sizeT P fd.type with
   | some _, true, some n => bif Nat.ble (fd.offset + n) l.length then some (.agg ((l.drop fd.offset).take n)) else none
   | some _, false, _ => l[fd.offset]?
   | _, _, _ => none)
  | none => none)
 | _, _ => none
def lenOf (h : Heap) : AV → Option Nat
 | .whole b => (match cellAt h b with | some c => bif c.sl then some c.rows.len else none | none => none)
 | .part _ _ n => some n
 | .lim _ _ n => some n
 | .nils => some 0
 | _ => none
def upTo (n s : Nat) (j : Int) (k : Nat → Option R) : Option R := match n with
 | 0 => none
 | n + 1 => bif decide (j = s) then k s else upTo n (s + 1) j k
def opIndexAddr (t : TypeId) (x ix : AV) (h : Heap) (k : AV → Option R) : Option R :=
 match ix with
 | .int _ j => (match P.underlying t, x with
  | some (.slice e), .whole b => (match cellAt h b, sizeT P e with
   | some c, some s => bif c.sl && Nat.beq s c.rows.sz then (bif decide (0 ≤ j) && decide (j < c.rows.len) then k (.ptr b j.toNat 0) else none) else none
   | _, _ => none)
  | some (.slice e), .part b i n => (match cellAt h b, sizeT P e with
   | some c, some s => bif c.sl && Nat.beq s c.rows.sz then (bif decide (0 ≤ j) && decide (j < n) then k (.ptr b (i + j.toNat) 0) else none) else none
   | _, _ => none)
  | some (.slice e), .lim b i n => (match cellAt h b, sizeT P e with
   | some c, some s => bif c.sl && Nat.beq s c.rows.sz then (bif decide (0 ≤ j) && decide (j < n) then k (.ptr b (i + j.toNat) 0) else none) else none
   | _, _ => none)
  | some (.array n e), .ptr b i o => (match sizeT P e with
   | some s => upTo n 0 j fun m => k (.ptr b i (o + m * s))
   | none => none)
  | _, _ => none)
 | _ => none
def opIndex (t : TypeId) (x ix : AV) (k : AV → Option R) : Option R :=
 match ix, P.underlying t, x with
 | .int _ j, some (.array n e), .agg l => (match P.underlying e, isAggT P e, sizeT P e with
  | some _, true, some s => upTo n 0 j fun i => bif Nat.ble (i * s + s) l.length then k (.agg ((l.drop (i * s)).take s)) else none
  | some _, false, some s => upTo n 0 j fun i => (match l[i * s]? with | some v => k v | none => none)
  | _, _, _ => none)
 | _, _, _ => none
def bound (x : Option AV) (dflt : Nat) (most : Nat) (k : Nat → Option R) : Option R :=
 match x with
 | none => k dflt
 | some (.int _ j) => bif decide (0 ≤ j) && decide (j ≤ most) then k j.toNat else none
 | _ => none
def chop (r : List AV) : List (List AV) := match r with
 | [] => []
 | v :: l => [v] :: chop l
def opSlice (t : TypeId) (x : AV) (lo hi mx : Option AV) (h : Heap) (k : AV → Heap → Option R) : Option R :=
 match P.underlying t, x with
 | some (.slice e), .whole b => (match cellAt h b, sizeT P e with
  | some c, some s => bif c.sl && Nat.beq s c.rows.sz then bound mx c.rows.len c.rows.len fun m => bound hi c.rows.len m fun hi => bound lo 0 hi fun lo =>
   (match Nat.beq c.elem 0, mx with
   | true, _ => k (.lim b lo (hi - lo)) h
   | false, none => k (.part b lo (hi - lo)) h
   | false, some _ => k .dead h)
   else none
  | _, _ => none)
 | some (.slice e), .part b i n => (match cellAt h b, sizeT P e with
  | some c, some s => bif c.sl && Nat.beq s c.rows.sz then (match mx with
   | none => bif Nat.ble (i + n) c.rows.len then bound hi n (c.rows.len - i) fun hi => bound lo 0 hi fun lo => k (.part b (i + lo) (hi - lo)) h else none
   | some _ => bif Nat.ble (i + n) c.rows.len then bound mx n (c.rows.len - i) fun m => bound hi n m fun hi => bound lo 0 hi fun _ => k .dead h else none)
   else none
  | _, _ => none)
 | some (.slice e), .lim b i n => (match cellAt h b, sizeT P e with
  | some c, some s => bif c.sl && Nat.beq s c.rows.sz then bound mx n n fun m => bound hi n m fun hi => bound lo 0 hi fun lo => k (.lim b (i + lo) (hi - lo)) h else none
  | _, _ => none)
 | some (.array n e), .ptr b i o => (match sizeT P e, lo, hi, mx with
  | some 1, none, none, none => k (.arr b i o n) h
  | _, _, _, _ => none)
 | _, _ => none
def Rows.plain : Rows → Bool
 | .gen _ _ => true
 | .typ _ _ => true
 | _ => false
def rowsOf (h : Heap) (y : AV) (k : Option Rows → Option R) : Option R := match y with
 | .whole b => (match cellAt h b with | some c => bif c.sl && c.rows.plain then k (some c.rows) else none | none => none)
 | .part b i n => (match cellAt h b with | some c => bif c.sl && c.rows.plain then (bif Nat.ble (i + n) c.rows.len then k (some (c.rows.sub i n)) else none) else none | none => none)
 | .lim b i n => (match cellAt h b with | some c => bif c.sl && c.rows.plain then (bif Nat.ble (i + n) c.rows.len then k (some (c.rows.sub i n)) else none) else none | none => none)
 | .nils => k none
 | _ => none
def maxRows : Nat := 100000
def elemT (e : TypeId) : Option Nat := match P.info? e with
 | some i => (match i.zero with
  | some z => bif Nat.beq z.cells.size i.size && (Nat.blt 0 i.size && (Nat.ble i.bytes 1000000 && !Nat.beq e 0)) then some i.size else none
  | none => none)
 | none => none
def opAppend (t : TypeId) (x y : AV) (h : Heap) (k : AV → Heap → Option R) : Option R :=
 match P.underlying t with
 | some (.slice e) => (match elemT P e with
  | some s => rowsOf h y fun ys => (match x with
   | .whole b => (match cellAt h b with
    | some c => bif c.wr && c.sl && Nat.beq c.elem e && Nat.beq s c.rows.sz then (match ys with
     | some ys => (match c.rows.app ys with
      | some r => bif Nat.ble r.len maxRows then k (.whole h.length) (h.set b none ++ [some ⟨true, true, false, e, r⟩]) else none
      | none => none)
     | none => none) else none
    | none => none)
   | .part b i n => (match cellAt h b, ys with
    | some c, some ys => bif c.wr && c.sl && Nat.beq c.elem e && Nat.beq s c.rows.sz then (bif Nat.ble (i + n + ys.len) c.rows.len then (match c.rows.over (i + n) ys with
     | some r => k (.part b i (n + ys.len)) (h.set b (some ⟨true, true, c.nn, e, r⟩))
     | none => none) else none) else none
    | _, _ => none)
   | .nils => (match ys with
    | some ys => bif Nat.beq s ys.sz then (bif Nat.ble ys.len maxRows then k (.whole h.length) (h ++ [some ⟨true, true, false, e, ys⟩]) else none) else none
    | none => k .nils h)
   | _ => none)
  | none => none)
 | _ => none
def opClear (t : TypeId) (x : AV) (h : Heap) (k : Heap → Option R) : Option R :=
 match P.underlying t, x with
 | some (.slice e), .part b i n => (match cellAt h b, zeroRow P e, elemT P e with
  | some c, some z, some s => bif c.wr && c.sl && Nat.beq s c.rows.sz then (bif Nat.ble (i + n) c.rows.len then (match c.rows.zero i n z with
   | some r => k (h.set b (some ⟨c.wr, c.sl, c.nn, c.elem, r⟩))
   | none => none) else none) else none
  | _, _, _ => none)
 | _, _ => none
def evBits (op : BinOp) (k : IntKind) (x y : Int) : Option Int :=
 match op with
 | .and => some (k.wrap (BitVec.ofInt k.bits x &&& BitVec.ofInt k.bits y).toNat)
 | .or => some (k.wrap (BitVec.ofInt k.bits x ||| BitVec.ofInt k.bits y).toNat)
 | .xor => some (k.wrap (BitVec.ofInt k.bits x ^^^ BitVec.ofInt k.bits y).toNat)
 | .andNot => some (k.wrap (BitVec.ofInt k.bits x &&& ~~~BitVec.ofInt k.bits y).toNat)
 | _ => none
def isNil (h : Heap) : AV → Option Bool
 | .nils => some true
 | .whole b => (match cellAt h b with | some c => bif c.sl && c.nn then some false else none | none => none)
 | _ => none
def opBin (op : BinOp) (t : TypeId) (x y : AV) (h : Heap) (k : AV → Option R) : Option R :=
 match op, x, y with
 | .shl, .int kd a, .int _ b => bif decide (b < 0) then none else k (.int kd (kd.wrap (a * 2 ^ min b.toNat kd.bits)))
 | .shr, .int kd a, .int _ b => bif decide (b < 0) then none else k (.int kd (a.fdiv (2 ^ min b.toNat kd.bits)))
 | op, .int kd a, .int kd' b => (match decEq kd kd' with
  | .isFalse _ => none
  | .isTrue _ => (match op with
   | .add => k (.int kd (kd.wrap (a + b)))
   | .sub => k (.int kd (kd.wrap (a - b)))
   | .mul => k (.int kd (kd.wrap (a * b)))
   | .quo => bif decide (b = 0) then none else k (.int kd (kd.wrap (a.tdiv b)))
   | .rem => bif decide (b = 0) then none else k (.int kd (a.tmod b))
   | .eql => k (.bool (decide (a = b)))
   | .neq => k (.bool (!decide (a = b)))
   | .lss => k (.bool (decide (a < b)))
   | .leq => k (.bool (decide (a ≤ b)))
   | .gtr => k (.bool (decide (b < a)))
   | .geq => k (.bool (decide (b ≤ a)))
   | op => (match evBits op kd a b with | some n => k (.int kd n) | none => none)))
 | .eql, .bool a, .bool b => (match P.underlying t with | some .bool => k (.bool (a == b)) | _ => none)
 | .neq, .bool a, .bool b => (match P.underlying t with | some .bool => k (.bool (!(a == b))) | _ => none)
 | .eql, .agg a, .agg b => (match K.eq t a b with | some c => k (.bool c) | none => none)
 | .neq, .agg a, .agg b => (match K.eq t a b with | some c => k (.bool (!c)) | none => none)
 | .eql, x, .nils => (match P.underlying t, isNil h x with | some (.slice _), some b => k (.bool b) | _, _ => none)
 | _, _, _ => none
def opUn (op : UnOp) (x : AV) : Option AV :=
 match op, x with
 | .not, .bool b => some (.bool !b)
 | .neg, .int kd n => some (.int kd (kd.wrap (0 - n)))
 | _, _ => none
def opConv (dst : TypeId) (x : AV) : Option AV :=
 match P.underlying dst, x with
 | some (.int kd), .int _ n => some (.int kd (kd.wrap n))
 | _, _ => none
def opMakeMap (t : TypeId) (r : Option AV) (h : Heap) (k : AV → Heap → Option R) : Option R :=
 match P.underlying t, r with
 | some (.map _ e), none => (match K.code e with
  | some c => k (.mapv h.length) (h ++ [some ⟨true, false, isAggT P e, 0, .mp c []⟩])
  | none => k (.mapv h.length) (h ++ [some ⟨true, false, isAggT P e, 0, .mg []⟩]))
 | some (.map _ e), some (.int _ _) => (match K.code e with
  | some c => k (.mapv h.length) (h ++ [some ⟨true, false, isAggT P e, 0, .mp c []⟩])
  | none => k (.mapv h.length) (h ++ [some ⟨true, false, isAggT P e, 0, .mg []⟩]))
 | _, _ => none
def askM (l : List (Int × List AV)) (j : Int) (d : Option R) (k : List AV → Option R) : Option R := match l with
 | [] => d
 | x :: l => bif decide (j = x.1) then k x.2 else askM l j d k
def withOk (ok : Bool) (v : AV) (b : Bool) : AV := match ok with | true => .tup [v, .bool b] | false => v
def opLookup (t : TypeId) (x ix : AV) (ok : Bool) (h : Heap) (k : AV → Option R) : Option R :=
 match P.underlying t, x, ix with
 | some (.map key e), .mapv b, .int .i64 j => (match P.underlying key, P.underlying e, cellAt h b, zeroRow P e with
  | some (.int .i64), some _, some c, some z => bif eqB c.nn (isAggT P e) then (match c.rows with
   | .mp tc l => (match unRow tc z with
    | some z => k (withOk ok (valOf (isAggT P e) (rowOf tc ((getM l j).getD z))) (getM l j).isSome)
    | none => none)
   | .mg l => askM l j (k (withOk ok (valOf (isAggT P e) z) false)) fun row => k (withOk ok (valOf (isAggT P e) row) true)
   | _ => none) else none
  | _, _, _, _ => none)
 | _, _, _ => none
def opUpdate (t : TypeId) (x ix v : AV) (h : Heap) (k : Heap → Option R) : Option R :=
 match P.underlying t, x, ix with
 | some (.map key e), .mapv b, .int .i64 j => (match P.underlying key, cellAt h b, cellsIf (isAggT P e) v with
  | some (.int .i64), some c, some cs => bif c.wr && eqB c.nn (isAggT P e) then (match c.rows with
   | .mp tc l => (match unRow tc cs with
    | some y => k (h.set b (some ⟨c.wr, c.sl, c.nn, c.elem, .mp tc (putM l j y)⟩))
    | none => none)
   | .mg l => k (h.set b (some ⟨c.wr, c.sl, c.nn, c.elem, .mg (putM l j cs)⟩))
   | _ => none) else none
  | _, _, _ => none)
 | _, _, _ => none
def opDelete (t : TypeId) (x ix : AV) (h : Heap) (k : Heap → Option R) : Option R :=
 match P.underlying t, x, ix with
 | some (.map key _), .mapv b, .int .i64 j => (match P.underlying key, cellAt h b with
  | some (.int .i64), some c => bif c.wr then (match c.rows with
   | .mp tc l => k (h.set b (some ⟨c.wr, c.sl, c.nn, c.elem, .mp tc (delM l j)⟩))
   | _ => none) else none
  | _, _ => none)
 | _, _, _ => none
def isIface (t : TypeId) : Option Bool := match P.underlying t with
 | some (.interface _) => some true
 | some _ => some false
 | none => none
def opAssert (x : AV) (t : TypeId) (ok : Bool) : Option AV :=
 match isIface P t, x with
 | some false, .iface t' v => bif Nat.beq t' t then some (withOk ok v true) else (match ok, zeroRow P t with
  | true, some z => (match ofRow P t z with | some v => some (.tup [v, .bool false]) | none => none)
  | _, _ => none)
 | some false, .nilif => (match ok, zeroRow P t with
  | true, some z => (match ofRow P t z with | some v => some (.tup [v, .bool false]) | none => none)
  | _, _ => none)
 | _, _ => none
abbrev Orc (R : Type) := FuncId → List AV → Heap → (AV → Heap → Option R) → Option R
abbrev LOrc (R : Type) := FuncId → Nat → Nat → St → (Ex → St → Option R) → Option R
def opCall (orc : Orc R) (c : Call) (e : List AV) (h : Heap) (k : AV → Heap → Option R) : Option R :=
 match c.callee with
 | .value f => (match evalO e f with
  | .fn (.func f) first cap => orc f (first ++ (evalAll e c.args.toList ++ cap)) h k
  | _ => none)
 | .invoke r m => (match evalO e r with
  | .iface t v => (match K.meth t m with
   | some f => orc f (v :: evalAll e c.args.toList) h k
   | none => none)
  | _ => none)
 | .builtin b => (match b, evalAll e c.args.toList, c.argTypes.toList with
  | .len, [.mapv b], [t] => (match P.underlying t, cellAt h b with
   | some (.map _ _), some c => (match c.rows with
    | .mp _ l => k (I l.length) h
    | _ => none)
   | _, _ => none)
  | .len, [x], [t] => (match P.underlying t, lenOf h x with
   | some (.slice _), some n => k (I n) h
   | _, _ => none)
  | .append, [x, y], [t, t'] => bif Nat.beq t t' then opAppend P t x y h k else none
  | .clear, [x], [t] => opClear P t x h fun h => k (.tup []) h
  | .delete, [x, y], [t, _] => opDelete P t x y h fun h => k (.tup []) h
  | .max, [.int .i64 a, .int .i64 b], _ => k (I (max a b)) h
  | .min, [.int .i64 a, .int .i64 b], _ => k (I (min a b)) h
  | _, _, _ => none)
def evOp (orc : Orc R) (o : Oper) (e : List AV) (h : Heap) (k : AV → Heap → Option R) : Option R :=
 match o.op with
 | .move x => k (evalO e x) h
 | .assign x => k (evalO e x) h
 | .pick c a b => (match evalO e c with
  | .bool t => (match evalO e a, evalO e b with
   | .bool x, .bool y => k (.bool (bif t then x else y)) h
   | a, b => bif t then k a h else k b h)
  | _ => none)
 | .alloc t => (match zeroRow P t with | some row => opNew row h k | none => none)
 | .box _ x => (match cellsOf (evalO e x) with | some row => opNew row h k | none => none)
 | .build t ps => (match opBuild P t (evalParts e ps.toList) with | some v => k v h | none => none)
 | .buildSlice t n ps => opBuildSlice P K t n (evalParts e ps.toList) h k
 | .load t a => opLoad P t (evalO e a) h fun v => k v h
 | .store t a v => opStore P t (evalO e a) (evalO e v) h fun h => k (.tup []) h
 | .nilCheck x => (match evalO e x with
  | .ptr b i o => k (.ptr b i o) h
  | .fn (.func f) a c => k (.fn (.func f) a c) h
  | _ => none)
 | .binOp op t x y _ => opBin P K op t (evalO e x) (evalO e y) h fun v => k v h
 | .unOp op _ x => (match opUn op (evalO e x) with | some v => k v h | none => none)
 | .convert src dst x => bif (P.underlying src).isNone then none else (match opConv P dst (evalO e x) with | some v => k v h | none => none)
 | .makeFunc f a c => k (.fn f (evalAll e a.toList) (evalAll e c.toList)) h
 | .makeInterface t x => (match isIface P t with | some false => k (.iface t (evalO e x)) h | _ => none)
 | .typeAssert x _ t ok => (match opAssert P (evalO e x) t ok with | some v => k v h | none => none)
 | .makeMap t r => opMakeMap P K t (r.map (evalO e)) h k
 | .insert t m i v => opUpdate P t (evalO e m) (evalO e i) (evalO e v) h fun h => k (.tup []) h
 | .mapUpdate t m i v => opUpdate P t (evalO e m) (evalO e i) (evalO e v) h fun h => k (.tup []) h
 | .lookup t m i ok => opLookup P t (evalO e m) (evalO e i) ok h fun v => k v h
 | .slice t x lo hi mx => bif mx.isSome && hi.isNone then none else opSlice P t (evalO e x) (lo.map (evalO e)) (hi.map (evalO e)) (mx.map (evalO e)) h k
 | .fieldAddr s x f => (match opFieldAddr P s (evalO e x) f with | some v => k v h | none => none)
 | .field s x f => (match opField P s (evalO e x) f with | some v => k v h | none => none)
 | .indexAddr t x i => opIndexAddr P t (evalO e x) (evalO e i) h fun v => k v h
 | .index t x i => opIndex P t (evalO e x) (evalO e i) fun v => k v h
 | .extract t i => (match evalO e t with
  | .tup l => (match l[i]? with | some v => k v h | none => none)
  | _ => none)
 | .call c => opCall P K orc c e h k
 | _ => none
def guarded (ops : Array Oper) (o : Oper) (e : List AV) (yes : List AV → Option R) (no : List AV → Option R) : Option R :=
 match o.guard with
 | none => yes e
 | some (g, want) => (match (ops[g]?).bind (·.dst) with
  | none => none
  | some t => (match envGet e t with
   | .bool b => bif b then (match want with | true => yes (e.set t (.bool true)) | false => no (e.set t (.bool true)))
    else (match want with | true => no (e.set t (.bool false)) | false => yes (e.set t (.bool false)))
   | .tup _ => no e
   | _ => none))
def evOps (orc : Orc R) (ops : Array Oper) : List Oper → St → (St → Option R) → Option R
 | [], st, k => k st
 | o :: os, st, k => guarded ops o st.env (fun e => evOp P K orc o e st.h fun v h => evOps orc ops os ⟨put e o.dst v, h⟩ k)
  (fun e => evOps orc ops os ⟨put e o.dst (.tup []), st.h⟩ k)
inductive Kind where
 | pure | quiet | store | loud
 deriving DecidableEq
def kindOf (qs : Bool) (o : Oper) : Kind := match o.op with
 | .move _ | .assign _ | .pick .. | .build .. | .nilCheck _ | .unOp .. | .convert .. | .makeFunc .. | .makeInterface .. | .typeAssert .. | .fieldAddr .. | .field .. | .index .. | .extract .. => .pure
 | .alloc _ | .box .. | .buildSlice .. | .load .. | .lookup .. | .indexAddr .. | .binOp .. => .quiet
 | .store .. => .store
 | .slice t .. => (match P.underlying t with | some (.array _ _) => .quiet | _ => bif qs then .quiet else .loud)
 | .call c => (match c.callee with
  | .value (.func f) => bif K.inl f && !K.qt f then .loud else .quiet
  | .builtin .len => .quiet
  | .builtin .max => .pure
  | .builtin .min => .pure
  | _ => .loud)
 | _ => .loud
def aheadOf (acc : List Nat) (o : Oper) : Nat := o.after.toList.foldl (fun s e => bif Region.binds .any e then s ||| (2 ^ e.on ||| acc.getD e.on 0) else s) 0
def aheads : List Oper → List Nat → List Nat
 | [], acc => acc
 | o :: os, acc => aheads os (acc ++ [aheadOf acc o])
def kindsFit : Kind → Kind → Bool
 | .pure, _ => true
 | _, .pure => true
 | .quiet, .quiet => true
 | .quiet, .store => true
 | .store, .quiet => true
 | _, _ => false
def fitsAll (qs : Bool) (ops : Array Oper) (l : List Oper) (i : Nat) (oi : Oper) : List Nat → Nat → Bool
 | [], _ => true
 | a :: as, j => (match l with
  | [] => false
  | oj :: l => (a.testBit i || (oi.apart ops oj && kindsFit (kindOf P K qs oi) (kindOf P K qs oj))) && fitsAll qs ops l i oi as (j + 1))
def drawFits (qs : Bool) (ops : Array Oper) : List Oper → List Nat → Nat → Bool
 | o :: os, _ :: as, i => (o.after.toList.all fun e => !Region.binds .any e || Nat.blt e.on i) && (fitsAll P K qs ops os i o as (i + 1) && drawFits qs ops os as (i + 1))
 | _, _, _ => true
def looseStore (qs : Bool) (as : List Nat) (j : Nat) (mine : Nat) : List Oper → List Nat → Nat → Bool
 | o :: os, a :: rest, i => (match kindOf P K qs o with
  | .store => !(Nat.beq i j) && !(bif Nat.blt i j then mine.testBit i else a.testBit j)
  | _ => false) || looseStore qs as j mine os rest (i + 1)
 | _, _, _ => false
def looseQuiet (qs : Bool) (j : Nat) (mine : Nat) (t : Nat → Bool) : List Oper → List Nat → Nat → Bool
 | o :: os, a :: rest, i => (match kindOf P K qs o with
  | .quiet => !(Nat.beq i j) && (!(bif Nat.blt i j then mine.testBit i else a.testBit j) && t a)
  | _ => false) || looseQuiet qs j mine t os rest (i + 1)
 | _, _, _ => false
def storeFits (qs : Bool) (ops : List Oper) (as : List Nat) (n0 : Nat) (own : List Nat) (mine : Nat) (wb : List Nat) (j b : Nat) : Bool :=
 bif Nat.blt b n0 then !looseQuiet P K qs j mine (fun _ => true) ops as 0 || memB b wb
 else (match own[b - n0]? with
  | some c => mine.testBit c && !looseQuiet P K qs j mine (fun a => a.testBit c) ops as 0
  | none => false)
def seen (n0 : Nat) (own : List Nat) (mine : Nat) (wb : List Nat) (b : Nat) : Option Nat :=
 bif Nat.blt b n0 then (bif memB b wb then none else some b) else (match own[b - n0]? with
  | some i => bif mine.testBit i then some b else none
  | none => none)
def roHeap (f : Nat → Option Nat) : Nat → Heap → Heap
 | _, [] => []
 | i, some c :: l => (match f i with | some _ => some (c.renRo f) | none => none) :: roHeap f (i + 1) l
 | i, none :: l => none :: roHeap f (i + 1) l
def Rows.notOps : Rows → Bool
 | .ops _ => false
 | _ => true
def ownOnly : Heap → Heap
 | [] => []
 | some c :: l => (bif c.wr && c.rows.notOps then some c else none) :: ownOnly l
 | none :: l => none :: ownOnly l
def evDraw (qs : Bool) (orc : Orc R) (ops : Array Oper) (as : List Nat) (n0 : Nat) (wb : List Nat) : List Oper → Nat → List Nat → St → (St → Option R) → Option R
 | [], _, _, st, k => k st
 | o :: os, j, own, st, k =>
  let mine := as.getD j 0
  guarded ops o st.env
   (fun e => match kindOf P K qs o with
    | .quiet =>
     let f := seen n0 own mine (bif looseStore P K qs as j mine ops.toList as 0 then wb else [])
     evOp P K orc o (renL f e) (roHeap f 0 st.h) fun v h' =>
      let news := ownOnly (h'.drop st.h.length)
      evDraw qs orc ops as n0 wb os (j + 1) (own ++ List.replicate news.length j) ⟨put e o.dst v, st.h ++ news⟩ k
    | .store => (match o.op with
     | .store _ a _ => (match evalO e a with
      | .ptr b _ _ => bif storeFits P K qs ops.toList as n0 own mine wb j b then evOp P K orc o e st.h fun v h' => evDraw qs orc ops as n0 wb os (j + 1) own ⟨put e o.dst v, h'⟩ k else none
      | _ => none)
     | _ => none)
    | _ => evOp P K orc o e st.h fun v h' => evDraw qs orc ops as n0 wb os (j + 1) (own ++ List.replicate (h'.length - st.h.length) j) ⟨put e o.dst v, h'⟩ k)
   (fun e => evDraw qs orc ops as n0 wb os (j + 1) own ⟨put e o.dst (.tup []), st.h⟩ k)
def iter (body : St → (Ex → St → Option R) → Option R) (next out : St → St) : Nat → St → (Ex → St → Option R) → Option R
 | 0, _, _ => none
 | n + 1, st, k => body st fun e st => match e with
  | .normal => iter body next out n (next st) k
  | e => k e (out st)
def iterJ (l : Nat) (body : St → (Ex → St → Option R) → Option R) (next out : St → St) : Nat → St → (Ex → St → Option R) → Option R
 | 0, _, _ => none
 | n + 1, st, k => body st fun e st => match e with
  | .goto j => bif Nat.beq j l then iterJ l body next out n (next st) k else none
  | e => k e (out st)
def firstReg : Code → Nat
 | .region id _ _ => id
 | .seq .skip b => firstReg b
 | .seq a _ => firstReg a
 | .block _ c => firstReg c
 | .loop c => firstReg c
 | .scope c => firstReg c
 | .cond _ a _ => firstReg a
 | _ => 0
def gcL (live : List Nat) (n0 : Nat) (st : St) : St := gc n0 (mask live 0 st.env) st.h
def fx1 (x : Fx) (st : St) : St := match x with
 | .nilT t e => (match envGet st.env t with
  | .nils => (match K.code e, sizeT P e with
   | some c, some s => bif Nat.beq (width c) s then ⟨st.env.set t (.whole st.h.length), st.h ++ [some ⟨true, true, false, e, .typ c []⟩]⟩ else st
   | _, _ => st)
  | _ => st)
 | .nilC b o e => (match cellAt st.h b with
  | some ⟨wr, sl, nn, el, .gen sz [row]⟩ => (match row[o]?, K.code e, sizeT P e with
   | some .nils, some c, some s => bif Nat.beq (width c) s then ⟨st.env, st.h.set b (some ⟨wr, sl, nn, el, .gen sz [row.set o (.whole st.h.length)]⟩) ++ [some ⟨true, true, false, e, .typ c []⟩]⟩ else st
   | _, _, _ => st)
  | _ => st)
 | .view t => (match envGet st.env t with
  | .whole b => (match cellAt st.h b with
   | some ⟨wr, true, _, _, .typ c r⟩ => ⟨st.env.set t (.whole st.h.length), (bif wr then st.h.set b none else st.h) ++ [some ⟨false, true, false, 0, .typ c r⟩]⟩
   | _ => st)
  | _ => st)
 | .mvT t => (match envGet st.env t with
  | .whole b => (match cellAt st.h b with
   | some c => ⟨st.env.set t (.whole st.h.length), st.h.set b none ++ [some c]⟩
   | none => st)
  | _ => st)
 | .mvC b o => (match cellAt st.h b with
  | some ⟨wr, sl, nn, el, .gen sz [row]⟩ => (match row[o]? with
   | some (.whole b') => (match cellAt st.h b', Nat.beq b b' with
    | some c, false => ⟨st.env, (st.h.set b (some ⟨wr, sl, nn, el, .gen sz [row.set o (.whole st.h.length)]⟩)).set b' none ++ [some c]⟩
    | _, _ => st)
   | _ => st)
  | _ => st)
 | .limT t b0 => (match envGet st.env t with
  | .whole b => (match cellAt st.h b with
   | some ⟨_, true, _, _, .typ _ r⟩ => ⟨st.env.set t (.lim b 0 r.length), st.h⟩
   | _ => st)
  | .nils => (match cellAt st.h b0 with
   | some _ => ⟨st.env.set t (.lim b0 0 0), st.h⟩
   | none => st)
  | _ => st)
 | .partC b o => (match cellAt st.h b with
  | some ⟨wr, sl, nn, el, .gen sz [row]⟩ => (match row[o]? with
   | some (.whole b') => (match cellAt st.h b' with
    | some ⟨_, true, _, _, .typ _ r⟩ => ⟨st.env, st.h.set b (some ⟨wr, sl, nn, el, .gen sz [row.set o (.part b' 0 r.length)]⟩)⟩
    | _ => st)
   | _ => st)
  | _ => st)
def fxs : List Fx → St → St
 | [], st => st
 | x :: l, st => fxs l (fx1 P K x st)
def headL (a : LAnn) (n0 : Nat) (st : St) : St := gcL a.live n0 (fxs P K a.fx st)
def lf : Nat := 100000
def takeRes (e : List AV) (h : Heap) : List ResultVar → (List AV → Option R) → Option R
 | [], k => k []
 | .tmp t :: l, k => takeRes e h l fun vs => k (envGet e t :: vs)
 | .cell a t :: l, k => opLoad P t (envGet e a) h fun v => takeRes e h l fun vs => k (v :: vs)
def single : List AV → AV
 | [v] => v
 | l => .tup l
def deads : Nat → List AV
 | 0 => []
 | n + 1 => .dead :: deads n
def evIn (run : FuncId → Code → St → (Ex → St → Option R) → Option R) (f : FuncId) (args : List AV) (h : Heap) (k : AV → Heap → Option R) : Option R :=
 match P.funcs[f]? with
 | none => none
 | some fn => match fn.body with
  | none => none
  | some c => run f c ⟨args ++ deads (fn.ntmps - args.length), h⟩ fun e st =>
   match e with
   | .normal => takeRes P st.env st.h fn.results.toList fun vs => k (single vs) st.h
   | .ret => takeRes P st.env st.h fn.results.toList fun vs => k (single vs) st.h
   | _ => none
def ev (orc : Orc R) (lorc : LOrc R) : Nat → FuncId → Code → St → (Ex → St → Option R) → Option R
 | 0, _, _, _, _ => none
 | d + 1, f, c, st, k => match c with
  | .skip => k .normal st
  | .label _ => k .normal st
  | .seq a b => ev orc lorc d f a st fun e st => match e with
   | .normal => ev orc lorc d f b st k
   | e => k e st
  | .cond c a b => (match evalO st.env c with
   | .bool t => bif t then ev orc lorc d f a st k else ev orc lorc d f b st k
   | _ => none)
  | .block id c => ev orc lorc d f c st fun e st => match e with
   | .exit j => bif Nat.beq j id then k .normal st else k (.exit j) st
   | e => k e st
  | .loop c => (match (K.ann f (firstReg c)).sym with
   | true => lorc f (firstReg c) st.h.length (headL P K (K.ann f (firstReg c)) st.h.length st) k
   | false => iter (ev orc lorc d f c) (headL P K (K.ann f (firstReg c)) st.h.length) (gcL (K.ann f (firstReg c)).out st.h.length) lf (headL P K (K.ann f (firstReg c)) st.h.length st) k)
  | .scope c => ev orc lorc d f c st fun e st => match e with
   | .goto l => bif Nat.beq l 0 then (match findLabel c 0 with
    | some rest => lorc f (firstReg rest) st.h.length (headL P K (K.ann f (firstReg rest)) st.h.length st) k
    | none => none) else none
   | e => k e st
  | .exit id => k (.exit id) st
  | .goto l => k (.goto l) st
  | .ret => k .ret st
  | .region id ops draw => (match draw with
   | false => evOps P K (fun g args h k => bif K.inl g || K.inlC g args then evIn P (ev orc lorc d) g args h k else orc g args h k) ops ops.toList st fun st => k .normal st
   | true => bif drawFits P K (K.qs f id) ops ops.toList (aheads ops.toList []) 0 then
    evDraw P K (K.qs f id) (fun g args h k => bif K.inl g || K.inlC g args then evIn P (ev orc lorc d) g args h k else orc g args h k) ops (aheads ops.toList []) st.h.length (K.wb f id) ops.toList 0 [] st fun st => k .normal st
    else none)
  | _ => none
inductive C0 where
 | i | u | b
 | sl (c : TC)
 | mp (agg : Bool) (c : TC)
def C0.D : C0 → Type
 | .i | .u => Int
 | .b => Bool
 | .sl c => List (El c)
 | .mp _ c => List (Int × El c)
def DL : List C0 → Type
 | [] => Unit
 | c :: l => c.D × DL l
inductive PSh where
 | cell (c : C0)
 | el (c : TC)
 | agg (l : List C0)
 | clo (g : FuncId) (caps : List (List C0))
 | own (c : TC) (e : TypeId)
def DLL : List (List C0) → Type
 | [] => Unit
 | l :: ls => DL l × DLL ls
def PSh.D : PSh → Type
 | .cell c => c.D
 | .el c => El c
 | .agg l => DL l
 | .clo _ ls => DLL ls
 | .own c _ => List (El c)
def DA : List PSh → Type
 | [] => Unit
 | c :: l => c.D × DA l
def readSl (c : TC) (v : AV) (h : Heap) (k : List (El c) → Option R) : Option R := match v with
 | .nils => k []
 | .whole b => (match cellAt h b with
  | some ⟨_, true, _, _, .typ c' l⟩ => if e : c' = c then k (e ▸ l) else none
  | _ => none)
 | .part b i n => (match cellAt h b with
  | some ⟨_, true, _, _, .typ c' l⟩ => if e : c' = c then k (((e ▸ l : List (El c)).drop i).take n) else none
  | _ => none)
 | .lim b i n => (match cellAt h b with
  | some ⟨_, true, _, _, .typ c' l⟩ => if e : c' = c then k (((e ▸ l : List (El c)).drop i).take n) else none
  | _ => none)
 | .arr b i o n => (match cellAt h b with
  | some cl => cl.rows.get b i fun row => bif Nat.ble (o + n) row.length then (match unRows c (chop ((row.drop o).take n)) with | some l => k l | none => none) else none
  | none => none)
 | .inn b i => (match cellAt h b, c with
  | some ⟨_, _, _, _, .ops l⟩, .int => (match l[i]? with | some x => k x.D | none => none)
  | _, _ => none)
 | _ => none
def readC (c : C0) (v : AV) (h : Heap) (k : c.D → Option R) : Option R := match c, v with
 | .i, .int .i64 n => k n
 | .u, .int .u64 n => k n
 | .b, .bool b => k b
 | .sl c, v => readSl c v h k
 | .mp agg c, .mapv b => (match cellAt h b with
  | some ⟨_, _, nn, _, .mp c' l⟩ => bif eqB nn agg then (if e : c' = c then k (e ▸ l) else none) else none
  | _ => none)
 | _, _ => none
def readL : (l : List C0) → List AV → Heap → (DL l → Option R) → Option R
 | [], [], _, k => k ()
 | c :: l, v :: vs, h, k => readC c v h fun x => readL l vs h fun y => k (x, y)
 | _, _, _, _ => none
def readLL : (l : List (List C0)) → List AV → Heap → (DLL l → Option R) → Option R
 | [], [], _, k => k ()
 | c :: l, .ptr b 0 0 :: vs, h, k => (match cellAt h b with
  | some ⟨_, _, _, _, .gen _ [row]⟩ => readL c row h fun x => readLL l vs h fun y => k (x, y)
  | _ => none)
 | _, _, _, _ => none
def readP (c : PSh) (v : AV) (h g : Heap) (k : c.D → Option R) : Option R := match c, v with
 | .cell c, v => readC c v g k
 | .el c, .agg row => (match unRow c row with | some x => k x | none => none)
 | .agg l, .agg row => readL l row g k
 | .clo t ls, .fn (.func f) [] cs => bif Nat.beq f t then readLL ls cs g k else none
 | .own c e, .whole b => (match cellAt h b with
  | some ⟨true, true, _, e', .typ c' l⟩ => bif Nat.beq e' e then (if q : c' = c then k (q ▸ l) else none) else none
  | _ => none)
 | _, _ => none
def killOwn (c : PSh) (v : AV) (h : Heap) : Heap := match c, v with
 | .own _ _, .whole b => h.set b none
 | _, _ => h
def readA : (l : List PSh) → List AV → Heap → Heap → (DA l → Option R) → Option R
 | [], [], _, _, k => k ()
 | c :: l, v :: vs, h, g, k => readP c v h g fun x => readA l vs (killOwn c v h) g fun y => k (x, y)
 | _, _, _, _, _ => none
def layC (c : C0) (x : c.D) (n : Nat) : AV × Heap := match c, x with
 | .i, n => (I n, [])
 | .u, n => (.int .u64 n, [])
 | .b, b => (.bool b, [])
 | .sl c, l => (.whole n, [some ⟨false, true, false, 0, .typ c l⟩])
 | .mp agg c, l => (.mapv n, [some ⟨false, false, agg, 0, .mp c l⟩])
def layL : (l : List C0) → DL l → Nat → List AV × Heap
 | [], _, _ => ([], [])
 | c :: l, x, n => (((layC c x.1 n).1 :: (layL l x.2 (n + (layC c x.1 n).2.length)).1), (layC c x.1 n).2 ++ (layL l x.2 (n + (layC c x.1 n).2.length)).2)
def layLL : (l : List (List C0)) → DLL l → Nat → List AV × Heap
 | [], _, _ => ([], [])
 | c :: l, x, n =>
  ((.ptr (n + (layL c x.1 n).2.length) 0 0 :: (layLL l x.2 (n + (layL c x.1 n).2.length + 1)).1),
   (layL c x.1 n).2 ++ some ⟨false, false, false, 0, .gen c.length [(layL c x.1 n).1]⟩ :: (layLL l x.2 (n + (layL c x.1 n).2.length + 1)).2)
def layP (c : PSh) (x : c.D) (n : Nat) : AV × Heap := match c, x with
 | .cell c, x => layC c x n
 | .el c, x => (.agg (rowOf c x), [])
 | .agg l, x => (.agg (layL l x n).1, (layL l x n).2)
 | .clo g ls, x => (.fn (.func g) [] (layLL ls x n).1, (layLL ls x n).2)
 | .own c e, l => (.whole n, [some ⟨true, true, false, e, .typ c l⟩])
def layA : (l : List PSh) → DA l → Nat → List AV × Heap
 | [], _, _ => ([], [])
 | c :: l, x, n => (((layP c x.1 n).1 :: (layA l x.2 (n + (layP c x.1 n).2.length)).1), (layP c x.1 n).2 ++ (layA l x.2 (n + (layP c x.1 n).2.length)).2)
inductive RC where
 | i | u | b
 | own (c : TC) (e : TypeId)
 | ro (c : TC)
def RC.D : RC → Type
 | .i | .u => Int
 | .b => Bool
 | .own c _ | .ro c => List (El c)
def RL : List RC → Type
 | [] => Unit
 | [c] => c.D
 | c :: d :: l => c.D × RL (d :: l)
inductive R1 where
 | cell (c : RC)
 | el (c : TC)
 | agg (l : List RC)
def R1.D : R1 → Type
 | .cell c => c.D
 | .el c => El c
 | .agg l => RL l
def DR : List R1 → Type
 | [] => Unit
 | [c] => c.D
 | c :: d :: l => c.D × DR (d :: l)
def tellC (c : RC) (v : AV) (h : Heap) (used : List Nat) (k : c.D → List Nat → Option R) : Option R := match c, v with
 | .i, .int .i64 n => k n used
 | .u, .int .u64 n => k n used
 | .b, .bool b => k b used
 | .own c e, .whole b => (match cellAt h b with
  | some ⟨true, true, _, e', .typ c' l⟩ => bif Nat.beq e' e && !memB b used then (if e : c' = c then k (e ▸ l) (b :: used) else none) else none
  | _ => none)
 | .own c e, .part b 0 n => (match cellAt h b with
  | some ⟨true, true, _, e', .typ c' l⟩ => bif Nat.beq e' e && (!memB b used && Nat.ble n l.length) then (if e : c' = c then k ((e ▸ l : List (El c)).take n) (b :: used) else none) else none
  | _ => none)
 | .own _ _, .nils => k [] used
 | .ro c, .whole b => (match cellAt h b with
  | some ⟨true, true, _, _, .typ c' l⟩ => bif !memB b used then (if e : c' = c then k (e ▸ l) (b :: used) else none) else none
  | _ => none)
 | .ro c, .part b i n => (match cellAt h b with
  | some ⟨true, true, _, _, .typ c' l⟩ => bif !memB b used then (if e : c' = c then k (((e ▸ l : List (El c)).drop i).take n) (b :: used) else none) else none
  | _ => none)
 | .ro _, .nils => k [] used
 | _, _ => none
def tellL : (l : List RC) → List AV → Heap → List Nat → (RL l → List Nat → Option R) → Option R
 | [], [], _, u, k => k () u
 | [c], [v], h, u, k => tellC c v h u k
 | c :: d :: l, v :: vs, h, u, k => tellC c v h u fun x u => tellL (d :: l) vs h u fun y u => k (x, y) u
 | _, _, _, _, _ => none
def tell1 (c : R1) (v : AV) (h : Heap) (u : List Nat) (k : c.D → List Nat → Option R) : Option R := match c, v with
 | .cell c, v => tellC c v h u k
 | .el c, .agg row => (match unRow c row with | some x => k x u | none => none)
 | .agg l, .agg row => tellL l row h u k
 | _, _ => none
def tellR : (l : List R1) → List AV → Heap → List Nat → (DR l → List Nat → Option R) → Option R
 | [], [], _, u, k => k () u
 | [c], [v], h, u, k => tell1 c v h u k
 | c :: d :: l, v :: vs, h, u, k => tell1 c v h u fun x u => tellR (d :: l) vs h u fun y u => k (x, y) u
 | _, _, _, _, _ => none
def handC (c : RC) (x : c.D) (n : Nat) : AV × Heap := match c, x with
 | .i, n => (I n, [])
 | .u, n => (.int .u64 n, [])
 | .b, b => (.bool b, [])
 | .own c e, l => (.whole n, [some ⟨true, true, false, e, .typ c l⟩])
 | .ro c, l => (.whole n, [some ⟨true, true, false, 0, .typ c l⟩])
def handL : (l : List RC) → RL l → Nat → List AV × Heap
 | [], _, _ => ([], [])
 | [c], x, n => ([(handC c x n).1], (handC c x n).2)
 | c :: d :: l, x, n => (((handC c x.1 n).1 :: (handL (d :: l) x.2 (n + (handC c x.1 n).2.length)).1), (handC c x.1 n).2 ++ (handL (d :: l) x.2 (n + (handC c x.1 n).2.length)).2)
def hand1 (c : R1) (x : c.D) (n : Nat) : AV × Heap := match c, x with
 | .cell c, x => handC c x n
 | .el c, x => (.agg (rowOf c x), [])
 | .agg l, x => (.agg (handL l x n).1, (handL l x n).2)
def handR : (l : List R1) → DR l → Nat → List AV × Heap
 | [], _, _ => ([], [])
 | [c], x, n => ([(hand1 c x n).1], (hand1 c x n).2)
 | c :: d :: l, x, n => (((hand1 c x.1 n).1 :: (handR (d :: l) x.2 (n + (hand1 c x.1 n).2.length)).1), (hand1 c x.1 n).2 ++ (handR (d :: l) x.2 (n + (hand1 c x.1 n).2.length)).2)
structure Sig where
 args : List PSh
 res : List R1
def useUp : List PSh → List AV → Heap → Heap
 | c :: l, v :: vs, h => useUp l vs (killOwn c v h)
 | _, _, h => h
def contract (s : Sig) (F : DA s.args → Option (DR s.res)) (args : List AV) (h : Heap) (k : AV → Heap → Option R) : Option R :=
 readA s.args args h (useUp s.args args h) fun d => match F d with
  | none => none
  | some r => k (single (handR s.res r h.length).1) (useUp s.args args h ++ (handR s.res r h.length).2)
def resList : List R1 → AV → Option (List AV)
 | [], .tup [] => some []
 | [_], v => some [v]
 | _ :: _ :: _, .tup l => some l
 | _, _ => none
def evC {R' : List R1} (orc : Orc (DR R')) (lorc : LOrc (DR R')) (f : FuncId) (s : List PSh) (d : DA s) : Option (DR R') :=
 evIn P (ev P K orc lorc 400) f (layA s d 0).1 (layA s d 0).2 fun v h =>
  match resList R' v with
  | none => none
  | some vs => tellR R' vs h [] fun r _ => some r
end
def loopsIn : Code → List (Nat × Code)
 | .seq a b => loopsIn a ++ loopsIn b
 | .cond _ a b => loopsIn a ++ loopsIn b
 | .block _ c => loopsIn c
 | .loop c => (firstReg c, c) :: loopsIn c
 | .scope c => (match findLabel c 0 with | some r => [(firstReg r, r)] | none => []) ++ loopsIn c
 | _ => []
def findL (id : Nat) : List (Nat × Code) → Code
 | [] => .skip
 | x :: l => bif Nat.beq x.1 id then x.2 else findL id l
def loopOf (P : Program) (f : FuncId) (id : Nat) : Code := match P.funcs[f]? with
 | some fn => (match fn.body with | some c => findL id (loopsIn c) | none => .skip)
 | none => .skip
def annOf (f id : Nat) : List (Nat × Nat × LAnn) → LAnn
 | [] => ⟨false, [], [], []⟩
 | x :: l => bif Nat.beq x.1 f && Nat.beq x.2.1 id then x.2.2 else annOf f id l
def wbOf (f id : Nat) : List (Nat × Nat × List Nat) → List Nat
 | [] => []
 | x :: l => bif Nat.beq x.1 f && Nat.beq x.2.1 id then x.2.2 else wbOf f id l
def codeOf (t : Nat) : List (Nat × TC) → Option TC
 | [] => none
 | x :: l => bif Nat.beq x.1 t then some x.2 else codeOf t l
def methOf (t : Nat) (m : String) : List (Nat × String × Nat) → Option FuncId
 | [] => none
 | x :: l => bif Nat.beq x.1 t && (x.2.1 == m) then some x.2.2 else methOf t m l
def eqRow : List Bool → List AV → List AV → Option Bool
 | [], [], [] => some true
 | true :: s, .int k a :: l, .int k' b :: m => (match decEq k k', eqRow s l m with | .isTrue _, some r => some (decide (a = b) && r) | _, _ => none)
 | false :: s, .bool a :: l, .bool b :: m => (match eqRow s l m with | some r => some ((a == b) && r) | none => none)
 | _, _, _ => none
def eqShape (t : Nat) : List (Nat × List Bool) → Option (List Bool)
 | [] => none
 | x :: l => bif Nat.beq x.1 t then some x.2 else eqShape t l
def cloIs (i g : Nat) (args : List AV) : Bool := match args[i]? with
 | some (.fn (.func f) _ _) => Nat.beq f g
 | _ => false
def Orc.none {R : Type} : Orc R := fun _ _ _ _ => Option.none
theorem some_cond {α : Type} (c : Bool) (a b : α) : some (bif c then a else b) = (bif c then some a else some b) := by cases c <;> rfl
def fuel : Nat := 18446744073709551616
abbrev wI (n : Int) : Int := IntKind.i64.wrap n
abbrev wU (n : Int) : Int := IntKind.u64.wrap n
abbrev bits (op : BinOp) (k : IntKind) (x y : Int) : Int := (evBits op k x y).getD 0
abbrev shl (k : IntKind) (a b : Int) : Int := k.wrap (a * 2 ^ min b.toNat k.bits)
abbrev shr (k : IntKind) (a b : Int) : Int := a.fdiv (2 ^ min b.toNat k.bits)
structure SigIO where
 io : List RC
 args : List PSh
 res : List R1
section
variable {R : Type}
def readRC (c : RC) (v : AV) (h : Heap) (used : List Nat) (k : c.D → List Nat → Option R) : Option R := match c, v with
 | .i, .int .i64 n => k n used
 | .u, .int .u64 n => k n used
 | .b, .bool b => k b used
 | .own c e, .whole b => (match cellAt h b with
  | some ⟨true, true, _, e', .typ c' l⟩ => bif Nat.beq e' e && !memB b used then (if q : c' = c then k (q ▸ l) (b :: used) else none) else none
  | _ => none)
 | .ro c, v => readSl c v h fun l => k l used
 | _, _ => none
def readRL : (l : List RC) → List AV → Heap → List Nat → (RL l → List Nat → Option R) → Option R
 | [], [], _, u, k => k () u
 | [c], [v], h, u, k => readRC c v h u k
 | c :: d :: l, v :: vs, h, u, k => readRC c v h u fun x u => readRL (d :: l) vs h u fun y u => k (x, y) u
 | _, _, _, _, _ => none
end
def layRC (c : RC) (x : c.D) (n : Nat) : AV × Heap := match c, x with
 | .i, n => (I n, [])
 | .u, n => (.int .u64 n, [])
 | .b, b => (.bool b, [])
 | .own c e, l => (.whole n, [some ⟨true, true, false, e, .typ c l⟩])
 | .ro c, l => (.whole n, [some ⟨false, true, false, 0, .typ c l⟩])
def layRL : (l : List RC) → RL l → Nat → List AV × Heap
 | [], _, _ => ([], [])
 | [c], x, n => ([(layRC c x n).1], (layRC c x n).2)
 | c :: d :: l, x, n => (((layRC c x.1 n).1 :: (layRL (d :: l) x.2 (n + (layRC c x.1 n).2.length)).1), (layRC c x.1 n).2 ++ (layRL (d :: l) x.2 (n + (layRC c x.1 n).2.length)).2)
def killAll : List Nat → Heap → Heap
 | [], h => h
 | b :: l, h => killAll l (h.set b none)
def contractIO {R : Type} (s : SigIO) (F : RL s.io → DA s.args → Option (RL s.io × DR s.res)) (args : List AV) (h : Heap) (k : AV → Heap → Option R) : Option R :=
 match args with
 | .ptr b 0 0 :: args => (match cellAt h b with
  | some ⟨true, false, false, 0, .gen sz [row]⟩ => readRL s.io row h [b] fun x used => readA s.args args [] ((killAll used h).set b none) fun d => (match F x d with
   | none => none
   | some r => k (single (handR s.res r.2 (h.length + (handL s.io r.1 h.length).2.length)).1)
    ((killAll used h).set b (some ⟨true, false, false, 0, .gen sz [(handL s.io r.1 h.length).1]⟩) ++ ((handL s.io r.1 h.length).2 ++ (handR s.res r.2 (h.length + (handL s.io r.1 h.length).2.length)).2)))
  | _ => none)
 | _ => none
def evIO (P : Program) (K : Kinds) (s : SigIO) (orc : Orc (RL s.io × DR s.res)) (lorc : LOrc (RL s.io × DR s.res)) (f : FuncId) (x : RL s.io) (d : DA s.args) : Option (RL s.io × DR s.res) :=
 let l := layRL s.io x 1
 let a := layA s.args d (1 + l.2.length)
 evIn P (ev P K orc lorc 400) f (.ptr 0 0 0 :: a.1) (some ⟨true, false, false, 0, .gen s.io.length [l.1]⟩ :: (l.2 ++ a.2)) fun v h =>
  match cellAt h 0 with
  | some ⟨true, false, false, 0, .gen _ [row]⟩ => tellL s.io row h [] fun y u => (match resList s.res v with
   | none => none
   | some vs => tellR s.res vs h u fun r _ => some (y, r))
  | _ => none
def LOrc.none {R : Type} : LOrc R := fun _ _ _ _ _ => Option.none
inductive PV where
 | i | u | b
 | ptr (b i o : Nat)
 | whole (b : Nat)
 | part (b : Nat)
 | lim (b : Nat)
 | nils | nilp | nilfn | nilif
 | fn (f : FuncId) (caps : List Nat)
 | mapv (b : Nat)
 | dead
inductive PCell where
 | none
 | typ (wr sl nn : Bool) (e : TypeId) (c : TC)
 | mp (wr nn : Bool) (c : TC)
 | ops
 | gen (wr sl nn : Bool) (e : TypeId) (sz : Nat) (rows : List (List PV))
structure PSt where
 live : List Nat
 nt : Nat
 env : List PV
 heap : List PCell
def PV.D (T : Type) : PV → Type
 | .i | .u => Int × T
 | .b => Bool × T
 | .part _ => Nat × Nat × T
 | .lim _ => Nat × Nat × T
 | _ => T
def Dvs (T : Type) : List PV → Type
 | [] => T
 | p :: l => p.D (Dvs T l)
def Drs (T : Type) : List (List PV) → Type
 | [] => T
 | p :: l => Dvs (Drs T l) p
def PCell.D (T : Type) : PCell → Type
 | .typ _ _ _ _ c => List (El c) × T
 | .mp _ _ c => List (Int × El c) × T
 | .ops => List OpD × T
 | .gen _ _ _ _ _ rows => Drs T rows
 | .none => T
def Dh : List PCell → Type
 | [] => Unit
 | p :: l => p.D (Dh l)
def PSt.D (p : PSt) : Type := Dvs (Dh p.heap) p.env
section
variable {R : Type}
def natL : List Nat → List AV → Bool
 | [], [] => true
 | b :: l, .ptr b' 0 0 :: vs => Nat.beq b' b && natL l vs
 | _, _ => false
def readV {T : Type} (p : PV) (v : AV) (k : (T → p.D T) → Option R) : Option R := match p, v with
 | .i, .int .i64 n => k fun x => (n, x)
 | .u, .int .u64 n => k fun x => (n, x)
 | .b, .bool n => k fun x => (n, x)
 | .ptr b i o, .ptr b' i' o' => bif Nat.beq b' b && Nat.beq i' i && Nat.beq o' o then k fun x => x else none
 | .whole b, .whole b' => bif Nat.beq b' b then k fun x => x else none
 | .part b, .part b' i n => bif Nat.beq b' b then k fun x => (i, n, x) else none
 | .lim b, .lim b' i n => bif Nat.beq b' b then k fun x => (i, n, x) else none
 | .nils, .nils => k fun x => x
 | .nilp, .nilp => k fun x => x
 | .nilfn, .nilfn => k fun x => x
 | .nilif, .nilif => k fun x => x
 | .fn f cs, .fn (.func f') [] vs => bif Nat.beq f' f && natL cs vs then k fun x => x else none
 | .mapv b, .mapv b' => bif Nat.beq b' b then k fun x => x else none
 | .dead, .dead => k fun x => x
 | _, _ => none
def readVs {T : Type} : (p : List PV) → List AV → ((T → Dvs T p) → Option R) → Option R
 | [], [], k => k fun x => x
 | p :: l, v :: vs, k => readV p v fun f => readVs l vs fun g => k fun x => f (g x)
 | _, _, _ => none
def readRs {T : Type} : (p : List (List PV)) → List (List AV) → ((T → Drs T p) → Option R) → Option R
 | [], [], k => k fun x => x
 | p :: l, v :: vs, k => readVs p v fun f => readRs l vs fun g => k fun x => f (g x)
 | _, _, _ => none
def readCell {T : Type} (p : PCell) (c : Option Cell) (k : (T → p.D T) → Option R) : Option R := match p, c with
 | .none, none => k fun x => x
 | .typ wr sl nn e c, some ⟨wr', sl', nn', e', .typ c' l⟩ => bif eqB wr' wr && eqB sl' sl && eqB nn' nn && Nat.beq e' e then (if h : c' = c then k fun x => (h ▸ l, x) else none) else none
 | .mp wr nn c, some ⟨wr', false, nn', 0, .mp c' l⟩ => bif eqB wr' wr && eqB nn' nn then (if h : c' = c then k fun x => (h ▸ l, x) else none) else none
 | .ops, some ⟨false, true, false, 0, .ops l⟩ => k fun x => (l, x)
 | .gen wr sl nn e sz rows, some ⟨wr', sl', nn', e', .gen sz' l⟩ => bif eqB wr' wr && eqB sl' sl && eqB nn' nn && Nat.beq e' e && Nat.beq sz' sz then readRs rows l k else none
 | _, _ => none
def readH : (p : List PCell) → Heap → (Dh p → Option R) → Option R
 | [], [], k => k ()
 | p :: l, c :: cs, k => readCell p c fun f => readH l cs fun y => k (f y)
 | _, _, _ => none
end
def unEnv (live : List Nat) : Nat → List AV → Option (List AV)
 | _, [] => some []
 | i, v :: l => bif memB i live then (match unEnv live (i + 1) l with | some vs => some (v :: vs) | none => none)
  else (match v with | .dead => unEnv live (i + 1) l | _ => none)
def mkEnv (live : List Nat) : Nat → Nat → List AV → List AV
 | _, 0, _ => []
 | i, n + 1, vs => bif memB i live then (match vs with | v :: vs => v :: mkEnv live (i + 1) n vs | [] => .dead :: mkEnv live (i + 1) n []) else .dead :: mkEnv live (i + 1) n vs
def readS {R : Type} (p : PSt) (st : St) (k : p.D → Option R) : Option R :=
 bif Nat.beq st.env.length p.nt then (match unEnv p.live 0 st.env with
  | some vs => readVs p.env vs fun f => readH p.heap st.h fun y => k (f y)
  | none => none) else none
def layV {T : Type} (p : PV) (d : p.D T) : AV × T := match p, d with
 | .i, d => (I d.1, d.2)
 | .u, d => (.int .u64 d.1, d.2)
 | .b, d => (.bool d.1, d.2)
 | .ptr b i o, d => (.ptr b i o, d)
 | .whole b, d => (.whole b, d)
 | .part b, d => (.part b d.1 d.2.1, d.2.2)
 | .lim b, d => (.lim b d.1 d.2.1, d.2.2)
 | .nils, d => (.nils, d)
 | .nilp, d => (.nilp, d)
 | .nilfn, d => (.nilfn, d)
 | .nilif, d => (.nilif, d)
 | .fn f cs, d => (.fn (.func f) [] (cs.map fun b => .ptr b 0 0), d)
 | .mapv b, d => (.mapv b, d)
 | .dead, d => (.dead, d)
def layVs {T : Type} : (p : List PV) → Dvs T p → List AV × T
 | [], d => ([], d)
 | p :: l, d => ((layV p d).1 :: (layVs l (layV p d).2).1, (layVs l (layV p d).2).2)
def layRs {T : Type} : (p : List (List PV)) → Drs T p → List (List AV) × T
 | [], d => ([], d)
 | p :: l, d => ((layVs p d).1 :: (layRs l (layVs p d).2).1, (layRs l (layVs p d).2).2)
def layCell {T : Type} (p : PCell) (d : p.D T) : Option Cell × T := match p, d with
 | .none, d => (none, d)
 | .typ wr sl nn e c, d => (some ⟨wr, sl, nn, e, .typ c d.1⟩, d.2)
 | .mp wr nn c, d => (some ⟨wr, false, nn, 0, .mp c d.1⟩, d.2)
 | .ops, d => (some ⟨false, true, false, 0, .ops d.1⟩, d.2)
 | .gen wr sl nn e sz rows, d => (some ⟨wr, sl, nn, e, .gen sz (layRs rows d).1⟩, (layRs rows d).2)
def layH : (p : List PCell) → Dh p → Heap
 | [], _ => []
 | p :: l, d => (layCell p d).1 :: layH l (layCell p d).2
def layS (p : PSt) (d : p.D) : St := ⟨mkEnv p.live 0 p.nt (layVs p.env d).1, layH p.heap (layVs p.env d).2⟩
end Go.Abs
