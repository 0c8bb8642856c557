/-
  The small language: data, expressions, the IR and what it means. No Go and no program in sight.
  The symbolic executor: from a function's code to the IR. It runs on closed terms, in the kernel.
  What the executor's words say of the machine's: data, leaves, values, blocks, worlds.
  The executor's loads, stores and new blocks are the machine's.
  Equality of structs and arrays of numbers and bools, leaf by leaf.
-/
import Derived.WalkKit
import Derived.KernelRfl
import Derived.Laws.CopyRow
import Derived.Laws.StructEq
import Derived.ScopeJumps
import Derived.OrdersIn
import Derived.TacticsIn
import Derived.RangeFuncFrom
import Derived.RangeFuncCalls
namespace Go.Proofs.YtlihbielphcgbaaGreatDoor.Sx
open Go
set_option linter.unusedSimpArgs false
set_option linter.unusedVariables false

/-- Data: what a cell holds, without addresses. A slice: how many leaves an element has, and the elements' leaves. -/
inductive D where
  | b (x : Bool)
  | i (k : IntKind) (n : Int)
  | s (x : ByteArray)
  | f (g : FuncId)
  | sl (sz : Nat) (xs : List (List D))
  deriving Inhabited

/-- Expressions over variables (by level). -/
inductive Ex where
  | v (n : Nat)
  | c (d : D)
  | bin (op : BinOp) (x y : Ex)
  | un (op : UnOp) (x : Ex)
  | cv (k : IntKind) (x : Ex)
  | ite (c x y : Ex)
  | len (x : Ex)
  | inb (x i : Ex) (n : Nat)
  | rng (i : Ex) (n : Nat)
  | isk (i : Ex) (k : Nat)
  | eqt (g : Bool) (x y : Ex)
  | idx (x i : Ex) (j : Nat)
  | one (xs : List Ex)
  | cat (x y : Ex)
  | sub (x lo hi : Ex)
  | bnd (lo hi top : Ex)
  | put (x i : Ex) (j : Nat) (vs : List Ex)
  | mk (n : Ex) (zs : List Ex)
  | room (x : Ex) (bytes : Nat)
  | app (n : Nat) (x y : Ex)
  deriving Inhabited

def binD (op : BinOp) : D → D → Option D
  | .i k a, .i k' b =>
    match op with
    | .shl => if b < 0 then none else some (.i k (k.wrap (a * 2 ^ (min b.toNat k.bits))))
    | .shr => if b < 0 then none else some (.i k (a.fdiv (2 ^ (min b.toNat k.bits))))
    | _ =>
      if k = k' then
        match op with
        | .add => some (.i k (k.wrap (a + b)))
        | .sub => some (.i k (k.wrap (a - b)))
        | .mul => some (.i k (k.wrap (a * b)))
        | .quo => if b = 0 then none else some (.i k (k.wrap (a.tdiv b)))
        | .rem => if b = 0 then none else some (.i k (a.tmod b))
        | .and => some (.i k (k.wrap (BitVec.ofInt k.bits a &&& BitVec.ofInt k.bits b).toNat))
        | .or => some (.i k (k.wrap (BitVec.ofInt k.bits a ||| BitVec.ofInt k.bits b).toNat))
        | .xor => some (.i k (k.wrap (BitVec.ofInt k.bits a ^^^ BitVec.ofInt k.bits b).toNat))
        | .andNot => some (.i k (k.wrap (BitVec.ofInt k.bits a &&& ~~~ BitVec.ofInt k.bits b).toNat))
        | .eql => some (.b (a == b))
        | .neq => some (.b (a != b))
        | .lss => some (.b (decide (a < b)))
        | .leq => some (.b (decide (a ≤ b)))
        | .gtr => some (.b (decide (a > b)))
        | .geq => some (.b (decide (a ≥ b)))
        | _ => none
      else none
  | _, _ => none

def unD (op : UnOp) : D → Option D
  | .b x => match op with
    | .not => some (.b (!x))
    | _ => none
  | .i k n => match op with
    | .neg => some (.i k (k.wrap (0 - n)))
    | .xor => some (.i k (k.wrap (BitVec.ofInt k.bits (if k.signed then -1 else k.max) ^^^ BitVec.ofInt k.bits n).toNat))
    | _ => none
  | _ => none

/-- equality of two bools, or of two numbers of one kind -/
def eqtD (g : Bool) : D → D → Option D
  | .b x, .b y => if g then some (.b (x == y)) else none
  | .i k a, .i k' b => if g then none else if k = k' then some (.b (a == b)) else none
  | _, _ => none

def catD : D → D → Option D
  | .sl n a, .sl m b => if a.isEmpty then some (.sl m b) else if b.isEmpty then some (.sl n a) else if n = m then some (.sl n (a ++ b)) else none
  | _, _ => none

/-- rows of n leaves, appended to such: a slice without elements may be of whatever width -/
def appD (n : Nat) : D → D → Option D
  | .sl s a, .sl m b => if (s = n ∨ (s = 0 ∧ a.isEmpty)) ∧ (m = n ∨ b.isEmpty) then some (if b.isEmpty then .sl s a else .sl n (a ++ b)) else none
  | _, _ => none

def subD : D → D → D → Option D
  | .sl n a, .i _ lo, .i _ hi => if 0 ≤ lo ∧ lo ≤ hi ∧ hi ≤ a.length then some (.sl n ((a.take hi.toNat).drop lo.toNat)) else none
  | _, _, _ => none

def idxD (j : Nat) : D → D → Option D
  | .sl _ a, .i _ m => if 0 ≤ m then (a[m.toNat]?).bind (·[j]?) else none
  | _, _ => none

/-- new leaves over old ones, from the leaf j on -/
def over {α : Type} (old : List α) (j : Nat) (new : List α) : List α := old.take j ++ new ++ old.drop (j + new.length)

def putD (j : Nat) (vs : List D) : D → D → Option D
  | .sl n a, .i _ m =>
    if 0 ≤ m then
      match a[m.toNat]? with
      | some r => if j + vs.length ≤ r.length then some (.sl n (a.set m.toNat (over r j vs))) else none
      | none => none
    else none
  | _, _ => none

def inbD (n : Nat) : D → D → Option D
  | .sl sz a, .i _ m => some (.b (sz == n && decide (0 ≤ m) && decide (m < a.length)))
  | _, _ => none

mutual
def Ex.eval (ρ : List D) : Ex → Option D
  | .v n => ρ[n]?
  | .c d => some d
  | .bin op x y => match x.eval ρ, y.eval ρ with
    | some a, some b => binD op a b
    | _, _ => none
  | .un op x => match x.eval ρ with
    | some a => unD op a
    | _ => none
  | .cv k x => match x.eval ρ with
    | some (.i _ n) => some (.i k (k.wrap n))
    | _ => none
  | .ite q x y => match q.eval ρ with
    | some (.b t) => if t then x.eval ρ else y.eval ρ
    | _ => none
  | .len x => match x.eval ρ with
    | some (.sl _ xs) => some (.i .i64 xs.length)
    | _ => none
  | .inb x i n => match x.eval ρ, i.eval ρ with
    | some a, some b => inbD n a b
    | _, _ => none
  | .rng i n => match i.eval ρ with
    | some (.i _ m) => some (.b (decide (0 ≤ m) && decide (m < n)))
    | _ => none
  | .isk i k => match i.eval ρ with
    | some (.i _ m) => some (.b (m == k))
    | _ => none
  | .eqt g x y => match x.eval ρ, y.eval ρ with
    | some a, some b => eqtD g a b
    | _, _ => none
  | .idx x i j => match x.eval ρ, i.eval ρ with
    | some a, some b => idxD j a b
    | _, _ => none
  | .one xs => match Ex.evals ρ xs with
    | some ds => some (.sl ds.length [ds])
    | none => none
  | .cat x y => match x.eval ρ, y.eval ρ with
    | some a, some b => catD a b
    | _, _ => none
  | .sub x lo hi => match x.eval ρ, lo.eval ρ, hi.eval ρ with
    | some a, some b, some e => subD a b e
    | _, _, _ => none
  | .bnd lo hi top => match lo.eval ρ, hi.eval ρ, top.eval ρ with
    | some (.i _ a), some (.i _ b), some (.i _ e) => some (.b (decide (0 ≤ a) && decide (a ≤ b) && decide (b ≤ e)))
    | _, _, _ => none
  | .put x i j vs => match x.eval ρ, i.eval ρ, Ex.evals ρ vs with
    | some a, some b, some ds => putD j ds a b
    | _, _, _ => none
  | .mk n zs => match n.eval ρ, Ex.evals ρ zs with
    | some (.i _ m), some ds => if 0 ≤ m then some (.sl ds.length (List.replicate m.toNat ds)) else none
    | _, _ => none
  | .room x bytes => match x.eval ρ with
    | some (.i _ m) => some (.b (decide (0 ≤ m) && decide (m * bytes ≤ 2 ^ 40)))
    | _ => none
  | .app n x y => match x.eval ρ, y.eval ρ with
    | some a, some b => appD n a b
    | _, _ => none
def Ex.evals (ρ : List D) : List Ex → Option (List D)
  | [] => some []
  | x :: xs => match x.eval ρ, Ex.evals ρ xs with
    | some d, some ds => some (d :: ds)
    | _, _ => none
end

/-- A value of data: is it a struct (or an array), and its leaves. -/
abbrev DV := Bool × List D
/-- A value of expressions. -/
abbrev XV := Bool × List Ex
/-- How a call's results look: for each one: is it a struct, and how many leaves has it. -/
abbrev Shape := List (Bool × Nat)

def evalVs (ρ : List D) : List XV → Option (List DV)
  | [] => some []
  | (g, xs) :: r => match Ex.evals ρ xs, evalVs ρ r with
    | some ds, some vs => some ((g, ds) :: vs)
    | _, _ => none

def leavesOf : List DV → List D
  | [] => []
  | (_, ds) :: r => ds ++ leavesOf r

def shapeOf : List DV → Shape
  | [] => []
  | (g, ds) :: r => (g, ds.length) :: shapeOf r

/-- A function's code, as the symbolic executor leaves it. -/
inductive IR where
  | ret (vs : List XV)
  | ite (c : Ex) (x y : IR)
  | chk (c : Ex) (x : IR)
  | lt (e : Ex) (x : IR)
  | call (f : FuncId) (args : List XV) (sh : Shape) (x : IR)
  | may (c : Ex) (x y : IR)
  | loop (init : List Ex) (body : IR)
  | cont (l : Nat) (vs : List Ex)
  | jn (body main : IR)
  deriving Inhabited

abbrev Con := FuncId → List DV → List DV → Prop
abbrev Lp := List D → Prop

/-- What the IR means: C: the callees' contracts; L: the loops around; R: what is asked of the results. -/
def IR.wp (C : Con) (R : List DV → Prop) : IR → List Lp → List D → Prop
  | .ret vs, _, ρ => ∃ rs, evalVs ρ vs = some rs ∧ R rs
  | .ite c x y, L, ρ => ∃ t, c.eval ρ = some (.b t) ∧ (t = true → IR.wp C R x L ρ) ∧ (t = false → IR.wp C R y L ρ)
  | .may c x y, L, ρ => ∃ t, c.eval ρ = some (.b t) ∧ (t = true → IR.wp C R x L ρ) ∧ IR.wp C R y L ρ
  | .chk c x, L, ρ => c.eval ρ = some (.b true) ∧ IR.wp C R x L ρ
  | .lt e x, L, ρ => ∃ d, e.eval ρ = some d ∧ IR.wp C R x L (ρ ++ [d])
  | .call f args sh x, L, ρ => ∃ as rs, evalVs ρ args = some as ∧ C f as rs ∧ shapeOf rs = sh ∧ IR.wp C R x L (ρ ++ leavesOf rs)
  | .loop init body, L, ρ => ∃ (n : Nat) (ds : List D), Ex.evals ρ init = some ds ∧
      Nat.rec (motive := fun _ => Lp) (fun _ => False) (fun _ Pn es => IR.wp C R body (L ++ [Pn]) (ρ ++ es)) n ds
  | .jn body main, L, ρ => IR.wp C R main (L ++ [fun es => IR.wp C R body L (ρ ++ es)]) ρ
  | .cont l vs, L, ρ => ∃ (Pn : Lp) (ds : List D), L[l]? = some Pn ∧ Ex.evals ρ vs = some ds ∧ Pn ds

end Go.Proofs.YtlihbielphcgbaaGreatDoor.Sx

namespace Go.Proofs.YtlihbielphcgbaaGreatDoor.Sx
open Go
set_option linter.unusedSimpArgs false
set_option linter.unusedVariables false

/-- Which block: one of the call's own, or a package-level variable. -/
inductive BR where
  | loc (n : Nat)
  | glo (g : Nat)
  deriving DecidableEq, Inhabited

/-- A leaf: what one cell, or one temporary, holds. -/
inductive SL where
  | x
  | e (t : Ex)
  | p (r : BR) (off : Nat)
  | dyn (r : BR) (base sz n : Nat) (i : Ex) (j : Nat)
  | elt (t i : Ex) (n j : Nat)
  | sc (r : BR) (base sz n : Nat)
  | g (k : Nat)
  | ge (k : Nat) (i : Ex) (sz j : Nat)
  | gs (k sz : Nat) (lo : Ex)
  | clo (f : FuncId) (caps : List (BR × Nat))
  deriving Inhabited

inductive S where
  | x
  | u
  | val (g : Bool) (ls : List SL)
  | tup (vs : List (Bool × List SL))
  deriving Inhabited

structure SB where
  ro : Bool
  ls : List SL
  deriving Inhabited

abbrev Heap := List SB

/-- A slice of the call's own, that grows: what it holds; may it be written still, is it data by now, has another one taken its place. -/
inductive OSt where
  | live
  | frozen
  | dead
  deriving DecidableEq, Inhabited
structure OS where
  t : Ex
  st : OSt
  deriving Inhabited
abbrev Own := List OS

/-- q: 0: no range over a function came yet; 1: a round of one; 2: one came -/
structure St where
  fr : List S
  h : Heap
  o : Own
  nv : Nat
  lv : Nat
  q : Nat := 0
  dp : Nat := 0
  pn : Option (Nat × Option Nat × Ex) := none   -- in a region that draws: the slot of the slice in new memory, that of the call that uses it up, what it holds
  deriving Inhabited

/-! ### looking at expressions -/

def Ex.bool? : Ex → Option Bool
  | .c (.b t) => some t
  | _ => none
def Ex.int? : Ex → Option Int
  | .c (.i _ n) => some n
  | _ => none

def D.same : D → D → Bool
  | .b x, .b y => x == y
  | .i k n, .i k' n' => k == k' && n == n'
  | .f g, .f g' => g == g'
  | .sl n [], .sl m [] => n == m
  | _, _ => false

mutual
def Ex.same : Ex → Ex → Bool
  | .v n, .v m => n == m
  | .c d, .c d' => D.same d d'
  | .bin o x y, .bin o' x' y' => o == o' && Ex.same x x' && Ex.same y y'
  | .un o x, .un o' x' => o == o' && Ex.same x x'
  | .cv k x, .cv k' x' => k == k' && Ex.same x x'
  | .ite a x y, .ite a' x' y' => Ex.same a a' && Ex.same x x' && Ex.same y y'
  | .len x, .len x' => Ex.same x x'
  | .isk i k, .isk i' k' => Ex.same i i' && k == k'
  | .idx x i j, .idx x' i' j' => Ex.same x x' && Ex.same i i' && j == j'
  | .one xs, .one ys => Ex.sames xs ys
  | .cat x y, .cat x' y' => Ex.same x x' && Ex.same y y'
  | .app n x y, .app n' x' y' => n == n' && Ex.same x x' && Ex.same y y'
  | .mk x zs, .mk x' zs' => Ex.same x x' && Ex.sames zs zs'
  | .put x i j vs, .put x' i' j' vs' => Ex.same x x' && Ex.same i i' && j == j' && Ex.sames vs vs'
  | .sub x a b, .sub x' a' b' => Ex.same x x' && Ex.same a a' && Ex.same b b'
  | _, _ => false
def Ex.sames : List Ex → List Ex → Bool
  | [], [] => true
  | x :: xs, y :: ys => Ex.same x y && Ex.sames xs ys
  | _, _ => false
end

def SL.same : SL → SL → Bool
  | .x, _ => true
  | .e a, .e b => Ex.same a b
  | .p r o, .p r' o' => r == r' && o == o'
  | .sc r b s n, .sc r' b' s' n' => r == r' && b == b' && s == s' && n == n'
  | .dyn r b s n i j, .dyn r' b' s' n' i' j' => r == r' && b == b' && s == s' && n == n' && Ex.same i i' && j == j'
  | .elt t i n j, .elt t' i' n' j' => Ex.same t t' && Ex.same i i' && n == n' && j == j'
  | .g k, .g k' => k == k'
  | .ge k i n j, .ge k' i' n' j' => k == k' && Ex.same i i' && n == n' && j == j'
  | .gs k n i, .gs k' n' i' => k == k' && n == n' && Ex.same i i'
  | .clo f c, .clo f' c' => f == f' && c == c'
  | _, _ => false
def SL.sames : List SL → List SL → Bool
  | [], [] => true
  | a :: l, b :: m => SL.same a b && SL.sames l m
  | _, _ => false
def SL.samesT : List (Bool × List SL) → List (Bool × List SL) → Bool
  | [], [] => true
  | a :: l, b :: m => a.1 == b.1 && SL.sames a.2 b.2 && SL.samesT l m
  | _, _ => false
def S.same : S → S → Bool
  | .x, _ => true
  | .u, .u => true
  | .val g l, .val g' l' => g == g' && SL.sames l l'
  | .tup l, .tup l' => SL.samesT l l'
  | _, _ => false

/-- smart constructors: what is known is reckoned at once -/
def mkBin (op : BinOp) (x y : Ex) : Ex :=
  match x, y with
  | .c a, .c b => match binD op a b with
    | some d => .c d
    | none => .bin op x y
  | _, _ => .bin op x y
def mkUn (op : UnOp) (x : Ex) : Ex :=
  match x with
  | .c a => match unD op a with
    | some d => .c d
    | none => .un op x
  | _ => .un op x
def mkCv (k : IntKind) (x : Ex) : Ex :=
  match x with
  | .c (.i _ n) => .c (.i k (k.wrap n))
  | _ => .cv k x
def mkIte (q x y : Ex) : Ex :=
  match q with
  | .c (.b t) => if t then x else y
  | _ => .ite q x y
/-- is the index the number k? -/
def mkIs (i : Ex) (k : Nat) : Ex :=
  match i with
  | .c (.i _ n) => .c (.b (n == k))
  | _ => .isk i k
def mkEqt (g : Bool) (x y : Ex) : Ex :=
  match x, y with
  | .c a, .c b => match eqtD g a b with
    | some d => .c d
    | none => .eqt g x y
  | _, _ => .eqt g x y
/-- of so many: the one at the index -/
def selE (i : Ex) (k : Nat) : List Ex → Ex
  | [] => .c (.b false)
  | [x] => x
  | x :: r => mkIte (mkIs i k) x (selE i (k + 1) r)

/-! ### leaves and values -/

def constL : Value → Option SL
  | .bool b => some (.e (.c (.b b)))
  | .int k n => some (.e (.c (.i k n)))
  | .string s => some (.e (.c (.s s)))
  | .slice none 0 0 => some (.e (.c (.sl 0 [])))
  | .func (.func f) first captured => if first.isEmpty && captured.isEmpty then some (.e (.c (.f f))) else none
  | _ => none

def constLs : List Value → Option (List SL)
  | [] => some []
  | v :: r => match constL v, constLs r with
    | some l, some ls => some (l :: ls)
    | _, _ => none

def constS : Value → S
  | .agg cs => match constLs cs.toList with
    | some ls => .val true ls
    | none => .x
  | v => match constL v with
    | some l => .val false [l]
    | none => .x

def opd (fr : List S) : Operand → S
  | .tmp t => fr.getD t .x
  | .const v => constS v
  | .global g => .val false [.p (.glo g) 0]
  | .func f => .val false [.e (.c (.f f))]

def S.e? : S → Option Ex
  | .val false [.e t] => some t
  | _ => none
def S.l? : S → Option SL
  | .val false [l] => some l
  | _ => none
def exLs : List SL → Option (List Ex)
  | [] => some []
  | .e t :: r => match exLs r with
    | some ts => some (t :: ts)
    | none => none
  | _ => none

/-! ### types -/

def aggT (P : Program) (t : TypeId) : Option Bool :=
  match P.underlying t with
  | some (.struct _) => some true
  | some (.array _ _) => some true
  | some _ => some false
  | none => none
def sizeT (P : Program) (t : TypeId) : Option Nat :=
  match P.info? t with
  | some i => some i.size
  | none => none
def zeroT (P : Program) (t : TypeId) : Option (List SL) :=
  match P.info? t with
  | some i => match i.zero with
    | some v => constLs v.cells.toList
    | none => none
  | none => none

/-- the globals' leaves -/
abbrev Glo := List (Nat × List D)
def Glo.at (G : Glo) (g : Nat) : Option (List D) :=
  match G with
  | [] => none
  | (k, ls) :: r => if k = g then some ls else Glo.at r g

def leavesAt (G : Glo) (h : Heap) : BR → Option (List SL)
  | .loc n => match h[n]? with
    | some b => some b.ls
    | none => none
  | .glo g => match Glo.at G g with
    | some ds => some (ds.map fun d => .e (.c d))
    | none => none

/-- the leaves j, j + 1, .. (m many) of the elements 0 to n - 1, as one that the index selects -/
def dynSel (ls : List SL) (base sz n : Nat) (i : Ex) (j : Nat) : Option SL :=
  match exLs ((List.range n).map fun k => ls.getD (base + k * sz + j) .x) with
  | some es => some (.e (selE i 0 es))
  | none => none

/-- consecutive variables -/
def vr : Nat → Nat → List Ex
  | _, 0 => []
  | a, n + 1 => .v a :: vr (a + 1) n
/-- a struct at a variable index: so many leaves, the elements beginning at these -/
def selR (i : Nat) (l : List Nat) : Nat → List Ex
  | 0 => []
  | n + 1 => selE (.v i) 0 (l.map .v) :: selR i (l.map (· + 1)) n
/-- a leaf stored at a variable index -/
def putV (i k new : Nat) : List Ex → List Ex
  | [] => []
  | x :: r => .ite (.isk (.v i) k) (.v new) x :: putV i (k + 1) new r

def optAll {α : Type} : List (Option α) → Option (List α)
  | [] => some []
  | some a :: r => match optAll r with
    | some l => some (a :: l)
    | none => none
  | none :: _ => none

def loadLs (G : Glo) (h : Heap) (m : Nat) : SL → Option (List SL)
  | .p r off => match leavesAt G h r with
    | some ls => if off + m ≤ ls.length then some ((ls.drop off).take m) else none
    | none => none
  | .dyn r base sz n i j => match leavesAt G h r with
    | some ls => if j + m ≤ sz ∧ base + n * sz ≤ ls.length ∧ 0 < n then optAll ((List.range m).map fun q => dynSel ls base sz n i (j + q)) else none
    | none => none
  | .elt t i n j => if j + m ≤ n then some ((List.range m).map fun q => .e (.idx t i (j + q))) else none
  | _ => none

/-- the leaf of element k, where the index may be k: the new one, else the old one -/
def dynPut (i : Ex) (new old : List SL) (k : Nat) : Option (List SL) :=
  match exLs new, exLs old with
  | some a, some b => some ((a.zip b).map fun p => .e (mkIte (mkIs i k) p.1 p.2))
  | _, _ => none

def dynStore (base sz : Nat) (i : Ex) (j : Nat) (new : List SL) : Nat → List SL → Option (List SL)
  | 0, ls => some ls
  | n + 1, ls => match dynStore base sz i j new n ls with
    | some ls' => match dynPut i new ((ls'.drop (base + n * sz + j)).take new.length) n with
      | some r => some (over ls' (base + n * sz + j) r)
      | none => none
    | none => none

def storeLs (h : Heap) (new : List SL) : SL → Option Heap
  | .p (.loc b) off => match h[b]? with
    | some blk => if !blk.ro && off + new.length ≤ blk.ls.length then some (h.set b { blk with ls := over blk.ls off new }) else none
    | none => none
  | .dyn (.loc b) base sz n i j => match h[b]? with
    | some blk => if !blk.ro && j + new.length ≤ sz && base + n * sz ≤ blk.ls.length then
        match dynStore base sz i j new n blk.ls with
        | some ls => some (h.set b { blk with ls := ls })
        | none => none
      else none
    | none => none
  | _ => none

/-- a pointer, further on by so many cells -/
def SL.plus (k : Nat) : SL → Option SL
  | .p r off => some (.p r (off + k))
  | .dyn r base sz n i j => some (.dyn r base sz n i (j + k))
  | .elt t i n j => some (.elt t i n (j + k))
  | .ge q i n j => some (.ge q i n (j + k))
  | _ => none

def fillS (place : Nat → Option (Nat × Nat)) (cells : List SL) : List (Nat × S) → Option (List SL)
  | [] => some cells
  | (i, s) :: rest =>
    match place i, s with
    | some (off, size), .val _ ls => if ls.length = size ∧ off + size ≤ cells.length then fillS place (over cells off ls) rest else none
    | _, _ => none

def placesF (P : Program) : List Field → Option (List (Nat × Nat))
  | [] => some []
  | f :: r => match sizeT P f.type, placesF P r with
    | some n, some l => some ((f.offset, n) :: l)
    | _, _ => none

/-- what a simple operation comes to: what must be so, the value, the heap -/
abbrev Out := List Ex × S × Heap

def partS (P : Program) (t : TypeId) (ls : List SL) (off : Nat) : Option S :=
  match aggT P t, sizeT P t with
  | some true, some n => if off + n ≤ ls.length then some (.val true ((ls.drop off).take n)) else none
  | some false, some _ => match ls[off]? with
    | some l => some (.val false [l])
    | none => none
  | _, _ => none

/-- equality of two structs whose leaves are numbers and bools (which: the list), leaf by leaf -/
def eqLs : List Bool → List Ex → List Ex → Option Ex
  | [], [], [] => some (.c (.b true))
  | g :: gs, x :: xs, y :: ys => match eqLs gs xs ys with
    | some r => some (mkIte (mkEqt g x y) r (.c (.b false)))
    | none => none
  | _, _, _ => none

/-- the fields' leaves, one field behind the other -/
def plainFs (P : Program) (g : TypeId → Option (List Bool)) : List Field → Nat → Option (List Bool)
  | [], _ => some []
  | f :: r, off => if f.name ≠ "_" ∧ f.offset = off then
      match g f.type with
      | some gs => if sizeT P f.type = some gs.length then
          match plainFs P g r (off + gs.length) with
          | some hs => some (gs ++ hs)
          | none => none
        else none
      | none => none
    else none

/-- a type whose values are compared leaf by leaf (numbers, bools, structs and arrays of them): which leaves are bools -/
def plainT (P : Program) : Nat → TypeId → Option (List Bool)
  | 0, _ => none
  | d + 1, t => match P.underlying t with
    | some .bool => some [true]
    | some (.int _) => some [false]
    | some (.struct fs) => if P.stoodInHeld t then none else plainFs P (plainT P d) fs.toList 0
    | some (.array n e) => match plainT P d e with
      | some gs => if sizeT P e = some gs.length then some (List.replicate n gs).flatten else none
      | none => none
    | _ => none

def litN (n : Nat) : Ex := .c (.i .i64 n)
def mkLen (t : Ex) : Ex :=
  match t with
  | .c (.sl _ []) => litN 0
  | _ => .len t

def sameSlice (P : Program) (t : TypeId) : Option TypeId :=
  match P.underlying t with
  | some (.slice e) => some e
  | _ => none

/-- An operation that reckons: what comes of it. -/
def arith (P : Program) (fr : List S) (op : Op) : Option Ex :=
  match op with
  | .binOp o t a b _ => match opd fr a, opd fr b with
    | .val false [.e x], .val false [.e y] => match P.underlying t, o with
      | some .bool, .eql => some (mkEqt true x y)
      | some .bool, .neq => some (mkUn .not (mkEqt true x y))
      | some .bool, _ => none
      | some (.slice _), _ => none
      | _, _ => some (mkBin o x y)
    | .val true ls, .val true ms => if P.eqGuardType P.depth t || aggT P t != some true then none else match plainT P 12 t, exLs ls, exLs ms with
      | some gs, some xs, some ys => match eqLs gs xs ys, o with
        | some r, .eql => some r
        | some r, .neq => some (mkUn .not r)
        | _, _ => none
      | _, _, _ => none
    | _, _ => none
  | .unOp o _ a => match (opd fr a).e? with
    | some x => some (mkUn o x)
    | none => none
  | .convert src dst a => match P.underlying src, P.underlying dst, (opd fr a).e? with
    | some (.int _), some (.int k), some x => some (mkCv k x)
    | _, _, _ => none
  | .call { callee := .builtin .len, args, argTypes } => match args.toList, argTypes[0]? with
    | [a], some t => match P.underlying t, (opd fr a).e? with
      | some (.slice _), some x => some (mkLen x)
      | _, _ => none
    | _, _ => none
  | .call { callee := .builtin .max, args, .. } => match args.toList with
    | [a, b] => match (opd fr a).e?, (opd fr b).e? with
      | some x, some y => some (mkIte (mkBin .gtr y x) y x)
      | _, _ => none
    | _ => none
  | .call { callee := .builtin .min, args, .. } => match args.toList with
    | [a, b] => match (opd fr a).e?, (opd fr b).e? with
      | some x, some y => some (mkIte (mkBin .lss y x) y x)
      | _, _ => none
    | _ => none
  | _ => none

/-- its elements must have so many leaves -/
def isW (n : Nat) (x : Ex) : Ex := .room (.len (.app n (.c (.sl 0 [])) x)) 0

/-- it must be a slice -/
def mkIsSl (t : Ex) : List Ex :=
  match t with
  | .c (.sl _ _) => []
  | _ => [.bin .leq (.c (.i .i64 0)) (.len t)]

/-- A simple operation. -/
def simple (P : Program) (G : Glo) (fr : List S) (h : Heap) (op : Op) : Option Out :=
  match op with
  | .move a => some ([], opd fr a, h)
  | .assign a => some ([], opd fr a, h)
  | .pick q a b => match (opd fr q).e? with
    | some t => match t.bool? with
      | some true => some ([], opd fr a, h)
      | some false => some ([], opd fr b, h)
      | none => none
    | none => none
  | .alloc t => match zeroT P t with
    | some ls => some ([], .val false [.p (.loc h.length) 0], h ++ [{ ro := false, ls := ls }])
    | none => none
  | .box _ a => match opd fr a with
    | .val _ ls => some ([], .val false [.p (.loc h.length) 0], h ++ [{ ro := false, ls := ls }])
    | _ => none
  | .build t parts => match zeroT P t, P.underlying t with
    | some z, some (.struct fs) => match placesF P fs.toList with
      | some pl => match fillS (pl[·]?) z (parts.toList.map fun q => (q.1, opd fr q.2)) with
        | some ls => some ([], .val true ls, h)
        | none => none
      | none => none
    | some z, some (.array _ e) => match sizeT P e with
      | some n => match fillS (fun i => some (i * n, n)) z (parts.toList.map fun q => (q.1, opd fr q.2)) with
        | some ls => some ([], .val true ls, h)
        | none => none
      | none => none
    | _, _ => none
  | .load t a => match (opd fr a).l?, aggT P t, sizeT P t with
    | some l, some true, some n => match loadLs G h n l with
      | some ls => some ([], .val true ls, h)
      | none => none
    | some l, some false, some _ => match loadLs G h 1 l with
      | some ls => some ([], .val false ls, h)
      | none => none
    | _, _, _ => none
  | .store t a b => match (opd fr a).l?, opd fr b, sizeT P t with
    | some l, .val _ ls, some n => if ls.length = n then
        match storeLs h ls l with
        | some h' => some ([], .x, h')
        | none => none
      else none
    | _, _, _ => none
  | .nilCheck a => match (opd fr a).l? with
    | some (.p r o) => some ([], .val false [.p r o], h)
    | some (.dyn r b s n i j) => some ([], .val false [.dyn r b s n i j], h)
    | some (.elt t i n j) => some ([], .val false [.elt t i n j], h)
    | some (.ge q i n j) => some ([], .val false [.ge q i n j], h)
    | some (.clo f c) => some ([], .val false [.clo f c], h)
    | some (.e (.c (.f f))) => some ([], .val false [.e (.c (.f f))], h)
    | _ => none
  | .makeFunc (.func f) first caps => if first.isEmpty then
      match optAll (caps.toList.map fun c => match (opd fr c).l? with | some (.p r o) => some (r, o) | _ => none) with
      | some [] => some ([], .val false [.e (.c (.f f))], h)
      | some cs => some ([], .val false [.clo f cs], h)
      | none => none
    else none
  | .fieldAddr s a k => match P.underlying s, (opd fr a).l? with
    | some (.struct fs), some l => match fs[k]? with
      | some f => match sizeT P f.type with
        | some (_ + 1) => match l.plus f.offset with
          | some l' => some ([], .val false [l'], h)
          | none => none
        | _ => none
      | none => none
    | _, _ => none
  | .field t a k => match P.underlying t, opd fr a with
    | some (.struct fs), .val true ls => match fs[k]? with
      | some f => match partS P f.type ls f.offset with
        | some s => some ([], s, h)
        | none => none
      | none => none
    | _, _ => none
  | .indexAddr t a i => match P.underlying t, (opd fr a).l?, (opd fr i).e? with
    | some (.array n el), some (.p r off), some ix => match sizeT P el with
      | some (sz + 1) => match ix.int? with
        | some m => if 0 ≤ m ∧ m < n then some ([], .val false [.p r (off + m.toNat * (sz + 1))], h) else none
        | none => if 1 < n then some ([.rng ix n], .val false [.dyn r off (sz + 1) n ix 0], h) else none
      | _ => none
    | some (.slice el), some (.sc r base sz n), some ix => match sizeT P el with
      | some m' => if m' = sz ∧ 0 < sz then match ix.int? with
        | some m => if 0 ≤ m ∧ m < n then some ([], .val false [.p r (base + m.toNat * sz)], h) else none
        | none => some ([.rng ix n], .val false [.dyn r base sz n ix 0], h)
        else none
      | _ => none
    | some (.slice el), some (.e t), some ix => match sizeT P el with
      | some (sz + 1) => some ([.inb t ix (sz + 1)], .val false [.elt t ix (sz + 1) 0], h)
      | _ => none
    | some (.array n el), some (.elt t' i' n' j), some ix => match sizeT P el, ix.int? with
      | some (sz + 1), some m => if 0 ≤ m ∧ m < n then some ([], .val false [.elt t' i' n' (j + m.toNat * (sz + 1))], h) else none
      | _, _ => none
    | _, _, _ => none
  | .index t a i => match P.underlying t, opd fr a, (opd fr i).e? with
    | some (.array n el), .val true ls, some ix => match ix.int?, sizeT P el with
      | some m, some sz => if 0 ≤ m ∧ m < n then
          match partS P el ls (m.toNat * sz) with
          | some s => some ([], s, h)
          | none => none
        else none
      | none, some sz => if ls.length = n * sz ∧ 0 < n then
          match aggT P el, optAll ((List.range sz).map fun q => dynSel ls 0 sz n ix q) with
          | some g, some r => if g ∨ sz = 1 then some ([.rng ix n], .val g r, h) else none
          | _, _ => none
        else none
      | _, _ => none
    | _, _, _ => none
  | .extract a k => match opd fr a with
    | .tup vs => match vs[k]? with
      | some (g, ls) => some ([], .val g ls, h)
      | none => none
    | _ => none
  | .slice t a none none none => match P.underlying t, (opd fr a).l? with
    | some (.array n el), some (.p r off) => match sizeT P el with
      | some sz => if 0 < n ∧ 0 < sz then some ([], .val false [.sc r off sz n], h) else none
      | none => none
    | some (.slice el), some l => match sizeT P el, l with
      | some _, .e t => some (mkIsSl t, .val false [.e t], h)
      | some _, .sc r b s n => some ([], .val false [.sc r b s n], h)
      | _, _ => none
    | _, _ => none
  | .slice t a (some lo) none none => match P.underlying t, (opd fr a).e?, (opd fr lo).e? with
    | some (.slice el), some x, some l => match sizeT P el with
      | some (n + 1) => some ([.bnd l (.len x) (.len x), isW (n + 1) x], .val false [.e (.sub x l (.len x))], h)
      | _ => none
    | _, _, _ => none
  | .slice t a none (some hi) none => match P.underlying t, (opd fr a).e?, (opd fr hi).e? with
    | some (.slice el), some x, some m => match sizeT P el with
      | some (n + 1) => some ([.bnd (litN 0) m (.len x), isW (n + 1) x], .val false [.e (.sub x (litN 0) m)], h)
      | _ => none
    | _, _, _ => none
  | .slice t a (some lo) (some hi) none => match P.underlying t, (opd fr a).e?, (opd fr lo).e?, (opd fr hi).e? with
    | some (.slice el), some x, some l, some m => match sizeT P el with
      | some (n + 1) => some ([.bnd l m (.len x), isW (n + 1) x], .val false [.e (.sub x l m)], h)
      | _ => none
    | _, _, _, _ => none
  | .buildSlice t len parts => match P.underlying t with
    | some (.slice el) => match sizeT P el, zeroT P el with
      | some sz, some z => if 0 < sz ∧ len * sz ≤ 4096 ∧ z.length = sz then
          match fillS (fun i => some (i * sz, sz)) ((List.replicate len z).flatten) (parts.toList.map fun q => (q.1, opd fr q.2)) with
          | some ls => some ([], .val false [.sc (.loc h.length) 0 sz len], h ++ [{ ro := false, ls := ls }])
          | none => none
        else none
      | _, _ => none
    | _ => none
  | .makeSlice t a b => match P.underlying t, (opd fr a).e?, (opd fr b).e? with
    | some (.slice el), some x, some y => match x.int?, y.int?, sizeT P el, zeroT P el with
      | some m, some m', some sz, some z => if m = m' ∧ 0 < m ∧ m ≤ 1024 ∧ 0 < sz ∧ z.length = sz ∧ P.bytesOf el ≤ 4096 then
          some ([], .val false [.sc (.loc h.length) 0 sz m.toNat], h ++ [{ ro := false, ls := (List.replicate m.toNat z).flatten }])
        else none
      | _, _, _, _ => none
    | _, _, _ => none
  | .call { callee := .builtin .len, args, argTypes } => match args.toList, argTypes[0]? with
    | [a], some t => match P.underlying t, (opd fr a).l? with
      | some (.slice _), some (.sc _ _ _ n) => some ([], .val false [.e (litN n)], h)
      | _, _ => none
    | _, _ => none
  | _ => none

/-! ### slices that grow -/

/-- rows, written out -/
def rowsE (n : Nat) : List (List Ex) → Ex
  | [] => .c (.sl n [])
  | [r] => .one r
  | r :: rs => .cat (.one r) (rowsE n rs)
def rows? : Ex → Option (List (List Ex))
  | .c (.sl _ []) => some []
  | .one r => some [r]
  | .cat a b => match rows? a, rows? b with
    | some x, some y => some (x ++ y)
    | _, _ => none
  | _ => none
def chunks {α : Type} (n : Nat) : Nat → List α → List (List α)
  | 0, _ => []
  | k + 1, l => l.take n :: chunks n k (l.drop n)
/-- an element's leaf -/
def mkIdx (t i : Ex) (j : Nat) : Ex :=
  match i, rows? t with
  | .c (.i _ m), some rs => match rs[m.toNat]? with
    | some r => match r[j]? with
      | some e => if 0 ≤ m then e else .idx t i j
      | none => .idx t i j
    | none => .idx t i j
  | _, _ => .idx t i j
/-- the index must be one -/
def mkInb (t i : Ex) (n : Nat) : List Ex :=
  match i, rows? t with
  | .c (.i _ m), some rs => if 0 ≤ m ∧ m.toNat < rs.length ∧ rs.all (·.length == n) then [] else [.inb t i n]
  | _, _ => [.inb t i n]
def mkLenO (t : Ex) : Ex :=
  match rows? t with
  | some rs => litN rs.length
  | none => .len t

def Own.live? (o : Own) (k : Nat) : Option Ex :=
  match o[k]? with
  | some ⟨t, .live⟩ => some t
  | _ => none

/-- what is appended -/
def appSrc (G : Glo) (h : Heap) (o : Own) (sz : Nat) : S → Option Ex
  | .val false [.e t] => some t
  | .val false [.g k] => Own.live? o k
  | .val false [.sc r base s n] => if s = sz then match leavesAt G h r with
    | some ls => if base + n * sz ≤ ls.length then match exLs ((ls.drop base).take (n * sz)) with
      | some es => some (rowsE sz (chunks sz n es))
      | none => none
      else none
    | none => none
    else none
  | _ => none
/-- what it is appended to -/
def appDst (o : Own) : S → Option (Ex × Own)
  | .val false [.e (.c (.sl 0 []))] => some (.c (.sl 0 []), o)
  | .val false [.g k] => match Own.live? o k with
    | some t => some (t, o.set k ⟨t, .dead⟩)
    | none => none
  | _ => none

/-- an operation on slices that grow: what must be so, the value, the slices -/
def ownOp (P : Program) (G : Glo) (fr : List S) (h : Heap) (o : Own) (op : Op) : Option (List Ex × S × Own) :=
  match op with
  | .call { callee := .builtin .append, args, argTypes } => match args.toList, argTypes.toList with
    | [a, b], [t, t'] => if t = t' then match P.underlying t with
      | some (.slice el) => match sizeT P el, zeroT P el with
        | some sz, some z => if 0 < sz ∧ z.length = sz then match appSrc G h o sz (opd fr b), appDst o (opd fr a) with
          | some t2, some (t1, o1) => some ([.room (.len (.app sz t1 t2)) (P.bytesOf el + 1)], .val false [.g o1.length], o1 ++ [⟨.app sz t1 t2, .live⟩])
          | _, _ => none
          else none
        | _, _ => none
      | _ => none
      else none
    | _, _ => none
  | .buildSlice t len parts => match P.underlying t with
    | some (.slice el) => match sizeT P el, zeroT P el with
      | some sz, some z => if 0 < sz ∧ len * sz ≤ 4096 ∧ z.length = sz then
          match fillS (fun i => some (i * sz, sz)) ((List.replicate len z).flatten) (parts.toList.map fun q => (q.1, opd fr q.2)) with
          | some ls => match exLs ls with
            | some es => some ([], .val false [.g o.length], o ++ [⟨rowsE sz (chunks sz len es), .live⟩])
            | none => none
          | none => none
        else none
      | _, _ => none
    | _ => none
  | .makeSlice t a b => match P.underlying t, (opd fr a).e?, (opd fr b).e? with
    | some (.slice el), some x, some y => match sizeT P el, zeroT P el with
      | some sz, some z => if 0 < sz ∧ z.length = sz ∧ Ex.same x y then match exLs z with
        | some es => some ([.room x (P.bytesOf el + 1)], .val false [.g o.length], o ++ [⟨.mk x es, .live⟩])
        | none => none
        else none
      | _, _ => none
    | _, _, _ => none
  | .indexAddr t a i => match P.underlying t, opd fr a, (opd fr i).e? with
    | some (.slice el), .val false [.g k], some ix => match sizeT P el, Own.live? o k with
      | some sz, some t => if 0 < sz then some (mkInb t ix sz, .val false [.ge k ix sz 0], o) else none
      | _, _ => none
    | _, _, _ => none
  | .load t a => match opd fr a, aggT P t, sizeT P t with
    | .val false [.ge k ix sz j], some g, some n => match Own.live? o k with
      | some t => if j + (if g then n else 1) ≤ sz then some (mkInb t ix sz, .val g ((List.range (if g then n else 1)).map fun q => .e (mkIdx t ix (j + q))), o) else none
      | none => none
    | _, _, _ => none
  | .store t a b => match opd fr a, opd fr b, sizeT P t with
    | .val false [.ge k ix sz j], .val _ ls, some n => match Own.live? o k, exLs ls with
      | some t, some es => if ls.length = n ∧ j + n ≤ sz then some (mkInb t ix sz, .x, o.set k ⟨.put t ix j es, .live⟩) else none
      | _, _ => none
    | _, _, _ => none
  | .slice t a none none none => match P.underlying t, opd fr a with
    | some (.slice el), .val false [.g k] => match sizeT P el, Own.live? o k with
      | some _, some _ => some ([], .val false [.g k], o)
      | _, _ => none
    | _, _ => none
  | .call { callee := .builtin .len, args, argTypes } => match args.toList, argTypes[0]? with
    | [a], some t => match P.underlying t, opd fr a with
      | some (.slice _), .val false [.g k] => match Own.live? o k with
        | some t => some ([], .val false [.e (mkLenO t)], o)
        | none => none
      | _, _ => none
    | _, _ => none
  | .slice t a (some lo) none none => match P.underlying t, opd fr a, (opd fr lo).e? with
    | some (.slice el), .val false [.g k], some ix => match sizeT P el, Own.live? o k with
      | some sz, some t1 => if 0 < sz then some ([.bnd ix (mkLenO t1) (mkLenO t1)], .val false [.gs k sz ix], o) else none
      | _, _ => none
    | _, _, _ => none
  | .slice t a none (some hi) none => match P.underlying t, opd fr a, (opd fr hi).e? with
    | some (.slice el), .val false [.g k], some ix => match sizeT P el, Own.live? o k with
      | some _, some t1 => some ([.bnd (litN 0) ix (mkLenO t1)], .val false [.g o.length], o.set k ⟨t1, .dead⟩ ++ [⟨.sub t1 (litN 0) ix, .live⟩])
      | _, _ => none
    | _, _, _ => none
  | .call { callee := .builtin .clear, args, argTypes } => match args.toList, argTypes.toList with
    | [a], [t] => match P.underlying t, opd fr a with
      | some (.slice el), .val false [.gs k sz lo] => match zeroT P el, Own.live? o k with
        | some z, some t1 => if z.length = sz then match exLs z with
          | some es => some ([.bnd (litN 0) (.bin .sub (mkLenO t1) lo) (mkLenO t1), .room (.len (.app sz (.sub t1 (litN 0) lo) (.mk (.bin .sub (mkLenO t1) lo) es))) 0], .x, o.set k ⟨.app sz (.sub t1 (litN 0) lo) (.mk (.bin .sub (mkLenO t1) lo) es), .live⟩)
          | none => none
          else none
        | _, _ => none
      | _, _ => none
    | _, _ => none
  | _ => none

/-- what looks at a slice of the call's own, and writes nothing -/
def ownQ (P : Program) (G : Glo) (fr : List S) (h : Heap) (o : Own) (op : Op) : Option (List Ex × S) :=
  match op with
  | .indexAddr t a i => (ownOp P G fr h o (.indexAddr t a i)).map fun x => (x.1, x.2.1)
  | .load t a => (ownOp P G fr h o (.load t a)).map fun x => (x.1, x.2.1)
  | _ => none

def ownIds : List SL → List Nat
  | [] => []
  | .g k :: r => k :: ownIds r
  | _ :: r => ownIds r
/-- they are data from now on -/
def frz (ks : List Nat) (o : Own) : Own :=
  o.mapIdx fun k os => if ks.contains k && os.st == .live then { os with st := .frozen } else os
/-- what is data, as such -/
def fixL (o : Own) : SL → SL
  | .g k => match o[k]? with
    | some ⟨t, .frozen⟩ => .e t
    | _ => .g k
  | l => l
def idsVs : List (Bool × List SL) → List Nat
  | [] => []
  | (_, ls) :: r => ownIds ls ++ idsVs r
def fixVs (o : Own) (vs : List (Bool × List SL)) : List (Bool × List SL) := vs.map fun p => (p.1, p.2.map (fixL o))

/-- the first operand that holds such a slice -/
def ownOpd (fr : List S) : List Operand → Option (Nat × Bool × List SL)
  | [] => none
  | .tmp t :: r => match fr.getD t .x with
    | .val g ls => if (ownIds ls).isEmpty then ownOpd fr r else some (t, g, ls)
    | _ => ownOpd fr r
  | _ :: r => ownOpd fr r

/-- is a slice nil? -/
def nilOp (P : Program) (fr : List S) (op : Op) : Option (Ex × Bool) :=
  match op with
  | .binOp o t a b _ => match P.underlying t, opd fr a, opd fr b with
    | some (.slice _), .val false [.e x], .val false [.e (.c (.sl 0 []))] => match o with
      | .eql => some (x, true)
      | .neq => some (x, false)
      | _ => none
    | _, _, _ => none
  | _ => none

/-! ### code -/

inductive Xit where
  | normal
  | exit (id : Nat)
  | ret
  | goto (l : Nat)
  deriving DecidableEq, Inhabited

/-- what a loop's head must make general yet: a leaf of the heap, what a slice that grows holds; which slice must be data ahead of it -/
inductive Nd where
  | leaf (b o : Nat)
  | leafO (b o : Nat)
  | slotO (t : Nat)
  | slotD (t : Nat)
  | slotF (t : Nat)
  | own (k : Nat)
  | frz (k : Nat)
  deriving DecidableEq, Inhabited

inductive Res where
  | ok (ir : IR)
  | need (lv : Nat) (l : List Nd)
  | no (why : String)
  deriving Inhabited

abbrev K := Xit → St → Res

/-- what a loop's head makes general: leaves of the heap that are data (ms), or slices that grow (mo); slots that are slices that grow (to), nil slots that are data (td); what slices that grow hold (ks); slices that are data ahead of it (fz) -/
structure GN where
  ms : List (Nat × Nat)
  mo : List (Nat × Nat)
  to : List Nat
  td : List Nat
  ks : List Nat
  fz : List Nat

inductive Task where
  | code (c : Code)
  | ops (all : List Oper) (todo : List Oper)
  | go (f : FuncId) (args : List S) (o : Oper) (all : List Oper) (rest : List Oper)
  | gen (lb : Option Nat) (c : Code) (gn : GN) (tries : Nat)
  | it (v : Nat) (ps : List Nat) (sh : Shape) (caps : List (BR × Nat)) (cvs : List XV) (x y : Code) (gn : GN) (tries : Nat)

structure Env where
  P : Program
  G : Glo
  inl : List FuncId
  unr : List Nat      -- depth marks of loops that are unrolled: the functions
  jn : List Nat := []   -- functions in which ways are joined behind a region
  ded : Bool := false   -- is what the executor does not know a dead end (to be shown unreachable)?
  its : List (FuncId × Shape) := []   -- functions that hand out what a range over them runs through: how it looks
  nw : List (FuncId × Nat) := []   -- functions whose one result is, or holds at this leaf, a slice in new memory
  thw : List (FuncId × Nat) := []   -- regions in which all slices of the call's own are data, and its own again behind them
  use : List FuncId := []   -- functions that use up the slice of the call's own that is their last argument
  srt : List FuncId := []   -- functions of the library that sort a slice of the call's own in place
  dmax : Nat := 1000   -- how deep functions are inlined; deeper: a dead end
  lnd : List FuncId := []   -- functions in whose regions that draw slices of the call's own are lent
  eat : List FuncId := []   -- functions of the library whose first argument is a slice of the call's own, which they use up; their result is one

/-- two ways -/
def both (q : Ex) (x y : Res) : Res :=
  match x with
  | .ok a => match y with
    | .ok b => .ok (.ite q a b)
    | z => z
  | z => z

def mays (q : Ex) (x y : Res) : Res :=
  match x with
  | .ok a => match y with
    | .ok b => .ok (.may q a b)
    | z => z
  | z => z

def chks : List Ex → Res → Res
  | [], r => r
  | .c (.b true) :: l, r => chks l r
  | e :: l, r => match chks l r with
    | .ok ir => .ok (.chk e ir)
    | z => z

def putS (fr : List S) (d : Option Tmp) (s : S) : List S :=
  match d with
  | some t => fr.set t s
  | none => fr

def resultS (P : Program) (G : Glo) (fr : List S) (h : Heap) : ResultVar → Option (Bool × List SL)
  | .tmp t => match fr.getD t .x with
    | .val g ls => some (g, ls)
    | _ => none
  | .cell a t => match (fr.getD a .x).l?, aggT P t, sizeT P t with
    | some l, some g, some n => match loadLs G h (if g then n else 1) l with
      | some ls => some (g, ls)
      | none => none
    | _, _, _ => none

def resultsS (P : Program) (G : Glo) (fn : Func) (fr : List S) (h : Heap) : Option (List (Bool × List SL)) :=
  optAll (fn.results.toList.map (resultS P G fr h))

def tupS : List (Bool × List SL) → S
  | [(g, ls)] => .val g ls
  | vs => .tup vs

def exVs : List (Bool × List SL) → Option (List XV)
  | [] => some []
  | (g, ls) :: r => match exLs ls, exVs r with
    | some xs, some vs => some ((g, xs) :: vs)
    | _, _ => none

def argsOf : List S → Option (List (Bool × List SL))
  | [] => some []
  | .val g ls :: r => match argsOf r with
    | some vs => some ((g, ls) :: vs)
    | none => none
  | _ => none

def shapeT (P : Program) : List TypeId → Option Shape
  | [] => some []
  | t :: r => match aggT P t, sizeT P t, shapeT P r with
    | some g, some n, some s => some ((g, n) :: s)
    | _, _, _ => none

def varsFrom (k n : Nat) : List SL := (List.range n).map fun j => .e (.v (k + j))

def shapeVs (k : Nat) : Shape → List (Bool × List SL)
  | [] => []
  | (g, n) :: r => (g, varsFrom k n) :: shapeVs (k + n) r

def shapeLen : Shape → Nat
  | [] => 0
  | (_, n) :: r => n + shapeLen r

def dstsOf : Code → List Nat
  | .region _ ops _ => ops.toList.filterMap (·.dst)
  | .seq a b => dstsOf a ++ dstsOf b
  | .cond _ a b => dstsOf a ++ dstsOf b
  | .block _ b => dstsOf b
  | .loop b => dstsOf b
  | .scope b => dstsOf b
  | _ => []

/-- a leaf made general -/
def genL (k : Nat) : SL → Option (Ex × SL)
  | .e t => some (t, .e (.v k))
  | _ => none

def genLs (k : Nat) : List SL → Option (List Ex × List SL)
  | [] => some ([], [])
  | .e t :: r => match genLs (k + 1) r with
    | some (es, ls) => some (t :: es, .e (.v k) :: ls)
    | none => none
  | _ => none

/-- the slots that the body writes, made general (or forgotten) -/
def genFr (ds : List Nat) : Nat → Nat → List S → List Ex × List S
  | _, _, [] => ([], [])
  | t, k, s :: r =>
    if ds.contains t then
      match s with
      | .val g ls => match genLs k ls with
        | some (es, ls') => let q := genFr ds (t + 1) (k + es.length) r; (es ++ q.1, .val g ls' :: q.2)
        | none => let q := genFr ds (t + 1) k r; (q.1, .x :: q.2)
      | _ => let q := genFr ds (t + 1) k r; (q.1, .x :: q.2)
    else let q := genFr ds (t + 1) k r; (q.1, s :: q.2)

/-- where a pair stands in a list -/
def idxAt (x : Nat × Nat) : List (Nat × Nat) → Nat → Option Nat
  | [], _ => none
  | y :: r, i => if y = x then some i else idxAt x r (i + 1)

/-- the heap's leaves that are named, made general -/
def genHeap (ms : List (Nat × Nat)) (k : Nat) (h : Heap) : Heap :=
  h.mapIdx fun b blk => { blk with ls := blk.ls.mapIdx fun o l => match idxAt (b, o) ms k with
    | some i => .e (.v i)
    | none => l }

/-- what stands now in the general places -/
def backFr (ds : List Nat) : Nat → List S → List S → Option (List Ex)
  | _, [], [] => some []
  | t, g :: gs, s :: ss =>
    if ds.contains t then
      match g, s with
      | .x, _ => backFr ds (t + 1) gs ss
      | .val f ls, .val f' ls' => if f == f' && ls.length == ls'.length then
          match exLs ls', backFr ds (t + 1) gs ss with
          | some es, some r => some (es ++ r)
          | _, _ => none
        else none
      | _, _ => none
    else if S.same g s then backFr ds (t + 1) gs ss else none
  | _, _, _ => none

/-- a leaf speaks of no block beyond a number -/
def SL.under (n : Nat) : SL → Bool
  | .p (.loc b) _ => b < n
  | .dyn (.loc b) .. => b < n
  | .sc (.loc b) .. => b < n
  | .clo _ caps => caps.all fun c => match c.1 with | .loc b => b < n | .glo _ => true
  | _ => true

/-- the blocks up to a number, where they speak of no other, and the results neither -/
def cutHp (n : Nat) (vs : List (Bool × List SL)) (h : Heap) : Heap :=
  if (vs.all fun p => p.2.all (SL.under n)) && (h.take n).all fun b => b.ls.all (SL.under n) then h.take n else h

def backHp (h : Heap) : List (Nat × Nat) → Option (List Ex)
  | [] => some []
  | (b, o) :: r => match h[b]? with
    | some blk => match blk.ls[o]? with
      | some (.e t) => match backHp h r with
        | some es => some (t :: es)
        | none => none
      | _ => none
    | none => none

/-- where the heap is another one than at the loop's head, the general places left out -/
def diffLs (b : Nat) (ms : List (Nat × Nat)) : Nat → List SL → List SL → List (Nat × Nat)
  | o, g :: gs, s :: ss => (if SL.same g s || ms.contains (b, o) then [] else [(b, o)]) ++ diffLs b ms (o + 1) gs ss
  | _, _, _ => []
def diffHp (ms : List (Nat × Nat)) : Nat → Heap → Heap → List (Nat × Nat)
  | b, g :: gs, s :: ss => diffLs b ms 0 g.ls s.ls ++ diffHp ms (b + 1) gs ss
  | _, _, _ => []

def shapeHp : Heap → Heap → Bool
  | [], _ => true
  | g :: gs, s :: ss => g.ro == s.ro && g.ls.length == s.ls.length && shapeHp gs ss
  | _ :: _, [] => false

/-- values of data alone -/
def pureS : S → S
  | .val g ls => if (exLs ls).isSome then .val g ls else .x
  | _ => .x
def isTmp (t : Nat) : Operand → Bool
  | .tmp t' => t == t'
  | _ => false
/-- is a temporary handed on as a whole? -/
def usedB (all : List Oper) : Option Tmp → Bool
  | some t => all.any fun o => match o.op with
    | .call { callee := .value _, args, .. } => args.toList.any (isTmp t)
    | .call { callee := .builtin .append, args, .. } => args.toList.any (isTmp t)
    | .build _ parts => parts.toList.any fun q => isTmp t q.2
    | .buildSlice _ _ parts => parts.toList.any fun q => isTmp t q.2
    | .store _ _ b => isTmp t b
    | _ => false
  | none => false
/-- is a temporary what is appended to? -/
def firstB (all : List Oper) : Option Tmp → Bool
  | some t => all.any fun o => match o.op with
    | .call { callee := .builtin .append, args, .. } => match args.toList with
      | a :: _ => isTmp t a
      | [] => false
    | _ => false
  | none => false
/-- none, or a new slice without elements, and without room for one -/
def zDst (sz : Nat) : S → Option Ex
  | .val false [.e (.c (.sl 0 []))] => some (.c (.sl 0 []))
  | .val false [.sc _ _ _ 0] => some (.c (.sl sz []))
  | _ => none
/-- appending to such: new memory -/
def zapp (P : Program) (fr : List S) (o : Oper) : Option (List Ex × Ex) :=
  match o.op with
  | .call { callee := .builtin .append, args, argTypes } => match args.toList, argTypes.toList with
    | [a, b], [t, t'] => if t = t' then match P.underlying t with
      | some (.slice el) => match sizeT P el, zeroT P el with
        | some sz, some z => if 0 < sz ∧ z.length = sz then match zDst sz (opd fr a), opd fr b with
          | some t1, .val false [.e t2] => some ([.room (.len (.app sz t1 t2)) (P.bytesOf el + 1)], .app sz t1 t2)
          | _, _ => none
          else none
        | _, _ => none
      | _ => none
      else none
    | _, _ => none
  | _ => none
/-- a new slice, in a region that draws: it is data from the beginning on -/
def freshOp (P : Program) (G : Glo) (all : List Oper) (fr : List S) (o : Oper) : Option (List Ex × Ex) :=
  match o.op with
  | .buildSlice t n parts => if usedB all o.dst && !(n == 0 && firstB all o.dst) then
      match ownOp P G (fr.map pureS) [] [] (.buildSlice t n parts) with
      | some (cs, .val false [.g 0], [⟨t, .live⟩]) => some (cs, t)
      | _ => none
    else none
  | .makeSlice t a b => if usedB all o.dst then
      match ownOp P G (fr.map pureS) [] [] (.makeSlice t a b) with
      | some (cs, .val false [.g 0], [⟨t, .live⟩]) => some (cs, t)
      | _ => none
    else none
  | _ => zapp P fr o

/-- no way: to be shown unreachable -/
def deadEnd : Res := .ok (.chk (.c (.b false)) (.ret []))

/-- an index into an array within an element: the slot that holds the index, the index, how many elements -/
def spanOp (P : Program) (fr : List S) (op : Op) : Option (Nat × Ex × Nat) :=
  match op with
  | .indexAddr t a (.tmp i) => match P.underlying t, (opd fr a).l?, fr.getD i .x with
    | some (.array n _), some (.elt ..), .val false [.e ix] => match ix.int? with
      | none => some (i, ix, n)
      | some _ => none
    | _, _, _ => none
  | _ => none

/-- what is so, wherever a temporary holds it -/
def subFr (x c : Ex) (fr : List S) : List S := fr.map fun s => match s with
  | .val false [.e y] => if Ex.same x y then .val false [.e c] else s
  | s => s

/-- the index is one of these -/
def fan (ix : Ex) (r : Nat → Res) : Nat → Nat → Res
  | _, 0 => deadEnd
  | k, m + 1 => both (.bin .eql ix (.c (.i .i64 (k : Int)))) (r k) (fan ix r (k + 1) m)

/-- one operation; rec: what goes on; ow: may slices grow here? -/
def runOp (E : Env) (ow : Bool) (rec : Task → St → K → Res) (all : List Oper) (o : Oper) (rest : List Oper) (st : St) (k : K) : Res :=
  match o.op with
  | .call { callee := .value g, args, .. } =>
    match opd st.fr g with
    | .val false [.e (.c (.f f))] => rec (.go f (args.toList.map (opd st.fr)) o all rest) st k
    | .val false [.clo f caps] => rec (.go f (args.toList.map (opd st.fr) ++ caps.map fun c => .val false [.p c.1 c.2]) o all rest) st k
    | .val false [.e (.ite q x y)] => match g with
      | .tmp t => both q (rec (.ops all (o :: rest)) { st with fr := st.fr.set t (.val false [.e x]) } k) (rec (.ops all (o :: rest)) { st with fr := st.fr.set t (.val false [.e y]) } k)
      | _ => .no "callee"
    | _ => .no "callee"
  | op => match (if ow then ownOp E.P E.G st.fr st.h st.o op else none) with
    | some (cs, s, o') => chks cs (rec (.ops all rest) { st with fr := putS st.fr o.dst s, o := o' } k)
    | none => match (if ow then none else freshOp E.P E.G all st.fr o) with
    | some (cs, t) => chks cs (match rec (.ops all rest) { st with fr := putS st.fr o.dst (.val false [.e (.v st.nv)]), nv := st.nv + 1 } k with
      | .ok ir => .ok (.lt t ir)
      | z => z)
    | none => match arith E.P st.fr op with
    | some (.c d) => rec (.ops all rest) { st with fr := putS st.fr o.dst (.val false [.e (.c d)]) } k
    | some t => match rec (.ops all rest) { st with fr := putS st.fr o.dst (.val false [.e (.v st.nv)]), nv := st.nv + 1 } k with
      | .ok ir => .ok (.lt t ir)
      | z => z
    | none => match simple E.P E.G st.fr st.h op with
      | some (cs, s, h') => chks cs (rec (.ops all rest) { st with fr := putS st.fr o.dst s, h := h' } k)
      | none =>
        if ow then match ownOpd st.fr op.operands.toList with
          | some (t, g, ls) => rec (.ops all (o :: rest)) { st with fr := st.fr.set t (.val g (ls.map (fixL (frz (ownIds ls) st.o)))), o := frz (ownIds ls) st.o } k
          | none => match nilOp E.P st.fr op with
            | some (x, b) => mays (mkBin .eql (mkLenO x) (litN 0)) (rec (.ops all rest) { st with fr := putS st.fr o.dst (.val false [.e (.c (.b b))]) } k) (rec (.ops all rest) { st with fr := putS st.fr o.dst (.val false [.e (.c (.b (!b)))]) } k)
            | none => match spanOp E.P st.fr op with
              | some (t, ix, n) => if n ≤ 16 then fan ix (fun m => rec (.ops all (o :: rest)) { st with fr := subFr ix (.c (.i .i64 (m : Int))) (st.fr.set t (.val false [.e (.c (.i .i64 (m : Int)))])) } k) 0 n else .no o.pos
              | none => if E.ded then deadEnd else .no o.pos
        else match ownQ E.P E.G st.fr st.h st.o op with
        | some (cs, s) => chks cs (rec (.ops all rest) { st with fr := putS st.fr o.dst s } k)
        | none => match spanOp E.P st.fr op with
          | some (t, ix, n) => if n ≤ 16 then fan ix (fun m => rec (.ops all (o :: rest)) { st with fr := st.fr.set t (.val false [.e (.c (.i .i64 (m : Int)))]) } k) 0 n else .no o.pos
          | none => .no o.pos

/-- one operation, if it is wanted -/
def guardOp (E : Env) (ow : Bool) (rec : Task → St → K → Res) (all : List Oper) (o : Oper) (rest : List Oper) (st : St) (k : K) : Res :=
  match o.guard with
  | none => runOp E ow rec all o rest st k
  | some (j, want) => match (all[j]?).bind (·.dst) with
    | some d => match st.fr.getD d .x with
      | .u => rec (.ops all rest) { st with fr := putS st.fr o.dst .u } k
      | .val false [.e t] => match t.bool? with
        | some b => if b == want then runOp E ow rec all o rest st k else rec (.ops all rest) { st with fr := putS st.fr o.dst .u } k
        | none => both t (rec (.ops all (o :: rest)) { st with fr := st.fr.set d (.val false [.e (.c (.b true))]) } k) (rec (.ops all (o :: rest)) { st with fr := st.fr.set d (.val false [.e (.c (.b false))]) } k)
      | _ => .no "guard"
    | none => .no "guard"

/-! ### regions whose operations run in any order that their edges leave open -/

def readsT (o : Oper) : List Tmp := o.op.operands.toList.filterMap fun | .tmp t => some t | _ => none
def isSt (o : Oper) : Bool := match o.op with | .store .. => true | _ => false
/-- what writes a variable, or memory -/
def isC (o : Oper) : Bool := match o.op with | .store .. => true | .assign .. => true | _ => false
/-- what makes a block -/
def isAl (o : Oper) : Bool := match o.op with | .alloc .. => true | .box .. => true | .makeSlice .. => true | .buildSlice .. => true | _ => false
def isLd (o : Oper) : Bool := match o.op with | .load .. => true | _ => false
def bindsOn (o : Oper) : List Nat := (o.after.toList.filter (Region.binds .any)).map (·.on)

/-- may the operation i run in any order that its edges leave open? -/
def drawOp (ops : List Oper) (i : Nat) (o : Oper) : Bool :=
  (bindsOn o).all (· < i) &&
  (readsT o).all (fun t => (List.range ops.length).all fun j => match ops[j]? with
    | some p => if p.dst == some t then (if isC p then (bindsOn p).contains i else (bindsOn o).contains j) else true
    | none => true) &&
  (match o.guard with
   | none => true
   | some (g, _) => (bindsOn o).contains g && !isC o) &&
  (if isSt o then (List.range i).all fun j => match ops[j]? with
    | some p => if isSt p then (bindsOn o).contains j else true
    | none => true
   else true)

def nodupB : List Nat → Bool
  | [] => true
  | x :: r => !r.contains x && nodupB r

def drawB (ops : List Oper) : Bool :=
  nodupB (ops.filterMap (·.dst)) && (List.range ops.length).all (fun i => match ops[i]? with | some o => drawOp ops i o | none => true)

/-- where an operation looks at memory, or writes it: the block, from where, to where (nowhere: all of it) -/
abbrev Acc := Option (Nat × Nat × Option Nat)

def accOf (m : Nat) : SL → Acc
  | .p (.loc b) off => some (b, off, some (off + m))
  | .dyn (.loc b) base sz n _ _ => some (b, base, some (base + n * sz))
  | _ => none
def opAcc (P : Program) (fr : List S) (h : Heap) (o : Oper) : Acc :=
  match o.op with
  | .load t a => match (opd fr a).l?, aggT P t, sizeT P t with
    | some l, some g, some n => accOf (if g then n else 1) l
    | _, _, _ => none
  | .store t a _ => match (opd fr a).l?, sizeT P t with
    | some l, some n => accOf n l
    | _, _ => none
  | _ => if isAl o then some (h.length, 0, none) else none
def disjA : Acc → Acc → Bool
  | some (b, lo, hi), some (b', lo', hi') => b != b' || (match hi with | some x => decide (x ≤ lo') | none => false) || (match hi' with | some x => decide (x ≤ lo) | none => false)
  | _, _ => true
/-- what looks at memory and what writes it, where their order is open, are apart -/
def logOK (ops : List Oper) (lg : List Acc) : Bool :=
  (List.range ops.length).all fun i => (List.range ops.length).all fun j => match ops[i]?, ops[j]? with
    | some oi, some oj => if (isLd oi || isAl oi) && isSt oj then (if i < j then (bindsOn oj).contains i else (bindsOn oi).contains j) || disjA (lg.getD i none) (lg.getD j none) else true
    | _, _ => true

/-- where the library's functions that use up a slice of the call's own stand among the contracts -/
def eatOff : Nat := 1000000

/-- where functions that were handed variables stand among the contracts -/
def capOff : Nat := 2000000
/-- the arguments, and the variables behind them -/
def splitCaps : List S → List S × List (BR × Nat)
  | [] => ([], [])
  | .val false [.p r o] :: rest => match splitCaps rest with
    | ([], cs) => ([], (r, o) :: cs)
    | (as, cs) => (.val false [.p r o] :: as, cs)
  | a :: rest => let q := splitCaps rest; (a :: q.1, q.2)
/-- what the variables hold -/
def capsX (h : Heap) : List (BR × Nat) → Option (List XV)
  | [] => some []
  | (.loc b, 0) :: r => match h[b]? with
    | some blk => match exLs blk.ls, capsX h r with
      | some es, some l => some ((true, es) :: l)
      | _, _ => none
    | none => none
  | _ => none
/-- a shape, as leaves -/
def shD : Shape → List D
  | [] => []
  | (g, n) :: r => .b g :: .i .i64 (n : Int) :: shD r
def XVs.same : List XV → List XV → Bool
  | [], [] => true
  | (g, a) :: l, (h, b) :: m => g == h && Ex.sames a b && XVs.same l m
  | _, _ => false
/-- a loop's variables: what is handed out in the round -/
def setPs (v c : Nat) : List Nat → Shape → Nat → List S → List S
  | t :: ts, (g, n) :: sh, j, fr => setPs v c ts sh (j + n) (fr.set t (.val g ((List.range n).map fun q => .e (.idx (.v v) (.v c) (j + q)))))
  | _, _, _, fr => fr
def itOff : Nat := 3000000
def nwOff : Nat := 4000000
def srtOff : Nat := 5000000
def nwOf (l : List (FuncId × Nat)) (f : FuncId) : Option Nat := (l.find? fun p => p.1 == f).map (·.2)
def shapeOfIt (f : FuncId) : List (FuncId × Shape) → Option Shape
  | [] => none
  | (g, sh) :: r => if g = f then some sh else shapeOfIt f r
/-- how a function's results look -/
def sigOf (P : Program) (f : FuncId) : Option Shape :=
  match P.funcs[f]? with
  | some fn => if fn.body.isNone || fn.name == "runtime.NumGoroutine" || !decide (f < eatOff) then none else shapeT P fn.resultTypes.toList
  | none => none

/-- the leaves of types whose values hold no slice: which are bools -/
def plainTs (P : Program) : List TypeId → Option (List Bool)
  | [] => some []
  | t :: r => match plainT P 12 t, plainTs P r with
    | some a, some b => some (a ++ b)
    | _, _ => none
/-- such leaves, as they must be -/
def plainChk (k : Nat) : List Bool → List Ex
  | [] => []
  | g :: r => .eqt g (.v k) (.v k) :: plainChk (k + 1) r

def plainR (P : Program) (f : FuncId) : Option (List Bool) := match P.funcs[f]? with
  | some fn => plainTs P fn.resultTypes.toList
  | none => none

def useOff : Nat := 6000000
/-- in a region that draws: a call whose result lies in new memory, once -/
def nwD (E : Env) (f : FuncId) (o : Oper) (st : St) : Option Tmp := if nwOf E.nw f == some 0 && st.o.isEmpty && o.guard.isNone && st.pn.isNone then o.dst else none
/-- and the call that uses it up: the last argument -/
def lastTmp (o : Oper) : Option Nat := match o.op with
  | .call { args, .. } => match args.toList.getLast? with
    | some (.tmp t) => some t
    | _ => none
  | _ => none
def useD (E : Env) (f : FuncId) (o : Oper) (args : List S) (st : St) : Option (List S × Nat × Ex × Nat) :=
  if E.use.contains f && o.guard.isNone then match st.pn, o.dst, args.getLast? with
    | some (d1, none, t), some d, some (.val false [.g 0]) => if lastTmp o = some d1 then some (args.dropLast, d1, t, d) else none
    | _, _, _ => none
  else none
/-- behind the region -/
def pnSt (s : St) : St := match s.pn with
  | some (_, u, t) => { s with o := [⟨t, if u.isSome then .dead else .live⟩], pn := none }
  | none => s
/-- such a region, in the text's order; no call is inlined -/
def dexec (E : Env) : Nat → List Acc → Task → St → K → Res
  | 0, _, _, _, _ => .no "fuel"
  | n + 1, lg, .ops all todo, st, k =>
    match todo with
    | [] => if logOK all lg then k .normal st else .no "draw: memory"
    | o :: rest => guardOp E false (fun t s k => match t with
      | .ops a r => if r.length = rest.length then dexec E n (lg ++ [opAcc E.P st.fr st.h o]) t s k else dexec E n lg t s k
      | .go .. => dexec E n (lg ++ [opAcc E.P st.fr st.h o]) t s k
      | t => .no "draw") all o rest st k
  | n + 1, lg, .go f args o all rest, st, k =>
    if !(splitCaps args).2.isEmpty then
      match argsOf (splitCaps args).1 with
      | some vs => match exVs vs, capsX st.h (splitCaps args).2, sigOf E.P f with
        | some xs, some cvs, some sh =>
          if all.all (fun o => !isSt o) then
            match dexec E n lg (.ops all rest) { st with fr := putS st.fr o.dst (tupS (shapeVs st.nv sh)), nv := st.nv + shapeLen sh } k with
            | .ok ir => .ok (.call (capOff + f) ((false, [litN (splitCaps args).2.length]) :: (xs ++ cvs)) sh ir)
            | z => z
          else .no "a variable handed on, where variables are written"
        | _, _, _ => .no "an argument that is no data, in a region that draws"
      | none => .no "args, in a region that draws"
    else match useD E f o args st with
    | some (as, d1, t, d) => match argsOf as with
      | some vs => match exVs vs, sigOf E.P f with
        | some xs, some sh =>
          match dexec E n lg (.ops all rest) { st with fr := putS st.fr o.dst (tupS (shapeVs st.nv sh)), nv := st.nv + shapeLen sh, pn := some (d1, some d, t) } k with
          | .ok ir => .ok (.call (useOff + f) (xs ++ [(false, [t])]) sh ir)
          | z => z
        | _, _ => .no "used up: an argument that is no data, in a region that draws"
      | none => .no "args, in a region that draws"
    | none => match argsOf args with
    | some vs => if !(idsVs vs).isEmpty then
        match exVs (fixVs (frz (idsVs vs) st.o) vs), sigOf E.P f, plainR E.P f with
        | some xs, some sh, some gs => if gs.length = shapeLen sh then
          match chks (plainChk st.nv gs) (dexec E n lg (.ops all rest) { st with fr := putS st.fr o.dst (tupS (shapeVs st.nv sh)), nv := st.nv + shapeLen sh } k) with
          | .ok ir => .ok (.call f xs sh ir)
          | z => z
          else .no "lent: the results"
        | _, _, _ => .no "lent: an argument that is no data, in a region that draws"
      else match nwD E f o st with
      | some d => match exVs vs, sigOf E.P f with
        | some xs, some [(false, 1)] =>
          match chks [.room (.len (.v st.nv)) 0] (dexec E n lg (.ops all rest) { st with fr := putS st.fr o.dst (.val false [.g 0]), nv := st.nv + 1, pn := some (d, none, .v st.nv) } k) with
          | .ok ir => .ok (.call (nwOff + f) xs [(false, 1)] ir)
          | z => z
        | _, _ => .no "new: an argument that is no data, or not one result, in a region that draws"
      | none => match exVs vs, sigOf E.P f with
      | some xs, some sh =>
        match dexec E n lg (.ops all rest) { st with fr := putS st.fr o.dst (tupS (shapeVs st.nv sh)), nv := st.nv + shapeLen sh } k with
        | .ok ir => .ok (.call f xs sh ir)
        | z => z
      | _, _ => .no "an argument that is no data, in a region that draws"
    | none => .no "args, in a region that draws"
  | _, _, _, _, _ => .no "a region that draws"

/-- which slots are variables that are assigned -/
def asgOf : Code → List Nat
  | .region _ ops _ => ops.toList.filterMap fun o => match o.op with | .assign .. => o.dst | _ => none
  | .seq a b => asgOf a ++ asgOf b
  | .cond _ a b => asgOf a ++ asgOf b
  | .block _ b => asgOf b
  | .loop b => asgOf b
  | .scope b => asgOf b
  | _ => []

def nilS : S → Bool
  | .val false [.e (.c (.sl 0 []))] => true
  | _ => false
def liveS (o : Own) : S → Option Nat
  | .val false [.g k] => match Own.live? o k with
    | some _ => some k
    | none => none
  | _ => none

/-- the assigned slots that are slices that grow, each slice once -/
def growFr (o : Own) (fr : List S) : List Nat → List Nat → List Nat
  | [], _ => []
  | t :: r, seen => match liveS o (fr.getD t .x) with
    | some k => if seen.contains k then growFr o fr r seen else t :: growFr o fr r (k :: seen)
    | none => growFr o fr r seen

def forgetFr : List Nat → List S → List S
  | [], fr => fr
  | t :: r, fr => forgetFr r (fr.set t .x)
def forgetHp : List (Nat × Nat) → Heap → Heap
  | [], h => h
  | (b, o) :: r, h => forgetHp r (match h[b]? with | some blk => h.set b { blk with ls := blk.ls.set o .x } | none => h)
def bindFr : List Nat → Nat → List S → List S
  | [], _, fr => fr
  | t :: r, k, fr => bindFr r (k + 1) (fr.set t (.val false [.g k]))
def bindHp : List (Nat × Nat) → Nat → Heap → Heap
  | [], _, h => h
  | (b, o) :: r, k, h => bindHp r (k + 1) (match h[b]? with | some blk => h.set b { blk with ls := blk.ls.set o (.g k) } | none => h)

/-- what stands in the places of slices that grow -/
def placeLs (gn : GN) (fr : List S) (h : Heap) : Option (List SL) :=
  match optAll (gn.to.map fun t => (fr.getD t .x).l?), optAll (gn.mo.map fun p => (h[p.1]?).bind (·.ls[p.2]?)) with
  | some a, some b => some (a ++ b)
  | _, _ => none
/-- what they hold, and which they are -/
def placeO (o : Own) : List SL → Option (List Ex × List Nat)
  | [] => some ([], [])
  | .g k :: r => match Own.live? o k, placeO o r with
    | some t, some (es, ks) => some (t :: es, k :: ks)
    | _, _ => none
  | .e (.c (.sl 0 [])) :: r => match placeO o r with
    | some (es, ks) => some (.c (.sl 0 []) :: es, ks)
    | none => none
  | _ :: _ => none

def fixS (o : Own) : S → S
  | .val g ls => .val g (ls.map (fixL o))
  | s => s
/-- slices are data from now on, wherever they stand -/
def prepSt (J : List Nat) (st : St) : St :=
  { st with o := frz J st.o, fr := st.fr.map (fixS (frz J st.o)), h := st.h.map fun b => { b with ls := b.ls.map (fixL (frz J st.o)) } }

def idsS : S → List Nat
  | .val _ ls => ownIds ls
  | _ => []
/-- the slices that a region's operations read -/
def readIds (fr : List S) (ops : List Oper) : List Nat := ops.flatMap fun o => (readsT o).flatMap fun t => idsS (fr.getD t .x)
/-- is a temporary nothing but what is appended to? -/
def apFirst (all : List Oper) (d : Nat) : Bool := all.all fun o => match o.op with
  | .call { callee := .builtin .append, args, .. } => (args.toList.drop 1).all fun x => !isTmp d x
  | _ => !(readsT o).contains d
/-- the slices in a struct of the call's own that an operation loads as a whole -/
def loadIds (fr : List S) (h : Heap) (o : Oper) : List Nat := match o.op with
  | .load _ a => match opd fr a with
    | .val false [.p (.loc b) 0] => match h[b]? with
      | some blk => if 1 < blk.ls.length then ownIds blk.ls else []
      | none => []
    | _ => []
  | _ => []
/-- those that a region that draws must have as data: not what is appended to alone -/
def drawIds (fr : List S) (h : Heap) (ops : List Oper) : List Nat := (ops.flatMap fun o => match o.op, o.dst with
  | .move _, some d => if apFirst ops d then [] else readIds fr [o]
  | _, _ => readIds fr [o]) ++ ops.flatMap (loadIds fr h)
/-- the slices in the places of data -/
def dataIds (ds : List Nat) (ms : List (Nat × Nat)) (fr : List S) (h : Heap) : List Nat :=
  (ds.map fun t => idsS (fr.getD t .x)).flatten ++ (ms.map fun p => match (h[p.1]?).bind (·.ls[p.2]?) with | some l => ownIds [l] | none => []).flatten

/-- the slices at a loop's head: those that are in its places go, what some hold is general, new ones stand in the places -/
def headO (o : Own) (ids ks : List Nat) (nv m : Nat) : Own :=
  (o.mapIdx fun k os => if ids.contains k then { os with st := .dead } else match ks.idxOf? k with | some i => { os with t := .v (nv + m + i) } | none => os) ++ (List.range m).map fun i => ⟨.v (nv + i), .live⟩

/-- where the slices are others than at the head -/
def diffO (ks : List Nat) : Nat → Own → Own → Option (List Nd)
  | _, [], _ => some []
  | _, _ :: _, [] => none
  | k, a :: as, b :: bs => match diffO ks (k + 1) as bs with
    | some l =>
      if a.st = b.st then if a.st = .dead || ks.contains k || Ex.same a.t b.t then some l else some (.own k :: l)
      else if a.st = .live ∧ b.st = .frozen then some (.frz k :: l) else none
    | none => none

def GN.add (gn : GN) : List Nd → GN
  | [] => gn
  | .leaf b o :: r => GN.add { gn with ms := gn.ms ++ [(b, o)] } r
  | .leafO b o :: r => GN.add { gn with mo := gn.mo ++ [(b, o)] } r
  | .slotO t :: r => GN.add (if gn.to.contains t then gn else { gn with to := gn.to ++ [t] }) r
  | .slotD t :: r => GN.add (if gn.td.contains t then gn else { gn with td := gn.td ++ [t] }) r
  | .slotF t :: r => GN.add { gn with to := gn.to.filter (· != t), td := gn.td ++ [t] } r
  | .own k :: r => GN.add { gn with ks := gn.ks ++ [k] } r
  | .frz k :: r => GN.add { gn with fz := gn.fz ++ [k] } r

/-- the loop's head -/
structure Hd where
  ds : List Nat
  nil : List Nat
  st1 : St
  fr0 : List S
  h0 : Heap
  init : List Ex
  k1 : Nat
  k2 : Nat
  gfr : List S
  sg : St

def headOf (b : Code) (gn : GN) (st : St) : Option Hd :=
  let st1 := prepSt gn.fz st
  let ds := (dstsOf b).filter fun t => !gn.to.contains t && (!nilS (st1.fr.getD t .x) || gn.td.contains t)
  match placeLs gn st1.fr st1.h with
  | none => none
  | some pl => match placeO st1.o pl with
    | none => none
    | some (eo, ids) =>
      let fr0 := forgetFr gn.to st1.fr
      let h0 := forgetHp gn.mo st1.h
      let q := genFr ds 0 st1.nv fr0
      match backHp h0 gn.ms, optAll (gn.ks.map (Own.live? st1.o)) with
      | some es, some ek =>
        if nodupB ids && nodupB gn.ks && gn.ks.all (fun k => !ids.contains k) && pl.length == gn.to.length + gn.mo.length then
          let k1 := st1.nv + q.1.length
          let k2 := k1 + es.length
          some { ds := ds, nil := (dstsOf b).filter fun t => !gn.to.contains t && nilS (st1.fr.getD t .x) && !gn.td.contains t, st1 := st1, fr0 := fr0, h0 := h0, init := q.1 ++ es ++ eo ++ ek, k1 := k1, k2 := k2, gfr := q.2, sg := { fr := bindFr gn.to st1.o.length q.2, h := bindHp gn.mo (st1.o.length + gn.to.length) (genHeap gn.ms k1 h0), o := headO st1.o ids gn.ks k2 pl.length, nv := k2 + eo.length + ek.length, lv := st.lv + 1, q := st.q, dp := st.dp} }
        else none
      | _, _ => none

/-- the loop's end -/
inductive Bk where
  | go (vs : List Ex)
  | need (l : List Nd)
  | no (why : String)

/-- the slices that are data at the loop's end: those in places of data that the head knows -/
def backJ (gn : GN) (hd : Hd) (s : St) : List Nat := dataIds (hd.ds.filter fun t => match hd.gfr.getD t .x with | .x => false | _ => true) gn.ms s.fr s.h

/-- the leaves of the heap that hold slices which the loop uses up -/
def goneLs (o1 o2 : Own) : Nat → Heap → List Nd
  | _, [] => []
  | b, blk :: r => ((List.range blk.ls.length).flatMap fun (o : Nat) => match (blk.ls[o]? : Option SL) with
    | some (SL.g k) => match o1[k]?, o2[k]? with
      | some ⟨_, .live⟩, some ⟨_, .dead⟩ => [Nd.leafO b o]
      | _, _ => []
    | _ => []) ++ goneLs o1 o2 (b + 1) r
/-- the places of slices that grow in which data stands at the loop's end -/
def dataPl (gn : GN) (hd : Hd) (s : St) : List Nd := gn.to.flatMap fun t => match s.fr.getD t .x with
  | .val false [.e (.c (.sl 0 []))] => []
  | .val false [.e _] => match hd.st1.fr.getD t .x with
    | .val false [.g k] => [.frz k, .slotF t]
    | _ => [.slotF t]
  | _ => []
/-- at the loop's end: what goes into the next round, or what the head must make general yet -/
def backOf (gn : GN) (hd : Hd) (s : St) : Bk :=
  if s.q ≠ hd.sg.q then .no "a range over a function in a loop" else
  let s1 := prepSt (backJ gn hd s) s
  match diffO gn.ks 0 (hd.sg.o.take hd.st1.o.length) s1.o with
  | none => match goneLs hd.sg.o s1.o 0 hd.st1.h with
    | [] => .no "slices at the loop's end"
    | n :: ns => .need (n :: ns)
  | some (n :: ns) => .need (n :: ns)
  | some [] =>
    let sd := (hd.nil.filterMap fun t => if S.same (hd.gfr.getD t .x) (s1.fr.getD t .x) then none else match s1.fr.getD t .x with | .val false [.g _] => some (Nd.slotO t) | _ => some (Nd.slotD t))
    if !sd.isEmpty then .need sd else
    match placeLs gn s1.fr s1.h with
    | none => .no "places at the loop's end"
    | some pl => match placeO s1.o pl with
      | none => match dataPl gn hd s1 with
        | [] => .no "what stands in the places at the loop's end"
        | n :: ns => .need (n :: ns)
      | some (eo, ids) =>
        let fr1 := forgetFr gn.to s1.fr
        let h1 := forgetHp gn.mo s1.h
        match diffHp gn.ms 0 (genHeap gn.ms hd.k1 hd.h0) h1 with
        | (x :: xs) => .need ((x :: xs).map fun p => match (s1.h[p.1]?).bind (·.ls[p.2]?) with | some (.g _) => .leafO p.1 p.2 | _ => .leaf p.1 p.2)
        | [] => match backFr hd.ds 0 hd.gfr fr1, backHp h1 gn.ms, optAll (gn.ks.map (Own.live? s1.o)) with
          | some xs, some ys, some ek =>
            if shapeHp (genHeap gn.ms hd.k1 hd.h0) h1 && nodupB ids && ids.all (fun k => decide (hd.st1.o.length ≤ k)) && pl.length == gn.to.length + gn.mo.length then .go (xs ++ ys ++ eo ++ ek) else .no "shape"
          | none, _, _ => .no "a slot at the loop's end"
          | _, _, _ => .no "a leaf at the loop's end"

def tmpsOf (l : List Operand) : List Nat := l.filterMap fun | .tmp t => some t | _ => none
/-- the temporaries that a code reads, as often as it reads them -/
def readsC : Code → List Nat
  | .region _ ops _ => ops.toList.flatMap fun o => readsT o
  | .seq a b => readsC a ++ readsC b
  | .cond q a b => tmpsOf [q] ++ (readsC a ++ readsC b)
  | .block _ b => readsC b
  | .loop b => readsC b
  | .scope b => readsC b
  | _ => []
def hasGuard (ops : List Oper) : Bool := ops.any fun o => o.guard.isSome
/-- the destinations that are read elsewhere -/
def liveOf (P : Program) (me : FuncId) (ops : List Oper) : List Nat :=
  match P.funcs[me]? with
  | some fn => match fn.body with
    | some c => let all := readsC c; let own := ops.flatMap readsT; let res := fn.results.toList.map fun | .tmp t => t | .cell a _ => a
      (ops.filterMap (·.dst)).filter fun t => decide (own.count t < all.count t) || res.contains t
    | none => []
  | none => []
/-- the state at the join, ahead of making it general -/
def joinFr (ds live : List Nat) : Nat → List S → List S
  | _, [] => []
  | t, s :: r => (if ds.contains t then (if live.contains t then .val false [.e (.c (.b false))] else .x) else s) :: joinFr ds live (t + 1) r

/-- the arguments behind the first one -/
def eatArgs : List S → Option (S × List (Bool × List SL))
  | a :: r => match argsOf r with
    | some vs => some (a, vs)
    | none => none
  | [] => none

/-- what must be asked of those: each is a number, or a slice of the call's own -/
def eatChk (o : Own) : List (Bool × List SL) → Option (List Ex)
  | [] => some []
  | (false, [.g k]) :: r => match o.live? k, eatChk o r with
    | some _, some cs => some cs
    | _, _ => none
  | (false, [.e x]) :: r => match eatChk o r with
    | some cs => some (.eqt false x x :: cs)
    | none => none
  | _ => none

def dedupN : List Nat → List Nat
  | [] => []
  | x :: r => let l := dedupN r; if l.contains x then l else x :: l
/-- which operations stand ahead of each, through others -/
def ancL : List Oper → List (List Nat) → List (List Nat)
  | [], acc => acc
  | o :: r, acc => ancL r (acc ++ [dedupN ((bindsOn o).flatMap fun e => e :: acc.getD e [])])
/-- from k on each stands behind all that are ahead of it -/
def sufOK (n : Nat) (anc : List (List Nat)) (k : Nat) : Bool := (List.range n).all fun j => if k ≤ j then (List.range j).all fun i => (anc.getD j []).contains i else true
def sufAt (n : Nat) (anc : List (List Nat)) : Nat → Nat
  | 0 => 0
  | k + 1 => if sufOK n anc k then sufAt n anc k else k + 1

/-- every operation stands behind those that it must -/
def ordB (ops : List Oper) : Bool := (List.range ops.length).all fun j => match ops[j]? with
  | some o => (bindsOn o).all (· < j)
  | none => true
/-- a region that draws: the operations that may run in any order, then those that may not -/
def drawn (E : Env) (dx : List Acc → Task → St → K → Res) (ex : Task → St → K → Res) (ops : List Oper) (st : St) (k : K) : Res :=
  let m := sufAt ops.length (ancL ops []) ops.length
  if E.P.follows .mixedOrders && drawB (ops.take m) && sufOK ops.length (ancL ops []) m && ordB ops && st.pn.isNone then
    dx [] (.ops (ops.take m) (ops.take m)) st fun e s => match e with
      | .normal => ex (.ops ops (ops.drop m)) (pnSt s) k
      | e => k e s
  else .no "draw"

/-- no operation is a defer statement -/
def noDefer (o : Oper) : Bool := match o.op with | .defer _ => false | _ => true
/-- a region's operations, of which the last is a defer statement: what stands ahead of it, and it -/
def lastDf (ops : List Oper) : Option (List Oper × Oper) := match ops.getLast? with
  | some o => if !noDefer o && o.guard.isNone && o.dst.isNone && ops.dropLast.all noDefer then some (ops.dropLast, o) else none
  | none => none
/-- a function's code with one defer statement: what stands ahead of its region, that region, the one behind it -/
def deferC : Code → Option (List Code × Array Oper × Array Oper)
  | .seq a b => match a, b with
    | .region _ ops1 false, .region _ ops2 false => if (lastDf ops1.toList).isSome && ops2.toList.all noDefer then some ([], ops1, ops2) else none
    | _, _ => match deferC b with
      | some (l, x) => some (a :: l, x)
      | none => none
  | _ => none
def seqK (ex : Code → St → K → Res) : List Code → St → K → Res
  | [], st, k => k .normal st
  | c :: cs, st, k => ex c st fun e s => match e with
    | .normal => seqK ex cs s k
    | e => k e s
/-- an inlined function's end: its results, and what goes on -/
def finGo (E : Env) (ex : FuncId → Task → St → K → Res) (me : FuncId) (fn : Func) (o : Oper) (all rest : List Oper) (st : St) (k : K) (fr : List S) (s : St) : Res :=
  if s.q ≠ 0 then .no "a range over a function, inlined" else match resultsS E.P E.G fn fr s.h with
  | some vs => ex me (.ops all rest) { s with fr := putS st.fr o.dst (tupS vs), h := cutHp st.h.length vs s.h, q := st.q, dp := st.dp } k
  | none => .no "results"
/-- its deferred call -/
def dfrGo (E : Env) (ex : FuncId → Task → St → K → Res) (f : FuncId) (ops2 : Array Oper) (d : Oper) (s1 : St) (fin : List S → St → Res) : Res :=
  if s1.q ≠ 0 then .no "defer: q" else match d.op with
  | .defer { callee := .value g, args := dargs, .. } => match opd s1.fr g with
    | .val false [.e (.c (.f gf))] => match E.P.funcs[gf]? with
      | some gn => if gn.name == "runtime.NumGoroutine" then .no "defer: which function?" else match gn.body with
        | some gc => ex f (.ops ops2.toList ops2.toList) s1 fun e s2 => match e with
          | .normal => if s2.q ≠ 0 then .no "defer: q" else ex gf (.code gc) { s2 with fr := dargs.toList.map (opd s1.fr) ++ List.replicate (gn.ntmps - dargs.size) .x, q := 0 } fun e s3 => match e with
            | .exit _ => .no "exit"
            | .goto _ => .no "goto"
            | _ => if s3.q ≠ 0 then .no "defer: q" else match resultsS E.P E.G gn s3.fr s3.h with
              | some _ => fin (s2.fr.map fun _ => .x) s3
              | none => .no "defer: results"
          | _ => .no "defer: a way out"
        | none => .no "defer: no body"
      | none => .no "defer: no function"
    | _ => .no "defer: which function?"
  | _ => .no "defer: what?"
/-- a function, inlined -/
def inlGo (E : Env) (ex : FuncId → Task → St → K → Res) (me f : FuncId) (fn : Func) (args : List S) (o : Oper) (all rest : List Oper) (st : St) (k : K) : Res :=
  if E.dmax ≤ st.dp then deadEnd else match fn.body with
  | some c => match deferC c with
    | none => ex f (.code c) { st with fr := args ++ List.replicate (fn.ntmps - args.length) .x, q := 0, dp := st.dp + 1 } fun e s => match e with
      | .exit _ => .no "exit"
      | .goto _ => .no "goto"
      | _ => finGo E ex me fn o all rest st k s.fr s
    | some (pre, ops1, ops2) => seqK (fun c s k => ex f (.code c) s k) pre { st with fr := args ++ List.replicate (fn.ntmps - args.length) .x, q := 0, dp := st.dp + 1 } fun e s => match e with
      | .exit _ => .no "exit"
      | .goto _ => .no "goto"
      | .ret => finGo E ex me fn o all rest st k s.fr s
      | .normal => if s.q ≠ 0 then .no "defer: q" else match lastDf ops1.toList with
        | none => .no "defer"
        | some (l1, d) => ex f (.ops ops1.toList l1) s fun e s1 => match e with
          | .normal => dfrGo E ex f ops2 d s1 (finGo E ex me fn o all rest st k)
          | _ => .no "defer: a way out"
  | none => .no "no body"
/-- does an operation come to a truth value? -/
def isCmp (o : Oper) : Bool := match o.op with
  | .binOp op .. => match op with
    | .eql => true
    | .neq => true
    | .lss => true
    | .leq => true
    | .gtr => true
    | .geq => true
    | _ => false
  | .unOp op .. => match op with
    | .not => true
    | _ => false
  | _ => false
/-- are the arguments of a sort a slice of the call's own, and a function? -/
def srtOk (o : Own) : List S → Bool
  | [.val false [.g j], .val false [.e _]] => (Own.live? o j).isSome
  | _ => false
/-- behind a region in which all was data: what it does not write, as it was; of what it writes, truth values -/
def thawS (ops : List Oper) (t : Nat) (s0 s1 : S) : List Ex × S :=
  if (ops.filterMap (·.dst)).contains t then match s1 with
    | .val false [.e x] => if ops.any fun o => o.dst == some t && isCmp o then ([.eqt true x x], .val false [.e x]) else ([], .x)
    | _ => ([], .x)
  else ([], s0)
def thawFr (ops : List Oper) : Nat → List S → List S → List Ex × List S
  | _, [], _ => ([], [])
  | t, s0 :: r0, r1 => let q := thawFr ops (t + 1) r0 (r1.drop 1); let c := thawS ops t s0 (r1.headD .x); (c.1 ++ q.1, c.2 :: q.2)
def roHp (h : Heap) : Heap := h.map fun b => { b with ro := true }
def thawGo (ex : St → K → Res) (ops : List Oper) (st : St) (k : K) : Res :=
  if st.q ≠ 0 then .no "thaw: q" else
  ex { prepSt (List.range st.o.length) st with h := roHp (prepSt (List.range st.o.length) st).h } fun e s => match e with
    | .normal => if s.q ≠ 0 then .no "thaw: q" else chks (thawFr ops 0 st.fr s.fr).1 (k .normal { st with fr := (thawFr ops 0 st.fr s.fr).2, nv := s.nv, lv := s.lv })
    | _ => .no "thaw: a way out"
/-- does a code jump to a label? -/
def gotoB (l : Nat) : Code → Bool
  | .goto l' => l' == l
  | .seq a b => gotoB l a || gotoB l b
  | .cond _ a b => gotoB l a || gotoB l b
  | .block _ b => gotoB l b
  | .loop b => gotoB l b
  | .scope b => gotoB l b
  | _ => false
/-- a scope's code: what stands ahead of a label to which the run jumps back, the label, what stands behind it -/
def splitL : Code → Option (Code × Nat × Code)
  | .seq a (.seq (.label l) c) => if (findLabel a l).isNone && gotoB l c then some (a, l, c) else none
  | _ => none
/-- a way out of a loop's body: does it lead to the head again? -/
inductive BX where
  | back
  | bad
  | on
def backX (lb : Option Nat) : Xit → BX
  | .normal => match lb with
    | none => .back
    | some _ => .on
  | .goto l => match lb with
    | none => .on
    | some l' => if l = l' then .back else .bad
  | _ => .on

def exec (E : Env) : Nat → FuncId → Task → St → K → Res
  | 0, _, _, _, _ => .no "fuel"
  | n + 1, me, .code c, st, k =>
    match c with
    | .skip => k .normal st
    | .ret => k .ret st
    | .exit id => k (.exit id) st
    | .seq a b => exec E n me (.code a) st fun e s => match e with
      | .normal => exec E n me (.code b) s k
      | e => k e s
    | .block id b => exec E n me (.code b) st fun e s => match e with
      | .exit id' => if id' = id then k .normal s else k (.exit id') s
      | e => k e s
    | .cond q a b => match (opd st.fr q).e? with
      | some t => match t.bool? with
        | some true => exec E n me (.code a) st k
        | some false => exec E n me (.code b) st k
        | none => both t (exec E n me (.code a) st k) (exec E n me (.code b) st k)
      | none => .no "cond"
    | .loop b =>
      if E.unr.contains me then
        exec E n me (.code b) st fun e s => match e with
          | .normal => exec E n me (.code c) s k
          | e => k e s
      else exec E n me (.gen none b { ms := [], mo := [], to := growFr st.o st.fr (asgOf b) [], td := [], ks := [], fz := [] } 12) st k
    | .region id ops draw =>
      if !ops.toList.all noDefer then .no "defer" else
      if E.thw.contains (me, id) then thawGo (fun st k => if draw then (if st.q < 2 then drawn E (dexec E n) (exec E n me) ops.toList st k else .no "draw: q") else exec E n me (.ops ops.toList ops.toList) st k) ops.toList st k else
      if E.jn.contains me && hasGuard ops.toList && st.o.isEmpty then
        let ds := ops.toList.filterMap (·.dst)
        let q := genFr ds 0 st.nv (joinFr ds (liveOf E.P me ops.toList) 0 st.fr)
        let kj : K := fun e s => match e with
          | .normal => if s.q == st.q && s.o.isEmpty && (diffHp [] 0 (genHeap [] st.nv st.h) s.h).isEmpty && shapeHp (genHeap [] st.nv st.h) s.h then
              match backFr ds 0 q.2 s.fr with
              | some vs => .ok (.cont st.lv vs)
              | none => .no "join: slots"
            else .no "join: memory"
          | e => k e s
        match (if draw then (if st.q < 2 then drawn E (dexec E n) (exec E n me) ops.toList { st with lv := st.lv + 1 } kj else .no "draw: q") else exec E n me (.ops ops.toList ops.toList) { st with lv := st.lv + 1 } kj) with
        | .ok main => match k .normal { st with fr := q.2, h := genHeap [] st.nv st.h, nv := st.nv + q.1.length } with
          | .ok body => .ok (.jn body main)
          | r => r
        | r => r
      else if draw then (if st.q < 2 then drawn E (dexec E n) (exec E n me) ops.toList (if E.lnd.contains me then st else prepSt (drawIds st.fr st.h ops.toList) st) k else .no "draw: q") else exec E n me (.ops ops.toList ops.toList) st k
    | .scope b => match splitL b with
      | none => exec E n me (.code b) st fun e s => match e with
        | .goto _ => .no "goto"
        | e => k e s
      | some (a, l, c) => exec E n me (.code a) st fun e s => match e with
        | .normal => exec E n me (.gen (some l) c { ms := [], mo := [], to := growFr s.o s.fr (asgOf c) [], td := [], ks := [], fz := [] } 12) s fun e s => match e with
          | .goto _ => .no "goto"
          | e => k e s
        | .goto _ => .no "goto"
        | e => k e s
    | .goto l => k (.goto l) st
    | .rangeFunc g ps x y => if st.q ≠ 0 then .no "a range over a function, in another or behind one" else
      match (opd st.fr g).l? with
      | some (.clo f caps) => match capsX st.h caps, shapeOfIt f E.its with
        | some cvs, some sh => if ps.size = sh.length ∧ nodupB ps.toList = true ∧ f < eatOff then
            match exec E n me (.it st.nv ps.toList sh caps cvs x y { ms := [], mo := [], to := [], td := [], ks := [], fz := [] } 12) { st with nv := st.nv + 1 } k with
            | .ok ir => .ok (.call (itOff + f) ((false, [litN caps.length]) :: (false, (shD sh).map .c) :: cvs) [(false, 1)] ir)
            | z => z
          else .no "a range over a function: its variables"
        | _, _ => .no "a range over a function: what it holds"
      | _ => .no "a range over a function: which?"
    | .label _ => k .normal st
    | _ => .no "code"
  | n + 1, me, .gen lb b gn tries, st, k =>
    match tries with
    | 0 => .no "tries"
    | tries + 1 =>
      match headOf b gn st with
      | none => .no "the loop's head"
      | some hd =>
        match exec E n me (.code b) hd.sg (fun e s => match backX lb e with
          | .back => match backOf gn hd s with
            | .go vs => .ok (.cont st.lv vs)
            | .need l => .need st.lv l
            | .no why => .no why
          | .bad => .no "goto"
          | .on => k e s) with
        | .ok ir => .ok (.loop hd.init ir)
        | .need lv l => if lv = st.lv then exec E n me (.gen lb b (gn.add l) tries) st k else .need lv l
        | z => z
  | n + 1, me, .it v ps sh caps cvs x y gn tries, st, k =>
    match tries with
    | 0 => .no "tries"
    | tries + 1 =>
      match headOf .skip gn st with
      | none => .no "the loop's head"
      | some hd => match capsX hd.sg.h caps with
        | none => .no "what the iterator holds"
        | some cvs' => if XVs.same cvs cvs' = true ∧ gn.to = [] then
          match exec E n me (.code x) { hd.sg with fr := setPs v hd.sg.nv ps sh 0 hd.sg.fr, nv := hd.sg.nv + 1, q := 1 } (fun e s => match e with
            | .normal => exec E n me (.code y) s fun e s => match e with
              | .normal => match backOf gn hd { s with fr := hd.sg.fr, q := hd.sg.q } with
                | .go vs => .ok (.cont st.lv (vs ++ [.bin .add (.v hd.sg.nv) (.c (.i .i64 1))]))
                | .need l => .need st.lv l
                | .no why => .no why
              | e => k e { s with fr := hd.sg.fr, q := 2 }
            | _ => .no "the assignment to a loop's variables") with
          | .ok body => match k .normal { hd.sg with nv := hd.sg.nv + 1, q := 2 } with
            | .ok rest => .ok (.loop (hd.init ++ [litN 0]) (.ite (.bin .lss (.v hd.sg.nv) (.len (.v v))) body rest))
            | z => z
          | .need lv l => if lv = st.lv then exec E n me (.it v ps sh caps cvs x y (gn.add l) tries) st k else .need lv l
          | z => z
          else .no "what the iterator holds, in the loop"
  | n + 1, me, .go f args o all rest, st, k =>
    match E.P.funcs[f]? with
    | none => .no "no such function"
    | some fn =>
      if fn.body.isNone || fn.name == "runtime.NumGoroutine" || !decide (f < eatOff) then .no "no body" else
      if E.srt.contains f && srtOk st.o args then
        match args with
        | [.val false [.g j], .val false [.e t1]] => match Own.live? st.o j with
          | some t => match exec E n me (.ops all rest) { st with fr := putS st.fr o.dst (.tup []), o := st.o.set j ⟨.v st.nv, .live⟩, nv := st.nv + 1 } k with
            | .ok ir => .ok (.call (srtOff + f) [(false, [t]), (false, [t1])] [(false, 1)] ir)
            | z => z
          | none => .no ("its first argument is no slice of the call's own: " ++ fn.name)
        | _ => .no ("sorting: the arguments of " ++ fn.name)
      else
      if E.eat.contains f then
        match eatArgs args with
        | none => .no "args"
        | some (a0, vs) => match eatChk st.o vs with
          | none => .no ("an argument that is neither a number nor the call's own: " ++ fn.name)
          | some cs => chks cs (match appDst (frz (idsVs vs) st.o) a0 with
          | none => .no ("its first argument is no slice of the call's own: " ++ fn.name)
          | some (t, o1) => match exVs (fixVs (frz (idsVs vs) st.o) vs) with
            | some xs =>
              match exec E n me (.ops all rest) { st with fr := putS st.fr o.dst (.val false [.g o1.length]), o := o1 ++ [⟨.v st.nv, .live⟩], nv := st.nv + 1 } k with
              | .ok ir => .ok (.call (eatOff + f) ((false, [t]) :: xs) [(false, 1)] ir)
              | z => z
            | none => .no ("an argument that is no data: " ++ fn.name))
      else match nwOf E.nw f with
      | some j =>
        match argsOf args with
        | some vs => match exVs (fixVs (frz (idsVs vs) st.o) vs), shapeT E.P fn.resultTypes.toList with
          | some xs, some [(g, m)] => if j < m then
            match chks [.room (.len (.v (st.nv + j))) 0] (exec E n me (.ops all rest) { st with fr := putS st.fr o.dst (.val g ((varsFrom st.nv m).set j (.g st.o.length))), o := st.o ++ [⟨.v (st.nv + j), .live⟩], nv := st.nv + m } k) with
            | .ok ir => .ok (.call (nwOff + f) xs [(g, m)] ir)
            | z => z
            else .no "new: the leaf"
          | _, _ => .no ("new: an argument that is no data, or not one result: " ++ fn.name)
        | none => .no "args"
      | none => if E.inl.contains f then
        inlGo E (exec E n) me f fn args o all rest st k
      else
        match argsOf args with
        | some vs => match exVs (fixVs (frz (idsVs vs) st.o) vs), shapeT E.P fn.resultTypes.toList with
          | some xs, some sh =>
            match (if (idsVs vs).isEmpty then none else match plainTs E.P fn.resultTypes.toList with | some gs => if gs.length = shapeLen sh then some gs else none | none => none) with
            | some gs =>
              match chks (plainChk st.nv gs) (exec E n me (.ops all rest) { st with fr := putS st.fr o.dst (tupS (shapeVs st.nv sh)), nv := st.nv + shapeLen sh } k) with
              | .ok ir => .ok (.call f xs sh ir)
              | z => z
            | none =>
            match exec E n me (.ops all rest) { st with fr := putS st.fr o.dst (tupS (shapeVs st.nv sh)), o := frz (idsVs vs) st.o, nv := st.nv + shapeLen sh } k with
            | .ok ir => .ok (.call f xs sh ir)
            | z => z
          | _, _ => .no ("an argument that is no data: " ++ fn.name)
        | none => .no "args"
  | n + 1, me, .ops all todo, st, k =>
    match todo with
    | [] => k .normal st
    | o :: rest => guardOp E true (exec E n me) all o rest st k

def shapeVars (k : Nat) : Shape → List S
  | [] => []
  | (g, n) :: r => .val g (varsFrom k n) :: shapeVars (k + n) r

/-- A function's IR. -/
def compile (E : Env) (n : Nat) (f : FuncId) : Res :=
  if !decide (f < eatOff) then .no "number" else
  match E.P.funcs[f]? with
  | none => .no "no such function"
  | some fn => match fn.body, shapeT E.P fn.params.toList with
    | some c, some sh =>
      exec E n f (.code c) { fr := shapeVars 0 sh ++ List.replicate (fn.ntmps - sh.length) .x, h := [], o := [], nv := shapeLen sh, lv := 0 } fun e s => match e with
        | .exit _ => .no "exit"
        | .goto _ => .no "goto"
        | _ => if s.q = 1 then .no "q" else match resultsS E.P E.G fn s.fr s.h with
          | some vs => match exVs (fixVs (frz (idsVs vs) s.o) vs) with
            | some xs => .ok (.ret xs)
            | none => .no "a result that is no data"
          | none => .no "results"
    | _, _ => .no "no body"

/-- a result whose slice is the call's own -/
def nwLs (o : Own) : List SL → Option (List Ex)
  | [] => some []
  | .e x :: r => match nwLs o r with
    | some es => some (x :: es)
    | none => none
  | .g k :: r => match o.live? k, nwLs o r with
    | some t, some es => some (t :: es)
    | _, _ => none
  | _ => none
def isG : SL → Bool
  | .g _ => true
  | .e (.c (.sl 0 [])) => true
  | _ => false
/-- The IR of a function whose one result lies in new memory. -/
def compileN (E : Env) (n : Nat) (f : FuncId) : Res :=
  if !decide (f < eatOff) then .no "number" else
  match E.P.funcs[f]? with
  | none => .no "no such function"
  | some fn => match fn.body, shapeT E.P fn.params.toList with
    | some c, some sh =>
      exec E n f (.code c) { fr := shapeVars 0 sh ++ List.replicate (fn.ntmps - sh.length) .x, h := [], o := [], nv := shapeLen sh, lv := 0 } fun e s => match e with
        | .exit _ => .no "exit"
        | .goto _ => .no "goto"
        | _ => if s.q = 1 then .no "q" else match resultsS E.P E.G fn s.fr s.h with
          | some [(g, ls)] => if ls.any isG then match nwLs s.o ls with
            | some es => .ok (.ret [(g, es)])
            | none => .no "a result that is neither data nor the call's own"
            else .no "a result that is not the call's own"
          | _ => .no "results"
    | _, _ => .no "no body"

/-- the variables that a function is handed behind its arguments: so many leaves each -/
def capHeap (k : Nat) : List Nat → Heap
  | [] => []
  | n :: r => { ro := true, ls := varsFrom k n } :: capHeap (k + n) r
/-- The IR of a function that is handed variables, and reads them. -/
def compileK (E : Env) (n : Nat) (f : FuncId) (csh : List Nat) : Res :=
  if !decide (f < eatOff) then .no "number" else
  match E.P.funcs[f]? with
  | none => .no "no such function"
  | some fn => match fn.body, shapeT E.P fn.params.toList with
    | some c, some sh =>
      exec E n f (.code c) { fr := (shapeVars 0 sh ++ (List.range csh.length).map fun j => .val false [.p (.loc j) 0]) ++ List.replicate (fn.ntmps - (sh.length + csh.length)) .x, h := capHeap (shapeLen sh) csh, o := [], nv := shapeLen sh + csh.sum, lv := 0 } fun e s => match e with
        | .exit _ => .no "exit"
        | .goto _ => .no "goto"
        | _ => if s.q ≠ 0 then .no "q" else match resultsS E.P E.G fn s.fr s.h with
          | some vs => match exVs (fixVs (frz (idsVs vs) s.o) vs) with
            | some xs => .ok (.ret xs)
            | none => .no "a result that is no data"
          | none => .no "results"
    | _, _ => .no "no body"

/-- a region that sorts a slice -/
def sortsB (o1 : List Oper) : Option (Nat × Nat × FuncId × FuncId × Option Nat) := match o1 with
  | [p, q] => match p.op, p.dst, q.op with
    | .move (.tmp tl), some td, .call { callee := .value (.func fs), args := args, argTypes := _ } => match args.toList with
      | [.tmp td', .func g] => if td' = td ∧ p.guard.isNone = true ∧ q.guard.isNone = true ∧ td ≠ tl ∧ q.dst ≠ some tl then some (tl, td, fs, g, q.dst) else none
      | _ => none
    | _, _, _ => none
  | _ => none
/-- the results of a function, at the end -/
def retGo (E : Env) (fn : Func) : K := fun e s => match e with
  | .exit _ => .no "exit"
  | .goto _ => .no "goto"
  | _ => if s.q ≠ 0 then .no "q" else match resultsS E.P E.G fn s.fr s.h with
    | some vs => match exVs (fixVs (frz (idsVs vs) s.o) vs) with
      | some xs => .ok (.ret xs)
      | none => .no "a result that is no data"
    | none => .no "results"
/-- A function whose last parameter is a slice of the call's own, which it uses up: it sorts it in its second region, and takes it as data from there on. -/
def compileE (E : Env) (n : Nat) (f : FuncId) : Res :=
  if !decide (f < eatOff) then .no "number" else
  match E.P.funcs[f]? with
  | none => .no "no such function"
  | some fn => match fn.body, shapeT E.P fn.params.toList with
    | some (.seq (.region _ o0 false) (.seq (.region _ o1 false) rest)), some sh => match sortsB o1.toList with
      | some (tl, td, fs, g, qd) =>
        if tl + 1 = sh.length ∧ sh = sh.dropLast ++ [(false, 1)] ∧ sh.length ≤ fn.ntmps ∧ o0.toList.all noDefer = true ∧ o1.toList.all noDefer = true ∧ (o0.toList.filterMap (·.dst)).contains tl = false ∧ (sigOf E.P fs).isSome = true ∧ td < fn.ntmps then
          match exec E n f (.ops o0.toList o0.toList) { fr := shapeVars 0 sh.dropLast ++ List.replicate (fn.ntmps - sh.dropLast.length) .x, h := [], o := [], nv := shapeLen sh, lv := 0 } fun e s => match e with
            | .normal => if s.q ≠ 0 || !s.o.isEmpty || !decide (tl < s.fr.length) then .no "sort" else
              match exec E n f (.code rest) { s with fr := (putS (s.fr.set td .x) qd .x).set tl (.val false [.e (.v s.nv)]), nv := s.nv + 1 } (retGo E fn) with
              | .ok ir => .ok (.call (srtOff + fs) [(false, [.v (shapeLen sh - 1)]), (false, [.c (.f g)])] [(false, 1)] ir)
              | z => z
            | _ => .no "sort: a way out" with
          | .ok ir => .ok ir
          | z => z
        else .no "sort: what?"
      | none => .no "no sort"
    | _, _ => .no "no body"

/-- A function's parameters: are they structs, and how many leaves have they. -/
def paramShape (P : Program) (f : FuncId) : Option Shape :=
  match P.funcs[f]? with
  | some fn => shapeT P fn.params.toList
  | none => none

end Go.Proofs.YtlihbielphcgbaaGreatDoor.Sx

namespace Go.Proofs.YtlihbielphcgbaaGreatDoor.Sx
open Go
set_option linter.unnecessarySimpa false
set_option linter.unusedSimpArgs false
set_option linter.unusedVariables false

/-- Two lists, place by place. -/
inductive All2 {α β : Type} (R : α → β → Prop) : List α → List β → Prop
  | nil : All2 R [] []
  | cons {a b as bs} : R a b → All2 R as bs → All2 R (a :: as) (b :: bs)

section
variable {α β γ : Type} {R R' : α → β → Prop}
theorem All2.imp {as : List α} {bs : List β} (h : All2 R as bs) (hi : ∀ a b, R a b → R' a b) : All2 R' as bs := by
  induction h with
  | nil => exact .nil
  | cons h _ ih => exact .cons (hi _ _ h) ih
theorem All2.length {as : List α} {bs : List β} (h : All2 R as bs) : as.length = bs.length := by
  induction h with
  | nil => rfl
  | cons _ _ ih => simp [ih]
theorem All2.get {as : List α} {bs : List β} (h : All2 R as bs) : ∀ {i : Nat} {a : α}, as[i]? = some a → ∃ b, bs[i]? = some b ∧ R a b := by
  induction h with
  | nil => intro i a h; simp at h
  | cons h _ ih =>
    intro i a hi
    cases i with
    | zero => simp at hi; subst hi; exact ⟨_, by simp, h⟩
    | succ i => simpa using ih (by simpa using hi)
theorem All2.get' {as : List α} {bs : List β} (h : All2 R as bs) : ∀ {i : Nat} {b : β}, bs[i]? = some b → ∃ a, as[i]? = some a ∧ R a b := by
  induction h with
  | nil => intro i a h; simp at h
  | cons h _ ih =>
    intro i a hi
    cases i with
    | zero => simp at hi; subst hi; exact ⟨_, by simp, h⟩
    | succ i => simpa using ih (by simpa using hi)
theorem All2.of_get : ∀ {as : List α} {bs : List β}, as.length = bs.length → (∀ (i : Nat) (a : α) (b : β), as[i]? = some a → bs[i]? = some b → R a b) → All2 R as bs
  | [], [], _, _ => .nil
  | a :: as, b :: bs, hl, h => .cons (h 0 a b (by simp) (by simp)) (All2.of_get (by simpa using hl) fun i a b ha hb => h (i + 1) a b (by simpa using ha) (by simpa using hb))
  | [], _ :: _, hl, _ => by simp at hl
  | _ :: _, [], hl, _ => by simp at hl
theorem All2.append {as as' : List α} {bs bs' : List β} (h : All2 R as bs) (h' : All2 R as' bs') : All2 R (as ++ as') (bs ++ bs') := by
  induction h with
  | nil => exact h'
  | cons h _ ih => exact .cons h ih
theorem All2.take {as : List α} {bs : List β} (h : All2 R as bs) : ∀ n, All2 R (as.take n) (bs.take n) := by
  induction h with
  | nil => intro n; simp; exact .nil
  | cons h _ ih =>
    intro n
    cases n with
    | zero => simp; exact .nil
    | succ n => simp; exact .cons h (ih n)
theorem All2.drop {as : List α} {bs : List β} (h : All2 R as bs) : ∀ n, All2 R (as.drop n) (bs.drop n) := by
  induction h with
  | nil => intro n; simp; exact .nil
  | cons h ht ih =>
    intro n
    cases n with
    | zero => simp; exact .cons h ht
    | succ n => simpa using ih n
theorem All2.replicate {a : α} {b : β} (h : R a b) : ∀ n, All2 R (List.replicate n a) (List.replicate n b)
  | 0 => .nil
  | n + 1 => by simp only [List.replicate_succ]; exact .cons h (All2.replicate h n)
theorem All2.map_left {f : γ → α} : ∀ {cs : List γ} {bs : List β}, All2 (fun c b => R (f c) b) cs bs → All2 R (cs.map f) bs := by
  intro cs bs h
  induction h with
  | nil => exact .nil
  | cons h _ ih => exact .cons h ih
theorem All2.of_map_left {f : γ → α} : ∀ {cs : List γ} {bs : List β}, All2 R (cs.map f) bs → All2 (fun c b => R (f c) b) cs bs
  | [], [], _ => .nil
  | _ :: _, _ :: _, .cons h t => .cons h (All2.of_map_left t)
  | [], _ :: _, h => by cases h
  | _ :: _, [], h => by cases h
end

abbrev Imm := Nat → Prop
/-- where the call's own blocks stand, and what the slices that grow are -/
structure Mu where
  m : Nat → Option Nat
  v : Nat → Option Value
instance : CoeFun Mu (fun _ => Nat → Option Nat) := ⟨Mu.m⟩

/-- slices whose rows have this width lie in rows of variables of which none is frozen (0: of no slice that is told) -/
def frzW : Nat := 8
/-- A value in memory reads as data; the blocks of its slices are among I. -/
inductive DR (I : Imm) (w : World) : D → Value → Prop
  | b (x : Bool) : DR I w (.b x) (.bool x)
  | i (k : IntKind) (n : Int) : DR I w (.i k n) (.int k n)
  | s (x : ByteArray) : DR I w (.s x) (.string x)
  | f (g : FuncId) : DR I w (.f g) (.func (.func g) #[] #[])
  | nil (sz : Nat) (p : Option Addr) (cap : Nat) (hz : sz = 0 → p = none ∧ cap = 0) : DR I w (.sl sz []) (.slice p 0 cap)
  | sl (sz : Nat) (xs : List (List D)) (blk off cap : Nat) (vs : Nat → Nat → Value) (hpos : 0 < sz)
      (hw : ∀ r ∈ xs, r.length = sz) (hcap : xs.length ≤ cap) (hI : I blk)
      (hc : ∀ i r j d, xs[i]? = some r → r[j]? = some d → w.cell? ⟨blk, off + (i * sz + j), none⟩ = some (vs i j))
      (hd : ∀ i r j d, xs[i]? = some r → r[j]? = some d → DR I w d (vs i j)) (hf : sz = frzW → ∃ cs ty, w.heap[blk]? = some (.cells cs ty (0, 0))) :
      DR I w (.sl sz xs) (.slice (some ⟨blk, off, none⟩) xs.length cap)

theorem cell_same {w w' : World} {b : Nat} (h : w'.heap[b]? = w.heap[b]?) (o : Nat) : w'.cell? ⟨b, o, none⟩ = w.cell? ⟨b, o, none⟩ := by
  simp [World.cell?, h]

theorem DR.mono {I I' : Imm} {w w' : World} {d : D} {v : Value} (h : DR I w d v) (hI : ∀ x, I x → I' x) (hw : ∀ x, I x → w'.heap[x]? = w.heap[x]?) : DR I' w' d v := by
  induction h with
  | b x => exact .b x
  | i k n => exact .i k n
  | s x => exact .s x
  | f g => exact .f g
  | nil sz p cap hz => exact .nil sz p cap hz
  | sl sz xs blk off cap vs h0 h1 h2 h3 h4 _ hf ih =>
    exact .sl sz xs blk off cap vs h0 h1 h2 (hI _ h3) (fun i r j d hi hj => by rw [cell_same (hw _ h3)]; exact h4 i r j d hi hj) ih (fun e => by rw [hw _ h3]; exact hf e)

theorem DR.one {I : Imm} {w : World} {d : D} {v : Value} (h : DR I w d v) : v.oneCell' = true := by cases h <;> rfl

def BRef (μ : Mu) : BR → Option Nat
  | .loc n => μ n
  | .glo g => some g

/-- A leaf. -/
def LR (I : Imm) (μ : Mu) (w : World) (ρ : List D) : SL → Value → Prop
  | .x, v => v.oneCell' = true
  | .e t, v => ∃ d, t.eval ρ = some d ∧ DR I w d v
  | .p r off, v => ∃ x, BRef μ r = some x ∧ v = .pointer (some ⟨x, off, none⟩)
  | .dyn r base sz n i j, v => ∃ x k m, BRef μ r = some x ∧ i.eval ρ = some (.i k m) ∧ 0 ≤ m ∧ m < n ∧ v = .pointer (some ⟨x, base + (m.toNat * sz + j), none⟩)
  | .elt t i n j, v => ∃ xs k m r blk off, t.eval ρ = some (.sl n xs) ∧ i.eval ρ = some (.i k m) ∧ 0 ≤ m ∧ xs[m.toNat]? = some r ∧ (r.length = n ∧ 0 < n) ∧
      v = .pointer (some ⟨blk, off + j, none⟩) ∧ I blk ∧ ∀ q d, r[q]? = some d → ∃ u, w.cell? ⟨blk, off + q, none⟩ = some u ∧ DR I w d u
  | .sc r base _ n, v => ∃ x cap, BRef μ r = some x ∧ v = .slice (some ⟨x, base, none⟩) n cap ∧ cap = n
  | .g k, v => ∃ b n c, v = .slice b n c ∧ μ.v k = some v
  | .ge k i sz j, v => ∃ x n cap kk m, μ.v k = some (.slice (some ⟨x, 0, none⟩) n cap) ∧ i.eval ρ = some (.i kk m) ∧ 0 ≤ m ∧ m < n ∧ v = .pointer (some ⟨x, m.toNat * sz + j, none⟩)
  | .gs k sz lo, v => ∃ b n cap kk m p c, μ.v k = some (.slice b n cap) ∧ lo.eval ρ = some (.i kk m) ∧ 0 ≤ m ∧ m ≤ n ∧ v = .slice p (n - m.toNat) c ∧ (m < n → ∃ x, b = some ⟨x, 0, none⟩ ∧ p = some ⟨x, m.toNat * sz, none⟩)
  | .clo f caps, v => ∃ vs : List Value, v = .func (.func f) #[] vs.toArray ∧
      All2 (fun (c : BR × Nat) u => ∃ x, BRef μ c.1 = some x ∧ u = .pointer (some ⟨x, c.2, none⟩)) caps vs

theorem LR.one {I : Imm} {μ : Mu} {w : World} {ρ : List D} {l : SL} {v : Value} (h : LR I μ w ρ l v) : v.oneCell' = true := by
  cases l with
  | x => exact h
  | e t => obtain ⟨d, _, h⟩ := h; exact h.one
  | p r off => obtain ⟨x, _, rfl⟩ := h; rfl
  | dyn r base sz n i j => obtain ⟨x, k, m, _, _, _, _, rfl⟩ := h; rfl
  | elt t i n j => obtain ⟨xs, k, m, r, blk, off, _, _, _, _, _, rfl, _⟩ := h; rfl
  | sc r base sz n => obtain ⟨x, cap, _, rfl, _⟩ := h; rfl
  | g k => obtain ⟨b, n, c, rfl, _⟩ := h; rfl
  | ge k i sz j => obtain ⟨x, n, cap, kk, m, _, _, _, _, rfl⟩ := h; rfl
  | gs k sz lo => obtain ⟨b, n, cap, kk, m, p, c, _, _, _, _, rfl, _⟩ := h; rfl
  | clo f caps => obtain ⟨vs, rfl, _⟩ := h; rfl

abbrev LsR (I : Imm) (μ : Mu) (w : World) (ρ : List D) (ls : List SL) (vs : List Value) : Prop := All2 (LR I μ w ρ) ls vs

/-- A value: one cell, or many. -/
def VR (I : Imm) (μ : Mu) (w : World) (ρ : List D) (g : Bool) (ls : List SL) (v : Value) : Prop :=
  if g then ∃ vs : List Value, v = .agg vs.toArray ∧ LsR I μ w ρ ls vs else ∃ l, ls = [l] ∧ LR I μ w ρ l v

def SR (I : Imm) (μ : Mu) (w : World) (ρ : List D) : S → Value → Prop
  | .x, _ => True
  | .u, v => v = undef
  | .val g ls, v => VR I μ w ρ g ls v
  | .tup xs, v => ∃ vs : List Value, v = .tuple vs.toArray ∧ All2 (fun (p : Bool × List SL) u => VR I μ w ρ p.1 p.2 u) xs vs

/-- The variables' values are known as far as they were, and further. -/
theorem pre_get {α : Type} {l l' : List α} (h : l <+: l') {n : Nat} {d : α} (hn : l[n]? = some d) : l'[n]? = some d := by
  obtain ⟨t, rfl⟩ := h
  rw [List.getElem?_append_left]
  · exact hn
  · exact (List.getElem?_eq_some_iff.1 hn).1

mutual
theorem Ex.eval_pre {ρ ρ' : List D} (h : ρ <+: ρ') : ∀ (t : Ex) {d : D}, t.eval ρ = some d → t.eval ρ' = some d
  | .v n, d, e => by simp only [Ex.eval] at e ⊢; exact pre_get h e
  | .c d', d, e => by simpa only [Ex.eval] using e
  | .bin op x y, d, e => by
    simp only [Ex.eval] at e ⊢
    split at e
    · rename_i a b h1 h2; rw [Ex.eval_pre h x h1, Ex.eval_pre h y h2]; exact e
    · cases e
  | .un op x, d, e => by
    simp only [Ex.eval] at e ⊢
    split at e
    · rename_i a h1; rw [Ex.eval_pre h x h1]; exact e
    · cases e
  | .cv k x, d, e => by
    simp only [Ex.eval] at e ⊢
    split at e
    · rename_i k' n h1; rw [Ex.eval_pre h x h1]; exact e
    · cases e
  | .ite q x y, d, e => by
    simp only [Ex.eval] at e ⊢
    split at e
    · rename_i t h1
      rw [Ex.eval_pre h q h1]
      cases t
      · exact Ex.eval_pre h y e
      · exact Ex.eval_pre h x e
    · cases e
  | .len x, d, e => by
    simp only [Ex.eval] at e ⊢
    split at e
    · rename_i n xs h1; rw [Ex.eval_pre h x h1]; exact e
    · cases e
  | .inb x i n, d, e => by
    simp only [Ex.eval] at e ⊢
    split at e
    · rename_i a b h1 h2; rw [Ex.eval_pre h x h1, Ex.eval_pre h i h2]; exact e
    · cases e
  | .rng i n, d, e => by
    simp only [Ex.eval] at e ⊢
    split at e
    · rename_i k m h1; rw [Ex.eval_pre h i h1]; exact e
    · cases e
  | .isk i k, d, e => by
    simp only [Ex.eval] at e ⊢
    split at e
    · rename_i k m h1; rw [Ex.eval_pre h i h1]; exact e
    · cases e
  | .eqt g x y, d, e => by
    simp only [Ex.eval] at e ⊢
    split at e
    · rename_i a b h1 h2; rw [Ex.eval_pre h x h1, Ex.eval_pre h y h2]; exact e
    · cases e
  | .idx x i j, d, e => by
    simp only [Ex.eval] at e ⊢
    split at e
    · rename_i a b h1 h2; rw [Ex.eval_pre h x h1, Ex.eval_pre h i h2]; exact e
    · cases e
  | .one xs, d, e => by
    simp only [Ex.eval] at e ⊢
    split at e
    · rename_i ds h1; rw [Ex.evals_pre h xs h1]; exact e
    · cases e
  | .cat x y, d, e => by
    simp only [Ex.eval] at e ⊢
    split at e
    · rename_i a b h1 h2; rw [Ex.eval_pre h x h1, Ex.eval_pre h y h2]; exact e
    · cases e
  | .sub x lo hi, d, e => by
    simp only [Ex.eval] at e ⊢
    split at e
    · rename_i a b c h1 h2 h3; rw [Ex.eval_pre h x h1, Ex.eval_pre h lo h2, Ex.eval_pre h hi h3]; exact e
    · cases e
  | .bnd lo hi top, d, e => by
    simp only [Ex.eval] at e ⊢
    split at e
    · rename_i k a k' b k'' c h1 h2 h3; rw [Ex.eval_pre h lo h1, Ex.eval_pre h hi h2, Ex.eval_pre h top h3]; exact e
    · cases e
  | .put x i j vs, d, e => by
    simp only [Ex.eval] at e ⊢
    split at e
    · rename_i a b c h1 h2 h3; rw [Ex.eval_pre h x h1, Ex.eval_pre h i h2, Ex.evals_pre h vs h3]; exact e
    · cases e
  | .mk n zs, d, e => by
    simp only [Ex.eval] at e ⊢
    split at e
    · rename_i k m ds h1 h2; rw [Ex.eval_pre h n h1, Ex.evals_pre h zs h2]; exact e
    · cases e
  | .room x b, d, e => by
    simp only [Ex.eval] at e ⊢
    split at e
    · rename_i k m h1; rw [Ex.eval_pre h x h1]; exact e
    · cases e
  | .app n x y, d, e => by
    simp only [Ex.eval] at e ⊢
    split at e
    · rename_i a b h1 h2; rw [Ex.eval_pre h x h1, Ex.eval_pre h y h2]; exact e
    · cases e
theorem Ex.evals_pre {ρ ρ' : List D} (h : ρ <+: ρ') : ∀ (ts : List Ex) {ds : List D}, Ex.evals ρ ts = some ds → Ex.evals ρ' ts = some ds
  | [], ds, e => by simpa only [Ex.evals] using e
  | x :: xs, ds, e => by
    simp only [Ex.evals] at e ⊢
    split at e
    · rename_i a b h1 h2; rw [Ex.eval_pre h x h1, Ex.evals_pre h xs h2]; exact e
    · cases e
end

/-- How the machine goes on: what is immutable stays, and grows; blocks stay where they are. -/
structure Evo (I : Imm) (μ : Mu) (w : World) (I' : Imm) (μ' : Mu) (w' : World) : Prop where
  imm : ∀ x, I x → I' x
  same : ∀ x, I x → w'.heap[x]? = w.heap[x]?
  mu : ∀ b x, μ b = some x → μ' b = some x
  hv : ∀ k v, μ.v k = some v → μ'.v k = some v

theorem Evo.refl (I : Imm) (μ : Mu) (w : World) : Evo I μ w I μ w := ⟨fun _ h => h, fun _ _ => rfl, fun _ _ h => h, fun _ _ h => h⟩
theorem Evo.trans {I I' I'' : Imm} {μ μ' μ'' : Mu} {w w' w'' : World} (h : Evo I μ w I' μ' w') (h' : Evo I' μ' w' I'' μ'' w'') : Evo I μ w I'' μ'' w'' :=
  ⟨fun x hx => h'.imm x (h.imm x hx), fun x hx => (h'.same x (h.imm x hx)).trans (h.same x hx), fun b x hb => h'.mu b x (h.mu b x hb), fun k v hk => h'.hv k v (h.hv k v hk)⟩

section
variable {I I' : Imm} {μ μ' : Mu} {w w' : World} {ρ ρ' : List D}

theorem BRef.mono (he : Evo I μ w I' μ' w') {r : BR} {x : Nat} (h : BRef μ r = some x) : BRef μ' r = some x := by
  cases r with
  | loc n => exact he.mu n x h
  | glo g => exact h

theorem LR.mono (he : Evo I μ w I' μ' w') (hp : ρ <+: ρ') {l : SL} {v : Value} (h : LR I μ w ρ l v) : LR I' μ' w' ρ' l v := by
  cases l with
  | x => exact h
  | e t => obtain ⟨d, h1, h2⟩ := h; exact ⟨d, Ex.eval_pre hp t h1, h2.mono he.imm he.same⟩
  | p r off => obtain ⟨x, h1, h2⟩ := h; exact ⟨x, BRef.mono he h1, h2⟩
  | dyn r base sz n i j => obtain ⟨x, k, m, h1, h2, h3⟩ := h; exact ⟨x, k, m, BRef.mono he h1, Ex.eval_pre hp i h2, h3⟩
  | elt t i n j =>
    obtain ⟨xs, k, m, r, blk, off, h1, h2, h3, h4, h5, h6, h7, h8⟩ := h
    refine ⟨xs, k, m, r, blk, off, Ex.eval_pre hp t h1, Ex.eval_pre hp i h2, h3, h4, h5, h6, he.imm _ h7, fun q d hq => ?_⟩
    obtain ⟨u, hu, hd⟩ := h8 q d hq
    exact ⟨u, by rw [cell_same (he.same _ h7)]; exact hu, hd.mono he.imm he.same⟩
  | sc r base sz n => obtain ⟨x, cap, h1, h2⟩ := h; exact ⟨x, cap, BRef.mono he h1, h2⟩
  | g k => obtain ⟨b, n, c, h1, h2⟩ := h; exact ⟨b, n, c, h1, he.hv k v h2⟩
  | ge k i sz j => obtain ⟨x, n, cap, kk, m, h1, h2, h3⟩ := h; exact ⟨x, n, cap, kk, m, he.hv k _ h1, Ex.eval_pre hp i h2, h3⟩
  | gs k sz lo => obtain ⟨b, n, cap, kk, m, p, c, h1, h2, h3⟩ := h; exact ⟨b, n, cap, kk, m, p, c, he.hv k _ h1, Ex.eval_pre hp lo h2, h3⟩
  | clo f caps =>
    obtain ⟨vs, h1, h2⟩ := h
    exact ⟨vs, h1, h2.imp fun _ _ ⟨x, hx, hu⟩ => ⟨x, BRef.mono he hx, hu⟩⟩

theorem VR.mono (he : Evo I μ w I' μ' w') (hp : ρ <+: ρ') {g : Bool} {ls : List SL} {v : Value} (h : VR I μ w ρ g ls v) : VR I' μ' w' ρ' g ls v := by
  unfold VR at *
  cases g
  · obtain ⟨l, h1, h2⟩ := h; exact ⟨l, h1, h2.mono he hp⟩
  · obtain ⟨vs, h1, h2⟩ := h; exact ⟨vs, h1, h2.imp fun _ _ => LR.mono he hp⟩

theorem SR.mono (he : Evo I μ w I' μ' w') (hp : ρ <+: ρ') {s : S} {v : Value} (h : SR I μ w ρ s v) : SR I' μ' w' ρ' s v := by
  cases s with
  | x => trivial
  | u => exact h
  | val g ls => exact VR.mono he hp h
  | tup xs => obtain ⟨vs, h1, h2⟩ := h; exact ⟨vs, h1, h2.imp fun _ _ => VR.mono he hp⟩
end

/-- The globals stand as they were laid. -/
def GR (G : Glo) (I : Imm) (w : World) : Prop :=
  ∀ g ds, Glo.at G g = some ds → I g ∧ ∃ (vs : List Value) (ty : TypeId) (fz : Nat × Nat), w.heap[g]? = some (.cells vs.toArray ty fz) ∧ All2 (DR I w) ds vs

theorem GR.mono {G : Glo} {I I' : Imm} {w w' : World} (h : GR G I w) (hI : ∀ x, I x → I' x) (hw : ∀ x, I x → w'.heap[x]? = w.heap[x]?) : GR G I' w' := fun g ds hg => by
  obtain ⟨h1, vs, ty, fz, h2, h3⟩ := h g ds hg
  exact ⟨hI _ h1, vs, ty, fz, (hw _ h1).trans h2, h3.imp fun _ _ hd => hd.mono hI hw⟩

/-- A block of the call's own. -/
def BlkR (B : Nat) (I : Imm) (μ : Mu) (w : World) (ρ : List D) (blk : SB) (x : Nat) : Prop :=
  ∃ (vs : List Value) (ty : TypeId), w.heap[x]? = some (.cells vs.toArray ty (0, 0)) ∧ LsR I μ w ρ blk.ls vs ∧ if blk.ro then I x else ¬ I x ∧ B ≤ x

/-- The world, as the executor sees it. B: how many blocks there were when the call began; I₀: what was immutable then; w₀: the world then. -/
structure WR (G : Glo) (B : Nat) (I₀ : Imm) (w₀ : World) (I : Imm) (μ : Mu) (w : World) (ρ : List D) (h : Heap) : Prop where
  blk : ∀ b x, μ b = some x → ∃ blk, h[b]? = some blk ∧ BlkR B I μ w ρ blk x
  inj : ∀ b b' x, μ b = some x → μ b' = some x → b = b' ∨ I x
  glo : GR G I w
  old : ∀ x, x < B → w.heap[x]? = w₀.heap[x]?
  size : B ≤ w.heap.size
  imm : ∀ x, I x → x < w.heap.size
  imm0 : ∀ x, I x → I₀ x ∨ B ≤ x
  wd : w.os = w₀.os ∧ w.output = w₀.output

/-- A function's frame. -/
structure FR (I : Imm) (μ : Mu) (w : World) (ρ : List D) (fr : List S) (a : Act) : Prop where
  len : fr.length = a.tmps.size
  at_ : ∀ t, SR I μ w ρ (fr.getD t .x) (a.tmps.getD t undef)

theorem FR.mono {I I' : Imm} {μ μ' : Mu} {w w' : World} {ρ ρ' : List D} {fr : List S} {a : Act} (h : FR I μ w ρ fr a) (he : Evo I μ w I' μ' w') (hp : ρ <+: ρ') : FR I' μ' w' ρ' fr a :=
  ⟨h.len, fun t => (h.at_ t).mono he hp⟩

/-- A temporary is written. -/
theorem FR.put {I : Imm} {μ : Mu} {w : World} {ρ : List D} {fr : List S} {a : Act} (h : FR I μ w ρ fr a) {s : S} {v : Value} (hs : SR I μ w ρ s v) (d : Option Tmp) : FR I μ w ρ (putS fr d s) (a.put d v) := by
  cases d with
  | none => exact h
  | some t =>
    refine ⟨by simp [putS, Act.put, h.len], fun t' => ?_⟩
    simp only [putS, Act.put]
    by_cases ht : t = t'
    · subst ht
      by_cases hl : t < fr.length
      · have hl' : t < a.tmps.size := h.len ▸ hl
        simpa [List.getD, hl, hl'] using hs
      · have hl' : ¬ t < a.tmps.size := h.len ▸ hl
        simp [List.getD, hl, SR]
    · have := h.at_ t'
      simpa [List.getD, List.getElem?_set_ne ht, Array.getElem?_setIfInBounds_ne ht] using this

end Go.Proofs.YtlihbielphcgbaaGreatDoor.Sx

namespace Go.Proofs.YtlihbielphcgbaaGreatDoor.Sx
open Go
set_option linter.unnecessarySimpa false
set_option linter.unusedSimpArgs false
set_option linter.unusedVariables false

theorem DR.b_inv {I : Imm} {w : World} {x : Bool} {v : Value} (h : DR I w (.b x) v) : v = .bool x := by cases h; rfl
theorem DR.i_inv {I : Imm} {w : World} {k : IntKind} {n : Int} {v : Value} (h : DR I w (.i k n) v) : v = .int k n := by cases h; rfl
theorem DR.s_inv {I : Imm} {w : World} {x : ByteArray} {v : Value} (h : DR I w (.s x) v) : v = .string x := by cases h; rfl
theorem DR.f_inv {I : Imm} {w : World} {x : FuncId} {v : Value} (h : DR I w (.f x) v) : v = .func (.func x) #[] #[] := by cases h; rfl
theorem DR.sl_inv {I : Imm} {w : World} {sz : Nat} {xs : List (List D)} {v : Value} (h : DR I w (.sl sz xs) v) : ∃ base cap, v = .slice base xs.length cap := by
  cases h
  · exact ⟨_, _, rfl⟩
  · exact ⟨_, _, rfl⟩

section ex
variable {ρ : List D}
theorem mkBin_eval (op : BinOp) (x y : Ex) : (mkBin op x y).eval ρ = (Ex.bin op x y).eval ρ := by
  unfold mkBin
  split
  · split
    · rename_i h; simp [Ex.eval, h]
    · rfl
  · rfl
theorem mkUn_eval (op : UnOp) (x : Ex) : (mkUn op x).eval ρ = (Ex.un op x).eval ρ := by
  unfold mkUn
  split
  · split
    · rename_i h; simp [Ex.eval, h]
    · rfl
  · rfl
theorem mkCv_eval (k : IntKind) (x : Ex) : (mkCv k x).eval ρ = (Ex.cv k x).eval ρ := by
  unfold mkCv
  split <;> simp [Ex.eval]
theorem mkIte_eval (q x y : Ex) : (mkIte q x y).eval ρ = (Ex.ite q x y).eval ρ := by
  unfold mkIte
  split
  · split <;> simp_all [Ex.eval]
  · rfl
theorem mkIs_eval (i : Ex) (k : Nat) : (mkIs i k).eval ρ = (Ex.isk i k).eval ρ := by
  unfold mkIs
  split <;> simp [Ex.eval]
theorem mkEqt_eval (g : Bool) (x y : Ex) : (mkEqt g x y).eval ρ = (Ex.eqt g x y).eval ρ := by
  unfold mkEqt
  split
  · split
    · rename_i h; simp [Ex.eval, h]
    · rfl
  · rfl
theorem bool?_eval {t : Ex} {b : Bool} (h : t.bool? = some b) : t.eval ρ = some (.b b) := by
  unfold Ex.bool? at h
  split at h
  · cases h; simp [Ex.eval]
  · cases h
theorem int?_eval {t : Ex} {n : Int} (h : t.int? = some n) : ∃ k, t.eval ρ = some (.i k n) := by
  unfold Ex.int? at h
  split at h
  · cases h; simp [Ex.eval]
  · cases h

theorem selE_eval {i : Ex} {kk : IntKind} {m : Nat} (hi : i.eval ρ = some (.i kk m)) : ∀ (es : List Ex) (k : Nat) (e : Ex), k ≤ m → es[m - k]? = some e → (selE i k es).eval ρ = e.eval ρ
  | [], k, e, _, h => by simp at h
  | [x], k, e, hk, h => by
    have : m - k = 0 := by
      rcases Nat.eq_zero_or_pos (m - k) with h' | h'
      · exact h'
      · rw [List.getElem?_eq_none (by simp; omega)] at h; cases h
    rw [this] at h
    simp at h
    subst h
    rfl
  | x :: y :: r, k, e, hk, h => by
    simp only [selE]
    rw [mkIte_eval]
    simp only [Ex.eval, mkIs_eval, hi]
    by_cases he : m = k
    · subst he
      simp at h
      subst h
      simp
    · have hne : ((m : Int) == (k : Int)) = false := by simp; omega
      rw [hne]
      have h' : (y :: r)[m - (k + 1)]? = some e := by
        have : m - k = (m - (k + 1)) + 1 := by omega
        rw [this] at h
        simpa using h
      simpa using selE_eval hi (y :: r) (k + 1) e (by omega) h'
end ex

section
variable {I : Imm} {μ : Mu} {w : World} {ρ : List D}

theorem exLs_get : ∀ {ls : List SL} {es : List Ex}, exLs ls = some es → ls = es.map SL.e
  | [], es, h => by simp [exLs] at h; subst h; rfl
  | .e t :: r, es, h => by
    simp only [exLs] at h
    split at h
    · rename_i ts hts
      cases h
      simp [exLs_get hts]
    · cases h
  | .x :: _, _, h => by simp [exLs] at h
  | .p .. :: _, _, h => by simp [exLs] at h
  | .dyn .. :: _, _, h => by simp [exLs] at h
  | .elt .. :: _, _, h => by simp [exLs] at h
  | .sc .. :: _, _, h => by simp [exLs] at h
  | .g .. :: _, _, h => by simp [exLs] at h
  | .ge .. :: _, _, h => by simp [exLs] at h
  | .gs .. :: _, _, h => by simp [exLs] at h
  | .clo .. :: _, _, h => by simp [exLs] at h

theorem dynSel_sound {ls : List SL} {base sz n : Nat} {i : Ex} {j : Nat} {l : SL} {kk : IntKind} {m : Nat} {v : Value} (h : dynSel ls base sz n i j = some l)
    (hi : i.eval ρ = some (.i kk m)) (hm : m < n) (hv : LR I μ w ρ (ls.getD (base + m * sz + j) .x) v) : LR I μ w ρ l v := by
  unfold dynSel at h
  split at h
  · rename_i es hes
    cases h
    have he := exLs_get hes
    have hlen : es.length = n := by have := congrArg List.length he; simpa using this.symm
    have h1 : es[m]? = some (es[m]'(by omega)) := List.getElem?_eq_getElem (by omega)
    have h2 := congrArg (fun l => l[m]?) he
    simp [hm, h1, List.getElem?_range] at h2
    rw [List.getD_eq_getElem?_getD, h2] at hv
    obtain ⟨d, hd, hr⟩ := hv
    exact ⟨d, by rw [selE_eval hi es 0 _ (by omega) (by rw [Nat.sub_zero]; exact h1)]; exact hd, hr⟩
  · cases h

theorem optAll_get {α : Type} : ∀ {l : List (Option α)} {r : List α}, optAll l = some r → l = r.map some
  | [], r, h => by simp [optAll] at h; subst h; rfl
  | some a :: l, r, h => by
    simp only [optAll] at h
    split at h
    · rename_i r' hr'; cases h; simp [optAll_get hr']
    · cases h
  | none :: _, _, h => by simp [optAll] at h

/-- so many cells, from an address on -/
def CellsAt (w : World) (blk off : Nat) (vs : List Value) : Prop := ∀ j u, vs[j]? = some u → w.cell? ⟨blk, off + j, none⟩ = some u

theorem cellsAt_of_heap {x off : Nat} {vs : List Value} {ty : TypeId} {fz : Nat × Nat} (h : w.heap[x]? = some (.cells vs.toArray ty fz)) (m : Nat) : CellsAt w x off ((vs.drop off).take m) := by
  intro j u hu
  simp only [World.cell?, h]
  rw [List.getElem?_take] at hu
  split at hu
  · simpa using hu
  · cases hu

variable {G : Glo} {B : Nat} {I₀ : Imm} {w₀ : World} {h : Heap}

theorem leavesAt_sound (hW : WR G B I₀ w₀ I μ w ρ h) {r : BR} {ls : List SL} {x : Nat} (hl : leavesAt G h r = some ls) (hx : BRef μ r = some x) :
    ∃ (vs : List Value) (ty : TypeId) (fz : Nat × Nat), w.heap[x]? = some (.cells vs.toArray ty fz) ∧ LsR I μ w ρ ls vs := by
  cases r with
  | loc n =>
    obtain ⟨blk, hb, vs, ty, h1, h2, _⟩ := hW.blk n x hx
    simp only [leavesAt, hb] at hl
    cases hl
    exact ⟨vs, ty, _, h1, h2⟩
  | glo g =>
    simp only [leavesAt] at hl
    split at hl
    · rename_i ds hds
      cases hl
      obtain ⟨_, vs, ty, fz, h1, h2⟩ := hW.glo g ds hds
      simp only [BRef] at hx
      cases hx
      exact ⟨vs, ty, fz, h1, All2.map_left (h2.imp fun d v hd => ⟨d, by simp [Ex.eval], hd⟩)⟩
    · cases hl

theorem loadLs_sound (hW : WR G B I₀ w₀ I μ w ρ h) {l : SL} {m : Nat} {ls : List SL} {v : Value} (hl : loadLs G h m l = some ls) (hv : LR I μ w ρ l v) :
    ∃ (blk off : Nat) (vs : List Value), v = .pointer (some ⟨blk, off, none⟩) ∧ vs.length = m ∧ CellsAt w blk off vs ∧ LsR I μ w ρ ls vs := by
  cases l with
  | p r off =>
    obtain ⟨x, hx, rfl⟩ := hv
    simp only [loadLs] at hl
    split at hl
    · rename_i ls' hls'
      split at hl
      · rename_i hle
        cases hl
        obtain ⟨vs, ty, fz, h1, h2⟩ := leavesAt_sound hW hls' hx
        refine ⟨x, off, (vs.drop off).take m, rfl, ?_, cellsAt_of_heap h1 m, (h2.drop off).take m⟩
        have := h2.length
        simp; omega
      · cases hl
    · cases hl
  | dyn r base sz n i j =>
    obtain ⟨x, k, mi, hx, hi, h0, hlt, rfl⟩ := hv
    obtain ⟨mi, rfl⟩ := Int.eq_ofNat_of_zero_le h0
    simp only [loadLs] at hl
    split at hl
    · rename_i ls' hls'
      split at hl
      · rename_i hc
        obtain ⟨hj, hb, hn⟩ := hc
        obtain ⟨vs, ty, fz, h1, h2⟩ := leavesAt_sound hW hls' hx
        have hlen := h2.length
        have hin : base + (mi * sz + j) + m ≤ vs.length := by
          have : mi < n := by omega
          have : mi * sz + sz ≤ n * sz := by
            rw [← Nat.succ_mul]; exact Nat.mul_le_mul_right _ (by omega)
          omega
        refine ⟨x, base + (mi * sz + j), (vs.drop (base + (mi * sz + j))).take m, by simp, by simp; omega, cellsAt_of_heap h1 m, ?_⟩
        have hg := optAll_get hl
        have hlm : ls.length = m := by have := congrArg List.length hg; simpa using this.symm
        refine All2.of_get (by simp; omega) fun q a b ha hb' => ?_
        have hq : q < m := by have := (List.getElem?_eq_some_iff.1 ha).1; omega
        have hg' := congrArg (fun l => l[q]?) hg
        simp [hq, List.getElem?_range, ha] at hg'
        rw [List.getElem?_take, if_pos hq, List.getElem?_drop] at hb'
        obtain ⟨a', ha', hr⟩ := h2.get' hb'
        refine dynSel_sound hg' hi (by omega) ?_
        rw [List.getD_eq_getElem?_getD, show base + mi * sz + (j + q) = base + (mi * sz + j) + q from by omega, ha']
        exact hr
      · cases hl
    · cases hl
  | elt t i n j =>
    obtain ⟨xs, k, mi, r, blk, off, h1, h2, h3, h4, ⟨h5, _⟩, rfl, h7, h8⟩ := hv
    simp only [loadLs] at hl
    split at hl
    · rename_i hc
      cases hl
      have hu : ∀ q, q < m → ∃ u, w.cell? ⟨blk, off + (j + q), none⟩ = some u ∧ ∃ d, r[j + q]? = some d ∧ DR I w d u := fun q hq => by
        have : j + q < r.length := by omega
        obtain ⟨u, hu, hd⟩ := h8 (j + q) _ (List.getElem?_eq_getElem this)
        exact ⟨u, hu, _, List.getElem?_eq_getElem this, hd⟩
      refine ⟨blk, off + j, (List.range m).map fun q => (w.cell? ⟨blk, off + (j + q), none⟩).getD undef, rfl, by simp, ?_, ?_⟩
      · intro q u hq
        have hqm : q < m := by have := (List.getElem?_eq_some_iff.1 hq).1; simpa using this
        obtain ⟨u', hu', _⟩ := hu q hqm
        simp [hqm, List.getElem?_range, hu'] at hq
        subst hq
        rw [Nat.add_assoc]
        exact hu'
      · refine All2.of_get (by simp) fun q a b ha hb => ?_
        have hqm : q < m := by have := (List.getElem?_eq_some_iff.1 ha).1; simpa using this
        obtain ⟨u', hu', d, hd, hdr⟩ := hu q hqm
        simp [hqm, List.getElem?_range] at ha hb
        subst ha
        subst hb
        rw [hu']
        obtain ⟨mi, rfl⟩ := Int.eq_ofNat_of_zero_le h3
        refine ⟨d, ?_, hdr⟩
        simp only [Int.toNat_natCast] at h4
        simp [Ex.eval, h1, h2, idxD, h4, hd]
    · cases hl
  | x => simp [loadLs] at hl
  | e t => simp [loadLs] at hl
  | sc r b s n => simp [loadLs] at hl
  | g k => simp [loadLs] at hl
  | ge k i sz j => simp [loadLs] at hl
  | gs k sz lo => simp [loadLs] at hl
  | clo f c => simp [loadLs] at hl

/-! ### the world changes -/

/-- One of the call's own blocks is written. -/
theorem WR.write (hW : WR G B I₀ w₀ I μ w ρ h) {w' : World} {b x : Nat} {blk : SB} {ls : List SL} {vs : List Value} {ty : TypeId} (hb : μ b = some x) (hh : h[b]? = some blk) (hro : blk.ro = false)
    (hx : w'.heap[x]? = some (.cells vs.toArray ty (0, 0))) (ho : ∀ y, y ≠ x → w'.heap[y]? = w.heap[y]?) (hs : w'.heap.size = w.heap.size) (hn : w'.os = w.os ∧ w'.output = w.output) (hl : LsR I μ w ρ ls vs) :
    WR G B I₀ w₀ I μ w' ρ (h.set b { blk with ls := ls }) ∧ Evo I μ w I μ w' := by
  obtain ⟨blk', hb', vs0, ty0, h1, h2, h3⟩ := hW.blk b x hb
  rw [hh] at hb'
  cases hb'
  simp only [hro] at h3
  obtain ⟨hnI, hB⟩ : ¬ I x ∧ B ≤ x := h3
  have hsame : ∀ y, I y → w'.heap[y]? = w.heap[y]? := fun y hy => ho y (fun e => hnI (e ▸ hy))
  have he : Evo I μ w I μ w' := ⟨fun _ h => h, hsame, fun _ _ h => h, fun _ _ h => h⟩
  refine ⟨⟨fun b' x' hb' => ?_, hW.inj, hW.glo.mono (fun _ h => h) hsame, fun y hy => ?_, hs ▸ hW.size, fun y hy => hs ▸ hW.imm y hy, hW.imm0, ⟨hn.1.trans hW.wd.1, hn.2.trans hW.wd.2⟩⟩, he⟩
  · by_cases hbb : b' = b
    · subst hbb
      rw [hb] at hb'
      cases hb'
      refine ⟨{ blk with ls := ls }, ?_, vs, ty, hx, hl.imp fun _ _ hr => hr.mono he (List.prefix_refl _), ?_⟩
      · have := (List.getElem?_eq_some_iff.1 hh).1
        simp [this]
      · simp only [hro]; exact ⟨hnI, hB⟩
    · obtain ⟨blk', h1', vs', ty', h2', h3', h4'⟩ := hW.blk b' x' hb'
      have hne : x' ≠ x := fun e => by
        subst e
        rcases hW.inj b' b x' hb' hb with h | h
        · exact hbb h
        · exact hnI h
      refine ⟨blk', ?_, vs', ty', (ho x' hne).trans h2', h3'.imp fun _ _ hr => hr.mono he (List.prefix_refl _), h4'⟩
      rw [List.getElem?_set_ne (Ne.symm hbb)]
      exact h1'
  · rw [ho y (by omega)]
    exact hW.old y hy

/-- A new block. -/
theorem WR.alloc (hW : WR G B I₀ w₀ I μ w ρ h) {ls : List SL} {vs : List Value} (ty : TypeId) (hl : LsR I μ w ρ ls vs) :
    WR G B I₀ w₀ I { μ with m := fun b => if b = h.length then some w.heap.size else μ b } (w.alloc (.cells vs.toArray ty)) ρ (h ++ [{ ro := false, ls := ls }]) ∧
    Evo I μ w I { μ with m := fun b => if b = h.length then some w.heap.size else μ b } (w.alloc (.cells vs.toArray ty)) := by
  have hmu : ∀ b x, μ b = some x → b < h.length := fun b x hb => by
    obtain ⟨blk, hb', _⟩ := hW.blk b x hb
    exact (List.getElem?_eq_some_iff.1 hb').1
  have hxs : ∀ b x, μ b = some x → x < w.heap.size := fun b x hb => by
    obtain ⟨blk, hb', vs', ty', h1, _⟩ := hW.blk b x hb
    exact (Array.getElem?_eq_some_iff.1 h1).1
  have hold : ∀ y, y < w.heap.size → (w.alloc (.cells vs.toArray ty)).heap[y]? = w.heap[y]? := fun y hy => by
    show (w.heap.push _)[y]? = _
    rw [Array.getElem?_push, if_neg (by omega)]
  have he : Evo I μ w I { μ with m := fun b => if b = h.length then some w.heap.size else μ b } (w.alloc (.cells vs.toArray ty)) :=
    ⟨fun _ h => h, fun y hy => hold y (hW.imm y hy), fun b x hb => by simp [Nat.ne_of_lt (hmu b x hb), hb], fun _ _ h => h⟩
  refine ⟨⟨fun b x hb => ?_, fun b b' x hb hb' => ?_, hW.glo.mono (fun _ h => h) (fun y hy => hold y (hW.imm y hy)), fun y hy => ?_, ?_, fun y hy => ?_, hW.imm0, hW.wd⟩, he⟩
  · by_cases hbn : b = h.length
    · simp only [hbn, if_true] at hb
      cases hb
      refine ⟨{ ro := false, ls := ls }, by subst hbn; simp, vs, ty, by show (w.heap.push _)[w.heap.size]? = _; simp, hl.imp fun _ _ hr => hr.mono he (List.prefix_refl _), ?_⟩
      exact ⟨fun hI => absurd (hW.imm _ hI) (by omega), hW.size⟩
    · simp only [hbn, if_false] at hb
      obtain ⟨blk, h1, vs', ty', h2, h3, h4⟩ := hW.blk b x hb
      refine ⟨blk, by rw [List.getElem?_append_left (hmu b x hb)]; exact h1, vs', ty', (hold x (hxs b x hb)).trans h2, h3.imp fun _ _ hr => hr.mono he (List.prefix_refl _), h4⟩
  · by_cases hbn : b = h.length <;> by_cases hbn' : b' = h.length
    · exact .inl (hbn.trans hbn'.symm)
    · simp only [hbn, if_true, hbn', if_false] at hb hb'
      cases hb
      exact absurd (hxs b' _ hb') (by omega)
    · simp only [hbn, if_false, hbn', if_true] at hb hb'
      cases hb'
      exact absurd (hxs b _ hb) (by omega)
    · simp only [hbn, if_false, hbn'] at hb hb'
      exact hW.inj b b' x hb hb'
  · rw [hold y (by have := hW.size; omega)]
    exact hW.old y hy
  · have := hW.size; rw [World.size_alloc]; omega
  · have := hW.imm y hy; rw [World.size_alloc]; omega

/-- A new block, in the place that is kept for it. -/
theorem WR.allocAt (hW : WR G B I₀ w₀ I μ w ρ h) {b : Nat} {ls : List SL} {vs : List Value} (ty : TypeId) (hb : h[b]? = some { ro := false, ls := ls }) (hn : μ b = none) (hl : LsR I μ w ρ ls vs) :
    WR G B I₀ w₀ I { μ with m := fun b' => if b' = b then some w.heap.size else μ b' } (w.alloc (.cells vs.toArray ty)) ρ h ∧
    Evo I μ w I { μ with m := fun b' => if b' = b then some w.heap.size else μ b' } (w.alloc (.cells vs.toArray ty)) := by
  have hne : ∀ b' x, μ b' = some x → b' ≠ b := fun b' x hb' e => by subst e; rw [hn] at hb'; cases hb'
  have hxs : ∀ b x, μ b = some x → x < w.heap.size := fun b x hb => by
    obtain ⟨blk, hb', vs', ty', h1, _⟩ := hW.blk b x hb
    exact (Array.getElem?_eq_some_iff.1 h1).1
  have hold : ∀ y, y < w.heap.size → (w.alloc (.cells vs.toArray ty)).heap[y]? = w.heap[y]? := fun y hy => by
    show (w.heap.push _)[y]? = _
    rw [Array.getElem?_push, if_neg (by omega)]
  have he : Evo I μ w I { μ with m := fun b' => if b' = b then some w.heap.size else μ b' } (w.alloc (.cells vs.toArray ty)) :=
    ⟨fun _ h => h, fun y hy => hold y (hW.imm y hy), fun b' x hb' => by simp [hne b' x hb', hb'], fun _ _ h => h⟩
  refine ⟨⟨fun b' x hb' => ?_, fun b1 b2 x h1 h2 => ?_, hW.glo.mono (fun _ h => h) (fun y hy => hold y (hW.imm y hy)), fun y hy => ?_, ?_, fun y hy => ?_, hW.imm0, hW.wd⟩, he⟩
  · by_cases hbn : b' = b
    · subst hbn
      simp only [if_true] at hb'
      cases hb'
      refine ⟨{ ro := false, ls := ls }, hb, vs, ty, by show (w.heap.push _)[w.heap.size]? = _; simp, hl.imp fun _ _ hr => hr.mono he (List.prefix_refl _), ?_⟩
      exact ⟨fun hI => absurd (hW.imm _ hI) (by omega), hW.size⟩
    · simp only [hbn, if_false] at hb'
      obtain ⟨blk, h1, vs', ty', h2, h3, h4⟩ := hW.blk b' x hb'
      exact ⟨blk, h1, vs', ty', (hold x (hxs b' x hb')).trans h2, h3.imp fun _ _ hr => hr.mono he (List.prefix_refl _), h4⟩
  · by_cases hbn : b1 = b <;> by_cases hbn' : b2 = b
    · exact .inl (hbn.trans hbn'.symm)
    · simp only [hbn, if_true, hbn', if_false] at h1 h2
      cases h1
      exact absurd (hxs b2 _ h2) (by omega)
    · simp only [hbn, if_false, hbn', if_true] at h1 h2
      cases h2
      exact absurd (hxs b1 _ h1) (by omega)
    · simp only [hbn, if_false, hbn'] at h1 h2
      exact hW.inj b1 b2 x h1 h2
  · rw [hold y (by have := hW.size; omega)]
    exact hW.old y hy
  · have := hW.size; rw [World.size_alloc]; omega
  · have := hW.imm y hy; rw [World.size_alloc]; omega

/-- The heap is as it was; the world, too. -/
theorem WR.same (hW : WR G B I₀ w₀ I μ w ρ h) {w' : World} (hh : w'.heap = w.heap) (hn : w'.os = w.os ∧ w'.output = w.output) : WR G B I₀ w₀ I μ w' ρ h ∧ Evo I μ w I μ w' := by
  have he : Evo I μ w I μ w' := ⟨fun _ h => h, fun _ _ => by rw [hh], fun _ _ h => h, fun _ _ h => h⟩
  refine ⟨⟨fun b x hb => ?_, hW.inj, hW.glo.mono (fun _ h => h) (fun _ _ => by rw [hh]), fun y hy => by rw [hh]; exact hW.old y hy, hh ▸ hW.size, fun y hy => hh ▸ hW.imm y hy, hW.imm0, ⟨hn.1.trans hW.wd.1, hn.2.trans hW.wd.2⟩⟩, he⟩
  obtain ⟨blk, h1, vs, ty, h2, h3, h4⟩ := hW.blk b x hb
  exact ⟨blk, h1, vs, ty, by rw [hh]; exact h2, h3.imp fun _ _ hr => hr.mono he (List.prefix_refl _), h4⟩

/-- More variables. -/
theorem WR.vars (hW : WR G B I₀ w₀ I μ w ρ h) {ρ' : List D} (hp : ρ <+: ρ') : WR G B I₀ w₀ I μ w ρ' h :=
  ⟨fun b x hb => by
    obtain ⟨blk, h1, vs, ty, h2, h3, h4⟩ := hW.blk b x hb
    exact ⟨blk, h1, vs, ty, h2, h3.imp fun _ _ hr => hr.mono (Evo.refl _ _ _) hp, h4⟩, hW.inj, hW.glo, hW.old, hW.size, hW.imm, hW.imm0, hW.wd⟩

end
end Go.Proofs.YtlihbielphcgbaaGreatDoor.Sx

namespace Go.Proofs.YtlihbielphcgbaaGreatDoor.Sx
open Go
set_option linter.unnecessarySimpa false
set_option linter.unusedSimpArgs false
set_option linter.unusedVariables false

/-- what eqLs reckons, lazily -/
def eqDs (ρ : List D) : List Bool → List Ex → List Ex → Option Bool
  | [], [], [] => some true
  | g :: gs, x :: xs, y :: ys => match (Ex.eqt g x y).eval ρ with
    | some (.b true) => eqDs ρ gs xs ys
    | some (.b false) => some false
    | _ => none
  | _, _, _ => none

theorem eqtD_bool {g : Bool} {a b d : D} (h : eqtD g a b = some d) : ∃ q, d = .b q := by
  unfold eqtD at h
  split at h
  · split at h <;> simp at h; exact ⟨_, h.symm⟩
  · split at h
    · simp at h
    · split at h <;> simp at h; exact ⟨_, h.symm⟩
  · cases h

theorem eqLs_eval {ρ : List D} : ∀ {gs : List Bool} {xs ys : List Ex} {r : Ex}, eqLs gs xs ys = some r → r.eval ρ = (eqDs ρ gs xs ys).map D.b
  | [], [], [], r, h => by simp [eqLs] at h; subst h; simp [Ex.eval, eqDs]
  | g :: gs, x :: xs, y :: ys, r, h => by
    simp only [eqLs] at h
    split at h
    · rename_i r' hr'
      cases h
      rw [mkIte_eval]
      simp only [Ex.eval, mkEqt_eval, eqDs, eqLs_eval hr']
      cases x.eval ρ with
      | none => simp
      | some a =>
        cases y.eval ρ with
        | none => simp
        | some b =>
          simp only
          cases hq : eqtD g a b with
          | none => simp
          | some d =>
            obtain ⟨q, rfl⟩ := eqtD_bool hq
            cases q <;> simp
    · cases h
  | [], _ :: _, _, _, h => by simp [eqLs] at h
  | [], [], _ :: _, _, h => by simp [eqLs] at h
  | _ :: _, [], _, _, h => by simp [eqLs] at h
  | _ :: _, _ :: _, [], _, h => by simp [eqLs] at h

theorem eqDs_append {ρ : List D} : ∀ {gs : List Bool} {xs ys : List Ex} (hs : List Bool) (xs' ys' : List Ex), xs.length = gs.length → ys.length = gs.length →
    eqDs ρ (gs ++ hs) (xs ++ xs') (ys ++ ys') = match eqDs ρ gs xs ys with
      | some true => eqDs ρ hs xs' ys'
      | r => r
  | [], [], [], hs, xs', ys', _, _ => by simp [eqDs]
  | g :: gs, x :: xs, y :: ys, hs, xs', ys', h1, h2 => by
    simp only [List.cons_append, eqDs]
    cases (Ex.eqt g x y).eval ρ with
    | none => simp
    | some d =>
      cases d with
      | b q =>
        cases q
        · simp
        · simp only; exact eqDs_append hs xs' ys' (by simpa using h1) (by simpa using h2)
      | _ => simp
  | [], _ :: _, _, _, _, _, h, _ => by simp at h
  | [], _, _ :: _, _, _, _, _, h => by simp at h
  | _ :: _, [], _, _, _, _, h, _ => by simp at h
  | _ :: _, _, [], _, _, _, _, h => by simp at h

/-- a value of a type, and its cells -/
def ValOf (P : Program) (t : TypeId) (vs : List Value) (v : Value) : Prop :=
  (aggT P t = some true ∧ v = .agg vs.toArray) ∨ (aggT P t = some false ∧ vs = [v])

section
variable {P : Program} {I : Imm} {μ : Mu} {w : World} {ρ : List D}

theorem run_isAgg {t : TypeId} {g : Bool} (h : aggT P t = some g) (w : World) : (isAgg t).run P w = .ok g w := by
  unfold aggT at h
  unfold isAgg
  split at h
  · rename_i fs hu; cases h; simp [run_underlying hu]
  · rename_i n e hu; cases h; simp [run_underlying hu]
  · rename_i d hn1 hn2 hu
    cases h
    rw [Sem.run_bind, run_underlying hu]
    cases d <;> simp_all
  · cases h

theorem run_sizeT {t : TypeId} {n : Nat} (h : sizeT P t = some n) (w : World) : (sizeOf t).run P w = .ok n w := by
  unfold sizeT at h
  split at h
  · rename_i i hi; cases h; simp [sizeOf, typeInfo, hi]
  · cases h

theorem run_part {t : TypeId} {n off : Nat} {vs : List Value} (hs : sizeT P t = some n) {g : Bool} (hg : aggT P t = some g) (hl : off + n ≤ vs.length) (h1 : g = false → n = 1) (w : World) :
    ∃ v, (part t vs.toArray off).run P w = .ok v w ∧ ValOf P t ((vs.drop off).take n) v := by
  unfold part
  cases g
  · obtain rfl := h1 rfl
    have hlt : off < vs.length := by omega
    refine ⟨vs[off], ?_, .inr ⟨hg, ?_⟩⟩
    · simp [run_isAgg hg, hlt]
    · rw [List.drop_eq_getElem_cons hlt]; simp only [List.take_succ_cons, List.take_zero]
  · refine ⟨_, ?_, .inl ⟨hg, rfl⟩⟩
    simp only [Sem.run_bind, run_isAgg hg, Result.andThen_ok, if_true, run_sizeT hs]
    simp [Sem.run_bind, run_sizeT hs, List.extract_eq_take_drop]

theorem aggT_bool {t : TypeId} (h : P.underlying t = some .bool) : aggT P t = some false := by simp [aggT, h]
theorem aggT_int {t : TypeId} {k : IntKind} (h : P.underlying t = some (.int k)) : aggT P t = some false := by simp [aggT, h]
theorem aggT_struct {t : TypeId} {fs : Array Field} (h : P.underlying t = some (.struct fs)) : aggT P t = some true := by simp [aggT, h]
theorem aggT_array {t : TypeId} {n : Nat} {e : TypeId} (h : P.underlying t = some (.array n e)) : aggT P t = some true := by simp [aggT, h]

theorem plainT_agg {d : Nat} {t : TypeId} {gs : List Bool} (h : plainT P d t = some gs) : ∃ g, aggT P t = some g ∧ (g = false → gs.length = 1) := by
  cases d with
  | zero => simp [plainT] at h
  | succ d =>
    simp only [plainT] at h
    split at h
    · rename_i hu; cases h; exact ⟨false, aggT_bool hu, fun _ => rfl⟩
    · rename_i k hu; cases h; exact ⟨false, aggT_int hu, fun _ => rfl⟩
    · rename_i fs hu; exact ⟨true, aggT_struct hu, fun h => by cases h⟩
    · rename_i n e hu; exact ⟨true, aggT_array hu, fun h => by cases h⟩
    · cases h

theorem lsR_ex {xs : List Ex} {vs : List Value} (h : LsR I μ w ρ (xs.map .e) vs) : All2 (fun x v => ∃ d, Ex.eval ρ x = some d ∧ DR I w d v) xs vs := All2.of_map_left h

def eqChain (q : Nat → Option Bool) : Nat → Nat → Option Bool
  | 0, _ => some true
  | n + 1, j => match q j with
    | some true => eqChain q n (j + 1)
    | z => z

theorem eqArr_run (Q : Nat → Sem Bool) (q : Nat → Option Bool) : ∀ (len i : Nat) (r : Bool) (w : World),
    (∀ j b, i ≤ j → j < i + len → q j = some b → (Q j).run P w = .ok b w) →
    eqChain q len i = some r →
    (do
      for j in List.range' i len do
        if !(← Q j) then return false
      pure true : Sem Bool).run P w = .ok r w
  | 0, i, r, w, _, h => by simp [eqChain] at h; subst h; simp
  | len + 1, i, r, w, hQ, h => by
    simp only [List.range'_succ]
    simp only [List.forIn_cons, Sem.run_bind]
    simp only [eqChain] at h
    cases hq : q i with
    | none => rw [hq] at h; cases h
    | some b =>
      rw [hQ i b (Nat.le_refl _) (by omega) hq]
      rw [hq] at h
      cases b
      · simp only at h; cases h
        simp
      · simp only at h
        simp only [Result.andThen_ok, Bool.not_true, Bool.false_eq_true, if_false]
        have ih := eqArr_run Q q len (i + 1) r w (fun j b h1 h2 => hQ j b (by omega) (by omega)) h
        simp only [Sem.run_bind] at ih
        simpa using ih

mutual
theorem eq_sound : ∀ (d : Nat) {t : TypeId} {gs : List Bool}, plainT P d t = some gs → ∀ (N : Nat), d ≤ N → ∀ {xs ys : List Ex} {vs us : List Value} {X Y : Value} {q : Bool},
    xs.length = gs.length → ys.length = gs.length → LsR I μ w ρ (xs.map .e) vs → LsR I μ w ρ (ys.map .e) us → ValOf P t vs X → ValOf P t us Y → eqDs ρ gs xs ys = some q →
    (Op.equalIn N t X Y).run P w = .ok q w
  | 0, t, gs, h => by simp [plainT] at h
  | d + 1, t, gs, h => by
    intro N hN xs ys vs us X Y q hx hy hvs hus hX hY hq
    obtain ⟨N, rfl⟩ : ∃ m, N = m + 1 := ⟨N - 1, by omega⟩
    simp only [plainT] at h
    split at h
    · -- bool
      rename_i hu
      cases h
      match xs, ys, hx, hy with
      | [x], [y], _, _ =>
        rcases hX with ⟨hg, _⟩ | ⟨_, rfl⟩
        · rw [aggT_bool hu] at hg; cases hg
        rcases hY with ⟨hg, _⟩ | ⟨_, rfl⟩
        · rw [aggT_bool hu] at hg; cases hg
        cases hvs with | cons h1 _ =>
        cases hus with | cons h2 _ =>
        obtain ⟨dx, hdx, hrx⟩ := h1
        obtain ⟨dy, hdy, hry⟩ := h2
        simp only [eqDs, Ex.eval, hdx, hdy] at hq
        cases dx <;> cases dy <;> simp only [eqtD, if_true, Bool.false_eq_true, if_false] at hq <;> try cases hq
        rename_i a b
        cases hrx; cases hry
        rw [run_equalIn_bool' w N t a b hu]
        cases hab : (a == b) <;> rw [hab] at hq <;> simp at hq <;> subst hq <;> rfl
    · -- int
      rename_i k hu
      cases h
      match xs, ys, hx, hy with
      | [x], [y], _, _ =>
        rcases hX with ⟨hg, _⟩ | ⟨_, rfl⟩
        · rw [aggT_int hu] at hg; cases hg
        rcases hY with ⟨hg, _⟩ | ⟨_, rfl⟩
        · rw [aggT_int hu] at hg; cases hg
        cases hvs with | cons h1 _ =>
        cases hus with | cons h2 _ =>
        obtain ⟨dx, hdx, hrx⟩ := h1
        obtain ⟨dy, hdy, hry⟩ := h2
        simp only [eqDs, Ex.eval, hdx, hdy] at hq
        cases dx <;> cases dy <;> simp only [eqtD, if_true, Bool.false_eq_true, if_false] at hq <;> try cases hq
        rename_i k1 a k2 b
        cases hrx; cases hry
        by_cases hk : k1 = k2
        · subst hk
          rw [run_equalIn_int w N t k1 k a b hu]
          simp only [if_true] at hq
          cases hab : (a == b) <;> rw [hab] at hq <;> simp at hq <;> subst hq <;> rfl
        · simp [hk] at hq
    · -- struct
      rename_i fs hu
      split at h
      · cases h
      · rename_i hst
        rcases hX with ⟨_, rfl⟩ | ⟨hg, _⟩
        case inr => rw [aggT_struct hu] at hg; cases hg
        rcases hY with ⟨_, rfl⟩ | ⟨hg, _⟩
        case inr => rw [aggT_struct hu] at hg; cases hg
        have hf : P.underlying t = some (.struct (P.fieldsOf t)) := by simp [Program.fieldsOf, hu]
        have hff : P.fieldsOf t = fs := by simp [Program.fieldsOf, hu]
        rw [run_equalIn_struct w N t _ _ hf (by simpa using hst), hff]
        have := eqFs_sound d h N (by omega) (xs := xs) (ys := ys) (vs := vs) (us := us) (q := q) (by simpa using hx) (by simpa using hy) hvs hus (by simpa using hq)
        exact this
    · -- array
      rename_i n e hu
      split at h
      · rename_i gs' hgs'
        split at h
        · rename_i hsz
          cases h
          rcases hX with ⟨_, rfl⟩ | ⟨hg, _⟩
          case inr => rw [aggT_array hu] at hg; cases hg
          rcases hY with ⟨_, rfl⟩ | ⟨hg, _⟩
          case inr => rw [aggT_array hu] at hg; cases hg
          simp only [Op.equalIn, Sem.run_bind, run_underlying hu, Result.andThen_ok, run_sizeT hsz]
          obtain ⟨g, hg, hg1⟩ := plainT_agg hgs'
          have key := eqArr_run (P := P) (fun i => do
              let a ← part e vs.toArray (i * gs'.length)
              let b ← part e us.toArray (i * gs'.length)
              Op.equalIn N e a b)
            (fun i => eqDs ρ gs' ((xs.drop (i * gs'.length)).take gs'.length) ((ys.drop (i * gs'.length)).take gs'.length)) n 0 q w
            (fun j b _ hj hb => by
              have hln : (List.replicate n gs').flatten.length = n * gs'.length := by simp
              have hjn : j * gs'.length + gs'.length ≤ n * gs'.length := by
                rw [← Nat.succ_mul]; exact Nat.mul_le_mul_right _ (by omega)
              have hvl : vs.length = n * gs'.length := by have := hvs.length; simp at this; omega
              have hul : us.length = n * gs'.length := by have := hus.length; simp at this; omega
              obtain ⟨a1, ha1, hv1⟩ := run_part hsz hg (off := j * gs'.length) (vs := vs) (by omega) hg1 w
              obtain ⟨a2, ha2, hv2⟩ := run_part hsz hg (off := j * gs'.length) (vs := us) (by omega) hg1 w
              simp only [Sem.run_bind, ha1, ha2, Result.andThen_ok]
              refine eq_sound d hgs' N (by omega) (xs := (xs.drop (j * gs'.length)).take gs'.length) (ys := (ys.drop (j * gs'.length)).take gs'.length) (by simp; omega) (by simp; omega) ?_ ?_ hv1 hv2 hb
              · rw [List.map_take, List.map_drop]; exact (hvs.drop _).take _
              · rw [List.map_take, List.map_drop]; exact (hus.drop _).take _)
            (by
              have : ∀ (m i : Nat) (xs ys : List Ex), xs.length = m * gs'.length → ys.length = m * gs'.length → ∀ (X Y : List Ex), xs = X.drop (i * gs'.length) → ys = Y.drop (i * gs'.length) → ∀ q, eqDs ρ (List.replicate m gs').flatten xs ys = some q →
                  eqChain (fun j => eqDs ρ gs' ((X.drop (j * gs'.length)).take gs'.length) ((Y.drop (j * gs'.length)).take gs'.length)) m i = some q := by
                intro m
                induction m with
                | zero =>
                  intro i xs ys h1 h2 X Y _ _ q hq
                  have h1 : xs = [] := by simpa using h1
                  have h2 : ys = [] := by simpa using h2
                  subst h1; subst h2
                  simpa [eqDs, eqChain] using hq
                | succ m ih =>
                  intro i xs ys h1 h2 X Y hX hY q hq
                  have e1 : xs = xs.take gs'.length ++ xs.drop gs'.length := (List.take_append_drop _ _).symm
                  have e2 : ys = ys.take gs'.length ++ ys.drop gs'.length := (List.take_append_drop _ _).symm
                  have l1 : gs'.length ≤ xs.length := by rw [h1, Nat.succ_mul]; omega
                  have l2 : gs'.length ≤ ys.length := by rw [h2, Nat.succ_mul]; omega
                  rw [List.replicate_succ, List.flatten_cons, e1, e2, eqDs_append _ _ _ (by simp; omega) (by simp; omega)] at hq
                  rw [hX, hY] at hq
                  simp only [eqChain]
                  cases hz : eqDs ρ gs' ((X.drop (i * gs'.length)).take gs'.length) ((Y.drop (i * gs'.length)).take gs'.length) with
                  | none => rw [hz] at hq; cases hq
                  | some z =>
                    rw [hz] at hq
                    cases z
                    · exact hq
                    · simp only at hq ⊢
                      refine ih (i + 1) _ _ ?_ ?_ X Y ?_ ?_ q hq
                      · rw [← hX, List.length_drop, h1, Nat.succ_mul]; omega
                      · rw [← hY, List.length_drop, h2, Nat.succ_mul]; omega
                      · rw [List.drop_drop, Nat.succ_mul]
                      · rw [List.drop_drop, Nat.succ_mul]
              refine this n 0 xs ys ?_ ?_ xs ys (by simp) (by simp) q hq
              · simpa using hx
              · simpa using hy)
          simp only [Sem.run_bind] at key
          rw [Std.Legacy.Range.forIn_eq_forIn_range']
          simpa [Std.Legacy.Range.size] using key
        · cases h
      · cases h
    · cases h
theorem eqFs_sound : ∀ (d : Nat) {fs : List Field} {off : Nat} {gs : List Bool}, plainFs P (plainT P d) fs off = some gs → ∀ (N : Nat), d ≤ N → ∀ {xs ys : List Ex} {vs us : List Value} {q : Bool},
    xs.length = off + gs.length → ys.length = off + gs.length → LsR I μ w ρ (xs.map .e) vs → LsR I μ w ρ (ys.map .e) us → eqDs ρ gs (xs.drop off) (ys.drop off) = some q →
    (Op.eqFields N vs.toArray us.toArray fs).run P w = .ok q w
  | d, [], off, gs, h => by
    intro N hN xs ys vs us q hx hy hvs hus hq
    simp only [plainFs] at h
    cases h
    have h1 : xs.drop off = [] := List.drop_eq_nil_of_le (by simp at hx; omega)
    have h2 : ys.drop off = [] := List.drop_eq_nil_of_le (by simp at hy; omega)
    rw [h1, h2] at hq
    simp [eqDs] at hq
    subst hq
    simp [Op.eqFields]
  | d, f :: fs, off, gs, h => by
    intro N hN xs ys vs us q hx hy hvs hus hq
    simp only [plainFs] at h
    split at h
    · rename_i hn
      obtain ⟨hname, hoff⟩ := hn
      split at h
      · rename_i gs1 hgs1
        split at h
        · rename_i hsz
          split at h
          · rename_i gs2 hgs2
            cases h
            simp only [List.length_append] at hx hy
            have hvl : vs.length = xs.length := by have := hvs.length; simp at this; omega
            have hul : us.length = ys.length := by have := hus.length; simp at this; omega
            obtain ⟨g, hg, hg1⟩ := plainT_agg hgs1
            obtain ⟨a1, ha1, hv1⟩ := run_part hsz hg (off := off) (vs := vs) (by omega) hg1 w
            obtain ⟨a2, ha2, hv2⟩ := run_part hsz hg (off := off) (vs := us) (by omega) hg1 w
            have e1 : xs.drop off = (xs.drop off).take gs1.length ++ xs.drop (off + gs1.length) := by
              rw [← List.drop_drop]; exact (List.take_append_drop _ _).symm
            have e2 : ys.drop off = (ys.drop off).take gs1.length ++ ys.drop (off + gs1.length) := by
              rw [← List.drop_drop]; exact (List.take_append_drop _ _).symm
            rw [e1, e2, eqDs_append _ _ _ (by simp; omega) (by simp; omega)] at hq
            simp only [Op.eqFields, hname, ne_eq, not_false_eq_true, if_true, Sem.run_bind, hoff, ha1, ha2, Result.andThen_ok]
            cases hz : eqDs ρ gs1 ((xs.drop off).take gs1.length) ((ys.drop off).take gs1.length) with
            | none => rw [hz] at hq; cases hq
            | some z =>
              rw [hz] at hq
              have hh := eq_sound d hgs1 N hN (xs := (xs.drop off).take gs1.length) (ys := (ys.drop off).take gs1.length) (q := z) (by simp; omega) (by simp; omega)
                (by rw [List.map_take, List.map_drop]; exact (hvs.drop _).take _) (by rw [List.map_take, List.map_drop]; exact (hus.drop _).take _) hv1 hv2 hz
              rw [hh]
              cases z
              · simp only at hq; cases hq; simp
              · simp only at hq
                have ih := eqFs_sound d hgs2 N hN (xs := xs) (ys := ys) (vs := vs) (us := us) (q := q) (by omega) (by omega) hvs hus hq
                simpa using ih
          · cases h
        · cases h
      · cases h
    · cases h
end
end
end Go.Proofs.YtlihbielphcgbaaGreatDoor.Sx
