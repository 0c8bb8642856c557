/-
  Layers 6 and 10: entries of tables, and walks, as plain data: no program in sight.
-/
import Derived.Test.YtngpjdieelcbmaaDoorMemj
import Derived.Test.YtngpjdieelcbmaaDoorVa
namespace Go.Proofs.YtngpjdieelcbmaaDoor.Sx
open Go
set_option linter.unusedVariables false
set_option linter.unusedSimpArgs false
set_option maxRecDepth 100000

/-- an entry of a table -/
structure Pt where
  v : Bool
  r : Bool
  w : Bool
  x : Bool
  u : Bool
  g : Bool
  a : Bool
  d : Bool
  rsw : Nat
  ppn : Nat
  high : Nat
def Pt.ds (p : Pt) : List D := [.b p.v, .b p.r, .b p.w, .b p.x, .b p.u, .b p.g, .b p.a, .b p.d, U p.rsw, U p.ppn, U p.high]
abbrev Pt.dv (p : Pt) : DV := (true, p.ds)
def Pt.zero : Pt := ⟨false, false, false, false, false, false, false, false, 0, 0, 0⟩
/-- the entry of a word -/
def ptN (w : Nat) : Pt := ⟨w.testBit 0, w.testBit 1, w.testBit 2, w.testBit 3, w.testBit 4, w.testBit 5, w.testBit 6, w.testBit 7, w / 256 % 4, w / 1024 % 17592186044416, w / 18014398509481984⟩
def Pt.link (p : Pt) : Bool := p.v && !p.r && !p.x
def Pt.leaf (p : Pt) : Bool := p.v && (p.r || p.x)
def Pt.bad (p : Pt) (l : Int) : Bool := !p.v || (p.w && !p.r) || p.high != 0 || (if !p.r && !p.x then l == 0 || p.a || p.d || p.u else p.ppn % pgN l != 0)
theorem Pt.leaf_of {p : Pt} {l : Int} (h : p.bad l = false) (hl : p.link = false) : p.leaf = true := by
  obtain ⟨v, r, w, x, u, g, a, d, rsw, ppn, high⟩ := p
  simp only [Pt.bad, Pt.link, Pt.leaf, Bool.or_eq_false_iff] at *
  revert h hl
  cases v <;> cases r <;> cases x <;> simp
theorem Pt.link_low {p : Pt} (h : p.bad 0 = false) : p.link = false := by
  obtain ⟨v, r, w, x, u, g, a, d, rsw, ppn, high⟩ := p
  simp only [Pt.bad, Pt.link, Bool.or_eq_false_iff] at *
  revert h
  cases v <;> cases r <;> cases x <;> simp
/-- where a walk ends -/
structure Lf where
  lv : Nat
  pl : Nat
  pt : Pt
def Lf.ds (l : Lf) : List D := I l.lv :: U l.pl :: l.pt.ds
abbrev Lf.dv (l : Lf) : DV := (true, l.ds)
def Lf.zero : Lf := ⟨0, 0, Pt.zero⟩
inductive Lk where
  | leaf (l : Lf)
  | fault (sort : Nat)
def causeN (sort : Nat) (k : Int) : Int := if sort = 2 then (if k = 0 then 1 else if k = 1 then 5 else 7) else (if k = 0 then 12 else if k = 1 then 13 else 15)
abbrev fdv (b : Bool) (c : Int) (a : Nat) : DV := (true, [.b b, I c, U a])
def Lk.rs (r : Lk) (k : Int) (a : Nat) : List DV := match r with
  | .leaf l => [l.dv, fdv false 0 0]
  | .fault q => [Lf.zero.dv, fdv true (causeN q k) a]
/-- where the entry is -/
def slotN (t a l : Nat) : Nat := 4096 * t + 8 * (a / szN l % 512)
def downN (s : Nat) (cs : List Cl) (a : Nat) : Nat → Nat → Bool → Lk
  | 0, t, g => if s ≤ slotN t a 0 then .fault 2 else if (ptN (wordN s cs (slotN t a 0))).bad 0 then .fault 3 else .leaf ⟨0, slotN t a 0, { ptN (wordN s cs (slotN t a 0)) with g := (ptN (wordN s cs (slotN t a 0))).g || g }⟩
  | l + 1, t, g => if s ≤ slotN t a (l + 1) then .fault 2 else if (ptN (wordN s cs (slotN t a (l + 1)))).bad (l + 1 : Nat) then .fault 3 else
    if (ptN (wordN s cs (slotN t a (l + 1)))).link then downN s cs a l (ptN (wordN s cs (slotN t a (l + 1)))).ppn ((ptN (wordN s cs (slotN t a (l + 1)))).g || g)
    else .leaf ⟨l + 1, slotN t a (l + 1), { ptN (wordN s cs (slotN t a (l + 1))) with g := (ptN (wordN s cs (slotN t a (l + 1)))).g || g }⟩
def isVaB (a : Nat) : Bool := decide (a < 274877906944 ∨ 18446743798831644672 ≤ a)
def lookW (s : Nat) (cs : List Cl) (t a : Nat) : Lk := if isVaB a then downN s cs a 2 t false else .fault 3
end Go.Proofs.YtngpjdieelcbmaaDoor.Sx
