/-
 Layer 19: a tree's pages: contract.
-/
import Derived.Test.YtnkjmocacielmaaDoorZTabt
namespace Go.Proofs.YtnkjmocacielmaaDoor.Sx
open Go
set_option linter.unusedVariables false
set_option linter.unusedSimpArgs false
set_option maxRecDepth 100000
def vaN (n : Nat) : Nat := signN (n % 134217728 * 4096) 39
abbrev Pg := Nat × Nat × Pt
def pgD (x : Pg) : List D := [U (vaN (x.1 / 4096)), U (x.2.2.ppn * 4096), I x.2.1, .b x.2.2.r, .b x.2.2.w, .b x.2.2.x, .b x.2.2.u, .b x.2.2.d]
def pgL (s : Nat) (cs : List Cl) : Nat → Nat → Nat → List Pg
 | 0, t, b => (List.range 512).flatMap fun j => if (ptN (entN s cs t j)).bad ((0 : Nat) : Int) = true then [] else if (ptN (entN s cs t j)).leaf = true then [(b + j * szN ((0 : Nat) : Int), 0, ptN (entN s cs t j))] else []
 | l + 1, t, b => (List.range 512).flatMap fun j => if (ptN (entN s cs t j)).bad ((l + 1 : Nat) : Int) = true then [] else if (ptN (entN s cs t j)).leaf = true then [(b + j * szN ((l + 1 : Nat) : Int), l + 1, ptN (entN s cs t j))] else pgL s cs l (ptN (entN s cs t j)).ppn (b + j * szN ((l + 1 : Nat) : Int))
def pgE (s : Nat) (cs : List Cl) (l t b j : Nat) : List Pg := if (ptN (entN s cs t j)).bad (l : Int) = true then [] else if (ptN (entN s cs t j)).leaf = true then [(b + j * szN (l : Int), l, ptN (entN s cs t j))] else pgL s cs (l - 1) (ptN (entN s cs t j)).ppn (b + j * szN (l : Int))
theorem pgL_eq {s l t b : Nat} {cs : List Cl} : pgL s cs l t b = (List.range 512).flatMap (pgE s cs l t b) := by
 cases l with
 | zero =>
  unfold pgL
  refine congrArg (fun f => List.flatMap f (List.range 512)) (funext fun j => ?_)
  unfold pgE
  split
  ·rfl
  ·rename_i hb
   have hb : (ptN (entN s cs t j)).bad ((0 : Nat) : Int) = false := by simpa using hb
   rw [if_pos (Pt.leaf_of hb (Pt.link_low hb)), if_pos (Pt.leaf_of hb (Pt.link_low hb))]
 | succ l => rfl
def roomP : Nat → Nat
 | 0 => 512
 | l + 1 => 512 * roomP l
theorem roomP_pos {l : Nat} : 1 ≤ roomP l := by
 induction l with
 | zero => decide
 | succ l ih => rw [roomP]; omega
theorem pgL_len {s : Nat} {cs : List Cl} : ∀ {l t b : Nat}, (pgL s cs l t b).length ≤ roomP l
 | 0, t, b => by
  rw [pgL_eq]
  have := flat_len (l := List.range 512) (b := 1) (f := pgE s cs 0 t b) fun j _ => by
   unfold pgE
   split
   ·simp
   ·rename_i hb
    have hb : (ptN (entN s cs t j)).bad ((0 : Nat) : Int) = false := by simpa using hb
    rw [if_pos (Pt.leaf_of hb (Pt.link_low hb))]
    simp
  rw [List.length_range] at this
  exact this
 | l + 1, t, b => by
  rw [pgL_eq, roomP]
  have := flat_len (l := List.range 512) (b := roomP l) (f := pgE s cs (l + 1) t b) fun j _ => by
   unfold pgE
   split
   ·simp
   ·split
    ·exact roomP_pos
    ·exact pgL_len
  rw [List.length_range] at this
  exact this
theorem roomP_le {l : Nat} (h : l ≤ 2) : roomP l ≤ 134217728 := by
 rcases l with _ | _ | _ | l <;> first | decide | omega
def slP (rows : List (List D)) : D := .sl (if rows.isEmpty then 0 else 8) rows
theorem app_p {ρ : List D} {x y : Ex} {a b : List (List D)} (hx : x.eval ρ = some (slP a)) (hy : y.eval ρ = some (slP b)) : (Ex.app 8 x y).eval ρ = some (slP (a ++ b)) := by
 simp only [Ex.eval, hx, hy, slP, appD]
 cases a <;> cases b <;> simp
theorem one_p {ρ : List D} {xs : List Ex} {ds : List D} (h : Ex.evals ρ xs = some ds) (hn : ds.length = 8) : (Ex.one xs).eval ρ = some (slP [ds]) := one_e h hn
theorem room_p {ρ : List D} {x : Ex} {b : Nat} {rows : List (List D)} (hx : x.eval ρ = some (slP rows)) (h : rows.length * b ≤ 2 ^ 40) : (Ex.room (.len x) b).eval ρ = some (.b true) := room_t hx h
end Go.Proofs.YtnkjmocacielmaaDoor.Sx
