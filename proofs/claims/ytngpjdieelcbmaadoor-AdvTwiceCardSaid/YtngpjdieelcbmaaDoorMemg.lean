/-
  Layer 3: clearing, and the reference's putting: contracts.
-/
import Derived.Test.YtngpjdieelcbmaaDoorMemf
namespace Go.Proofs.YtngpjdieelcbmaaDoor.Sx
open Go
set_option linter.unusedVariables false
set_option linter.unusedSimpArgs false
set_option maxRecDepth 100000

theorem crs_take {cs : List Cl} {n : Nat} : (crs cs).take n = crs (cs.take n) := by rw [crs, crs, List.map_take]
theorem crs_drop {cs : List Cl} {n : Nat} : (crs cs).drop n = crs (cs.drop n) := by rw [crs, crs, List.map_drop]
/-- what a list of two slices holds at a place -/
theorem two_e {ρ : List D} {x y ix : Ex} {k : Nat} {m : Nat} {a b : List (List D)} (hx : x.eval ρ = some (.sl k a)) (hy : y.eval ρ = some (.sl k b)) (hi : ix.eval ρ = some (.i .i64 (m : Int))) (hm : m < 2) : (Ex.idx (.cat (.one [x]) (.one [y])) ix 0).eval ρ = some (.sl k (if m = 0 then a else b)) := by
  have : (Ex.cat (.one [x]) (.one [y])).eval ρ = some (.sl 1 ([[.sl k a]] ++ [[.sl k b]])) := cat_e (one_e (evs_one hx) rfl) (one_e (evs_one hy) rfl)
  refine idx_e (j := 0) this hi (r := [.sl k (if m = 0 then a else b)]) ?_ rfl
  rcases m with _ | _ | m
  · rfl
  · rfl
  · omega
theorem two_inb {ρ : List D} {x y ix : Ex} {k : Nat} {m : Nat} {a b : List (List D)} (hx : x.eval ρ = some (.sl k a)) (hy : y.eval ρ = some (.sl k b)) (hi : ix.eval ρ = some (.i .i64 (m : Int))) (hm : m < 2) : (Ex.inb (.cat (.one [x]) (.one [y])) ix 1).eval ρ = some (.b true) :=
  inb_t (cat_e (one_e (evs_one hx) rfl) (one_e (evs_one hy) rfl)) hi (by simpa using hm)
theorem app_w {ρ : List D} {x y : Ex} {m n0 n : Nat} {a b : List (List D)} (hx : x.eval ρ = some (.sl n0 a)) (hy : y.eval ρ = some (.sl m b)) (h0 : n0 = n ∨ (n0 = 0 ∧ a = [])) (h1 : m = n ∨ b = []) : ∃ k', (Ex.app n x y).eval ρ = some (.sl k' (a ++ b)) := by
  simp only [Ex.eval, hx, hy, appD]
  rw [if_pos ⟨by rcases h0 with h | ⟨h, rfl⟩ <;> simp [h], by rcases h1 with h | rfl <;> simp [*]⟩]
  cases b with
  | nil => exact ⟨n0, by simp⟩
  | cons => exact ⟨n, rfl⟩
theorem app_k {ρ : List D} {x y : Ex} {k n : Nat} {a b : List (List D)} (hx : x.eval ρ = some (.sl n a)) (hy : y.eval ρ = some (.sl k b)) (h : k = n ∨ b = []) : (Ex.app n x y).eval ρ = some (.sl n (a ++ b)) := by
  simp only [Ex.eval, hx, hy, appD]
  rw [if_pos ⟨.inl trivial, by rcases h with h | rfl <;> simp [*]⟩]
  cases b <;> simp
theorem Kd.two_or {k : Nat} {cs : List Cl} (h : Kd k cs) : k = 2 ∨ crs cs = [] := by
  rcases h with h | ⟨_, rfl⟩
  · exact .inl h
  · exact .inr rfl
theorem Kd.take {k n : Nat} {cs : List Cl} (h : Kd k cs) : Kd k (cs.take n) := by
  rcases h with h | ⟨h, rfl⟩
  · exact .inl h
  · exact .inr ⟨h, by simp⟩
theorem Kd.drop {k n : Nat} {cs : List Cl} (h : Kd k cs) : Kd k (cs.drop n) := by
  rcases h with h | ⟨h, rfl⟩
  · exact .inl h
  · exact .inr ⟨h, by simp⟩

/-! ### the reference -/
/-- results whose rows may be told as none -/
def Md (s : Nat) (cs : List Cl) (r : List DV) : Prop := ∃ k, Kd k cs ∧ r = [md k s cs]
theorem wk_Md {s : Nat} {cs : List Cl} {r : List DV} (h : Md s cs r) : WkR r [md 2 s cs] := by
  obtain ⟨k, hk | ⟨hk, h⟩, rfl⟩ := h
  · rw [hk]; exact fun _ _ _ h => h
  · rw [hk, h]; exact wk_md
theorem take_one {cs : List Cl} {n : Nat} {c : Cl} (h : cs[n]? = some c) : cs.take (n + 1) = cs.take n ++ [c] := by
  rw [List.take_add_one, h]; rfl
theorem row_e {ρ : List D} {x ix : Ex} {k : Nat} {m : Nat} {cs : List Cl} {c : Cl} (hx : x.eval ρ = some (.sl 2 (crs cs))) (hi : ix.eval ρ = some (.i .i64 (m : Int))) (hc : cs[m]? = some c) : Ex.evals ρ [.idx x ix 0, .idx x ix 1] = some (crow c) :=
  es_cons (idx_e hx hi (crow_of hc) rfl) (evs_one (idx_e hx hi (crow_of hc) rfl))
theorem crs_app {a b : List Cl} : crs (a ++ b) = crs a ++ crs b := by rw [crs, crs, crs, List.map_append]
/-- a row more -/
theorem more_e {ρ : List D} {x : Ex} {xs : List Ex} {k : Nat} {r : List Cl} {c : Cl} (hx : x.eval ρ = some (.sl k (crs r))) (hk : Kd k r) (h : Ex.evals ρ xs = some (crow c)) : (Ex.app 2 x (.one xs)).eval ρ = some (.sl 2 (crs (r ++ [c]))) := by
  rw [crs_app]
  exact app_e hx (one_e h rfl) (by rcases hk with h | ⟨h, rfl⟩; exact .inl h; exact .inr ⟨h, rfl⟩) (by simp)
theorem row_room {ρ : List D} {x : Ex} {r : List Cl} (hx : x.eval ρ = some (.sl 2 (crs r))) (h : r.length ≤ 1000000) : (Ex.room (.len x) 17).eval ρ = some (.b true) :=
  room_t hx (by rw [crs_len]; omega)
def keptB (a b : Nat) (c : Cl) : Bool := decide (8 * c.1 < a) || decide (a + b ≤ 8 * c.1)

/-- putting, of what has been looked at -/
def setR (cs : List Cl) (p v : Nat) : List Cl := below cs p ++ ((if v = 0 ∨ above cs (p + 1) = [] then [] else [(p, v)]) ++ above cs (p + 1))
theorem above_lt {l : List Cl} {c : Cl} {p : Nat} (hs : Asc (l ++ [c])) (h : c.1 ≤ p) : above l (p + 1) = [] := by
  rw [above, List.filter_eq_nil_iff]
  intro x hx
  have := (List.pairwise_append.1 hs).2.2 x hx c List.mem_cons_self
  simp
  omega
theorem above_end {l : List Cl} {c : Cl} {p : Nat} : above (l ++ [c]) (p + 1) = above l (p + 1) ++ if p < c.1 then [c] else [] := by
  rw [above, List.filter_append]
  congr 1
  by_cases h : p < c.1
  · rw [List.filter_cons_of_pos (by simp; omega), if_pos h]; rfl
  · rw [List.filter_cons_of_neg (by simp; omega), if_neg h]; rfl
theorem below_end {l : List Cl} {c : Cl} {p : Nat} : below (l ++ [c]) p = below l p ++ if c.1 < p then [c] else [] := by
  rw [below, List.filter_append]
  congr 1
  by_cases h : c.1 < p
  · rw [List.filter_cons_of_pos (by simpa using h), if_pos h]; rfl
  · rw [List.filter_cons_of_neg (by simpa using h), if_neg h]; rfl
theorem setR_lt {l : List Cl} {c : Cl} {p v : Nat} (hs : Asc (l ++ [c])) (h : c.1 < p) : setR (l ++ [c]) p v = setR l p v ++ [c] := by
  have := above_lt hs (Nat.le_of_lt h)
  simp [setR, above_end, below_end, this, h, show ¬ p < c.1 by omega]
theorem setR_eq {l : List Cl} {c : Cl} {p v : Nat} (hs : Asc (l ++ [c])) (h : c.1 = p) : setR (l ++ [c]) p v = setR l p v := by
  have := above_lt hs (Nat.le_of_eq h)
  simp [setR, above_end, below_end, this, show ¬ p < c.1 by omega, show ¬ c.1 < p by omega]
theorem setR_gt {l : List Cl} {c : Cl} {p v : Nat} (h : p < c.1) (hd : v = 0 ∨ above l (p + 1) ≠ []) : setR (l ++ [c]) p v = setR l p v ++ [c] := by
  simp only [setR, above_end, below_end, if_pos h, if_neg (show ¬ c.1 < p by omega), List.append_nil]
  rcases hd with hd | hd
  · simp [hd]
  · simp [hd]
theorem setR_in {l : List Cl} {c : Cl} {p v : Nat} (h : p < c.1) (hv : v ≠ 0) (hd : above l (p + 1) = []) : setR (l ++ [c]) p v = setR l p v ++ [(p, v)] ++ [c] := by
  simp [setR, above_end, below_end, if_pos h, if_neg (show ¬ c.1 < p by omega), hv, hd]
theorem setR_len {l : List Cl} {p v : Nat} : (setR l p v).length ≤ 2 * l.length + 1 := by
  have h1 : (below l p).length ≤ l.length := List.length_filter_le _ _
  have h2 : (above l (p + 1)).length ≤ l.length := List.length_filter_le _ _
  have h3 : (if v = 0 ∨ above l (p + 1) = [] then ([] : List Cl) else [(p, v)]).length ≤ 1 := by split <;> simp
  rw [setR, List.length_append, List.length_append]
  omega
end Go.Proofs.YtngpjdieelcbmaaDoor.Sx
