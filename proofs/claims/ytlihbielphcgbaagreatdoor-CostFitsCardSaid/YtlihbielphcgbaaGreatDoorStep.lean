/-
  Steps: what expressions over slices come to.
-/
import Derived.Test.YtlihbielphcgbaaGreatDoorBf
import Derived.Test.YtlihbielphcgbaaGreatDoorBits
namespace Go.Proofs.YtlihbielphcgbaaGreatDoor.Sx
open Go
set_option linter.unusedVariables false
set_option linter.unusedSimpArgs false
set_option maxRecDepth 100000

section
variable {ρ : List D} {x ix : Ex} {n m : Nat} {rows : List (List D)} {k : IntKind}
theorem inb_t (hx : x.eval ρ = some (.sl n rows)) (hi : ix.eval ρ = some (.i k (m : Int))) (hm : m < rows.length) : (Ex.inb x ix n).eval ρ = some (.b true) := by
  simp [Ex.eval, hx, hi, inbD]
  omega
theorem len_e (hx : x.eval ρ = some (.sl n rows)) : (Ex.len x).eval ρ = some (I rows.length) := by
  simp [Ex.eval, hx]
theorem idx_e {r : List D} {j : Nat} {d : D} (hx : x.eval ρ = some (.sl n rows)) (hi : ix.eval ρ = some (.i k (m : Int))) (hr : rows[m]? = some r) (hj : r[j]? = some d) : (Ex.idx x ix j).eval ρ = some d := by
  simp only [Ex.eval, hx, hi, idxD]
  rw [if_pos (by omega)]
  simp [hr, hj]
theorem evs_cons {g : Bool} {xs : List Ex} {ds : List D} {r : List XV} {vs : List DV} (h : Ex.evals ρ xs = some ds) (h2 : evalVs ρ r = some vs) : evalVs ρ ((g, xs) :: r) = some ((g, ds) :: vs) := by
  simp only [evalVs, h, h2]
theorem evs_one {d : D} (h : x.eval ρ = some d) : Ex.evals ρ [x] = some [d] := by
  simp only [Ex.evals, h]
theorem rng_t (hi : ix.eval ρ = some (.i k (m : Int))) (hm : m < n) : (Ex.rng ix n).eval ρ = some (.b true) := by
  simp [Ex.eval, hi]
  omega
end
theorem i_bne {a b : Nat} : ((a : Int) != (b : Int)) = (a != b) := by
  rw [Bool.eq_iff_iff]
  simp
  omega
section
variable {ρ : List D} {x ix : Ex} {n m : Nat} {rows : List (List D)} {k : IntKind}
theorem app0_e (hx : x.eval ρ = some (.sl n rows)) : (Ex.app n (.c (.sl n [])) x).eval ρ = some (.sl n rows) := by
  simp only [Ex.eval, hx, appD]
  rw [if_pos ⟨.inl trivial, .inl trivial⟩]
  cases rows <;> simp
theorem put_e {r ds : List D} {vs : List Ex} (hx : x.eval ρ = some (.sl n rows)) (hi : ix.eval ρ = some (.i k (m : Int))) (hr : rows[m]? = some r) (hv : Ex.evals ρ vs = some ds) (hl : ds.length = r.length) : (Ex.put x ix 0 vs).eval ρ = some (.sl n (rows.set m ds)) := by
  simp only [Ex.eval, hx, hi, hv, putD]
  rw [if_pos (by omega)]
  simp only [Int.toNat_natCast, hr]
  rw [if_pos (by omega)]
  simp only [over, List.take_zero, List.nil_append, Nat.zero_add, hl, List.drop_length, List.append_nil]
theorem room_t {b : Nat} (hx : x.eval ρ = some (.sl n rows)) (h : rows.length * b ≤ 2 ^ 40) : (Ex.room (.len x) b).eval ρ = some (.b true) := by
  simp only [Ex.eval, hx]
  have : ((rows.length : Nat) : Int) * (b : Int) ≤ 2 ^ 40 := by exact_mod_cast h
  rw [decide_eq_true this, decide_eq_true (show (0 : Int) ≤ (rows.length : Int) by omega)]
  rfl
end
section
variable {ρ : List D} {x y ix : Ex} {n m : Nat} {rows : List (List D)} {k : IntKind}
theorem one_e {xs : List Ex} {ds : List D} (h : Ex.evals ρ xs = some ds) (hn : ds.length = n) : (Ex.one xs).eval ρ = some (.sl n [ds]) := by
  simp only [Ex.eval, h, hn]
theorem cat_e {a b : List (List D)} (hx : x.eval ρ = some (.sl n a)) (hy : y.eval ρ = some (.sl n b)) : (Ex.cat x y).eval ρ = some (.sl n (a ++ b)) := by
  simp only [Ex.eval, hx, hy, catD]
  cases a
  · simp
  · cases b <;> simp
theorem app_e {a b : List (List D)} (hx : x.eval ρ = some (.sl m a)) (hy : y.eval ρ = some (.sl n b)) (h : m = n ∨ (m = 0 ∧ a = [])) (hb : b ≠ []) : (Ex.app n x y).eval ρ = some (.sl n (a ++ b)) := by
  simp only [Ex.eval, hx, hy, appD]
  rw [if_pos ⟨by rcases h with rfl | ⟨rfl, rfl⟩ <;> simp, .inl trivial⟩, if_neg (by simpa using hb)]
theorem app_any {a b : List (List D)} (hx : x.eval ρ = some (.sl n a)) (hy : y.eval ρ = some (.sl n b)) : (Ex.app n x y).eval ρ = some (.sl n (a ++ b)) := by
  simp only [Ex.eval, hx, hy, appD]
  rw [if_pos ⟨.inl trivial, .inl trivial⟩]
  cases b <;> simp
theorem room_i {b : Nat} (hx : x.eval ρ = some (I m)) (h : m * b ≤ 2 ^ 40) : (Ex.room x b).eval ρ = some (.b true) := by
  simp only [Ex.eval, hx]
  have : ((m : Nat) : Int) * (b : Int) ≤ 2 ^ 40 := by exact_mod_cast h
  rw [decide_eq_true this, decide_eq_true (show (0 : Int) ≤ (m : Int) by omega)]
  rfl
theorem bnd_t {lo hi top : Ex} {a b c : Nat} (h1 : lo.eval ρ = some (I a)) (h2 : hi.eval ρ = some (I b)) (h3 : top.eval ρ = some (I c)) (hab : a ≤ b) (hbc : b ≤ c) : (Ex.bnd lo hi top).eval ρ = some (.b true) := by
  simp only [Ex.eval, h1, h2, h3]
  rw [decide_eq_true (show (0 : Int) ≤ (a : Int) by omega), decide_eq_true (show (a : Int) ≤ (b : Int) by omega), decide_eq_true (show (b : Int) ≤ (c : Int) by omega)]
  rfl
theorem sub_e {lo hi : Ex} {a b : Nat} (hx : x.eval ρ = some (.sl n rows)) (h1 : lo.eval ρ = some (I a)) (h2 : hi.eval ρ = some (I b)) (hab : a ≤ b) (hbc : b ≤ rows.length) : (Ex.sub x lo hi).eval ρ = some (.sl n ((rows.take b).drop a)) := by
  simp only [Ex.eval, hx, h1, h2, subD]
  rw [if_pos (by omega)]
  rfl
theorem len_is {L : Nat} (hx : x.eval ρ = some (.sl n rows)) (hL : rows.length = L) : (Ex.len x).eval ρ = some (I L) := by
  rw [len_e hx, hL]
theorem len_sub_e {L p : Nat} (hx : x.eval ρ = some (.sl n rows)) (hL : rows.length = L) (hy : y.eval ρ = some (I p)) (h : p ≤ L) (hb : L < 9223372036854775807) : (Ex.bin .sub (.len x) y).eval ρ = some (I (L - p : Nat)) := by
  have := i_sub (len_is hx hL) hy (by omega) (by omega)
  rw [this, show (L : Int) - (p : Int) = ((L - p : Nat) : Int) by omega]
theorem es_cons {xs : List Ex} {d : D} {ds : List D} (hx : x.eval ρ = some d) (h : Ex.evals ρ xs = some ds) : Ex.evals ρ (x :: xs) = some (d :: ds) := by
  simp only [Ex.evals, hx, h]
theorem mk_e {zs : List Ex} {ds : List D} (hx : x.eval ρ = some (I m)) (h : Ex.evals ρ zs = some ds) (hn : ds.length = n) : (Ex.mk x zs).eval ρ = some (.sl n (List.replicate m ds)) := by
  simp only [Ex.eval, hx, h, hn]
  rw [if_pos (by omega)]
  rfl
end
theorem cmp_e {ρ : List D} {x : Ex} {t t' : Bool} (h : x.eval ρ = some (.b t)) (h' : t = t') : x.eval ρ = some (.b t') := by rw [h, h']
theorem min_e {ρ : List D} {y : Ex} {m : Nat} (h : y.eval ρ = some (I m)) (hm : m ≤ 16) : (Ex.ite (.bin .lss (.c (.i .i64 16)) y) (.c (.i .i64 16)) y).eval ρ = some (I m) := by
  simp only [Ex.eval, h, binD]
  rw [decide_eq_false (by omega)]
  rfl
theorem max_e {ρ : List D} {y : Ex} {m : Nat} (h : y.eval ρ = some (I m)) : (Ex.ite (.bin .gtr y (.c (.i .i64 0))) y (.c (.i .i64 0))).eval ρ = some (I m) := by
  simp only [Ex.eval, h, binD]
  by_cases hm : m = 0
  · subst hm; rfl
  · rw [decide_eq_true (by omega)]
    rfl
theorem not_id {t : Bool} : (!(t == t)) = false := by cases t <;> rfl
section
variable {ρ : List D} {x y : Ex}
theorem i_rem {a b : Nat} (hx : x.eval ρ = some (I a)) (hy : y.eval ρ = some (I b)) (h : b ≠ 0) : (Ex.bin .rem x y).eval ρ = some (I (a % b : Nat)) := by
  have h1 : (a : Int).tmod b = ((a % b : Nat) : Int) := by rw [Int.tmod_eq_emod_of_nonneg (by omega)]; push_cast; rfl
  have h3 : ¬ (b : Int) = 0 := by omega
  simp only [Ex.eval, hx, hy, binD, if_true]
  rw [if_neg h3, h1]
theorem i_mul {a b : Int} (hx : x.eval ρ = some (I a)) (hy : y.eval ρ = some (I b)) (h0 : -9223372036854775808 ≤ a * b) (h1 : a * b ≤ 9223372036854775807) : (Ex.bin .mul x y).eval ρ = some (I (a * b)) := by
  simp [Ex.eval, hx, hy, binD, wrapI h0 h1]
end
section
variable {ρ : List D} {C : Con} {R : List DV → Prop} {L : List Lp}
theorem ite_any {c x y : Ex} {b : Bool} (hc : c.eval ρ = some (.b b)) (hx : ∃ t, x.eval ρ = some (.b t)) (hy : y.eval ρ = some (.b false)) : ∃ t, (Ex.ite c x y).eval ρ = some (.b t) := by
  obtain ⟨t, hx⟩ := hx
  cases b
  · exact ⟨false, by simp [Ex.eval, hc, hy]⟩
  · exact ⟨t, by simp [Ex.eval, hc, hx]⟩
theorem eqt_b {x y : Ex} {a b : Bool} (hx : x.eval ρ = some (.b a)) (hy : y.eval ρ = some (.b b)) : (Ex.eqt true x y).eval ρ = some (.b (a == b)) := by
  simp [Ex.eval, hx, hy, eqtD]
theorem eqt_i {x y : Ex} {k : IntKind} {a b : Int} (hx : x.eval ρ = some (.i k a)) (hy : y.eval ρ = some (.i k b)) : (Ex.eqt false x y).eval ρ = some (.b (a == b)) := by
  simp [Ex.eval, hx, hy, eqtD]
theorem not_any {x : Ex} (h : ∃ t, x.eval ρ = some (.b t)) : ∃ t, (Ex.un .not x).eval ρ = some (.b t) := by
  obtain ⟨t, h⟩ := h
  exact ⟨!t, not_e h⟩
theorem wp_lt_any {e : Ex} {x : IR} (h : ∃ t, e.eval ρ = some (.b t)) (hx : ∀ t, IR.wp C R x L (ρ ++ [.b t])) : IR.wp C R (.lt e x) L ρ := by
  obtain ⟨t, h⟩ := h
  exact wp_lt h (hx t)
end
end Go.Proofs.YtlihbielphcgbaaGreatDoor.Sx
