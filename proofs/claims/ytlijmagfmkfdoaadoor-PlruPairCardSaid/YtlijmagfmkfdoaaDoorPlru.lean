/-
  Layer 11: the contracts of plru's functions, of their references, and of the laws.
-/
import Derived.Test.YtlijmagfmkfdoaaDoorWp
import Derived.Test.YtlijmagfmkfdoaaDoorIrPlru
namespace Go.Proofs.YtlijmagfmkfdoaaDoor.Sx
open Go
set_option linter.unusedVariables false
set_option maxRecDepth 10000
set_option linter.unusedSimpArgs false

abbrev b8 (x : Int) : DV := (false, [.i .u8 x])
abbrev bi (x : Int) : DV := (false, [.i .i64 x])
abbrev bb (x : Bool) : DV := (false, [.b x])

def sideF (t b : Int) : Int := if (IntKind.u8.wrap (BitVec.ofInt IntKind.u8.bits t &&& BitVec.ofInt IntKind.u8.bits b).toNat != 0) = true then 1 else 0

theorem side_con (t b : Int) : Cn gPlru 13 [b8 t, b8 b] [bi (sideF t b)] := by
  refine con rfl rfl plru_side_c plru_side_p rfl ?_
  refine wp_lt rfl ?_
  refine wp_lt rfl ?_
  refine wp_ite rfl (fun h => ?_) (fun h => ?_)
  · refine wp_return rfl ?_
    unfold sideF
    rw [if_pos h]
  · refine wp_return rfl ?_
    unfold sideF
    rw [if_neg (by rw [h]; decide)]

theorem is_con (t : Int) : Cn gPlru 8 [b8 t] [bb (decide (t < 8))] := by
  refine con rfl rfl plru_Is_c plru_Is_p rfl ?_
  refine wp_lt rfl ?_
  exact wp_return rfl rfl

def vicF (t : Int) : Int := if t % 2 = 0 then t / 2 % 2 else 2 + t / 4
def touF (t w : Int) : Int := if w = 0 then t / 4 * 4 + 3 else if w = 1 then t / 4 * 4 + 1 else if w = 2 then t / 2 % 2 * 2 + 4 else t / 2 % 2 * 2

theorem cases8 {t : Int} (h0 : 0 ≤ t) (h1 : t < 8) : t = 0 ∨ t = 1 ∨ t = 2 ∨ t = 3 ∨ t = 4 ∨ t = 5 ∨ t = 6 ∨ t = 7 := by omega
theorem cases4 {t : Int} (h0 : 0 ≤ t) (h1 : t < 4) : t = 0 ∨ t = 1 ∨ t = 2 ∨ t = 3 := by omega

theorem victim_con {t : Int} (h0 : 0 ≤ t) (h1 : t < 8) : Cn gPlru 9 [b8 t] [bi (vicF t)] := by
  refine con rfl rfl plru_Victim_c plru_Victim_p rfl ?_
  refine wp_call rfl (side_con _ _) rfl ?_
  refine wp_lt rfl ?_
  rcases cases8 h0 h1 with rfl | rfl | rfl | rfl | rfl | rfl | rfl | rfl
  all_goals
    refine wp_ite rfl (fun h => ?_) (fun h => ?_)
    · refine wp_call rfl (side_con _ _) rfl ?_
      refine wp_return rfl ?_
      first | (exfalso; revert h; decide +kernel) | decide +kernel | rfl
    · refine wp_call rfl (side_con _ _) rfl ?_
      refine wp_lt rfl ?_
      refine wp_return rfl ?_
      first | (exfalso; revert h; decide +kernel) | decide +kernel | rfl

theorem touch_con {t w : Int} (h0 : 0 ≤ t) (h1 : t < 8) (g0 : 0 ≤ w) (g1 : w < 4) : Cn gPlru 11 [b8 t, bi w] [b8 (touF t w)] := by
  refine con rfl rfl plru_Touch_c plru_Touch_p rfl ?_
  rcases cases8 h0 h1 with rfl | rfl | rfl | rfl | rfl | rfl | rfl | rfl <;> rcases cases4 g0 g1 with rfl | rfl | rfl | rfl
  all_goals
    refine wp_chk rfl ?_
    refine wp_lt rfl ?_
    refine wp_lt rfl ?_
    refine wp_return rfl ?_
    rfl

theorem refVictim_con {t : Int} (h0 : 0 ≤ t) (h1 : t < 8) : Cn gPlru 10 [b8 t] [bi (vicF t)] := by
  refine con rfl rfl atlasref11_Victim_c atlasref11_Victim_p rfl ?_
  rcases cases8 h0 h1 with rfl | rfl | rfl | rfl | rfl | rfl | rfl | rfl
  all_goals
    refine wp_lt rfl ?_
    refine wp_lt rfl ?_
    refine wp_ite rfl (fun h => ?_) (fun h => ?_)
    · first
        | (exfalso; revert h; decide +kernel)
        | (refine wp_lt rfl ?_
           refine wp_lt rfl ?_
           refine wp_lt rfl ?_
           exact wp_return rfl rfl)
    · first
        | (exfalso; revert h; decide +kernel)
        | (refine wp_lt rfl ?_
           refine wp_lt rfl ?_
           refine wp_lt rfl ?_
           exact wp_return rfl rfl)

theorem refTouch_con {t w : Int} (h0 : 0 ≤ t) (h1 : t < 8) (g0 : 0 ≤ w) (g1 : w < 4) : Cn gPlru 12 [b8 t, bi w] [b8 (touF t w)] := by
  refine con rfl rfl atlasref11_Touch_c atlasref11_Touch_p rfl ?_
  rcases cases8 h0 h1 with rfl | rfl | rfl | rfl | rfl | rfl | rfl | rfl <;> rcases cases4 g0 g1 with rfl | rfl | rfl | rfl
  all_goals
    unfold atlasref11_Touch_ir
    repeat' first
      | refine wp_lt rfl ?_
      | exact wp_return rfl rfl
      | refine wp_ite (t := true) rfl (fun _ => ?_) (fun h => by cases h)
      | refine wp_ite (t := false) rfl (fun h => by cases h) (fun _ => ?_)

theorem awake11_con : Cn gPlru 7 [] [bb true] := con_of_run TIrPlru_ok rfl 300 rfl (isT_eq (by kernel_rfl))

theorem tmod_nat {a : Int} (h : 0 ≤ a) (b : Int) : a.tmod b = a % b := Int.tmod_eq_emod_of_nonneg h
theorem wrap64_small {a : Int} (h : 0 ≤ a) (h' : a < 1000) : IntKind.i64.wrap a = a := IntWalk.i64_in _ (by omega)

theorem PlruTrees_con {tree way : Int} (h0 : 0 ≤ tree) (h1 : tree < 256) (g0 : 0 ≤ way) (g1 : way < 256) : Cn gPlru 3 [b8 tree, b8 way] [bb true] := by
  refine con rfl rfl atlaslaw11_PlruTrees_c atlaslaw11_PlruTrees_p rfl ?_
  have t0 := tmod_nat h0 8
  have w0 := tmod_nat g0 4
  have w1 := wrap64_small (a := way % 4) (by omega) (by omega)
  refine wp_call rfl awake11_con rfl ?_
  simp only [lv_cons, lv_nil, app_cons, app_nil]
  refine wp_lt rfl ?_
  simp only [lv_cons, lv_nil, app_cons, app_nil]
  refine wp_ite (t := false) rfl (fun h => by cases h) (fun _ => ?_)
  refine wp_call rfl (is_con _) rfl ?_
  simp only [lv_cons, lv_nil, app_cons, app_nil]
  refine wp_lt rfl ?_
  simp only [lv_cons, lv_nil, app_cons, app_nil]
  refine wp_lt rfl ?_
  simp only [lv_cons, lv_nil, app_cons, app_nil]
  refine wp_ite rfl (fun h => by simp at h) (fun _ => ?_)
  refine wp_lt rfl ?_
  simp only [lv_cons, lv_nil, app_cons, app_nil]
  refine wp_call rfl (victim_con (by omega) (by omega)) rfl ?_
  simp only [lv_cons, lv_nil, app_cons, app_nil]
  refine wp_call rfl (refVictim_con (by omega) (by omega)) rfl ?_
  simp only [lv_cons, lv_nil, app_cons, app_nil]
  refine wp_lt rfl ?_
  simp only [lv_cons, lv_nil, app_cons, app_nil]
  refine wp_ite rfl (fun _ => ?_) (fun h => by simp at h)
  refine wp_lt rfl ?_
  simp only [lv_cons, lv_nil, app_cons, app_nil]
  refine wp_lt rfl ?_
  simp only [lv_cons, lv_nil, app_cons, app_nil]
  refine wp_call rfl (touch_con (by omega) (by omega) (by rw [w0, w1]; omega) (by rw [w0, w1]; omega)) rfl ?_
  simp only [lv_cons, lv_nil, app_cons, app_nil]
  refine wp_lt rfl ?_
  simp only [lv_cons, lv_nil, app_cons, app_nil]
  refine wp_lt rfl ?_
  simp only [lv_cons, lv_nil, app_cons, app_nil]
  refine wp_call rfl (refTouch_con (by omega) (by omega) (by rw [w0, w1]; omega) (by rw [w0, w1]; omega)) rfl ?_
  simp only [lv_cons, lv_nil, app_cons, app_nil]
  refine wp_lt rfl ?_
  simp only [lv_cons, lv_nil, app_cons, app_nil]
  exact wp_return rfl (by simp)

theorem rem_eval {ρ : List D} {e : Ex} {k : IntKind} {a m r : Int} (h : e.eval ρ = some (.i k a)) (hm : (m == 0) = false) (hr : a.tmod m = r) : (Ex.bin .rem e (.c (.i k m))).eval ρ = some (.i k r) := by
  have hm' : ¬ m = 0 := by simpa using hm
  simp [Ex.eval, h, binD, hm', hr]

theorem PlruAll_con {tree : Int} (h0 : 0 ≤ tree) (h1 : tree < 256) : Cn gPlru 5 [b8 tree] [bb true] := by
  have h := all_u8 (p := fun n => isT (run TIrPlru 300 atlaslaw11_PlruAll_ir [] [.i .u8 (n : Int)])) (by kernel_rfl) h0 h1
  have e : ((tree.toNat : Nat) : Int) = tree := Int.toNat_of_nonneg h0
  simp only [e] at h
  exact con_of_run TIrPlru_ok rfl 300 rfl (isT_eq h)

theorem touch_con' {t w r : Int} (h0 : 0 ≤ t) (h1 : t < 8) (g0 : 0 ≤ w) (g1 : w < 4) (hr : touF t w = r) : Cn gPlru 11 [b8 t, bi w] [b8 r] := hr ▸ touch_con h0 h1 g0 g1
theorem victim_con' {t r : Int} (h0 : 0 ≤ t) (h1 : t < 8) (hr : vicF t = r) : Cn gPlru 9 [b8 t] [bi r] := hr ▸ victim_con h0 h1

theorem touF_range {t w : Int} (h0 : 0 ≤ t) (h1 : t < 8) : 0 ≤ touF t w ∧ touF t w < 8 := by
  unfold touF
  split
  · omega
  split
  · omega
  split <;> omega

theorem evals_nil {ρ : List D} : Ex.evals ρ [] = some [] := rfl
theorem evals_cons {ρ : List D} {x : Ex} {xs : List Ex} {d : D} {ds : List D} (h : x.eval ρ = some d) (hs : Ex.evals ρ xs = some ds) : Ex.evals ρ (x :: xs) = some (d :: ds) := by
  simp [Ex.evals, h, hs]
theorem eql_false {ρ : List D} {x y : Ex} {a b : Int} (hx : x.eval ρ = some (.i .i64 a)) (hy : y.eval ρ = some (.i .i64 b)) (h : a ≠ b) : (Ex.bin .eql x y).eval ρ = some (.b false) := by
  simp [Ex.eval, hx, hy, binD, h]
theorem eql_true {ρ : List D} {x y : Ex} {a b : Int} (hx : x.eval ρ = some (.i .i64 a)) (hy : y.eval ρ = some (.i .i64 b)) (h : a = b) : (Ex.bin .eql x y).eval ρ = some (.b true) := by
  simp [Ex.eval, hx, hy, binD, h]
theorem neq_false {ρ : List D} {k : IntKind} {x y : Ex} {a b : Int} (hx : x.eval ρ = some (.i k a)) (hy : y.eval ρ = some (.i k b)) (h : a = b) : (Ex.bin .neq x y).eval ρ = some (.b false) := by
  simp [Ex.eval, hx, hy, binD, h]
theorem lss_false {ρ : List D} {x : Ex} {a m : Int} (hx : x.eval ρ = some (.i .i64 a)) (h : ¬ a < m) : (Ex.bin .lss x (.c (.i .i64 m))).eval ρ = some (.b false) := by
  simp [Ex.eval, hx, binD]; omega
theorem gtr_false {ρ : List D} {x : Ex} {a m : Int} (hx : x.eval ρ = some (.i .i64 a)) (h : ¬ a > m) : (Ex.bin .gtr x (.c (.i .i64 m))).eval ρ = some (.b false) := by
  simp [Ex.eval, hx, binD]; omega
theorem quo2_eval {ρ : List D} {x : Ex} {a r : Int} (hx : x.eval ρ = some (.i .i64 a)) (h0 : 0 ≤ a) (h1 : a < 1000) (hr : a / 2 = r) : (Ex.bin .quo x (.c (.i .i64 2))).eval ρ = some (.i .i64 r) := by
  have h : IntKind.i64.wrap (a.tdiv 2) = r := by
    rw [Int.tdiv_eq_ediv_of_nonneg h0, wrap64_small (by omega) (by omega), hr]
  simp [Ex.eval, hx, binD, h]

theorem PlruPair_con {tree way x : Int} (h0 : 0 ≤ tree) (h1 : tree < 256) (g0 : 0 ≤ way) (g1 : way < 256) (x0 : 0 ≤ x) (x1 : x < 256) : Cn gPlru 6 [b8 tree, b8 way, b8 x] [bb true] := by
  refine con rfl rfl atlaslaw11_PlruPair_c atlaslaw11_PlruPair_p rfl ?_
  have t0 := tmod_nat h0 8
  have w0 := tmod_nat g0 4
  have q0 := tmod_nat x0 2
  obtain ⟨t, ht⟩ : ∃ t, tree.tmod 8 = t := ⟨_, rfl⟩
  obtain ⟨w, hw⟩ : ∃ w, way.tmod 4 = w := ⟨_, rfl⟩
  obtain ⟨q, hq⟩ : ∃ q, x.tmod 2 = q := ⟨_, rfl⟩
  have ht0 : 0 ≤ t := by omega
  have ht1 : t < 8 := by omega
  have hw0 : 0 ≤ w := by omega
  have hw1 : w < 4 := by omega
  have hq0 : q = 0 ∨ q = 1 := by omega
  unfold atlaslaw11_PlruPair_ir
  refine wp_call rfl awake11_con rfl ?_
  simp only [lv_cons, lv_nil, app_cons, app_nil]
  refine wp_lt rfl ?_
  simp only [lv_cons, lv_nil, app_cons, app_nil]
  refine wp_ite (t := false) rfl (fun h => by cases h) (fun _ => ?_)
  refine wp_lt (rem_eval rfl rfl ht) ?_
  simp only [lv_cons, lv_nil, app_cons, app_nil]
  refine wp_lt (rem_eval rfl rfl hw) ?_
  simp only [lv_cons, lv_nil, app_cons, app_nil]
  obtain ⟨t1, ht1e⟩ : ∃ r, touF t w = r := ⟨_, rfl⟩
  obtain ⟨ht10, ht11⟩ := ht1e ▸ touF_range (w := w) ht0 ht1
  obtain ⟨v1, hv1⟩ : ∃ r, vicF t1 = r := ⟨_, rfl⟩
  obtain ⟨t2, ht2⟩ : ∃ r, touF t1 (q + w / 2 * 2) = r := ⟨_, rfl⟩
  obtain ⟨ht20, ht21⟩ := ht2 ▸ touF_range (w := q + w / 2 * 2) ht10 ht11
  obtain ⟨t3, ht3⟩ : ∃ r, touF t2 w = r := ⟨_, rfl⟩
  obtain ⟨ht30, ht31⟩ := ht3 ▸ touF_range (w := w) ht20 ht21
  obtain ⟨v3, hv3⟩ : ∃ r, vicF t3 = r := ⟨_, rfl⟩
  have hfacts : 0 ≤ v1 ∧ v1 < 4 ∧ v1 / 2 ≠ w / 2 ∧ v3 = v1 := by
    subst hv1 hv3
    rcases cases4 hw0 hw1 with rfl | rfl | rfl | rfl <;> rcases hq0 with rfl | rfl <;> simp [touF] at ht1e ht2 ht3 <;> unfold vicF <;> (repeat' split) <;> omega
  obtain ⟨hv10, hv11, hv1w, hv31⟩ := hfacts
  have hw64 : IntKind.i64.wrap w = w := wrap64_small hw0 (by omega)
  have hq64 : IntKind.i64.wrap q = q := wrap64_small (by omega) (by omega)
  refine wp_lt (d := .i .i64 w) (by simp [Ex.eval, hw64]) ?_
  simp only [lv_cons, lv_nil, app_cons, app_nil]
  refine wp_call rfl (touch_con' ht0 ht1 hw0 hw1 ht1e) rfl ?_
  simp only [lv_cons, lv_nil, app_cons, app_nil]
  refine wp_call rfl (victim_con' ht10 ht11 hv1) rfl ?_
  simp only [lv_cons, lv_nil, app_cons, app_nil]
  refine wp_lt (quo2_eval rfl hv10 (by omega) rfl) ?_
  simp only [lv_cons, lv_nil, app_cons, app_nil]
  refine wp_lt (quo2_eval rfl hw0 (by omega) rfl) ?_
  simp only [lv_cons, lv_nil, app_cons, app_nil]
  refine wp_lt (eql_false rfl rfl hv1w) ?_
  simp only [lv_cons, lv_nil, app_cons, app_nil]
  refine wp_ite (t := false) rfl (fun h => by cases h) (fun _ => ?_)
  refine wp_lt (rem_eval rfl rfl hq) ?_
  simp only [lv_cons, lv_nil, app_cons, app_nil]
  refine wp_lt (d := .i .i64 q) (by simp [Ex.eval, hq64]) ?_
  simp only [lv_cons, lv_nil, app_cons, app_nil]
  refine wp_lt (quo2_eval rfl hw0 (by omega) rfl) ?_
  simp only [lv_cons, lv_nil, app_cons, app_nil]
  have hm : IntKind.i64.wrap (w / 2 * 2) = w / 2 * 2 := wrap64_small (by omega) (by omega)
  refine wp_lt (d := .i .i64 (w / 2 * 2)) (by simp [Ex.eval, binD, hm]) ?_
  simp only [lv_cons, lv_nil, app_cons, app_nil]
  have ha : IntKind.i64.wrap (q + w / 2 * 2) = q + w / 2 * 2 := wrap64_small (by omega) (by omega)
  refine wp_lt (d := .i .i64 (q + w / 2 * 2)) (by simp [Ex.eval, binD, ha]) ?_
  simp only [lv_cons, lv_nil, app_cons, app_nil]
  refine wp_call rfl (touch_con' ht10 ht11 (by omega) (by omega) ht2) rfl ?_
  simp only [lv_cons, lv_nil, app_cons, app_nil]
  refine wp_call rfl (touch_con' ht20 ht21 hw0 hw1 ht3) rfl ?_
  simp only [lv_cons, lv_nil, app_cons, app_nil]
  refine wp_call rfl (victim_con' ht30 ht31 hv3) rfl ?_
  simp only [lv_cons, lv_nil, app_cons, app_nil]
  refine wp_lt (eql_true rfl rfl hv31) ?_
  simp only [lv_cons, lv_nil, app_cons, app_nil]
  exact wp_return rfl rfl

/-- what the pairs' last touches say of a tree -/
def AwayInv (t l0 l1 : Int) : Prop := 0 ≤ t ∧ t < 8 ∧ (l0 = -1 ∨ (l0 = 0 ∧ t / 2 % 2 = 1) ∨ (l0 = 1 ∧ t / 2 % 2 = 0)) ∧ (l1 = -1 ∨ (l1 = 2 ∧ t / 4 = 1) ∨ (l1 = 3 ∧ t / 4 = 0))

theorem idx_eval {ρ : List D} {x i : Ex} {zs : List Int} {k : IntKind} {kk : IntKind} {n : Nat} {z : Int} (hx : x.eval ρ = some (.sl 1 (zs.map fun z => [.i kk z]))) (hi : i.eval ρ = some (.i k n)) (hz : zs[n]? = some z) :
    (Ex.idx x i 0).eval ρ = some (.i kk z) := by
  simp [Ex.eval, hx, hi, idxD, hz]
theorem inb_eval {ρ : List D} {x i : Ex} {zs : List Int} {k : IntKind} {kk : IntKind} {n : Nat} (hx : x.eval ρ = some (.sl 1 (zs.map fun z => [.i kk z]))) (hi : i.eval ρ = some (.i k n)) (hz : n < zs.length) :
    (Ex.inb x i 1).eval ρ = some (.b true) := by
  simp [Ex.eval, hx, hi, inbD, hz]
theorem len_eval {ρ : List D} {x : Ex} {zs : List Int} {kk : IntKind} (hx : x.eval ρ = some (.sl 1 (zs.map fun z => [.i kk z]))) : (Ex.len x).eval ρ = some (.i .i64 zs.length) := by
  simp [Ex.eval, hx]

theorem PlruAway_con {tree : Int} {zs : List Int} (h0 : 0 ≤ tree) (h1 : tree < 256) (hz : ∀ z ∈ zs, 0 ≤ z ∧ z < 256) : Cn gPlru 4 [b8 tree, (false, [.sl 1 (zs.map fun z => [.i .u8 z])])] [bb true] := by
  refine con rfl rfl atlaslaw11_PlruAway_c atlaslaw11_PlruAway_p rfl ?_
  have t0 := tmod_nat h0 8
  obtain ⟨t, ht⟩ : ∃ t, tree.tmod 8 = t := ⟨_, rfl⟩
  unfold atlaslaw11_PlruAway_ir
  refine wp_call rfl awake11_con rfl ?_
  simp only [lv_cons, lv_nil, app_cons, app_nil]
  refine wp_lt rfl ?_
  simp only [lv_cons, lv_nil, app_cons, app_nil]
  refine wp_ite (t := false) rfl (fun h => by cases h) (fun _ => ?_)
  refine wp_lt (len_eval rfl) ?_
  simp only [lv_cons, lv_nil, app_cons, app_nil]
  refine wp_lt rfl ?_
  simp only [lv_cons, lv_nil, app_cons, app_nil]
  refine wp_ite rfl (fun h => ?_) (fun h => ?_)
  · refine wp_call rfl awake11_con rfl ?_
    simp only [lv_cons, lv_nil, app_cons, app_nil]
    exact wp_return rfl rfl
  have hlen : zs.length ≤ 200 := by simp at h; omega
  refine wp_lt (rem_eval rfl rfl ht) ?_
  simp only [lv_cons, lv_nil, app_cons, app_nil]
  refine wp_rounds (ds := [.b false, .i .u8 t, .i .i64 0, .i .i64 (-1), .i .i64 (-1)])
    (fun m es => ∃ (t l0 l1 : Int) (k : Nat), es = [.b false, .i .u8 t, .i .i64 k, .i .i64 l0, .i .i64 l1] ∧ k + m = zs.length + 1 ∧ k ≤ zs.length ∧ AwayInv t l0 l1) (zs.length + 1) rfl ?_ ?_ ?_
  · exact ⟨t, -1, -1, 0, rfl, by omega, by omega, by omega, by omega, .inl rfl, .inl rfl⟩
  · rintro m es Q ⟨t, l0, l1, k, rfl, hk, hkl, ht0, ht1, hl0, hl1⟩ hQ
    simp only [lv_cons, lv_nil, app_cons, app_nil]
    refine wp_lt (len_eval rfl) ?_
    simp only [lv_cons, lv_nil, app_cons, app_nil]
    refine wp_lt rfl ?_
    simp only [lv_cons, lv_nil, app_cons, app_nil]
    refine wp_ite rfl (fun h => ?_) (fun h => wp_return rfl rfl)
    have hkz : k < zs.length := by simp at h; omega
    obtain ⟨z, hzk⟩ : ∃ z, zs[k]? = some z := ⟨_, List.getElem?_eq_getElem hkz⟩
    obtain ⟨z0, z1⟩ := hz z (List.mem_of_getElem? hzk)
    refine wp_chk (inb_eval rfl rfl hkz) ?_
    have w0 := tmod_nat z0 4
    obtain ⟨w, hw⟩ : ∃ w, z.tmod 4 = w := ⟨_, rfl⟩
    have hw0 : 0 ≤ w := by omega
    have hw1 : w < 4 := by omega
    refine wp_lt (rem_eval (idx_eval rfl rfl hzk) rfl hw) ?_
    simp only [lv_cons, lv_nil, app_cons, app_nil]
    have hwr : IntKind.i64.wrap ((k : Int) + 1) = ((k + 1 : Nat) : Int) := by rw [wrap64_small (by omega) (by omega)]; omega
    have hw64 : IntKind.i64.wrap w = w := wrap64_small hw0 (by omega)
    obtain ⟨t1, ht1e⟩ : ∃ r, touF t w = r := ⟨_, rfl⟩
    obtain ⟨ht10, ht11⟩ := ht1e ▸ touF_range (w := w) ht0 ht1
    obtain ⟨v, hv⟩ : ∃ r, vicF t1 = r := ⟨_, rfl⟩
    obtain ⟨n0, hn0⟩ : ∃ r, (if w / 2 = 0 then w else l0) = r := ⟨_, rfl⟩
    obtain ⟨n1, hn1⟩ : ∃ r, (if w / 2 = 1 then w else l1) = r := ⟨_, rfl⟩
    have hfacts : 0 ≤ v ∧ v < 4 ∧ v / 2 ≠ w / 2 ∧ touF t1 w = t1 ∧ AwayInv t1 n0 n1 ∧ (v / 2 = 0 → v ≠ n0) ∧ (v / 2 = 1 → v ≠ n1) := by
      subst hv
      unfold AwayInv
      rcases cases4 hw0 hw1 with rfl | rfl | rfl | rfl <;> simp [touF] at ht1e hn0 hn1 ⊢ <;> unfold vicF <;> (repeat' split) <;> omega
    obtain ⟨hv0, hv1, hvw, htt, hinv, hn0v, hn1v⟩ := hfacts
    refine wp_lt (d := .i .i64 w) (by simp [Ex.eval, hw64]) ?_
    simp only [lv_cons, lv_nil, app_cons, app_nil]
    refine wp_call rfl (touch_con' ht0 ht1 hw0 hw1 ht1e) rfl ?_
    simp only [lv_cons, lv_nil, app_cons, app_nil]
    refine wp_lt (quo2_eval rfl hw0 (by omega) rfl) ?_
    simp only [lv_cons, lv_nil, app_cons, app_nil]
    refine wp_chk (by simp [Ex.eval]; omega) ?_
    refine wp_call rfl (victim_con' ht10 ht11 hv) rfl ?_
    simp only [lv_cons, lv_nil, app_cons, app_nil]
    refine wp_call rfl (is_con _) rfl ?_
    simp only [lv_cons, lv_nil, app_cons, app_nil]
    refine wp_lt (d := .b false) (by simp [Ex.eval, unD, ht11]) ?_
    simp only [lv_cons, lv_nil, app_cons, app_nil]
    refine wp_ite (t := false) rfl (fun h => by cases h) (fun _ => ?_)
    refine wp_lt (lss_false rfl (by omega)) ?_
    simp only [lv_cons, lv_nil, app_cons, app_nil]
    refine wp_ite (t := false) rfl (fun h => by cases h) (fun _ => ?_)
    refine wp_lt (gtr_false rfl (by omega)) ?_
    simp only [lv_cons, lv_nil, app_cons, app_nil]
    refine wp_ite (t := false) rfl (fun h => by cases h) (fun _ => ?_)
    refine wp_lt (quo2_eval rfl hv0 (by omega) rfl) ?_
    simp only [lv_cons, lv_nil, app_cons, app_nil]
    refine wp_lt (quo2_eval rfl hw0 (by omega) rfl) ?_
    simp only [lv_cons, lv_nil, app_cons, app_nil]
    refine wp_lt (eql_false rfl rfl hvw) ?_
    simp only [lv_cons, lv_nil, app_cons, app_nil]
    refine wp_ite (t := false) rfl (fun h => by cases h) (fun _ => ?_)
    refine wp_lt (quo2_eval rfl hv0 (by omega) rfl) ?_
    simp only [lv_cons, lv_nil, app_cons, app_nil]
    refine wp_chk (by simp [Ex.eval]; omega) ?_
    have e0 : ∀ ρ : List D, ρ[17]? = some (.i .i64 (w / 2)) → ρ[15]? = some (.i .i64 w) → ρ[10]? = some (.i .i64 l0) → (Ex.ite (.isk (.v 17) 0) (.v 15) (.v 10)).eval ρ = some (.i .i64 n0) := fun ρ a b c => by
      simp only [Ex.eval, a, b, c, ← hn0]
      by_cases h : w / 2 = 0 <;> simp [h]
    have e1 : ∀ ρ : List D, ρ[17]? = some (.i .i64 (w / 2)) → ρ[15]? = some (.i .i64 w) → ρ[11]? = some (.i .i64 l1) → (Ex.ite (.isk (.v 17) 1) (.v 15) (.v 11)).eval ρ = some (.i .i64 n1) := fun ρ a b c => by
      simp only [Ex.eval, a, b, c, ← hn1]
      by_cases h : w / 2 = 1 <;> simp [h]
    refine wp_lt (d := .b false) ?_ ?_
    · have hsel : (Ex.ite (.isk (.v 26) 0) (.ite (.isk (.v 17) 0) (.v 15) (.v 10)) (.ite (.isk (.v 17) 1) (.v 15) (.v 11))).eval
          [.i .u8 tree, .sl 1 (zs.map fun z => [.i .u8 z]), .b true, .b false, .i .i64 zs.length, .b (decide ((zs.length : Int) > 200)), .i .u8 (tree.tmod 8), .b false, .i .u8 t, .i .i64 k, .i .i64 l0, .i .i64 l1,
            .i .i64 zs.length, .b (decide ((k : Int) < zs.length)), .i .u8 w, .i .i64 w, .i .u8 t1, .i .i64 (w / 2), .i .i64 v, .b (decide (t1 < 8)), .b false, .b false, .b false, .i .i64 (v / 2), .i .i64 (w / 2), .b false, .i .i64 (v / 2)]
          = some (.i .i64 (if v / 2 = 0 then n0 else n1)) := by
        rw [Ex.eval]
        rw [e0 _ rfl rfl rfl, e1 _ rfl rfl rfl]
        simp only [Ex.eval, List.getElem?_cons_succ, List.getElem?_cons_zero]
        by_cases h : v / 2 = 0 <;> simp [h]
      exact eql_false rfl hsel (by split <;> omega)
    simp only [lv_cons, lv_nil, app_cons, app_nil]
    refine wp_ite (t := false) rfl (fun h => by cases h) (fun _ => ?_)
    refine wp_call rfl (touch_con' ht10 ht11 hw0 hw1 htt) rfl ?_
    simp only [lv_cons, lv_nil, app_cons, app_nil]
    refine wp_lt (neq_false rfl rfl rfl) ?_
    simp only [lv_cons, lv_nil, app_cons, app_nil]
    refine wp_ite (t := false) rfl (fun h => by cases h) (fun _ => ?_)
    refine wp_lt (d := .i .i64 ((k + 1 : Nat) : Int)) (by simp [Ex.eval, binD, ← hwr]) ?_
    simp only [lv_cons, lv_nil, app_cons, app_nil]
    refine wp_cont rfl (ds := [.b false, .i .u8 t1, .i .i64 ((k + 1 : Nat) : Int), .i .i64 n0, .i .i64 n1]) ?_ (hQ _ ⟨_, _, _, k + 1, rfl, by omega, by omega, hinv⟩)
    exact evals_cons rfl (evals_cons rfl (evals_cons rfl (evals_cons (e0 _ rfl rfl rfl) (evals_cons (e1 _ rfl rfl rfl) evals_nil))))
  · rintro es ⟨t, l0, l1, k, rfl, hk, hkl, _⟩
    omega
end Go.Proofs.YtlijmagfmkfdoaaDoor.Sx
