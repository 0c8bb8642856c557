/-
  Layer 13: SetKeeps.
-/
import Derived.Test.YtebcdcdcefhdfaaDoorSetc
import Derived.Test.YtebcdcdcefhdfaaDoorIrSetk
namespace Go.Proofs.YtebcdcdcefhdfaaDoor.Sx
open Go
set_option linter.unusedVariables false
set_option linter.unusedSimpArgs false
set_option maxRecDepth 100000

def TSetk : Tbl := TIrSetk ++ TS
theorem TSetk_ok : ∀ x ∈ TSetk, Known gAll x.1 x.2 := kappend TIrSetk_ok TS_ok
theorem awake13_con : Cn gAll 7 [] [bb true] := con_of_run TSetk_ok rfl 3000 rfl (isT_eq (by kernel_rfl))

def SetD.at (s : SetD) : Nat → En
  | 0 => s.w0
  | 1 => s.w1
  | 2 => s.w2
  | _ => s.w3
def unlikeF (s : SetD) : Bool := !sameF s.w1 s.w0 && !sameF s.w2 s.w0 && !sameF s.w2 s.w1 && !sameF s.w3 s.w0 && !sameF s.w3 s.w1 && !sameF s.w3 s.w2

theorem refUnlike_con {s : SetD} : Cn gAll 22 [s.dv] [bb (unlikeF s)] := by
  refine con rfl rfl atlasref13_Unlike_c atlasref13_Unlike_p rfl ?_
  unfold atlasref13_Unlike_ir
  simp only [lv_cons, lv_nil, SetD.ds, SetD.ws, En.ds, app_cons, app_nil]
  refine wp_rounds (fun m ds => ∃ (b : Bool) (n : Nat), ds = [.b b, I n] ∧ n + m = 5 ∧ n ≤ 4 ∧ ∀ i, i < n → ∀ j, j < i → sameF (s.at i) (s.at j) = false) 5 rfl ⟨false, 0, rfl, rfl, by omega, fun i hi => by omega⟩ ?_
    (fun es hes => by obtain ⟨_, n, _, h1, h2, _⟩ := hes; omega)
  rintro m es Q ⟨b, n, rfl, hn, hn', hh⟩ hQ
  simp only [lv_cons, lv_nil, app_cons, app_nil]
  refine wp_lt rfl ?_
  simp only [lv_cons, lv_nil, app_cons, app_nil]
  refine wp_ite rfl (fun hc => ?_) (fun hc => ?_)
  · have hc := of_decide_eq_true hc
    refine wp_rounds (fun m ds => ∃ (b : Bool) (v : Nat), ds = [.b b, I v] ∧ v + m = n + 1 ∧ v ≤ n ∧ ∀ j, j < v → sameF (s.at n) (s.at j) = false) (n + 1) rfl ⟨b, 0, rfl, by omega, by omega, fun j hj => by omega⟩ ?_
      (fun es hes => by obtain ⟨_, n, _, h1, h2, _⟩ := hes; omega)
    rintro m2 es2 Q2 ⟨b2, v, rfl, hm2, hv', hv⟩ hQ2
    simp only [lv_cons, lv_nil, app_cons, app_nil]
    refine wp_lt rfl ?_
    simp only [lv_cons, lv_nil, app_cons, app_nil]
    refine wp_ite rfl (fun hc2 => ?_) (fun hc2 => ?_)
    · have hc2 := of_decide_eq_true hc2
      have hcase : (n = 1 ∧ v = 0) ∨ (n = 2 ∧ v = 0) ∨ (n = 2 ∧ v = 1) ∨ (n = 3 ∧ v = 0) ∨ (n = 3 ∧ v = 1) ∨ (n = 3 ∧ v = 2) := by omega
      rcases hcase with ⟨rfl, rfl⟩ | ⟨rfl, rfl⟩ | ⟨rfl, rfl⟩ | ⟨rfl, rfl⟩ | ⟨rfl, rfl⟩ | ⟨rfl, rfl⟩
      · refine wp_chk rfl ?_
        refine wp_chk rfl ?_
        refine wp_call rfl (refSame_con (e := s.w1) (f := s.w0)) rfl ?_
        simp only [lv_cons, lv_nil, app_cons, app_nil]
        refine wp_ite rfl (fun h => ?_) (fun h => ?_)
        · refine wp_return rfl (bb_eq ?_)
          simp [unlikeF, h]
        · refine wp_lt (d := I (0 + 1 : Nat)) rfl ?_
          simp only [lv_cons, lv_nil, app_cons, app_nil]
          refine wp_cont rfl rfl (hQ2 _ ⟨_, 0 + 1, rfl, by omega, by omega, fun j hj => ?_⟩)
          by_cases hj' : j = 0
          · subst hj'
            exact h
          · exact hv j (by omega)
      · refine wp_chk rfl ?_
        refine wp_chk rfl ?_
        refine wp_call rfl (refSame_con (e := s.w2) (f := s.w0)) rfl ?_
        simp only [lv_cons, lv_nil, app_cons, app_nil]
        refine wp_ite rfl (fun h => ?_) (fun h => ?_)
        · refine wp_return rfl (bb_eq ?_)
          simp [unlikeF, h]
        · refine wp_lt (d := I (0 + 1 : Nat)) rfl ?_
          simp only [lv_cons, lv_nil, app_cons, app_nil]
          refine wp_cont rfl rfl (hQ2 _ ⟨_, 0 + 1, rfl, by omega, by omega, fun j hj => ?_⟩)
          by_cases hj' : j = 0
          · subst hj'
            exact h
          · exact hv j (by omega)
      · refine wp_chk rfl ?_
        refine wp_chk rfl ?_
        refine wp_call rfl (refSame_con (e := s.w2) (f := s.w1)) rfl ?_
        simp only [lv_cons, lv_nil, app_cons, app_nil]
        refine wp_ite rfl (fun h => ?_) (fun h => ?_)
        · refine wp_return rfl (bb_eq ?_)
          simp [unlikeF, h]
        · refine wp_lt (d := I (1 + 1 : Nat)) rfl ?_
          simp only [lv_cons, lv_nil, app_cons, app_nil]
          refine wp_cont rfl rfl (hQ2 _ ⟨_, 1 + 1, rfl, by omega, by omega, fun j hj => ?_⟩)
          by_cases hj' : j = 1
          · subst hj'
            exact h
          · exact hv j (by omega)
      · refine wp_chk rfl ?_
        refine wp_chk rfl ?_
        refine wp_call rfl (refSame_con (e := s.w3) (f := s.w0)) rfl ?_
        simp only [lv_cons, lv_nil, app_cons, app_nil]
        refine wp_ite rfl (fun h => ?_) (fun h => ?_)
        · refine wp_return rfl (bb_eq ?_)
          simp [unlikeF, h]
        · refine wp_lt (d := I (0 + 1 : Nat)) rfl ?_
          simp only [lv_cons, lv_nil, app_cons, app_nil]
          refine wp_cont rfl rfl (hQ2 _ ⟨_, 0 + 1, rfl, by omega, by omega, fun j hj => ?_⟩)
          by_cases hj' : j = 0
          · subst hj'
            exact h
          · exact hv j (by omega)
      · refine wp_chk rfl ?_
        refine wp_chk rfl ?_
        refine wp_call rfl (refSame_con (e := s.w3) (f := s.w1)) rfl ?_
        simp only [lv_cons, lv_nil, app_cons, app_nil]
        refine wp_ite rfl (fun h => ?_) (fun h => ?_)
        · refine wp_return rfl (bb_eq ?_)
          simp [unlikeF, h]
        · refine wp_lt (d := I (1 + 1 : Nat)) rfl ?_
          simp only [lv_cons, lv_nil, app_cons, app_nil]
          refine wp_cont rfl rfl (hQ2 _ ⟨_, 1 + 1, rfl, by omega, by omega, fun j hj => ?_⟩)
          by_cases hj' : j = 1
          · subst hj'
            exact h
          · exact hv j (by omega)
      · refine wp_chk rfl ?_
        refine wp_chk rfl ?_
        refine wp_call rfl (refSame_con (e := s.w3) (f := s.w2)) rfl ?_
        simp only [lv_cons, lv_nil, app_cons, app_nil]
        refine wp_ite rfl (fun h => ?_) (fun h => ?_)
        · refine wp_return rfl (bb_eq ?_)
          simp [unlikeF, h]
        · refine wp_lt (d := I (2 + 1 : Nat)) rfl ?_
          simp only [lv_cons, lv_nil, app_cons, app_nil]
          refine wp_cont rfl rfl (hQ2 _ ⟨_, 2 + 1, rfl, by omega, by omega, fun j hj => ?_⟩)
          by_cases hj' : j = 2
          · subst hj'
            exact h
          · exact hv j (by omega)
    · have hc2 := of_decide_eq_false hc2
      obtain rfl : v = n := by omega
      refine wp_lt (i_add (a := (v : Int)) (b := 1) rfl rfl (by omega) (by omega)) ?_
      simp only [lv_cons, lv_nil, app_cons, app_nil]
      refine wp_cont rfl rfl (hQ _ ⟨_, v + 1, rfl, by omega, by omega, fun i hi j hj => ?_⟩)
      by_cases hi' : i = v
      · subst hi'
        exact hv j hj
      · exact hh i (by omega) j hj
  · have hc := of_decide_eq_false hc
    obtain rfl : n = 4 := by omega
    refine wp_return rfl (bb_eq ?_)
    have h1 := hh 1 (by omega) 0 (by omega)
    have h2 := hh 2 (by omega) 0 (by omega)
    have h3 := hh 2 (by omega) 1 (by omega)
    have h4 := hh 3 (by omega) 0 (by omega)
    have h5 := hh 3 (by omega) 1 (by omega)
    have h6 := hh 3 (by omega) 2 (by omega)
    simp only [SetD.at] at h1 h2 h3 h4 h5 h6
    simp [unlikeF, h1, h2, h3, h4, h5, h6]

/-! ### the address of a page's number -/
def ofN (n : Nat) : Nat := signN (n % 134217728 * 4096) 39
theorem refOf_con {n : Nat} : Cn gAll 23 [u n] [u (ofN n)] := by
  refine con rfl rfl atlasref05_Of_c atlasref05_Of_p rfl ?_
  have hm : n % 134217728 < 134217728 := Nat.mod_lt _ (by omega)
  refine wp_lt (u_rem (b := 134217728) rfl rfl (by omega)) ?_
  simp only [lv_cons, lv_nil, app_cons, app_nil]
  refine wp_lt (u_mul (b := 4096) rfl rfl (by omega)) ?_
  simp only [lv_cons, lv_nil, app_cons, app_nil]
  refine wp_call rfl (refSign_con (n := 39) (by omega) (by omega) (by omega)) rfl ?_
  simp only [lv_cons, lv_nil, app_cons, app_nil]
  exact wp_return rfl rfl
theorem ofN_number {n : Nat} : ofN n / 4096 % 134217728 = n % 134217728 := by
  have e1 : (4096 : Nat) = 2 ^ 12 := rfl
  have e2 : (134217728 : Nat) = 2 ^ 27 := rfl
  apply Nat.eq_of_testBit_eq
  intro i
  rw [e2, Nat.testBit_mod_two_pow, Nat.testBit_mod_two_pow]
  by_cases hi : i < 27
  · simp only [hi, decide_true, Bool.true_and]
    rw [e1, Nat.testBit_div_two_pow, ofN, signN, ofF_testBit]
    have h1 : i + 12 < 64 := by omega
    have h2 : min (i + 12) (39 - 1) = i + 12 := by omega
    simp only [h1, decide_true, Bool.true_and, h2]
    rw [e1, e2, Nat.testBit_mul_two_pow, Nat.testBit_mod_two_pow]
    have h3 : 12 ≤ i + 12 := by omega
    have h4 : i + 12 - 12 = i := by omega
    simp [h4, hi]
  · simp [hi]

/-! ### what putting leaves -/
theorem same_symm {e f : En} : sameF e f = sameF f e := by
  rw [Bool.eq_iff_iff]
  simp only [sameF, Bool.and_eq_true, beq_iff_eq, Bool.or_eq_true]
  constructor
  · rintro ⟨⟨⟨⟨h1, h2⟩, h3⟩, h4⟩, h5⟩
    exact ⟨⟨⟨⟨h2, h1⟩, h3.symm⟩, h4.symm⟩, h5.elim (fun h => h.elim (fun h => .inl (.inl h.symm)) .inr) (fun h => .inl (.inr h))⟩
  · rintro ⟨⟨⟨⟨h1, h2⟩, h3⟩, h4⟩, h5⟩
    exact ⟨⟨⟨⟨h2, h1⟩, h3.symm⟩, h4.symm⟩, h5.elim (fun h => h.elim (fun h => .inl (.inl h.symm)) .inr) (fun h => .inl (.inr h))⟩
theorem same_zero {e : En} : sameF En.zero e = false := by simp [sameF, En.zero]
theorem same_zero' {e : En} : sameF e En.zero = false := by rw [same_symm]; exact same_zero
theorem dW_same {e w : En} : sameF (dW e w) e = false := by
  unfold dW
  split
  · exact same_zero
  · rename_i h
    rw [same_symm]
    simpa using h
theorem dW_sub {e a b : En} (h : sameF a b = false) : sameF (dW e a) (dW e b) = false := by
  unfold dW
  split
  · exact same_zero
  · split
    · exact same_zero'
    · exact h
theorem dW_v {e w : En} : (dW e w).v = (w.v && !sameF e w) := by
  unfold dW
  split
  · rename_i h; simp [En.zero, h]
  · rename_i h
    have h : sameF e w = false := by simpa using h
    simp [h]
theorem dW_may {e w : En} (h : w.may = true) : (dW e w).may = true := by
  unfold dW
  split
  · decide
  · exact h
theorem same_v {e w : En} (h : sameF e w = true) : w.v = true := by
  simp only [sameF, Bool.and_eq_true] at h
  exact h.1.1.1.2

/-- the set behind putting, written out -/
def putW (e : En) (s : SetD) (k : Nat) : SetD := ⟨if k = 0 then e else dW e s.w0, if k = 1 then e else dW e s.w1, if k = 2 then e else dW e s.w2, if k = 3 then e else dW e s.w3, touN s.t k⟩
theorem putW_0 {e : En} {s : SetD} : putW e s 0 = ⟨e, dW e s.w1, dW e s.w2, dW e s.w3, touN s.t 0⟩ := rfl
theorem putW_1 {e : En} {s : SetD} : putW e s 1 = ⟨dW e s.w0, e, dW e s.w2, dW e s.w3, touN s.t 1⟩ := rfl
theorem putW_2 {e : En} {s : SetD} : putW e s 2 = ⟨dW e s.w0, dW e s.w1, e, dW e s.w3, touN s.t 2⟩ := rfl
theorem putW_3 {e : En} {s : SetD} : putW e s 3 = ⟨dW e s.w0, dW e s.w1, dW e s.w2, e, touN s.t 3⟩ := rfl
theorem setPut_eq {s : SetD} {e : En} {v : Int} {k : Nat} (hk : setPutK s e v = k) (h4 : k < 4) : setPut s e v = putW e s k := by
  unfold setPut
  rw [hk]
  have hcase : k = 0 ∨ k = 1 ∨ k = 2 ∨ k = 3 := by omega
  rcases hcase with rfl | rfl | rfl | rfl <;> simp [SetD.put, SetD.use, dropTo, putW]
theorem touN_lt {t k : Nat} (ht : t < 8) (hk : k < 4) : touN t k < 8 := by
  unfold touN
  split
  · omega
  · split
    · omega
    · split <;> omega
theorem vic_away {t k : Nat} (ht : t < 8) (hk : k < 4) : vicN (touN t k) / 2 ≠ k / 2 := by
  have hcase : k = 0 ∨ k = 1 ∨ k = 2 ∨ k = 3 := by omega
  rcases hcase with rfl | rfl | rfl | rfl <;> simp only [touN] <;> simp [vicN] <;> split <;> omega
theorem putW_right {e : En} {s : SetD} {k : Nat} (hs : s.right = true) (he : e.may = true) (hk : k < 4) : (putW e s k).right = true := by
  obtain ⟨ht, m0, m1, m2, m3⟩ := SetD.right_may hs
  simp only [SetD.right, putW, Bool.and_eq_true]
  refine ⟨⟨⟨⟨decide_eq_true (touN_lt ht hk), ?_⟩, ?_⟩, ?_⟩, ?_⟩ <;> split <;> first | exact he | (apply dW_may; assumption)
theorem putW_ok {e : En} {s : SetD} {k : Nat} (hs : s.Ok) (he : e.Ok) : (putW e s k).Ok := by
  have hz : ∀ w : En, w.Ok → (dW e w).Ok := fun w hw => by
    unfold dW
    split
    · exact ⟨by decide, by decide, by decide⟩
    · exact hw
  refine ⟨?_, ?_, ?_, ?_⟩ <;> simp only [putW] <;> split <;> first | exact he | (apply hz; first | exact hs.w0 | exact hs.w1 | exact hs.w2 | exact hs.w3)
theorem putW_unlike {e : En} {s : SetD} {k : Nat} (h : unlikeF s = true) (hk : k < 4) : unlikeF (putW e s k) = true := by
  simp only [unlikeF, Bool.and_eq_true, Bool.not_eq_true'] at h ⊢
  obtain ⟨⟨⟨⟨⟨h1, h2⟩, h3⟩, h4⟩, h5⟩, h6⟩ := h
  have he : ∀ w, sameF e (dW e w) = false := fun w => by rw [same_symm]; exact dW_same
  have hcase : k = 0 ∨ k = 1 ∨ k = 2 ∨ k = 3 := by omega
  rcases hcase with rfl | rfl | rfl | rfl <;> simp [putW, dW_same, he, dW_sub h1, dW_sub h2, dW_sub h3, dW_sub h4, dW_sub h5, dW_sub h6]
/-- which way goes: the one that is told, or one that was empty, if any was -/
def empF (e : En) (w : En) : Bool := !w.v || sameF e w
theorem empF_eq {e w : En} : empF e w = !(dW e w).v := by
  rw [dW_v, empF]
  cases w.v <;> cases sameF e w <;> rfl
def empT (e : En) (s : SetD) (n : Nat) : Bool := (decide (0 < n) && empF e s.w0) || (decide (1 < n) && empF e s.w1) || (decide (2 < n) && empF e s.w2) || (decide (3 < n) && empF e s.w3)
theorem goes_told {s : SetD} {e : En} {v : Int} (h : 0 ≤ v ∧ v ≤ 3) : (setPutK s e v : Int) = v := by
  unfold setPutK goesF
  rw [if_pos ⟨h.1, by omega⟩]
  omega
theorem goes_empty {s : SetD} {e : En} {v : Int} (h : ¬ (0 ≤ v ∧ v ≤ 3)) (he : empT e s 4 = true) : empF e (s.at (setPutK s e v)) = true := by
  have hv : ¬ (0 ≤ v ∧ v < 4) := by omega
  unfold setPutK goesF
  rw [if_neg hv]
  simp only [dropTo, show (0 : Nat) < 4 from by omega, show (1 : Nat) < 4 from by omega, show (2 : Nat) < 4 from by omega, show (3 : Nat) < 4 from by omega, if_true]
  simp only [empT, show (0 : Nat) < 4 from by omega, show (1 : Nat) < 4 from by omega, show (2 : Nat) < 4 from by omega, show (3 : Nat) < 4 from by omega, decide_true, Bool.true_and] at he
  split
  · rename_i h0; simp [SetD.at, empF_eq, h0]
  · rename_i h0
    split
    · rename_i h1; simp [SetD.at, empF_eq, h1]
    · rename_i h1
      split
      · rename_i h2; simp [SetD.at, empF_eq, h2]
      · rename_i h2
        split
        · rename_i h3; simp [SetD.at, empF_eq, h3]
        · rename_i h3
          exfalso
          simp only [empF_eq] at he
          simp_all
theorem putW_find {e : En} {s : SetD} {k : Nat} (hk : k < 4) (hv : e.v = true) (hm : e.May) : (findF (putW e s k) e.asid (ofN e.vpn) e.lv).2 = true ∧ (findF (putW e s k) e.asid (ofN e.vpn) e.lv).1 ≤ k := by
  have hh : hitF e e.asid (ofN e.vpn) e.lv = true := by
    have h1 := hm.vpn
    have h2 := pgN_pos (l := e.lv)
    simp only [hitF, matchF, coversF, ofN_number, Nat.mod_eq_of_lt h1, hv, beq_self_eq_true, Bool.true_and, Bool.or_true, Bool.and_true, Nat.le_refl, decide_true]
    simp
    omega
  have hcase : k = 0 ∨ k = 1 ∨ k = 2 ∨ k = 3 := by omega
  rcases hcase with rfl | rfl | rfl | rfl
  · simp [findF, putW, hh]
  · by_cases h0 : hitF (dW e s.w0) e.asid (ofN e.vpn) e.lv = true <;> simp [findF, putW, hh, h0]
  · by_cases h0 : hitF (dW e s.w0) e.asid (ofN e.vpn) e.lv = true <;> by_cases h1 : hitF (dW e s.w1) e.asid (ofN e.vpn) e.lv = true <;> simp [findF, putW, hh, h0, h1]
  · by_cases h0 : hitF (dW e s.w0) e.asid (ofN e.vpn) e.lv = true <;> by_cases h1 : hitF (dW e s.w1) e.asid (ofN e.vpn) e.lv = true <;> by_cases h2 : hitF (dW e s.w2) e.asid (ofN e.vpn) e.lv = true <;> simp [findF, putW, hh, h0, h1, h2]
end Go.Proofs.YtebcdcdcefhdfaaDoor.Sx
