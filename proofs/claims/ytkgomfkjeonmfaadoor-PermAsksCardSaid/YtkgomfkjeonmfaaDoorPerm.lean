/-
  Layer 8: the contracts of perm's functions, of their references, and of the laws.
-/
import Derived.Test.YtkgomfkjeonmfaaDoorWp
import Derived.Test.YtkgomfkjeonmfaaDoorIrPerm
namespace Go.Proofs.YtkgomfkjeonmfaaDoor.Sx
open Go
set_option linter.unusedVariables false
set_option maxRecDepth 100000
set_option linter.unusedSimpArgs false

abbrev b8 (x : Int) : DV := (false, [.i .u8 x])
abbrev bb (x : Bool) : DV := (false, [.b x])
abbrev P4 (r w x u : Bool) : DV := (true, [.b r, .b w, .b x, .b u])
abbrev W4 (k m : Int) (s x : Bool) : DV := (true, [.i .i64 k, .i .i64 m, .b s, .b x])

theorem awake08_con : Cn gPerm 7 [] [bb true] := con_of_run TIrPerm_ok rfl 300 rfl (isT_eq (by kernel_rfl))

theorem may_con (a b c d : Bool) : ∃ t, Cn gPerm 10 [P4 a b c d] [bb t] ∧ Cn gPerm 11 [P4 a b c d] [bb t] := by
  have h : (allB fun a => allB fun b => allB fun c => allB fun d => sameT (run TIrPerm 100 perm_May_ir [] [.b a, .b b, .b c, .b d]) (run TIrPerm 100 atlasref08_May_ir [] [.b a, .b b, .b c, .b d])) = true := by kernel_rfl
  obtain ⟨t, h1, h2⟩ := sameT_eq (allB_all (allB_all (allB_all (allB_all h a) b) c) d)
  exact ⟨t, con_of_run TIrPerm_ok rfl 100 rfl h1, con_of_run TIrPerm_ok rfl 100 rfl h2⟩

theorem less_con (a b c d e f g h : Bool) : ∃ t, Cn gPerm 12 [P4 a b c d, P4 e f g h] [bb t] ∧ Cn gPerm 13 [P4 a b c d, P4 e f g h] [bb t] := by
  have hh : (allB fun a => allB fun b => allB fun c => allB fun d => allB fun e => allB fun f => allB fun g => allB fun h => sameT (run TIrPerm 100 perm_Less_ir [] [.b a, .b b, .b c, .b d, .b e, .b f, .b g, .b h])
    (run TIrPerm 100 atlasref08_Less_ir [] [.b a, .b b, .b c, .b d, .b e, .b f, .b g, .b h])) = true := by kernel_rfl
  obtain ⟨t, h1, h2⟩ := sameT_eq (allB_all (allB_all (allB_all (allB_all (allB_all (allB_all (allB_all (allB_all hh a) b) c) d) e) f) g) h)
  exact ⟨t, con_of_run TIrPerm_ok rfl 100 rfl h1, con_of_run TIrPerm_ok rfl 100 rfl h2⟩

theorem allows_con (a b c d : Bool) {k m : Int} (s x : Bool) (hk : k = 0 ∨ k = 1 ∨ k = 2) (hm : m = 0 ∨ m = 1) : ∃ t, Cn gPerm 14 [P4 a b c d, W4 k m s x] [bb t] ∧ Cn gPerm 15 [P4 a b c d, W4 k m s x] [bb t] := by
  have hh : (allB fun a => allB fun b => allB fun c => allB fun d => ([0, 1, 2] : List Int).all fun k => ([0, 1] : List Int).all fun m => allB fun s => allB fun x => sameT (run TIrPerm 100 perm_Allows_ir [] [.b a, .b b, .b c, .b d, .i .i64 k, .i .i64 m, .b s, .b x])
    (run TIrPerm 100 atlasref08_Allows_ir [] [.b a, .b b, .b c, .b d, .i .i64 k, .i .i64 m, .b s, .b x])) = true := by kernel_rfl
  have h0 := allB_all (allB_all (allB_all (allB_all hh a) b) c) d
  have h1 := List.all_eq_true.1 h0 k (by rcases hk with rfl | rfl | rfl <;> simp)
  have h2 := List.all_eq_true.1 h1 m (by rcases hm with rfl | rfl <;> simp)
  obtain ⟨t, h3, h4⟩ := sameT_eq (allB_all (allB_all h2 s) x)
  exact ⟨t, con_of_run TIrPerm_ok rfl 100 rfl h3, con_of_run TIrPerm_ok rfl 100 rfl h4⟩

def isF (k m : Int) : Bool := (k == 0 || k == 1 || k == 2) && (m == 0 || m == 1)

theorem is_con (k m : Int) (s x : Bool) : Cn gPerm 8 [W4 k m s x] [bb (isF k m)] := by
  refine con rfl rfl perm_Is_c perm_Is_p rfl ?_
  refine wp_lt rfl ?_
  refine wp_ite rfl (fun h1 => ?_) (fun h1 => ?_)
  · refine wp_lt rfl ?_
    refine wp_ite rfl (fun h2 => ?_) (fun h2 => ?_)
    · have hk : k = 0 ∨ k = 1 ∨ k = 2 := by simp at h1 h2; omega
      refine wp_lt rfl ?_
      refine wp_ite rfl (fun h3 => ?_) (fun h3 => ?_)
      · refine wp_return rfl ?_
        have hm : m = 0 := by simpa using h3
        rcases hk with rfl | rfl | rfl <;> simp [isF, hm]
      · refine wp_lt rfl ?_
        refine wp_return rfl ?_
        have hm : ¬ m = 0 := by simpa using h3
        rcases hk with rfl | rfl | rfl <;> simp [isF, hm] <;> rfl
    · refine wp_return rfl ?_
      have : isF k m = false := by simp at h1 h2; simp [isF]; omega
      rw [this]
  · refine wp_return rfl ?_
    have : isF k m = false := by simp at h1; simp [isF]; omega
    rw [this]

theorem refIs_con (k m : Int) (s x : Bool) : Cn gPerm 9 [W4 k m s x] [bb (isF k m)] := by
  refine con rfl rfl atlasref08_Is_c atlasref08_Is_p rfl ?_
  have hm2 : ∀ {L : List Lp} {ρ : List D} {i j : Nat} (hi : ρ[1]? = some (.i .i64 m)) (hj : ρ.length = j) (hk : k = 0 ∨ k = 1 ∨ k = 2),
      IR.wp (Cn gPerm) (fun r => r = [bb (isF k m)]) (.lt (.bin .eql (.v 1) (.c (.i .i64 0))) (.ite (.v j) (.ret [(false, [(.c (.b true))])]) (.lt (.bin .eql (.v 1) (.c (.i .i64 1))) (.ret [(false, [(.v (j + 1))])])))) L ρ := by
    intro L ρ i j hi hj hk
    subst hj
    refine wp_lt (d := .b (m == 0)) (by simp [Ex.eval, hi, binD]) ?_
    refine wp_ite (t := m == 0) (by simp [Ex.eval]) (fun h3 => ?_) (fun h3 => ?_)
    · refine wp_return rfl ?_
      have hm : m = 0 := by simpa using h3
      rcases hk with rfl | rfl | rfl <;> simp [isF, hm]
    · have hl : 1 < ρ.length := (List.getElem?_eq_some_iff.1 hi).1
      refine wp_lt (d := .b (m == 1)) (by simp [Ex.eval, List.getElem?_append_left hl, hi, binD]) ?_
      refine wp_return (rs := [bb (m == 1)]) (by simp [evalVs, Ex.evals, Ex.eval]) ?_
      have hm : ¬ m = 0 := by simpa using h3
      rcases hk with rfl | rfl | rfl <;> simp [isF, hm]
  refine wp_lt rfl ?_
  refine wp_ite rfl (fun h1 => ?_) (fun h1 => ?_)
  · exact hm2 (i := 0) rfl rfl (.inl (by simpa using h1))
  · refine wp_lt rfl ?_
    refine wp_ite rfl (fun h2 => ?_) (fun h2 => ?_)
    · exact hm2 (i := 0) rfl rfl (.inr (.inl (by simpa using h2)))
    · refine wp_lt rfl ?_
      refine wp_ite rfl (fun h3 => ?_) (fun h3 => ?_)
      · exact hm2 (i := 0) rfl rfl (.inr (.inr (by simpa using h3)))
      · refine wp_return rfl ?_
        have : isF k m = false := by simp at h1 h2 h3; simp [isF, h1, h2, h3]
        rw [this]

set_option maxHeartbeats 1000000 in
theorem PermAsks_con (a b c d e f g h : Bool) (k m : Int) (s x : Bool) : Cn gPerm 3 [P4 a b c d, P4 e f g h, W4 k m s x] [bb true] := by
  refine con rfl rfl atlaslaw08_PermAsks_c atlaslaw08_PermAsks_p rfl ?_
  obtain ⟨t1, m1, m2⟩ := may_con a b c d
  obtain ⟨t2, l1, l2⟩ := less_con a b c d e f g h
  unfold atlaslaw08_PermAsks_ir
  refine wp_call rfl awake08_con rfl ?_
  simp only [lv_cons, lv_nil, app_cons, app_nil]
  refine wp_lt rfl ?_
  simp only [lv_cons, lv_nil, app_cons, app_nil]
  refine wp_ite (t := false) rfl (fun h => by cases h) (fun _ => ?_)
  refine wp_call rfl (is_con k m s x) rfl ?_
  simp only [lv_cons, lv_nil, app_cons, app_nil]
  refine wp_call rfl (refIs_con k m s x) rfl ?_
  simp only [lv_cons, lv_nil, app_cons, app_nil]
  refine wp_lt rfl ?_
  simp only [lv_cons, lv_nil, app_cons, app_nil]
  refine wp_ite rfl (fun h => by simp at h) (fun _ => ?_)
  refine wp_call rfl m1 rfl ?_
  simp only [lv_cons, lv_nil, app_cons, app_nil]
  refine wp_call rfl m2 rfl ?_
  simp only [lv_cons, lv_nil, app_cons, app_nil]
  refine wp_lt rfl ?_
  simp only [lv_cons, lv_nil, app_cons, app_nil]
  refine wp_ite rfl (fun h => by simp at h) (fun _ => ?_)
  refine wp_call rfl l1 rfl ?_
  simp only [lv_cons, lv_nil, app_cons, app_nil]
  refine wp_call rfl l2 rfl ?_
  simp only [lv_cons, lv_nil, app_cons, app_nil]
  refine wp_lt rfl ?_
  simp only [lv_cons, lv_nil, app_cons, app_nil]
  refine wp_ite rfl (fun h => by simp at h) (fun _ => ?_)
  refine wp_call rfl (refIs_con k m s x) rfl ?_
  simp only [lv_cons, lv_nil, app_cons, app_nil]
  refine wp_lt rfl ?_
  simp only [lv_cons, lv_nil, app_cons, app_nil]
  refine wp_ite rfl (fun _ => ?_) (fun hi => ?_)
  · exact wp_return rfl rfl
  · have hi : isF k m = true := by simpa using hi
    unfold isF at hi
    simp only [Bool.and_eq_true, Bool.or_eq_true, beq_iff_eq] at hi
    obtain ⟨t3, a1, a2⟩ := allows_con a b c d s x (k := k) (m := m) (by omega) hi.2
    refine wp_call rfl a1 rfl ?_
    simp only [lv_cons, lv_nil, app_cons, app_nil]
    refine wp_call rfl a2 rfl ?_
    simp only [lv_cons, lv_nil, app_cons, app_nil]
    refine wp_lt rfl ?_
    simp only [lv_cons, lv_nil, app_cons, app_nil]
    exact wp_return rfl (by simp)

def is4 (r : Option (List DV)) : Bool := match r with | some [(true, [.b _, .b _, .b _, .b _])] => true | _ => false
theorem number_con {z : Int} (h0 : 0 ≤ z) (h1 : z < 256) : ∃ a b c d, Cn gPerm 16 [b8 z] [P4 a b c d] := by
  have h := all_u8 (p := fun n => is4 (run TIrPerm 300 atlasref08_Number_ir [] [.i .u8 (n : Int)])) (by kernel_rfl) h0 h1
  have e : ((z.toNat : Nat) : Int) = z := Int.toNat_of_nonneg h0
  simp only [e] at h
  unfold is4 at h
  split at h
  · rename_i a b c d hr
    exact ⟨a, b, c, d, con_of_run TIrPerm_ok rfl 300 rfl hr⟩
  · cases h
def isWay (r : Option (List DV)) : Bool := match r with | some [(true, [.i .i64 k, .i .i64 m, .b _, .b _])] => (k == 0 || k == 1 || k == 2) && (m == 0 || m == 1) | _ => false
theorem way_con {z : Int} (h0 : 0 ≤ z) (h1 : z < 256) : ∃ k m s x, (k = 0 ∨ k = 1 ∨ k = 2) ∧ (m = 0 ∨ m = 1) ∧ Cn gPerm 17 [b8 z] [W4 k m s x] := by
  have h := all_u8 (p := fun n => isWay (run TIrPerm 300 atlasref08_Way_ir [] [.i .u8 (n : Int)])) (by kernel_rfl) h0 h1
  have e : ((z.toNat : Nat) : Int) = z := Int.toNat_of_nonneg h0
  simp only [e] at h
  unfold isWay at h
  split at h
  · rename_i k m s x hr
    simp only [Bool.and_eq_true, Bool.or_eq_true, beq_iff_eq] at h
    exact ⟨k, m, s, x, by omega, h.2, con_of_run TIrPerm_ok rfl 300 rfl hr⟩
  · cases h

theorem PermUser_con {y z : Int} (h0 : 0 ≤ y) (h1 : y < 256) (g0 : 0 ≤ z) (g1 : z < 256) : Cn gPerm 6 [b8 y, b8 z] [bb true] := by
  refine con rfl rfl atlaslaw08_PermUser_c atlaslaw08_PermUser_p rfl ?_
  obtain ⟨a, b, c, d, hn⟩ := number_con h0 h1
  obtain ⟨k, m, s, x, hk, hm, hw⟩ := way_con g0 g1
  refine wp_call rfl awake08_con rfl ?_
  refine wp_lt rfl ?_
  refine wp_ite (t := false) rfl (fun h => by cases h) (fun _ => ?_)
  refine wp_call rfl hn rfl ?_
  refine wp_call rfl hw rfl ?_
  have hh : (allB fun a => allB fun b => allB fun c => allB fun d => ([0, 1, 2] : List Int).all fun k => ([0, 1] : List Int).all fun m => allB fun s => allB fun x =>
      isT (run TIrPerm 400 (IR.sub [.n, .n, .e, .n, .n] atlaslaw08_PermUser_ir) [] [.i .u8 y, .i .u8 z, .b true, .b false, .b a, .b b, .b c, .b d, .i .i64 k, .i .i64 m, .b s, .b x])) = true := by kernel_rfl
  have h0 := allB_all (allB_all (allB_all (allB_all hh a) b) c) d
  have h1 := List.all_eq_true.1 h0 k (by rcases hk with rfl | rfl | rfl <;> simp)
  have h2 := List.all_eq_true.1 h1 m (by rcases hm with rfl | rfl <;> simp)
  exact wp_run TIrPerm_ok (isT_eq (allB_all (allB_all h2 s) x)) rfl

end Go.Proofs.YtkgomfkjeonmfaaDoor.Sx
