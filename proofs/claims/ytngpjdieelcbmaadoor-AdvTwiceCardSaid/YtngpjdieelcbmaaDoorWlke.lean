/-
  Layer 10: marking, walking: contracts.
-/
import Derived.Test.YtngpjdieelcbmaaDoorWlkd
namespace Go.Proofs.YtngpjdieelcbmaaDoor.Sx
open Go
set_option linter.unusedVariables false
set_option linter.unusedSimpArgs false
set_option maxRecDepth 100000

theorem add_bit {w k : Nat} (h : w / 2 ^ k % 2 = 0) : w + 2 ^ k = w ||| 2 ^ k := by
  have e : w = 2 ^ k * (w / 2 ^ k) + w % 2 ^ k := (Nat.div_add_mod w (2 ^ k)).symm
  have hr : w % 2 ^ k < 2 ^ k := Nat.mod_lt _ (Nat.two_pow_pos k)
  generalize hq : w / 2 ^ k = q at e h
  generalize w % 2 ^ k = r at e hr
  subst e
  rw [show 2 ^ k * q + r + 2 ^ k = 2 ^ k * (q + 1) + r by rw [Nat.mul_succ]; omega]
  refine Nat.eq_of_testBit_eq fun j => ?_
  rw [Nat.testBit_or, Nat.testBit_two_pow_mul_add _ hr, Nat.testBit_two_pow_mul_add _ hr, Nat.testBit_two_pow]
  by_cases hj : j < k
  · rw [if_pos hj, if_pos hj, decide_eq_false (by omega), Bool.or_false]
  · rw [if_neg hj, if_neg hj]
    by_cases he : k = j
    · subst he
      rw [Nat.sub_self, decide_eq_true rfl, Bool.or_true, Nat.testBit_zero, decide_eq_true (by omega)]
    · obtain ⟨m, hm⟩ : ∃ m, j - k = m + 1 := ⟨j - k - 1, by omega⟩
      rw [hm, decide_eq_false he, Bool.or_false, Nat.testBit_succ, Nat.testBit_succ]
      congr 1
      omega
/-- a word, marked -/
def mkN (w : Nat) (d : Bool) : Nat := w ||| 64 ||| (if d then 128 else 0)
theorem mkN_bit {w i : Nat} {d : Bool} : (mkN w d).testBit i = (w.testBit i || decide (6 = i) || (d && decide (7 = i))) := by
  unfold mkN
  rw [Nat.testBit_or, Nat.testBit_or, show (64 : Nat) = 2 ^ 6 from rfl, Nat.testBit_two_pow]
  cases d
  · simp
  · rw [if_pos rfl, show (128 : Nat) = 2 ^ 7 from rfl, Nat.testBit_two_pow, Bool.true_and]
theorem mkN_lt {w : Nat} {d : Bool} (hw : w < 18446744073709551616) : mkN w d < 18446744073709551616 := by
  unfold mkN
  refine Nat.or_lt_two_pow (n := 64) (Nat.or_lt_two_pow (n := 64) hw (by decide)) (by split <;> decide)
theorem mk_one {w : Nat} (d : Bool) : mkN w d = (if d then (w ||| 64) ||| 128 else w ||| 64) := by
  unfold mkN
  cases d <;> simp
theorem orBit6 {w : Nat} : w ||| 64 = if w / 64 % 2 = 0 then w + 64 else w := by
  split
  · rename_i h; exact (add_bit (k := 6) h).symm
  · rename_i h
    refine Nat.eq_of_testBit_eq fun i => ?_
    rw [Nat.testBit_or, show (64 : Nat) = 2 ^ 6 from rfl, Nat.testBit_two_pow]
    by_cases hi : 6 = i
    · subst hi
      rw [Nat.testBit_eq_decide_div_mod_eq, decide_eq_true (show w / 2 ^ 6 % 2 = 1 by omega)]
      rfl
    · rw [decide_eq_false hi, Bool.or_false]
theorem orBit7 {w : Nat} : w ||| 128 = if w / 128 % 2 = 0 then w + 128 else w := by
  split
  · rename_i h; exact (add_bit (k := 7) h).symm
  · rename_i h
    refine Nat.eq_of_testBit_eq fun i => ?_
    rw [Nat.testBit_or, show (128 : Nat) = 2 ^ 7 from rfl, Nat.testBit_two_pow]
    by_cases hi : 7 = i
    · subst hi
      rw [Nat.testBit_eq_decide_div_mod_eq, decide_eq_true (show w / 2 ^ 7 % 2 = 1 by omega)]
      rfl
    · rw [decide_eq_false hi, Bool.or_false]
theorem mk_d {w : Nat} {d : Bool} : (((mkN w d / 128 % 2 : Nat) : Int) == 1) = ((ptN w).d || d) := by
  have h : (mkN w d).testBit 7 = decide (mkN w d / 2 ^ 7 % 2 = 1) := Nat.testBit_eq_decide_div_mod_eq
  rw [mkN_bit] at h
  have e : (((mkN w d / 128 % 2 : Nat) : Int) == 1) = decide (mkN w d / 2 ^ 7 % 2 = 1) := by
    rw [Bool.eq_iff_iff]
    simp only [beq_iff_eq, decide_eq_true_eq]
    omega
  rw [e, ← h]
  show (w.testBit 7 || false || (d && true)) = (w.testBit 7 || d)
  simp
theorem wdN_ad {p : Pt} {a d : Bool} {i : Nat} (h : 8 ≤ i) : (wdN { p with a := a, d := d }).testBit i = (wdN p).testBit i := by
  obtain ⟨v, r, w, x, u, g, a', d', rsw, ppn, high⟩ := p
  exact wdN_hi h rfl rfl rfl
theorem wd_mark {w : Nat} {d : Bool} (hw : w < 18446744073709551616) : wdN { ptN w with a := true, d := (ptN w).d || d } = mkN w d := by
  refine Nat.eq_of_testBit_eq fun i => ?_
  rw [mkN_bit]
  by_cases h : i < 8
  · rw [wdN_lo h]
    rcases i with _ | _ | _ | _ | _ | _ | _ | _ | i
    · simp [ptN]
    · simp [ptN]
    · simp [ptN]
    · simp [ptN]
    · simp [ptN]
    · simp [ptN]
    · simp [ptN]
    · simp [ptN]
    · omega
  · rw [wdN_ad (by omega)]
    rw [wdN_ptN hw, decide_eq_false (by omega), decide_eq_false (by omega)]
    simp
theorem store8 {s pl w : Nat} {cs : List Cl} (h8 : pl % 8 = 0) (hw : w < 18446744073709551616) : storeM s cs pl 8 w = putM cs (pl / 8) w := by
  have e : setN (wordN s cs pl) (pl % 8 * 8) (8 * 8) w = w := by
    rw [h8]
    refine Nat.eq_of_testBit_eq fun i => ?_
    rw [setN_testBit]
    by_cases h : i < 64
    · rw [decide_eq_true h, if_pos (by omega), Bool.true_and]
      congr 1
    · rw [decide_eq_false h, Bool.false_and, testBit_lt64 hw (by omega)]
  rw [storeM, e]
def markM (s : Nat) (cs : List Cl) (pl : Nat) (d : Bool) : List Cl := putM cs (pl / 8) (mkN (wordN s cs pl) d)
def markL (s : Nat) (cs : List Cl) (l : Lf) (d : Bool) : Lf := { l with pt := { l.pt with a := true, d := (ptN (wordN s cs l.pl)).d || d } }
theorem walkMark_con {k s : Nat} {l : Lf} {d : Bool} {cs : List Cl} (hk : Kd k cs) (hR : RM s cs) (hO : COk cs) (hlen : cs.length ≤ 400000) (h8 : l.pl % 8 = 0) (hls : l.pl < s) : Cn gAll 18 [md k s cs, l.dv, bb d] [md 2 s (markM s cs l.pl d), (markL s cs l d).dv] := by
  refine con rfl rfl walk_Mark_c walk_Mark_p rfl ?_
  unfold walk_Mark_ir
  simp only [lv_cons, lv_nil, Pt.ds, Lf.ds, app_cons, app_nil]
  have hmost := hR.most
  have hW := wordN_lt (s := s) (a := l.pl) hO
  have hw := (show Sz 8 from .inr (.inr (.inr rfl))).wrong h8 hls
  have hmay : ({ ptN (wordN s cs l.pl) with a := true, d := (ptN (wordN s cs l.pl)).d || d } : Pt).May := ptN_may hW
  have hput := ptePut_con hmay
  rw [wd_mark hW] at hput
  have hst := memStore_ok (k := k) (s := s) (a := l.pl) (n := 8) (v := mkN (wordN s cs l.pl) d) hk hR.asc hO (by omega) (by omega) (mkN_lt hW) (by decide) hw
  rw [store8 h8 (mkN_lt hW)] at hst
  refine wp_call rfl (memWord_con (s := s) (a := l.pl) hk hR.asc (by omega) (by omega)) rfl ?_
  simp only [lv_cons, lv_nil, app_cons, app_nil]
  refine wp_call rfl (pteGet_con hW) rfl ?_
  unfold markL markM
  generalize hp : ptN (wordN s cs l.pl) = p at hput ⊢
  simp only [lv_cons, lv_nil, Pt.ds, Lf.ds, app_cons, app_nil]
  refine wp_ite rfl (fun hd => ?_) (fun hd => ?_)
  · rw [hd] at hput
    refine wp_call rfl hput rfl ?_
    simp only [lv_cons, lv_nil, app_cons, app_nil]
    refine wp_call rfl hst rfl ?_
    simp only [lv_cons, lv_nil, app_cons, app_nil]
    refine wp_return rfl ?_
    rw [hd]
    rfl
  · rw [hd] at hput
    refine wp_call rfl hput rfl ?_
    simp only [lv_cons, lv_nil, app_cons, app_nil]
    refine wp_call rfl hst rfl ?_
    simp only [lv_cons, lv_nil, app_cons, app_nil]
    refine wp_return rfl ?_
    rw [hd]
    rfl

/-! ### walking -/
structure LeafOk (s : Nat) (cs : List Cl) (l : Lf) : Prop where
  al : l.pl % 8 = 0
  low : l.pl < s
  lv : l.lv ≤ 2
  pt : ∃ g, l.pt = { ptN (wordN s cs l.pl) with g := g }
  good : l.pt.bad l.lv = false
  leaf : l.pt.leaf = true
theorem down_leaf {s a : Nat} {cs : List Cl} {r : Lf} : ∀ {l t : Nat} {g : Bool}, l ≤ 2 → downN s cs a l t g = .leaf r → LeafOk s cs r := by
  intro l
  induction l with
  | zero =>
    intro t g hl h
    rw [down_eq] at h
    split at h
    · cases h
    rename_i h1
    split at h
    · cases h
    rename_i h2
    have hb : (ptN (wordN s cs (slotN t a 0))).bad ((0 : Nat) : Int) = false := by simpa using h2
    have hlk := Pt.link_low (p := ptN (wordN s cs (slotN t a 0))) hb
    rw [if_neg (by rw [hlk]; decide)] at h
    cases h
    exact ⟨slot_mod, by simp only; omega, by simp, ⟨_, rfl⟩, hb, Pt.leaf_of hb hlk⟩
  | succ l ih =>
    intro t g hl h
    rw [down_eq] at h
    split at h
    · cases h
    rename_i h1
    split at h
    · cases h
    rename_i h2
    have hb : (ptN (wordN s cs (slotN t a (l + 1)))).bad ((l + 1 : Nat) : Int) = false := by simpa using h2
    split at h
    · exact ih (by omega) h
    · rename_i hlk
      have hlk : (ptN (wordN s cs (slotN t a (l + 1)))).link = false := by simpa using hlk
      cases h
      exact ⟨slot_mod, by simp only; omega, hl, ⟨_, rfl⟩, hb, Pt.leaf_of hb hlk⟩
theorem look_leaf {s t a : Nat} {cs : List Cl} {l : Lf} (h : lookW s cs t a = .leaf l) : isVaB a = true ∧ LeafOk s cs l := by
  unfold lookW at h
  split at h
  · rename_i hv
    exact ⟨hv, down_leaf (by omega) h⟩
  · cases h
theorem down_fault {s a : Nat} {cs : List Cl} {q : Nat} : ∀ {l t : Nat} {g : Bool}, downN s cs a l t g = .fault q → q = 2 ∨ q = 3 := by
  intro l
  induction l with
  | zero =>
    intro t g h
    unfold downN at h
    split at h
    · cases h; exact .inl rfl
    · split at h
      · cases h; exact .inr rfl
      · cases h
  | succ l ih =>
    intro t g h
    rw [down_eq] at h
    split at h
    · cases h; exact .inl rfl
    · split at h
      · cases h; exact .inr rfl
      · split at h
        · exact ih h
        · cases h
theorem look_fault {s t a q : Nat} {cs : List Cl} (h : lookW s cs t a = .fault q) : q = 2 ∨ q = 3 := by
  unfold lookW at h
  split at h
  · exact down_fault h
  · cases h; exact .inr rfl
def walkR (s : Nat) (cs : List Cl) (t a : Nat) (k m : Int) (sm mx : Bool) : Lk := match lookW s cs t a with
  | .fault q => .fault q
  | .leaf l => if allowsF l.pt.r l.pt.w l.pt.x l.pt.u k m sm mx then .leaf l else .fault 3
def walkRs (r : Lk) (s : Nat) (cs : List Cl) (a kk : Nat) (k : Int) : List DV := match r with
  | .fault q => [md kk s cs, Lf.zero.dv, fdv true (causeN q k) a]
  | .leaf l => [md 2 s (markM s cs l.pl (k == 2)), (markL s cs l (k == 2)).dv, fdv false 0 0]
/-- a leaf's address -/
def physN (l : Lf) (a : Nat) : Nat := l.pt.ppn * 4096 + a % szN l.lv
theorem szN_le {l : Int} : szN l ≤ 1073741824 := by unfold szN; split <;> (try split) <;> omega
theorem szN_pos {l : Int} : 0 < szN l := by unfold szN; split <;> (try split) <;> omega
end Go.Proofs.YtngpjdieelcbmaaDoor.Sx
