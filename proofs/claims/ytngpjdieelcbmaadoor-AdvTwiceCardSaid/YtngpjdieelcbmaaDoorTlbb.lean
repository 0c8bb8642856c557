/-
  Layer 14: a buffer's set replaced; what is found, used, put, dropped; the same buffers: contracts.
-/
import Derived.Test.YtngpjdieelcbmaaDoorTlb
namespace Go.Proofs.YtngpjdieelcbmaaDoor.Sx
open Go
set_option linter.unusedVariables false
set_option linter.unusedSimpArgs false
set_option maxRecDepth 100000

theorem map_set {ts : List SetD} {j : Nat} {s : SetD} : (ts.map SetD.ds).set j s.ds = (ts.set j s).map SetD.ds := by rw [List.map_set]

theorem with_con {ts : List SetD} {j : Nat} {s : SetD} (hj : j < ts.length) (hl : ts.length ≤ 1000000) : Cn gAll 39 [tv ts, i j, s.dv] [tv (ts.set j s)] := by
  refine con rfl rfl tlb_with_c tlb_with_p rfl ?_
  unfold tlb_with_ir
  have hrow : (ts.map SetD.ds)[j]? = some (ts[j]).ds := row_of (List.getElem?_eq_getElem hj)
  have hjl : j < (ts.map SetD.ds).length := by rw [List.length_map]; exact hj
  simp only [lv_cons, lv_nil, SetD.ds, En.ds, app_cons, app_nil]
  refine wp_may rfl (fun h => ?_) ?_
  · exfalso
    simp at h
    subst h
    simp at hj
  refine wp_chk (room_t (app0_e rfl) (by rw [List.length_map]; omega)) ?_
  refine wp_chk (inb_t (app0_e rfl) rfl hjl) ?_
  refine wp_chk (inb_t (app0_e rfl) rfl hjl) ?_
  refine wp_return (evs_cons (evs_one (put_e (ds := s.ds) (app0_e rfl) rfl hrow rfl rfl)) rfl) ?_
  rw [map_set]

/-- a right buffer, of right entries -/
structure TR (ts : List SetD) : Prop where
  right : rightT ts = true
  ok : TOk ts
theorem TR.len {ts : List SetD} (h : TR ts) : ts.length ≤ 16 := (rightT_iff.1 h.right).1
theorem TR.set {ts : List SetD} (h : TR ts) {j : Nat} {s : SetD} (hs : ts[j]? = some s) : s.right = true := (setOk_iff.1 ((rightT_iff.1 h.right).2 j s hs)).1
theorem TR.tree {ts : List SetD} (h : TR ts) {j : Nat} {s : SetD} (hs : ts[j]? = some s) : s.t < 8 := (SetD.right_may (h.set hs)).1


def putT (ts : List SetD) (e : En) (v : Int) : List SetD := match ts[idxF ts.length e.vpn e.lv]? with
  | some s => ts.set (idxF ts.length e.vpn e.lv) (setPut s e v)
  | none => ts
theorem putT_nil {e : En} {v : Int} : putT [] e v = [] := rfl
theorem tlbPut_con {ts : List SetD} {e : En} {v : Int} (h : TR ts) (he : e.Ok) (hm : e.may = true) : Cn gAll 19 [tv ts, e.dv, i v] [tv (putT ts e v)] := by
  have hl := h.len
  refine con rfl rfl tlb_Put_c tlb_Put_p rfl ?_
  unfold tlb_Put_ir
  simp only [lv_cons, lv_nil, SetD.ds, En.ds, app_cons, app_nil]
  refine wp_lt (len_e rfl) ?_
  simp only [lv_cons, lv_nil, app_cons, app_nil]
  rw [List.length_map]
  refine wp_lt rfl ?_
  simp only [lv_cons, lv_nil, app_cons, app_nil]
  refine wp_ite rfl (fun h0 => ?_) (fun h0 => ?_)
  · have : ts = [] := by
      have : ts.length = 0 := by simpa using h0
      exact List.length_eq_zero_iff.1 this
    subst this
    exact wp_return rfl rfl
  · have hn : 0 < ts.length := by
      have : ¬ ts.length = 0 := by simpa using h0
      omega
    refine wp_call rfl (may_con (e := e) he) rfl ?_
    simp only [lv_cons, lv_nil, app_cons, app_nil]
    rw [hm]
    refine wp_lt (d := .b false) rfl ?_
    simp only [lv_cons, lv_nil, app_cons, app_nil]
    refine wp_ite (t := false) rfl (fun h => by cases h) (fun _ => ?_)
    refine wp_lt (len_e rfl) ?_
    simp only [lv_cons, lv_nil, app_cons, app_nil]
    rw [List.length_map]
    refine wp_call rfl (tlbIndex_con (may_lv hm) hn (by omega) he.vpn) rfl ?_
    simp only [lv_cons, lv_nil, app_cons, app_nil]
    have hj := idxF_lt (vpn := e.vpn) (l := e.lv) hn
    obtain ⟨s, hs⟩ : ∃ s, ts[idxF ts.length e.vpn e.lv]? = some s := ⟨_, List.getElem?_eq_getElem hj⟩
    have hput : putT ts e v = ts.set (idxF ts.length e.vpn e.lv) (setPut s e v) := by rw [putT, hs]
    rw [hput]
    generalize idxF ts.length e.vpn e.lv = j at hj hs ⊢
    refine wp_chk (inb_t rfl rfl (by rw [List.length_map]; exact hj)) ?_
    refine wp_call (evs_cons (evals_row rfl rfl (row_of hs) s.ds_len) rfl) (put_con (s := s) (e := e) (v := v) (h.tree hs)) rfl ?_
    simp only [lv_cons, lv_nil, SetD.ds, En.ds, app_cons, app_nil]
    refine wp_call rfl (with_con (s := setPut s e v) hj (by omega)) rfl ?_
    simp only [lv_cons, lv_nil, app_cons, app_nil]
    exact wp_return rfl rfl

def dropT (ts : List SetD) (j way : Int) : List SetD × Int := if 0 ≤ j ∧ j < ts.length ∧ 0 ≤ way ∧ way < 4 then (match ts[j.toNat]? with | some s => ts.set j.toNat (s.put way.toNat En.zero) | none => ts, 0) else (ts, 1)
theorem tlbDrop_con {ts : List SetD} {j way : Int} (h : TR ts) : Cn gAll 21 [tv ts, i j, i way] [tv (dropT ts j way).1, i (dropT ts j way).2] := by
  have hl := h.len
  refine con rfl rfl tlb_Drop_c tlb_Drop_p rfl ?_
  unfold tlb_Drop_ir
  simp only [lv_cons, lv_nil, app_cons, app_nil]
  refine wp_lt rfl ?_
  simp only [lv_cons, lv_nil, app_cons, app_nil]
  refine wp_ite rfl (fun h1 => ?_) (fun h1 => ?_)
  · have h1 := of_decide_eq_true h1
    have hd : dropT ts j way = (ts, 1) := by unfold dropT; rw [if_neg (by omega)]
    rw [hd]
    exact wp_return rfl rfl
  have h1 := of_decide_eq_false h1
  refine wp_lt (len_e rfl) ?_
  simp only [lv_cons, lv_nil, app_cons, app_nil]
  rw [List.length_map]
  refine wp_lt rfl ?_
  simp only [lv_cons, lv_nil, app_cons, app_nil]
  refine wp_ite rfl (fun h2 => ?_) (fun h2 => ?_)
  · have h2 := of_decide_eq_true h2
    have hd : dropT ts j way = (ts, 1) := by unfold dropT; rw [if_neg (by omega)]
    rw [hd]
    exact wp_return rfl rfl
  have h2 := of_decide_eq_false h2
  refine wp_lt rfl ?_
  simp only [lv_cons, lv_nil, app_cons, app_nil]
  refine wp_ite rfl (fun h3 => ?_) (fun h3 => ?_)
  · have h3 := of_decide_eq_true h3
    have hd : dropT ts j way = (ts, 1) := by unfold dropT; rw [if_neg (by omega)]
    rw [hd]
    exact wp_return rfl rfl
  have h3 := of_decide_eq_false h3
  refine wp_lt rfl ?_
  simp only [lv_cons, lv_nil, app_cons, app_nil]
  refine wp_ite rfl (fun h4 => ?_) (fun h4 => ?_)
  · have h4 := of_decide_eq_true h4
    have hd : dropT ts j way = (ts, 1) := by unfold dropT; rw [if_neg (by omega)]
    rw [hd]
    exact wp_return rfl rfl
  have h4 := of_decide_eq_false h4
  obtain ⟨j, rfl⟩ := Int.eq_ofNat_of_zero_le (show 0 ≤ j by omega)
  obtain ⟨k, rfl⟩ := Int.eq_ofNat_of_zero_le (show 0 ≤ way by omega)
  have hj : j < ts.length := by omega
  obtain ⟨s, hs⟩ : ∃ s, ts[j]? = some s := ⟨_, List.getElem?_eq_getElem hj⟩
  have hd : dropT ts j k = (ts.set j (s.put k En.zero), 0) := by unfold dropT; rw [if_pos (by omega), Int.toNat_natCast, Int.toNat_natCast, hs]
  rw [hd]
  refine wp_chk (inb_t rfl rfl (by rw [List.length_map]; exact hj)) ?_
  refine wp_call (evs_cons (evals_row rfl rfl (row_of hs) s.ds_len) rfl) (drop_con (s := s) (k := k) (by omega)) rfl ?_
  obtain ⟨s', hs'⟩ : ∃ s', s' = s.put k En.zero := ⟨_, rfl⟩
  rw [← hs']
  simp only [lv_cons, lv_nil, SetD.ds, En.ds, app_cons, app_nil]
  refine wp_call rfl (with_con (s := s') hj (by omega)) rfl ?_
  simp only [lv_cons, lv_nil, app_cons, app_nil]
  exact wp_return rfl rfl

/-! ### finding -/
def zeroSet : SetD := ⟨En.zero, En.zero, En.zero, En.zero, 0⟩
def setAt (ts : List SetD) (j : Nat) : SetD := ts.getD j zeroSet
theorem setAt_of {ts : List SetD} {j : Nat} {s : SetD} (h : ts[j]? = some s) : setAt ts j = s := by simp [setAt, h]
def numF (a : Nat) : Nat := a / 4096 % 134217728
theorem numF_lt (a : Nat) : numF a < 134217728 := Nat.mod_lt _ (by omega)
def lvI (ts : List SetD) (a : Nat) (l : Int) : Nat := idxF ts.length (numF a) l
def lvF (ts : List SetD) (n a : Nat) (l : Int) : Int × Bool := findF (setAt ts (lvI ts a l)) n a l
def foundT (ts : List SetD) (n a : Nat) (l : Int) : En × Nat × Int × Bool := ((setAt ts (lvI ts a l)).at (lvF ts n a l).1.toNat, lvI ts a l, (lvF ts n a l).1, true)
def noneT : En × Nat × Int × Bool := (En.zero, 0, 0, false)
def findT (ts : List SetD) (n a : Nat) : En × Nat × Int × Bool := if ts.length = 0 then noneT else if (lvF ts n a 0).2 then foundT ts n a 0 else if (lvF ts n a 1).2 then foundT ts n a 1 else if (lvF ts n a 2).2 then foundT ts n a 2 else noneT
def findV (r : En × Nat × Int × Bool) : List DV := [r.1.dv, i r.2.1, i r.2.2.1, bb r.2.2.2]
theorem findF_cases (s : SetD) (n a : Nat) (l : Int) : (∃ k : Nat, k < 4 ∧ findF s n a l = ((k : Int), true)) ∨ findF s n a l = (0, false) := by
  unfold findF
  split
  · exact .inl ⟨0, by omega, rfl⟩
  · split
    · exact .inl ⟨1, by omega, rfl⟩
    · split
      · exact .inl ⟨2, by omega, rfl⟩
      · split
        · exact .inl ⟨3, by omega, rfl⟩
        · exact .inr rfl
theorem findT_at {ts : List SetD} {n a l : Nat} (hn : 0 < ts.length) (hl : l < 3) (hb : ∀ q : Nat, q < l → (lvF ts n a (q : Int)).2 = false) (h : (lvF ts n a (l : Int)).2 = true) : findT ts n a = foundT ts n a l := by
  unfold findT
  rw [if_neg (by omega)]
  have hcase : l = 0 ∨ l = 1 ∨ l = 2 := by omega
  rcases hcase with rfl | rfl | rfl
  · have h' : (lvF ts n a 0).2 = true := h
    rw [if_pos h']; rfl
  · have h0 : (lvF ts n a 0).2 = false := hb 0 (by omega)
    have h' : (lvF ts n a 1).2 = true := h
    rw [if_neg (by rw [h0]; decide), if_pos h']; rfl
  · have h0 : (lvF ts n a 0).2 = false := hb 0 (by omega)
    have h1 : (lvF ts n a 1).2 = false := hb 1 (by omega)
    have h' : (lvF ts n a 2).2 = true := h
    rw [if_neg (by rw [h0]; decide), if_neg (by rw [h1]; decide), if_pos h']; rfl
theorem findT_none {ts : List SetD} {n a : Nat} (hb : ∀ q : Nat, q < 3 → (lvF ts n a (q : Int)).2 = false) : findT ts n a = noneT := by
  unfold findT
  have h0 : (lvF ts n a 0).2 = false := hb 0 (by omega)
  have h1 : (lvF ts n a 1).2 = false := hb 1 (by omega)
  have h2 : (lvF ts n a 2).2 = false := hb 2 (by omega)
  split
  · rfl
  · rw [if_neg (by rw [h0]; decide), if_neg (by rw [h1]; decide), if_neg (by rw [h2]; decide)]
theorem lv_nat {l : Nat} (h : l < 3) : Lv (l : Int) := by unfold Lv; omega


/-! ### the same buffers -/
theorem En.ext_iff' {e f : En} : e = f ↔ e.v = f.v ∧ e.asid = f.asid ∧ e.g = f.g ∧ e.lv = f.lv ∧ e.vpn = f.vpn ∧ e.ppn = f.ppn ∧ e.p1 = f.p1 ∧ e.p2 = f.p2 ∧ e.p3 = f.p3 ∧ e.p4 = f.p4 ∧ e.d = f.d := by
  obtain ⟨a1, a2, a3, a4, a5, a6, a7, a8, a9, a10, a11⟩ := e
  obtain ⟨b1, b2, b3, b4, b5, b6, b7, b8, b9, b10, b11⟩ := f
  simp
end Go.Proofs.YtngpjdieelcbmaaDoor.Sx
