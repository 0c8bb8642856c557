/-
  Layer 25: what the runs at told data ask of functions whose contracts are proved by hand: need, the sort, with, Concat, Grow, Delete, Step.
-/
import Derived.Test.YtlihbielphcgbaaGreatDoorFst
import Derived.Test.YtlihbielphcgbaaGreatDoorFsg
import Derived.Test.YtlihbielphcgbaaGreatDoorIrFl
namespace Go.Proofs.YtlihbielphcgbaaGreatDoor.Sx
open Go Go.Shelf Go.RowKit Go.Lib
set_option linter.unusedVariables false
set_option linter.unusedSimpArgs false
set_option maxRecDepth 1000000

def pgOf : List D → Option PgD
  | [.i .u64 va, .i .u64 pa, .i .i64 lv, .b r, .b w, .b x, .b u, .b st] => some ⟨va, pa, lv, r, w, x, u, st⟩
  | _ => none
def pgsOf : List (List D) → Option (List PgD)
  | [] => some []
  | r :: rs => match pgOf r, pgsOf rs with
    | some p, some l => some (p :: l)
    | _, _ => none
theorem pgOf_ds {r : List D} {p : PgD} (h : pgOf r = some p) : r = p.ds := by
  unfold pgOf at h
  split at h
  · cases h; rfl
  · cases h
theorem pgsOf_map : ∀ {rows : List (List D)} {l : List PgD}, pgsOf rows = some l → rows = l.map PgD.ds
  | [], l, h => by cases h; rfl
  | r :: rs, l, h => by
    unfold pgsOf at h
    split at h
    · rename_i p l' h1 h2
      cases h
      rw [pgOf_ds h1, pgsOf_map h2]
      rfl
    · cases h
def vaB (p : PgD) : Bool := decide (0 ≤ p.va) && decide (p.va < 18446744073709551616)
theorem vaB_ok {p : PgD} (h : vaB p = true) : vaOk p := by
  unfold vaB at h
  simp only [Bool.and_eq_true, decide_eq_true_eq] at h
  exact h
def riseB : List PgD → Bool
  | [] => true
  | p :: r => r.all (fun q => decide (p.va < q.va)) && riseB r
theorem riseB_ok : ∀ {l : List PgD}, riseB l = true → Rise l
  | [], _ => .nil
  | p :: r, h => by
    unfold riseB at h
    simp only [Bool.and_eq_true, List.all_eq_true, decide_eq_true_eq] at h
    exact List.pairwise_cons.2 ⟨h.1, riseB_ok h.2⟩
/-- pages, laid in order -/
def insP (p : PgD) : List PgD → List PgD
  | [] => [p]
  | q :: r => if p.va < q.va then p :: q :: r else q :: insP p r
def srtP (l : List PgD) : List PgD := l.foldr insP []
theorem insP_perm (p : PgD) : ∀ l : List PgD, (insP p l).Perm (p :: l)
  | [] => .refl _
  | q :: r => by
    unfold insP
    split
    · exact .refl _
    · exact ((insP_perm p r).cons q).trans (.swap p q r)
theorem srtP_perm : ∀ l : List PgD, (srtP l).Perm l
  | [] => .refl _
  | p :: r => (insP_perm p (srtP r)).trans ((srtP_perm r).cons p)

def needF : List DV → Option (List DV)
  | [(false, [.sl s rows]), (false, [.i .i64 top])] => match pgsOf rows with
    | some l => if (s == 8 || rows.isEmpty) && decide (l.length < 1000000) && l.all vaB then some [(false, [.i .i64 (needN l top : Nat)])] else none
    | none => none
  | _ => none
theorem needF_ok : Known gAll 95 (.fn needF) := by
  intro az rs h
  unfold needF at h
  split at h
  · rename_i s rows top
    split at h
    · rename_i l hl
      split at h
      · rename_i hc
        cases h
        simp only [Bool.and_eq_true, Bool.or_eq_true, beq_iff_eq, List.isEmpty_iff, decide_eq_true_eq, List.all_eq_true] at hc
        have hm := pgsOf_map hl
        subst hm
        exact need_con (hc.1.1.imp id (fun h => by simpa using h)) hc.1.2 fun p hp => vaB_ok (hc.2 p hp)
      · cases h
    · cases h
  · cases h
def sortF : List DV → Option (List DV)
  | [(false, [.sl s rows]), (false, [.f g])] => match pgsOf rows with
    | some l => if (s == 8 || rows.isEmpty) && decide (l.length < 1000000) && riseB l && g == 99 then some [] else none
    | none => none
  | _ => none
theorem sortF_ok : Known gAll 98 (.fn sortF) := by
  intro az rs h
  unfold sortF at h
  split at h
  · rename_i s rows g
    split at h
    · rename_i l hl
      split at h
      · rename_i hc
        cases h
        simp only [Bool.and_eq_true, Bool.or_eq_true, beq_iff_eq, List.isEmpty_iff, decide_eq_true_eq] at hc
        have hm := pgsOf_map hl
        subst hm
        obtain ⟨⟨⟨h1, h2⟩, h3⟩, h4⟩ := hc
        rw [h4]
        exact sort_M (h1.imp id (fun h => by simpa using h)) (by omega) (riseB_ok h3)
      · cases h
    · cases h
  · cases h
def sortSF : List DV → Option (List DV)
  | [(false, [.sl s rows]), (false, [.f g])] => match pgsOf rows with
    | some l => if s == 8 && decide (l.length < 1000000) && g == 99 then some [(false, [.sl 8 ((if riseB (srtP l) then srtP l else sortP l).map PgD.ds)])] else none
    | none => none
  | _ => none
theorem sortSF_ok : Known gAll (srtOff + 98) (.fn sortSF) := by
  intro az rs h
  unfold sortSF at h
  split at h
  · rename_i s rows g
    split at h
    · rename_i l hl
      split at h
      · rename_i hc
        cases h
        simp only [Bool.and_eq_true, beq_iff_eq, decide_eq_true_eq] at hc
        obtain ⟨⟨h1, h2⟩, h4⟩ := hc
        have hm := pgsOf_map hl
        subst hm
        subst h1
        have hs : (if riseB (srtP l) then srtP l else sortP l) = sortP l := by
          split
          · rename_i h3
            exact (sortP_eq (riseB_ok h3) (srtP_perm l)).symm
          · rfl
        rw [h4, hs]
        exact sort_S l (by omega)
      · cases h
    · cases h
  · cases h
/-- with, of a list that it uses up -/
def withF : List DV → Option (List DV) := fun az => match az with
  | [f, id, (false, [.sl s rows])] => if shapeOf az = [(true, 13), (false, 1), (false, 1)] then run [(srtOff + 98, .fn sortSF)] 100 flat_with_eir [] (leavesOf az) else none
  | _ => none
theorem withF_ok : Known gAll (useOff + 62) (.fn withF) := by
  intro az rs h
  unfold withF at h
  split at h
  · rename_i f id s rows
    split at h
    · rename_i hs
      exact conE (az := [f, id]) (E := envIrFl) (n := 3000) rfl rfl flat_with_e flat_with_p hs (wp_run (T := [(srtOff + 98, .fn sortSF)]) (fun x hx => by rw [List.mem_singleton.1 hx]; exact sortSF_ok) h rfl)
    · cases h
  · cases h
def plainRows (rows : List (List D)) : Bool := rows.all fun r => r.all D.plainB
theorem plainRows_ok {rows : List (List D)} (h : plainRows rows = true) : ∀ row ∈ rows, ∀ x ∈ row, x.plain := fun row hr x hx => D.plainB_sound (List.all_eq_true.1 (List.all_eq_true.1 h row hr) x hx)
/-- slices.Grow of nothing -/
def growF (k b : Nat) : List DV → Option (List DV)
  | [(false, [.sl 0 []]), (false, [.i .i64 n])] => if 0 ≤ n ∧ n.toNat * b ≤ 140737488355328 then some [(false, [.sl k []])] else none
  | _ => none
theorem growPg_ok : Known gAll (eatOff + 104) (.fn (growF 8 32)) := by
  intro az rs h
  unfold growF at h
  split at h
  · rename_i n
    split at h
    · rename_i hc
      cases h
      obtain ⟨m, rfl⟩ := Int.eq_ofNat_of_zero_le hc.1
      exact con_eat (by decide) (grow_conPg (by simpa using hc.2))
    · cases h
  · cases h
theorem growLs_ok : Known gAll (eatOff + 97) (.fn (growF 1 24)) := by
  intro az rs h
  unfold growF at h
  split at h
  · rename_i n
    split at h
    · rename_i hc
      cases h
      obtain ⟨m, rfl⟩ := Int.eq_ofNat_of_zero_le hc.1
      exact con_eat (by decide) (grow_conLs (by simpa using hc.2))
    · cases h
  · cases h
theorem growBo_ok : Known gAll (eatOff + 96) (.fn (growF 1 1)) := by
  intro az rs h
  unfold growF at h
  split at h
  · rename_i n
    split at h
    · rename_i hc
      cases h
      obtain ⟨m, rfl⟩ := Int.eq_ofNat_of_zero_le hc.1
      exact con_eat (by decide) (grow_conBo (by simpa using hc.2))
    · cases h
  · cases h
def delF : List DV → Option (List DV)
  | [(false, [.sl 8 rows]), (false, [.i .i64 i]), (false, [.i .i64 j])] => if 0 ≤ i ∧ i ≤ j ∧ j ≤ (rows.length : Int) then some [(false, [.sl 8 (rows.take i.toNat ++ rows.drop j.toNat)])] else none
  | _ => none
theorem delF_ok : Known gAll (eatOff + 75) (.fn delF) := by
  intro az rs h
  unfold delF at h
  split at h
  · rename_i rows i j
    split at h
    · rename_i hc
      cases h
      obtain ⟨a, rfl⟩ := Int.eq_ofNat_of_zero_le hc.1
      obtain ⟨b, rfl⟩ := Int.eq_ofNat_of_zero_le (Int.le_trans hc.1 hc.2.1)
      exact con_eat (by decide) (delete_conPg (by have := hc.2.1; omega) (by have := hc.2.2; omega))
    · cases h
  · cases h
/-- Concat, into new memory -/
def catF : List DV → Option (List DV) := fun az => if shapeOf az = [(false, 1)] then match run [(eatOff + 104, .fn (growF 8 32))] 1000 api_Page__ir [] (leavesOf az) with
    | some [(false, [.sl s rows])] => if plainRows rows then some [(false, [.sl s rows])] else none
    | _ => none
  else none
theorem catF_ok : Known gAll (nwOff + 66) (.fn catF) := by
  intro az rs h
  unfold catF at h
  split at h
  · rename_i hs
    split at h
    · rename_i s rows hr
      split at h
      · rename_i hp
        cases h
        refine conN (E := envIrFl) (n := 3000) rfl rfl api_Page__n api_Page__p hs uniq1 (fun d hd => ?_) (wp_run (T := [(eatOff + 104, .fn (growF 8 32))]) (fun x hx => by rw [List.mem_singleton.1 hx]; exact growPg_ok) hr rfl)
        rw [List.mem_singleton.1 hd]
        exact .inr ⟨s, rows, rfl, plainRows_ok hp⟩
      · cases h
    · cases h
  · cases h
/-- Step: the deed by the kind -/
theorem stI_of {k : Int} {g : FuncId} (h : deedOf k = some g) : stI (some g) = .ok (irS g) := by
  unfold deedOf at h
  split at h
  · cases h; exact stI_create
  · cases h; exact stI_destroy
  · cases h; exact stI_change
  · cases h; exact stI_lay
  · cases h; exact stI_lift
  · cases h; exact stI_guard
  · cases h; exact stI_access
  · cases h; exact stI_set
  · cases h
def stepF (T : Tbl) (n : Nat) : List DV → Option (List DV)
  | [(true, fd), (true, .i .i64 k :: od)] => if fd.length = 13 ∧ od.length = 11 ∧ (-9223372036854775808 ≤ k ∧ k < 9223372036854775808) then match deedOf k with
      | some g => run T n (irS g) [] (fd ++ .i .i64 k :: od)
      | none => run T n irN [] (fd ++ .i .i64 k :: od)
    else none
  | _ => none
theorem stepF_ok {T : Tbl} {n : Nat} (hT : ∀ x ∈ T, Known gAll x.1 x.2) : Known gAll 17 (.fn (stepF T n)) := by
  intro az rs h
  unfold stepF at h
  split at h
  · rename_i fd k od
    split at h
    · rename_i hc
      obtain ⟨h1, h2, h3⟩ := hc
      split at h
      · rename_i g hg
        exact step_gen h3 h1 (by simp [h2]) rfl (by rw [hg]; exact stI_of hg) (wp_run hT h rfl)
      · rename_i hg
        exact step_gen h3 h1 (by simp [h2]) rfl (by rw [hg]; exact stI_none) (wp_run hT h rfl)
    · cases h
  · cases h
end Go.Proofs.YtlihbielphcgbaaGreatDoor.Sx
