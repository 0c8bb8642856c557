/-
  Layer 26: what the law's first calls come to (a run at told data), and CostFits.
-/
import Derived.Test.YtlihbielphcgbaaGreatDoorFsu
import Derived.Test.YtlihbielphcgbaaGreatDoorIrFr
import Derived.Test.YtlihbielphcgbaaGreatDoorCof
import Derived.Test.YtlihbielphcgbaaGreatDoorIrS
import Derived.Test.YtlihbielphcgbaaGreatDoorIrPc
import Derived.Test.YtlihbielphcgbaaGreatDoorIrW
import Derived.Test.YtlihbielphcgbaaGreatDoorIrM
namespace Go.Proofs.YtlihbielphcgbaaGreatDoor.Sx
open Go
set_option linter.unusedVariables false
set_option linter.unusedSimpArgs false
set_option maxRecDepth 1000000

def TSc : Tbl := TIrS ++ (TIrA ++ (TIrPc ++ (TIrW ++ TIrM)))
theorem TSc_ok : ∀ x ∈ TSc, Known gAll x.1 x.2 := kappend TIrS_ok (kappend TIrA_ok (kappend TIrPc_ok (kappend TIrW_ok TIrM_ok)))
/-- cut, into new memory, where nothing is cut in parts -/
def cutF : List DV → Option (List DV) := fun az => if shapeOf az = [(false, 1), (false, 1), (false, 1)] then match run (TIrFl ++ TSc) 1000 flat_cut_ir [] (leavesOf az) with
    | some [(false, [.sl s rows])] => if plainRows rows then some [(false, [.sl s rows])] else none
    | _ => none
  else none
theorem cutF_ok : Known gAll (nwOff + 108) (.fn cutF) := by
  intro az rs h
  unfold cutF at h
  split at h
  · rename_i hs
    split at h
    · rename_i s rows hr
      split at h
      · rename_i hp
        cases h
        refine conN (E := envIrFl) (n := 3000) rfl rfl flat_cut_n flat_cut_p hs uniq1 (fun d hd => ?_) (wp_run (kappend TIrFl_ok TSc_ok) hr rfl)
        rw [List.mem_singleton.1 hd]
        exact .inr ⟨s, rows, rfl, plainRows_ok hp⟩
      · cases h
    · cases h
  · cases h
def TL : Tbl := [(95, .fn needF), (98, .fn sortF), (srtOff + 98, .fn sortSF), (useOff + 62, .fn withF),
  (eatOff + 104, .fn (growF 8 32)), (eatOff + 97, .fn (growF 1 24)), (eatOff + 96, .fn (growF 1 1)),
  (eatOff + 75, .fn delF), (nwOff + 66, .fn catF), (nwOff + 108, .fn cutF)]
theorem TL_ok : ∀ x ∈ TL, Known gAll x.1 x.2 :=
  kcons needF_ok <| kcons sortF_ok <| kcons sortSF_ok <| kcons withF_ok <| kcons growPg_ok <| kcons growLs_ok <| kcons growBo_ok <| kcons delF_ok <| kcons catF_ok <| kcons cutF_ok <| fun _ h => nomatch h
/-- the model's deeds -/
def TD : Tbl := TL ++ (TIrFl ++ TSc)
theorem TD_ok : ∀ x ∈ TD, Known gAll x.1 x.2 := kappend TL_ok (kappend TIrFl_ok TSc_ok)
def TM : Tbl := (17, .fn (stepF TD 2000)) :: (TIrFr ++ TD)
theorem TM_ok : ∀ x ∈ TM, Known gAll x.1 x.2 := kcons (stepF_ok TD_ok) (kappend TIrFr_ok TD_ok)
def TW : Tbl := TIrCo ++ TM
theorem TW_ok : ∀ x ∈ TW, Known gAll x.1 x.2 := kappend TIrCo_ok TM_ok
theorem awake26_con : Cn gAll 7 [] [(false, [.b true])] := con_of_run TW_ok rfl 3000 rfl (isV_eq (by kernel_rfl))
theorem CostFits_con {one all asid : Int} {g : Bool} {l : List FeD} (hl : l.length ≤ maxLen) : Cn gAll 4 [(true, [.i .i64 one, .i .i64 all, .b g]), (false, [.sl 4 (l.map FeD.ds)]), (false, [.i .u64 asid])] [(false, [.b true])] := by
  refine con rfl rfl atlaslaw26_CostFits_c atlaslaw26_CostFits_p rfl ?_
  unfold atlaslaw26_CostFits_ir
  simp only [lv_cons, lv_nil, app_cons, app_nil]
  have hrl : (l.map FeD.ds).length = l.length := List.length_map _
  refine wp_jn (fun es => ∃ t, es = [.b t] ∧ (t = false → l.length ≤ 100 ∧ (0 ≤ one ∧ one ≤ 1000) ∧ (0 ≤ all ∧ all ≤ 1000))) (fun es h => ?_) (fun Q hQ => ?_)
  · obtain ⟨t, rfl, h⟩ := h
    refine wp_ite rfl (fun ht => ?_) (fun ht => ?_)
    · refine wp_call rfl awake26_con rfl ?_
      exact wp_return rfl rfl
    obtain ⟨hl, h1, h2⟩ := h ht
    simp only [app_cons, app_nil]
    refine wp_rounds (fun m es => ∃ (b : Bool) (k : Nat), es = [.b b, .i .i64 (k : Int)] ∧ m + k = l.length + 1 ∧ k ≤ l.length) (l.length + 1) rfl ⟨false, 0, rfl, rfl, Nat.zero_le _⟩ (fun m es Q hP hQ => ?_) (fun es h => by obtain ⟨_, k, _, h1, h2⟩ := h; omega)
    obtain ⟨b, k, rfl, hm, hk⟩ := hP
    simp only [app_cons, app_nil]
    refine wp_lt (d := .i .i64 (l.length : Int)) (by simp [Ex.eval]) ?_
    refine wp_lt (d := .b (decide ((k : Int) < l.length))) (by simp [Ex.eval, binD]) ?_
    simp only [app_cons, app_nil]
    refine wp_ite rfl (fun hkl => ?_) (fun hkl => ?_)
    · have hkl : k < l.length := by simpa using hkl
      obtain ⟨f, hf⟩ : ∃ f, l[k]? = some f := ⟨_, List.getElem?_eq_getElem hkl⟩
      have hI := inb_fe hkl
      have hX := idx_fe hf
      have hw : IntKind.i64.wrap ((k : Int) + 1) = (k : Int) + 1 := by rw [IntKind.wrap_i64]; omega
      refine wp_jn (fun es => ∃ t, es = [.b t]) (fun es h => ?_) (fun Q' hQ' => ?_)
      · obtain ⟨t, rfl⟩ := h
        refine wp_ite rfl (fun _ => wp_return rfl rfl) (fun _ => ?_)
        refine wp_lt (d := .i .i64 ((k : Int) + 1)) (by simp [Ex.eval, binD, hw]) ?_
        exact wp_cont rfl rfl (hQ _ ⟨_, k + 1, by simp; rfl, by omega, by omega⟩)
      · have hq : ∀ t, Q' [.b t] := fun t => hQ' _ ⟨t, rfl⟩
        obtain ⟨ha', ad, hs, sid⟩ := f
        simp only [FeD.ds] at hX
        generalize l.map FeD.ds = rows at hI hX ⊢
        cases hs <;> simp [IR.wp, Ex.eval, Ex.evals, evalVs, binD, unD, eqtD, hI, hX, hq]
    · refine wp_call rfl (costFits_con h1 h2 hl) rfl ?_
      refine wp_call rfl (refFits_con h1 h2 hl) rfl ?_
      simp only [lv_cons, lv_nil, app_cons, app_nil]
      refine wp_lt (d := .b true) (by simp [Ex.eval, eqtD]) ?_
      exact wp_return rfl rfl
  · refine wp_call rfl awake26_con rfl ?_
    simp only [lv_cons, lv_nil, app_cons, app_nil]
    have hqt : Q [.b true] := hQ _ ⟨true, rfl, fun h => by cases h⟩
    have hqf : l.length ≤ 100 → (0 ≤ one ∧ one ≤ 1000) → (0 ≤ all ∧ all ≤ 1000) → Q [.b false] := fun a b c => hQ _ ⟨false, rfl, fun _ => ⟨a, b, c⟩⟩
    simp [IR.wp, Ex.eval, Ex.evals, evalVs, binD, unD, eqtD]
    by_cases c1 : (l.length : Int) ≤ 100
    · refine .inl ⟨c1, ?_⟩
      by_cases c2 : 0 ≤ one
      · refine .inl ⟨c2, ?_⟩
        by_cases c3 : 0 ≤ all
        · refine .inl ⟨c3, ?_⟩
          by_cases c4 : one ≤ 1000
          · exact .inl ⟨c4, hQ _ ⟨_, rfl, fun h => ⟨by omega, ⟨c2, c4⟩, c3, by simpa using h⟩⟩⟩
          · exact .inr ⟨by omega, hqt⟩
        · exact .inr ⟨by omega, hqt⟩
      · exact .inr ⟨by omega, hqt⟩
    · exact .inr ⟨by omega, hqt⟩
end Go.Proofs.YtlihbielphcgbaaGreatDoor.Sx
