/-
  Layer 26: fences as a bill tells: cost.Fits and the document's answer, what they say in plain words.
-/
import Derived.Test.YtlihbielphcgbaaGreatDoorBf
import Derived.Test.YtlihbielphcgbaaGreatDoorBg
import Derived.Test.YtlihbielphcgbaaGreatDoorStep
import Derived.Test.YtlihbielphcgbaaGreatDoorIrCo
namespace Go.Proofs.YtlihbielphcgbaaGreatDoor.Sx
open Go
set_option linter.unusedVariables false
set_option linter.unusedSimpArgs false
set_option maxRecDepth 100000

structure FeD where
  ha : Bool
  ad : Int
  hs : Bool
  asid : Int
def FeD.ds (f : FeD) : List D := [.b f.ha, .i .u64 f.ad, .b f.hs, .i .u64 f.asid]
/-- is a fence as the bill tells? -/
def okF (one all : Int) (g : Bool) (asid : Int) (f : FeD) : Bool := (f.hs == !g) && (f.asid == if g then 0 else asid) && !(one != 0 && !f.ha) && !(all != 0 && f.ha)
def fitsB (one all : Int) (g : Bool) (asid : Int) (l : List FeD) : Bool := decide ((l.length : Int) = one + all) && l.all (okF one all g asid)
theorem fe_get {l : List FeD} {k : Nat} {f : FeD} (h : l[k]? = some f) : (l.map FeD.ds)[k]? = some f.ds := by rw [List.getElem?_map, h]; rfl
theorem all_take {l : List FeD} {k : Nat} {f : FeD} {p : FeD → Bool} (h : l[k]? = some f) : (l.take (k + 1)).all p = ((l.take k).all p && p f) := by
  rw [List.take_add_one, h]
  simp
theorem all_bad {l : List FeD} {k : Nat} {f : FeD} {p : FeD → Bool} (h : l[k]? = some f) (hp : p f = false) : l.all p = false := by
  rw [Bool.eq_false_iff]
  intro ha
  have := List.all_eq_true.1 ha f (List.mem_of_getElem? h)
  rw [hp] at this
  cases this
theorem inb_fe {l : List FeD} {k : Nat} (h : k < l.length) : inbD 4 (.sl 4 (l.map FeD.ds)) (.i .i64 (k : Int)) = some (.b true) := by
  simp [inbD, h]
theorem idx_fe {l : List FeD} {k : Nat} {f : FeD} (h : l[k]? = some f) (j : Nat) : idxD j (.sl 4 (l.map FeD.ds)) (.i .i64 (k : Int)) = f.ds[j]? := by
  simp [idxD, fe_get h]
theorem fits_bad {one all asid : Int} {g : Bool} {l : List FeD} {k : Nat} {f : FeD} (h : l[k]? = some f) (hp : okF one all g asid f = false) : fitsB one all g asid l = false := by
  unfold fitsB
  rw [all_bad h hp, Bool.and_false]
theorem refFits_con {one all asid : Int} {g : Bool} {l : List FeD} (h1 : 0 ≤ one ∧ one ≤ 1000) (h2 : 0 ≤ all ∧ all ≤ 1000) (hl : l.length ≤ 100) :
    Cn gAll 14 [(true, [.i .i64 one, .i .i64 all, .b g]), (false, [.sl 4 (l.map FeD.ds)]), (false, [.i .u64 asid])] [(false, [.b (fitsB one all g asid l)])] := by
  refine con rfl rfl atlasref26_Fits_c atlasref26_Fits_p rfl ?_
  unfold atlasref26_Fits_ir
  simp only [lv_cons, lv_nil, app_cons, app_nil]
  refine wp_rounds (fun m es => ∃ k : Nat, es = [.b false, .i .i64 (k : Int)] ∧ m + k = l.length + 1 ∧ k ≤ l.length ∧ (l.take k).all (okF one all g asid) = true) (l.length + 1) rfl ⟨0, rfl, rfl, Nat.zero_le _, by simp⟩ (fun m es Q hP hQ => ?_) (fun es h => by obtain ⟨k, _, h1, h2, _⟩ := h; omega)
  obtain ⟨k, rfl, hm, hk, ha⟩ := hP
  by_cases hkl : k < l.length
  · obtain ⟨f, hf⟩ : ∃ f, l[k]? = some f := ⟨_, List.getElem?_eq_getElem hkl⟩
    have hbad := fun h => fits_bad (one := one) (all := all) (g := g) (asid := asid) hf h
    have hstep : okF one all g asid f = true → Q [.b false, .i .i64 ((k : Int) + 1)] := fun h => hQ _ ⟨k + 1, by simp, by omega, by omega, by rw [all_take hf, ha, h]; rfl⟩
    have hkn : (k : Int) < (l.length : Int) := by omega
    have hw : IntKind.i64.wrap ((k : Int) + 1) = (k : Int) + 1 := by rw [IntKind.wrap_i64]; omega
    have hI := inb_fe hkl
    have hX := idx_fe hf
    obtain ⟨ha', ad, hs, sid⟩ := f
    simp only [FeD.ds] at hX
    have hrl : (l.map FeD.ds).length = l.length := List.length_map _
    clear hf
    generalize l.map FeD.ds = rows at hI hX hrl ⊢
    generalize fitsB one all g asid l = res at hbad ⊢
    simp [IR.wp, Ex.eval, Ex.evals, evalVs, binD, unD, eqtD, hrl, hkn, hw, hI, hX]
    clear hI hX hQ ha hl h1 h2 hm hk hrl
    generalize Q [.b false, .i .i64 ((k : Int) + 1)] = G at hstep ⊢
    unfold okF at hbad hstep
    cases g <;> cases ha' <;> cases hs <;> by_cases e1 : one = 0 <;> by_cases e2 : all = 0 <;> by_cases e3 : sid = asid <;> by_cases e4 : sid = 0 <;> simp_all
  · have hkn : ¬ (k : Int) < (l.length : Int) := by omega
    obtain rfl : k = l.length := by omega
    rw [List.take_length] at ha
    have hw : IntKind.i64.wrap (one + all) = one + all := by rw [IntKind.wrap_i64]; omega
    simp [IR.wp, Ex.eval, Ex.evals, evalVs, binD, unD, eqtD, hw, fitsB, ha]
    rw [Bool.eq_iff_iff]
    simp
theorem costFits_con {one all asid : Int} {g : Bool} {l : List FeD} (h1 : 0 ≤ one ∧ one ≤ 1000) (h2 : 0 ≤ all ∧ all ≤ 1000) (hl : l.length ≤ 100) :
    Cn gAll 13 [(true, [.i .i64 one, .i .i64 all, .b g]), (false, [.sl 4 (l.map FeD.ds)]), (false, [.i .u64 asid])] [(false, [.b (fitsB one all g asid l)])] := by
  refine con rfl rfl cost_Fits_c cost_Fits_p rfl ?_
  unfold cost_Fits_ir
  simp only [lv_cons, lv_nil, app_cons, app_nil]
  have hrl : (l.map FeD.ds).length = l.length := List.length_map _
  have hws : IntKind.i64.wrap (one + all) = one + all := by rw [IntKind.wrap_i64]; omega
  refine wp_lt (d := .i .i64 (l.length : Int)) (by simp [Ex.eval]) ?_
  refine wp_lt (d := .i .i64 (one + all)) (by simp [Ex.eval, binD, hws]) ?_
  refine wp_lt (d := .b ((l.length : Int) != one + all)) (by simp [Ex.eval, binD]) ?_
  simp only [app_cons, app_nil]
  refine wp_ite rfl (fun hne => ?_) (fun heq => ?_)
  · refine wp_return rfl ?_
    have : ¬ (l.length : Int) = one + all := by simpa using hne
    simp [fitsB, this]
  have heq : (l.length : Int) = one + all := by simpa using heq
  refine wp_lt (d := .i .i64 (l.length : Int)) (by simp [Ex.eval]) ?_
  simp only [app_cons, app_nil]
  refine wp_rounds (fun m es => ∃ k : Nat, es = [.b false, .i .i64 (k : Int)] ∧ m + k = l.length + 1 ∧ k ≤ l.length ∧ (l.take k).all (okF one all g asid) = true) (l.length + 1) rfl ⟨0, rfl, rfl, Nat.zero_le _, by simp⟩ (fun m es Q hP hQ => ?_) (fun es h => by obtain ⟨k, _, h1, h2, _⟩ := h; omega)
  obtain ⟨k, rfl, hm, hk, ha⟩ := hP
  by_cases hkl : k < l.length
  · obtain ⟨f, hf⟩ : ∃ f, l[k]? = some f := ⟨_, List.getElem?_eq_getElem hkl⟩
    have hbad := fun h => fits_bad (one := one) (all := all) (g := g) (asid := asid) hf h
    have hstep : okF one all g asid f = true → Q [.b false, .i .i64 ((k : Int) + 1)] := fun h => hQ _ ⟨k + 1, by simp, by omega, by omega, by rw [all_take hf, ha, h]; rfl⟩
    have hkn : (k : Int) < (l.length : Int) := by omega
    have hw : IntKind.i64.wrap ((k : Int) + 1) = (k : Int) + 1 := by rw [IntKind.wrap_i64]; omega
    have hI := inb_fe hkl
    have hX := idx_fe hf
    obtain ⟨ha', ad, hs, sid⟩ := f
    simp only [FeD.ds] at hX
    clear hf
    generalize l.map FeD.ds = rows at hI hX hrl ⊢
    generalize fitsB one all g asid l = res at hbad ⊢
    simp [IR.wp, Ex.eval, Ex.evals, evalVs, binD, unD, eqtD, hrl, hkn, hw, hI, hX]
    clear hI hX hQ ha hl h1 h2 hm hk hrl heq hws
    generalize Q [.b false, .i .i64 ((k : Int) + 1)] = G at hstep ⊢
    unfold okF at hbad hstep
    cases g <;> cases ha' <;> cases hs <;> by_cases e1 : one = 0 <;> by_cases e2 : all = 0 <;> by_cases e3 : sid = asid <;> by_cases e4 : sid = 0 <;> simp_all
  · have hkn : ¬ (k : Int) < (l.length : Int) := by omega
    obtain rfl : k = l.length := by omega
    rw [List.take_length] at ha
    simp [IR.wp, Ex.eval, Ex.evals, evalVs, binD, unD, eqtD, fitsB, ha, heq]
end Go.Proofs.YtlihbielphcgbaaGreatDoor.Sx
