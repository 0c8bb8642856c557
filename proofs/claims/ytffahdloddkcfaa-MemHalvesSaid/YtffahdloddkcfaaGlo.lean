/-
  The package-level variables' leaves, and the tables of those that a group of laws speaks of.
-/
import Derived.Test.YtffahdloddkcfaaExecc
namespace Go.Proofs.Ytffahdloddkcfaa.Sx
open Go
def g0 : Glo := []
/-- all of this seat's variables -/
def gAll : Glo :=
  []

/-- A contract that needs few variables holds with more. -/
theorem ConO.up {P : Program} {G G' : Glo} (hg : ∀ x ∈ G, Glo.at G x.1 = some x.2 → Glo.at G' x.1 = some x.2) {f : FuncId} {az rs : List DV} (h : ConO P G f az rs) : ConO P G' f az rs := by
  obtain ⟨s0, s, rows, more, rows', h1, h2, h⟩ := h
  refine ⟨s0, s, rows, more, rows', h1, h2, fun B I w v vs hG => h B I w v vs (fun g ds hd => hG g ds ?_)⟩
  have : ∀ (G : Glo) g ds, Glo.at G g = some ds → (g, ds) ∈ G := by
    intro G
    induction G with
    | nil => intro g ds h; cases h
    | cons x r ih =>
      intro g ds h
      obtain ⟨k, ls⟩ := x
      unfold Glo.at at h
      split at h
      · cases h; rename_i hk; subst hk; exact List.mem_cons_self ..
      · exact List.mem_cons_of_mem _ (ih g ds h)
  exact hg (g, ds) (this G g ds hd) hd
theorem ConM.up {P : Program} {G G' : Glo} (hg : ∀ x ∈ G, Glo.at G x.1 = some x.2 → Glo.at G' x.1 = some x.2) {f : FuncId} {az rs : List DV} (h : ConM P G f az rs) : ConM P G' f az rs := by
  intro I w vs hG
  refine h I w vs (fun g ds hd => hG g ds ?_)
  have : ∀ (G : Glo) g ds, Glo.at G g = some ds → (g, ds) ∈ G := by
    intro G
    induction G with
    | nil => intro g ds h; cases h
    | cons x r ih =>
      intro g ds h
      obtain ⟨k, ls⟩ := x
      unfold Glo.at at h
      split at h
      · cases h; rename_i hk; subst hk; exact List.mem_cons_self ..
      · exact List.mem_cons_of_mem _ (ih g ds h)
  exact hg (g, ds) (this G g ds hd) hd
end Go.Proofs.Ytffahdloddkcfaa.Sx
