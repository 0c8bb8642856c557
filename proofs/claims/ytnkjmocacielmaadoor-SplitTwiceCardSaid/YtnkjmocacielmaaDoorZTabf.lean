/-
 Layer 19: TableFrames.
-/
import Derived.Test.YtnkjmocacielmaaDoorZTaba
namespace Go.Proofs.YtnkjmocacielmaaDoor.Sx
open Go
set_option linter.unusedVariables false
set_option linter.unusedSimpArgs false
set_option maxRecDepth 100000
theorem clrF_rm {s fr : Nat} {cs : List Cl} (h : RM s cs) : RM s (clrF cs fr) := h.clr (by omega)
theorem clrF_sub {cs : List Cl} {fr : Nat} (hs : Asc cs) : ∀ c ∈ clrF cs fr, c ∈ cs := fun c hc => by
 unfold clrF at hc
 rw [clr_filter hs (by omega)] at hc
 exact (List.mem_filter.1 hc).1
theorem clrF_len {cs : List Cl} {fr : Nat} (hs : Asc cs) : (clrF cs fr).length ≤ cs.length := by
 unfold clrF
 rw [clr_filter hs (by omega)]
 exact List.length_filter_le ..
theorem clrF_cok {cs : List Cl} {fr : Nat} (hs : Asc cs) (h : COk cs) : COk (clrF cs fr) := fun c hc => h c (clrF_sub hs c hc)
end Go.Proofs.YtnkjmocacielmaaDoor.Sx
