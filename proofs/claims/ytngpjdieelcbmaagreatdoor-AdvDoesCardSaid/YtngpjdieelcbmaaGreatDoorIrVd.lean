/-
  IRs of functions, printed by a program of mine (wip/tools/mkir.py, ev.run.lean); each is checked by the kernel against the executor.
-/
import Derived.Test.YtngpjdieelcbmaaGreatDoorBf
import Derived.Test.YtngpjdieelcbmaaGreatDoorProg
namespace Go.Proofs.YtngpjdieelcbmaaGreatDoor.Sx
open Go
set_option maxRecDepth 100000
noncomputable def envIrVd : Env := { P := Tryz.prog, G := gAll, inl := [], unr := [], ded := true }
/-- atlas/atlaslaw17.AdvDoes -/
def atlaslaw17_AdvDoes_ir : IR :=
  (.call 6 [] [(false, 1)]
  (.lt (.un .not (.v 14)) (.ite (.v 15)
  (.call 6 [] [(false, 1)]
  (.ret [(false, [(.v 16)])]))
  (.call 7 [(true, (vr 0 8)), (true, [(.v 8), (.v 9)])] [(false, 1)]
  (.lt (.un .not (.v 16)) (.ite (.v 17)
  (.call 6 [] [(false, 1)]
  (.ret [(false, [(.v 18)])]))
  (.lt (.bin .rem (.v 11) (.c (.i .u8 3))) (.lt (.cv .i64 (.v 18)) (.call 8 [(true, (vr 0 8)), (true, [(.v 8), (.v 9)]), (false, [(.v 10)]), (false, [(.v 19)])] [(true, 8), (true, 2)]
  (.lt (.bin .rem (.v 11) (.c (.i .u8 3))) (.lt (.cv .i64 (.v 30)) (.call 9 [(true, (vr 0 8)), (true, [(.v 8), (.v 9)]), (false, [(.v 10)]), (false, [(.v 31)])] [(true, 8), (true, 2)]
  (.call 10 [(true, (vr 0 8)), (false, [(.v 12)]), (false, [(.v 13)])] [(true, 8), (false, 1)]
  (.call 11 [(true, (vr 0 8)), (false, [(.v 12)]), (false, [(.v 13)])] [(true, 8), (false, 1)]
  (.call 12 [(true, (vr 0 8)), (false, [(.v 13)])] [(true, 8), (false, 1)]
  (.call 13 [(true, (vr 0 8)), (false, [(.v 13)])] [(true, 8), (false, 1)]
  (.call 14 [(true, (vr 20 8)), (true, (vr 32 8))] [(false, 1)]
  (.ite (.v 78)
  (.call 15 [(true, [(.v 28), (.v 29)]), (true, [(.v 40), (.v 41)])] [(false, 1)]
  (.ite (.v 79)
  (.call 14 [(true, (vr 42 8)), (true, (vr 51 8))] [(false, 1)]
  (.ite (.v 80)
  (.lt (.bin .eql (.v 50) (.v 59)) (.ite (.v 81)
  (.call 14 [(true, (vr 60 8)), (true, (vr 69 8))] [(false, 1)]
  (.ite (.v 82)
  (.lt (.bin .eql (.v 68) (.v 77)) (.ret [(false, [(.v 83)])]))
  (.ret [(false, [(.c (.b false))])])))
  (.ret [(false, [(.c (.b false))])])))
  (.ret [(false, [(.c (.b false))])])))
  (.ret [(false, [(.c (.b false))])])))
  (.ret [(false, [(.c (.b false))])])))))))))))))))))))
theorem atlaslaw17_AdvDoes_c : compile envIrVd 3000 3 = .ok atlaslaw17_AdvDoes_ir := by kernel_rfl
theorem atlaslaw17_AdvDoes_p : paramShape Tryz.prog 3 = some [(true, 8), (true, 2), (false, 1), (false, 1), (false, 1), (false, 1)] := by kernel_rfl
theorem atlaslaw17_AdvDoes_k : Known gAll 3 (.ir [(true, 8), (true, 2), (false, 1), (false, 1), (false, 1), (false, 1)] atlaslaw17_AdvDoes_ir) := known_ir (E := envIrVd) (n := 3000) rfl rfl atlaslaw17_AdvDoes_c atlaslaw17_AdvDoes_p
def TIrVd : Tbl :=
  []
theorem TIrVd_ok : ∀ x ∈ TIrVd, Known gAll x.1 x.2 :=
  fun _ h => nomatch h
end Go.Proofs.YtngpjdieelcbmaaGreatDoor.Sx
