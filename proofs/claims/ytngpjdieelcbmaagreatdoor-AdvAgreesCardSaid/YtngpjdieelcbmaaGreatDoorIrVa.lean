/-
  IRs of functions, printed by a program of mine (wip/tools/mkir.py, ev.run.lean); each is checked by the kernel against the executor.
-/
import Derived.Test.YtngpjdieelcbmaaGreatDoorBf
import Derived.Test.YtngpjdieelcbmaaGreatDoorProg
namespace Go.Proofs.YtngpjdieelcbmaaGreatDoor.Sx
open Go
set_option maxRecDepth 100000
noncomputable def envIrVa : Env := { P := Tryz.prog, G := gAll, inl := [], unr := [], ded := true }
/-- atlas/atlaslaw17.AdvAgrees -/
def atlaslaw17_AdvAgrees_ir : IR :=
  (.call 6 [] [(false, 1)]
  (.lt (.un .not (.v 15)) (.ite (.v 16)
  (.call 6 [] [(false, 1)]
  (.ret [(false, [(.v 17)])]))
  (.call 7 [(true, (vr 0 8)), (true, [(.v 8), (.v 9)])] [(false, 1)]
  (.lt (.un .not (.v 17)) (.ite (.v 18)
  (.call 6 [] [(false, 1)]
  (.ret [(false, [(.v 19)])]))
  (.lt (.bin .eql (.v 1) (.c (.i .u64 0))) (.ite (.v 19)
  (.call 6 [] [(false, 1)]
  (.ret [(false, [(.v 20)])]))
  (.call 16 [(true, (vr 0 8)), (true, [(.v 8), (.v 9)])] [(false, 1)]
  (.lt (.un .not (.v 20)) (.ite (.v 21)
  (.call 6 [] [(false, 1)]
  (.ret [(false, [(.v 22)])]))
  (.lt (.bin .rem (.v 11) (.c (.i .u8 3))) (.lt (.cv .i64 (.v 22)) (.call 8 [(true, (vr 0 8)), (true, [(.v 8), (.v 9)]), (false, [(.v 10)]), (false, [(.v 23)])] [(true, 8), (true, 2)]
  (.call 10 [(true, (vr 0 8)), (false, [(.v 12)]), (false, [(.v 13)])] [(true, 8), (false, 1)]
  (.call 12 [(true, (vr 0 8)), (false, [(.v 13)])] [(true, 8), (false, 1)]
  (.call 17 [(true, [(.v 8), (.v 9)]), (false, [(.v 14)])] [(false, 1)]
  (.call 16 [(true, (vr 24 8)), (true, [(.v 32), (.v 33)])] [(false, 1)]
  (.ite (.v 53)
  (.call 16 [(true, (vr 34 8)), (true, [(.v 8), (.v 9)])] [(false, 1)]
  (.ite (.v 54)
  (.call 16 [(true, (vr 43 8)), (true, [(.v 8), (.v 9)])] [(false, 1)]
  (.ite (.v 55)
  (.call 18 [(true, (vr 24 8))] [(false, 1)]
  (.ite (.v 56)
  (.call 18 [(true, (vr 34 8))] [(false, 1)]
  (.ite (.v 57)
  (.call 18 [(true, (vr 43 8))] [(false, 1)]
  (.ite (.v 58)
  (.call 19 [(true, [(.v 32), (.v 33)])] [(false, 1)]
  (.ite (.v 59)
  (.call 17 [(true, [(.v 32), (.v 33)]), (false, [(.v 14)])] [(false, 1)]
  (.lt (.bin .or (.v 60) (.c (.i .u64 64))) (.lt (.bin .or (.v 52) (.c (.i .u64 64))) (.lt (.bin .eql (.v 61) (.v 62)) (.ret [(false, [(.v 63)])])))))
  (.ret [(false, [(.c (.b false))])])))
  (.ret [(false, [(.c (.b false))])])))
  (.ret [(false, [(.c (.b false))])])))
  (.ret [(false, [(.c (.b false))])])))
  (.ret [(false, [(.c (.b false))])])))
  (.ret [(false, [(.c (.b false))])])))
  (.ret [(false, [(.c (.b false))])]))))))))))))))))))))
theorem atlaslaw17_AdvAgrees_c : compile envIrVa 3000 4 = .ok atlaslaw17_AdvAgrees_ir := by kernel_rfl
theorem atlaslaw17_AdvAgrees_p : paramShape Tryz.prog 4 = some [(true, 8), (true, 2), (false, 1), (false, 1), (false, 1), (false, 1), (false, 1)] := by kernel_rfl
theorem atlaslaw17_AdvAgrees_k : Known gAll 4 (.ir [(true, 8), (true, 2), (false, 1), (false, 1), (false, 1), (false, 1), (false, 1)] atlaslaw17_AdvAgrees_ir) := known_ir (E := envIrVa) (n := 3000) rfl rfl atlaslaw17_AdvAgrees_c atlaslaw17_AdvAgrees_p
def TIrVa : Tbl :=
  []
theorem TIrVa_ok : ∀ x ∈ TIrVa, Known gAll x.1 x.2 :=
  fun _ h => nomatch h
end Go.Proofs.YtngpjdieelcbmaaGreatDoor.Sx
