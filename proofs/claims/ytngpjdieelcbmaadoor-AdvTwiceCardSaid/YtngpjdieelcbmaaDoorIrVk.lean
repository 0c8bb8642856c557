/-
  IRs of functions, printed by a program of mine (wip/tools/mkir.py, ev.run.lean); each is checked by the kernel against the executor.
-/
import Derived.Test.YtngpjdieelcbmaaDoorBf
import Derived.Test.YtngpjdieelcbmaaDoorProg
namespace Go.Proofs.YtngpjdieelcbmaaDoor.Sx
open Go
set_option maxRecDepth 100000
noncomputable def envIrVk : Env := { P := Tryd.prog, G := gAll, inl := [], unr := [], ded := true }
/-- atlas/atlaslaw17.AdvKeeps -/
def atlaslaw17_AdvKeeps_ir : IR :=
  (.call 5 [] [(false, 1)]
  (.lt (.un .not (.v 14)) (.ite (.v 15)
  (.call 5 [] [(false, 1)]
  (.ret [(false, [(.v 16)])]))
  (.call 6 [(true, (vr 0 8)), (true, [(.v 8), (.v 9)])] [(false, 1)]
  (.lt (.un .not (.v 16)) (.ite (.v 17)
  (.call 5 [] [(false, 1)]
  (.ret [(false, [(.v 18)])]))
  (.chk (.room (.len (.app 45 (.c (.sl 45 [])) (.v 0))) 233) (.chk (.room (.len (.app 2 (.c (.sl 2 [])) (.v 9))) 17) (.lt (.app 2 (.c (.sl 2 [])) (.v 9)) (.lt (.bin .rem (.v 11) (.c (.i .u8 3))) (.lt (.cv .i64 (.v 19)) (.call 7 [(true, ([(.app 45 (.c (.sl 45 [])) (.v 0))] ++ vr 1 7)), (true, [(.v 8), (.v 18)]), (false, [(.v 10)]), (false, [(.v 20)])] [(true, 8), (true, 2)]
  (.call 8 [(true, ([(.app 45 (.c (.sl 45 [])) (.v 0))] ++ vr 1 7)), (false, [(.v 12)]), (false, [(.v 13)])] [(true, 8), (false, 1)]
  (.call 9 [(true, ([(.app 45 (.c (.sl 45 [])) (.v 0))] ++ vr 1 7)), (false, [(.v 13)])] [(true, 8), (false, 1)]
  (.call 10 [(true, ([(.app 45 (.c (.sl 45 [])) (.v 0))] ++ vr 1 7)), (true, (vr 0 8))] [(false, 1)]
  (.chk (.eqt true (.v 49) (.v 49)) (.ite (.v 49)
  (.call 11 [(true, [(.v 8), (.v 18)]), (true, [(.v 8), (.v 9)])] [(false, 1)]
  (.ret [(false, [(.v 50)])]))
  (.ret [(false, [(.c (.b false))])]))))))))))))))))))
theorem atlaslaw17_AdvKeeps_c : compile envIrVk 3000 3 = .ok atlaslaw17_AdvKeeps_ir := by kernel_rfl
theorem atlaslaw17_AdvKeeps_p : paramShape Tryd.prog 3 = some [(true, 8), (true, 2), (false, 1), (false, 1), (false, 1), (false, 1)] := by kernel_rfl
theorem atlaslaw17_AdvKeeps_k : Known gAll 3 (.ir [(true, 8), (true, 2), (false, 1), (false, 1), (false, 1), (false, 1)] atlaslaw17_AdvKeeps_ir) := known_ir (E := envIrVk) (n := 3000) rfl rfl atlaslaw17_AdvKeeps_c atlaslaw17_AdvKeeps_p
/-- atlas/atlaslaw17.AdvTwice -/
def atlaslaw17_AdvTwice_ir : IR :=
  (.call 5 [] [(false, 1)]
  (.lt (.un .not (.v 13)) (.ite (.v 14)
  (.call 5 [] [(false, 1)]
  (.ret [(false, [(.v 15)])]))
  (.call 6 [(true, (vr 0 8)), (true, [(.v 8), (.v 9)])] [(false, 1)]
  (.lt (.un .not (.v 15)) (.ite (.v 16)
  (.call 5 [] [(false, 1)]
  (.ret [(false, [(.v 17)])]))
  (.lt (.bin .rem (.v 11) (.c (.i .u8 3))) (.lt (.cv .i64 (.v 17)) (.call 7 [(true, (vr 0 7 ++ [(.c (.i .i64 (-1)))])), (true, [(.v 8), (.v 9)]), (false, [(.v 10)]), (false, [(.v 18)])] [(true, 8), (true, 2)]
  (.lt (.bin .rem (.v 12) (.c (.i .u8 3))) (.lt (.cv .i64 (.v 29)) (.call 7 [(true, (vr 0 7 ++ [(.c (.i .i64 (-1)))])), (true, [(.v 8), (.v 9)]), (false, [(.v 10)]), (false, [(.v 30)])] [(true, 8), (true, 2)]
  (.lt (.bin .rem (.v 12) (.c (.i .u8 3))) (.lt (.cv .i64 (.v 41)) (.call 7 [(true, (vr 19 8)), (true, [(.v 27), (.v 28)]), (false, [(.v 10)]), (false, [(.v 42)])] [(true, 8), (true, 2)]
  (.call 10 [(true, (vr 19 8)), (true, (vr 31 8))] [(false, 1)]
  (.ite (.v 53)
  (.call 11 [(true, [(.v 27), (.v 28)]), (true, [(.v 39), (.v 40)])] [(false, 1)]
  (.ite (.v 54)
  (.call 11 [(true, [(.v 27), (.v 28)]), (true, [(.v 51), (.v 52)])] [(false, 1)]
  (.ite (.v 55)
  (.call 12 [(true, [(.v 43)])] [(false, 1)]
  (.lt (.len (.v 56)) (.call 12 [(true, [(.v 19)])] [(false, 1)]
  (.lt (.len (.v 58)) (.lt (.bin .eql (.v 57) (.v 59)) (.ret [(false, [(.v 60)])]))))))
  (.ret [(false, [(.c (.b false))])])))
  (.ret [(false, [(.c (.b false))])])))
  (.ret [(false, [(.c (.b false))])]))))))))))))))))))
theorem atlaslaw17_AdvTwice_c : compile envIrVk 3000 4 = .ok atlaslaw17_AdvTwice_ir := by kernel_rfl
theorem atlaslaw17_AdvTwice_p : paramShape Tryd.prog 4 = some [(true, 8), (true, 2), (false, 1), (false, 1), (false, 1)] := by kernel_rfl
theorem atlaslaw17_AdvTwice_k : Known gAll 4 (.ir [(true, 8), (true, 2), (false, 1), (false, 1), (false, 1)] atlaslaw17_AdvTwice_ir) := known_ir (E := envIrVk) (n := 3000) rfl rfl atlaslaw17_AdvTwice_c atlaslaw17_AdvTwice_p
def TIrVk : Tbl :=
  []
theorem TIrVk_ok : ∀ x ∈ TIrVk, Known gAll x.1 x.2 :=
  fun _ h => nomatch h
end Go.Proofs.YtngpjdieelcbmaaDoor.Sx
