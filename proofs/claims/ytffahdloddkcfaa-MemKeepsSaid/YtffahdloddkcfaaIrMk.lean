/-
  IRs of functions, printed by a program of mine (wip/tools/mkir.py, ev.run.lean); each is checked by the kernel against the executor.
-/
import Derived.Test.YtffahdloddkcfaaIrMl
import Derived.Test.YtffahdloddkcfaaProg
namespace Go.Proofs.Ytffahdloddkcfaa.Sx
open Go
set_option maxRecDepth 100000
def inlenvIrMk : List FuncId :=
  17 ::
  []
def lndenvIrMk : List FuncId :=
  17 ::
  []
def nwenvIrMk : List (FuncId × Nat) :=
  (32, 1) ::
  (22, 1) ::
  []
noncomputable def envIrMk : Env := { P := Try.prog, G := gAll, inl := inlenvIrMk, unr := [], ded := true, lnd := lndenvIrMk, nw := nwenvIrMk }
/-- atlas/atlaslaw03.MemKeeps -/
def atlaslaw03_MemKeeps_ir : IR :=
  (.call 9 [] [(false, 1)]
  (.lt (.un .not (.v 5)) (.ite (.v 6)
  (.call 9 [] [(false, 1)]
  (.ret [(false, [(.v 7)])]))
  (.call 21 [(true, [(.v 0), (.v 1)])] [(false, 1)]
  (.lt (.un .not (.v 7)) (.ite (.v 8)
  (.call 9 [] [(false, 1)]
  (.ret [(false, [(.v 9)])]))
  (.chk (.room (.len (.app 2 (.c (.sl 2 [])) (.v 1))) 17) (.call 27 [(true, [(.v 0), (.app 2 (.c (.sl 2 [])) (.v 1))]), (false, [(.v 2)]), (false, [(.v 3)])] [(false, 1)]
  (.chk (.eqt false (.v 9) (.v 9)) (.lt (.bin .neq (.v 9) (.c (.i .i64 0))) (.ite (.v 10)
  (.lt (.bin .quo (.v 0) (.c (.i .u64 16))) (.lt (.bin .mul (.v 11) (.c (.i .u64 8))) (.call (nwOff + 22) [(true, [(.v 0), (.app 2 (.c (.sl 2 [])) (.v 1))]), (false, [(.c (.i .u64 0))]), (false, [(.v 12)])] [(true, 2)]
  (.chk (.room (.len (.v 14)) 0) (.call 13 [(true, [(.v 0), (.app 2 (.c (.sl 2 [])) (.v 1))]), (true, [(.v 0), (.v 1)])] [(false, 1)]
  (.chk (.eqt true (.v 15) (.v 15)) (.lt (.un .not (.v 15)) (.ite (.v 16)
  (.ret [(false, [(.c (.b false))])])
  (.loop [(.c (.i .i64 0)), (.app 2 (.c (.sl 2 [])) (.v 1))]
  (.lt (.bin .lss (.v 17) (.len (.v 18))) (.ite (.v 19)
  (.chk (.inb (.v 18) (.v 17) 2) (.chk (.inb (.v 18) (.v 17) 2) (.lt (.bin .add (.v 17) (.c (.i .i64 1))) (.cont 0 [(.v 20), (.put (.v 18) (.v 17) 0 [(.c (.i .u64 7)), (.c (.i .u64 7))])]))))
  (.call 18 [(true, [(.v 0), (.v 1)]), (false, [(.v 2)]), (false, [(.v 3)]), (false, [(.v 4)])] [(true, 2), (false, 1)]
  (.lt (.bin .neq (.v 9) (.c (.i .i64 0))) (.ite (.v 23)
  (.lt (.bin .quo (.v 0) (.c (.i .u64 16))) (.lt (.bin .mul (.v 24) (.c (.i .u64 8))) (.call 23 [(true, [(.v 0), (.v 1)]), (false, [(.c (.i .u64 0))]), (false, [(.v 25)])] [(true, 2)]
  (.call 13 [(true, [(.v 13), (.v 14)]), (true, [(.v 26), (.v 27)])] [(false, 1)]
  (.ret [(false, [(.v 28)])])))))
  (.call 13 [(true, [(.v 0), (.v 18)]), (true, [(.v 20), (.v 21)])] [(false, 1)]
  (.ite (.v 24)
  (.lt (.bin .quo (.v 0) (.c (.i .u64 16))) (.lt (.bin .mul (.v 25) (.c (.i .u64 8))) (.call 23 [(true, [(.v 0), (.v 1)]), (false, [(.c (.i .u64 0))]), (false, [(.v 26)])] [(true, 2)]
  (.call 13 [(true, [(.v 13), (.v 14)]), (true, [(.v 27), (.v 28)])] [(false, 1)]
  (.ret [(false, [(.v 29)])])))))
  (.ret [(false, [(.c (.b false))])])))))))))))))))))
  (.lt (.bin .quo (.v 2) (.c (.i .u64 8))) (.call 19 [(true, [(.v 0), (.app 2 (.c (.sl 2 [])) (.v 1))]), (false, [(.v 2)])] [(false, 1)]
  (.chk (.eqt false (.v 12) (.v 12)) (.lt (.bin .rem (.v 2) (.c (.i .u64 8))) (.lt (.cv .i64 (.v 13)) (.lt (.bin .mul (.v 14) (.c (.i .i64 8))) (.lt (.bin .mul (.v 3) (.c (.i .i64 8))) (.call 33 [(false, [(.v 12)]), (false, [(.v 15)]), (false, [(.v 16)]), (false, [(.v 4)])] [(false, 1)]
  (.call (nwOff + 32) [(true, [(.v 0), (.app 2 (.c (.sl 2 [])) (.v 1))]), (false, [(.v 11)]), (false, [(.v 17)])] [(true, 2)]
  (.chk (.room (.len (.v 19)) 0) (.lt (.bin .quo (.v 0) (.c (.i .u64 16))) (.lt (.bin .mul (.v 20) (.c (.i .u64 8))) (.call (nwOff + 22) [(true, [(.v 0), (.app 2 (.c (.sl 2 [])) (.v 1))]), (false, [(.c (.i .u64 0))]), (false, [(.v 21)])] [(true, 2)]
  (.chk (.room (.len (.v 23)) 0) (.call 13 [(true, [(.v 0), (.app 2 (.c (.sl 2 [])) (.v 1))]), (true, [(.v 0), (.v 1)])] [(false, 1)]
  (.chk (.eqt true (.v 24) (.v 24)) (.lt (.un .not (.v 24)) (.ite (.v 25)
  (.ret [(false, [(.c (.b false))])])
  (.loop [(.c (.i .i64 0)), (.app 2 (.c (.sl 2 [])) (.v 1))]
  (.lt (.bin .lss (.v 26) (.len (.v 27))) (.ite (.v 28)
  (.chk (.inb (.v 27) (.v 26) 2) (.chk (.inb (.v 27) (.v 26) 2) (.lt (.bin .add (.v 26) (.c (.i .i64 1))) (.cont 0 [(.v 29), (.put (.v 27) (.v 26) 0 [(.c (.i .u64 7)), (.c (.i .u64 7))])]))))
  (.call 18 [(true, [(.v 0), (.v 1)]), (false, [(.v 2)]), (false, [(.v 3)]), (false, [(.v 4)])] [(true, 2), (false, 1)]
  (.call 13 [(true, [(.v 18), (.v 19)]), (true, [(.v 29), (.v 30)])] [(false, 1)]
  (.ite (.v 32)
  (.lt (.bin .quo (.v 0) (.c (.i .u64 16))) (.lt (.bin .mul (.v 33) (.c (.i .u64 8))) (.call 23 [(true, [(.v 0), (.v 1)]), (false, [(.c (.i .u64 0))]), (false, [(.v 34)])] [(true, 2)]
  (.call 13 [(true, [(.v 22), (.v 23)]), (true, [(.v 35), (.v 36)])] [(false, 1)]
  (.ret [(false, [(.v 37)])])))))
  (.ret [(false, [(.c (.b false))])]))))))))))))))))))))))))))))))))))))
theorem atlaslaw03_MemKeeps_c : compile envIrMk 3000 7 = .ok atlaslaw03_MemKeeps_ir := by kernel_rfl
theorem atlaslaw03_MemKeeps_p : paramShape Try.prog 7 = some [(true, 2), (false, 1), (false, 1), (false, 1)] := by kernel_rfl
theorem atlaslaw03_MemKeeps_k : Known gAll 7 (.ir [(true, 2), (false, 1), (false, 1), (false, 1)] atlaslaw03_MemKeeps_ir) := known_ir (E := envIrMk) (n := 3000) rfl rfl atlaslaw03_MemKeeps_c atlaslaw03_MemKeeps_p
def TIrMk : Tbl :=
  []
theorem TIrMk_ok : ∀ x ∈ TIrMk, Known gAll x.1 x.2 :=
  fun _ h => nomatch h
end Go.Proofs.Ytffahdloddkcfaa.Sx
