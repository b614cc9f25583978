/- THE SEAT: what all its walks share. -/
import Derived.Test.YtdikfhjpnfffnaaDoorT
import Derived.Test.YtdikfhjpnfffnaaDoorGb
import Derived.IntWalk
set_option maxRecDepth 2000
set_option linter.unusedVariables false
set_option linter.unusedSimpArgs false
set_option linter.unusedVariables false
set_option linter.unusedSimpArgs false
namespace Go.Proofs.YtdikfhjpnfffnaaDoor
open Go Go.Abs Go.Proofs
def G0 : Nat → PV := fun _ => .undef
def ctx (fn : Func) : Ctx := ⟨tyT, G0, fn.results.toList, fn.ntmps, 0⟩
theorem mixed : Tryd.prog.follows .mixedOrders = true := by rfl
theorem ok (fn : Func) : OK Tryd.prog (ctx fn) fn := ⟨tyOK, mixed, rfl⟩
def body (fn : Func) : Code := fn.body.getD .skip
abbrev PF := PFun Tryd.prog G0
abbrev FN (f : Nat) (fn : Func) := FnOK Tryd.prog (ctx fn) f fn (body fn)
def F0 : Table := fun _ _ => none
theorem F0_ok : TableOK Tryd.prog G0 F0 := fun _ _ _ _ h => by cases h
def mkO (F : Table) : OpX := orX (callX F) (orX (appE tyT) (buildX tyT))
theorem mkO_ok {F : Table} (h : TableOK Tryd.prog G0 F) : OpXOK Tryd.prog G0 (mkO F) := orX_ok (callX_ok h) (orX_ok (appE_ok tyOK) (buildX_ok tyOK))
def i64 (n : Int) : PV := .int .i64 fun _ => n
def u64 (n : Int) : PV := .int .u64 fun _ => n
def bo (b : Bool) : PV := .bool fun _ => b
def setP (l : List Int) : PV := .arrI .u64 4 fun _ => l
end Go.Proofs.YtdikfhjpnfffnaaDoor
