/- THE SEAT: what all its walks share. -/
import Derived.Test.YtdikfhjpnfffnaaT
import Derived.Test.YtdikfhjpnfffnaaGc
import Derived.IntWalk
import Derived.Shelf.Strconv.Itoa3
set_option maxRecDepth 2000
set_option linter.unusedVariables false
set_option linter.unusedSimpArgs false
set_option maxRecDepth 2000
set_option linter.unusedVariables false
set_option linter.unusedSimpArgs false
set_option linter.unusedVariables false
set_option linter.unusedSimpArgs false
namespace Go.Proofs.Ytdikfhjpnfffnaa
open Go Go.Abs Go.Proofs
/-- What is known of the package's variables. -/
def facts (M : Mem) : Prop := (∀ g, Try.prog.globalNamed "internal/bytealg.MaxLen" = some g → ∃ cs t fr m, M.stat g = some (.cells cs t fr) ∧ cs[0]? = some (.int .i64 m)) ∧
  ∀ g, Try.prog.globalNamed "internal/strconv.uint64pow10" = some g → ∃ t fr, M.stat g = some (.cells (Lib.pow10Tab.map fun z => Value.int .u64 z).toArray t fr)
theorem facts_mono (M M' : Mem) (h : M.le M') (k : facts M) : facts M' :=
  ⟨fun g hg => (by obtain ⟨cs, t, fr, m, e, e2⟩ := k.1 g hg; exact ⟨cs, t, fr, m, h.2 _ _ e, e2⟩), fun g hg => (by obtain ⟨t, fr, e⟩ := k.2 g hg; exact ⟨t, fr, h.2 _ _ e⟩)⟩
def G0 : Gs := ⟨fun _ => .undef, facts, facts_mono⟩
def ctx (fn : Func) : Ctx := { T := tyT, G := G0, res := fn.results.toList, N := fn.ntmps, n0 := 0 }
theorem mixed : Try.prog.follows .mixedOrders = true := by rfl
theorem ok (fn : Func) : OK Try.prog (ctx fn) fn := ⟨tyOK, mixed, rfl⟩
def body (fn : Func) : Code := fn.body.getD .skip
abbrev PF := PFun Try.prog G0
abbrev FN (f : Nat) (fn : Func) := FnOK Try.prog (ctx fn) f fn (body fn)
def F0 : Table := fun _ _ => none
theorem F0_ok : TableOK Try.prog G0 F0 := fun _ _ _ _ h => by cases h
def mkO (F : Table) : OpX := orX (callX F) (orX (appE tyT) (orX (buildX tyT) (orX (convX tyT) (sliceArrX tyT))))
theorem mkO_ok {F : Table} (h : TableOK Try.prog G0 F) : OpXOK Try.prog G0 (mkO F) := orX_ok (callX_ok h) (orX_ok (appE_ok tyOK) (orX_ok (buildX_ok tyOK) (orX_ok (convX_ok tyOK) (sliceArrX_ok tyOK))))
def i64 (n : Int) : PV := .int .i64 fun _ => n
def u64 (n : Int) : PV := .int .u64 fun _ => n
def bo (b : Bool) : PV := .bool fun _ => b
def setP (l : List Int) : PV := .arrI .u64 4 fun _ => l
end Go.Proofs.Ytdikfhjpnfffnaa
