/- VECTORS: what must be answered ahead of everything else. -/
import Derived.Test.YtdikfhjpnfffnacDoorVcL
set_option maxRecDepth 2000
set_option linter.unusedVariables false
set_option linter.unusedSimpArgs false
set_option linter.unusedVariables false
set_option linter.unusedSimpArgs false
namespace Go.Proofs.YtdikfhjpnfffnacDoor
open Go Go.Abs Go.Proofs
def t1B : ByteArray := ⟨#[99, 112, 117, 61, 53, 48, 48, 109, 44, 109, 101, 109, 111, 114, 121, 61, 49, 71, 105]⟩
def t2B : ByteArray := ⟨#[99, 112, 117, 61, 49, 44, 99, 112, 117, 61, 50]⟩
theorem p1 : vParse t1B.data.toList = ([500, 1073741824, 0], 0) := by decide +kernel
theorem p2 : vParse t2B.data.toList = ([0, 0, 0], 11) := by decide +kernel
theorem x3 : toB (vText 501 1073741824 2097152) = ⟨#[99, 112, 117, 61, 53, 48, 49, 109, 44, 109, 101, 109, 111, 114, 121, 61, 49, 71, 105, 44, 104, 117, 103, 101, 112, 97, 103, 101, 115, 61, 50, 77, 105]⟩ := by decide +kernel
theorem x4 : toB (vText 0 0 0) = ⟨#[45]⟩ := by decide +kernel
theorem first_okv : PF 6 .nil .tt := by
  refine (⟨Tryd.func6, rfl, rfl, rfl, ⟨rfl, rfl⟩, ok _⟩ : FN 6 Tryd.f6).treeS (mkO_ok Fn2_ok) false 40 (.yes (.yes (.yes (.yes (.yes (.yes (.yes (.yes (.yes (.yes .any)))))))))) rfl ?_
  conv => arg 5; cbv
  repeat' apply And.intro
  all_goals first | exact trivial | decide +kernel | rfl | skip
  trace_state
noncomputable def Fo : Table := addS 6 .nil (.tt, []) Fn2
theorem Fo_ok : TableOK Tryd.prog G0 Fo := addS_ok (⟨Tryd.func6, rfl, rfl, rfl, ⟨rfl, rfl⟩, ok _⟩ : FN 6 Tryd.f6).callable (fun _ => first_okv) Fn2_ok
end Go.Proofs.YtdikfhjpnfffnacDoor
