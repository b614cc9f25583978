/- SETS OF PROCESSORS: the texts' law. -/
import Derived.Test.YtdikfhjpnfffnabDoorCsY
import Derived.Test.YtdikfhjpnfffnabDoorCsU
set_option maxRecDepth 2000
set_option linter.unusedVariables false
set_option linter.unusedSimpArgs false
set_option linter.unusedVariables false
set_option linter.unusedSimpArgs false
namespace Go.Proofs.YtdikfhjpnfffnabDoor
open Go Go.Abs Go.Proofs
noncomputable def Fz1 : Table := addS 9 (.cons .str .nil) (fun s => (.tuple (.cons (.arrI .u64 4 fun _ => (parseS (s ())).1) (.cons (.int .i64 fun _ => (parseS (s ())).2) .nil)), [fun _ => ByteArray.size (s ()) < 4294967281]))
  (addS 11 (.cons shSet .nil) (fun a => (.str fun _ => textB (a ()), [fun _ => okSet (a ())])) Fg1)
theorem Fz1_ok : TableOK Tryd.prog G0 Fz1 := addS_ok (⟨Tryd.func9, rfl, rfl, rfl, ⟨rfl, rfl⟩, ok _⟩ : FN 9 Tryd.f9).callable (fun s h => refParse_ok (s ()) h.1) (addS_ok (⟨Tryd.func11, rfl, rfl, rfl, ⟨rfl, rfl⟩, ok _⟩ : FN 11 Tryd.f11).callable (fun a _ h => refText_ok (a ()) h.1) Fg1_ok)
theorem lim_all (a : List Int) : ∀ i, i < 256 → bitAt a i = true → (i : Int) < itoaLim := fun i hi _ => by unfold itoaLim; omega
theorem texts_ok (a : List Int) (ha : okSet a) (s : ByteArray) : PF 3 (.cons (.arrI .u64 4 fun _ => a) (.cons (.str fun _ => s) .nil)) .tt := by
  refine (⟨Tryd.func3, rfl, rfl, rfl, ⟨rfl, rfl⟩, ok _⟩ : FN 3 Tryd.f3).tree (mkO_ok Fz1_ok) false 60 rfl ?_
  conv => arg 5; cbv
  refine ⟨fun _ => ⟨rfl, rfl⟩, fun h => ?_⟩
  have h : ¬ (1500 : Int) < s.size := of_decide_eq_false h
  have hs : s.size < 4294967281 := by omega
  refine ⟨⟨hs, hs, ⟨ha, lim_all a⟩, ha, trivial⟩, fun _ => ⟨fun _ => ⟨⟨by show drawOK _ _ = true; kernel_rfl, trivial⟩, rfl, decide_eq_true rfl⟩, fun g => ?_⟩, fun g => absurd rfl (of_decide_eq_false g)⟩
  have g : ((parseS s).2 == (parseS s).2) = false := g
  simp at g
end Go.Proofs.YtdikfhjpnfffnabDoor
