/- TOPO: what is asked ahead of everything else. -/
import Derived.Test.YtdikfhjpnfffnaaDoorTopoC
import Derived.Test.YtdikfhjpnfffnaaDoorGc
set_option maxRecDepth 2000
set_option linter.unusedVariables false
set_option linter.unusedSimpArgs false
set_option linter.unusedVariables false
set_option linter.unusedSimpArgs false
namespace Go.Proofs.YtdikfhjpnfffnaaDoor
open Go Go.Abs Go.Proofs
noncomputable def Fq1 : Table := addS 10 (.cons shTop (.cons (.int .i64) (.cons (.int .i64) .nil))) (fun s c t a b => (.arrB 256 fun _ => (List.range 256).map (rpartP (s ()) (c ()) (t ()) (a ()) (b ())), [])) Fp9
theorem Fq1_ok : TableOK Tryd.prog G0 Fq1 := addS_ok (⟨Tryd.func10, rfl, rfl, rfl, rfl, ok _⟩ : FN 10 Tryd.f10).callable (fun s c t a b _ => refPart_ok (s ()) (c ()) (t ()) (a ()) (b ())) Fp9_ok
theorem first_ok : PF 6 .nil .tt := by
  refine FnOK.of_run (⟨Tryd.func6, rfl, rfl, rfl, rfl, ok _⟩ : FN 6 Tryd.f6) (by rfl) ?_
  refine run_true (ok _) (mkO_ok Fq1_ok) 40 rfl ?_
  conv => arg 5; cbv
  refine ⟨by (repeat' (first | exact trivial | exact okSet_setOf _ | (show drawOK _ _ = true; decide +kernel) | decide +kernel | exact fun _ => rfl | refine ⟨?_, ?_⟩ | fail)), ?_⟩
  refine run_true (ok _) (mkO_ok Fq1_ok) 30 rfl ?_
  conv => arg 5; cbv
  refine ⟨by (repeat' (first | exact trivial | exact okSet_setOf _ | (show drawOK _ _ = true; decide +kernel) | decide +kernel | exact fun _ => rfl | refine ⟨?_, ?_⟩ | fail)), ?_⟩
  refine run_true (ok _) (mkO_ok Fq1_ok) 30 rfl ?_
  conv => arg 5; cbv
  refine ⟨by (repeat' (first | exact trivial | exact okSet_setOf _ | (show drawOK _ _ = true; decide +kernel) | decide +kernel | exact fun _ => rfl | refine ⟨?_, ?_⟩ | fail)), ?_⟩
  refine run_true (ok _) (mkO_ok Fq1_ok) 60 rfl ?_
  conv => arg 5; cbv
  refine ⟨by (repeat' (first | exact trivial | exact okSet_setOf _ | (show drawOK _ _ = true; decide +kernel) | decide +kernel | exact fun _ => rfl | refine ⟨?_, ?_⟩ | fail)), ?_⟩
  refine ⟨rfl, ?_⟩
  show _ = true
  decide +kernel
end Go.Proofs.YtdikfhjpnfffnaaDoor
