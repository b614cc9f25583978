/- SETS OF PROCESSORS: numbers from texts. -/
import Derived.Test.YtdikfhjpnfffnabDoorCsD
import Derived.Test.YtdikfhjpnfffnabDoorGc
set_option maxRecDepth 2000
set_option linter.unusedVariables false
set_option linter.unusedSimpArgs false
set_option linter.unusedVariables false
set_option linter.unusedSimpArgs false
namespace Go.Proofs.YtdikfhjpnfffnabDoor
open Go Go.Abs Go.Proofs
def nuA (s : ByteArray) (i : Int) : Env := [(4, .int .i64 fun _ => i), (3, .int .i64 fun _ => digV s i.toNat), (2, .int .i64 fun _ => 0), (0, .str fun _ => s)]
theorem refNumber_ok (s : ByteArray) : PF 31 (.cons (.str fun _ => s) .nil) (.int .i64 fun _ => numR s) := by
  refine (⟨Tryd.func31, rfl, rfl, rfl, ⟨rfl, rfl⟩, ok _⟩ : FN 31 Tryd.f31).tree (mkO_ok F0_ok) false 40 rfl ?_
  conv => arg 5; cbv
  refine ⟨fun h1 => ?_, fun h1 => ⟨fun h2 => ?_, fun h2 => ⟨fun h3 => ⟨?_, fun h4 => ?_, fun h4 => ?_⟩, fun h3 => ?_⟩⟩⟩
  · exact ⟨rfl, rfl, (numR_form (by unfold okForm; rw [show decide (s = ByteArray.empty) = true from h1]; rfl)).symm⟩
  · exact ⟨rfl, rfl, (numR_form (by unfold okForm; rw [show decide ((3 : Int) < s.size) = true from h2]; simp)).symm⟩
  · have h3 : (1 : Int) < s.size := by simpa using h3
    exact ⟨⟨by show (0 : Int) ≤ 0; omega, by show (0 : Int) < s.size; omega⟩, trivial⟩
  · exact ⟨rfl, rfl, (numR_form (by unfold okForm; rw [show decide ((1 : Int) < s.size) = true from h3, show (byteAt s 0 == 48) = true from h4]; simp)).symm⟩
  · have hf : okForm s = true := by
      unfold okForm
      rw [show decide (s = ByteArray.empty) = false from h1, show decide ((3 : Int) < s.size) = false from h2, show (byteAt s 0 == 48) = false from h4]
      simp
    (
      refine run_inv (ι := Int) (fun i => (s.size - i).toNat) (fun i => 0 ≤ i ∧ i ≤ s.size ∧ digOK s i.toNat = true) (nuA s) (fun _ => []) 0 0 (fun i => i) (by rfl) (by rfl) ⟨by omega, by omega, rfl⟩ ?_ ?_ ?_
      · intro i hi ih
        refine explore_ok (ok _) (mkO_ok F0_ok) (u := false) 20 _ rfl ?_
        conv => arg 5; cbv
        refine ⟨fun h => ?_, fun h => ?_⟩
        · have h : i < s.size := by simpa using h
          refine ⟨⟨⟨hi.1, h⟩, trivial⟩, fun h5 => ?_, fun h5 => ⟨⟨⟨hi.1, h⟩, trivial⟩, fun h6 => ?_, fun h6 => ?_⟩⟩
          · have h5 : byteAt s i < 48 := by simpa using h5
            exact ⟨rfl, rfl, (numR_dig (i := i.toNat) (by omega) (not_dig hi.1 (.inl h5))).symm⟩
          · have h6 : 57 < byteAt s i := by simpa using h6
            exact ⟨rfl, rfl, (numR_dig (i := i.toNat) (by omega) (not_dig hi.1 (.inr h6))).symm⟩
          · have h5 : ¬ byteAt s i < 48 := by simpa using h5
            have h6 : ¬ 57 < byteAt s i := by simpa using h6
            have := okForm_size hf
            have hw : IntKind.i64.wrap (i + 1) = i + 1 := IntWalk.i64_in _ ⟨by omega, by omega⟩
            have hd := digV_step hi.1 (by omega) hi.2.2 h5 h6
            exact ⟨⟨⟨hi.1, h⟩, trivial⟩, ih (i + 1) (fun i => i) ⟨by omega, by omega, hd.2⟩ (by omega) (by rfl) ⟨⟨rfl, hw⟩, ⟨rfl, hd.1⟩, impP_refl _, impP_refl _, trivial⟩ trivial⟩
        · have h : ¬ i < s.size := by simpa using h
          have e : i.toNat = s.size := by omega
          have hd := hi.2.2
          rw [e] at hd
          refine ⟨rfl, rfl, ?_⟩
          show digV s i.toNat = numR s
          rw [e, numR_ok hf hd]
      · exact ⟨impP_refl _, ⟨rfl, rfl⟩, impP_refl _, impP_refl _, trivial⟩
      · trivial)
  · have hf : okForm s = true := by
      unfold okForm
      rw [show decide (s = ByteArray.empty) = false from h1, show decide ((3 : Int) < s.size) = false from h2, show decide ((1 : Int) < s.size) = false from h3]
      simp
    (
      refine run_inv (ι := Int) (fun i => (s.size - i).toNat) (fun i => 0 ≤ i ∧ i ≤ s.size ∧ digOK s i.toNat = true) (nuA s) (fun _ => []) 0 0 (fun i => i) (by rfl) (by rfl) ⟨by omega, by omega, rfl⟩ ?_ ?_ ?_
      · intro i hi ih
        refine explore_ok (ok _) (mkO_ok F0_ok) (u := false) 20 _ rfl ?_
        conv => arg 5; cbv
        refine ⟨fun h => ?_, fun h => ?_⟩
        · have h : i < s.size := by simpa using h
          refine ⟨⟨⟨hi.1, h⟩, trivial⟩, fun h5 => ?_, fun h5 => ⟨⟨⟨hi.1, h⟩, trivial⟩, fun h6 => ?_, fun h6 => ?_⟩⟩
          · have h5 : byteAt s i < 48 := by simpa using h5
            exact ⟨rfl, rfl, (numR_dig (i := i.toNat) (by omega) (not_dig hi.1 (.inl h5))).symm⟩
          · have h6 : 57 < byteAt s i := by simpa using h6
            exact ⟨rfl, rfl, (numR_dig (i := i.toNat) (by omega) (not_dig hi.1 (.inr h6))).symm⟩
          · have h5 : ¬ byteAt s i < 48 := by simpa using h5
            have h6 : ¬ 57 < byteAt s i := by simpa using h6
            have := okForm_size hf
            have hw : IntKind.i64.wrap (i + 1) = i + 1 := IntWalk.i64_in _ ⟨by omega, by omega⟩
            have hd := digV_step hi.1 (by omega) hi.2.2 h5 h6
            exact ⟨⟨⟨hi.1, h⟩, trivial⟩, ih (i + 1) (fun i => i) ⟨by omega, by omega, hd.2⟩ (by omega) (by rfl) ⟨⟨rfl, hw⟩, ⟨rfl, hd.1⟩, impP_refl _, impP_refl _, trivial⟩ trivial⟩
        · have h : ¬ i < s.size := by simpa using h
          have e : i.toNat = s.size := by omega
          have hd := hi.2.2
          rw [e] at hd
          refine ⟨rfl, rfl, ?_⟩
          show digV s i.toNat = numR s
          rw [e, numR_ok hf hd]
      · exact ⟨impP_refl _, ⟨rfl, rfl⟩, impP_refl _, impP_refl _, trivial⟩
      · trivial)
def nvA (s : ByteArray) (i : Int) : Env := [(25, .int .i64 fun _ => i), (24, .int .i64 fun _ => (s.size : Int)), (4, .int .i64 fun _ => digV s i.toNat), (3, .int .i64 fun _ => 0), (2, .int .i64 fun _ => 0), (0, .str fun _ => s)]
theorem number_ok (s : ByteArray) : PF 47 (.cons (.str fun _ => s) .nil) (.tuple (.cons (.int .i64 fun _ => numV s) (.cons (.int .i64 fun _ => numE s) .nil))) := by
  refine (⟨Tryd.func47, rfl, rfl, rfl, ⟨rfl, rfl⟩, ok _⟩ : FN 47 Tryd.f47).tree (mkO_ok Fd1_ok) false 40 rfl ?_
  conv => arg 5; cbv
  refine ⟨fun h1 => ?_, fun h1 => ⟨fun h2 => ?_, fun h2 => ⟨fun h3 => ⟨?_, fun h4 => ?_, fun h4 => ?_⟩, fun h3 => ?_⟩⟩⟩
  · have hn := numV_form (numR_form (s := s) (by unfold okForm; rw [show decide (s = ByteArray.empty) = true from h1]; rfl))
    exact ⟨rfl, ⟨rfl, hn.1.symm⟩, ⟨rfl, hn.2.symm⟩, rfl⟩
  · have hn := numV_form (numR_form (s := s) (by unfold okForm; rw [show decide ((3 : Int) < s.size) = true from h2]; simp))
    exact ⟨rfl, ⟨rfl, hn.1.symm⟩, ⟨rfl, hn.2.symm⟩, rfl⟩
  · have h3 : (1 : Int) < s.size := by simpa using h3
    exact ⟨⟨by show (0 : Int) ≤ 0; omega, by show (0 : Int) < s.size; omega⟩, trivial⟩
  · have hn := numV_form (numR_form (s := s) (by unfold okForm; rw [show decide ((1 : Int) < s.size) = true from h3, show (byteAt s 0 == 48) = true from h4]; simp))
    exact ⟨rfl, ⟨rfl, hn.1.symm⟩, ⟨rfl, hn.2.symm⟩, rfl⟩
  · have hf : okForm s = true := by
      unfold okForm
      rw [show decide (s = ByteArray.empty) = false from h1, show decide ((3 : Int) < s.size) = false from h2, show (byteAt s 0 == 48) = false from h4]
      simp
    (
      refine run_inv (ι := Int) (fun i => (s.size - i).toNat) (fun i => 0 ≤ i ∧ i ≤ s.size ∧ digOK s i.toNat = true) (nvA s) (fun _ => []) 0 0 (fun i => i) (by rfl) (by rfl) ⟨by omega, by omega, rfl⟩ ?_ ?_ ?_
      · intro i hi ih
        refine explore_ok (ok _) (mkO_ok Fd1_ok) (u := false) 20 _ rfl ?_
        conv => arg 5; cbv
        refine ⟨fun h => ?_, fun h => ?_⟩
        · have h : i < s.size := by simpa using h
          refine ⟨⟨⟨hi.1, h⟩, trivial⟩, fun h5 => ?_, fun h5 => ⟨⟨⟨hi.1, h⟩, trivial⟩, fun h6 => ?_, fun h6 => ?_⟩⟩
          · have h5 : byteAt s i < 48 := by simpa using h5
            have hn := numV_form (numR_dig (i := i.toNat) (by omega) (not_dig hi.1 (.inl h5)))
            exact ⟨rfl, ⟨rfl, hn.1.symm⟩, ⟨rfl, hn.2.symm⟩, rfl⟩
          · have h6 : 57 < byteAt s i := by simpa using h6
            have hn := numV_form (numR_dig (i := i.toNat) (by omega) (not_dig hi.1 (.inr h6)))
            exact ⟨rfl, ⟨rfl, hn.1.symm⟩, ⟨rfl, hn.2.symm⟩, rfl⟩
          · have h5 : ¬ byteAt s i < 48 := by simpa using h5
            have h6 : ¬ 57 < byteAt s i := by simpa using h6
            have := okForm_size hf
            have hw : IntKind.i64.wrap (i + 1) = i + 1 := IntWalk.i64_in _ ⟨by omega, by omega⟩
            have hd := digV_step hi.1 (by omega) hi.2.2 h5 h6
            exact ⟨⟨⟨hi.1, h⟩, trivial⟩, ih (i + 1) (fun i => i) ⟨by omega, by omega, hd.2⟩ (by omega) (by rfl) ⟨⟨rfl, hw⟩, impP_refl _, ⟨rfl, hd.1⟩, impP_refl _, impP_refl _, impP_refl _, trivial⟩ trivial⟩
        · have h : ¬ i < s.size := by simpa using h
          have e : i.toNat = s.size := by omega
          have hd := hi.2.2
          rw [e] at hd
          have hr := numR_ok hf hd
          have h0 := (digV_small (k := i.toNat) hi.2.2 (by have := okForm_size hf; omega)).1
          rw [← e] at hr
          rw [← hr] at h0
          rw [← hr]
          refine ⟨fun h7 => ?_, fun h7 => ?_⟩
          · have h7 : 256 ≤ numR s := by simpa [h0] using h7
            have hn := numV_over h7
            exact ⟨rfl, ⟨rfl, hn.1.symm⟩, ⟨rfl, hn.2.symm⟩, rfl⟩
          · have h7 : numR s < 256 := by simpa [h0] using h7
            have hn := numV_ok h0 h7
            exact ⟨rfl, ⟨rfl, hn.1.symm⟩, ⟨rfl, hn.2.symm⟩, rfl⟩
      · exact ⟨⟨rfl, rfl⟩, ⟨rfl, rfl⟩, ⟨rfl, rfl⟩, impP_refl _, impP_refl _, impP_refl _, trivial⟩
      · trivial)
  · have hf : okForm s = true := by
      unfold okForm
      rw [show decide (s = ByteArray.empty) = false from h1, show decide ((3 : Int) < s.size) = false from h2, show decide ((1 : Int) < s.size) = false from h3]
      simp
    (
      refine run_inv (ι := Int) (fun i => (s.size - i).toNat) (fun i => 0 ≤ i ∧ i ≤ s.size ∧ digOK s i.toNat = true) (nvA s) (fun _ => []) 0 0 (fun i => i) (by rfl) (by rfl) ⟨by omega, by omega, rfl⟩ ?_ ?_ ?_
      · intro i hi ih
        refine explore_ok (ok _) (mkO_ok Fd1_ok) (u := false) 20 _ rfl ?_
        conv => arg 5; cbv
        refine ⟨fun h => ?_, fun h => ?_⟩
        · have h : i < s.size := by simpa using h
          refine ⟨⟨⟨hi.1, h⟩, trivial⟩, fun h5 => ?_, fun h5 => ⟨⟨⟨hi.1, h⟩, trivial⟩, fun h6 => ?_, fun h6 => ?_⟩⟩
          · have h5 : byteAt s i < 48 := by simpa using h5
            have hn := numV_form (numR_dig (i := i.toNat) (by omega) (not_dig hi.1 (.inl h5)))
            exact ⟨rfl, ⟨rfl, hn.1.symm⟩, ⟨rfl, hn.2.symm⟩, rfl⟩
          · have h6 : 57 < byteAt s i := by simpa using h6
            have hn := numV_form (numR_dig (i := i.toNat) (by omega) (not_dig hi.1 (.inr h6)))
            exact ⟨rfl, ⟨rfl, hn.1.symm⟩, ⟨rfl, hn.2.symm⟩, rfl⟩
          · have h5 : ¬ byteAt s i < 48 := by simpa using h5
            have h6 : ¬ 57 < byteAt s i := by simpa using h6
            have := okForm_size hf
            have hw : IntKind.i64.wrap (i + 1) = i + 1 := IntWalk.i64_in _ ⟨by omega, by omega⟩
            have hd := digV_step hi.1 (by omega) hi.2.2 h5 h6
            exact ⟨⟨⟨hi.1, h⟩, trivial⟩, ih (i + 1) (fun i => i) ⟨by omega, by omega, hd.2⟩ (by omega) (by rfl) ⟨⟨rfl, hw⟩, impP_refl _, ⟨rfl, hd.1⟩, impP_refl _, impP_refl _, impP_refl _, trivial⟩ trivial⟩
        · have h : ¬ i < s.size := by simpa using h
          have e : i.toNat = s.size := by omega
          have hd := hi.2.2
          rw [e] at hd
          have hr := numR_ok hf hd
          have h0 := (digV_small (k := i.toNat) hi.2.2 (by have := okForm_size hf; omega)).1
          rw [← e] at hr
          rw [← hr] at h0
          rw [← hr]
          refine ⟨fun h7 => ?_, fun h7 => ?_⟩
          · have h7 : 256 ≤ numR s := by simpa [h0] using h7
            have hn := numV_over h7
            exact ⟨rfl, ⟨rfl, hn.1.symm⟩, ⟨rfl, hn.2.symm⟩, rfl⟩
          · have h7 : numR s < 256 := by simpa [h0] using h7
            have hn := numV_ok h0 h7
            exact ⟨rfl, ⟨rfl, hn.1.symm⟩, ⟨rfl, hn.2.symm⟩, rfl⟩
      · exact ⟨⟨rfl, rfl⟩, ⟨rfl, rfl⟩, ⟨rfl, rfl⟩, impP_refl _, impP_refl _, impP_refl _, trivial⟩
      · trivial)
noncomputable def Fn1 : Table := addS 47 (.cons .str .nil) (fun s => (.tuple (.cons (.int .i64 fun _ => numV (s ())) (.cons (.int .i64 fun _ => numE (s ())) .nil)), [])) Fd1
theorem Fn1_ok : TableOK Tryd.prog G0 Fn1 := addS_ok (⟨Tryd.func47, rfl, rfl, rfl, ⟨rfl, rfl⟩, ok _⟩ : FN 47 Tryd.f47).callable (fun s _ => number_ok (s ())) Fd1_ok
end Go.Proofs.YtdikfhjpnfffnabDoor
