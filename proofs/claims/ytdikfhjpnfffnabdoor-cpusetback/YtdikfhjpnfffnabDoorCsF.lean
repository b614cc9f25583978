/- SETS OF PROCESSORS: what the statements say first. -/
import Derived.Test.YtdikfhjpnfffnabDoorCsE
import Derived.Test.YtdikfhjpnfffnabDoorCsP
import Derived.Test.YtdikfhjpnfffnabDoorCsRef
set_option maxRecDepth 2000
set_option linter.unusedVariables false
set_option linter.unusedSimpArgs false
set_option linter.unusedVariables false
set_option linter.unusedSimpArgs false
namespace Go.Proofs.YtdikfhjpnfffnabDoor
open Go Go.Abs Go.Proofs
noncomputable def Ff1 : Table := addS 8 (.cons .str .nil) (fun s => (.tuple (.cons (.arrI .u64 4 fun _ => (parseS (s ())).1) (.cons (.int .i64 fun _ => (parseS (s ())).2) .nil)), [fun _ => ByteArray.size (s ()) < 4294967281])) Fe2
theorem Ff1_ok : TableOK Tryd.prog G0 Ff1 := addS_ok (⟨Tryd.func8, rfl, rfl, rfl, ⟨rfl, rfl⟩, ok _⟩ : FN 8 Tryd.f8).callable (fun s h => parse_ok (s ()) h.1) Fe2_ok
def b8 : ByteArray := ⟨#[56, 44, 48, 45, 50]⟩
def b0 : ByteArray := ⟨#[48, 45, 50, 44, 50]⟩
theorem k_a : parseS b8 = ([263, 0, 0, 0], 0) := by decide +kernel
theorem k_b : parseS b0 = ([0, 0, 0, 0], 22) := by decide +kernel
theorem k_c : textB [263, 0, 0, 0] = ⟨#[48, 45, 50, 44, 56]⟩ := by decide +kernel
theorem k_d : textB [0, 0, 0, 0] = ⟨#[45]⟩ := by decide +kernel
theorem k1' : firstOf (bitAt [263, 0, 0, 0]) 256 = some 0 := by decide +kernel
theorem k2' : fewB (bitAt [263, 0, 0, 0]) 2 = true := by decide +kernel
theorem k3' : firstL (bitAt [263, 0, 0, 0]) 2 = setOf fun i => List.elem (i : Int) [0, 1] := by decide +kernel
theorem k4' : cnt (bitAt [263, 0, 0, 0]) 256 = 4 := by decide +kernel
theorem k5' : (setOf fun i => bitAt [263, 0, 0, 0] i && !bitAt (setOf (between 1 255)) i) = setOf fun i => List.elem (i : Int) [0] := by decide +kernel
theorem k6' : (firsts (bitAt [263, 0, 0, 0]) 3).length = 3 := by decide +kernel
theorem k7' : hasN (bitAt [263, 0, 0, 0]) 8 = true := by decide +kernel
theorem k8' : okSet [263, 0, 0, 0] := by unfold okSet; decide +kernel
theorem k9' : ∀ i, i < 256 → bitAt [263, 0, 0, 0] i = true → (i : Int) < itoaLim := by unfold itoaLim; decide +kernel
theorem first_ok : PF 7 .nil .tt := by
  refine (⟨Tryd.func7, rfl, rfl, rfl, ⟨rfl, rfl⟩, ok _⟩ : FN 7 Tryd.f7).tree (mkO_ok Ff1_ok) false 60 rfl ?_
  conv => arg 5; cbv
  have e8 : (parseS b8).1 = [263, 0, 0, 0] := by rw [k_a]
  have hok : okSet (parseS b8).1 := by rw [e8]; exact k8'
  have hlim : ∀ i, i < 256 → bitAt (parseS b8).1 i = true → (i : Int) < itoaLim := by rw [e8]; exact k9'
  refine ⟨⟨by decide, by decide, hok, hok, trivial⟩, fun _ => ⟨⟨⟨hok, hlim⟩, trivial⟩, fun _ => ⟨fun _ => ⟨fun _ => ⟨fun _ => ⟨fun _ => ⟨⟨?_, ?_, trivial⟩, fun _ => ⟨⟨hok, trivial⟩, fun _ => ⟨⟨?_, ⟨hok, okSet_setOf _⟩, ?_, ?_, trivial⟩, fun _ => ⟨⟨hok, trivial⟩, fun _ => ⟨⟨hok, trivial⟩, fun _ => ⟨⟨⟨?_, ?_⟩, ?_, trivial⟩, rfl, ?_⟩, fun h => ?_⟩, fun h => ?_⟩, fun h => ?_⟩, fun h => ?_⟩, fun h => ?_⟩, fun h => ?_⟩, fun h => ?_⟩, fun h => ?_⟩, fun h => ?_⟩, fun h => ?_⟩, fun h => ?_⟩
  · show (2 : Int) < 9223372036854775807
    omega
  · exact fun j => rfl
  · show (1 : Int) ≤ 9223372036854775807
    omega
  · show (1 : Int) < 9223372036854775807
    omega
  · exact fun j => rfl
  · show okSet [0, 0, 0, 0]
    unfold okSet; decide +kernel
  · show ∀ i, i < 256 → bitAt [0, 0, 0, 0] i = true → (i : Int) < itoaLim
    unfold itoaLim; decide +kernel
  · show drawOK _ _ = true
    kernel_rfl
  · show decide (textB [0, 0, 0, 0] = ⟨#[45]⟩) = true
    rw [k_d]; exact decide_eq_true rfl
  · refine absurd (show hasN (bitAt (parseS b8).1) 8 = false from h) ?_
    rw [e8, k7']; exact Bool.noConfusion
  · refine absurd (show (((firsts (bitAt (parseS b8).1) 3).length : Int) == 3) = false from h) ?_
    rw [e8, k6']; exact Bool.noConfusion
  · refine absurd (show decide ((setOf fun i => bitAt (parseS b8).1 i && !bitAt (setOf (between 1 255)) i) = setOf fun i => List.elem (i : Int) [0]) = false from h) ?_
    rw [e8, k5', decide_eq_true rfl]; exact Bool.noConfusion
  · refine absurd (show (((cnt (bitAt (parseS b8).1) 256 : Nat) : Int) == 4) = false from h) ?_
    rw [e8, k4']; exact Bool.noConfusion
  · refine absurd (show decide (firstL (bitAt (parseS b8).1) 2 = setOf fun i => List.elem (i : Int) [0, 1]) = false from h) ?_
    rw [e8, k3', decide_eq_true rfl]; exact Bool.noConfusion
  · refine absurd (show fewB (bitAt (parseS b8).1) 2 = false from h) ?_
    rw [e8, k2']; exact Bool.noConfusion
  · refine absurd (show (firstOf (bitAt (parseS b8).1) 256).isSome = false from h) ?_
    rw [e8, k1']; exact Bool.noConfusion
  · refine absurd (show ((((firstOf (bitAt (parseS b8).1) 256).getD 0 : Nat) : Int) == 0) = false from h) ?_
    rw [e8, k1']; exact Bool.noConfusion
  · refine absurd (show ((parseS b0).2 == 22) = false from h) ?_
    rw [k_b]; exact Bool.noConfusion
  · refine absurd (show decide (textB (parseS b8).1 = ⟨#[48, 45, 50, 44, 56]⟩) = false from h) ?_
    rw [e8, k_c, decide_eq_true rfl]; exact Bool.noConfusion
  · refine absurd (show ((parseS b8).2 == 0) = false from h) ?_
    rw [k_a]; exact Bool.noConfusion
def alA (p : Nat → Bool) (i : Int) : Env := [(4, .int .i64 fun _ => i), (3, .slice (some 1) 1 (fun _ => (((elems p i.toNat).map Int.ofNat).length : Int)) fun j => .int .i64 fun _ => ((elems p i.toNat).map Int.ofNat).getD (j ()).toNat 0), (1, .ptr 0 0)]
def alS (l : List Bool) : Store := [(1, .own 1 3), (0, .var (.arrB 256 fun _ => l))]
theorem elemsZ_succ (p : Nat → Bool) (n : Nat) : (elems p (n + 1)).map Int.ofNat = (elems p n).map Int.ofNat ++ (bif p n then [(n : Int)] else []) := by
  rw [elems_succ, List.map_append]
  cases p n <;> rfl
theorem refAll_ok (l : List Bool) : PF 20 (.cons (.arrB 256 fun _ => l) .nil) (Sh.mkL 1 (.int .i64) fun _ => (elems (fun i => l.getD i false) 256).map Int.ofNat) := by
  refine (⟨Tryd.func20, rfl, rfl, rfl, ⟨rfl, rfl⟩, ok _⟩ : FN 20 Tryd.f20).tree (mkO_ok F0_ok) false 20 rfl ?_
  conv => arg 5; cbv
  refine run_own (A := _) 3 1 3 (.int .i64 fun _ => 0) (by rfl) (by rfl) (by rfl) ?_
  refine run_inv (ι := Int) (fun i => (256 - i).toNat) (fun i => 0 ≤ i ∧ i ≤ 256) (alA fun i => l.getD i false) (fun _ => alS l) 2 0 (fun i => i) (by rfl) (by rfl) ⟨by omega, by omega⟩ ?_ ?_ ?_
  · intro i hi ih
    refine explore_ok (ok _) (mkO_ok F0_ok) (u := false) 20 _ rfl ?_
    conv => arg 5; cbv
    refine ⟨fun h => ?_, fun h => ?_⟩
    · have h : i < 256 := by simpa using h
      have hw : IntKind.i64.wrap (i + 1) = i + 1 := IntWalk.i64_in _ ⟨by omega, by omega⟩
      have hz := elemsZ_succ (fun i => l.getD i false) i.toNat
      have hlen : ((elems (fun i => l.getD i false) i.toNat).map Int.ofNat).length ≤ 256 := by
        rw [List.length_map, elems_len]
        have := cnt_le (fun i => l.getD i false) i.toNat
        omega
      rw [show i.toNat + 1 = (i + 1).toNat by omega] at hz
      refine ⟨⟨⟨hi.1, h⟩, ⟨hi.1, h⟩, trivial⟩, fun h2 => ⟨⟨⟨by show (0 : Int) < 1; omega, ?_⟩, trivial⟩, ?_⟩, fun h2 => ?_⟩
      · show ((((elems (fun i => l.getD i false) i.toNat).map Int.ofNat).length : Int) + 1) * 8 ≤ 140737488355328
        omega
      · have h2 : l.getD i.toNat false = true := h2
        rw [h2, cond_true, show ((i.toNat : Nat) : Int) = i by omega] at hz
        refine ih (i + 1) ren21 ⟨by omega, by omega⟩ (by omega) (by rfl) ⟨⟨rfl, hw⟩, ?_, impP_refl _, trivial⟩ ⟨⟨rfl, rfl⟩, impP_refl _, trivial⟩
        show impP _ (PV.slice (some 2) 1 (fun _ => (((elems (fun i => l.getD i false) (i + 1).toNat).map Int.ofNat).length : Int)) fun j => .int .i64 fun _ => ((elems (fun i => l.getD i false) (i + 1).toNat).map Int.ofNat).getD (j ()).toNat 0)
        rw [hz]
        exact push_imp (.int .i64) (some 2) 1 ((elems (fun i => l.getD i false) i.toNat).map Int.ofNat) i
      · have h2 : l.getD i.toNat false = false := h2
        rw [h2, cond_false, List.append_nil] at hz
        refine ih (i + 1) (fun i => i) ⟨by omega, by omega⟩ (by omega) (by rfl) ⟨⟨rfl, hw⟩, ?_, impP_refl _, trivial⟩ ⟨⟨rfl, rfl⟩, impP_refl _, trivial⟩
        show impP _ (PV.slice (some 1) 1 (fun _ => (((elems (fun i => l.getD i false) (i + 1).toNat).map Int.ofNat).length : Int)) fun j => .int .i64 fun _ => ((elems (fun i => l.getD i false) (i + 1).toNat).map Int.ofNat).getD (j ()).toNat 0)
        rw [hz]
        exact impP_refl _
    · have h : ¬ i < 256 := by simpa using h
      have e : i = 256 := by omega
      subst e
      exact ⟨rfl, impP_refl _⟩
  · exact ⟨impP_refl _, ⟨.inr rfl, rfl, rfl, fun j h0 h1 => absurd h1 (by show ¬ j < 0; omega)⟩, impP_refl _, trivial⟩
  · exact ⟨⟨rfl, rfl⟩, impP_refl _, trivial⟩
end Go.Proofs.YtdikfhjpnfffnabDoor
