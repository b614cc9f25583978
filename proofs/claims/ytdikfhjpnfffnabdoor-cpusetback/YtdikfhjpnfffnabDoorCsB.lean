/- SETS OF PROCESSORS: two sets word by word. -/
import Derived.Test.YtdikfhjpnfffnabDoorCsA
set_option maxRecDepth 2000
set_option linter.unusedVariables false
set_option linter.unusedSimpArgs false
set_option linter.unusedVariables false
set_option linter.unusedSimpArgs false
namespace Go.Proofs.YtdikfhjpnfffnabDoor
open Go Go.Abs Go.Proofs
def mix (f : Int → Int → Int) (a b : List Int) (i : Int) : List Int := (List.range 4).map fun (w : Nat) => if (w : Int) < i then f (a.getD w 0) (b.getD w 0) else a.getD w 0
theorem mix_set (f : Int → Int → Int) (a b : List Int) (ha : a.length = 4) (hb : b.length = 4) (i : Int) (h0 : 0 ≤ i) (h1 : i < 4) : (mix f a b i).set i.toNat (f ((mix f a b i).getD i.toNat 0) (b.getD i.toNat 0)) = mix f a b (i + 1) := by
  rw [set_four ha, set_four hb]
  have : i = 0 ∨ i = 1 ∨ i = 2 ∨ i = 3 := by omega
  rcases this with rfl | rfl | rfl | rfl <;> simp [mix, List.range, List.range.loop]
theorem mix_0 (f : Int → Int → Int) (a b : List Int) (ha : a.length = 4) : mix f a b 0 = a := by
  rw [set_four ha]
  simp [mix, List.range, List.range.loop]
theorem mix_4 (f : Int → Int → Int) (p q r : Nat → Bool) (h : ∀ w, f (W p w) (W q w) = W r w) : mix f (setOf p) (setOf q) 4 = setOf r := by
  simp [mix, List.range, List.range.loop, setOf, h]
def eA (fn : Nat) (i : Int) : Env := [(8, .int .i64 fun _ => i), (6, .ptr 2 0), (4, .ptr 1 0), (3, .ptr 0 0), (2, .func (.func fn) .nil .nil)]
def eS (f : Int → Int → Int) (p q : Nat → Bool) (i : Int) : Store := [(0, .var (.arrI .u64 4 fun _ => mix f (setOf p) (setOf q) i)), (1, .var (.arrI .u64 4 fun _ => setOf q)), (2, .var (.arrI .u64 4 fun _ => List.replicate 4 0))]
theorem each_Both (p q : Nat → Bool) : PF 36 (.cons (.arrI .u64 4 fun _ => setOf p) (.cons (.arrI .u64 4 fun _ => setOf q) (.cons (.func (.func 38) .nil .nil) .nil))) (.arrI .u64 4 fun _ => setOf fun i => p i && q i) := by
  refine (⟨Tryd.func36, rfl, rfl, rfl, ⟨rfl, rfl⟩, ok _⟩ : FN 36 Tryd.f36).tree (mkO_ok Fa3_ok) false 40 rfl ?_
  conv => arg 5; cbv
  refine run_inv (ι := Int) (fun i => (4 - i).toNat) (fun i => 0 ≤ i ∧ i ≤ 4) (eA 38) (eS (bitAnd .u64) p q) 3 0 (fun i => i) (by rfl) (by rfl) ⟨by omega, by omega⟩ ?_ ?_ ?_
  · intro i hi ih
    refine explore_ok (ok _) (mkO_ok Fa3_ok) (u := false) 20 _ rfl ?_
    conv => arg 5; cbv
    refine ⟨fun h => ?_, fun h => ?_⟩
    · simp only [decide_eq_true_eq] at h
      have hw : IntKind.i64.wrap (i + 1) = i + 1 := IntWalk.i64_in _ ⟨by omega, by omega⟩
      refine ⟨?_, ih (i + 1) (fun i => i) ⟨by omega, by omega⟩ (by omega) (by rfl) ?_ ?_⟩
      · exact ⟨⟨hi.1, h⟩, ⟨hi.1, h⟩, ⟨hi.1, h⟩, ⟨hi.1, h⟩, ⟨hi.1, h⟩, ⟨hi.1, h⟩, by show drawOK _ _ = true; conv => lhs; cbv, trivial⟩
      · (repeat' (first | exact trivial | rfl | assumption | exact impP_refl _ | refine ⟨?_, ?_⟩ | fail))
      · exact ⟨⟨rfl, rfl, mix_set _ _ _ rfl rfl i hi.1 h⟩, ⟨rfl, rfl, rfl⟩, ⟨rfl, rfl, rfl⟩, trivial⟩
    · simp only [decide_eq_false_iff_not] at h
      obtain rfl : i = 4 := by omega
      exact ⟨rfl, rfl, rfl, mix_4 _ p q _ (W_and p q)⟩
  · (repeat' (first | exact trivial | rfl | assumption | exact impP_refl _ | refine ⟨?_, ?_⟩ | fail))
  · exact ⟨⟨rfl, rfl, (mix_0 _ _ _ rfl).symm⟩, ⟨rfl, rfl, rfl⟩, ⟨rfl, rfl, rfl⟩, trivial⟩
theorem each_Union (p q : Nat → Bool) : PF 36 (.cons (.arrI .u64 4 fun _ => setOf p) (.cons (.arrI .u64 4 fun _ => setOf q) (.cons (.func (.func 37) .nil .nil) .nil))) (.arrI .u64 4 fun _ => setOf fun i => p i || q i) := by
  refine (⟨Tryd.func36, rfl, rfl, rfl, ⟨rfl, rfl⟩, ok _⟩ : FN 36 Tryd.f36).tree (mkO_ok Fa3_ok) false 40 rfl ?_
  conv => arg 5; cbv
  refine run_inv (ι := Int) (fun i => (4 - i).toNat) (fun i => 0 ≤ i ∧ i ≤ 4) (eA 37) (eS (bitOr .u64) p q) 3 0 (fun i => i) (by rfl) (by rfl) ⟨by omega, by omega⟩ ?_ ?_ ?_
  · intro i hi ih
    refine explore_ok (ok _) (mkO_ok Fa3_ok) (u := false) 20 _ rfl ?_
    conv => arg 5; cbv
    refine ⟨fun h => ?_, fun h => ?_⟩
    · simp only [decide_eq_true_eq] at h
      have hw : IntKind.i64.wrap (i + 1) = i + 1 := IntWalk.i64_in _ ⟨by omega, by omega⟩
      refine ⟨?_, ih (i + 1) (fun i => i) ⟨by omega, by omega⟩ (by omega) (by rfl) ?_ ?_⟩
      · exact ⟨⟨hi.1, h⟩, ⟨hi.1, h⟩, ⟨hi.1, h⟩, ⟨hi.1, h⟩, ⟨hi.1, h⟩, ⟨hi.1, h⟩, by show drawOK _ _ = true; conv => lhs; cbv, trivial⟩
      · (repeat' (first | exact trivial | rfl | assumption | exact impP_refl _ | refine ⟨?_, ?_⟩ | fail))
      · exact ⟨⟨rfl, rfl, mix_set _ _ _ rfl rfl i hi.1 h⟩, ⟨rfl, rfl, rfl⟩, ⟨rfl, rfl, rfl⟩, trivial⟩
    · simp only [decide_eq_false_iff_not] at h
      obtain rfl : i = 4 := by omega
      exact ⟨rfl, rfl, rfl, mix_4 _ p q _ (W_or p q)⟩
  · (repeat' (first | exact trivial | rfl | assumption | exact impP_refl _ | refine ⟨?_, ?_⟩ | fail))
  · exact ⟨⟨rfl, rfl, (mix_0 _ _ _ rfl).symm⟩, ⟨rfl, rfl, rfl⟩, ⟨rfl, rfl, rfl⟩, trivial⟩
theorem each_Less (p q : Nat → Bool) : PF 36 (.cons (.arrI .u64 4 fun _ => setOf p) (.cons (.arrI .u64 4 fun _ => setOf q) (.cons (.func (.func 39) .nil .nil) .nil))) (.arrI .u64 4 fun _ => setOf fun i => p i && !q i) := by
  refine (⟨Tryd.func36, rfl, rfl, rfl, ⟨rfl, rfl⟩, ok _⟩ : FN 36 Tryd.f36).tree (mkO_ok Fa3_ok) false 40 rfl ?_
  conv => arg 5; cbv
  refine run_inv (ι := Int) (fun i => (4 - i).toNat) (fun i => 0 ≤ i ∧ i ≤ 4) (eA 39) (eS (bitAndNot .u64) p q) 3 0 (fun i => i) (by rfl) (by rfl) ⟨by omega, by omega⟩ ?_ ?_ ?_
  · intro i hi ih
    refine explore_ok (ok _) (mkO_ok Fa3_ok) (u := false) 20 _ rfl ?_
    conv => arg 5; cbv
    refine ⟨fun h => ?_, fun h => ?_⟩
    · simp only [decide_eq_true_eq] at h
      have hw : IntKind.i64.wrap (i + 1) = i + 1 := IntWalk.i64_in _ ⟨by omega, by omega⟩
      refine ⟨?_, ih (i + 1) (fun i => i) ⟨by omega, by omega⟩ (by omega) (by rfl) ?_ ?_⟩
      · exact ⟨⟨hi.1, h⟩, ⟨hi.1, h⟩, ⟨hi.1, h⟩, ⟨hi.1, h⟩, ⟨hi.1, h⟩, ⟨hi.1, h⟩, by show drawOK _ _ = true; conv => lhs; cbv, trivial⟩
      · (repeat' (first | exact trivial | rfl | assumption | exact impP_refl _ | refine ⟨?_, ?_⟩ | fail))
      · exact ⟨⟨rfl, rfl, mix_set _ _ _ rfl rfl i hi.1 h⟩, ⟨rfl, rfl, rfl⟩, ⟨rfl, rfl, rfl⟩, trivial⟩
    · simp only [decide_eq_false_iff_not] at h
      obtain rfl : i = 4 := by omega
      exact ⟨rfl, rfl, rfl, mix_4 _ p q _ (W_andNot p q)⟩
  · (repeat' (first | exact trivial | rfl | assumption | exact impP_refl _ | refine ⟨?_, ?_⟩ | fail))
  · exact ⟨⟨rfl, rfl, (mix_0 _ _ _ rfl).symm⟩, ⟨rfl, rfl, rfl⟩, ⟨rfl, rfl, rfl⟩, trivial⟩
def shSet : Sh := .arrI .u64 4
noncomputable def Fb1 : Table := addS 36 (.cons shSet (.cons shSet (.cons (.fn 38) .nil))) (fun a b => (.arrI .u64 4 fun _ => setOf fun i => bitAt (a ()) i && bitAt (b ()) i, [fun _ => okSet (a ()) ∧ okSet (b ())]))
  (addS 36 (.cons shSet (.cons shSet (.cons (.fn 37) .nil))) (fun a b => (.arrI .u64 4 fun _ => setOf fun i => bitAt (a ()) i || bitAt (b ()) i, [fun _ => okSet (a ()) ∧ okSet (b ())]))
  (addS 36 (.cons shSet (.cons shSet (.cons (.fn 39) .nil))) (fun a b => (.arrI .u64 4 fun _ => setOf fun i => bitAt (a ()) i && !bitAt (b ()) i, [fun _ => okSet (a ()) ∧ okSet (b ())])) Fa4))
theorem setP_bitAt {l : Unit → List Int} (h : okSet (l ())) : (PV.arrI .u64 4 fun _ => setOf (bitAt (l ()))) = .arrI .u64 4 l := by rw [setOf_bitAt h]
theorem Fb1_ok : TableOK Tryd.prog G0 Fb1 := by
  refine addS_ok (⟨Tryd.func36, rfl, rfl, rfl, ⟨rfl, rfl⟩, ok _⟩ : FN 36 Tryd.f36).callable (fun a _ b _ h => ?_) (addS_ok (⟨Tryd.func36, rfl, rfl, rfl, ⟨rfl, rfl⟩, ok _⟩ : FN 36 Tryd.f36).callable (fun a _ b _ h => ?_) (addS_ok (⟨Tryd.func36, rfl, rfl, rfl, ⟨rfl, rfl⟩, ok _⟩ : FN 36 Tryd.f36).callable (fun a _ b _ h => ?_) Fa4_ok))
  · have := each_Both (bitAt (a ())) (bitAt (b ()))
    rw [setP_bitAt h.1.1, setP_bitAt h.1.2] at this
    exact this
  · have := each_Union (bitAt (a ())) (bitAt (b ()))
    rw [setP_bitAt h.1.1, setP_bitAt h.1.2] at this
    exact this
  · have := each_Less (bitAt (a ())) (bitAt (b ()))
    rw [setP_bitAt h.1.1, setP_bitAt h.1.2] at this
    exact this
noncomputable def Fb2 : Table := addA 15 (ctx Tryd.f15) (mkO Fb1) (body Tryd.f15) 8 (addA 13 (ctx Tryd.f13) (mkO Fb1) (body Tryd.f13) 8 (addA 16 (ctx Tryd.f16) (mkO Fb1) (body Tryd.f16) 8 Fb1))
theorem Fb2_ok : TableOK Tryd.prog G0 Fb2 := addA_ok (⟨Tryd.func15, rfl, rfl, rfl, ⟨rfl, rfl⟩, ok _⟩ : FN 15 Tryd.f15) (mkO_ok Fb1_ok) (addA_ok (⟨Tryd.func13, rfl, rfl, rfl, ⟨rfl, rfl⟩, ok _⟩ : FN 13 Tryd.f13) (mkO_ok Fb1_ok) (addA_ok (⟨Tryd.func16, rfl, rfl, rfl, ⟨rfl, rfl⟩, ok _⟩ : FN 16 Tryd.f16) (mkO_ok Fb1_ok) Fb1_ok))
end Go.Proofs.YtdikfhjpnfffnabDoor
