/- SETS OF PROCESSORS: the document's lists. -/
import Derived.Test.YtdikfhjpnfffnabDoorBase
import Derived.Test.YtdikfhjpnfffnabDoorGc
set_option maxRecDepth 2000
set_option linter.unusedVariables false
set_option linter.unusedSimpArgs false
set_option linter.unusedVariables false
set_option linter.unusedSimpArgs false
namespace Go.Proofs.YtdikfhjpnfffnabDoor
open Go Go.Abs Go.Proofs
def ofA (i : Int) : Env := [(4, .int .i64 fun _ => i), (3, .ptr 2 0), (2, .ptr 1 0), (1, .ptr 0 0)]
def ofS (p : Nat → Bool) (i : Int) : Store := [(0, .var (.arrI .u64 4 fun _ => ofL p i.toNat)), (1, .var (.arrB 256 fun _ => List.replicate 256 false)), (2, .var (.arrB 256 fun _ => upTo p 256 i.toNat))]
theorem refOf_ok (p : Nat → Bool) : PF 12 (.cons (.arrI .u64 4 fun _ => setOf p) .nil) (.arrB 256 fun _ => (List.range 256).map p) := by
  refine (⟨Tryd.func12, rfl, rfl, rfl, ⟨rfl, rfl⟩, ok _⟩ : FN 12 Tryd.f12).tree (mkO_ok F0_ok) false 20 rfl ?_
  conv => arg 5; cbv
  refine run_inv (ι := Int) (fun i => (256 - i).toNat) (fun i => 0 ≤ i ∧ i ≤ 256) ofA (ofS p) 3 0 (fun i => i) (by rfl) (by rfl) ⟨by omega, by omega⟩ ?_ ?_ ?_
  · intro i hi ih
    obtain ⟨m, rfl⟩ : ∃ m : Nat, i = m := ⟨i.toNat, by omega⟩
    have e1 : (m : Int).tdiv 64 = ((m / 64 : Nat) : Int) := tdiv_nat m 64
    have e3 : m < 256 → IntKind.i64.wrap ((m : Int).tdiv 64) = ((m / 64 : Nat) : Int) := fun h => by rw [e1]; exact i64_nat (by omega)
    refine explore_ok (ok _) (mkO_ok F0_ok) (u := false) 20 _ rfl ?_
    conv => arg 5; cbv
    refine ⟨fun h => ?_, fun h => ?_⟩
    · simp only [decide_eq_true_eq, Int.ofNat_eq_natCast, cast_fold] at h
      have hm : m < 256 := by omega
      have hw : IntKind.i64.wrap ((m : Int) + 1) = m + 1 := IntWalk.i64_in _ ⟨by omega, by omega⟩
      have hb := ofW_bit p m
      have hlt := ofW_lt p m (m / 64)
      refine ⟨by simp only [e3 hm]; (repeat' (first | exact trivial | exact okSet_setOf _ | omega | (dsimp only; omega) | (dsimp; omega) | ((try dsimp only); (try simp only [cast_fold, Int.ofNat_eq_natCast]); omega) | refine ⟨?_, ?_⟩ | (show drawOK _ _ = true; conv => lhs; cbv) | decide | assumption | fail)), ih ((m : Int) + 1) (fun i => i) ⟨by omega, by omega⟩ (by omega) (by rfl) ?_ ⟨?_, impP_refl _, ?_, trivial⟩⟩
      · (repeat' (first | exact trivial | rfl | assumption | exact impP_refl _ | refine ⟨?_, ?_⟩ | fail))
      · refine ⟨rfl, rfl, ?_⟩
        show (ofL p (m : Int).toNat).set (IntKind.i64.wrap ((m : Int).tdiv 64)).toNat (IntKind.u64.wrap (((ofL p (m : Int).toNat).getD (IntKind.i64.wrap ((m : Int).tdiv 64)).toNat 0).tdiv 2)) = ofL p ((m : Int) + 1).toNat
        rw [e3 hm, Int.toNat_natCast, Int.toNat_natCast, ofL_get (by omega), show ((m : Int) + 1).toNat = m + 1 by omega, tdiv2, u64_wrap (by omega), ofL_next hm]
      · refine ⟨rfl, ?_⟩
        show (upTo p 256 (m : Int).toNat).set (m : Int).toNat (((ofL p (m : Int).toNat).getD (IntKind.i64.wrap ((m : Int).tdiv 64)).toNat 0).tmod 2 == 1) = upTo p 256 ((m : Int) + 1).toNat
        rw [e3 hm, Int.toNat_natCast, Int.toNat_natCast, ofL_get (by omega), show ((m : Int) + 1).toNat = m + 1 by omega, tmod2, ← upTo_set hm]
        congr 1
        rw [Bool.eq_iff_iff, beq_iff_eq]
        cases hp : p m <;> rw [hp] at hb <;> simp at hb ⊢ <;> omega
    · simp only [decide_eq_false_iff_not, Int.ofNat_eq_natCast, cast_fold] at h
      have hm : m = 256 := by omega
      subst hm
      exact ⟨rfl, rfl, upTo_full p 256⟩
  · (repeat' (first | exact trivial | rfl | assumption | exact impP_refl _ | refine ⟨?_, ?_⟩ | fail))
  · exact ⟨⟨rfl, rfl, (ofL_zero p).symm⟩, impP_refl _, ⟨rfl, (upTo_zero p 256).symm⟩, trivial⟩
def seS (p : Nat → Bool) (l : List Bool) (i : Int) : Store := [(0, .var (.arrB 256 fun _ => l)), (1, .var (.arrI .u64 4 fun _ => List.replicate 4 0)), (2, .var (.arrI .u64 4 fun _ => ofL p (i + 1).toNat))]
theorem refSet_ok (l : List Bool) : PF 14 (.cons (.arrB 256 fun _ => l) .nil) (.arrI .u64 4 fun _ => setOf fun i => l.getD i false) := by
  refine (⟨Tryd.func14, rfl, rfl, rfl, ⟨rfl, rfl⟩, ok _⟩ : FN 14 Tryd.f14).tree (mkO_ok F0_ok) false 20 rfl ?_
  conv => arg 5; cbv
  refine run_inv (ι := Int) (fun i => (i + 1).toNat) (fun i => -1 ≤ i ∧ i ≤ 255) ofA (seS (fun i => l.getD i false) l) 3 255 (fun i => i) (by rfl) (by rfl) ⟨by omega, by omega⟩ ?_ ?_ ?_
  · intro i hi ih
    refine explore_ok (ok _) (mkO_ok F0_ok) (u := false) 20 _ rfl ?_
    conv => arg 5; cbv
    refine ⟨fun h => ?_, fun h => ?_⟩
    · simp only [decide_eq_true_eq, Int.ofNat_eq_natCast, cast_fold] at h
      obtain ⟨m, rfl⟩ : ∃ m : Nat, i = m := ⟨i.toNat, by omega⟩
      have hm : m < 256 := by omega
      have e1 : (m : Int).tdiv 64 = ((m / 64 : Nat) : Int) := tdiv_nat m 64
      have e3 : IntKind.i64.wrap ((m : Int).tdiv 64) = ((m / 64 : Nat) : Int) := by rw [e1]; exact i64_nat (by omega)
      have hw : IntKind.i64.wrap ((m : Int) - 1) = m - 1 := IntWalk.i64_in _ ⟨by omega, by omega⟩
      have hb := ofW_bit (fun i => l.getD i false) m
      have hlt := ofW_lt (fun i => l.getD i false) m (m / 64)
      have hlen : (ofL (fun i => l.getD i false) (m + 1)).length = 4 := rfl
      have hg : ∀ x : Int, ((ofL (fun i => l.getD i false) (m + 1)).set (m / 64) x).getD (m / 64) 0 = x := fun x => by
        rw [List.getD_eq_getElem?_getD, List.getElem?_set_self (by omega)]; rfl
      refine ⟨by simp only [e3]; (repeat' (first | exact trivial | exact okSet_setOf _ | omega | (dsimp only; omega) | (dsimp; omega) | ((try dsimp only); (try simp only [cast_fold, Int.ofNat_eq_natCast]); omega) | refine ⟨?_, ?_⟩ | (show drawOK _ _ = true; conv => lhs; cbv) | decide | assumption | fail)), fun h2 => ?_, fun h2 => ?_⟩
      · have h2 : l.getD m false = true := h2
        simp only [h2, if_true] at hb
        refine ⟨by simp only [e3]; (repeat' (first | exact trivial | exact okSet_setOf _ | omega | (dsimp only; omega) | (dsimp; omega) | ((try dsimp only); (try simp only [cast_fold, Int.ofNat_eq_natCast]); omega) | refine ⟨?_, ?_⟩ | (show drawOK _ _ = true; conv => lhs; cbv) | decide | assumption | fail)), ih ((m : Int) - 1) (fun i => i) ⟨by omega, by omega⟩ (by omega) (by rfl) ?_ ⟨impP_refl _, impP_refl _, ?_, trivial⟩⟩
        · (repeat' (first | exact trivial | rfl | assumption | exact impP_refl _ | refine ⟨?_, ?_⟩ | fail))
        · refine ⟨rfl, rfl, ?_⟩
          show (List.set (List.set (ofL (fun i => l.getD i false) ((m : Int) + 1).toNat) (IntKind.i64.wrap ((m : Int).tdiv 64)).toNat (IntKind.u64.wrap ((ofL (fun i => l.getD i false) ((m : Int) + 1).toNat).getD (IntKind.i64.wrap ((m : Int).tdiv 64)).toNat 0 * 2))) (IntKind.i64.wrap ((m : Int).tdiv 64)).toNat
            (IntKind.u64.wrap ((List.set (ofL (fun i => l.getD i false) ((m : Int) + 1).toNat) (IntKind.i64.wrap ((m : Int).tdiv 64)).toNat (IntKind.u64.wrap ((ofL (fun i => l.getD i false) ((m : Int) + 1).toNat).getD (IntKind.i64.wrap ((m : Int).tdiv 64)).toNat 0 * 2))).getD (IntKind.i64.wrap ((m : Int).tdiv 64)).toNat 0 + 1))) = ofL (fun i => l.getD i false) ((m : Int) - 1 + 1).toNat
          rw [e3, Int.toNat_natCast, show ((m : Int) + 1).toNat = m + 1 by omega, show ((m : Int) - 1 + 1).toNat = m by omega, ofL_get (by omega), hg, List.set_set]
          rw [show ((ofW (fun i => l.getD i false) (m + 1) (m / 64) : Nat) : Int) * 2 = ((2 * ofW (fun i => l.getD i false) (m + 1) (m / 64) : Nat) : Int) by omega, u64_wrap (by omega)]
          rw [show ((2 * ofW (fun i => l.getD i false) (m + 1) (m / 64) : Nat) : Int) + 1 = ((ofW (fun i => l.getD i false) m (m / 64) : Nat) : Int) by omega, u64_wrap (by omega), ofL_back hm]
      · have h2 : l.getD m false = false := h2
        simp only [h2, Bool.false_eq_true, if_false, Nat.add_zero] at hb
        refine ih ((m : Int) - 1) (fun i => i) ⟨by omega, by omega⟩ (by omega) (by rfl) ?_ ⟨impP_refl _, impP_refl _, ?_, trivial⟩
        · (repeat' (first | exact trivial | rfl | assumption | exact impP_refl _ | refine ⟨?_, ?_⟩ | fail))
        · refine ⟨rfl, rfl, ?_⟩
          show List.set (ofL (fun i => l.getD i false) ((m : Int) + 1).toNat) (IntKind.i64.wrap ((m : Int).tdiv 64)).toNat (IntKind.u64.wrap ((ofL (fun i => l.getD i false) ((m : Int) + 1).toNat).getD (IntKind.i64.wrap ((m : Int).tdiv 64)).toNat 0 * 2)) = ofL (fun i => l.getD i false) ((m : Int) - 1 + 1).toNat
          rw [e3, Int.toNat_natCast, show ((m : Int) + 1).toNat = m + 1 by omega, show ((m : Int) - 1 + 1).toNat = m by omega, ofL_get (by omega)]
          rw [show ((ofW (fun i => l.getD i false) (m + 1) (m / 64) : Nat) : Int) * 2 = ((ofW (fun i => l.getD i false) m (m / 64) : Nat) : Int) by omega, u64_wrap (by omega), ofL_back hm]
    · simp only [decide_eq_false_iff_not, Int.ofNat_eq_natCast, cast_fold] at h
      have hm : i = -1 := by omega
      subst hm
      exact ⟨rfl, rfl, rfl, ofL_zero _⟩
  · (repeat' (first | exact trivial | rfl | assumption | exact impP_refl _ | refine ⟨?_, ?_⟩ | fail))
  · (repeat' (first | exact trivial | rfl | assumption | exact impP_refl _ | refine ⟨?_, ?_⟩ | fail))
    exact (ofL_full _).symm
end Go.Proofs.YtdikfhjpnfffnabDoor
