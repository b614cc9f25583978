/- SETS OF PROCESSORS: loops over a set. -/
import Derived.Test.YtdikfhjpnfffnabDoorCsC
import Derived.Test.YtdikfhjpnfffnabDoorGc
set_option maxRecDepth 2000
set_option linter.unusedVariables false
set_option linter.unusedSimpArgs false
set_option linter.unusedVariables false
set_option linter.unusedSimpArgs false
namespace Go.Proofs.YtdikfhjpnfffnabDoor
open Go Go.Abs Go.Proofs
def cA (p : Nat → Bool) (i : Int) : Env := [(7, .int .i64 fun _ => i), (6, .arrI .u64 4 fun _ => setOf p), (3, .int .i64 fun _ => ((cnt p (64 * i.toNat) : Nat) : Int)), (1, .ptr 0 0)]
def cS (p : Nat → Bool) : Store := [(0, .var (.arrI .u64 4 fun _ => setOf p))]
theorem count_ok (p : Nat → Bool) : PF 19 (.cons (.arrI .u64 4 fun _ => setOf p) .nil) (.int .i64 fun _ => ((cnt p 256 : Nat) : Int)) := by
  refine (⟨Tryd.func19, rfl, rfl, rfl, ⟨rfl, rfl⟩, ok _⟩ : FN 19 Tryd.f19).tree (mkO_ok Fc1_ok) false 40 rfl ?_
  conv => arg 5; cbv
  refine run_inv (ι := Int) (fun i => (4 - i).toNat) (fun i => 0 ≤ i ∧ i ≤ 4) (cA p) (fun _ => cS p) 1 0 (fun i => i) (by rfl) (by rfl) ⟨by omega, by omega⟩ ?_ ?_ ?_
  · intro i hi ih
    refine explore_ok (ok _) (mkO_ok Fc1_ok) (u := false) 20 _ rfl ?_
    conv => arg 5; cbv
    refine ⟨fun h => ?_, fun h => ?_⟩
    · simp only [decide_eq_true_eq, Int.ofNat_eq_natCast, cast_fold] at h
      have hw : IntKind.i64.wrap (i + 1) = i + 1 := IntWalk.i64_in _ ⟨by omega, by omega⟩
      have hr : 0 ≤ (setOf p).getD i.toNat 0 ∧ (setOf p).getD i.toNat 0 < 18446744073709551616 := (okSet_setOf p).2 _ (by omega)
      refine ⟨by (repeat' (first | exact trivial | exact okSet_setOf _ | omega | (dsimp only; omega) | (dsimp; omega) | ((try dsimp only); (try simp only [cast_fold, Int.ofNat_eq_natCast]); omega) | refine ⟨?_, ?_⟩ | (show drawOK _ _ = true; conv => lhs; cbv) | decide | assumption | fail)), ih (i + 1) (fun i => i) ⟨by omega, by omega⟩ (by omega) (by rfl) ?_ ?_⟩
      · refine ⟨⟨rfl, hw⟩, ⟨rfl, rfl, rfl⟩, ⟨rfl, ?_⟩, rfl, trivial⟩
        show IntKind.i64.wrap (((cnt p (64 * i.toNat) : Nat) : Int) + ((cnt ((setOf p).getD i.toNat 0).toNat.testBit 64 : Nat) : Int)) = ((cnt p (64 * (i + 1).toNat) : Nat) : Int)
        rw [setOf_get (by omega), W_cnt, show 64 * (i + 1).toNat = 64 * i.toNat + 64 by omega, cnt_add]
        have h1 := cnt_le p (64 * i.toNat)
        have h2 := cnt_le (fun j => p (64 * i.toNat + j)) 64
        rw [← Int.natCast_add, i64_nat (by omega)]
      · (repeat' (first | exact trivial | rfl | assumption | exact impP_refl _ | refine ⟨?_, ?_⟩ | fail))
    · simp only [decide_eq_false_iff_not, Int.ofNat_eq_natCast, cast_fold] at h
      obtain rfl : i = 4 := by omega
      (repeat' (first | exact trivial | rfl | assumption | exact impP_refl _ | refine ⟨?_, ?_⟩ | fail))
  · (repeat' (first | exact trivial | rfl | assumption | exact impP_refl _ | refine ⟨?_, ?_⟩ | fail))
  · (repeat' (first | exact trivial | rfl | assumption | exact impP_refl _ | refine ⟨?_, ?_⟩ | fail))
def oneOf (l : List Int) (k : Nat) (i : Nat) : Bool := (l.take k).contains (i : Int)
def oP (l : List Int) : PV := .slice none 1 (fun _ => (l.length : Int)) fun j => .int .i64 fun _ => l.getD (j ()).toNat 0
def oA (l : List Int) (i : Int) : Env := [(8, .int .i64 fun _ => i), (7, .int .i64 fun _ => (l.length : Int)), (6, .slice none 1 (fun _ => (l.length : Int)) fun j => .int .i64 fun _ => l.getD (j ()).toNat 0), (3, .ptr 1 0), (2, .ptr 0 0)]
def oS (l : List Int) (i : Int) : Store := [(0, .var (.arrI .u64 4 fun _ => List.replicate 4 0)), (1, .var (.arrI .u64 4 fun _ => setOf (oneOf l i.toNat)))]
theorem oneOf_step {l : List Int} {i : Int} (h0 : 0 ≤ i) (h : i < l.length) : setOf (withN (bitAt (setOf (oneOf l i.toNat))) (l.getD i.toNat 0)) = setOf (oneOf l (i + 1).toNat) := by
  refine setOf_ext fun k hk => ?_
  simp only [withN]
  rw [bitAt_setOf hk]
  unfold oneOf
  rw [show (i + 1).toNat = i.toNat + 1 by omega, List.take_add_one, List.getElem?_eq_getElem (by omega), List.getD_eq_getElem?_getD, List.getElem?_eq_getElem (by omega)]
  rw [Bool.eq_iff_iff]
  simp only [Bool.or_eq_true, List.contains_iff_mem, decide_eq_true_eq, Option.toList_some, List.mem_append, List.mem_singleton, Option.getD_some]
theorem of_ok (l : List Int) (hl : (l.length : Int) < 9223372036854775807) : PF 18 (.cons (oP l) .nil) (.arrI .u64 4 fun _ => setOf fun i => l.contains (i : Int)) := by
  refine (⟨Tryd.func18, rfl, rfl, rfl, ⟨rfl, rfl⟩, ok _⟩ : FN 18 Tryd.f18).tree (mkO_ok Fc1_ok) false 40 rfl ?_
  conv => arg 5; cbv
  refine run_inv (ι := Int) (fun i => (l.length - i).toNat) (fun i => 0 ≤ i ∧ i ≤ l.length) (oA l) (oS l) 2 0 (fun i => i) (by rfl) (by rfl) ⟨by omega, by omega⟩ ?_ ?_ ?_
  · intro i hi ih
    refine explore_ok (ok _) (mkO_ok Fc1_ok) (u := false) 20 _ rfl ?_
    conv => arg 5; cbv
    refine ⟨fun h => ?_, fun h => ?_⟩
    · simp only [decide_eq_true_eq, Int.ofNat_eq_natCast, cast_fold] at h
      have hw : IntKind.i64.wrap (i + 1) = i + 1 := IntWalk.i64_in _ ⟨by omega, by omega⟩
      refine ⟨?_, ih (i + 1) (fun i => i) ⟨by omega, by omega⟩ (by omega) (by rfl) ?_ ?_⟩
      · (repeat' (first | exact trivial | exact okSet_setOf _ | omega | (dsimp only; omega) | (dsimp; omega) | ((try dsimp only); (try simp only [cast_fold, Int.ofNat_eq_natCast]); omega) | refine ⟨?_, ?_⟩ | (show drawOK _ _ = true; conv => lhs; cbv) | decide | assumption | fail))
      · (repeat' (first | exact trivial | rfl | assumption | exact impP_refl _ | refine ⟨?_, ?_⟩ | fail))
      · exact ⟨⟨rfl, rfl, rfl⟩, ⟨rfl, rfl, oneOf_step hi.1 h⟩, trivial⟩
    · simp only [decide_eq_false_iff_not, Int.ofNat_eq_natCast, cast_fold] at h
      obtain rfl : i = l.length := by omega
      refine ⟨rfl, rfl, rfl, ?_⟩
      show setOf (oneOf l (l.length : Int).toNat) = _
      refine setOf_ext fun k hk => ?_
      simp [oneOf]
  · (repeat' (first | exact trivial | rfl | assumption | exact impP_refl _ | refine ⟨?_, ?_⟩ | fail))
  · refine ⟨⟨rfl, rfl, rfl⟩, ⟨rfl, rfl, ?_⟩, trivial⟩
    show [0, 0, 0, 0] = setOf (oneOf l 0)
    rw [← setOf_zero]
    refine setOf_ext fun k hk => ?_
    simp [oneOf]
def uA (p : Nat → Bool) (to : Int) : Env := [(5, .int .i64 fun _ => to), (2, .ptr 0 0), (0, .arrI .u64 4 fun _ => setOf p)]
theorem run_ok (p : Nat → Bool) (m : Nat) (hm : m < 256) : PF 32 (.cons (.arrI .u64 4 fun _ => setOf p) (.cons (.int .i64 fun _ => (m : Int)) .nil)) (.int .i64 fun _ => ((runEnd p m : Nat) : Int)) := by
  refine (⟨Tryd.func32, rfl, rfl, rfl, ⟨rfl, rfl⟩, ok _⟩ : FN 32 Tryd.f32).tree (mkO_ok Fc1_ok) false 40 rfl ?_
  conv => arg 5; cbv
  refine run_inv (ι := Int) (fun i => (256 - i).toNat) (fun i => 0 ≤ i ∧ i < 256 ∧ runEnd p i.toNat = runEnd p m) (uA p) (fun _ => cS p) 1 m (fun i => i) (by rfl) (by rfl) ⟨by omega, by omega, by simp⟩ ?_ ?_ ?_
  · intro i hi ih
    have hw : IntKind.i64.wrap (i + 1) = i + 1 := IntWalk.i64_in _ ⟨by omega, by omega⟩
    refine explore_ok (ok _) (mkO_ok Fc1_ok) (u := false) 20 _ rfl ?_
    conv => arg 5; cbv
    refine ⟨⟨okSet_setOf p, trivial⟩, fun h => ?_, fun h => ?_⟩
    · have h' : i + 1 < 256 ∧ p (i.toNat + 1) = true := by
        have h : hasN (bitAt (setOf p)) (IntKind.i64.wrap (i + 1)) = true := h
        rw [hw] at h
        simp only [hasN, Bool.and_eq_true, decide_eq_true_eq] at h
        rw [bitAt_setOf (by omega), show (i + 1).toNat = i.toNat + 1 by omega] at h
        exact ⟨h.1.2, h.2⟩
      refine ih (i + 1) (fun i => i) ⟨by omega, by omega, ?_⟩ (by omega) (by rfl) ?_ ?_
      · rw [show (i + 1).toNat = i.toNat + 1 by omega, ← runEnd_on (by omega) h'.2]; exact hi.2.2
      · (repeat' (first | exact trivial | rfl | assumption | exact impP_refl _ | refine ⟨?_, ?_⟩ | fail))
      · (repeat' (first | exact trivial | rfl | assumption | exact impP_refl _ | refine ⟨?_, ?_⟩ | fail))
    · have h' : ¬ (i.toNat + 1 < 256 ∧ p (i.toNat + 1) = true) := by
        rintro ⟨h1, h2⟩
        have h : hasN (bitAt (setOf p)) (IntKind.i64.wrap (i + 1)) = false := h
        rw [hw] at h
        simp only [hasN] at h
        rw [bitAt_setOf (by omega), show (i + 1).toNat = i.toNat + 1 by omega, h2] at h
        simp at h
        omega
      have := runEnd_stop h'
      rw [hi.2.2] at this
      exact ⟨rfl, rfl, show i = ((runEnd p m : Nat) : Int) by omega⟩
  · (repeat' (first | exact trivial | rfl | assumption | exact impP_refl _ | refine ⟨?_, ?_⟩ | fail))
  · (repeat' (first | exact trivial | rfl | assumption | exact impP_refl _ | refine ⟨?_, ?_⟩ | fail))
def lA (p : Nat → Bool) (i : Int) : Env := [(7, .int .i64 fun _ => i), (6, .arrI .u64 4 fun _ => setOf p), (3, .ff), (2, .int .i64 fun _ => 0), (1, .ptr 0 0)]
theorem least_ok (p : Nat → Bool) : PF 21 (.cons (.arrI .u64 4 fun _ => setOf p) .nil) (.tuple (.cons (.int .i64 fun _ => (((firstOf p 256).getD 0 : Nat) : Int)) (.cons (.bool fun _ => (firstOf p 256).isSome) .nil))) := by
  refine (⟨Tryd.func21, rfl, rfl, rfl, ⟨rfl, rfl⟩, ok _⟩ : FN 21 Tryd.f21).tree (mkO_ok Fc1_ok) false 40 rfl ?_
  conv => arg 5; cbv
  refine run_inv (ι := Int) (fun i => (4 - i).toNat) (fun i => 0 ≤ i ∧ i ≤ 4 ∧ firstOf p (64 * i.toNat) = none) (lA p) (fun _ => cS p) 1 0 (fun i => i) (by rfl) (by rfl) ⟨by omega, by omega, rfl⟩ ?_ ?_ ?_
  · intro i hi ih
    have hw : i < 4 → IntKind.i64.wrap (i + 1) = i + 1 := fun _ => IntWalk.i64_in _ ⟨by omega, by omega⟩
    refine explore_ok (ok _) (mkO_ok Fc1_ok) (u := false) 20 _ rfl ?_
    conv => arg 5; cbv
    refine ⟨fun h => ?_, fun h => ?_⟩
    · simp only [decide_eq_true_eq, Int.ofNat_eq_natCast, cast_fold] at h
      have e : (setOf p).getD i.toNat 0 = W p i.toNat := setOf_get (by omega)
      refine ⟨by (repeat' (first | exact trivial | exact okSet_setOf _ | omega | (dsimp only; omega) | (dsimp; omega) | ((try dsimp only); (try simp only [cast_fold, Int.ofNat_eq_natCast]); omega) | refine ⟨?_, ?_⟩ | (show drawOK _ _ = true; conv => lhs; cbv) | decide | assumption | fail)), fun h2 => ?_, fun h2 => ?_⟩
      · have hne : W p i.toNat ≠ 0 := by rw [← e]; simpa using h2
        cases hf : firstOf (fun j => p (64 * i.toNat + j)) 64 with
        | none =>
          exfalso; apply hne
          have : W p i.toNat = W (fun _ => false) i.toNat := W_ext fun j h1 h2 => by
            have := firstOf_none.1 hf (j - 64 * i.toNat) (by omega)
            rwa [show 64 * i.toNat + (j - 64 * i.toNat) = j by omega] at this
          rw [this, W_zero]
        | some k =>
          obtain ⟨k1, k2, k3⟩ := firstOf_some.1 hf
          have hl := lowI_eq (u := wd (fun j => p (64 * i.toNat + j)) 64) (k := k) (wd_lt _ _) (by rw [wd_bit]; simp [k1, k2]) (fun j hj => by rw [wd_bit, k3 j hj]; simp)
          have hl' : lowI ((setOf p).getD i.toNat 0) = ((2 ^ k - 1 : Nat) : Int) := by rw [e]; exact hl.1
          have hp : 2 ^ k ≤ 2 ^ 63 := Nat.pow_le_pow_right (by omega) (by omega)
          have hfirst : firstOf p 256 = some (64 * i.toNat + k) := firstOf_some.2 ⟨by omega, k2, fun j hj => by
            by_cases hj' : j < 64 * i.toNat
            · exact firstOf_none.1 hi.2.2 j hj'
            · have := k3 (j - 64 * i.toNat) (by omega)
              rwa [show 64 * i.toNat + (j - 64 * i.toNat) = j by omega] at this⟩
          refine ⟨⟨?_, trivial⟩, rfl, ⟨rfl, ?_⟩, ?_, rfl⟩
          · show 0 ≤ lowI ((setOf p).getD i.toNat 0) ∧ lowI ((setOf p).getD i.toNat 0) < 18446744073709551616
            rw [hl']; omega
          · show IntKind.i64.wrap (IntKind.i64.wrap (i * 64) + ((cnt (lowI ((setOf p).getD i.toNat 0)).toNat.testBit 64 : Nat) : Int)) = (((firstOf p 256).getD 0 : Nat) : Int)
            rw [hl', Int.toNat_natCast, cnt_pow (by omega), hfirst, IntWalk.i64_in (i * 64) ⟨by omega, by omega⟩, IntWalk.i64_in _ ⟨by omega, by omega⟩]
            simp only [Option.getD_some]
            omega
          · show (firstOf p 256).isSome = true
            rw [hfirst]; rfl
      · have h0 : W p i.toNat = 0 := by rw [← e]; simpa using h2
        refine ih (i + 1) (fun i => i) ⟨by omega, by omega, firstOf_none.2 fun j hj => ?_⟩ (by omega) (by rfl) ?_ ?_
        · by_cases hj' : j < 64 * i.toNat
          · exact firstOf_none.1 hi.2.2 j hj'
          · have : (wd (fun j => p (64 * i.toNat + j)) 64).testBit (j - 64 * i.toNat) = false := by
              have : wd (fun j => p (64 * i.toNat + j)) 64 = 0 := by unfold W at h0; omega
              rw [this, Nat.zero_testBit]
            rw [wd_bit] at this
            simpa [show j - 64 * i.toNat < 64 by omega, show 64 * i.toNat + (j - 64 * i.toNat) = j by omega] using this
        · have := hw h
          (repeat' (first | exact trivial | rfl | assumption | exact impP_refl _ | refine ⟨?_, ?_⟩ | fail))
        · (repeat' (first | exact trivial | rfl | assumption | exact impP_refl _ | refine ⟨?_, ?_⟩ | fail))
    · simp only [decide_eq_false_iff_not, Int.ofNat_eq_natCast, cast_fold] at h
      obtain ⟨h0, h4, hn⟩ := hi
      obtain rfl : i = 4 := by omega
      have hn : firstOf p 256 = none := hn
      refine ⟨rfl, ⟨rfl, ?_⟩, ?_, rfl⟩
      · show (0 : Int) = (((firstOf p 256).getD 0 : Nat) : Int)
        rw [hn]; rfl
      · show (firstOf p 256).isSome = false
        rw [hn]; rfl
  · (repeat' (first | exact trivial | rfl | assumption | exact impP_refl _ | refine ⟨?_, ?_⟩ | fail))
  · (repeat' (first | exact trivial | rfl | assumption | exact impP_refl _ | refine ⟨?_, ?_⟩ | fail))
noncomputable def Fd1 : Table := addS 19 (.cons shSet .nil) (fun a => (.int .i64 fun _ => ((cnt (bitAt (a ())) 256 : Nat) : Int), [fun _ => okSet (a ())]))
  (addS 18 (.cons (.slice 1 (.int .i64)) .nil) (fun l => (.arrI .u64 4 fun _ => setOf fun i => List.contains (α := Int) (l ()) (i : Int), [fun _ => (List.length (α := Int) (l ()) : Int) < 9223372036854775807]))
  (addS 32 (.cons shSet (.cons (.int .i64) .nil)) (fun a n => (.int .i64 fun _ => ((runEnd (bitAt (a ())) (n ()).toNat : Nat) : Int), [fun _ => okSet (a ()) ∧ 0 ≤ n () ∧ n () < 256]))
  (addS 21 (.cons shSet .nil) (fun a => (.tuple (.cons (.int .i64 fun _ => (((firstOf (bitAt (a ())) 256).getD 0 : Nat) : Int)) (.cons (.bool fun _ => (firstOf (bitAt (a ())) 256).isSome) .nil)), [fun _ => okSet (a ())])) Fc1)))
theorem Fd1_ok : TableOK Tryd.prog G0 Fd1 := by
  refine addS_ok (⟨Tryd.func19, rfl, rfl, rfl, ⟨rfl, rfl⟩, ok _⟩ : FN 19 Tryd.f19).callable (fun a _ h => ?_) (addS_ok (⟨Tryd.func18, rfl, rfl, rfl, ⟨rfl, rfl⟩, ok _⟩ : FN 18 Tryd.f18).callable (fun l h => of_ok (l ()) h.1) (addS_ok (⟨Tryd.func32, rfl, rfl, rfl, ⟨rfl, rfl⟩, ok _⟩ : FN 32 Tryd.f32).callable (fun a _ n h => ?_) (addS_ok (⟨Tryd.func21, rfl, rfl, rfl, ⟨rfl, rfl⟩, ok _⟩ : FN 21 Tryd.f21).callable (fun a _ h => ?_) Fc1_ok)))
  · have := count_ok (bitAt (a ()))
    rw [setP_bitAt h.1] at this
    exact this
  · have := run_ok (bitAt (a ())) (n ()).toNat (by have := h.1; omega)
    rw [setP_bitAt h.1.1, show (PV.int .i64 fun _ => ((n ()).toNat : Int)) = .int .i64 n by rw [Int.toNat_of_nonneg h.1.2.1]] at this
    exact this
  · have := least_ok (bitAt (a ()))
    rw [setP_bitAt h.1] at this
    exact this
end Go.Proofs.YtdikfhjpnfffnabDoor
