/- SETS OF PROCESSORS: without one. -/
import Derived.Test.YtdikfhjpnfffnabDoorCsG
set_option maxRecDepth 2000
set_option linter.unusedVariables false
set_option linter.unusedSimpArgs false
set_option linter.unusedVariables false
set_option linter.unusedSimpArgs false
namespace Go.Abs
theorem W_without {p : Nat → Bool} {m : Nat} (hm : m < 256) : bitAndNot .u64 (W p (m / 64)) ((2 ^ (m % 64) : Nat) : Int) = W (fun i => p i && !decide (i = m)) (m / 64) := by
  have hp : 2 ^ (m % 64) ≤ 2 ^ 63 := Nat.pow_le_pow_right (by omega) (by omega)
  unfold W
  rw [andNot_nat (W_nat p _) (by omega)]
  congr 1
  apply Nat.eq_of_testBit_eq
  intro i
  rw [wd_bit, wd_bit, wd_bit, Nat.testBit_two_pow]
  by_cases hi : i < 64
  · simp only [hi, decide_true, Bool.true_and]
    congr 2
    rw [Bool.eq_iff_iff]
    simp only [decide_eq_true_eq]
    omega
  · simp only [hi, decide_false, Bool.false_and]
end Go.Abs
namespace Go.Proofs.YtdikfhjpnfffnabDoor
open Go Go.Abs Go.Proofs
def woN (p : Nat → Bool) (n : Int) (i : Nat) : Bool := p i && !decide ((i : Int) = n)
theorem without_ok (p : Nat → Bool) (n : Int) : PF 24 (.cons (.arrI .u64 4 fun _ => setOf p) (.cons (i64 n) .nil)) (.arrI .u64 4 fun _ => setOf (woN p n)) := by
  refine (⟨Tryd.func24, rfl, rfl, rfl, ⟨rfl, rfl⟩, ok _⟩ : FN 24 Tryd.f24).tree (mkO_ok Fb2_ok) true 40 rfl ?_
  conv => arg 5; cbv
  refine ⟨fun h => ?_, fun h => ⟨rfl, rfl, rfl, ?_⟩⟩
  · have h' : 0 ≤ n ∧ n < 256 := by
      cases h1 : decide (0 ≤ n) <;> simp_all
    obtain ⟨m, rfl⟩ : ∃ m : Nat, n = m := ⟨n.toNat, by omega⟩
    have e1 : (m : Int).tdiv 64 = ((m / 64 : Nat) : Int) := tdiv_nat m 64
    have e2 : (m : Int).tmod 64 = ((m % 64 : Nat) : Int) := tmod_nat m 64
    have e3 : IntKind.i64.wrap ((m : Int).tdiv 64) = ((m / 64 : Nat) : Int) := by rw [e1]; exact i64_nat (by omega)
    refine ⟨by simp only [e2, e3]; (repeat' (first | exact trivial | exact okSet_setOf _ | omega | (dsimp only; omega) | (dsimp; omega) | ((try dsimp only); (try simp only [cast_fold, Int.ofNat_eq_natCast]); omega) | refine ⟨?_, ?_⟩ | (show drawOK _ _ = true; conv => lhs; cbv) | decide | assumption | fail)), rfl, rfl, rfl, ?_⟩
    show (setOf p).set (IntKind.i64.wrap ((m : Int).tdiv 64)).toNat (bitAndNot .u64 ((setOf p).getD (IntKind.i64.wrap ((m : Int).tdiv 64)).toNat 0) (shl .u64 1 ((m : Int).tmod 64))) = setOf (woN p m)
    rw [e3, e2, shl_one (by omega), Int.toNat_natCast, W_get (by omega), W_without (by omega), setOf_set (by omega)]
    · refine setOf_ext fun i hi => ?_
      simp only [woN]
      congr 2
      rw [Bool.eq_iff_iff]
      simp only [decide_eq_true_eq]
      omega
    · intro i hi hne
      rw [show decide (i = m) = false by simp only [decide_eq_false_iff_not]; omega]
      simp
  · refine setOf_ext fun i hi => ?_
    simp only [woN]
    rw [show decide ((i : Int) = n) = false by
      simp only [decide_eq_false_iff_not]
      intro e
      subst e
      simp at h
      omega]
    simp
noncomputable def Fw1 : Table := addS 24 (.cons shSet (.cons (.int .i64) .nil)) (fun a n => (.arrI .u64 4 fun _ => setOf (woN (bitAt (a ())) (n ())), [fun _ => okSet (a ())])) Fg1
theorem Fw1_ok : TableOK Tryd.prog G0 Fw1 := by
  refine addS_ok (⟨Tryd.func24, rfl, rfl, rfl, ⟨rfl, rfl⟩, ok _⟩ : FN 24 Tryd.f24).callable (fun a _ n h => ?_) Fg1_ok
  have := without_ok (bitAt (a ())) (n ())
  rw [setP_bitAt h.1] at this
  exact this
end Go.Proofs.YtdikfhjpnfffnabDoor
