/- SETS OF PROCESSORS: what is in a set, and how many. -/
import Derived.Test.YtdikfhjpnfffnabDoorCsB
set_option maxRecDepth 2000
set_option linter.unusedVariables false
set_option linter.unusedSimpArgs false
set_option linter.unusedVariables false
set_option linter.unusedSimpArgs false
namespace Go.Proofs.YtdikfhjpnfffnabDoor
open Go Go.Abs Go.Proofs
theorem ones_ok (u : Int) (h0 : 0 ≤ u) (h1 : u < 18446744073709551616) : PF 40 (.cons (u64 u) .nil) (.int .i64 fun _ => ((cnt u.toNat.testBit 64 : Nat) : Int)) := by
  refine (⟨Tryd.func40, rfl, rfl, rfl, ⟨rfl, rfl⟩, ok _⟩ : FN 40 Tryd.f40).tree (mkO_ok F0_ok) true 40 rfl ?_
  conv => arg 5; cbv
  refine ⟨by (repeat' (first | exact trivial | exact okSet_setOf _ | omega | (dsimp only; omega) | (dsimp; omega) | ((try dsimp only); (try simp only [cast_fold, Int.ofNat_eq_natCast]); omega) | refine ⟨?_, ?_⟩ | (show drawOK _ _ = true; conv => lhs; cbv) | decide | assumption | fail)), rfl, rfl, ?_⟩
  show IntKind.i64.wrap (onesI u) = _
  obtain ⟨m, rfl⟩ : ∃ m : Nat, u = m := ⟨u.toNat, by omega⟩
  have := cnt_le (m : Int).toNat.testBit 64
  rw [onesI_eq (by omega), i64_nat (by rw [Int.toNat_natCast] at this; omega)]
  rfl
def sub (p q : Nat → Bool) : Bool := (List.range 256).all fun i => !p i || q i
theorem sub_iff {p q : Nat → Bool} : sub p q = true ↔ ∀ i, i < 256 → p i = true → q i = true := by
  simp only [sub, List.all_eq_true, List.mem_range, Bool.or_eq_true, Bool.not_eq_true']
  exact ⟨fun h i hi hp => (h i hi).resolve_left (by simp [hp]), fun h i hi => by cases hp : p i; exact .inl rfl; exact .inr (h i hi hp)⟩
theorem under_ok (p q : Nat → Bool) : PF 17 (.cons (.arrI .u64 4 fun _ => setOf p) (.cons (.arrI .u64 4 fun _ => setOf q) .nil)) (.bool fun _ => sub p q) := by
  refine (⟨Tryd.func17, rfl, rfl, rfl, ⟨rfl, rfl⟩, ok _⟩ : FN 17 Tryd.f17).tree (mkO_ok Fb2_ok) true 40 rfl ?_
  conv => arg 5; cbv
  refine ⟨⟨⟨okSet_setOf _, okSet_setOf _⟩, trivial⟩, rfl, ?_⟩
  show decide (setOf (fun i => bitAt (setOf p) i && !bitAt (setOf q) i) = [0, 0, 0, 0]) = sub p q
  rw [← setOf_zero, Bool.eq_iff_iff, decide_eq_true_eq, setOf_inj, sub_iff]
  refine forall_congr' fun i => forall_congr' fun hi => ?_
  rw [bitAt_setOf hi, bitAt_setOf hi]
  cases p i <;> cases q i <;> simp
def hasN (p : Nat → Bool) (n : Int) : Bool := decide (0 ≤ n) && decide (n < 256) && p n.toNat
theorem has_ok (p : Nat → Bool) (n : Int) : PF 22 (.cons (.arrI .u64 4 fun _ => setOf p) (.cons (i64 n) .nil)) (.bool fun _ => hasN p n) := by
  refine (⟨Tryd.func22, rfl, rfl, rfl, ⟨rfl, rfl⟩, ok _⟩ : FN 22 Tryd.f22).tree (mkO_ok Fb2_ok) true 40 rfl ?_
  conv => arg 5; cbv
  refine ⟨fun h => ⟨rfl, ?_⟩, fun h => ?_⟩
  · show hasN p n = false
    simp only [hasN]
    rw [Bool.not_eq_true'] at h
    rw [show (decide (0 ≤ n) && decide (n < 256)) = false by cases h1 : decide (0 ≤ n) <;> simp_all]
    rfl
  · have h' : 0 ≤ n ∧ n < 256 := by
      rw [Bool.not_eq_false'] at h
      cases h1 : decide (0 ≤ n) <;> simp_all
    obtain ⟨m, rfl⟩ : ∃ m : Nat, n = m := ⟨n.toNat, by omega⟩
    have e1 : (m : Int).tdiv 64 = ((m / 64 : Nat) : Int) := tdiv_nat m 64
    have e2 : (m : Int).tmod 64 = ((m % 64 : Nat) : Int) := tmod_nat m 64
    have e3 : IntKind.i64.wrap ((m : Int).tdiv 64) = ((m / 64 : Nat) : Int) := by rw [e1]; exact i64_nat (by omega)
    refine ⟨by simp only [e2, e3]; (repeat' (first | exact trivial | exact okSet_setOf _ | omega | (dsimp only; omega) | (dsimp; omega) | ((try dsimp only); (try simp only [cast_fold, Int.ofNat_eq_natCast]); omega) | refine ⟨?_, ?_⟩ | (show drawOK _ _ = true; conv => lhs; cbv) | decide | assumption | fail)), rfl, ?_⟩
    show (bitAnd .u64 ((setOf p).getD (IntKind.i64.wrap ((m : Int).tdiv 64)).toNat 0) (shl .u64 1 ((m : Int).tmod 64)) != 0) = hasN p m
    rw [e3, e2, shl_one (by omega), Int.toNat_natCast, W_get (by omega), W_has (by omega)]
    simp only [hasN, Int.toNat_natCast, h'.1, h'.2, decide_true, Bool.true_and]
def withN (p : Nat → Bool) (n : Int) (i : Nat) : Bool := p i || decide ((i : Int) = n)
theorem with_ok (p : Nat → Bool) (n : Int) : PF 23 (.cons (.arrI .u64 4 fun _ => setOf p) (.cons (i64 n) .nil)) (.arrI .u64 4 fun _ => setOf (withN p n)) := by
  refine (⟨Tryd.func23, rfl, rfl, rfl, ⟨rfl, rfl⟩, ok _⟩ : FN 23 Tryd.f23).tree (mkO_ok Fb2_ok) true 40 rfl ?_
  conv => arg 5; cbv
  refine ⟨fun h => ?_, fun h => ⟨rfl, rfl, rfl, ?_⟩⟩
  · have h' : 0 ≤ n ∧ n < 256 := by
      cases h1 : decide (0 ≤ n) <;> simp_all
    obtain ⟨m, rfl⟩ : ∃ m : Nat, n = m := ⟨n.toNat, by omega⟩
    have e1 : (m : Int).tdiv 64 = ((m / 64 : Nat) : Int) := tdiv_nat m 64
    have e2 : (m : Int).tmod 64 = ((m % 64 : Nat) : Int) := tmod_nat m 64
    have e3 : IntKind.i64.wrap ((m : Int).tdiv 64) = ((m / 64 : Nat) : Int) := by rw [e1]; exact i64_nat (by omega)
    refine ⟨by simp only [e2, e3]; (repeat' (first | exact trivial | exact okSet_setOf _ | omega | (dsimp only; omega) | (dsimp; omega) | ((try dsimp only); (try simp only [cast_fold, Int.ofNat_eq_natCast]); omega) | refine ⟨?_, ?_⟩ | (show drawOK _ _ = true; conv => lhs; cbv) | decide | assumption | fail)), rfl, rfl, rfl, ?_⟩
    show (setOf p).set (IntKind.i64.wrap ((m : Int).tdiv 64)).toNat (bitOr .u64 ((setOf p).getD (IntKind.i64.wrap ((m : Int).tdiv 64)).toNat 0) (shl .u64 1 ((m : Int).tmod 64))) = setOf (withN p m)
    rw [e3, e2, shl_one (by omega), Int.toNat_natCast, W_get (by omega), W_with (by omega), setOf_set (by omega)]
    · refine setOf_ext fun i hi => ?_
      simp only [withN]
      congr 1
      rw [Bool.eq_iff_iff]
      simp only [decide_eq_true_eq]
      omega
    · intro i hi hne
      rw [show decide (i = m) = false by simp only [decide_eq_false_iff_not]; omega, Bool.or_false]
  · refine setOf_ext fun i hi => ?_
    simp only [withN]
    rw [show decide ((i : Int) = n) = false by
      simp only [decide_eq_false_iff_not]
      intro e
      subst e
      simp at h
      omega, Bool.or_false]
noncomputable def Fc1 : Table := addS 40 (.cons (.int .u64) .nil) (fun u => (.int .i64 fun _ => ((cnt (u ()).toNat.testBit 64 : Nat) : Int), [fun _ => 0 ≤ u () ∧ u () < 18446744073709551616]))
  (addS 17 (.cons shSet (.cons shSet .nil)) (fun a b => (.bool fun _ => sub (bitAt (a ())) (bitAt (b ())), [fun _ => okSet (a ()) ∧ okSet (b ())]))
  (addS 22 (.cons shSet (.cons (.int .i64) .nil)) (fun a n => (.bool fun _ => hasN (bitAt (a ())) (n ()), [fun _ => okSet (a ())]))
  (addS 23 (.cons shSet (.cons (.int .i64) .nil)) (fun a n => (.arrI .u64 4 fun _ => setOf (withN (bitAt (a ())) (n ())), [fun _ => okSet (a ())])) Fb2)))
theorem Fc1_ok : TableOK Tryd.prog G0 Fc1 := by
  refine addS_ok (⟨Tryd.func40, rfl, rfl, rfl, ⟨rfl, rfl⟩, ok _⟩ : FN 40 Tryd.f40).callable (fun u h => ones_ok (u ()) h.1.1 h.1.2) (addS_ok (⟨Tryd.func17, rfl, rfl, rfl, ⟨rfl, rfl⟩, ok _⟩ : FN 17 Tryd.f17).callable (fun a _ b _ h => ?_) (addS_ok (⟨Tryd.func22, rfl, rfl, rfl, ⟨rfl, rfl⟩, ok _⟩ : FN 22 Tryd.f22).callable (fun a _ n h => ?_) (addS_ok (⟨Tryd.func23, rfl, rfl, rfl, ⟨rfl, rfl⟩, ok _⟩ : FN 23 Tryd.f23).callable (fun a _ n h => ?_) Fb2_ok)))
  · have := under_ok (bitAt (a ())) (bitAt (b ()))
    rw [setP_bitAt h.1.1, setP_bitAt h.1.2] at this
    exact this
  · have := has_ok (bitAt (a ())) (n ())
    rw [setP_bitAt h.1] at this
    exact this
  · have := with_ok (bitAt (a ())) (n ())
    rw [setP_bitAt h.1] at this
    exact this
end Go.Proofs.YtdikfhjpnfffnabDoor
