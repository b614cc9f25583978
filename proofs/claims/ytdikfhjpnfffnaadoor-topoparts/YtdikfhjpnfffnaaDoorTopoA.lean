/- TOPO: the program's functions of values. -/
import Derived.Test.YtdikfhjpnfffnaaDoorCsT
set_option maxRecDepth 2000
set_option linter.unusedVariables false
set_option linter.unusedSimpArgs false
set_option linter.unusedVariables false
set_option linter.unusedSimpArgs false
namespace Go.Proofs.YtdikfhjpnfffnaaDoor
open Go Go.Abs Go.Proofs
def top (s c t : Int) : PV := .agg (.cons (i64 s) (.cons (i64 c) (.cons (i64 t) .nil)))
def shTop : Sh := .agg (.cons (.int .i64) (.cons (.int .i64) (.cons (.int .i64) .nil)))
def right (s c t : Int) : Bool := decide (1 ≤ s) && decide (s ≤ 8) && decide (1 ≤ c) && decide (c ≤ 64) && decide (1 ≤ t) && decide (t ≤ 4) && decide (s * c * t < 257)
theorem right_iff {s c t : Int} : right s c t = true ↔ 1 ≤ s ∧ s ≤ 8 ∧ 1 ≤ c ∧ c ≤ 64 ∧ 1 ≤ t ∧ t ≤ 4 ∧ s * c * t < 257 := by
  simp only [right, Bool.and_eq_true, decide_eq_true_eq, and_assoc]
theorem wrap_prod {s c t : Int} (h1 : 0 ≤ s) (h2 : s ≤ 8) (h3 : 0 ≤ c) (h4 : c ≤ 64) (h5 : 0 ≤ t) (h6 : t ≤ 4) : IntKind.i64.wrap (IntKind.i64.wrap (s * c) * t) = s * c * t := by
  have a1 : s * c ≤ 8 * 64 := Int.mul_le_mul h2 h4 h3 (by omega)
  have a0 : 0 ≤ s * c := Int.mul_nonneg h1 h3
  have a2 : s * c * t ≤ 8 * 64 * 4 := Int.mul_le_mul a1 h6 h5 (by omega)
  have a3 : 0 ≤ s * c * t := Int.mul_nonneg a0 h5
  rw [IntWalk.i64_in (s * c) ⟨by omega, by omega⟩, IntWalk.i64_in (s * c * t) ⟨by omega, by omega⟩]
noncomputable def Fp1 : Table := addA 29 (ctx Tryd.f29) (mkO F0) (body Tryd.f29) 8 Ft1
theorem Fp1_ok : TableOK Tryd.prog G0 Fp1 := addA_ok (⟨Tryd.func29, rfl, rfl, rfl, rfl, ok _⟩ : FN 29 Tryd.f29) (mkO_ok F0_ok) Ft1_ok
theorem right_ok (s c t : Int) : PF 11 (.cons (top s c t) .nil) (bo (right s c t)) := by
  refine (⟨Tryd.func11, rfl, rfl, rfl, rfl, ok _⟩ : FN 11 Tryd.f11).tree (mkO_ok Fp1_ok) true 40 rfl ?_
  conv => arg 5; cbv
  refine ⟨fun h1 => ⟨fun h2 => ⟨fun h3 => ⟨rfl, ?_⟩, fun h3 => ⟨rfl, ?_⟩⟩, fun h2 => ⟨rfl, ?_⟩⟩, fun h1 => ⟨rfl, ?_⟩⟩
  · show decide (IntKind.i64.wrap (IntKind.i64.wrap (s * c) * t) ≤ 256) = right s c t
    cases hs : decide (1 ≤ s) <;> cases hc : decide (1 ≤ c) <;> cases ht : decide (1 ≤ t) <;> simp_all
    rw [wrap_prod (by omega) (by omega) (by omega) (by omega) (by omega) (by omega), Bool.eq_iff_iff]
    simp only [right, Bool.and_eq_true, decide_eq_true_eq]
    omega
  all_goals
    show right s c t = false
    rw [Bool.eq_false_iff, ne_eq, right_iff]
    cases hs : decide (1 ≤ s) <;> cases hc : decide (1 ≤ c) <;> cases ht : decide (1 ≤ t) <;> simp_all <;> omega
theorem refRight_ok (s c t : Int) : PF 12 (.cons (top s c t) .nil) (bo (right s c t)) := by
  refine (⟨Tryd.func12, rfl, rfl, rfl, rfl, ok _⟩ : FN 12 Tryd.f12).tree (mkO_ok Fp1_ok) true 40 rfl ?_
  conv => arg 5; cbv
  refine ⟨fun h1 => ⟨rfl, ?_⟩, fun h1 => ⟨fun h2 => ⟨rfl, ?_⟩, fun h2 => ⟨fun h3 => ⟨rfl, ?_⟩, fun h3 => ⟨fun h4 => ⟨rfl, ?_⟩, fun h4 => ⟨fun h5 => ⟨rfl, ?_⟩, fun h5 => ⟨fun h6 => ⟨rfl, ?_⟩, fun h6 => ⟨rfl, ?_⟩⟩⟩⟩⟩⟩⟩
  case refine_7 =>
    simp only [decide_eq_false_iff_not] at h1 h2 h3 h4 h5 h6
    show decide (IntKind.i64.wrap (IntKind.i64.wrap (s * c) * t) < 257) = right s c t
    rw [wrap_prod (by omega) (by omega) (by omega) (by omega) (by omega) (by omega), Bool.eq_iff_iff]
    simp only [right, Bool.and_eq_true, decide_eq_true_eq]
    omega
  all_goals
    show right s c t = false
    rw [Bool.eq_false_iff, ne_eq, right_iff]
    simp only [decide_eq_true_eq] at *
    omega
noncomputable def Fp2 : Table := addS 11 (.cons shTop .nil) (fun s c t => (.bool fun _ => right (s ()) (c ()) (t ()), [])) (addS 12 (.cons shTop .nil) (fun s c t => (.bool fun _ => right (s ()) (c ()) (t ()), [])) Fp1)
theorem Fp2_ok : TableOK Tryd.prog G0 Fp2 := addS_ok (⟨Tryd.func11, rfl, rfl, rfl, rfl, ok _⟩ : FN 11 Tryd.f11).callable (fun s c t _ => right_ok (s ()) (c ()) (t ())) (addS_ok (⟨Tryd.func12, rfl, rfl, rfl, rfl, ok _⟩ : FN 12 Tryd.f12).callable (fun s c t _ => refRight_ok (s ()) (c ()) (t ())) Fp1_ok)
def count (s c t : Int) : Int := if right s c t then s * c * t else 0
theorem tcount_ok (s c t : Int) : PF 28 (.cons (top s c t) .nil) (.int .i64 fun _ => count s c t) := by
  refine (⟨Tryd.func28, rfl, rfl, rfl, rfl, ok _⟩ : FN 28 Tryd.f28).tree (mkO_ok Fp2_ok) true 40 rfl ?_
  conv => arg 5; cbv
  refine ⟨fun h => ⟨rfl, rfl, ?_⟩, fun h => ⟨rfl, rfl, ?_⟩⟩
  · simp only [Bool.not_eq_true'] at h
    show 0 = count s c t
    simp [count, h]
  · simp only [Bool.not_eq_false'] at h
    show IntKind.i64.wrap (IntKind.i64.wrap (s * c) * t) = count s c t
    have := right_iff.1 h
    rw [wrap_prod (by omega) (by omega) (by omega) (by omega) (by omega) (by omega)]
    simp [count, h]
theorem count_range (s c t : Int) : 0 ≤ count s c t ∧ count s c t ≤ 256 := by
  unfold count
  split
  · rename_i h
    have h := right_iff.1 h
    have a0 : 0 ≤ s * c := Int.mul_nonneg (by omega) (by omega)
    have a3 : 0 ≤ s * c * t := Int.mul_nonneg a0 (by omega)
    omega
  · omega
noncomputable def Fp3 : Table := addS 28 (.cons shTop .nil) (fun s c t => (.int .i64 fun _ => count (s ()) (c ()) (t ()), [])) Fp2
theorem Fp3_ok : TableOK Tryd.prog G0 Fp3 := addS_ok (⟨Tryd.func28, rfl, rfl, rfl, rfl, ok _⟩ : FN 28 Tryd.f28).callable (fun s c t _ => tcount_ok (s ()) (c ()) (t ())) Fp2_ok
def allP (s c t : Int) (i : Nat) : Bool := decide ((i : Int) < count s c t)
theorem all_ok (s c t : Int) : PF 13 (.cons (top s c t) .nil) (.arrI .u64 4 fun _ => setOf (allP s c t)) := by
  refine (⟨Tryd.func13, rfl, rfl, rfl, rfl, ok _⟩ : FN 13 Tryd.f13).tree (mkO_ok Fp3_ok) true 40 rfl ?_
  conv => arg 5; cbv
  have hr := count_range s c t
  (repeat' (first | exact trivial | rfl | exact impP_refl _ | exact okSet_setOf _ | (intro h; try simp only [decide_eq_true_eq, decide_eq_false_iff_not, Int.ofNat_eq_natCast, cast_fold, Bool.not_eq_true', Bool.not_eq_false', bne_iff_ne, beq_iff_eq, Bool.and_eq_true, Bool.or_eq_true] at h) | refine ⟨?_, ?_⟩ | (show drawOK _ _ = true; conv => lhs; cbv) | fail))
  · show (0 : Int) ≤ _
    omega
  · show setOf (inRange 0 (IntKind.i64.wrap (count s c t - 1))) = setOf (allP s c t)
    rw [IntWalk.i64_in _ ⟨by omega, by omega⟩]
    refine setOf_ext fun i hi => ?_
    simp only [inRange, allP]
    rw [Bool.eq_iff_iff]
    simp only [Bool.and_eq_true, decide_eq_true_eq]
    omega
def onPlace (s c t n : Int) : Bool := decide (0 ≤ n) && decide (n < count s c t)
theorem place_ok (s c t n : Int) : PF 8 (.cons (top s c t) (.cons (i64 n) .nil)) (.tuple (.cons (.int .i64 fun _ => if onPlace s c t n then n / t / c else 0) (.cons (.int .i64 fun _ => if onPlace s c t n then n / t % c else 0) (.cons (.int .i64 fun _ => if onPlace s c t n then n % t else 0) (.cons (.bool fun _ => onPlace s c t n) .nil))))) := by
  refine (⟨Tryd.func8, rfl, rfl, rfl, rfl, ok _⟩ : FN 8 Tryd.f8).tree (mkO_ok Fp3_ok) true 40 rfl ?_
  conv => arg 5; cbv
  have hr := count_range s c t
  refine ⟨fun h => ?_, fun h => ⟨fun h2 => ?_, fun h2 => ?_⟩⟩
  · simp only [decide_eq_true_eq, Int.ofNat_eq_natCast, cast_fold] at h
    have e : onPlace s c t n = false := by simp [onPlace]; omega
    simp only [e]
    (repeat' (first | exact trivial | rfl | exact impP_refl _ | exact okSet_setOf _ | (intro h; try simp only [decide_eq_true_eq, decide_eq_false_iff_not, Int.ofNat_eq_natCast, cast_fold, Bool.not_eq_true', Bool.not_eq_false', bne_iff_ne, beq_iff_eq, Bool.and_eq_true, Bool.or_eq_true] at h) | refine ⟨?_, ?_⟩ | (show drawOK _ _ = true; conv => lhs; cbv) | fail))
  · have h2 : decide (count s c t ≤ n) = true := h2
    simp only [decide_eq_true_eq, Int.ofNat_eq_natCast, cast_fold] at h2
    have e : onPlace s c t n = false := by simp [onPlace]; omega
    simp only [e]
    (repeat' (first | exact trivial | rfl | exact impP_refl _ | exact okSet_setOf _ | (intro h; try simp only [decide_eq_true_eq, decide_eq_false_iff_not, Int.ofNat_eq_natCast, cast_fold, Bool.not_eq_true', Bool.not_eq_false', bne_iff_ne, beq_iff_eq, Bool.and_eq_true, Bool.or_eq_true] at h) | refine ⟨?_, ?_⟩ | (show drawOK _ _ = true; conv => lhs; cbv) | fail))
  · have h2 : decide (count s c t ≤ n) = false := h2
    simp only [decide_eq_false_iff_not, Int.ofNat_eq_natCast, cast_fold] at h
    simp only [decide_eq_false_iff_not, Int.ofNat_eq_natCast, cast_fold] at h2
    have e : onPlace s c t n = true := by simp [onPlace]; omega
    have hR : right s c t = true := by
      cases hR : right s c t
      · simp [count, hR] at h2; omega
      · rfl
    have hR := right_iff.1 hR
    have e1 : IntKind.i64.wrap (n.tdiv t) = n / t := by
      rw [Int.tdiv_eq_ediv_of_nonneg (by omega)]
      have := Int.ediv_nonneg (a := n) (b := t) (by omega) (by omega)
      have := Int.ediv_le_self (a := n) t (by omega)
      exact IntWalk.i64_in _ ⟨by omega, by omega⟩
    have h3 := Int.ediv_nonneg (a := n) (b := t) (by omega) (by omega)
    have h4 := Int.ediv_le_self (a := n) t (by omega)
    have e2 : IntKind.i64.wrap ((n / t).tdiv c) = n / t / c := by
      rw [Int.tdiv_eq_ediv_of_nonneg (by omega)]
      have := Int.ediv_nonneg (a := n / t) (b := c) (by omega) (by omega)
      have := Int.ediv_le_self (a := n / t) c (by omega)
      exact IntWalk.i64_in _ ⟨by omega, by omega⟩
    simp only [e, e1, e2]
    (repeat' (first | exact trivial | rfl | exact impP_refl _ | exact okSet_setOf _ | (intro h; try simp only [decide_eq_true_eq, decide_eq_false_iff_not, Int.ofNat_eq_natCast, cast_fold, Bool.not_eq_true', Bool.not_eq_false', bne_iff_ne, beq_iff_eq, Bool.and_eq_true, Bool.or_eq_true] at h) | refine ⟨?_, ?_⟩ | (show drawOK _ _ = true; conv => lhs; cbv) | fail))
    · omega
    · omega
    · omega
    · omega
    · exact Int.tmod_eq_emod_of_nonneg (by omega)
    · exact Int.tmod_eq_emod_of_nonneg (by omega)
def cpuOK (s c t a b k : Int) : Bool := right s c t && decide (0 ≤ a) && decide (a < s) && decide (0 ≤ b) && decide (b < c) && decide (0 ≤ k) && decide (k < t)
theorem cpuOK_iff {s c t a b k : Int} : cpuOK s c t a b k = true ↔ right s c t = true ∧ 0 ≤ a ∧ a < s ∧ 0 ≤ b ∧ b < c ∧ 0 ≤ k ∧ k < t := by
  simp only [cpuOK, Bool.and_eq_true, decide_eq_true_eq, and_assoc]
theorem cpu_range {s c t a b k : Int} (h : cpuOK s c t a b k = true) : 0 ≤ a * c ∧ a * c + b < s * c ∧ 0 ≤ (a * c + b) * t ∧ (a * c + b) * t + k < s * c * t := by
  obtain ⟨h1, h2, h3, h4, h5, h6, h7⟩ := cpuOK_iff.1 h
  have a0 : 0 ≤ a * c := Int.mul_nonneg h2 (by omega)
  have a1 : (a + 1) * c ≤ s * c := Int.mul_le_mul_of_nonneg_right (by omega) (by omega)
  have a2 : (a * c + b + 1) * t ≤ (s * c) * t := Int.mul_le_mul_of_nonneg_right (by rw [Int.add_mul] at a1; omega) (by omega)
  have a3 : 0 ≤ (a * c + b) * t := Int.mul_nonneg (by omega) (by omega)
  rw [Int.add_mul] at a1 a2
  exact ⟨a0, by omega, a3, by omega⟩
theorem cpu_ok (s c t a b k : Int) : PF 9 (.cons (top s c t) (.cons (i64 a) (.cons (i64 b) (.cons (i64 k) .nil)))) (.tuple (.cons (.int .i64 fun _ => if cpuOK s c t a b k then (a * c + b) * t + k else 0) (.cons (.bool fun _ => cpuOK s c t a b k) .nil))) := by
  refine (⟨Tryd.func9, rfl, rfl, rfl, rfl, ok _⟩ : FN 9 Tryd.f9).tree (mkO_ok Fp3_ok) true 40 rfl ?_
  conv => arg 5; cbv
  cases hc : cpuOK s c t a b k
  · have hc' : ¬ (right s c t = true ∧ 0 ≤ a ∧ a < s ∧ 0 ≤ b ∧ b < c ∧ 0 ≤ k ∧ k < t) := fun h => by rw [cpuOK_iff.2 h] at hc; cases hc
    (repeat' (first | exact trivial | rfl | exact impP_refl _ | exact okSet_setOf _ | (intro h; try simp only [decide_eq_true_eq, decide_eq_false_iff_not, Int.ofNat_eq_natCast, cast_fold, Bool.not_eq_true', Bool.not_eq_false', bne_iff_ne, beq_iff_eq, Bool.and_eq_true, Bool.or_eq_true] at h) | refine ⟨?_, ?_⟩ | (show drawOK _ _ = true; conv => lhs; cbv) | fail))
    all_goals
      exfalso
      apply hc'
      refine ⟨by assumption, by omega, by omega, by omega, by omega, by omega, by omega⟩
  · obtain ⟨h1, h2, h3, h4, h5, h6, h7⟩ := cpuOK_iff.1 hc
    obtain ⟨r1, r2, r3, r4⟩ := cpu_range hc
    have hR := right_iff.1 h1
    have e1 : s * c ≤ 8 * 64 := Int.mul_le_mul (by omega) (by omega) (by omega) (by omega)
    have e : IntKind.i64.wrap (IntKind.i64.wrap (IntKind.i64.wrap (IntKind.i64.wrap (a * c) + b) * t) + k) = (a * c + b) * t + k := by
      rw [IntWalk.i64_in (a * c) ⟨by omega, by omega⟩, IntWalk.i64_in (a * c + b) ⟨by omega, by omega⟩, IntWalk.i64_in ((a * c + b) * t) ⟨by omega, by omega⟩, IntWalk.i64_in _ ⟨by omega, by omega⟩]
    simp only [hc]
    (repeat' (first | exact trivial | rfl | exact impP_refl _ | exact okSet_setOf _ | (intro h; try simp only [decide_eq_true_eq, decide_eq_false_iff_not, Int.ofNat_eq_natCast, cast_fold, Bool.not_eq_true', Bool.not_eq_false', bne_iff_ne, beq_iff_eq, Bool.and_eq_true, Bool.or_eq_true] at h) | refine ⟨?_, ?_⟩ | (show drawOK _ _ = true; conv => lhs; cbv) | fail))
    all_goals first | exact e | (exfalso; omega) | simp_all
/-- The processors of a part. -/
def partP (s c t n size parts : Int) (i : Nat) : Bool := right s c t && decide (0 ≤ n) && decide (n < parts) && inRange (n * size) ((n + 1) * size - 1) i
theorem part_ok (s c t n size parts : Int) (hb : right s c t = true → 0 ≤ size ∧ size ≤ 256 ∧ parts ≤ 512) : PF 31 (.cons (top s c t) (.cons (i64 n) (.cons (i64 size) (.cons (i64 parts) .nil)))) (.arrI .u64 4 fun _ => setOf (partP s c t n size parts)) := by
  refine (⟨Tryd.func31, rfl, rfl, rfl, rfl, ok _⟩ : FN 31 Tryd.f31).tree (mkO_ok Fp3_ok) true 40 rfl ?_
  conv => arg 5; cbv
  cases hc : (right s c t && decide (0 ≤ n) && decide (n < parts))
  · have hz : setOf (partP s c t n size parts) = [0, 0, 0, 0] := by
      rw [← setOf_zero]
      refine setOf_ext fun i hi => ?_
      simp only [partP, hc, Bool.false_and]
    have hc' : ¬ (right s c t = true ∧ 0 ≤ n ∧ n < parts) := fun h => by simp [h.1, h.2.1, h.2.2] at hc
    simp only [hz]
    (repeat' (first | exact trivial | rfl | exact impP_refl _ | exact okSet_setOf _ | (intro h; try simp only [decide_eq_true_eq, decide_eq_false_iff_not, Int.ofNat_eq_natCast, cast_fold, Bool.not_eq_true', Bool.not_eq_false', bne_iff_ne, beq_iff_eq, Bool.and_eq_true, Bool.or_eq_true] at h) | refine ⟨?_, ?_⟩ | (show drawOK _ _ = true; conv => lhs; cbv) | fail))
    all_goals
      exfalso
      apply hc'
      refine ⟨by assumption, by omega, by omega⟩
  · simp only [Bool.and_eq_true, decide_eq_true_eq] at hc
    obtain ⟨b1, b2, b3⟩ := hb hc.1.1
    have a1 : n * size ≤ 512 * 256 := Int.mul_le_mul (by omega) b2 b1 (by omega)
    have a2 : 0 ≤ n * size := Int.mul_nonneg hc.1.2 b1
    have a3 : (n + 1) * size ≤ 512 * 256 := Int.mul_le_mul (by omega) b2 b1 (by omega)
    have a4 : 0 ≤ (n + 1) * size := Int.mul_nonneg (by omega) b1
    have e1 : IntKind.i64.wrap (n * size) = n * size := IntWalk.i64_in _ ⟨by omega, by omega⟩
    have e2 : IntKind.i64.wrap (IntKind.i64.wrap (IntKind.i64.wrap (n + 1) * size) - 1) = (n + 1) * size - 1 := by
      rw [IntWalk.i64_in (n + 1) ⟨by omega, by omega⟩, IntWalk.i64_in ((n + 1) * size) ⟨by omega, by omega⟩, IntWalk.i64_in _ ⟨by omega, by omega⟩]
    have hz : setOf (partP s c t n size parts) = setOf (inRange (n * size) ((n + 1) * size - 1)) := by
      refine setOf_ext fun i hi => ?_
      simp only [partP, hc.1.1, hc.1.2, hc.2, decide_true, Bool.true_and]
    simp only [hz, e1, e2]
    (repeat' (first | exact trivial | rfl | exact impP_refl _ | exact okSet_setOf _ | (intro h; try simp only [decide_eq_true_eq, decide_eq_false_iff_not, Int.ofNat_eq_natCast, cast_fold, Bool.not_eq_true', Bool.not_eq_false', bne_iff_ne, beq_iff_eq, Bool.and_eq_true, Bool.or_eq_true] at h) | refine ⟨?_, ?_⟩ | (show drawOK _ _ = true; conv => lhs; cbv) | fail))
    · simp_all
    all_goals omega
noncomputable def Fp4 : Table := addS 13 (.cons shTop .nil) (fun s c t => (.arrI .u64 4 fun _ => setOf (allP (s ()) (c ()) (t ())), []))
  (addS 8 (.cons shTop (.cons (.int .i64) .nil)) (fun s c t n => (.tuple (.cons (.int .i64 fun _ => if onPlace (s ()) (c ()) (t ()) (n ()) then n () / t () / c () else 0) (.cons (.int .i64 fun _ => if onPlace (s ()) (c ()) (t ()) (n ()) then n () / t () % c () else 0) (.cons (.int .i64 fun _ => if onPlace (s ()) (c ()) (t ()) (n ()) then n () % t () else 0) (.cons (.bool fun _ => onPlace (s ()) (c ()) (t ()) (n ())) .nil)))), []))
  (addS 9 (.cons shTop (.cons (.int .i64) (.cons (.int .i64) (.cons (.int .i64) .nil)))) (fun s c t a b k => (.tuple (.cons (.int .i64 fun _ => if cpuOK (s ()) (c ()) (t ()) (a ()) (b ()) (k ()) then (a () * c () + b ()) * t () + k () else 0) (.cons (.bool fun _ => cpuOK (s ()) (c ()) (t ()) (a ()) (b ()) (k ())) .nil)), []))
  (addS 31 (.cons shTop (.cons (.int .i64) (.cons (.int .i64) (.cons (.int .i64) .nil)))) (fun s c t n z p => (.arrI .u64 4 fun _ => setOf (partP (s ()) (c ()) (t ()) (n ()) (z ()) (p ())), [fun _ => right (s ()) (c ()) (t ()) = true → 0 ≤ z () ∧ z () ≤ 256 ∧ p () ≤ 512])) Fp3)))
theorem Fp4_ok : TableOK Tryd.prog G0 Fp4 :=
  addS_ok (⟨Tryd.func13, rfl, rfl, rfl, rfl, ok _⟩ : FN 13 Tryd.f13).callable (fun s c t _ => all_ok (s ()) (c ()) (t ())) (addS_ok (⟨Tryd.func8, rfl, rfl, rfl, rfl, ok _⟩ : FN 8 Tryd.f8).callable (fun s c t n _ => place_ok (s ()) (c ()) (t ()) (n ()))
    (addS_ok (⟨Tryd.func9, rfl, rfl, rfl, rfl, ok _⟩ : FN 9 Tryd.f9).callable (fun s c t a b k _ => cpu_ok (s ()) (c ()) (t ()) (a ()) (b ()) (k ())) (addS_ok (⟨Tryd.func31, rfl, rfl, rfl, rfl, ok _⟩ : FN 31 Tryd.f31).callable (fun s c t n z p h => part_ok (s ()) (c ()) (t ()) (n ()) (z ()) (p ()) h.1) Fp3_ok)))
end Go.Proofs.YtdikfhjpnfffnaaDoor
