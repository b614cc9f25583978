/- SETS OF PROCESSORS: the functions on words. -/
import Derived.Test.YtdikfhjpnfffnabDoorBase
import Derived.Test.YtdikfhjpnfffnabDoorGc
set_option maxRecDepth 2000
set_option linter.unusedVariables false
set_option linter.unusedSimpArgs false
set_option linter.unusedVariables false
set_option linter.unusedSimpArgs false
namespace Go.Proofs.YtdikfhjpnfffnabDoor
open Go Go.Abs Go.Proofs

/-! ### below, bit, processor, and the words' closures -/
def below (n : Int) : Int := ((wd (fun i => decide ((i : Int) < n)) 64 : Nat) : Int)
theorem wd_full {n : Nat} (h : n ≤ 64) : wd (fun i => decide (i < n)) 64 = 2 ^ n - 1 := by
  apply Nat.eq_of_testBit_eq
  intro i
  rw [wd_bit, Nat.testBit_two_pow_sub_one]
  by_cases h1 : i < n
  · simp [h1, show i < 64 by omega]
  · simp [h1]
theorem below_small {n : Int} (h : n ≤ 0) : below n = 0 := by
  unfold below
  rw [wd_ext (q := fun i => decide (i < 0)) fun i _ => by simp; omega, wd_full (by omega)]
  rfl
theorem below_great {n : Int} (h : 64 ≤ n) : below n = 18446744073709551615 := by
  unfold below
  rw [wd_ext (q := fun i => decide (i < 64)) fun i hi => by simp [hi]; omega, wd_full (by omega)]
  rfl
theorem below_mid {n : Int} (h0 : 0 < n) (h : n < 64) : below n = IntKind.u64.wrap (shl .u64 1 n - 1) := by
  unfold below
  obtain ⟨m, rfl⟩ : ∃ m : Nat, n = m := ⟨n.toNat, by omega⟩
  rw [wd_ext (q := fun i => decide (i < m)) fun i hi => by simp, wd_full (by omega)]
  have hp : 2 ^ m ≤ 2 ^ 63 := Nat.pow_le_pow_right (by omega) (by omega)
  have h1 : 1 ≤ 2 ^ m := Nat.one_le_two_pow
  have hs : shl .u64 1 (m : Int) = ((2 ^ m : Nat) : Int) := by
    unfold shl
    rw [show min (m : Int).toNat IntKind.u64.bits = m by show min (m : Int).toNat 64 = m; omega, Int.one_mul]
    have := u64_wrap (n := 2 ^ m) (by omega)
    push_cast at this
    rw [this]; push_cast; rfl
  rw [hs, show (((2 ^ m : Nat) : Int) - 1) = ((2 ^ m - 1 : Nat) : Int) by omega, u64_wrap (by omega)]
theorem below_ok (n : Int) : PF 43 (.cons (i64 n) .nil) (u64 (below n)) := by
  refine (⟨Tryd.func43, rfl, rfl, rfl, ⟨rfl, rfl⟩, ok _⟩ : FN 43 Tryd.f43).tree (mkO_ok F0_ok) true 40 rfl ?_
  conv => arg 5; cbv
  refine ⟨fun h => ⟨rfl, rfl, ?_⟩, fun h => ⟨fun h2 => ⟨rfl, rfl, ?_⟩, fun h2 => ⟨⟨?_, trivial⟩, rfl, rfl, ?_⟩⟩⟩
  · simp only [decide_eq_true_eq] at h
    exact (below_small h).symm
  · simp only [decide_eq_true_eq, decide_eq_false_iff_not] at h h2
    exact (below_great h2).symm
  · simp only [decide_eq_false_iff_not] at h
    show 0 ≤ n
    omega
  · simp only [decide_eq_false_iff_not] at h h2
    exact (below_mid (by omega) (by omega)).symm
noncomputable def Fa1 : Table := addS 43 (.cons (.int .i64) .nil) (fun n => (.int .u64 fun _ => below (n ()), [])) F0
theorem Fa1_ok : TableOK Tryd.prog G0 Fa1 := addS_ok (⟨Tryd.func43, rfl, rfl, rfl, ⟨rfl, rfl⟩, ok _⟩ : FN 43 Tryd.f43).callable (fun n _ => below_ok (n ())) F0_ok
noncomputable def Fa2 : Table := addA 42 (ctx Tryd.f42) (mkO F0) (body Tryd.f42) 8 (addA 41 (ctx Tryd.f41) (mkO F0) (body Tryd.f41) 8 Fa1)
theorem Fa2_ok : TableOK Tryd.prog G0 Fa2 := addA_ok (⟨Tryd.func42, rfl, rfl, rfl, ⟨rfl, rfl⟩, ok _⟩ : FN 42 Tryd.f42) (mkO_ok F0_ok) (addA_ok (⟨Tryd.func41, rfl, rfl, rfl, ⟨rfl, rfl⟩, ok _⟩ : FN 41 Tryd.f41) (mkO_ok F0_ok) Fa1_ok)
theorem fn_and (x y : Int) : PF 38 (.cons (u64 x) (.cons (u64 y) .nil)) (u64 (bitAnd .u64 x y)) := by
  refine (⟨Tryd.func38, rfl, rfl, rfl, ⟨rfl, rfl⟩, ok _⟩ : FN 38 Tryd.f38).tree (mkO_ok F0_ok) true 40 rfl ?_
  conv => arg 5; cbv
  exact ⟨rfl, rfl, rfl⟩
theorem fn_or (x y : Int) : PF 37 (.cons (u64 x) (.cons (u64 y) .nil)) (u64 (bitOr .u64 x y)) := by
  refine (⟨Tryd.func37, rfl, rfl, rfl, ⟨rfl, rfl⟩, ok _⟩ : FN 37 Tryd.f37).tree (mkO_ok F0_ok) true 40 rfl ?_
  conv => arg 5; cbv
  exact ⟨rfl, rfl, rfl⟩
theorem fn_less (x y : Int) : PF 39 (.cons (u64 x) (.cons (u64 y) .nil)) (u64 (bitAndNot .u64 x y)) := by
  refine (⟨Tryd.func39, rfl, rfl, rfl, ⟨rfl, rfl⟩, ok _⟩ : FN 39 Tryd.f39).tree (mkO_ok F0_ok) true 40 rfl ?_
  conv => arg 5; cbv
  exact ⟨rfl, rfl, rfl⟩
noncomputable def Fa3 : Table := addS 38 (.cons (.int .u64) (.cons (.int .u64) .nil)) (fun x y => (.int .u64 fun _ => bitAnd .u64 (x ()) (y ()), [])) (addS 37 (.cons (.int .u64) (.cons (.int .u64) .nil)) (fun x y => (.int .u64 fun _ => bitOr .u64 (x ()) (y ()), []))
  (addS 39 (.cons (.int .u64) (.cons (.int .u64) .nil)) (fun x y => (.int .u64 fun _ => bitAndNot .u64 (x ()) (y ()), [])) Fa2))
theorem Fa3_ok : TableOK Tryd.prog G0 Fa3 := addS_ok (⟨Tryd.func38, rfl, rfl, rfl, ⟨rfl, rfl⟩, ok _⟩ : FN 38 Tryd.f38).callable (fun x y _ => fn_and (x ()) (y ())) (addS_ok (⟨Tryd.func37, rfl, rfl, rfl, ⟨rfl, rfl⟩, ok _⟩ : FN 37 Tryd.f37).callable (fun x y _ => fn_or (x ()) (y ())) (addS_ok (⟨Tryd.func39, rfl, rfl, rfl, ⟨rfl, rfl⟩, ok _⟩ : FN 39 Tryd.f39).callable (fun x y _ => fn_less (x ()) (y ())) Fa2_ok))

/-! ### Range -/
abbrev between := inRange
def clampTo (b : Int) : Int := if 255 < (if b < -1 then -1 else b) then 255 else (if b < -1 then -1 else b)
def rword (a b : Int) (i : Int) : Int := bitAndNot .u64 (below (IntKind.i64.wrap (IntKind.i64.wrap (clampTo b - IntKind.i64.wrap (i * 64)) + 1))) (below (IntKind.i64.wrap ((if a < 0 then 0 else a) - IntKind.i64.wrap (i * 64))))
def rwords (a b i : Int) : List Int := (List.range 4).map fun (w : Nat) => if (w : Int) < i then rword a b w else 0
theorem rwords_set (a b i : Int) (h0 : 0 ≤ i) (h1 : i < 4) : (rwords a b i).set i.toNat (rword a b i) = rwords a b (i + 1) := by
  have : i = 0 ∨ i = 1 ∨ i = 2 ∨ i = 3 := by omega
  rcases this with rfl | rfl | rfl | rfl <;> simp [rwords, List.range, List.range.loop]
theorem rword_eq (a b : Int) {w : Nat} (hw : w < 4) (ha : a ≤ 9223372036854775807) : rword a b w = W (between a b) w := by
  have hc : -1 ≤ clampTo b ∧ clampTo b ≤ 255 := by unfold clampTo; omega
  have hc1 : b < -1 → clampTo b = -1 := by unfold clampTo; omega
  have hc2 : 255 < b → clampTo b = 255 := by unfold clampTo; omega
  have hc3 : -1 ≤ b → b ≤ 255 → clampTo b = b := by unfold clampTo; omega
  unfold rword
  rw [IntWalk.i64_in ((w : Int) * 64) ⟨by omega, by omega⟩, IntWalk.i64_in (clampTo b - (w : Int) * 64) ⟨by omega, by omega⟩, IntWalk.i64_in (clampTo b - (w : Int) * 64 + 1) ⟨by omega, by omega⟩,
    IntWalk.i64_in ((if a < 0 then 0 else a) - (w : Int) * 64) ⟨by split <;> omega, by split <;> omega⟩]
  unfold below
  rw [andNot_nat (wd_lt _ _) (wd_lt _ _)]
  unfold W
  congr 1
  apply wd_ext
  intro i hi
  rw [wd_bit, wd_bit]
  simp only [hi, decide_true, Bool.true_and, between, inRange]
  rw [Bool.eq_iff_iff]
  simp only [Bool.and_eq_true, decide_eq_true_eq, Bool.not_eq_true', decide_eq_false_iff_not]
  push_cast
  split <;> omega
theorem rwords_eq (a b : Int) (ha : a ≤ 9223372036854775807) : rwords a b 4 = setOf (between a b) := by
  unfold setOf
  rw [← rword_eq a b (w := 0) (by omega) ha, ← rword_eq a b (w := 1) (by omega) ha, ← rword_eq a b (w := 2) (by omega) ha, ← rword_eq a b (w := 3) (by omega) ha]
  rfl
def rA (a b i : Int) : Env := [(11, i64 i), (1, .int .i64 fun _ => clampTo b), (5, .ptr 1 0), (4, .ptr 0 0), (0, i64 a)]
def rS (a b i : Int) : Store := [(0, .var (.arrI .u64 4 fun _ => List.replicate 4 0)), (1, .var (.arrI .u64 4 fun _ => rwords a b i))]
set_option maxRecDepth 20000 in
theorem range_ok (a b : Int) (ha : a ≤ 9223372036854775807) : PF 25 (.cons (i64 a) (.cons (i64 b) .nil)) (.arrI .u64 4 fun _ => setOf (between a b)) := by
  refine (⟨Tryd.func25, rfl, rfl, rfl, ⟨rfl, rfl⟩, ok _⟩ : FN 25 Tryd.f25).tree (mkO_ok Fa1_ok) false 40 rfl ?_
  conv => arg 5; cbv
  refine run_move (σ := fun i => i) (n := 2) (A := rA a b 0) (S := rS a b 0) (by rfl) ?_ (by rfl) (by rfl) (by rfl) (by rfl) (by rfl) ?_ ?_
  · refine run_loop (ι := Int) (fun i => (4 - i).toNat) (rA a b) (rS a b) 2 (fun i => 0 ≤ i ∧ i ≤ 4) (by rfl) ?_ 0 ⟨by omega, by omega⟩
    intro i hi ih
    refine explore_ok (ok _) (mkO_ok Fa1_ok) (u := false) 20 _ rfl ?_
    conv => arg 5; cbv
    refine ⟨fun h => ?_, fun h => ?_⟩
    · simp only [decide_eq_true_eq] at h
      have hw : IntKind.i64.wrap (i + 1) = i + 1 := IntWalk.i64_in _ ⟨by omega, by omega⟩
      refine ⟨?_, run_move (σ := fun i => i) (n := 2) (A := rA a b (i + 1)) (S := rS a b (i + 1)) (by rfl) (ih (i + 1) ⟨by omega, by omega⟩ (by omega)) (by rfl) (by rfl) (by rfl) (by rfl) (by rfl) ?_ ?_⟩
      · exact ⟨⟨hi.1, h⟩, ⟨hi.1, h⟩, trivial⟩
      · exact ⟨⟨rfl, hw⟩, ⟨rfl, rfl⟩, rfl, rfl, ⟨rfl, rfl⟩, trivial⟩
      · exact ⟨⟨rfl, rfl, rfl⟩, ⟨rfl, rfl, rwords_set a b i hi.1 h⟩, trivial⟩
    · simp only [decide_eq_false_iff_not] at h
      obtain rfl : i = 4 := by omega
      exact ⟨rfl, rfl, rfl, rwords_eq a b ha⟩
  · exact ⟨⟨rfl, rfl⟩, ⟨rfl, rfl⟩, rfl, rfl, ⟨rfl, rfl⟩, trivial⟩
  · exact ⟨⟨rfl, rfl, rfl⟩, ⟨rfl, rfl, by simp [rwords, List.range, List.range.loop]⟩, trivial⟩
noncomputable def Fa4 : Table := addS 25 (.cons (.int .i64) (.cons (.int .i64) .nil)) (fun a b => (.arrI .u64 4 fun _ => setOf (between (a ()) (b ())), [fun _ => a () ≤ 9223372036854775807])) Fa3
theorem Fa4_ok : TableOK Tryd.prog G0 Fa4 := addS_ok (⟨Tryd.func25, rfl, rfl, rfl, ⟨rfl, rfl⟩, ok _⟩ : FN 25 Tryd.f25).callable (fun a b h => range_ok (a ()) (b ()) h.1) Fa3_ok
end Go.Proofs.YtdikfhjpnfffnabDoor
