/- TOPO: parts that are free as a whole. -/
import Derived.Test.YtdikfhjpnfffnaaDoorTopoA
set_option maxRecDepth 2000
set_option linter.unusedVariables false
set_option linter.unusedSimpArgs false
set_option linter.unusedVariables false
set_option linter.unusedSimpArgs false
namespace Go.Proofs.YtdikfhjpnfffnaaDoor
open Go Go.Abs Go.Proofs
def sockP (s c t n : Int) : Nat → Bool := partP s c t n (c * t) s
def coreP (s c t n : Int) : Nat → Bool := partP s c t n t (s * c)
theorem prod2 {a b : Int} {m n : Int} (h1 : 1 ≤ a) (h2 : a ≤ m) (h3 : 1 ≤ b) (h4 : b ≤ n) : 1 ≤ a * b ∧ a * b ≤ m * n := by
  have := Int.mul_le_mul h2 h4 (by omega) (by omega)
  have : 1 * 1 ≤ a * b := Int.mul_le_mul h1 h3 (by omega) (by omega)
  omega
theorem right_prods {s c t : Int} (h : right s c t = true) : 1 ≤ c * t ∧ c * t ≤ 256 ∧ 1 ≤ s * c ∧ s * c ≤ 256 := by
  obtain ⟨h1, h2, h3, h4, h5, h6, h7⟩ := right_iff.1 h
  have a := prod2 h3 h4 h5 h6
  have b := prod2 h1 h2 h3 h4
  have e : s * c * t = s * (c * t) := Int.mul_assoc _ _ _
  have k1 : 1 * (c * t) ≤ s * (c * t) := Int.mul_le_mul_of_nonneg_right h1 (by omega)
  have k2 : s * c * 1 ≤ s * c * t := Int.mul_le_mul_of_nonneg_left h5 (by omega)
  omega
theorem partP_congr {s c t n z z' p p' : Int} (h : right s c t = true → z = z' ∧ p = p') : partP s c t n z p = partP s c t n z' p' := by
  cases hr : right s c t
  · funext i; simp only [partP, hr, Bool.false_and]
  · rw [(h hr).1, (h hr).2]
theorem socket_ok (s c t n : Int) : PF 15 (.cons (top s c t) (.cons (i64 n) .nil)) (.arrI .u64 4 fun _ => setOf (sockP s c t n)) := by
  refine (⟨Tryd.func15, rfl, rfl, rfl, rfl, ok _⟩ : FN 15 Tryd.f15).tree (mkO_ok Fp4_ok) true 40 rfl ?_
  conv => arg 5; cbv
  have hw : right s c t = true → IntKind.i64.wrap (c * t) = c * t := fun h => by
    have := right_prods h
    exact IntWalk.i64_in _ ⟨by omega, by omega⟩
  refine ⟨⟨fun h => ?_, trivial⟩, rfl, rfl, rfl, ?_⟩
  · show 0 ≤ IntKind.i64.wrap (c * t) ∧ IntKind.i64.wrap (c * t) ≤ 256 ∧ s ≤ 512
    have h : right s c t = true := h
    have := right_prods h
    have := right_iff.1 h
    rw [hw h]
    omega
  · show setOf (partP s c t n (IntKind.i64.wrap (c * t)) s) = setOf (sockP s c t n)
    rw [sockP, partP_congr fun h => ⟨hw h, rfl⟩]
theorem core_ok (s c t n : Int) : PF 16 (.cons (top s c t) (.cons (i64 n) .nil)) (.arrI .u64 4 fun _ => setOf (coreP s c t n)) := by
  refine (⟨Tryd.func16, rfl, rfl, rfl, rfl, ok _⟩ : FN 16 Tryd.f16).tree (mkO_ok Fp4_ok) true 40 rfl ?_
  conv => arg 5; cbv
  have hw : right s c t = true → IntKind.i64.wrap (s * c) = s * c := fun h => by
    have := right_prods h
    exact IntWalk.i64_in _ ⟨by omega, by omega⟩
  refine ⟨⟨fun h => ?_, trivial⟩, rfl, rfl, rfl, ?_⟩
  · show 0 ≤ t ∧ t ≤ 256 ∧ IntKind.i64.wrap (s * c) ≤ 512
    have h : right s c t = true := h
    have := right_prods h
    have := right_iff.1 h
    rw [hw h]
    omega
  · show setOf (partP s c t n t (IntKind.i64.wrap (s * c))) = setOf (coreP s c t n)
    rw [coreP, partP_congr fun h => ⟨rfl, hw h⟩]
noncomputable def Fp5 : Table := addS 15 (.cons shTop (.cons (.int .i64) .nil)) (fun s c t n => (.arrI .u64 4 fun _ => setOf (sockP (s ()) (c ()) (t ()) (n ())), []))
  (addS 16 (.cons shTop (.cons (.int .i64) .nil)) (fun s c t n => (.arrI .u64 4 fun _ => setOf (coreP (s ()) (c ()) (t ()) (n ())), [])) Fp4)
theorem Fp5_ok : TableOK Tryd.prog G0 Fp5 := addS_ok (⟨Tryd.func15, rfl, rfl, rfl, rfl, ok _⟩ : FN 15 Tryd.f15).callable (fun s c t n _ => socket_ok (s ()) (c ()) (t ()) (n ())) (addS_ok (⟨Tryd.func16, rfl, rfl, rfl, rfl, ok _⟩ : FN 16 Tryd.f16).callable (fun s c t n _ => core_ok (s ()) (c ()) (t ()) (n ())) Fp4_ok)
noncomputable def Fp6 : Table := addA 33 (ctx Tryd.f33) (mkO Fp5) (body Tryd.f33) 8 (addA 34 (ctx Tryd.f34) (mkO Fp5) (body Tryd.f34) 8 (addA 21 (ctx Tryd.f21) (mkO Fp5) (body Tryd.f21) 8 Fp5))
theorem Fp6_ok : TableOK Tryd.prog G0 Fp6 := addA_ok (⟨Tryd.func33, rfl, rfl, rfl, rfl, ok _⟩ : FN 33 Tryd.f33) (mkO_ok Fp5_ok) (addA_ok (⟨Tryd.func34, rfl, rfl, rfl, rfl, ok _⟩ : FN 34 Tryd.f34) (mkO_ok Fp5_ok) (addA_ok (⟨Tryd.func21, rfl, rfl, rfl, rfl, ok _⟩ : FN 21 Tryd.f21) (mkO_ok Fp5_ok) Fp5_ok))
def wholeL (P : Int → Nat → Bool) (q : Nat → Bool) (k : Nat) : List Int := ((List.range k).filter fun (n : Nat) => sub (P (n : Int)) q).map fun (n : Nat) => (n : Int)
def frz (s c t : Int) : PV := .eptr 3 (fun _ => 1) (fun _ => top s c t) (fun _ => 0) 0
theorem wholeL_step (P : Int → Nat → Bool) (q : Nat → Bool) (k : Nat) : wholeL P q (k + 1) = if sub (P (k : Int)) q then wholeL P q k ++ [(k : Int)] else wholeL P q k := by
  unfold wholeL
  rw [List.range_succ, List.filter_append, List.map_append]
  cases h : sub (P (k : Int)) q <;> simp [h]
theorem wholeL_len (P : Int → Nat → Bool) (q : Nat → Bool) (k : Nat) : (wholeL P q k).length ≤ k := by
  unfold wholeL
  rw [List.length_map]
  have := List.length_filter_le (fun (n : Nat) => sub (P (n : Int)) q) (List.range k)
  simpa using this
theorem sub_setOf (p q : Nat → Bool) : sub (bitAt (setOf p)) (bitAt (setOf q)) = sub p q := by
  rw [Bool.eq_iff_iff, sub_iff, sub_iff]
  refine forall_congr' fun i => forall_congr' fun hi => ?_
  rw [bitAt_setOf hi, bitAt_setOf hi]
theorem wholeL_nrm (P : Int → Nat → Bool) (q : Nat → Bool) (k : Nat) : wholeL P (bitAt (setOf q)) k = wholeL P q k := by
  unfold wholeL
  congr 1
  apply List.filter_congr
  intro n _
  rw [Bool.eq_iff_iff, sub_iff, sub_iff]
  refine forall_congr' fun i => forall_congr' fun hi => ?_
  rw [bitAt_setOf hi]
def wS (q : Nat → Bool) : Store := [(1, .own 1 3), (0, .var (.arrI .u64 4 fun _ => setOf q))]
def ren21w : Nat → Nat := fun i => bif beqN i 1 then 2 else i
def wA_one (s c t parts : Int) (q : Nat → Bool) (i : Int) : Env := [(10, .int .i64 fun _ => i), (9, .int .i64 fun _ => parts), (7, .slice (some 1) 1 (fun _ => ((wholeL (sockP s c t) q i.toNat).length : Int)) fun j => .int .i64 fun _ => (wholeL (sockP s c t) q i.toNat).getD (j ()).toNat 0), (3, .ptr 0 0), (2, .func (.func 33) .nil (.cons (.eptr 3 (fun _ => 1) (fun _ => top s c t) (fun _ => 0) 0) .nil))]
theorem whole_one (s c t parts : Int) (q : Nat → Bool) (h0 : 0 ≤ parts) (h1 : parts ≤ 512) : PF 32 (.cons (.arrI .u64 4 fun _ => setOf q) (.cons (i64 parts) (.cons (.func (.func 33) .nil (.cons (frz s c t) .nil)) .nil))) (Sh.mkL 1 (.int .i64) fun _ => wholeL (sockP s c t) q parts.toNat) := by
  refine (⟨Tryd.func32, rfl, rfl, rfl, rfl, ok _⟩ : FN 32 Tryd.f32).tree (mkO_ok Fp6_ok) false 40 rfl ?_
  conv => arg 5; cbv
  refine run_own (A := _) 7 1 3 (.int .i64 fun _ => 0) (by rfl) (by rfl) (by rfl) ?_
  refine run_inv (ι := Int) (fun i => (parts - i).toNat) (fun i => 0 ≤ i ∧ i ≤ parts) (wA_one s c t parts q) (fun _ => wS q) 2 0 (fun i => i) (by rfl) (by rfl) ⟨by omega, h0⟩ ?_ ?_ ?_
  · intro i hi ih
    refine explore_ok (ok _) (mkO_ok Fp6_ok) (u := false) 20 _ rfl ?_
    conv => arg 5; cbv
    refine ⟨fun h => ?_, fun h => ?_⟩
    · simp only [decide_eq_true_eq, Int.ofNat_eq_natCast, cast_fold] at h
      have hw : IntKind.i64.wrap (i + 1) = i + 1 := IntWalk.i64_in _ ⟨by omega, by omega⟩
      have hn : (i + 1).toNat = i.toNat + 1 := by omega
      have hl := wholeL_len (sockP s c t) q i.toNat
      have hs := wholeL_step (sockP s c t) q i.toNat
      rw [show ((i.toNat : Nat) : Int) = i by omega] at hs
      refine ⟨⟨⟨okSet_setOf _, okSet_setOf _⟩, by (repeat' (first | exact trivial | exact okSet_setOf _ | omega | (dsimp only; omega) | (dsimp; omega) | ((try dsimp only); (try simp only [cast_fold, Int.ofNat_eq_natCast]); omega) | refine ⟨?_, ?_⟩ | (show drawOK _ _ = true; conv => lhs; cbv) | decide | assumption | fail)), trivial⟩, fun h2 => ?_, fun h2 => ?_⟩
      · have h2 : sub (bitAt (setOf (sockP s c t i))) (bitAt (setOf q)) = true := h2
        rw [sub_setOf] at h2
        rw [h2, if_pos rfl] at hs
        refine ⟨⟨⟨by decide, ?_⟩, trivial⟩, ih (i + 1) ren21w ⟨by omega, by omega⟩ (by omega) (by rfl) ⟨⟨rfl, hw⟩, impP_refl _, ?_, impP_refl _, impP_refl _, trivial⟩ ⟨⟨rfl, rfl⟩, ⟨rfl, rfl, rfl⟩, trivial⟩⟩
        · show (((wholeL (sockP s c t) q i.toNat).length : Int) + 1) * 8 ≤ 140737488355328
          omega
        · rw [hn, hs]
          exact push_imp (.int .i64) (some 2) 1 (wholeL (sockP s c t) q i.toNat) i
      · have h2 : sub (bitAt (setOf (sockP s c t i))) (bitAt (setOf q)) = false := h2
        rw [sub_setOf] at h2
        rw [h2, if_neg (by decide)] at hs
        refine ih (i + 1) (fun i => i) ⟨by omega, by omega⟩ (by omega) (by rfl) ⟨⟨rfl, hw⟩, impP_refl _, ?_, impP_refl _, impP_refl _, trivial⟩ ⟨⟨rfl, rfl⟩, ⟨rfl, rfl, rfl⟩, trivial⟩
        rw [hn, hs]
        exact impP_refl _
    · simp only [decide_eq_false_iff_not, Int.ofNat_eq_natCast, cast_fold] at h
      obtain rfl : i = parts := by omega
      exact ⟨rfl, .inl rfl, rfl, rfl, fun j _ _ => impP_refl _⟩
  · exact ⟨impP_refl _, impP_refl _, ⟨.inr rfl, rfl, rfl, fun j h0 h1 => absurd h1 (by show ¬ j < 0; omega)⟩, impP_refl _, impP_refl _, trivial⟩
  · (repeat' (first | exact trivial | rfl | assumption | exact impP_refl _ | refine ⟨?_, ?_⟩ | fail))
def wA_two (s c t parts : Int) (q : Nat → Bool) (i : Int) : Env := [(10, .int .i64 fun _ => i), (9, .int .i64 fun _ => parts), (7, .slice (some 1) 1 (fun _ => ((wholeL (coreP s c t) q i.toNat).length : Int)) fun j => .int .i64 fun _ => (wholeL (coreP s c t) q i.toNat).getD (j ()).toNat 0), (3, .ptr 0 0), (2, .func (.func 34) .nil (.cons (.eptr 3 (fun _ => 1) (fun _ => top s c t) (fun _ => 0) 0) .nil))]
theorem whole_two (s c t parts : Int) (q : Nat → Bool) (h0 : 0 ≤ parts) (h1 : parts ≤ 512) : PF 32 (.cons (.arrI .u64 4 fun _ => setOf q) (.cons (i64 parts) (.cons (.func (.func 34) .nil (.cons (frz s c t) .nil)) .nil))) (Sh.mkL 1 (.int .i64) fun _ => wholeL (coreP s c t) q parts.toNat) := by
  refine (⟨Tryd.func32, rfl, rfl, rfl, rfl, ok _⟩ : FN 32 Tryd.f32).tree (mkO_ok Fp6_ok) false 40 rfl ?_
  conv => arg 5; cbv
  refine run_own (A := _) 7 1 3 (.int .i64 fun _ => 0) (by rfl) (by rfl) (by rfl) ?_
  refine run_inv (ι := Int) (fun i => (parts - i).toNat) (fun i => 0 ≤ i ∧ i ≤ parts) (wA_two s c t parts q) (fun _ => wS q) 2 0 (fun i => i) (by rfl) (by rfl) ⟨by omega, h0⟩ ?_ ?_ ?_
  · intro i hi ih
    refine explore_ok (ok _) (mkO_ok Fp6_ok) (u := false) 20 _ rfl ?_
    conv => arg 5; cbv
    refine ⟨fun h => ?_, fun h => ?_⟩
    · simp only [decide_eq_true_eq, Int.ofNat_eq_natCast, cast_fold] at h
      have hw : IntKind.i64.wrap (i + 1) = i + 1 := IntWalk.i64_in _ ⟨by omega, by omega⟩
      have hn : (i + 1).toNat = i.toNat + 1 := by omega
      have hl := wholeL_len (coreP s c t) q i.toNat
      have hs := wholeL_step (coreP s c t) q i.toNat
      rw [show ((i.toNat : Nat) : Int) = i by omega] at hs
      refine ⟨⟨⟨okSet_setOf _, okSet_setOf _⟩, by (repeat' (first | exact trivial | exact okSet_setOf _ | omega | (dsimp only; omega) | (dsimp; omega) | ((try dsimp only); (try simp only [cast_fold, Int.ofNat_eq_natCast]); omega) | refine ⟨?_, ?_⟩ | (show drawOK _ _ = true; conv => lhs; cbv) | decide | assumption | fail)), trivial⟩, fun h2 => ?_, fun h2 => ?_⟩
      · have h2 : sub (bitAt (setOf (coreP s c t i))) (bitAt (setOf q)) = true := h2
        rw [sub_setOf] at h2
        rw [h2, if_pos rfl] at hs
        refine ⟨⟨⟨by decide, ?_⟩, trivial⟩, ih (i + 1) ren21w ⟨by omega, by omega⟩ (by omega) (by rfl) ⟨⟨rfl, hw⟩, impP_refl _, ?_, impP_refl _, impP_refl _, trivial⟩ ⟨⟨rfl, rfl⟩, ⟨rfl, rfl, rfl⟩, trivial⟩⟩
        · show (((wholeL (coreP s c t) q i.toNat).length : Int) + 1) * 8 ≤ 140737488355328
          omega
        · rw [hn, hs]
          exact push_imp (.int .i64) (some 2) 1 (wholeL (coreP s c t) q i.toNat) i
      · have h2 : sub (bitAt (setOf (coreP s c t i))) (bitAt (setOf q)) = false := h2
        rw [sub_setOf] at h2
        rw [h2, if_neg (by decide)] at hs
        refine ih (i + 1) (fun i => i) ⟨by omega, by omega⟩ (by omega) (by rfl) ⟨⟨rfl, hw⟩, impP_refl _, ?_, impP_refl _, impP_refl _, trivial⟩ ⟨⟨rfl, rfl⟩, ⟨rfl, rfl, rfl⟩, trivial⟩
        rw [hn, hs]
        exact impP_refl _
    · simp only [decide_eq_false_iff_not, Int.ofNat_eq_natCast, cast_fold] at h
      obtain rfl : i = parts := by omega
      exact ⟨rfl, .inl rfl, rfl, rfl, fun j _ _ => impP_refl _⟩
  · exact ⟨impP_refl _, impP_refl _, ⟨.inr rfl, rfl, rfl, fun j h0 h1 => absurd h1 (by show ¬ j < 0; omega)⟩, impP_refl _, impP_refl _, trivial⟩
  · (repeat' (first | exact trivial | rfl | assumption | exact impP_refl _ | refine ⟨?_, ?_⟩ | fail))
def shFrz : Sh := .eptr 3 shTop
noncomputable def Fp7 : Table := addS 32 (.cons shSet (.cons (.int .i64) (.cons (.fnv 33 (.cons shFrz .nil)) .nil))) (fun q k s c t => (Sh.mkL 1 (.int .i64) fun _ => wholeL (sockP (s ()) (c ()) (t ())) (bitAt (q ())) (k ()).toNat, [fun _ => okSet (q ()) ∧ 0 ≤ k () ∧ k () ≤ 512]))
  (addS 32 (.cons shSet (.cons (.int .i64) (.cons (.fnv 34 (.cons shFrz .nil)) .nil))) (fun q k s c t => (Sh.mkL 1 (.int .i64) fun _ => wholeL (coreP (s ()) (c ()) (t ())) (bitAt (q ())) (k ()).toNat, [fun _ => okSet (q ()) ∧ 0 ≤ k () ∧ k () ≤ 512])) Fp6)
theorem Fp7_ok : TableOK Tryd.prog G0 Fp7 := by
  refine addS_ok (⟨Tryd.func32, rfl, rfl, rfl, rfl, ok _⟩ : FN 32 Tryd.f32).callable (fun q _ k s c t h => ?_) (addS_ok (⟨Tryd.func32, rfl, rfl, rfl, rfl, ok _⟩ : FN 32 Tryd.f32).callable (fun q _ k s c t h => ?_) Fp6_ok)
  · have := whole_one (s ()) (c ()) (t ()) (k ()) (bitAt (q ())) h.1.2.1 h.1.2.2
    rw [setP_bitAt h.1.1] at this
    exact this
  · have := whole_two (s ()) (c ()) (t ()) (k ()) (bitAt (q ())) h.1.2.1 h.1.2.2
    rw [setP_bitAt h.1.1] at this
    exact this
def wholeS (s c t : Int) (q : Nat → Bool) : List Int := bif right s c t then wholeL (sockP s c t) q s.toNat else []
def wholeC (s c t : Int) (q : Nat → Bool) : List Int := bif right s c t then wholeL (coreP s c t) q (s * c).toNat else []
theorem Whole_ok (s c t : Int) (q : Nat → Bool) : PF 19 (.cons (top s c t) (.cons (.arrI .u64 4 fun _ => setOf q) .nil)) (.tuple (.cons (Sh.mkL 1 (.int .i64) fun _ => wholeS s c t q) (.cons (Sh.mkL 1 (.int .i64) fun _ => wholeC s c t q) .nil))) := by
  refine (⟨Tryd.func19, rfl, rfl, rfl, rfl, ok _⟩ : FN 19 Tryd.f19).tree (mkO_ok Fp7_ok) false 1 rfl ?_
  conv => arg 5; cbv
  refine ⟨fun h => ?_, fun h => ?_⟩
  · have h : (!right s c t) = true := h
    rw [Bool.not_eq_true'] at h
    refine explore_ok (ok _) (mkO_ok Fp7_ok) (u := false) 20 _ rfl ?_
    conv => arg 5; cbv
    simp only [wholeS, wholeC, h, cond_false]
    (repeat' (first | exact trivial | rfl | exact impP_refl _ | exact okSet_setOf _ | (intro h; try simp only [decide_eq_true_eq, decide_eq_false_iff_not, Int.ofNat_eq_natCast, cast_fold, Bool.not_eq_true', Bool.not_eq_false', bne_iff_ne, beq_iff_eq, Bool.and_eq_true, Bool.or_eq_true] at h) | refine ⟨?_, ?_⟩ | (show drawOK _ _ = true; conv => lhs; cbv) | fail))
  · have h : (!right s c t) = false := h
    rw [Bool.not_eq_false'] at h
    have hR := right_iff.1 h
    have hP := right_prods h
    have hw : IntKind.i64.wrap (s * c) = s * c := IntWalk.i64_in _ ⟨by omega, by omega⟩
    refine Go.Abs.run_freeze 0 (top s c t) (by rfl) (by rfl) (by rfl) ?_
    refine explore_ok (ok _) (mkO_ok Fp7_ok) (u := false) 20 _ rfl ?_
    conv => arg 5; cbv
    simp only [wholeS, wholeC, h, cond_true, wholeL_nrm, hw]
    (repeat' (first | exact trivial | rfl | exact impP_refl _ | exact okSet_setOf _ | (intro h; try simp only [decide_eq_true_eq, decide_eq_false_iff_not, Int.ofNat_eq_natCast, cast_fold, Bool.not_eq_true', Bool.not_eq_false', bne_iff_ne, beq_iff_eq, Bool.and_eq_true, Bool.or_eq_true] at h) | refine ⟨?_, ?_⟩ | (show drawOK _ _ = true; conv => lhs; cbv) | fail))
    all_goals omega
theorem Free_ok (s c t n : Int) (q : Nat → Bool) : PF 21 (.cons (top s c t) (.cons (.arrI .u64 4 fun _ => setOf q) (.cons (i64 n) .nil))) (.int .i64 fun _ => ((cnt (fun i => q i && coreP s c t n i) 256 : Nat) : Int)) := by
  refine (⟨Tryd.func21, rfl, rfl, rfl, rfl, ok _⟩ : FN 21 Tryd.f21).tree (mkO_ok Fp7_ok) false 20 rfl ?_
  conv => arg 5; cbv
  have e : cnt (bitAt (setOf fun i => bitAt (setOf q) i && bitAt (setOf (coreP s c t n)) i)) 256 = cnt (fun i => q i && coreP s c t n i) 256 := by
    apply cnt_ext
    intro i hi
    rw [bitAt_setOf hi, bitAt_setOf hi, bitAt_setOf hi]
  simp only [e]
  (repeat' (first | exact trivial | rfl | exact impP_refl _ | exact okSet_setOf _ | (intro h; try simp only [decide_eq_true_eq, decide_eq_false_iff_not, Int.ofNat_eq_natCast, cast_fold, Bool.not_eq_true', Bool.not_eq_false', bne_iff_ne, beq_iff_eq, Bool.and_eq_true, Bool.or_eq_true] at h) | refine ⟨?_, ?_⟩ | (show drawOK _ _ = true; conv => lhs; cbv) | fail))
noncomputable def Fp8 : Table := addS 19 (.cons shTop (.cons shSet .nil)) (fun s c t q => (.tuple (.cons (Sh.mkL 1 (.int .i64) fun _ => wholeS (s ()) (c ()) (t ()) (bitAt (q ()))) (.cons (Sh.mkL 1 (.int .i64) fun _ => wholeC (s ()) (c ()) (t ()) (bitAt (q ()))) .nil)), [fun _ => okSet (q ())]))
  (addS 21 (.cons shTop (.cons shSet (.cons (.int .i64) .nil))) (fun s c t q n => (.int .i64 fun _ => ((cnt (fun i => bitAt (q ()) i && coreP (s ()) (c ()) (t ()) (n ()) i) 256 : Nat) : Int), [fun _ => okSet (q ())])) Fp7)
theorem Fp8_ok : TableOK Tryd.prog G0 Fp8 := by
  refine addS_ok (⟨Tryd.func19, rfl, rfl, rfl, rfl, ok _⟩ : FN 19 Tryd.f19).callable (fun s c t q _ h => ?_) (addS_ok (⟨Tryd.func21, rfl, rfl, rfl, rfl, ok _⟩ : FN 21 Tryd.f21).callable (fun s c t q _ n h => ?_) Fp7_ok)
  · have := Whole_ok (s ()) (c ()) (t ()) (bitAt (q ()))
    rw [setP_bitAt h.1] at this
    exact this
  · have := Free_ok (s ()) (c ()) (t ()) (n ()) (bitAt (q ()))
    rw [setP_bitAt h.1] at this
    exact this
end Go.Proofs.YtdikfhjpnfffnaaDoor
