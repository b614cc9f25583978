/- TOPO: the document's rows. -/
import Derived.Test.YtdikfhjpnfffnaaDoorTopoB
import Derived.Test.YtdikfhjpnfffnaaDoorCsRef
set_option maxRecDepth 2000
set_option linter.unusedVariables false
set_option linter.unusedSimpArgs false
set_option linter.unusedVariables false
set_option linter.unusedSimpArgs false
namespace Go.Proofs.YtdikfhjpnfffnaaDoor
open Go Go.Abs Go.Proofs
def cont (c t : Int) : (Unit → Int) → PV := fun j => .agg (.cons (.int .i64 fun _ => j () / (c * t)) (.cons (.int .i64 fun _ => j () / t % c) (.cons (.int .i64 fun _ => j () % t) .nil)))
def inv1 (c t : Int) (i : Int) : Env := [(4, .int .i64 fun _ => i), (3, .slice (some 1) 3 (fun _ => i * c * t) (cont c t)), (1, .ptr 0 0)]
def inv2 (c t : Int) (i j : Int) : Env := [(5, .int .i64 fun _ => j), (4, .int .i64 fun _ => i), (3, .slice (some 1) 3 (fun _ => (i * c + j) * t) (cont c t)), (1, .ptr 0 0)]
def inv3 (c t : Int) (i j k : Int) : Env := [(6, .int .i64 fun _ => k), (5, .int .i64 fun _ => j), (4, .int .i64 fun _ => i), (3, .slice (some 1) 3 (fun _ => (i * c + j) * t + k) (cont c t)), (1, .ptr 0 0)]
def st1 (s c t : Int) : Store := [(1, .own 3 35), (0, .var (top s c t))]
theorem cont_at {i j k c t : Int} (hk : 0 ≤ k ∧ k < t) (hj : 0 ≤ j ∧ j < c) : ((i * c + j) * t + k) / (c * t) = i ∧ ((i * c + j) * t + k) / t % c = j ∧ ((i * c + j) * t + k) % t = k := by
  have h1 : ((i * c + j) * t + k) / t = i * c + j := by
    rw [Int.add_comm, Int.add_mul_ediv_right _ _ (by omega), Int.ediv_eq_zero_of_lt hk.1 hk.2]; omega
  have h2 : (i * c + j) / c = i := by
    rw [Int.add_comm, Int.add_mul_ediv_right _ _ (by omega), Int.ediv_eq_zero_of_lt hj.1 hj.2]; omega
  refine ⟨?_, ?_, ?_⟩
  · rw [Int.mul_comm c t, ← Int.ediv_ediv_of_nonneg (by omega), h1, h2]
  · rw [h1, Int.add_comm, Int.add_mul_emod_self_right, Int.emod_eq_of_lt hj.1 hj.2]
  · rw [Int.add_comm, Int.add_mul_emod_self_right, Int.emod_eq_of_lt hk.1 hk.2]
theorem prod_lt {i j k s c t : Int} (h1 : i < s) (hj : 0 ≤ j) (h2 : j < c) (hk : 0 ≤ k) (h3 : k < t) : (i * c + j) * t + k < s * c * t := by
  have a1 : (i + 1) * c ≤ s * c := Int.mul_le_mul_of_nonneg_right (by omega) (by omega)
  have a2 : (i * c + j + 1) * t ≤ (s * c) * t := Int.mul_le_mul_of_nonneg_right (by rw [Int.add_mul] at a1; omega) (by omega)
  rw [Int.add_mul] at a2
  omega
theorem rows_ok (s c t : Int) : PF 7 (.cons (top s c t) .nil) (.slice none 3 (fun _ => count s c t) (cont c t)) := by
  refine (⟨Tryd.func7, rfl, rfl, rfl, rfl, ok _⟩ : FN 7 Tryd.f7).tree (mkO_ok Fp8_ok) false 40 rfl ?_
  conv => arg 5; cbv
  refine ⟨fun h => ?_, fun h => ?_⟩
  · have h : (!right s c t) = true := h
    rw [Bool.not_eq_true'] at h
    refine ⟨rfl, ?_⟩
    show count s c t = 0
    simp [count, h]
  · have h : (!right s c t) = false := h
    rw [Bool.not_eq_false'] at h
    have hcount : count s c t = s * c * t := by simp [count, h]
    have h := right_iff.1 h
    have hb : ∀ i j k : Int, 0 ≤ i → i < s → 0 ≤ j → j < c → 0 ≤ k → k < t → (i * c + j) * t + k < 256 := fun i j k _ q1 q2 q3 q4 q5 => by
      have := prod_lt q1 q2 q3 q4 q5
      omega
    refine run_own (A := _) 3 3 35 .undef (by rfl) (by rfl) (by rfl) ?_
    refine run_move (σ := fun i => i) (n := 2) (A := inv1 c t 0) (S := st1 s c t) (by rfl) ?_ (by rfl) (by rfl) (by rfl) (by rfl) (by rfl) ?_ ?_
    · refine run_loop (ι := Int) (fun i => (s - i).toNat) (inv1 c t) (fun _ => st1 s c t) 2 (fun i => 0 ≤ i ∧ i ≤ s) (by rfl) ?_ 0 ⟨by omega, by omega⟩
      intro i hi ih
      refine explore_ok (ok _) (mkO_ok Fp8_ok) (u := false) 20 _ rfl ?_
      conv => arg 5; cbv
      refine ⟨fun h1 => ?_, fun h1 => ?_⟩
      · simp only [decide_eq_true_eq] at h1
        refine run_move (σ := fun i => i) (n := 2) (A := inv2 c t i 0) (S := st1 s c t) (by rfl) ?_ (by rfl) (by rfl) (by rfl) (by rfl) (by rfl) ?_ ?_
        · refine run_loop (ι := Int) (fun j => (c - j).toNat) (inv2 c t i) (fun _ => st1 s c t) 2 (fun j => 0 ≤ j ∧ j ≤ c) (by rfl) ?_ 0 ⟨by omega, by omega⟩
          intro j hj ih2
          refine explore_ok (ok _) (mkO_ok Fp8_ok) (u := false) 20 _ rfl ?_
          conv => arg 5; cbv
          refine ⟨fun h2 => ?_, fun h2 => ?_⟩
          · simp only [decide_eq_true_eq] at h2
            refine run_move (σ := fun i => i) (n := 2) (A := inv3 c t i j 0) (S := st1 s c t) (by rfl) ?_ (by rfl) (by rfl) (by rfl) (by rfl) (by rfl) ?_ ?_
            · refine run_loop (ι := Int) (fun k => (t - k).toNat) (inv3 c t i j) (fun _ => st1 s c t) 2 (fun k => 0 ≤ k ∧ k ≤ t) (by rfl) ?_ 0 ⟨by omega, by omega⟩
              intro k hk ih3
              refine explore_ok (ok _) (mkO_ok Fp8_ok) (u := false) 20 _ rfl ?_
              conv => arg 5; cbv
              refine ⟨fun h3 => ?_, fun h3 => ?_⟩
              · simp only [decide_eq_true_eq] at h3
                have hb1 := hb i j k hi.1 h1 hj.1 h2 hk.1 h3
                have hw : IntKind.i64.wrap (k + 1) = k + 1 := IntWalk.i64_in _ ⟨by omega, by omega⟩
                refine ⟨⟨⟨by decide, ?_⟩, trivial⟩, ?_⟩
                · show ((i * c + j) * t + k + 1) * 24 ≤ 140737488355328
                  omega
                refine run_move (σ := ren21w) (n := 2) (A := inv3 c t i j (k + 1)) (S := st1 s c t) (by rfl) (ih3 (k + 1) ⟨by omega, by omega⟩ (by omega)) (by rfl) (by rfl) (by rfl) (by rfl) (by rfl) ?_ ?_
                · refine ⟨⟨rfl, hw⟩, ⟨rfl, rfl⟩, ⟨rfl, rfl⟩, ⟨.inr rfl, rfl, ?_, fun x hx0 hx1 => ?_⟩, rfl, trivial⟩
                  · show (i * c + j) * t + k + 1 = (i * c + j) * t + (k + 1)
                    omega
                  · have hx1 : x < (i * c + j) * t + k + 1 := hx1
                    simp only [PV.mrg, cont, impP, decide_true, cond_true]
                    obtain ⟨e1, e2, e3⟩ := cont_at (i := i) (j := j) (k := k) (c := c) (t := t) ⟨hk.1, h3⟩ ⟨hj.1, h2⟩
                    by_cases hx : x < (i * c + j) * t + k
                    · simp [hx]
                    · obtain rfl : x = (i * c + j) * t + k := by omega
                      simp [e1, e2, e3]
                · exact ⟨⟨rfl, rfl⟩, ⟨⟨rfl, rfl⟩, ⟨rfl, rfl⟩, ⟨rfl, rfl⟩, rfl⟩, trivial⟩
              · simp only [decide_eq_false_iff_not] at h3
                obtain rfl : k = t := by omega
                have hw : IntKind.i64.wrap (j + 1) = j + 1 := IntWalk.i64_in _ ⟨by omega, by omega⟩
                refine run_move (σ := fun i => i) (n := 2) (A := inv2 c k i (j + 1)) (S := st1 s c k) (by rfl) (ih2 (j + 1) ⟨by omega, by omega⟩ (by omega)) (by rfl) (by rfl) (by rfl) (by rfl) (by rfl) ?_ ?_
                · refine ⟨⟨rfl, hw⟩, ⟨rfl, rfl⟩, ⟨.inr rfl, rfl, ?_, fun x hx0 hx1 => ⟨⟨rfl, rfl⟩, ⟨rfl, rfl⟩, ⟨rfl, rfl⟩, rfl⟩⟩, rfl, trivial⟩
                  show (i * c + j) * k + k = (i * c + (j + 1)) * k
                  rw [← Int.add_assoc, Int.add_mul (i * c + j) 1 k, Int.one_mul]
                · exact ⟨⟨rfl, rfl⟩, ⟨⟨rfl, rfl⟩, ⟨rfl, rfl⟩, ⟨rfl, rfl⟩, rfl⟩, trivial⟩
            · refine ⟨⟨rfl, rfl⟩, ⟨rfl, rfl⟩, ⟨rfl, rfl⟩, ⟨.inr rfl, rfl, ?_, fun x hx0 hx1 => ⟨⟨rfl, rfl⟩, ⟨rfl, rfl⟩, ⟨rfl, rfl⟩, rfl⟩⟩, rfl, trivial⟩
              show (i * c + j) * t = (i * c + j) * t + 0
              omega
            · exact ⟨⟨rfl, rfl⟩, ⟨⟨rfl, rfl⟩, ⟨rfl, rfl⟩, ⟨rfl, rfl⟩, rfl⟩, trivial⟩
          · simp only [decide_eq_false_iff_not] at h2
            obtain rfl : j = c := by omega
            have hw : IntKind.i64.wrap (i + 1) = i + 1 := IntWalk.i64_in _ ⟨by omega, by omega⟩
            refine run_move (σ := fun i => i) (n := 2) (A := inv1 j t (i + 1)) (S := st1 s j t) (by rfl) (ih (i + 1) ⟨by omega, by omega⟩ (by omega)) (by rfl) (by rfl) (by rfl) (by rfl) (by rfl) ?_ ?_
            · refine ⟨⟨rfl, hw⟩, ⟨.inr rfl, rfl, ?_, fun x hx0 hx1 => ⟨⟨rfl, rfl⟩, ⟨rfl, rfl⟩, ⟨rfl, rfl⟩, rfl⟩⟩, rfl, trivial⟩
              show (i * j + j) * t = (i + 1) * j * t
              rw [Int.add_mul i 1 j, Int.one_mul]
            · exact ⟨⟨rfl, rfl⟩, ⟨⟨rfl, rfl⟩, ⟨rfl, rfl⟩, ⟨rfl, rfl⟩, rfl⟩, trivial⟩
        · refine ⟨⟨rfl, rfl⟩, ⟨rfl, rfl⟩, ⟨.inr rfl, rfl, ?_, fun x hx0 hx1 => ⟨⟨rfl, rfl⟩, ⟨rfl, rfl⟩, ⟨rfl, rfl⟩, rfl⟩⟩, rfl, trivial⟩
          show i * c * t = (i * c + 0) * t
          rw [Int.add_zero]
        · exact ⟨⟨rfl, rfl⟩, ⟨⟨rfl, rfl⟩, ⟨rfl, rfl⟩, ⟨rfl, rfl⟩, rfl⟩, trivial⟩
      · simp only [decide_eq_false_iff_not] at h1
        obtain rfl : i = s := by omega
        refine ⟨rfl, .inl rfl, rfl, ?_, fun x hx0 hx1 => ⟨⟨rfl, rfl⟩, ⟨rfl, rfl⟩, ⟨rfl, rfl⟩, rfl⟩⟩
        exact hcount.symm
    · refine ⟨⟨rfl, rfl⟩, ⟨.inr rfl, rfl, ?_, fun x hx0 hx1 => absurd hx1 (by show ¬ x < 0; omega)⟩, rfl, trivial⟩
      show 0 = 0 * c * t
      simp
    · exact ⟨⟨rfl, rfl⟩, ⟨⟨rfl, rfl⟩, ⟨rfl, rfl⟩, ⟨rfl, rfl⟩, rfl⟩, trivial⟩
noncomputable def Fp9 : Table := addS 7 (.cons shTop .nil) (fun s c t => (.slice none 3 (fun _ => count (s ()) (c ()) (t ())) fun j => .agg (.cons (.int .i64 fun _ => j () / (c () * t ())) (.cons (.int .i64 fun _ => j () / t () % c ()) (.cons (.int .i64 fun _ => j () % t ()) .nil))), []))
  (addS 17 (.cons shSet .nil) (fun a => (.arrB 256 fun _ => (List.range 256).map (bitAt (a ())), [fun _ => okSet (a ())]))
  (addS 14 (.cons (.arrB 256) .nil) (fun l => (.arrI .u64 4 fun _ => setOf fun i => (l ()).getD i false, []))
  (addS 18 (.cons (.arrB 256) (.cons (.arrB 256) .nil)) (fun a b => (.bool fun _ => (List.range 256).all fun i => !(a ()).getD i false || (b ()).getD i false, []))
  (addS 20 (.cons (.slice 1 (.int .i64)) (.cons (.slice 1 (.int .i64)) .nil)) (fun a b => (.bool fun _ => eqL (a ()) (b ()), [fun _ => (List.length (α := Int) (a ()) : Int) ≤ 9223372036854775807])) Fp8))))
theorem Fp9_ok : TableOK Tryd.prog G0 Fp9 := by
  refine addS_ok (⟨Tryd.func7, rfl, rfl, rfl, rfl, ok _⟩ : FN 7 Tryd.f7).callable (fun s c t _ => rows_ok (s ()) (c ()) (t ())) (addS_ok (⟨Tryd.func17, rfl, rfl, rfl, rfl, ok _⟩ : FN 17 Tryd.f17).callable (fun a _ h => ?_) (addS_ok (⟨Tryd.func14, rfl, rfl, rfl, rfl, ok _⟩ : FN 14 Tryd.f14).callable (fun l _ _ => refSet_ok (l ())) (addS_ok (⟨Tryd.func18, rfl, rfl, rfl, rfl, ok _⟩ : FN 18 Tryd.f18).callable (fun a _ b _ _ => refUnder_ok (a ()) (b ())) (addS_ok (⟨Tryd.func20, rfl, rfl, rfl, rfl, ok _⟩ : FN 20 Tryd.f20).callable (fun a b h => same_ok (a ()) (b ()) h.1) Fp8_ok))))
  have := refOf_ok (bitAt (a ()))
  rw [setP_bitAt h.1] at this
  exact this
def rpartP (s c t a b : Int) (i : Nat) : Bool := decide ((i : Int) < count s c t) && (decide ((i : Int) / (c * t) = a) && (decide (b < 0) || decide ((i : Int) / t % c = b)))
def ptA (s c t a b i : Int) : Env := [(13, .int .i64 fun _ => i), (12, .int .i64 fun _ => count s c t), (11, .slice none 3 (fun _ => count s c t) fun j => .agg (.cons (.int .i64 fun _ => j () / (c * t)) (.cons (.int .i64 fun _ => j () / t % c) (.cons (.int .i64 fun _ => j () % t) .nil)))), (7, .ptr 2 0), (6, .ptr 1 0), (1, .int .i64 fun _ => a), (2, .int .i64 fun _ => b)]
def ptS (s c t a b i : Int) : Store := [(1, .var (.arrB 256 fun _ => List.replicate 256 false)), (2, .var (.arrB 256 fun _ => upTo (rpartP s c t a b) 256 i.toNat))]
theorem refPart_ok (s c t a b : Int) : PF 10 (.cons (top s c t) (.cons (i64 a) (.cons (i64 b) .nil))) (.arrB 256 fun _ => (List.range 256).map (rpartP s c t a b)) := by
  refine (⟨Tryd.func10, rfl, rfl, rfl, rfl, ok _⟩ : FN 10 Tryd.f10).tree (mkO_ok Fp9_ok) false 40 rfl ?_
  conv => arg 5; cbv
  have hr := count_range s c t
  refine run_inv (ι := Int) (fun i => (count s c t - i).toNat) (fun i => 0 ≤ i ∧ i ≤ count s c t) (ptA s c t a b) (ptS s c t a b) 3 0 (fun i => i) (by rfl) (by rfl) ⟨by omega, by omega⟩ ?_ ?_ ?_
  · intro i hi ih
    refine explore_ok (ok _) (mkO_ok Fp9_ok) (u := false) 20 _ rfl ?_
    conv => arg 5; cbv
    have nx : ∀ (x : Bool), x = rpartP s c t a b i.toNat → i < count s c t → (upTo (rpartP s c t a b) 256 i.toNat).set i.toNat x = upTo (rpartP s c t a b) 256 (i + 1).toNat := fun x hx h => by
      subst hx
      rw [upTo_set (by omega), show (i + 1).toNat = i.toNat + 1 by omega]
    refine ⟨fun h => ?_, fun h => ?_⟩
    · simp only [decide_eq_true_eq, Int.ofNat_eq_natCast, cast_fold] at h
      have hw : IntKind.i64.wrap (i + 1) = i + 1 := IntWalk.i64_in _ ⟨by omega, by omega⟩
      have hi2 : (i.toNat : Int) = i := by omega
      have go : ∀ x : Bool, x = rpartP s c t a b i.toNat → impO (fun i => i) (some (.var (.arrB 256 fun _ => (upTo (rpartP s c t a b) 256 i.toNat).set i.toNat x))) (.var (.arrB 256 fun _ => upTo (rpartP s c t a b) 256 (i + 1).toNat)) := fun x hx => ⟨rfl, nx x hx h⟩
      refine ⟨by (repeat' (first | exact trivial | exact okSet_setOf _ | omega | (dsimp only; omega) | (dsimp; omega) | ((try dsimp only); (try simp only [cast_fold, Int.ofNat_eq_natCast]); omega) | refine ⟨?_, ?_⟩ | (show drawOK _ _ = true; conv => lhs; cbv) | decide | assumption | fail)), fun h2 => ⟨fun h3 => ⟨by (repeat' (first | exact trivial | exact okSet_setOf _ | omega | (dsimp only; omega) | (dsimp; omega) | ((try dsimp only); (try simp only [cast_fold, Int.ofNat_eq_natCast]); omega) | refine ⟨?_, ?_⟩ | (show drawOK _ _ = true; conv => lhs; cbv) | decide | assumption | fail)), ?_⟩, fun h3 => ⟨by (repeat' (first | exact trivial | exact okSet_setOf _ | omega | (dsimp only; omega) | (dsimp; omega) | ((try dsimp only); (try simp only [cast_fold, Int.ofNat_eq_natCast]); omega) | refine ⟨?_, ?_⟩ | (show drawOK _ _ = true; conv => lhs; cbv) | decide | assumption | fail)), ?_⟩⟩, fun h2 => ⟨by (repeat' (first | exact trivial | exact okSet_setOf _ | omega | (dsimp only; omega) | (dsimp; omega) | ((try dsimp only); (try simp only [cast_fold, Int.ofNat_eq_natCast]); omega) | refine ⟨?_, ?_⟩ | (show drawOK _ _ = true; conv => lhs; cbv) | decide | assumption | fail)), ?_⟩⟩
      · have h2 : (i / (c * t) == a) = true := h2
        have h3 : decide (b < 0) = true := h3
        rw [beq_iff_eq] at h2
        simp only [decide_eq_true_eq, Int.ofNat_eq_natCast, cast_fold] at h3
        refine ih (i + 1) (fun i => i) ⟨by omega, by omega⟩ (by omega) (by rfl) ?_ ⟨impP_refl _, go true ?_, trivial⟩
        · (repeat' (first | exact trivial | rfl | assumption | exact impP_refl _ | refine ⟨?_, ?_⟩ | fail))
        · simp only [rpartP, hi2]
          simp [h, h2, h3]
      · have h2 : (i / (c * t) == a) = true := h2
        have h3 : decide (b < 0) = false := h3
        rw [beq_iff_eq] at h2
        simp only [decide_eq_false_iff_not, Int.ofNat_eq_natCast, cast_fold] at h3
        refine ih (i + 1) (fun i => i) ⟨by omega, by omega⟩ (by omega) (by rfl) ?_ ⟨impP_refl _, go (i / t % c == b) ?_, trivial⟩
        · (repeat' (first | exact trivial | rfl | assumption | exact impP_refl _ | refine ⟨?_, ?_⟩ | fail))
        · simp only [rpartP, hi2]
          simp only [h, h2, h3, decide_true, decide_false, Bool.true_and, Bool.false_or]
          rfl
      · have h2 : (i / (c * t) == a) = false := h2
        rw [beq_eq_false_iff_ne] at h2
        refine ih (i + 1) (fun i => i) ⟨by omega, by omega⟩ (by omega) (by rfl) ?_ ⟨impP_refl _, go false ?_, trivial⟩
        · (repeat' (first | exact trivial | rfl | assumption | exact impP_refl _ | refine ⟨?_, ?_⟩ | fail))
        · simp only [rpartP, hi2]
          simp [h2]
    · simp only [decide_eq_false_iff_not, Int.ofNat_eq_natCast, cast_fold] at h
      obtain rfl : i = count s c t := by omega
      refine ⟨rfl, rfl, ?_⟩
      show upTo (rpartP s c t a b) 256 (count s c t).toNat = (List.range 256).map (rpartP s c t a b)
      rw [← upTo_full]
      unfold upTo
      apply List.map_congr_left
      intro k hk
      rw [List.mem_range] at hk
      simp only [hk, decide_true, Bool.true_and, rpartP]
      by_cases e : k < (count s c t).toNat
      · simp [e]
      · simp [e, show ¬ (k : Int) < count s c t by omega]
  · (repeat' (first | exact trivial | rfl | assumption | exact impP_refl _ | refine ⟨?_, ?_⟩ | fail))
  · exact ⟨impP_refl _, ⟨rfl, (upTo_zero _ 256).symm⟩, trivial⟩
end Go.Proofs.YtdikfhjpnfffnaaDoor
