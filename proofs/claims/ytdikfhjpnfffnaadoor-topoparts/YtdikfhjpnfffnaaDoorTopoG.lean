/- TOPO: the third statement's function. -/
import Derived.Test.YtdikfhjpnfffnaaDoorTopoE
import Derived.Test.YtdikfhjpnfffnaaDoorGc
set_option maxRecDepth 2000
set_option linter.unusedVariables false
set_option linter.unusedSimpArgs false
set_option linter.unusedVariables false
set_option linter.unusedSimpArgs false
namespace Go.Proofs.YtdikfhjpnfffnaaDoor
open Go Go.Abs Go.Proofs
/-- The processors below 'm'. -/
def lowP (m : Int) (i : Nat) : Bool := decide ((i : Int) < m)
theorem cnt_range (a b : Int) (ha : 0 ≤ a) (hb : a ≤ b + 1) : ∀ n : Nat, ((cnt (inRange a b) n : Nat) : Int) = if (n : Int) ≤ a then 0 else (if (n : Int) ≤ b + 1 then (n : Int) else b + 1) - a
  | 0 => by rw [if_pos (by omega)]; rfl
  | n + 1 => by
    have ih := cnt_range a b ha hb n
    simp only [cnt, inRange]
    by_cases h : a ≤ (n : Int) ∧ (n : Int) ≤ b
    · have e : (decide (a ≤ (n : Int)) && decide ((n : Int) ≤ b)) = true := by simp [h]
      simp only [e, if_true]
      rw [if_neg (by omega), if_pos (by omega)]
      split at ih
      · omega
      · rw [if_pos (by omega)] at ih; omega
    · have e : (decide (a ≤ (n : Int)) && decide ((n : Int) ≤ b)) = false := by
        rw [Bool.eq_false_iff]; intro e
        simp only [Bool.and_eq_true, decide_eq_true_eq] at e
        exact h e
      simp only [e]
      split at ih <;> split <;> simp_all <;> (try split) <;> (try split at ih) <;> omega
theorem low_both {s c t i m : Int} {P : Nat → Bool} (h : ∀ x : Nat, P x = true → m ≤ (x : Int)) : setOf (fun k => bitAt (setOf (lowP m)) k && bitAt (setOf P) k) = [0, 0, 0, 0] := by
  rw [← setOf_zero]
  refine setOf_ext fun x hx => ?_
  rw [bitAt_setOf hx, bitAt_setOf hx, Bool.eq_false_iff]
  intro e
  simp only [lowP, Bool.and_eq_true, decide_eq_true_eq] at e
  have := h x e.2
  omega
theorem low_union {m m' : Int} {P : Nat → Bool} (h : ∀ x : Nat, P x = true ↔ m ≤ (x : Int) ∧ (x : Int) < m') (hm : m ≤ m') : setOf (fun k => bitAt (setOf (lowP m)) k || bitAt (setOf P) k) = setOf (lowP m') := by
  refine setOf_ext fun x hx => ?_
  rw [bitAt_setOf hx, bitAt_setOf hx, Bool.eq_iff_iff]
  simp only [lowP, Bool.or_eq_true, decide_eq_true_eq, h]
  omega
theorem sock_iff {s c t i : Int} (hR : right s c t = true) (h0 : 0 ≤ i) (h1 : i < s) (x : Nat) : sockP s c t i x = true ↔ i * (c * t) ≤ (x : Int) ∧ (x : Int) < (i + 1) * (c * t) := by
  simp only [sockP, partP, hR, Bool.true_and, inRange, Bool.and_eq_true, decide_eq_true_eq]
  omega
theorem core_iff {s c t m : Int} (hR : right s c t = true) (h0 : 0 ≤ m) (h1 : m < s * c) (x : Nat) : coreP s c t m x = true ↔ m * t ≤ (x : Int) ∧ (x : Int) < (m + 1) * t := by
  simp only [coreP, partP, hR, Bool.true_and, inRange, Bool.and_eq_true, decide_eq_true_eq]
  omega
theorem core_cnt {s c t m : Int} (hR : right s c t = true) (h0 : 0 ≤ m) (h1 : m < s * c) : ((cnt (bitAt (setOf (coreP s c t m))) 256 : Nat) : Int) = t := by
  have h := right_iff.1 hR
  have a0 : 0 ≤ m * t := Int.mul_nonneg h0 (by omega)
  have a1 : (m + 1) * t ≤ s * c * t := Int.mul_le_mul_of_nonneg_right (by omega) (by omega)
  have e : cnt (bitAt (setOf (coreP s c t m))) 256 = cnt (inRange (m * t) ((m + 1) * t - 1)) 256 := cnt_ext fun x hx => by
    rw [bitAt_setOf hx, Bool.eq_iff_iff, core_iff hR h0 h1]
    simp only [inRange, Bool.and_eq_true, decide_eq_true_eq]
    omega
  have e2 : (m + 1) * t = m * t + t := by rw [Int.add_mul, Int.one_mul]
  rw [e, cnt_range _ _ a0 (by omega), if_neg (by omega)]
  split <;> omega
theorem all_cnt (s c t : Int) : ((cnt (bitAt (setOf (allP s c t))) 256 : Nat) : Int) = count s c t := by
  have h := count_range s c t
  have e : cnt (bitAt (setOf (allP s c t))) 256 = cnt (inRange 0 (count s c t - 1)) 256 := cnt_ext fun x hx => by
    rw [bitAt_setOf hx, Bool.eq_iff_iff]
    simp only [allP, inRange, Bool.and_eq_true, decide_eq_true_eq]
    omega
  rw [e, cnt_range _ _ (by omega) (by omega)]
  split
  · omega
  · split <;> omega
theorem core_sock {s c t i j : Int} (hR : right s c t = true) (h0 : 0 ≤ i) (h1 : i < s) (h2 : 0 ≤ j) (h3 : j < c) : sub (bitAt (setOf (coreP s c t (i * c + j)))) (bitAt (setOf (sockP s c t i))) = true := by
  have h := right_iff.1 hR
  have hm0 : 0 ≤ i * c := Int.mul_nonneg h0 (by omega)
  have hm1 : (i + 1) * c ≤ s * c := Int.mul_le_mul_of_nonneg_right (by omega) (by omega)
  rw [Int.add_mul] at hm1
  rw [sub_setOf, sub_iff]
  intro x hx e
  rw [core_iff hR (by omega) (by omega)] at e
  rw [sock_iff hR h0 h1]
  have b1 : i * c * t ≤ (i * c + j) * t := Int.mul_le_mul_of_nonneg_right (by omega) (by omega)
  have b2 : (i * c + j + 1) * t ≤ (i + 1) * c * t := Int.mul_le_mul_of_nonneg_right (by rw [Int.add_mul]; omega) (by omega)
  rw [← Int.mul_assoc, ← Int.mul_assoc]
  omega
theorem place_back {s c t x : Int} (hR : right s c t = true) (h0 : 0 ≤ x) (h1 : x < s * c * t) : cpuOK s c t (x / t / c) (x / t % c) (x % t) = true ∧ (x / t / c * c + x / t % c) * t + x % t = x := by
  have h := (row_iff (a := x / t / c) (b := x / t % c) (k := x % t) hR h0 h1).1 ⟨div_fact x hR, rfl, rfl⟩
  exact ⟨h.1, h.2.symm⟩
def setV (p : Nat → Bool) : PV := .arrI .u64 4 fun _ => setOf p
def paA (s c t i : Int) : Env := [(33, .int .i64 fun _ => i), (32, .int .i64 fun _ => s), (31, .ptr 0 0), (5, .int .i64 fun _ => 0), (4, .ptr 2 0), (3, .ptr 1 0), (1, .ptr 0 0)]
def paS (s c t i : Int) : Store := [(0, .var (.agg (.cons (.int .i64 fun _ => s) (.cons (.int .i64 fun _ => c) (.cons (.int .i64 fun _ => t) .nil))))), (1, .var (.arrI .u64 4 fun _ => setOf (lowP (i * (c * t))))), (2, .var (.arrI .u64 4 fun _ => setOf (lowP (i * c * t))))]
def piA (s c t i j : Int) : Env := (49, .int .i64 fun _ => j) :: (48, .int .i64 fun _ => c) :: (47, .ptr 0 1) :: (7, .ptr 3 0) :: (6, .int .i64 fun _ => i) :: paA s c t i
def piS (s c t i j : Int) : Store := [(0, .var (.agg (.cons (.int .i64 fun _ => s) (.cons (.int .i64 fun _ => c) (.cons (.int .i64 fun _ => t) .nil))))), (1, .var (.arrI .u64 4 fun _ => setOf (lowP ((i + 1) * (c * t))))), (2, .var (.arrI .u64 4 fun _ => setOf (lowP ((i * c + j) * t)))), (3, .var (.arrI .u64 4 fun _ => setOf (sockP s c t i)))]
def pcA (s c t x : Int) : Env := [(86, .int .i64 fun _ => x), (85, .int .i64 fun _ => s * c * t), (5, .int .i64 fun _ => x), (4, .ptr 2 0), (3, .ptr 1 0), (1, .ptr 0 0)]
theorem low_zero {m : Int} (h : m = 0) : List.replicate 4 0 = setOf (lowP m) := by
  have e : setOf (fun _ : Nat => false) = [0, 0, 0, 0] := setOf_zero
  show [0, 0, 0, 0] = _
  rw [← e]
  refine setOf_ext fun x hx => ?_
  simp only [lowP]
  rw [eq_comm, decide_eq_false_iff_not]
  omega
set_option maxHeartbeats 4000000 in
theorem parts_ok (s c t : Int) : PF 5 (.cons (top s c t) .nil) .tt := by
  refine (⟨Tryd.func5, rfl, rfl, rfl, rfl, ok _⟩ : FN 5 Tryd.f5).tree (mkO_ok Fq2_ok) false 2 rfl ?_
  conv => arg 5; cbv
  refine ⟨fun h => ?_, fun h => ?_⟩
  · have hR : right s c t = false := by have h : (!right s c t) = true := h; simpa using h
    refine ⟨fun h2 => ?_, fun h2 => ?_⟩
    · refine explore_ok (ok _) (mkO_ok Fq2_ok) (u := false) 4 _ rfl ?_
      conv => arg 5; cbv
      refine ⟨rfl, ?_⟩
      show decide (setOf (allP s c t) = [0, 0, 0, 0]) = true
      refine decide_eq_true ?_
      rw [← setOf_zero]
      refine setOf_ext fun x hx => ?_
      simp only [allP, count, hR]
      rw [decide_eq_false_iff_not]
      simp
    · have h2 : (!right s c t) = false := h2
      rw [hR] at h2; cases h2
  · have hR : right s c t = true := by have h : (!right s c t) = false := h; simpa using h
    have hr := right_iff.1 hR
    have hP := right_prods hR
    refine run_inv (ι := Int) (fun i => (s - i).toNat) (fun i => 0 ≤ i ∧ i ≤ s) (paA s c t) (paS s c t) 3 0 (fun i => i) (by rfl) (by rfl) ⟨by omega, by omega⟩ ?_ ?_ ?_
    · intro i hi ih
      refine explore_ok (ok _) (mkO_ok Fq2_ok) (u := false) 1 _ rfl ?_
      conv => arg 5; cbv
      refine ⟨fun h2 => ?_, fun h2 => ?_⟩
      · have h2 : i < s := by simpa using h2
        have hb : setOf (fun k => bitAt (setOf (lowP (i * (c * t)))) k && bitAt (setOf (sockP s c t i)) k) = [0, 0, 0, 0] := low_both (s := s) (c := c) (t := t) (i := i) fun x hx => ((sock_iff hR hi.1 h2 x).1 hx).1
        have hu : setOf (fun k => bitAt (setOf (lowP (i * (c * t)))) k || bitAt (setOf (sockP s c t i)) k) = setOf (lowP ((i + 1) * (c * t))) := low_union (fun x => sock_iff hR hi.1 h2 x) (Int.mul_le_mul_of_nonneg_right (by omega) (by omega))
        refine explore_ok (ok _) (mkO_ok Fq2_ok) (u := false) 4 _ rfl ?_
        conv => arg 5; cbv
        refine ⟨⟨⟨okSet_setOf _, okSet_setOf _⟩, trivial⟩, fun h3 => ?_, fun h3 => ⟨⟨⟨okSet_setOf _, okSet_setOf _⟩, trivial⟩, ?_⟩⟩
        · exfalso
          have h3 : (!decide (setOf (fun k => bitAt (setOf (lowP (i * (c * t)))) k && bitAt (setOf (sockP s c t i)) k) = [0, 0, 0, 0])) = true := h3
          rw [hb] at h3
          exact absurd h3 (by decide)
        · refine run_inv (ι := Int) (fun j => (c - j).toNat) (fun j => 0 ≤ j ∧ j ≤ c) (piA s c t i) (piS s c t i) 4 0 (fun i => i) (by rfl) (by rfl) ⟨by omega, by omega⟩ ?_ ?_ ?_
          · intro j hj ih2
            refine explore_ok (ok _) (mkO_ok Fq2_ok) (u := false) 1 _ rfl ?_
            conv => arg 5; cbv
            refine ⟨fun h4 => ?_, fun h4 => ?_⟩
            · have h4 : j < c := by simpa using h4
              have hm0 : 0 ≤ i * c := Int.mul_nonneg hi.1 (by omega)
              have hm1 : (i + 1) * c ≤ s * c := Int.mul_le_mul_of_nonneg_right (by omega) (by omega)
              rw [Int.add_mul] at hm1
              have hw1 : IntKind.i64.wrap (i * c) = i * c := IntWalk.i64_in _ ⟨by omega, by omega⟩
              have hw2 : IntKind.i64.wrap (IntKind.i64.wrap (i * c) + j) = i * c + j := by rw [hw1]; exact IntWalk.i64_in _ ⟨by omega, by omega⟩
              refine explore_ok (ok _) (mkO_ok Fq2_ok) (u := false) 8 _ rfl ?_
              conv => arg 5; cbv
              have hb2 : setOf (fun k => bitAt (setOf (lowP ((i * c + j) * t))) k && bitAt (setOf (coreP s c t (i * c + j))) k) = [0, 0, 0, 0] := low_both (s := s) (c := c) (t := t) (i := i) fun x hx => ((core_iff hR (by omega) (by omega) x).1 hx).1
              have hu2 : setOf (fun k => bitAt (setOf (lowP ((i * c + j) * t))) k || bitAt (setOf (coreP s c t (IntKind.i64.wrap (IntKind.i64.wrap (i * c) + j)))) k) = setOf (lowP ((i * c + (j + 1)) * t)) := by
                rw [hw2, ← Int.add_assoc]
                exact low_union (fun x => core_iff hR (by omega) (by omega) x) (Int.mul_le_mul_of_nonneg_right (by omega) (by omega))
              have hsb := core_sock hR hi.1 h2 hj.1 h4
              have hct := core_cnt (m := i * c + j) hR (by omega) (by omega)
              have hwj : IntKind.i64.wrap (j + 1) = j + 1 := IntWalk.i64_in _ ⟨by omega, by omega⟩
              refine ⟨⟨⟨okSet_setOf _, okSet_setOf _⟩, trivial⟩, fun h5 => ?_, fun h5 => ⟨⟨⟨okSet_setOf _, okSet_setOf _⟩, trivial⟩, fun h6 => ?_, fun h6 => ⟨⟨okSet_setOf _, by (repeat' (first | exact trivial | exact okSet_setOf _ | omega | (dsimp only; omega) | (dsimp; omega) | ((try dsimp only); (try simp only [cast_fold, Int.ofNat_eq_natCast]); omega) | refine ⟨?_, ?_⟩ | (show drawOK _ _ = true; conv => lhs; cbv) | decide | assumption | fail)), trivial⟩, fun h7 => ?_, fun h7 => ⟨⟨⟨okSet_setOf _, okSet_setOf _⟩, trivial⟩, ?_⟩⟩⟩⟩
              · exfalso
                have h5 : (!decide (setOf (fun k => bitAt (setOf (lowP ((i * c + j) * t))) k && bitAt (setOf (coreP s c t (IntKind.i64.wrap (IntKind.i64.wrap (i * c) + j)))) k) = [0, 0, 0, 0])) = true := h5
                rw [hw2, hb2] at h5
                exact absurd h5 (by decide)
              · exfalso
                have h6 : (!sub (bitAt (setOf (coreP s c t (IntKind.i64.wrap (IntKind.i64.wrap (i * c) + j))))) (bitAt (setOf (sockP s c t i)))) = true := h6
                rw [hw2, hsb] at h6
                exact absurd h6 (by decide)
              · exfalso
                have h7 : (((cnt (bitAt (setOf (coreP s c t (IntKind.i64.wrap (IntKind.i64.wrap (i * c) + j))))) 256 : Nat) : Int) != t) = true := h7
                rw [hw2, hct] at h7
                simp at h7
              · exact ih2 (j + 1) (fun i => i) ⟨by omega, by omega⟩ (by omega) (by rfl) ⟨⟨rfl, hwj⟩, impP_refl _, impP_refl _, impP_refl _, impP_refl _, impP_refl _, impP_refl _, impP_refl _, impP_refl _, impP_refl _, impP_refl _, impP_refl _, trivial⟩ ⟨impP_refl _, impP_refl _, ⟨rfl, rfl, hu2⟩, impP_refl _, trivial⟩
            · have h4 : ¬ (j < c) := by simpa using h4
              obtain rfl : j = c := by omega
              have hw : IntKind.i64.wrap (i + 1) = i + 1 := IntWalk.i64_in _ ⟨by omega, by omega⟩
              refine explore_ok (ok _) (mkO_ok Fq2_ok) (u := false) 4 _ rfl ?_
              conv => arg 5; cbv
              refine ih (i + 1) (fun i => i) ⟨by omega, by omega⟩ (by omega) (by rfl) ⟨⟨rfl, hw⟩, impP_refl _, impP_refl _, impP_refl _, impP_refl _, impP_refl _, impP_refl _, trivial⟩ ⟨impP_refl _, impP_refl _, ?_, trivial⟩
              rw [Int.add_mul i 1 j, Int.one_mul]
              exact impP_refl _
          · (repeat' (first | exact trivial | rfl | assumption | exact impP_refl _ | refine ⟨?_, ?_⟩ | fail))
          · refine ⟨impP_refl _, ⟨rfl, rfl, hu⟩, ⟨rfl, rfl, ?_⟩, impP_refl _, trivial⟩
            show setOf (lowP (i * c * t)) = setOf (lowP ((i * c + 0) * t))
            rw [Int.add_zero]
      · have h2 : ¬ (i < s) := by simpa using h2
        obtain rfl : i = s := by omega
        have hcount : count i c t = i * c * t := by simp [count, hR]
        have hcr := count_range i c t
        refine explore_ok (ok _) (mkO_ok Fq2_ok) (u := false) 4 _ rfl ?_
        conv => arg 5; cbv
        refine ⟨⟨okSet_setOf _, trivial⟩, ?_⟩
        refine run_inv (ι := Int) (fun x => (i * c * t - x).toNat) (fun x => 0 ≤ x ∧ x ≤ i * c * t) (pcA i c t) (fun _ => paS i c t i) 3 0 (fun i => i) (by rfl) (by rfl) ⟨by omega, by omega⟩ ?_ ?_ ?_
        · intro x hx ih2
          refine explore_ok (ok _) (mkO_ok Fq2_ok) (u := false) 1 _ rfl ?_
          conv => arg 5; cbv
          refine ⟨fun h4 => ?_, fun h4 => ?_⟩
          · have h4 : x < i * c * t := by simpa using h4
            have hpb := place_back hR hx.1 h4
            have ho : onPlace i c t x = true := by simp [onPlace, hcount]; omega
            refine explore_ok (ok _) (mkO_ok Fq2_ok) (u := false) 8 _ rfl ?_
            conv => arg 5; cbv
            have hwx : IntKind.i64.wrap (x + 1) = x + 1 := IntWalk.i64_in _ ⟨by omega, by omega⟩
            have f2 : cpuOK i c t (if onPlace i c t x = true then x / t / c else 0) (if onPlace i c t x = true then x / t % c else 0) (if onPlace i c t x = true then x % t else 0) = true := by
              rw [if_pos ho, if_pos ho, if_pos ho]; exact hpb.1
            have f3 : (if cpuOK i c t (if onPlace i c t x = true then x / t / c else 0) (if onPlace i c t x = true then x / t % c else 0) (if onPlace i c t x = true then x % t else 0) = true then ((if onPlace i c t x = true then x / t / c else 0) * c + if onPlace i c t x = true then x / t % c else 0) * t + if onPlace i c t x = true then x % t else 0 else 0) = x := by
              rw [if_pos f2, if_pos ho, if_pos ho, if_pos ho]; exact hpb.2
            refine ⟨fun h5 => ?_, fun h5 => ⟨fun h6 => ?_, fun h6 => ⟨fun h7 => ?_, fun h7 => ?_⟩⟩⟩
            · exfalso
              have h5 : (!onPlace i c t x) = true := h5
              rw [ho] at h5
              exact absurd h5 (by decide)
            · exfalso
              have h6 := (congrArg (fun b => !b) f2).symm.trans h6
              exact absurd h6 (by decide)
            · exfalso
              have h7 := (congrArg (fun b => b != x) f3).symm.trans h7
              simp at h7
            · exact ih2 (x + 1) (fun i => i) ⟨by omega, by omega⟩ (by omega) (by rfl) ⟨⟨rfl, hwx⟩, impP_refl _, ⟨rfl, hwx⟩, impP_refl _, impP_refl _, impP_refl _, trivial⟩ ⟨impP_refl _, impP_refl _, impP_refl _, trivial⟩
          · have h4 : ¬ (x < i * c * t) := by simpa using h4
            obtain rfl : x = i * c * t := by omega
            refine explore_ok (ok _) (mkO_ok Fq2_ok) (u := false) 8 _ rfl ?_
            conv => arg 5; cbv
            have ha : setOf (lowP (i * (c * t))) = setOf (allP i c t) := setOf_ext fun x hx => by
              simp only [lowP, allP, hcount, Int.mul_assoc]
            have hb : setOf (lowP (i * c * t)) = setOf (lowP (i * (c * t))) := by rw [Int.mul_assoc]
            refine ⟨fun _ => ⟨fun _ => ⟨by (repeat' (first | exact trivial | exact okSet_setOf _ | omega | (dsimp only; omega) | (dsimp; omega) | ((try dsimp only); (try simp only [cast_fold, Int.ofNat_eq_natCast]); omega) | refine ⟨?_, ?_⟩ | (show drawOK _ _ = true; conv => lhs; cbv) | decide | assumption | fail)), rfl, ?_⟩, fun h5 => ?_⟩, fun h5 => ?_⟩
            · show (i * c * t == IntKind.i64.wrap (IntKind.i64.wrap (i * c) * t)) = true
              rw [wrap_prod (by omega) (by omega) (by omega) (by omega) (by omega) (by omega)]
              exact beq_self_eq_true _
            · exact absurd ((decide_eq_true hb).symm.trans h5) (by decide)
            · exact absurd ((decide_eq_true ha).symm.trans h5) (by decide)
        · refine ⟨impP_refl _, ⟨rfl, ?_⟩, impP_refl _, impP_refl _, impP_refl _, impP_refl _, trivial⟩
          show ((cnt (bitAt (setOf (allP i c t))) 256 : Nat) : Int) = i * c * t
          rw [all_cnt, hcount]
        · (repeat' (first | exact trivial | rfl | assumption | exact impP_refl _ | refine ⟨?_, ?_⟩ | fail))
    · (repeat' (first | exact trivial | rfl | assumption | exact impP_refl _ | refine ⟨?_, ?_⟩ | fail))
    · refine ⟨impP_refl _, ⟨rfl, rfl, ?_⟩, ⟨rfl, rfl, ?_⟩, trivial⟩
      · exact low_zero (Int.zero_mul _)
      · exact low_zero (by rw [Int.zero_mul, Int.zero_mul])
end Go.Proofs.YtdikfhjpnfffnaaDoor
