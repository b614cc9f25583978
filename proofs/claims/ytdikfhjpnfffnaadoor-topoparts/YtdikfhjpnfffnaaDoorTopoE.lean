/- TOPO: the statements' functions. -/
import Derived.Test.YtdikfhjpnfffnaaDoorTopoD
set_option maxRecDepth 2000
set_option linter.unusedVariables false
set_option linter.unusedSimpArgs false
set_option linter.unusedVariables false
set_option linter.unusedSimpArgs false
namespace Go.Proofs.YtdikfhjpnfffnaaDoor
open Go Go.Abs Go.Proofs
noncomputable def Fq2 : Table := addS 6 .nil (.tt, []) Fq1
theorem Fq2_ok : TableOK Tryd.prog G0 Fq2 := addS_ok (⟨Tryd.func6, rfl, rfl, rfl, rfl, ok _⟩ : FN 6 Tryd.f6).callable (fun _ => first_ok) Fq1_ok
def caseP (s c t : Int) (q : List Int) (p a b k n : Int) : PV := .agg (.cons (.agg (.cons (.int .i64 fun _ => s) (.cons (.int .i64 fun _ => c) (.cons (.int .i64 fun _ => t) .nil)))) (.cons (.arrI .u64 4 fun _ => q) (.cons (.int .i64 fun _ => p) (.cons (.int .i64 fun _ => a) (.cons (.int .i64 fun _ => b) (.cons (.int .i64 fun _ => k) (.cons (.int .i64 fun _ => n) .nil)))))))
def mAt (c t a b k : Int) : Int := (a * c + b) * t + k
def fd (s c t a b k i : Int) : Bool := cpuOK s c t a b k && decide (mAt c t a b k < i)
theorem row_iff {s c t a b k i : Int} (hR : right s c t = true) (h0 : 0 ≤ i) (h1 : i < s * c * t) : (i / (c * t) = a ∧ i / t % c = b ∧ i % t = k) ↔ (cpuOK s c t a b k = true ∧ i = mAt c t a b k) := by
  have h := right_iff.1 hR
  have hP := right_prods hR
  constructor
  · rintro ⟨rfl, rfl, rfl⟩
    have e1 : i / (c * t) = i / t / c := by rw [Int.mul_comm c t, ← Int.ediv_ediv_of_nonneg (by omega)]
    have d1 := Int.mul_ediv_add_emod i t
    have d2 := Int.mul_ediv_add_emod (i / t) c
    have m1 := Int.emod_nonneg i (b := t) (by omega)
    have m2 := Int.emod_lt_of_pos i (b := t) (by omega)
    have m3 := Int.emod_nonneg (i / t) (b := c) (by omega)
    have m4 := Int.emod_lt_of_pos (i / t) (b := c) (by omega)
    have q0 : 0 ≤ i / t := Int.ediv_nonneg h0 (by omega)
    have q1 : 0 ≤ i / t / c := Int.ediv_nonneg q0 (by omega)
    have q2 : i / (c * t) < s := Int.ediv_lt_of_lt_mul (by omega) (by rw [Int.mul_assoc] at h1; exact h1)
    rw [e1] at q2 ⊢
    refine ⟨cpuOK_iff.2 ⟨hR, q1, q2, m3, m4, m1, m2⟩, ?_⟩
    unfold mAt
    rw [Int.mul_comm (i / t / c) c, d2, Int.mul_comm (i / t) t, d1]
  · rintro ⟨hc, rfl⟩
    obtain ⟨_, h2, h3, h4, h5, h6, h7⟩ := cpuOK_iff.1 hc
    exact cont_at (i := a) (j := b) (k := k) (c := c) (t := t) ⟨h6, h7⟩ ⟨h4, h5⟩
theorem right_of {s c t : Int} (h : 0 < count s c t) : right s c t = true := by
  cases hR : right s c t
  · simp [count, hR] at h
  · rfl
theorem div_fact {s c t : Int} (p : Int) (hR : right s c t = true) : p / (c * t) = p / t / c := by
  have := right_iff.1 hR
  rw [Int.mul_comm c t, ← Int.ediv_ediv_of_nonneg (by omega)]
theorem set_fact {f : Nat → Bool} {l : List Bool} (h : ∀ i, i < 256 → f i = l.getD i false) : decide (setOf f = setOf fun i => l.getD i false) = true := by
  rw [decide_eq_true_eq, setOf_inj]
  exact h
theorem all_fact (s c t : Int) : decide (setOf (allP s c t) = setOf fun i => (upTo (fun _ => true) 256 (count s c t).toNat).getD i false) = true :=
  set_fact fun i hi => by
    have := count_range s c t
    rw [upTo_get hi]
    simp only [allP, Bool.and_true]
    rw [Bool.eq_iff_iff]
    simp only [decide_eq_true_eq]
    omega
theorem cpu_fact1 (s c t a b k : Int) : (cpuOK s c t a b k == fd s c t a b k (count s c t)) = true := by
  simp only [fd]
  cases hc : cpuOK s c t a b k
  · rfl
  · have h := cpu_range hc
    have hR := (cpuOK_iff.1 hc).1
    have : mAt c t a b k < count s c t := by simp only [count, hR, if_true, mAt]; exact h.2.2.2
    simp [this]
theorem cpu_fact2 (s c t a b k : Int) : ((if cpuOK s c t a b k = true then (a * c + b) * t + k else 0) == if fd s c t a b k (count s c t) = true then mAt c t a b k else 0) = true := by
  have h := cpu_fact1 s c t a b k
  rw [beq_iff_eq] at h
  rw [← h, beq_iff_eq]
  rfl
theorem fd_zero (s c t a b k : Int) : fd s c t a b k 0 = false := by
  unfold fd
  cases hc : cpuOK s c t a b k
  · rfl
  · have h := cpu_range hc
    obtain ⟨_, _, _, _, _, h6, _⟩ := cpuOK_iff.1 hc
    rw [Bool.true_and, decide_eq_false_iff_not]
    unfold mAt
    omega
theorem empty_get {i : Nat} (hi : i < 256) : (List.replicate 256 false).getD i false = false := by
  rw [List.getD_eq_getElem?_getD, List.getElem?_replicate]; simp [hi]
theorem sock_none {s c t n : Int} (h : n < 0 ∨ ¬ (0 < count s c t)) : decide (setOf (sockP s c t n) = setOf fun i => (List.replicate 256 false).getD i false) = true :=
  set_fact fun i hi => by
    rw [empty_get hi]
    simp only [sockP, partP]
    rcases h with h | h
    · simp [show ¬ (0 ≤ n) by omega]
    · cases hR : right s c t
      · rfl
      · exfalso; apply h
        have := right_prods hR
        have := right_iff.1 hR
        simp only [count, hR, if_true]
        exact Int.mul_pos (by omega) (by omega)
theorem core_none {s c t n : Int} (h : n < 0 ∨ ¬ (0 < count s c t)) : decide (setOf (coreP s c t n) = setOf fun i => (List.replicate 256 false).getD i false) = true :=
  set_fact fun i hi => by
    rw [empty_get hi]
    simp only [coreP, partP]
    rcases h with h | h
    · simp [show ¬ (0 ≤ n) by omega]
    · cases hR : right s c t
      · rfl
      · exfalso; apply h
        have := right_prods hR
        have := right_iff.1 hR
        simp only [count, hR, if_true]
        exact Int.mul_pos (by omega) (by omega)
theorem block_iff {n z i : Int} (hz : 0 < z) : (n * z ≤ i ∧ i ≤ (n + 1) * z - 1) ↔ i / z = n := by
  constructor
  · rintro ⟨h1, h2⟩
    have a1 : n ≤ i / z := (Int.le_ediv_iff_mul_le hz).2 h1
    have a2 : i / z < n + 1 := Int.ediv_lt_of_lt_mul hz (by omega)
    omega
  · rintro rfl
    have d := Int.mul_ediv_add_emod i z
    have m1 := Int.emod_nonneg i (b := z) (by omega)
    have m2 := Int.emod_lt_of_pos i (b := z) hz
    rw [Int.add_mul, Int.one_mul, Int.mul_comm (i / z) z]
    omega
theorem sock_eq {s c t n : Int} (hR : right s c t = true) (h0 : 0 ≤ n) {i : Nat} : sockP s c t n i = rpartP s c t n (-1) i := by
  have hP := right_prods hR
  have h := right_iff.1 hR
  have hb := block_iff (n := n) (z := c * t) (i := i) (by omega)
  simp only [sockP, partP, rpartP, inRange, hR, Bool.true_and, count, if_true]
  rw [Bool.eq_iff_iff]
  simp only [Bool.and_eq_true, decide_eq_true_eq, Bool.or_eq_true]
  constructor
  · rintro ⟨⟨h1, h2⟩, h3⟩
    have q := hb.1 h3
    refine ⟨?_, q, .inl (by omega)⟩
    have : (n + 1) * (c * t) ≤ s * (c * t) := Int.mul_le_mul_of_nonneg_right (by omega) (by omega)
    rw [Int.mul_assoc]; omega
  · rintro ⟨h1, h2, _⟩
    refine ⟨⟨h0, ?_⟩, hb.2 h2⟩
    rw [← h2]
    exact Int.ediv_lt_of_lt_mul (by omega) (by rw [Int.mul_assoc] at h1; exact h1)
theorem core_eq {s c t n : Int} (hR : right s c t = true) (h0 : 0 ≤ n) {i : Nat} : coreP s c t n i = rpartP s c t (n / c) (n % c) i := by
  have hP := right_prods hR
  have h := right_iff.1 hR
  have hb := block_iff (n := n) (z := t) (i := i) (by omega)
  have m1 := Int.emod_nonneg n (b := c) (by omega)
  have d1 := Int.mul_ediv_add_emod n c
  have d2 := Int.mul_ediv_add_emod ((i : Int) / t) c
  have e := div_fact (i : Int) hR
  simp only [coreP, partP, rpartP, inRange, hR, Bool.true_and, count, if_true]
  rw [Bool.eq_iff_iff]
  simp only [Bool.and_eq_true, decide_eq_true_eq, Bool.or_eq_true]
  constructor
  · rintro ⟨⟨h1, h2⟩, h3⟩
    have q := hb.1 h3
    refine ⟨?_, by rw [e, q], .inr (by rw [q])⟩
    have : (n + 1) * t ≤ s * c * t := Int.mul_le_mul_of_nonneg_right (by omega) (by omega)
    omega
  · rintro ⟨h1, h2, h3⟩
    rw [e] at h2
    have h3 : (i : Int) / t % c = n % c := by rcases h3 with h3 | h3; omega; exact h3
    have q : (i : Int) / t = n := by
      rw [← d1, ← d2, h2, h3]
    refine ⟨⟨h0, ?_⟩, hb.2 q⟩
    rw [← q]
    exact Int.ediv_lt_of_lt_mul (by omega) h1
theorem sock_fact {s c t n : Int} (hR : right s c t = true) (h0 : 0 ≤ n) : decide (setOf (sockP s c t n) = setOf fun i => (List.map (rpartP s c t n (-1)) (List.range 256)).getD i false) = true :=
  set_fact fun i hi => by rw [map_get hi, sock_eq hR h0]
theorem core_fact {s c t n : Int} (hR : right s c t = true) (h0 : 0 ≤ n) (hn : n ≤ 9223372036854775807) : decide (setOf (coreP s c t n) = setOf fun i => (List.map (rpartP s c t (IntKind.i64.wrap (n.tdiv c)) (n.tmod c)) (List.range 256)).getD i false) = true :=
  set_fact fun i hi => by
    have h := right_iff.1 hR
    have e1 : IntKind.i64.wrap (n.tdiv c) = n / c := by
      rw [Int.tdiv_eq_ediv_of_nonneg h0]
      have := Int.ediv_nonneg (a := n) (b := c) h0 (by omega)
      have := Int.ediv_le_self (a := n) c h0
      exact IntWalk.i64_in _ ⟨by omega, by omega⟩
    rw [map_get hi, core_eq hR h0, e1, Int.tmod_eq_emod_of_nonneg h0]
attribute [local irreducible] Go.Abs.setOf
def teA (s c t a b k i : Int) : Env := [(26, .int .i64 fun _ => i), (25, .int .i64 fun _ => count s c t), (24, .slice none 3 (fun _ => count s c t) fun j => .agg (.cons (.int .i64 fun _ => j () / (c * t)) (.cons (.int .i64 fun _ => j () / t % c) (.cons (.int .i64 fun _ => j () % t) .nil)))),
  (6, .bool fun _ => fd s c t a b k i), (5, .int .i64 fun _ => if fd s c t a b k i then mAt c t a b k else 0), (4, .ptr 1 0), (3, .slice none 3 (fun _ => count s c t) fun j => .agg (.cons (.int .i64 fun _ => j () / (c * t)) (.cons (.int .i64 fun _ => j () / t % c) (.cons (.int .i64 fun _ => j () % t) .nil)))), (1, .ptr 0 0)]
def caseO (s c t p a b k n : Int) (q : List Int) : PV := .agg (.cons (.agg (.cons (.int .i64 fun _ => s) (.cons (.int .i64 fun _ => c) (.cons (.int .i64 fun _ => t) .nil)))) (.cons (.arrI .u64 4 fun _ => q) (.cons (.int .i64 fun _ => p) (.cons (.int .i64 fun _ => a) (.cons (.int .i64 fun _ => b) (.cons (.int .i64 fun _ => k) (.cons (.int .i64 fun _ => n) .nil)))))))
def teS (s c t p a b k n : Int) (q : List Int) (i : Int) : Store := [(0, .var (caseO s c t p a b k n q)), (1, .var (.arrB 256 fun _ => upTo (fun _ => true) 256 i.toNat))]
set_option maxHeartbeats 4000000 in
theorem tells_ok (s c t p a b k n : Int) (q : List Int) (hq : okSet q) (hn : n ≤ 9223372036854775807) : PF 3 (.cons (caseP s c t q p a b k n) .nil) .tt := by
  refine (⟨Tryd.func3, rfl, rfl, rfl, rfl, ok _⟩ : FN 3 Tryd.f3).tree (mkO_ok Fq2_ok) false 40 rfl ?_
  conv => arg 5; cbv
  have hr := count_range s c t
  refine run_inv (ι := Int) (fun i => (count s c t - i).toNat) (fun i => 0 ≤ i ∧ i ≤ count s c t) (teA s c t a b k) (teS s c t p a b k n q) 2 0 (fun i => i) (by rfl) (by rfl) ⟨by omega, by omega⟩ ?_ ?_ ?_
  · intro i hi ih
    refine explore_ok (ok _) (mkO_ok Fq2_ok) (u := false) 1 _ rfl ?_
    conv => arg 5; cbv
    refine ⟨fun h => ?_, fun h => ?_⟩
    · have h : i < count s c t := by simpa using h
      have hR : right s c t = true := by
        cases hR : right s c t
        · simp [count, hR] at h; omega
        · rfl
      have hcount : count s c t = s * c * t := by simp [count, hR]
      have hri := row_iff (a := a) (b := b) (k := k) hR hi.1 (by omega)
      have hw : IntKind.i64.wrap (i + 1) = i + 1 := IntWalk.i64_in _ ⟨by omega, by omega⟩
      have hset : (upTo (fun _ => true) 256 i.toNat).set i.toNat true = upTo (fun _ => true) 256 (i + 1).toNat := by
        rw [show (i + 1).toNat = i.toNat + 1 by omega]
        exact upTo_set (p := fun _ => true) (by omega)
      refine explore_ok (ok _) (mkO_ok Fq2_ok) (u := false) 20 _ rfl ?_
      conv => arg 5; cbv
      refine ⟨by (repeat' (first | exact trivial | exact okSet_setOf _ | omega | (dsimp only; omega) | (dsimp; omega) | ((try dsimp only); (try simp only [cast_fold, Int.ofNat_eq_natCast]); omega) | refine ⟨?_, ?_⟩ | (show drawOK _ _ = true; conv => lhs; cbv) | decide | assumption | fail)), fun h2 => ?_, fun h2 => ?_⟩
      · have h2 : (i / (c * t) == a && (i / t % c == b && (i % t == k && true))) = true := h2
        simp only [Bool.and_eq_true, beq_iff_eq, and_true] at h2
        obtain ⟨hc, hm⟩ := hri.1 ⟨h2.1, h2.2.1, h2.2.2⟩
        have hf : fd s c t a b k (i + 1) = true := by simp only [fd, hc, Bool.true_and, decide_eq_true_eq]; omega
        refine ih (i + 1) (fun i => i) ⟨by omega, by omega⟩ (by omega) (by rfl) ⟨⟨rfl, hw⟩, impP_refl _, impP_refl _, ?_, ⟨rfl, ?_⟩, impP_refl _, impP_refl _, impP_refl _, trivial⟩ ⟨impP_refl _, ⟨rfl, hset⟩, trivial⟩
        · exact hf
        · show i = if fd s c t a b k (i + 1) then mAt c t a b k else 0
          rw [hf, if_pos rfl]; exact hm
      · have h2 : (i / (c * t) == a && (i / t % c == b && (i % t == k && true))) = false := h2
        have hno : ¬ (cpuOK s c t a b k = true ∧ i = mAt c t a b k) := fun e => by
          have := hri.2 e
          simp [this.1, this.2.1, this.2.2] at h2
        have hf : fd s c t a b k i = fd s c t a b k (i + 1) := by
          simp only [fd]
          cases hc : cpuOK s c t a b k
          · rfl
          · simp only [Bool.true_and]
            rw [Bool.eq_iff_iff]
            simp only [decide_eq_true_eq]
            have : i ≠ mAt c t a b k := fun e => hno ⟨hc, e⟩
            omega
        refine ih (i + 1) (fun i => i) ⟨by omega, by omega⟩ (by omega) (by rfl) ⟨⟨rfl, hw⟩, impP_refl _, impP_refl _, ?_, ⟨rfl, ?_⟩, impP_refl _, impP_refl _, impP_refl _, trivial⟩ ⟨impP_refl _, ⟨rfl, hset⟩, trivial⟩
        · exact hf
        · show (if fd s c t a b k i then mAt c t a b k else 0) = if fd s c t a b k (i + 1) then mAt c t a b k else 0
          rw [hf]
    · have h : ¬ (i < count s c t) := by simpa using h
      obtain rfl : i = count s c t := by omega
      have hF1 : (right s c t == right s c t) = true := beq_self_eq_true _
      have hF2 := all_fact s c t
      have hF5 := cpu_fact1 s c t a b k
      have hF6 := cpu_fact2 s c t a b k
      have e1 : 0 < count s c t → p / (c * t) = p / t / c := fun h => div_fact p (right_of h)
      refine explore_ok (ok _) (mkO_ok Fq2_ok) (u := false) 1 _ rfl ?_
      conv => arg 5; cbv
      refine ⟨fun h1 => ?_, fun h1 => ?_⟩
      · have h1 : 0 ≤ p := by simpa using h1
        refine explore_ok (ok _) (mkO_ok Fq2_ok) (u := false) 1 _ rfl ?_
        conv => arg 5; cbv
        refine ⟨by (repeat' (first | exact trivial | exact okSet_setOf _ | omega | (dsimp only; omega) | (dsimp; omega) | ((try dsimp only); (try simp only [cast_fold, Int.ofNat_eq_natCast]); omega) | refine ⟨?_, ?_⟩ | (show drawOK _ _ = true; conv => lhs; cbv) | decide | assumption | fail)), fun h2 => ?_, fun h2 => ?_⟩
        · have h2 : p < count s c t := by simpa using h2
          have ho : onPlace s c t p = true := by simp [onPlace, h1, h2]
          have hF3 : (onPlace s c t p == decide (p < count s c t)) = true := by simp [ho, h2]
          have e1 := e1 (by omega)
          refine explore_ok (ok _) (mkO_ok Fq2_ok) (u := false) 1 _ rfl ?_
          conv => arg 5; cbv
          refine ⟨by (repeat' (first | exact trivial | exact okSet_setOf _ | omega | (dsimp only; omega) | (dsimp; omega) | ((try dsimp only); (try simp only [cast_fold, Int.ofNat_eq_natCast]); omega) | refine ⟨?_, ?_⟩ | (show drawOK _ _ = true; conv => lhs; cbv) | decide | assumption | fail)), fun h3 => ?_, fun h3 => ?_⟩
          · have h3 : 0 < count s c t := by simpa using h3
            refine explore_ok (ok _) (mkO_ok Fq2_ok) (u := false) 1 _ rfl ?_
            conv => arg 5; cbv
            refine ⟨fun h4 => ?_, fun h4 => ?_⟩
            · have h4 : 0 ≤ n := by simpa using h4
              have hR := right_of h3
              have hc := right_iff.1 hR
              have hS := sock_fact (s := s) (c := c) (t := t) (n := n) hR h4
              have hC := core_fact (s := s) (c := c) (t := t) (n := n) hR h4 hn
              refine run_true (ok _) (mkO_ok Fq2_ok) 35 rfl ?_
              conv => arg 5; cbv
              refine ⟨by (repeat' (first | exact trivial | exact hF1 | exact hF2 | exact hF3 | exact hF5 | exact hF6 | exact hS | exact hC | (show drawOK _ _ = true; decide +kernel) | (simp [ho, e1]; done) | (dsimp; omega) | omega | refine ⟨?_, ?_⟩ | fail)), ?_⟩
              refine run_true (ok _) (mkO_ok Fq2_ok) 35 rfl ?_
              conv => arg 5; cbv
              refine ⟨by (repeat' (first | exact trivial | exact hF1 | exact hF2 | exact hF3 | exact hF5 | exact hF6 | exact hS | exact hC | (show drawOK _ _ = true; decide +kernel) | (simp [ho, e1]; done) | (dsimp; omega) | omega | refine ⟨?_, ?_⟩ | fail)), ?_⟩
              refine run_true (ok _) (mkO_ok Fq2_ok) 35 rfl ?_
              conv => arg 5; cbv
              refine ⟨by (repeat' (first | exact trivial | exact hF1 | exact hF2 | exact hF3 | exact hF5 | exact hF6 | exact hS | exact hC | (show drawOK _ _ = true; decide +kernel) | (simp [ho, e1]; done) | (dsimp; omega) | omega | refine ⟨?_, ?_⟩ | fail)), ?_⟩
              refine ⟨rfl, ?_⟩
              exact hC
            · have h4 : ¬ (0 ≤ n) := by simpa using h4
              have hS := sock_none (s := s) (c := c) (t := t) (n := n) (by omega)
              have hC := core_none (s := s) (c := c) (t := t) (n := n) (by omega)
              refine run_true (ok _) (mkO_ok Fq2_ok) 35 rfl ?_
              conv => arg 5; cbv
              refine ⟨by (repeat' (first | exact trivial | exact hF1 | exact hF2 | exact hF3 | exact hF5 | exact hF6 | exact hS | exact hC | (show drawOK _ _ = true; decide +kernel) | (simp [ho, e1]; done) | (dsimp; omega) | omega | refine ⟨?_, ?_⟩ | fail)), ?_⟩
              refine run_true (ok _) (mkO_ok Fq2_ok) 35 rfl ?_
              conv => arg 5; cbv
              refine ⟨by (repeat' (first | exact trivial | exact hF1 | exact hF2 | exact hF3 | exact hF5 | exact hF6 | exact hS | exact hC | (show drawOK _ _ = true; decide +kernel) | (simp [ho, e1]; done) | (dsimp; omega) | omega | refine ⟨?_, ?_⟩ | fail)), ?_⟩
              refine run_true (ok _) (mkO_ok Fq2_ok) 35 rfl ?_
              conv => arg 5; cbv
              refine ⟨by (repeat' (first | exact trivial | exact hF1 | exact hF2 | exact hF3 | exact hF5 | exact hF6 | exact hS | exact hC | (show drawOK _ _ = true; decide +kernel) | (simp [ho, e1]; done) | (dsimp; omega) | omega | refine ⟨?_, ?_⟩ | fail)), ?_⟩
              refine ⟨rfl, ?_⟩
              exact hC
          · exfalso
            have h3 : ¬ (0 < count s c t) := by simpa using h3
            omega
        · have h2 : ¬ (p < count s c t) := by simpa using h2
          have ho : onPlace s c t p = false := by simp [onPlace]; omega
          have hF3 : (onPlace s c t p == decide (p < count s c t)) = true := by simp [ho, h2]
          refine explore_ok (ok _) (mkO_ok Fq2_ok) (u := false) 1 _ rfl ?_
          conv => arg 5; cbv
          refine ⟨fun h3 => ?_, fun h3 => ?_⟩
          · have h3 : 0 < count s c t := by simpa using h3
            refine explore_ok (ok _) (mkO_ok Fq2_ok) (u := false) 1 _ rfl ?_
            conv => arg 5; cbv
            refine ⟨fun h4 => ?_, fun h4 => ?_⟩
            · have h4 : 0 ≤ n := by simpa using h4
              have hR := right_of h3
              have hc := right_iff.1 hR
              have hS := sock_fact (s := s) (c := c) (t := t) (n := n) hR h4
              have hC := core_fact (s := s) (c := c) (t := t) (n := n) hR h4 hn
              refine run_true (ok _) (mkO_ok Fq2_ok) 35 rfl ?_
              conv => arg 5; cbv
              refine ⟨by (repeat' (first | exact trivial | exact hF1 | exact hF2 | exact hF3 | exact hF5 | exact hF6 | exact hS | exact hC | (show drawOK _ _ = true; decide +kernel) | (simp [ho, e1]; done) | (dsimp; omega) | omega | refine ⟨?_, ?_⟩ | fail)), ?_⟩
              refine run_true (ok _) (mkO_ok Fq2_ok) 35 rfl ?_
              conv => arg 5; cbv
              refine ⟨by (repeat' (first | exact trivial | exact hF1 | exact hF2 | exact hF3 | exact hF5 | exact hF6 | exact hS | exact hC | (show drawOK _ _ = true; decide +kernel) | (simp [ho, e1]; done) | (dsimp; omega) | omega | refine ⟨?_, ?_⟩ | fail)), ?_⟩
              refine run_true (ok _) (mkO_ok Fq2_ok) 35 rfl ?_
              conv => arg 5; cbv
              refine ⟨by (repeat' (first | exact trivial | exact hF1 | exact hF2 | exact hF3 | exact hF5 | exact hF6 | exact hS | exact hC | (show drawOK _ _ = true; decide +kernel) | (simp [ho, e1]; done) | (dsimp; omega) | omega | refine ⟨?_, ?_⟩ | fail)), ?_⟩
              refine ⟨rfl, ?_⟩
              exact hC
            · have h4 : ¬ (0 ≤ n) := by simpa using h4
              have hS := sock_none (s := s) (c := c) (t := t) (n := n) (by omega)
              have hC := core_none (s := s) (c := c) (t := t) (n := n) (by omega)
              refine run_true (ok _) (mkO_ok Fq2_ok) 35 rfl ?_
              conv => arg 5; cbv
              refine ⟨by (repeat' (first | exact trivial | exact hF1 | exact hF2 | exact hF3 | exact hF5 | exact hF6 | exact hS | exact hC | (show drawOK _ _ = true; decide +kernel) | (simp [ho, e1]; done) | (dsimp; omega) | omega | refine ⟨?_, ?_⟩ | fail)), ?_⟩
              refine run_true (ok _) (mkO_ok Fq2_ok) 35 rfl ?_
              conv => arg 5; cbv
              refine ⟨by (repeat' (first | exact trivial | exact hF1 | exact hF2 | exact hF3 | exact hF5 | exact hF6 | exact hS | exact hC | (show drawOK _ _ = true; decide +kernel) | (simp [ho, e1]; done) | (dsimp; omega) | omega | refine ⟨?_, ?_⟩ | fail)), ?_⟩
              refine run_true (ok _) (mkO_ok Fq2_ok) 35 rfl ?_
              conv => arg 5; cbv
              refine ⟨by (repeat' (first | exact trivial | exact hF1 | exact hF2 | exact hF3 | exact hF5 | exact hF6 | exact hS | exact hC | (show drawOK _ _ = true; decide +kernel) | (simp [ho, e1]; done) | (dsimp; omega) | omega | refine ⟨?_, ?_⟩ | fail)), ?_⟩
              refine ⟨rfl, ?_⟩
              exact hC
          · have h3 : ¬ (0 < count s c t) := by simpa using h3
            have hS := sock_none (s := s) (c := c) (t := t) (n := n) (by omega)
            have hC := core_none (s := s) (c := c) (t := t) (n := n) (by omega)
            refine run_true (ok _) (mkO_ok Fq2_ok) 35 rfl ?_
            conv => arg 5; cbv
            refine ⟨by (repeat' (first | exact trivial | exact hF1 | exact hF2 | exact hF3 | exact hF5 | exact hF6 | exact hS | exact hC | (show drawOK _ _ = true; decide +kernel) | (simp [ho, e1]; done) | (dsimp; omega) | omega | refine ⟨?_, ?_⟩ | fail)), ?_⟩
            refine run_true (ok _) (mkO_ok Fq2_ok) 35 rfl ?_
            conv => arg 5; cbv
            refine ⟨by (repeat' (first | exact trivial | exact hF1 | exact hF2 | exact hF3 | exact hF5 | exact hF6 | exact hS | exact hC | (show drawOK _ _ = true; decide +kernel) | (simp [ho, e1]; done) | (dsimp; omega) | omega | refine ⟨?_, ?_⟩ | fail)), ?_⟩
            refine run_true (ok _) (mkO_ok Fq2_ok) 35 rfl ?_
            conv => arg 5; cbv
            refine ⟨by (repeat' (first | exact trivial | exact hF1 | exact hF2 | exact hF3 | exact hF5 | exact hF6 | exact hS | exact hC | (show drawOK _ _ = true; decide +kernel) | (simp [ho, e1]; done) | (dsimp; omega) | omega | refine ⟨?_, ?_⟩ | fail)), ?_⟩
            refine ⟨rfl, ?_⟩
            exact hC
      · have h1 : ¬ (0 ≤ p) := by simpa using h1
        have ho : onPlace s c t p = false := by simp [onPlace]; omega
        refine explore_ok (ok _) (mkO_ok Fq2_ok) (u := false) 1 _ rfl ?_
        conv => arg 5; cbv
        refine ⟨by (repeat' (first | exact trivial | exact okSet_setOf _ | omega | (dsimp only; omega) | (dsimp; omega) | ((try dsimp only); (try simp only [cast_fold, Int.ofNat_eq_natCast]); omega) | refine ⟨?_, ?_⟩ | (show drawOK _ _ = true; conv => lhs; cbv) | decide | assumption | fail)), fun h2 => ?_, fun h2 => ?_⟩
        · have h3 := h2
          have h3 : 0 < count s c t := by simpa using h3
          refine explore_ok (ok _) (mkO_ok Fq2_ok) (u := false) 1 _ rfl ?_
          conv => arg 5; cbv
          refine ⟨fun h4 => ?_, fun h4 => ?_⟩
          · have h4 : 0 ≤ n := by simpa using h4
            have hR := right_of h3
            have hc := right_iff.1 hR
            have hS := sock_fact (s := s) (c := c) (t := t) (n := n) hR h4
            have hC := core_fact (s := s) (c := c) (t := t) (n := n) hR h4 hn
            refine run_true (ok _) (mkO_ok Fq2_ok) 35 rfl ?_
            conv => arg 5; cbv
            refine ⟨by (repeat' (first | exact trivial | exact hF1 | exact hF2 | exact hF3 | exact hF5 | exact hF6 | exact hS | exact hC | (show drawOK _ _ = true; decide +kernel) | (simp [ho, e1]; done) | (dsimp; omega) | omega | refine ⟨?_, ?_⟩ | fail)), ?_⟩
            refine run_true (ok _) (mkO_ok Fq2_ok) 35 rfl ?_
            conv => arg 5; cbv
            refine ⟨by (repeat' (first | exact trivial | exact hF1 | exact hF2 | exact hF3 | exact hF5 | exact hF6 | exact hS | exact hC | (show drawOK _ _ = true; decide +kernel) | (simp [ho, e1]; done) | (dsimp; omega) | omega | refine ⟨?_, ?_⟩ | fail)), ?_⟩
            refine run_true (ok _) (mkO_ok Fq2_ok) 35 rfl ?_
            conv => arg 5; cbv
            refine ⟨by (repeat' (first | exact trivial | exact hF1 | exact hF2 | exact hF3 | exact hF5 | exact hF6 | exact hS | exact hC | (show drawOK _ _ = true; decide +kernel) | (simp [ho, e1]; done) | (dsimp; omega) | omega | refine ⟨?_, ?_⟩ | fail)), ?_⟩
            refine ⟨rfl, ?_⟩
            exact hC
          · have h4 : ¬ (0 ≤ n) := by simpa using h4
            have hS := sock_none (s := s) (c := c) (t := t) (n := n) (by omega)
            have hC := core_none (s := s) (c := c) (t := t) (n := n) (by omega)
            refine run_true (ok _) (mkO_ok Fq2_ok) 35 rfl ?_
            conv => arg 5; cbv
            refine ⟨by (repeat' (first | exact trivial | exact hF1 | exact hF2 | exact hF3 | exact hF5 | exact hF6 | exact hS | exact hC | (show drawOK _ _ = true; decide +kernel) | (simp [ho, e1]; done) | (dsimp; omega) | omega | refine ⟨?_, ?_⟩ | fail)), ?_⟩
            refine run_true (ok _) (mkO_ok Fq2_ok) 35 rfl ?_
            conv => arg 5; cbv
            refine ⟨by (repeat' (first | exact trivial | exact hF1 | exact hF2 | exact hF3 | exact hF5 | exact hF6 | exact hS | exact hC | (show drawOK _ _ = true; decide +kernel) | (simp [ho, e1]; done) | (dsimp; omega) | omega | refine ⟨?_, ?_⟩ | fail)), ?_⟩
            refine run_true (ok _) (mkO_ok Fq2_ok) 35 rfl ?_
            conv => arg 5; cbv
            refine ⟨by (repeat' (first | exact trivial | exact hF1 | exact hF2 | exact hF3 | exact hF5 | exact hF6 | exact hS | exact hC | (show drawOK _ _ = true; decide +kernel) | (simp [ho, e1]; done) | (dsimp; omega) | omega | refine ⟨?_, ?_⟩ | fail)), ?_⟩
            refine ⟨rfl, ?_⟩
            exact hC
        · have h3 := h2
          have h3 : ¬ (0 < count s c t) := by simpa using h3
          have hS := sock_none (s := s) (c := c) (t := t) (n := n) (by omega)
          have hC := core_none (s := s) (c := c) (t := t) (n := n) (by omega)
          refine run_true (ok _) (mkO_ok Fq2_ok) 35 rfl ?_
          conv => arg 5; cbv
          refine ⟨by (repeat' (first | exact trivial | exact hF1 | exact hF2 | exact hF3 | exact hF5 | exact hF6 | exact hS | exact hC | (show drawOK _ _ = true; decide +kernel) | (simp [ho, e1]; done) | (dsimp; omega) | omega | refine ⟨?_, ?_⟩ | fail)), ?_⟩
          refine run_true (ok _) (mkO_ok Fq2_ok) 35 rfl ?_
          conv => arg 5; cbv
          refine ⟨by (repeat' (first | exact trivial | exact hF1 | exact hF2 | exact hF3 | exact hF5 | exact hF6 | exact hS | exact hC | (show drawOK _ _ = true; decide +kernel) | (simp [ho, e1]; done) | (dsimp; omega) | omega | refine ⟨?_, ?_⟩ | fail)), ?_⟩
          refine run_true (ok _) (mkO_ok Fq2_ok) 35 rfl ?_
          conv => arg 5; cbv
          refine ⟨by (repeat' (first | exact trivial | exact hF1 | exact hF2 | exact hF3 | exact hF5 | exact hF6 | exact hS | exact hC | (show drawOK _ _ = true; decide +kernel) | (simp [ho, e1]; done) | (dsimp; omega) | omega | refine ⟨?_, ?_⟩ | fail)), ?_⟩
          refine ⟨rfl, ?_⟩
          exact hC
  · have hf := fd_zero s c t a b k
    refine ⟨impP_refl _, impP_refl _, impP_refl _, ?_, ⟨rfl, ?_⟩, impP_refl _, impP_refl _, impP_refl _, trivial⟩
    · exact hf
    · show 0 = if fd s c t a b k 0 then mAt c t a b k else 0
      rw [hf]; rfl
  · exact ⟨impP_refl _, ⟨rfl, (upTo_zero _ 256).symm⟩, trivial⟩
end Go.Proofs.YtdikfhjpnfffnaaDoor
