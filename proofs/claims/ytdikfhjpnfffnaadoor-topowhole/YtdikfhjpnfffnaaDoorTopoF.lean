/- TOPO: the second statement's function. -/
import Derived.Test.YtdikfhjpnfffnaaDoorTopoE
import Derived.Test.YtdikfhjpnfffnaaDoorGc
set_option maxRecDepth 2000
set_option linter.unusedVariables false
set_option linter.unusedSimpArgs false
set_option linter.unusedVariables false
set_option linter.unusedSimpArgs false
namespace Go.Proofs.YtdikfhjpnfffnaaDoor
open Go Go.Abs Go.Proofs
def nAt (s c t n : Int) (q : List Int) (m : Int) : Int := if 0 ≤ n ∧ n < m then ((cnt (fun i => bitAt q i && coreP s c t n i) 256 : Nat) : Int) else 0
def woA (s c t n : Int) (q : List Int) (i : Int) : Env := [(24, .int .i64 fun _ => i), (23, .int .i64 fun _ => s), (22, .ptr 0 0), (6, .int .i64 fun _ => nAt s c t n q (i * c)),
  (5, .slice (some 3) 1 (fun _ => ((wholeL (coreP s c t) (bitAt q) (i * c).toNat).length : Int)) fun j => .int .i64 fun _ => (wholeL (coreP s c t) (bitAt q) (i * c).toNat).getD (j ()).toNat 0),
  (4, .slice (some 2) 1 (fun _ => ((wholeL (sockP s c t) (bitAt q) i.toNat).length : Int)) fun j => .int .i64 fun _ => (wholeL (sockP s c t) (bitAt q) i.toNat).getD (j ()).toNat 0), (3, .ptr 1 0), (1, .ptr 0 0)]
def woS (s c t p a b k n : Int) (q : List Int) : Store := [(3, .own 1 3), (2, .own 1 3), (0, .var (caseO s c t p a b k n q)), (1, .var (.arrB 256 fun _ => (List.range 256).map (bitAt q)))]
theorem under_list (a : Int → Nat → Bool) (c' : Nat → Bool) (p : Nat → Bool) (h : ∀ i, i < 256 → p i = c' i) (q : List Int) : ((List.range 256).all fun i => !(List.map c' (List.range 256)).getD i false || (List.map (bitAt q) (List.range 256)).getD i false) = sub p (bitAt q) := by
  unfold sub
  rw [Bool.eq_iff_iff, List.all_eq_true, List.all_eq_true]
  refine forall_congr' fun i => forall_congr' fun hi => ?_
  rw [List.mem_range] at hi
  rw [map_get hi, map_get hi, h i hi]
def ren24 : Nat → Nat := fun i => bif beqN i 2 then 4 else i
def ren35 : Nat → Nat := fun i => bif beqN i 3 then 5 else i
def ren34 : Nat → Nat := fun i => bif beqN i 3 then 4 else i
def slI (id : Nat) (l : List Int) : PV := .slice (some id) 1 (fun _ => (l.length : Int)) fun j => .int .i64 fun _ => l.getD (j ()).toNat 0
def wmA (s c t n : Int) (q : List Int) (i j : Int) : Env := [(7, .int .i64 fun _ => i), (24, .int .i64 fun _ => i), (23, .int .i64 fun _ => s), (22, .ptr 0 0), (6, .int .i64 fun _ => nAt s c t n q (i * c + j)),
  (5, .slice (some 3) 1 (fun _ => ((wholeL (coreP s c t) (bitAt q) (i * c + j).toNat).length : Int)) fun j' => .int .i64 fun _ => (wholeL (coreP s c t) (bitAt q) (i * c + j).toNat).getD (j' ()).toNat 0),
  (4, .slice (some 2) 1 (fun _ => ((wholeL (sockP s c t) (bitAt q) (i + 1).toNat).length : Int)) fun j' => .int .i64 fun _ => (wholeL (sockP s c t) (bitAt q) (i + 1).toNat).getD (j' ()).toNat 0), (3, .ptr 1 0), (1, .ptr 0 0)]
def wkA (s c t n : Int) (q : List Int) (i j : Int) : Env := (40, .int .i64 fun _ => j) :: (39, .int .i64 fun _ => c) :: wmA s c t n q i j
def nIn (s c t n : Int) (q : List Int) (m x : Int) : Int := nAt s c t n q m + if n = m then ((cnt (fun i => bitAt q i && coreP s c t n i) x.toNat : Nat) : Int) else 0
theorem nIn_step (s c t n : Int) (q : List Int) (m : Int) {x : Int} (hx : 0 ≤ x) : nIn s c t n q m (x + 1) = nIn s c t n q m x + if n = m then (if (bitAt q x.toNat && coreP s c t n x.toNat) = true then 1 else 0) else 0 := by
  unfold nIn
  rw [show (x + 1).toNat = x.toNat + 1 by omega]
  by_cases h : n = m
  · simp only [h, if_true, cnt]
    split <;> simp <;> omega
  · simp only [h, if_false]
    omega
theorem nIn_end (s c t n : Int) (q : List Int) {m : Int} (hm : 0 ≤ m) : nIn s c t n q m 256 = nAt s c t n q (m + 1) := by
  unfold nIn nAt
  by_cases h : n = m
  · subst h
    rw [if_neg (by omega), if_pos rfl, if_pos ⟨hm, by omega⟩]
    simp
  · rw [if_neg h, Int.add_zero]
    by_cases h2 : 0 ≤ n ∧ n < m
    · rw [if_pos h2, if_pos ⟨h2.1, by omega⟩]
    · rw [if_neg h2, if_neg (by omega)]
theorem nIn_range (s c t n : Int) (q : List Int) (m : Int) {x : Int} (hx : x ≤ 256) : 0 ≤ nIn s c t n q m x ∧ nIn s c t n q m x ≤ 512 := by
  have h1 := cnt_le (fun i => bitAt q i && coreP s c t n i) 256
  have h2 := cnt_le (fun i => bitAt q i && coreP s c t n i) x.toNat
  unfold nIn nAt
  split <;> split <;> omega
/-- The innermost loop: the core 'm' has been looked at. -/
def wxA (s c t n : Int) (q : List Int) (i j x : Int) : Env := [(61, .int .i64 fun _ => x), (9, .ptr 4 0), (8, .int .i64 fun _ => j), (40, .int .i64 fun _ => j), (39, .int .i64 fun _ => c), (7, .int .i64 fun _ => i), (24, .int .i64 fun _ => i), (23, .int .i64 fun _ => s), (22, .ptr 0 0), (6, .int .i64 fun _ => nIn s c t n q (i * c + j) x),
  (5, .slice (some 3) 1 (fun _ => ((wholeL (coreP s c t) (bitAt q) (i * c + j + 1).toNat).length : Int)) fun j' => .int .i64 fun _ => (wholeL (coreP s c t) (bitAt q) (i * c + j + 1).toNat).getD (j' ()).toNat 0),
  (4, .slice (some 2) 1 (fun _ => ((wholeL (sockP s c t) (bitAt q) (i + 1).toNat).length : Int)) fun j' => .int .i64 fun _ => (wholeL (sockP s c t) (bitAt q) (i + 1).toNat).getD (j' ()).toNat 0), (3, .ptr 1 0), (1, .ptr 0 0)]
def wxS (s c t p a b k n : Int) (q : List Int) (i j : Int) : Store := (4, .var (.arrB 256 fun _ => (List.range 256).map (rpartP s c t i j))) :: woS s c t p a b k n q
theorem same_fact {a b : List Int} (h : a = b) : eqL (rdL (α := Int) (Sh.int .i64).rd (fun _ => (a.length : Int)) fun j => .int .i64 fun _ => a.getD (j ()).toNat 0) (rdL (α := Int) (Sh.int .i64).rd (fun _ => (b.length : Int)) fun j => .int .i64 fun _ => b.getD (j ()).toNat 0) = true :=
  decide_eq_true ((rdL_int .i64 a).trans (h.trans (rdL_int .i64 b).symm))
theorem same_nil {a : List Int} (h : a = []) : eqL (rdL (α := Int) (Sh.int .i64).rd (fun _ => (a.length : Int)) fun j => .int .i64 fun _ => a.getD (j ()).toNat 0) [] = true :=
  decide_eq_true ((rdL_int .i64 a).trans h)
theorem same_len {a : List Int} (h : a.length ≤ 512) : ((rdL (α := Int) (Sh.int .i64).rd (fun _ => (a.length : Int)) fun j => .int .i64 fun _ => a.getD (j ()).toNat 0).length : Int) ≤ 9223372036854775807 := by
  rw [rdL_int]; omega
theorem cnt_none {p : Nat → Bool} : ∀ {n : Nat}, (∀ i, i < n → p i = false) → cnt p n = 0 := by
  intro n
  induction n with
  | zero => intro _; rfl
  | succ n ih =>
    intro h
    have h1 := h n (by omega)
    have h2 := ih fun i hi => h i (by omega)
    simp [cnt, h1, h2]
theorem free_fact {s c t n : Int} {q : List Int} (hR : right s c t = true) : (((cnt (fun i => bitAt q i && coreP s c t n i) 256 : Nat) : Int) == nAt s c t n q (s * c)) = true := by
  rw [beq_iff_eq]
  unfold nAt
  by_cases h : 0 ≤ n ∧ n < s * c
  · rw [if_pos h]
  · rw [if_neg h, cnt_none]
    · rfl
    intro i _
    have : (decide (0 ≤ n) && decide (n < s * c)) = false := by
      rw [Bool.eq_false_iff]; intro e
      simp only [Bool.and_eq_true, decide_eq_true_eq] at e
      exact h e
    simp only [coreP, partP, hR, Bool.true_and, this, Bool.false_and, Bool.and_false]
set_option maxHeartbeats 4000000 in
theorem whole_law (s c t p a b k n : Int) (q : List Int) (hq : okSet q) (hn : n ≤ 9223372036854775807) : PF 4 (.cons (caseP s c t q p a b k n) .nil) .tt := by
  refine (⟨Tryd.func4, rfl, rfl, rfl, rfl, ok _⟩ : FN 4 Tryd.f4).tree (mkO_ok Fq2_ok) false 40 rfl ?_
  conv => arg 5; cbv
  refine ⟨⟨hq, trivial⟩, fun h => ?_, fun h => ?_⟩
  · have hR : right s c t = true := h
    have hr := right_iff.1 hR
    have hP := right_prods hR
    refine run_own (A := _) 4 1 3 (.int .i64 fun _ => 0) (by rfl) (by rfl) (by rfl) ?_
    refine run_own (A := _) 5 1 3 (.int .i64 fun _ => 0) (by rfl) (by rfl) (by rfl) ?_
    refine run_inv (ι := Int) (fun i => (s - i).toNat) (fun i => 0 ≤ i ∧ i ≤ s) (woA s c t n q) (fun _ => woS s c t p a b k n q) 4 0 (fun i => i) (by rfl) (by rfl) ⟨by omega, by omega⟩ ?_ ?_ ?_
    · intro i hi ih
      refine explore_ok (ok _) (mkO_ok Fq2_ok) (u := false) 1 _ rfl ?_
      conv => arg 5; cbv
      refine ⟨fun h2 => ?_, fun h2 => ?_⟩
      · have h2 : i < s := by simpa using h2
        have hi1 : (i + 1).toNat = i.toNat + 1 := by omega
        have hii : ((i.toNat : Nat) : Int) = i := by omega
        have hst := wholeL_step (sockP s c t) (bitAt q) i.toNat
        rw [hii] at hst
        have hlen := wholeL_len (sockP s c t) (bitAt q) i.toNat
        have hund : ((List.range 256).all fun i_1 => !(List.map (rpartP s c t i (-1)) (List.range 256)).getD i_1 false || (List.map (bitAt q) (List.range 256)).getD i_1 false) = sub (sockP s c t i) (bitAt q) := under_list (fun _ _ => true) _ _ (fun x _ => sock_eq hR hi.1) q
        refine explore_ok (ok _) (mkO_ok Fq2_ok) (u := false) 4 _ rfl ?_
        conv => arg 5; cbv
        refine ⟨by (repeat' (first | exact trivial | exact okSet_setOf _ | omega | (dsimp only; omega) | (dsimp; omega) | ((try dsimp only); (try simp only [cast_fold, Int.ofNat_eq_natCast]); omega) | refine ⟨?_, ?_⟩ | (show drawOK _ _ = true; conv => lhs; cbv) | decide | assumption | fail)), tree_join (wkA s c t n q i 0) (woS s c t p a b k n q) 4 ren24 (fun i => i) (by rfl) ?_ (by rfl) (by rfl) ?_ ?_ ?_ ?_ ?_⟩
        · refine run_inv (ι := Int) (fun j => (c - j).toNat) (fun j => 0 ≤ j ∧ j ≤ c) (wkA s c t n q i) (fun _ => woS s c t p a b k n q) 4 0 (fun i => i) (by rfl) (by rfl) ⟨by omega, by omega⟩ ?_ ?_ ?_
          · intro j hj ih2
            refine explore_ok (ok _) (mkO_ok Fq2_ok) (u := false) 1 _ rfl ?_
            conv => arg 5; cbv
            refine ⟨fun h3 => ?_, fun h3 => ?_⟩
            · have h3 : j < c := by simpa using h3
              have hm0 : 0 ≤ i * c := Int.mul_nonneg hi.1 (by omega)
              have hm1 : (i + 1) * c ≤ s * c := Int.mul_le_mul_of_nonneg_right (by omega) (by omega)
              rw [Int.add_mul] at hm1
              have hw1 : IntKind.i64.wrap (i * c) = i * c := IntWalk.i64_in _ ⟨by omega, by omega⟩
              have hw2 : IntKind.i64.wrap (IntKind.i64.wrap (i * c) + j) = i * c + j := by rw [hw1]; exact IntWalk.i64_in _ ⟨by omega, by omega⟩
              have hst2 := wholeL_step (coreP s c t) (bitAt q) (i * c + j).toNat
              rw [show (((i * c + j).toNat : Nat) : Int) = i * c + j by omega, show (i * c + j).toNat + 1 = (i * c + j + 1).toNat by omega] at hst2
              have hlen2 := wholeL_len (coreP s c t) (bitAt q) (i * c + j).toNat
              have hpl : ∀ x : Nat, x < 256 → coreP s c t (i * c + j) x = rpartP s c t i j x := fun x _ => by
                rw [core_eq hR (by omega)]
                have e1 : (i * c + j) / c = i := by rw [Int.add_comm, Int.add_mul_ediv_right _ _ (by omega), Int.ediv_eq_zero_of_lt hj.1 h3]; omega
                have e2 : (i * c + j) % c = j := by rw [Int.add_comm, Int.add_mul_emod_self_right, Int.emod_eq_of_lt hj.1 h3]
                rw [e1, e2]
              have hund2 : ((List.range 256).all fun i_1 => !(List.map (rpartP s c t i j) (List.range 256)).getD i_1 false || (List.map (bitAt q) (List.range 256)).getD i_1 false) = sub (coreP s c t (i * c + j)) (bitAt q) := under_list (fun _ _ => true) _ _ hpl q
              have hn0 : nAt s c t n q (i * c + j) = nIn s c t n q (i * c + j) 0 := by simp [nIn, cnt]
              refine explore_ok (ok _) (mkO_ok Fq2_ok) (u := false) 4 _ rfl ?_
              conv => arg 5; cbv
              refine tree_join (wxA s c t n q i j 0) (wxS s c t p a b k n q i j) 5 ren35 (fun i => i) (by rfl) ?_ (by rfl) (by rfl) ?_ ?_ ?_ ?_ ?_
              · refine run_inv (ι := Int) (fun x => (256 - x).toNat) (fun x => 0 ≤ x ∧ x ≤ 256) (wxA s c t n q i j) (fun _ => wxS s c t p a b k n q i j) 5 0 (fun i => i) (by rfl) (by rfl) ⟨by omega, by omega⟩ ?_ ?_ ?_
                · intro x hx ih3
                  refine explore_ok (ok _) (mkO_ok Fq2_ok) (u := false) 1 _ rfl ?_
                  conv => arg 5; cbv
                  refine ⟨fun h4 => ?_, fun h4 => ?_⟩
                  · have h4 : x < 256 := by simpa using h4
                    refine explore_ok (ok _) (mkO_ok Fq2_ok) (u := false) 4 _ rfl ?_
                    conv => arg 5; cbv
                    have hwx : IntKind.i64.wrap (x + 1) = x + 1 := IntWalk.i64_in _ ⟨by omega, by omega⟩
                    have hst3 := nIn_step s c t n q (i * c + j) hx.1
                    have hrg := nIn_range s c t n q (i * c + j) hx.2
                    have hgr : (List.map (rpartP s c t i j) (List.range 256)).getD x.toNat false = rpartP s c t i j x.toNat := map_get (by omega)
                    have hgq : (List.map (bitAt q) (List.range 256)).getD x.toNat false = bitAt q x.toNat := map_get (by omega)
                    have hpx := hpl x.toNat (by omega)
                    refine ⟨fun h5 => ⟨by (repeat' (first | exact trivial | exact okSet_setOf _ | omega | (dsimp only; omega) | (dsimp; omega) | ((try dsimp only); (try simp only [cast_fold, Int.ofNat_eq_natCast]); omega) | refine ⟨?_, ?_⟩ | (show drawOK _ _ = true; conv => lhs; cbv) | decide | assumption | fail)), fun h6 => ⟨by (repeat' (first | exact trivial | exact okSet_setOf _ | omega | (dsimp only; omega) | (dsimp; omega) | ((try dsimp only); (try simp only [cast_fold, Int.ofNat_eq_natCast]); omega) | refine ⟨?_, ?_⟩ | (show drawOK _ _ = true; conv => lhs; cbv) | decide | assumption | fail)), fun h7 => ?_, fun h7 => ?_⟩, fun h6 => ?_⟩, fun h5 => ?_⟩
                    · have h5 : (IntKind.i64.wrap (IntKind.i64.wrap (i * c) + j) == n) = true := h5
                      rw [hw2, beq_iff_eq] at h5
                      have h6 := hgr.symm.trans h6
                      have h7 := hgq.symm.trans h7
                      have hbit : coreP s c t n x.toNat = rpartP s c t i j x.toNat := by rw [← h5]; exact hpx
                      rw [if_pos h5.symm, hbit, h6, h7] at hst3
                      refine ih3 (x + 1) (fun i => i) ⟨by omega, by omega⟩ (by omega) (by rfl) ⟨⟨rfl, hwx⟩, impP_refl _, impP_refl _, impP_refl _, impP_refl _, impP_refl _, impP_refl _, impP_refl _, impP_refl _, ⟨rfl, ?_⟩, impP_refl _, impP_refl _, impP_refl _, impP_refl _, trivial⟩ ⟨impP_refl _, ⟨rfl, rfl⟩, ⟨rfl, rfl⟩, impP_refl _, impP_refl _, trivial⟩
                      show IntKind.i64.wrap (nIn s c t n q (i * c + j) x + 1) = nIn s c t n q (i * c + j) (x + 1)
                      rw [hst3, IntWalk.i64_in _ ⟨by omega, by omega⟩]; rfl
                    · have h5 : (IntKind.i64.wrap (IntKind.i64.wrap (i * c) + j) == n) = true := h5
                      rw [hw2, beq_iff_eq] at h5
                      have h7 := hgq.symm.trans h7
                      rw [h7] at hst3
                      refine ih3 (x + 1) (fun i => i) ⟨by omega, by omega⟩ (by omega) (by rfl) ⟨⟨rfl, hwx⟩, impP_refl _, impP_refl _, impP_refl _, impP_refl _, impP_refl _, impP_refl _, impP_refl _, impP_refl _, ⟨rfl, ?_⟩, impP_refl _, impP_refl _, impP_refl _, impP_refl _, trivial⟩ ⟨impP_refl _, ⟨rfl, rfl⟩, ⟨rfl, rfl⟩, impP_refl _, impP_refl _, trivial⟩
                      show nIn s c t n q (i * c + j) x = nIn s c t n q (i * c + j) (x + 1)
                      rw [hst3]; simp
                    · have h5 : (IntKind.i64.wrap (IntKind.i64.wrap (i * c) + j) == n) = true := h5
                      rw [hw2, beq_iff_eq] at h5
                      have h6 := hgr.symm.trans h6
                      have hbit : coreP s c t n x.toNat = rpartP s c t i j x.toNat := by rw [← h5]; exact hpx
                      rw [hbit, h6] at hst3
                      refine ih3 (x + 1) (fun i => i) ⟨by omega, by omega⟩ (by omega) (by rfl) ⟨⟨rfl, hwx⟩, impP_refl _, impP_refl _, impP_refl _, impP_refl _, impP_refl _, impP_refl _, impP_refl _, impP_refl _, ⟨rfl, ?_⟩, impP_refl _, impP_refl _, impP_refl _, impP_refl _, trivial⟩ ⟨impP_refl _, ⟨rfl, rfl⟩, ⟨rfl, rfl⟩, impP_refl _, impP_refl _, trivial⟩
                      show nIn s c t n q (i * c + j) x = nIn s c t n q (i * c + j) (x + 1)
                      rw [hst3]; simp
                    · have h5 : (IntKind.i64.wrap (IntKind.i64.wrap (i * c) + j) == n) = false := h5
                      rw [hw2, beq_eq_false_iff_ne] at h5
                      rw [if_neg (fun e => h5 e.symm)] at hst3
                      refine ih3 (x + 1) (fun i => i) ⟨by omega, by omega⟩ (by omega) (by rfl) ⟨⟨rfl, hwx⟩, impP_refl _, impP_refl _, impP_refl _, impP_refl _, impP_refl _, impP_refl _, impP_refl _, impP_refl _, ⟨rfl, ?_⟩, impP_refl _, impP_refl _, impP_refl _, impP_refl _, trivial⟩ ⟨impP_refl _, ⟨rfl, rfl⟩, ⟨rfl, rfl⟩, impP_refl _, impP_refl _, trivial⟩
                      show nIn s c t n q (i * c + j) x = nIn s c t n q (i * c + j) (x + 1)
                      rw [hst3, Int.add_zero]
                  · have h4 : ¬ (x < 256) := by simpa using h4
                    obtain rfl : x = 256 := by omega
                    have hwj : IntKind.i64.wrap (j + 1) = j + 1 := IntWalk.i64_in _ ⟨by omega, by omega⟩
                    have hend := nIn_end s c t n q (m := i * c + j) (by omega)
                    have hmj : i * c + j + 1 = i * c + (j + 1) := by omega
                    refine explore_ok (ok _) (mkO_ok Fq2_ok) (u := false) 4 _ rfl ?_
                    conv => arg 5; cbv
                    refine ih2 (j + 1) (fun i => i) ⟨by omega, by omega⟩ (by omega) (by rfl) ⟨⟨rfl, hwj⟩, impP_refl _, impP_refl _, impP_refl _, impP_refl _, impP_refl _, ⟨rfl, ?_⟩, ?_, impP_refl _, impP_refl _, impP_refl _, trivial⟩ ⟨⟨rfl, rfl⟩, ⟨rfl, rfl⟩, impP_refl _, impP_refl _, trivial⟩
                    · show nIn s c t n q (i * c + j) 256 = nAt s c t n q (i * c + (j + 1))
                      rw [hend, hmj]
                    · rw [← hmj]; exact impP_refl _
                · (repeat' (first | exact trivial | rfl | assumption | exact impP_refl _ | refine ⟨?_, ?_⟩ | fail))
                · (repeat' (first | exact trivial | rfl | assumption | exact impP_refl _ | refine ⟨?_, ?_⟩ | fail))
              · intro _
                refine ⟨⟨by decide, ?_⟩, trivial⟩
                show (((wholeL (coreP s c t) (bitAt q) (i * c + j).toNat).length : Int) + 1) * 8 ≤ 140737488355328
                omega
              · intro hb
                rw [show sub (coreP s c t (i * c + j)) (bitAt q) = true from hund2.symm.trans hb, if_pos rfl] at hst2
                refine ⟨impP_refl _, impP_refl _, impP_refl _, impP_refl _, impP_refl _, impP_refl _, impP_refl _, impP_refl _, impP_refl _, ⟨rfl, hn0⟩, ?_, impP_refl _, impP_refl _, impP_refl _, trivial⟩
                rw [hst2]
                refine impP_trans_eq (push_imp (.int .i64) (some 5) 1 (wholeL (coreP s c t) (bitAt q) (i * c + j).toNat) (IntKind.i64.wrap (IntKind.i64.wrap (i * c) + j))) ?_
                rw [hw2]
                rfl
              · intro _; exact ⟨impP_refl _, ⟨rfl, rfl⟩, ⟨rfl, rfl⟩, impP_refl _, impP_refl _, trivial⟩
              · intro hb
                rw [show sub (coreP s c t (i * c + j)) (bitAt q) = false from hund2.symm.trans hb, if_neg (by decide)] at hst2
                refine ⟨impP_refl _, impP_refl _, impP_refl _, impP_refl _, impP_refl _, impP_refl _, impP_refl _, impP_refl _, impP_refl _, ⟨rfl, hn0⟩, ?_, impP_refl _, impP_refl _, impP_refl _, trivial⟩
                rw [hst2]
                exact impP_refl _
              · intro _; exact ⟨impP_refl _, ⟨rfl, rfl⟩, ⟨rfl, rfl⟩, impP_refl _, impP_refl _, trivial⟩
            · have h3 : ¬ (j < c) := by simpa using h3
              obtain rfl : j = c := by omega
              have hw : IntKind.i64.wrap (i + 1) = i + 1 := IntWalk.i64_in _ ⟨by omega, by omega⟩
              have hmc : i * j + j = (i + 1) * j := by rw [Int.add_mul, Int.one_mul]
              refine explore_ok (ok _) (mkO_ok Fq2_ok) (u := false) 4 _ rfl ?_
              conv => arg 5; cbv
              refine ih (i + 1) (fun i => i) ⟨by omega, by omega⟩ (by omega) (by rfl) ⟨⟨rfl, hw⟩, impP_refl _, impP_refl _, ⟨rfl, ?_⟩, ?_, impP_refl _, impP_refl _, impP_refl _, trivial⟩ ⟨⟨rfl, rfl⟩, ⟨rfl, rfl⟩, impP_refl _, impP_refl _, trivial⟩
              · show nAt s j t n q (i * j + j) = nAt s j t n q ((i + 1) * j)
                rw [hmc]
              · rw [← hmc]; exact impP_refl _
          · (repeat' (first | exact trivial | rfl | assumption | exact impP_refl _ | refine ⟨?_, ?_⟩ | fail))
          · (repeat' (first | exact trivial | rfl | assumption | exact impP_refl _ | refine ⟨?_, ?_⟩ | fail))
        · intro _
          refine ⟨⟨by decide, ?_⟩, trivial⟩
          show (((wholeL (sockP s c t) (bitAt q) i.toNat).length : Int) + 1) * 8 ≤ 140737488355328
          omega
        · intro hb
          rw [show sub (sockP s c t i) (bitAt q) = true from hund.symm.trans hb, if_pos rfl] at hst
          refine ⟨impP_refl _, impP_refl _, impP_refl _, impP_refl _, impP_refl _, impP_refl _, ⟨rfl, ?_⟩, ?_, ?_, impP_refl _, impP_refl _, trivial⟩
          · show nAt s c t n q (i * c) = nAt s c t n q (i * c + 0)
            rw [Int.add_zero]
          · rw [Int.add_zero]; exact impP_refl _
          · rw [hi1, hst]
            exact push_imp (.int .i64) (some 4) 1 (wholeL (sockP s c t) (bitAt q) i.toNat) i
        · intro _; exact ⟨⟨rfl, rfl⟩, ⟨rfl, rfl⟩, impP_refl _, impP_refl _, trivial⟩
        · intro hb
          rw [show sub (sockP s c t i) (bitAt q) = false from hund.symm.trans hb, if_neg (by decide)] at hst
          refine ⟨impP_refl _, impP_refl _, impP_refl _, impP_refl _, impP_refl _, impP_refl _, ⟨rfl, ?_⟩, ?_, ?_, impP_refl _, impP_refl _, trivial⟩
          · show nAt s c t n q (i * c) = nAt s c t n q (i * c + 0)
            rw [Int.add_zero]
          · rw [Int.add_zero]; exact impP_refl _
          · rw [hi1, hst]; exact impP_refl _
        · intro _; exact ⟨⟨rfl, rfl⟩, ⟨rfl, rfl⟩, impP_refl _, impP_refl _, trivial⟩
      · have h2 : ¬ (i < s) := by simpa using h2
        obtain rfl : i = s := by omega
        refine explore_ok (ok _) (mkO_ok Fq2_ok) (u := false) 40 _ rfl ?_
        conv => arg 5; cbv
        have hF : (((cnt (fun i_1 => bitAt q i_1 && coreP i c t n i_1) 256 : Nat) : Int) == nAt i c t n q (i * c)) = true := free_fact hR
        have e1 : wholeS i c t (bitAt q) = wholeL (sockP i c t) (bitAt q) i.toNat := by simp only [wholeS, hR, cond_true]
        have e2 : wholeC i c t (bitAt q) = wholeL (coreP i c t) (bitAt q) (i * c).toNat := by simp only [wholeC, hR, cond_true]
        have l1 := wholeL_len (sockP i c t) (bitAt q) i.toNat
        have l2 := wholeL_len (coreP i c t) (bitAt q) (i * c).toNat
        refine ⟨⟨hq, same_len (by rw [e1]; omega), fun _ => rfl, fun _ => rfl, trivial⟩, fun _ => ⟨⟨same_len (by rw [e2]; omega), fun _ => rfl, fun _ => rfl, trivial⟩, fun _ => ⟨⟨hq, trivial⟩, rfl, ?_⟩, fun h => absurd h ?_⟩, fun h => absurd h ?_⟩
        · exact hF
        · exact fun e => Bool.noConfusion ((same_fact e2).symm.trans e)
        · exact fun e => Bool.noConfusion ((same_fact e1).symm.trans e)
    · refine ⟨impP_refl _, impP_refl _, impP_refl _, ⟨rfl, ?_⟩, ⟨.inr rfl, rfl, ?_, fun j h0 h1 => absurd h1 (by show ¬ j < 0; omega)⟩, ⟨.inr rfl, rfl, rfl, fun j h0 h1 => absurd h1 (by show ¬ j < 0; omega)⟩, impP_refl _, impP_refl _, trivial⟩
      · show 0 = nAt s c t n q (0 * c)
        unfold nAt
        rw [Int.zero_mul, if_neg (by omega)]
      · show 0 = ((wholeL (coreP s c t) (bitAt q) (0 * c).toNat).length : Int)
        rw [Int.zero_mul]; rfl
    · exact ⟨⟨rfl, rfl⟩, ⟨rfl, rfl⟩, impP_refl _, impP_refl _, trivial⟩
  · have hR : right s c t = false := h
    have e1 : wholeS s c t (bitAt q) = [] := by simp only [wholeS, hR, cond_false]
    have e2 : wholeC s c t (bitAt q) = [] := by simp only [wholeC, hR, cond_false]
    have hz : cnt (fun i => bitAt q i && coreP s c t n i) 256 = 0 := cnt_none fun i _ => by simp only [coreP, partP, hR, Bool.false_and, Bool.and_false]
    refine ⟨⟨hq, same_len (by rw [e1]; decide), fun _ => rfl, trivial⟩, fun _ => ⟨⟨same_len (by rw [e2]; decide), fun _ => rfl, trivial⟩, fun _ => ⟨⟨hq, trivial⟩, rfl, ?_⟩, fun h => absurd h ?_⟩, fun h => absurd h ?_⟩
    · show (((cnt (fun i => bitAt q i && coreP s c t n i) 256 : Nat) : Int) == 0) = true
      rw [hz]; rfl
    · exact fun e => Bool.noConfusion ((same_nil e2).symm.trans e)
    · exact fun e => Bool.noConfusion ((same_nil e1).symm.trans e)
end Go.Proofs.YtdikfhjpnfffnaaDoor
