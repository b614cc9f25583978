/- SETS OF PROCESSORS: the iterator over a set, and the loops over it. -/
import Derived.Test.YtdikfhjpnfffnabDoorCsT
import Derived.Test.YtdikfhjpnfffnabDoorGc
set_option maxRecDepth 2000
set_option linter.unusedVariables false
set_option linter.unusedSimpArgs false
set_option linter.unusedVariables false
set_option linter.unusedSimpArgs false
namespace Go.Proofs.YtdikfhjpnfffnabDoor
open Go Go.Abs Go.Proofs
def setQ (p : Nat → Bool) : PV := .eptr 4 (fun _ => 1) (fun _ => .arrI .u64 4 fun _ => setOf p) (fun _ => 0) 0
def yA (Y : Yd) (p : Nat → Bool) (i : Int) : Env := [(6, .int .i64 fun _ => i), (5, .arrI .u64 4 fun _ => setOf p), (0, .func (.yield Y.l) .nil .nil), (1, .eptr 4 (fun _ => 1) (fun _ => .arrI .u64 4 fun _ => setOf p) (fun _ => 0) 0)]
def yB (Y : Yd) (p : Nat → Bool) (i u : Int) : Env := [(4, .int .u64 fun _ => u), (3, .int .i64 fun _ => i), (6, .int .i64 fun _ => i), (5, .arrI .u64 4 fun _ => setOf p), (0, .func (.yield Y.l) .nil .nil), (1, .eptr 4 (fun _ => 1) (fun _ => .arrI .u64 4 fun _ => setOf p) (fun _ => 0) 0)]
def yS (Y : Yd) (c : Int) : Store := [(0, .ghost Y (fun _ => false) (fun _ => c))]
def allX (p : Nat → Bool) (i : Int) : PV := .cons (.int .i64 fun _ => nth p i) .nil
theorem all_seq (p : Nat → Bool) : SeqFun Tryd.prog G0 53 (.cons (setQ p) .nil) [] 0 ((cnt p 256 : Nat) : Int) (allX p) := by
  intro Y hL hx hlaw
  refine (⟨Tryd.func53, rfl, rfl, rfl, ⟨rfl, rfl⟩, ok _⟩ : FN 53 Tryd.f53).stree (orX_ok (yieldX_ok 0) (mkO_ok Fd1_ok)) false 40 rfl ?_
  conv => arg 5; cbv
  refine run_inv (ι := Int) (fun i => (4 - i).toNat) (fun i => 0 ≤ i ∧ i ≤ 4) (yA Y p) (fun i => yS Y ((cnt p (64 * i.toNat) : Nat) : Int)) 1 0 (fun i => i) (by rfl) (by rfl) ⟨by omega, by omega⟩ ?_ ?_ ?_
  · intro i hi ih
    generalize hc : ((cnt p (64 * i.toNat) : Nat) : Int) = c
    refine explore_ok ((ok _).at 1) (orX_ok (yieldX_ok 0) (mkO_ok Fd1_ok)) (u := false) 20 _ rfl ?_
    conv => arg 5; cbv
    refine ⟨fun h => ⟨⟨⟨hi.1, by simpa using h⟩, trivial⟩, ?_⟩, fun h => ?_⟩
    · have h : i < 4 := by simpa using h
      refine run_inv (ι := Nat) (fun t => 64 * i.toNat + 64 - t) (fun t => 64 * i.toNat ≤ t ∧ t ≤ 64 * i.toNat + 64) (fun t => yB Y p i (W (from' p t) i.toNat)) (fun t => yS Y ((cnt p t : Nat) : Int)) 1 (64 * i.toNat) (fun i => i) (by rfl) (by rfl) ⟨by omega, by omega⟩ ?_ ?_ ?_
      · intro t ht ih2
        generalize hc : ((cnt p t : Nat) : Int) = c2
        generalize hu : W (from' p t) i.toNat = u
        refine explore_ok ((ok _).at 1) (orX_ok (yieldX_ok 0) (mkO_ok Fd1_ok)) (u := false) 20 _ rfl ?_
        conv => arg 5; cbv
        refine ⟨fun h2 => ?_, fun h2 => ?_⟩
        · have h2 : u ≠ 0 := by simpa using h2
          rw [← hu] at h2
          obtain ⟨m, m1, m2, m3, m4, m5, m6⟩ := W_from_next ht.1 h2
          rw [hu] at m5 m6
          have hp1 : 2 ^ (m - 64 * i.toNat) ≤ 2 ^ 63 := Nat.pow_le_pow_right (by omega) (by omega)
          have hp0 : 1 ≤ 2 ^ (m - 64 * i.toNat) := Nat.one_le_two_pow
          have hcm : cnt p m = cnt p t := cnt_gap m1 m4
          have hcm1 : cnt p (m + 1) = cnt p t + 1 := by rw [cnt, hcm, m3]; rfl
          have hm256 : m < 256 := by omega
          have hcl : cnt p (m + 1) ≤ cnt p 256 := cnt_mono (by omega)
          have hval : IntKind.i64.wrap (IntKind.i64.wrap (i * 64) + ((cnt (lowI u).toNat.testBit 64 : Nat) : Int)) = nth p c2 := by
            rw [m5, Int.toNat_natCast, cnt_pow (by omega), ← hc, ← hcm, nth_at m3 hm256, IntWalk.i64_in (i * 64) ⟨by omega, by omega⟩, IntWalk.i64_in _ ⟨by omega, by omega⟩]
            omega
          refine ⟨⟨⟨?_, ?_⟩, ⟨rfl, rfl, by omega, by rw [hL]; omega, ?_, hlaw⟩, trivial⟩, fun h3 => ?_, fun h3 => ?_⟩
          · show 0 ≤ lowI u
            rw [m5]; omega
          · show lowI u < 18446744073709551616
            rw [m5]; omega
          · rw [hx]
            exact ⟨⟨rfl, hval⟩, rfl⟩
          · refine ⟨_, _, rfl, .inl ?_⟩
            simpa using h3
          · have h3 : Y.st c2 = false := by simpa using h3
            refine ih2 (m + 1) (fun i => i) ⟨by omega, by omega⟩ (by omega) (by rfl) ?_ ?_
            · exact ⟨⟨rfl, m6⟩, ⟨rfl, rfl⟩, ⟨rfl, rfl⟩, impP_refl _, impP_refl _, impP_refl _, trivial⟩
            · refine ⟨⟨rfl, h3, ?_⟩, trivial⟩
              show c2 + 1 = ((cnt p (m + 1) : Nat) : Int)
              rw [hcm1]; omega
        · have h2 : u = 0 := by simpa using h2
          have hw : IntKind.i64.wrap (i + 1) = i + 1 := IntWalk.i64_in _ ⟨by omega, by omega⟩
          refine ih (i + 1) (fun i => i) ⟨by omega, by omega⟩ (by omega) (by rfl) ?_ ?_
          · exact ⟨⟨rfl, hw⟩, impP_refl _, impP_refl _, impP_refl _, trivial⟩
          · refine ⟨⟨rfl, rfl, ?_⟩, trivial⟩
            show c2 = ((cnt p (64 * (i + 1).toNat) : Nat) : Int)
            rw [← hc, show 64 * (i + 1).toNat = 64 * i.toNat + 64 by omega, cnt_gap ht.2 fun j h4 h5 => W_from_end (hu.trans h2) j (by omega) h5 h4]
      · refine ⟨⟨rfl, ?_⟩, ⟨rfl, rfl⟩, ⟨rfl, rfl⟩, impP_refl _, impP_refl _, impP_refl _, trivial⟩
        show (setOf p).getD i.toNat 0 = W (from' p (64 * i.toNat)) i.toNat
        rw [W_from0, setOf_get (by omega)]
      · exact ⟨⟨rfl, rfl, hc.symm⟩, trivial⟩
    · have h : i = 4 := by have : ¬ i < 4 := by simpa using h
                           omega
      subst h
      exact ⟨_, _, rfl, .inr hc.symm⟩
  · exact ⟨impP_refl _, impP_refl _, impP_refl _, impP_refl _, trivial⟩
  · exact ⟨⟨rfl, rfl, rfl⟩, trivial⟩
theorem all_ok (p : Nat → Bool) : PF 44 (.cons (.arrI .u64 4 fun _ => setOf p) .nil) (.func (.func 53) .nil (.cons (setQ p) .nil)) := by
  refine (⟨Tryd.func44, rfl, rfl, rfl, ⟨rfl, rfl⟩, ok _⟩ : FN 44 Tryd.f44).treeF (mkO_ok Fd1_ok) false 40 rfl ?_
  conv => arg 5; cbv
  exact ⟨rfl, rfl, rfl⟩
noncomputable def Fe1 : Table := addS 44 (.cons shSet .nil) (fun a => (.func (.func 53) .nil (.cons (.eptr 4 (fun _ => 1) (fun _ => .arrI .u64 4 a) (fun _ => 0) 0) .nil), [fun _ => okSet (a ())])) Ft1
theorem Fe1_ok : TableOK Tryd.prog G0 Fe1 := by
  refine addS_ok (⟨Tryd.func44, rfl, rfl, rfl, ⟨rfl, rfl⟩, ok _⟩ : FN 44 Tryd.f44).callable (fun a _ h => ?_) Ft1_ok
  have := all_ok (bitAt (a ()))
  unfold setQ at this
  rw [setP_bitAt h.1] at this
  exact this
def laS (p : Nat → Bool) (n i : Int) : Store := [(1, .var (i64 n)), (2, .var (.slice (some 5) 1 (fun _ => i) fun j => .int .i64 fun _ => nth p (j ()))), (5, .own 1 3)]
def ren5 (k : Nat) : Nat → Nat := fun i => bif beqN i 5 then k else i
/-- The first ones. -/
def firsts (p : Nat → Bool) (n : Int) : List Int := ((elems p 256).take n.toNat).map Int.ofNat
theorem firsts_len (p : Nat → Bool) (n : Int) : (firsts p n).length = min n.toNat (cnt p 256) := by simp [firsts, elems_len]
theorem firsts_get {p : Nat → Bool} {n : Int} {j : Nat} (h : j < (firsts p n).length) : (firsts p n).getD j 0 = nth p j := by
  have h' := h
  rw [firsts_len] at h'
  have h2 : j < (elems p 256).length := by rw [elems_len]; omega
  unfold firsts nth
  rw [List.getD_eq_getElem?_getD, List.getElem?_map, List.getElem?_take_of_lt (by omega), List.getElem?_eq_getElem h2, List.getD_eq_getElem?_getD, Int.toNat_natCast, List.getElem?_eq_getElem h2]
  rfl
theorem firsts_imp {p : Nat → Bool} {n : Int} {L : Int} {tok : Option Nat} (h : L = ((firsts p n).length : Int)) : impP (.slice tok 1 (fun _ => L) fun j => .int .i64 fun _ => nth p (j ())) (Sh.mkL 1 (.int .i64) fun _ => firsts p n) := by
  refine ⟨.inl rfl, rfl, h, fun j h0 h1 => ⟨rfl, ?_⟩⟩
  have h1 : j < L := h1
  obtain ⟨m, rfl⟩ : ∃ m : Nat, j = m := ⟨j.toNat, by omega⟩
  show nth p m = (firsts p n).getD (m : Int).toNat 0
  rw [Int.toNat_natCast, firsts_get (by omega)]
theorem lawAll_ok (p : Nat → Bool) (n : Int) : PF 26 (.cons (.arrI .u64 4 fun _ => setOf p) (.cons (i64 n) .nil)) (Sh.mkL 1 (.int .i64) fun _ => firsts p n) := by
  refine (⟨Tryd.func26, rfl, rfl, rfl, ⟨rfl, rfl⟩, ok _⟩ : FN 26 Tryd.f26).tree (mkO_ok Fe1_ok) false 40 rfl ?_
  conv => arg 5; cbv
  refine ⟨⟨okSet_setOf p, trivial⟩, ?_⟩
  refine run_ownS 2 1 3 (.int .i64 fun _ => 0) (by rfl) (by rfl) (by rfl) (by rfl) ?_
  have hL := cnt_le p 256
  have hlen := firsts_len p n
  have hseq := all_seq p
  generalize hc : ((cnt p 256 : Nat) : Int) = L at hseq
  refine run_range (ok _) rfl hseq (fun i => i) 4 6 [(5, .ptr 2 0), (3, .ptr 1 0)] (ren5 3) (fun i => 0 ≤ i ∧ i ≤ L ∧ (i = 0 ∨ i ≤ n)) (fun i => 0 ≤ i ∧ i < L ∧ (i = 0 ∨ i ≤ n) ∧ n ≤ i) (laS p n) (laS p n) (fun i => decide (n ≤ i)) (fun _ => .exit 0)
    (by rfl) (by rfl) (fun h => by cases h) (impP_refl _) trivial ⟨rfl, rfl, trivial⟩ ⟨⟨rfl, rfl⟩, ⟨.inr rfl, rfl, rfl, fun j h0 h1 => absurd h1 (by show ¬ j < 0; omega)⟩, ⟨rfl, rfl⟩, trivial⟩ ⟨by omega, by omega, .inl rfl⟩ (fun _ => rfl) (fun _ _ => rfl) (fun _ _ => rfl) ?_ ?_ ?_
  · intro i lp h0 h1 hI hlp
    refine explore_ok ((ok _).round 4) (mkO_ok Fe1_ok) (u := false) 20 _ rfl ?_
    conv => arg 5; cbv
    refine ⟨⟨hlp, trivial⟩, fun h => ?_, fun h => ⟨⟨⟨by show (0:Int) < 1; omega, ?_⟩, trivial⟩, ?_⟩⟩
    · have h : n ≤ i := by simpa using h
      exact ⟨rfl, .inr ⟨.inr ⟨0, rfl, rfl⟩, by simpa using h, ⟨h0, h1, hI.2.2, h⟩, fun i => i, rfl, ⟨rfl, rfl⟩, impP_refl _, ⟨rfl, rfl⟩, trivial⟩⟩
    · show (i + 1) * 8 ≤ 140737488355328
      omega
    · have h : ¬ n ≤ i := by simpa using h
      refine ⟨rfl, .inl ⟨rfl, by simpa using h, ⟨by omega, by omega, .inr (by omega)⟩, ren5 6, rfl, ⟨rfl, rfl⟩, ⟨.inr rfl, rfl, rfl, fun j h0 h1 => ⟨rfl, ?_⟩⟩, ⟨rfl, rfl⟩, trivial⟩⟩
      have h1 : j < i + 1 := h1
      show (bif decide (j < i) then nth p j else nth p i) = nth p j
      by_cases e : j < i
      · simp [e]
      · have : j = i := by omega
        simp [e, this]
  · intro hI
    refine explore_ok (ok _) (mkO_ok Fe1_ok) (u := false) 20 _ rfl ?_
    conv => arg 5; cbv
    exact ⟨rfl, firsts_imp (tok := none) (by omega)⟩
  · intro i hI
    refine explore_ok (ok _) (mkO_ok Fe1_ok) (u := false) 20 _ rfl ?_
    conv => arg 5; cbv
    exact ⟨rfl, firsts_imp (tok := none) (by omega)⟩
/-- Those among the first ones. -/
def upN (p : Nat → Bool) (i : Int) (k : Nat) : Bool := p k && decide (((cnt p k : Nat) : Int) < i)
theorem upN_zero (p : Nat → Bool) : setOf (upN p 0) = List.replicate 4 0 := by
  rw [show List.replicate 4 (0 : Int) = [0, 0, 0, 0] from rfl, ← setOf_zero]
  refine setOf_ext fun i hi => ?_
  unfold upN
  rw [show decide (((cnt p i : Nat) : Int) < 0) = false by simp only [decide_eq_false_iff_not]; omega, Bool.and_false]
theorem upN_step {p : Nat → Bool} {i : Int} (h0 : 0 ≤ i) (h : i < ((cnt p 256 : Nat) : Int)) : setOf (withN (bitAt (setOf (upN p i))) (nth p i)) = setOf (upN p (i + 1)) := by
  obtain ⟨m, hm, hm1, hm2, hm3⟩ := nth_spec h0 h
  refine setOf_ext fun k hk => ?_
  rw [hm]
  unfold withN
  rw [bitAt_setOf hk]
  unfold upN
  by_cases e : k = m
  · subst e; rw [hm2, hm3]; simp; omega
  · rw [show decide ((k : Int) = (m : Int)) = false by simp only [decide_eq_false_iff_not]; omega, Bool.or_false]
    cases hp : p k with
    | false => rfl
    | true =>
      have : cnt p k ≠ cnt p m := fun h => e (cnt_inj hp hm2 h)
      rw [Bool.true_and, Bool.true_and, Bool.eq_iff_iff, decide_eq_true_eq, decide_eq_true_eq]
      omega
/-- Are there so many? -/
def fewB (p : Nat → Bool) (n : Int) : Bool := decide (0 ≤ n) && decide (n ≤ ((cnt p 256 : Nat) : Int))
def fiS (p : Nat → Bool) (n i : Int) : Store := [(1, .var (.int .i64 fun _ => n - i)), (3, .var (.arrI .u64 4 fun _ => setOf (upN p i))), (2, .var (.arrI .u64 4 fun _ => List.replicate 4 0))]
theorem cnt_bitAt (p : Nat → Bool) : cnt (bitAt (setOf p)) 256 = cnt p 256 := cnt_ext fun i hi => bitAt_setOf hi
theorem few_ok (p : Nat → Bool) (n : Int) : PF 27 (.cons (.arrI .u64 4 fun _ => setOf p) (.cons (i64 n) .nil)) (.tuple (.cons (.arrI .u64 4 fun _ => bif fewB p n then setOf (upN p n) else List.replicate 4 0) (.cons (.bool fun _ => fewB p n) .nil))) := by
  refine (⟨Tryd.func27, rfl, rfl, rfl, ⟨rfl, rfl⟩, ok _⟩ : FN 27 Tryd.f27).tree (mkO_ok Fe1_ok) false 40 rfl ?_
  conv => arg 5; cbv
  refine ⟨fun h => ⟨⟨?_, trivial⟩, ?_⟩, fun h => ⟨⟨okSet_setOf p, ?_, trivial⟩, fun h2 => ?_, fun h2 => ⟨⟨okSet_setOf p, trivial⟩, ?_⟩⟩⟩
  · show drawOK _ _ = true
    conv => lhs; cbv
  · have h : n < 0 := by simpa using h
    have hf : fewB p n = false := by unfold fewB; simp only [Bool.and_eq_false_iff, decide_eq_false_iff_not]; omega
    rw [hf]
    exact ⟨rfl, ⟨rfl, rfl, rfl⟩, rfl, rfl⟩
  · show drawOK _ _ = true
    conv => lhs; cbv
  · have h2 : ((cnt (bitAt (setOf p)) 256 : Nat) : Int) < n := by simpa using h2
    rw [cnt_bitAt p] at h2
    have hf : fewB p n = false := by unfold fewB; simp only [Bool.and_eq_false_iff, decide_eq_false_iff_not]; omega
    rw [hf]
    exact ⟨rfl, ⟨rfl, rfl, rfl⟩, rfl, rfl⟩
  · have h : ¬ n < 0 := by simpa using h
    have h2 : ¬ ((cnt (bitAt (setOf p)) 256 : Nat) : Int) < n := by simpa using h2
    rw [cnt_bitAt p] at h2
    have hf : fewB p n = true := by unfold fewB; simp only [Bool.and_eq_true, decide_eq_true_eq]; omega
    rw [hf]
    have hL := cnt_le p 256
    have hu := upN_zero p
    have hseq := all_seq p
    generalize hc : ((cnt p 256 : Nat) : Int) = L at hseq h2
    refine run_range (ok _) rfl hseq (fun i => i) 4 5 [(6, .ptr 3 0), (3, .ptr 1 0), (4, .ptr 2 0), (5, .ff)] (fun i => i) (fun i => 0 ≤ i ∧ i ≤ L ∧ i ≤ n) (fun i => i = n) (fiS p n) (fiS p n) (fun i => decide (i = n)) (fun _ => .exit 0)
      (by rfl) (by rfl) (fun h => by cases h) (impP_refl _) trivial ⟨rfl, rfl, rfl, rfl, trivial⟩ ⟨⟨rfl, (Int.sub_zero n).symm⟩, ⟨rfl, rfl, hu.symm⟩, impP_refl _, trivial⟩ ⟨by omega, by omega, by omega⟩ (fun _ => rfl) (fun _ _ => rfl) (fun _ _ => rfl) ?_ ?_ ?_
    · intro i lp h0 h1 hI hlp
      have hs := upN_step (p := p) h0 (by omega)
      refine explore_ok ((ok _).round 4) (mkO_ok Fe1_ok) (u := false) 20 _ rfl ?_
      conv => arg 5; cbv
      refine ⟨⟨hlp, trivial⟩, fun h => ?_, fun h => ⟨⟨okSet_setOf _, trivial⟩, ?_⟩⟩
      · have h : n - i = 0 := by simpa using h
        have e : i = n := by omega
        exact ⟨rfl, .inr ⟨.inr ⟨0, rfl, rfl⟩, by simpa using e, e, fun i => i, rfl, impP_refl _, impP_refl _, impP_refl _, trivial⟩⟩
      · have h : ¬ n - i = 0 := by simpa using h
        have hw : IntKind.i64.wrap (n - i - 1) = n - (i + 1) := by rw [IntWalk.i64_in _ ⟨by omega, by omega⟩]; omega
        exact ⟨rfl, .inl ⟨rfl, by simp only [decide_eq_false_iff_not]; omega, ⟨by omega, by omega, by omega⟩, fun i => i, rfl, ⟨rfl, hw⟩, ⟨rfl, rfl, hs⟩, impP_refl _, trivial⟩⟩
    · intro hI
      refine explore_ok (ok _) (mkO_ok Fe1_ok) (u := false) 20 _ rfl ?_
      conv => arg 5; cbv
      have e : L = n := by omega
      subst e
      exact ⟨rfl, ⟨rfl, rfl, rfl⟩, rfl, rfl⟩
    · intro i hI
      refine explore_ok (ok _) (mkO_ok Fe1_ok) (u := false) 20 _ rfl ?_
      conv => arg 5; cbv
      have e : i = n := hI
      subst e
      exact ⟨rfl, ⟨rfl, rfl, rfl⟩, rfl, rfl⟩
/-- What First answers. -/
def firstL (p : Nat → Bool) (n : Int) : List Int := bif fewB p n then setOf (upN p n) else List.replicate 4 0
noncomputable def Fe2 : Table := addS 27 (.cons shSet (.cons (.int .i64) .nil)) (fun a n => (.tuple (.cons (.arrI .u64 4 fun _ => firstL (bitAt (a ())) (n ())) (.cons (.bool fun _ => fewB (bitAt (a ())) (n ())) .nil)), [fun _ => okSet (a ())]))
  (addS 26 (.cons shSet (.cons (.int .i64) .nil)) (fun a n => (Sh.mkL 1 (.int .i64) fun _ => firsts (bitAt (a ())) (n ()), [fun _ => okSet (a ())])) Fe1)
theorem Fe2_ok : TableOK Tryd.prog G0 Fe2 := by
  refine addS_ok (⟨Tryd.func27, rfl, rfl, rfl, ⟨rfl, rfl⟩, ok _⟩ : FN 27 Tryd.f27).callable (fun a _ n h => ?_) (addS_ok (⟨Tryd.func26, rfl, rfl, rfl, ⟨rfl, rfl⟩, ok _⟩ : FN 26 Tryd.f26).callable (fun a _ n h => ?_) Fe1_ok)
  · have := few_ok (bitAt (a ())) (n ())
    rw [setP_bitAt h.1] at this
    exact this
  · have := lawAll_ok (bitAt (a ())) (n ())
    rw [setP_bitAt h.1] at this
    exact this
end Go.Proofs.YtdikfhjpnfffnabDoor
