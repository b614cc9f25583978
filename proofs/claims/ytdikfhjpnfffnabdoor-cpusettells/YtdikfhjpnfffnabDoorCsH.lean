/- SETS OF PROCESSORS: what is in them. -/
import Derived.Test.YtdikfhjpnfffnabDoorCsW
import Derived.Test.YtdikfhjpnfffnabDoorGc
set_option maxRecDepth 2000
set_option linter.unusedVariables false
set_option linter.unusedSimpArgs false
set_option linter.unusedVariables false
set_option linter.unusedSimpArgs false
namespace Go.Proofs.YtdikfhjpnfffnabDoor
open Go Go.Abs Go.Proofs
def casP (a b : List Int) (n f t m : Int) : PV := .agg (.cons (.arrI .u64 4 fun _ => a) (.cons (.arrI .u64 4 fun _ => b) (.cons (.int .i64 fun _ => n) (.cons (.int .i64 fun _ => f) (.cons (.int .i64 fun _ => t) (.cons (.int .i64 fun _ => m) .nil))))))
def inB (n : Int) : Bool := decide (0 ≤ n) && decide (n < 256)
def putL (p : Nat → Bool) (n : Int) (v : Bool) : List Bool := bif inB n then ((List.range 256).map p).set n.toNat v else (List.range 256).map p
theorem putL_in {p : Nat → Bool} {n : Int} {v : Bool} (h0 : (fun _ : Unit => decide (0 ≤ n)) () = true) (h1 : (fun _ : Unit => decide (n < 256)) () = true) : ((List.range 256).map p).set n.toNat v = putL p n v ∧ inB n = true := by
  have : inB n = true := by unfold inB; rw [show decide (0 ≤ n) = true from h0, show decide (n < 256) = true from h1]; rfl
  exact ⟨by rw [putL, this]; rfl, this⟩
theorem putL_out {p : Nat → Bool} {n : Int} {v : Bool} (h : inB n = false) : (List.range 256).map p = putL p n v := by rw [putL, h]; rfl
def teA (n : Int) (i : Int) : Env := [(40, .int .i64 fun _ => i), (7, .ptr 4 0), (6, .bool fun _ => inB n), (5, .ptr 3 0), (4, .ptr 2 0), (3, .ptr 1 0), (2, .ff), (1, .ptr 0 0)]
def teS (a b : List Int) (n f t m : Int) (i : Int) : Store := [(0, .var (.agg (.cons (.arrI .u64 4 fun _ => a) (.cons (.arrI .u64 4 fun _ => b) (.cons (.int .i64 fun _ => n) (.cons (.int .i64 fun _ => f) (.cons (.int .i64 fun _ => t) (.cons (.int .i64 fun _ => m) .nil)))))))), (1, .var (.arrB 256 fun _ => (List.range 256).map (bitAt a))), (2, .var (.arrB 256 fun _ => putL (bitAt a) n true)), (3, .var (.arrB 256 fun _ => putL (bitAt a) n false)), (4, .var (.arrB 256 fun _ => upTo (between f t) 256 i.toNat))]
theorem mkL_eq {esz : Nat} {s : Sh} {x y : List s.val} (h : x = y) : impP (s.mkL esz fun _ => x) (s.mkL esz fun _ => y) := h ▸ impP_refl _
theorem elems_ext {p q : Nat → Bool} : ∀ {n : Nat}, (∀ i, i < n → p i = q i) → elems p n = elems q n
  | 0, _ => rfl
  | n + 1, h => by rw [elems_succ, elems_succ, elems_ext (n := n) fun i hi => h i (by omega), h n (by omega)]
theorem elems_list (p : Nat → Bool) : elems (fun i => ((List.range 256).map p).getD i false) 256 = elems p 256 := elems_ext fun i hi => map_get hi
theorem any_len {p : Nat → Bool} : decide ((0 : Int) < (((elems p 256).map Int.ofNat).length : Int)) = (firstOf p 256).isSome := by
  rw [List.length_map, elems_len]
  cases h : firstOf p 256 with
  | none =>
    have : cnt p 256 = cnt p 0 := cnt_gap (Nat.zero_le _) fun i _ hi => firstOf_none.1 h i hi
    rw [this]; rfl
  | some m =>
    obtain ⟨h1, h2, h3⟩ := firstOf_some.1 h
    have h4 := cnt_mono (p := p) (show m + 1 ≤ 256 from h1)
    rw [cnt, h2] at h4
    simp only [if_true] at h4
    simp; omega
theorem first_get {p : Nat → Bool} {m : Nat} (h : firstOf p 256 = some m) : ((elems p 256).map Int.ofNat).getD 0 0 = m := by
  obtain ⟨h1, h2, h3⟩ := firstOf_some.1 h
  have h4 := elems_at h2 h1
  have : cnt p m = cnt p 0 := cnt_gap (Nat.zero_le _) fun i _ hi => h3 i hi
  rw [this] at h4
  rw [List.getD_eq_getElem?_getD, List.getElem?_map, show (0 : Nat) = cnt p 0 from rfl, h4]; rfl
theorem with_put (p : Nat → Bool) (n : Int) : setOf (withN p n) = setOf fun i => (putL p n true).getD i false := by
  refine setOf_ext fun i hi => ?_
  unfold withN putL
  cases h : inB n with
  | false =>
    rw [cond_false, map_get hi]
    simp only [inB, Bool.and_eq_false_iff, decide_eq_false_iff_not] at h
    rw [show decide ((i : Int) = n) = false by simp only [decide_eq_false_iff_not]; omega, Bool.or_false]
  | true =>
    simp only [inB, Bool.and_eq_true, decide_eq_true_eq] at h
    rw [cond_true, List.getD_eq_getElem?_getD, List.getElem?_set]
    by_cases e : n.toNat = i
    · rw [if_pos e, if_pos (by rw [List.length_map, List.length_range]; omega), show decide ((i : Int) = n) = true by simp only [decide_eq_true_eq]; omega, Bool.or_true]; rfl
    · rw [if_neg e, ← List.getD_eq_getElem?_getD, map_get hi, show decide ((i : Int) = n) = false by simp only [decide_eq_false_iff_not]; omega, Bool.or_false]
theorem wo_put (p : Nat → Bool) (n : Int) : setOf (woN p n) = setOf fun i => (putL p n false).getD i false := by
  refine setOf_ext fun i hi => ?_
  unfold woN putL
  cases h : inB n with
  | false =>
    rw [cond_false, map_get hi]
    simp only [inB, Bool.and_eq_false_iff, decide_eq_false_iff_not] at h
    rw [show decide ((i : Int) = n) = false by simp only [decide_eq_false_iff_not]; omega, Bool.not_false, Bool.and_true]
  | true =>
    simp only [inB, Bool.and_eq_true, decide_eq_true_eq] at h
    rw [cond_true, List.getD_eq_getElem?_getD, List.getElem?_set]
    by_cases e : n.toNat = i
    · rw [if_pos e, if_pos (by rw [List.length_map, List.length_range]; omega), show decide ((i : Int) = n) = true by simp only [decide_eq_true_eq]; omega, Bool.not_true, Bool.and_false]; rfl
    · rw [if_neg e, ← List.getD_eq_getElem?_getD, map_get hi, show decide ((i : Int) = n) = false by simp only [decide_eq_false_iff_not]; omega, Bool.not_false, Bool.and_true]
def clamp (lo hi n : Int) : Int := if lo < (if hi < n then hi else n) then (if hi < n then hi else n) else lo
theorem clamp_in {n : Int} (h : inB n = true) : clamp 0 255 n = n := by
  simp only [inB, Bool.and_eq_true, decide_eq_true_eq] at h
  unfold clamp
  split <;> (try split) <;> omega
theorem clamp_range (n : Int) : 0 ≤ clamp 0 255 n ∧ clamp 0 255 n < 256 := by
  unfold clamp
  split <;> (try split) <;> omega
theorem has_in {p : Nat → Bool} {n : Int} (h : inB n = true) : hasN p n = ((List.range 256).map p).getD (clamp 0 255 n).toNat false := by
  rw [clamp_in h]
  simp only [inB, Bool.and_eq_true, decide_eq_true_eq] at h
  rw [map_get (by omega), hasN]
  simp [h]
theorem has_out {p : Nat → Bool} {n : Int} (h : inB n = false) : hasN p n = false := by
  unfold hasN; unfold inB at h; rw [h]; rfl
def teE (p : Nat → Bool) (k : Int) (i : Int) : Env := [(157, .int .i64 fun _ => i), (156, .int .i64 fun _ => ((firsts p k).length : Int)), (14, .ptr 5 0), (13, Sh.mkL 1 (.int .i64) fun _ => firsts p k), (9, Sh.mkL 1 (.int .i64) fun _ => (elems p 256).map Int.ofNat), (2, .ff), (1, .ptr 0 0)]
def teF (a b : List Int) (n f t m : Int) (i : Int) : Store := [(0, .var (.agg (.cons (.arrI .u64 4 fun _ => a) (.cons (.arrI .u64 4 fun _ => b) (.cons (.int .i64 fun _ => n) (.cons (.int .i64 fun _ => f) (.cons (.int .i64 fun _ => t) (.cons (.int .i64 fun _ => m) .nil)))))))), (5, .var (.arrB 256 fun _ => (List.range 256).map (upN (bitAt a) i)))]
theorem getD_nth (p : Nat → Bool) (i : Int) : ((elems p 256).map Int.ofNat).getD i.toNat 0 = nth p i := by
  unfold nth
  rw [List.getD_eq_getElem?_getD, List.getD_eq_getElem?_getD, List.getElem?_map]
  cases (elems p 256)[i.toNat]? <;> rfl
theorem few_step {p : Nat → Bool} {i : Int} (h0 : 0 ≤ i) (h : i < ((cnt p 256 : Nat) : Int)) : ((List.range 256).map (upN p i)).set (nth p i).toNat true = (List.range 256).map (upN p (i + 1)) := by
  obtain ⟨m, hm, hm1, hm2, hm3⟩ := nth_spec h0 h
  rw [hm, Int.toNat_natCast]
  apply List.ext_getElem?
  intro k
  rw [List.getElem?_set, List.getElem?_map, List.getElem?_map]
  by_cases hk : k < 256
  · rw [List.getElem?_range hk, Option.map_some, Option.map_some]
    by_cases e : m = k
    · subst e
      rw [if_pos rfl, if_pos (by rw [List.length_map, List.length_range]; omega)]
      unfold upN
      rw [hm2, hm3, Bool.true_and, show decide (i < i + 1) = true by simp only [decide_eq_true_eq]; omega]
    · rw [if_neg e]
      congr 1
      unfold upN
      cases hp : p k with
      | false => rfl
      | true =>
        have : cnt p k ≠ cnt p m := fun h => e (cnt_inj hp hm2 h).symm
        rw [Bool.true_and, Bool.true_and, Bool.eq_iff_iff, decide_eq_true_eq, decide_eq_true_eq]
        omega
  · rw [List.getElem?_eq_none (by rw [List.length_range]; omega), if_neg (by omega)]; rfl
theorem few_zero (p : Nat → Bool) : List.replicate 256 false = (List.range 256).map (upN p 0) := (map_false 256 _ fun k _ => by
  unfold upN
  rw [show decide (((cnt p k : Nat) : Int) < 0) = false by simp only [decide_eq_false_iff_not]; omega, Bool.and_false]).symm
theorem neq_self {x y : Bool} (h : x = y) : (!x == y) = false := by subst h; cases x <;> rfl
theorem bne_self {x y : Int} (h : x = y) : (x != y) = false := by simp [h]
theorem firsts_min (p : Nat → Bool) {k : Int} (h : 0 ≤ k) : ((firsts p k).length : Int) = if (((elems p 256).map Int.ofNat).length : Int) < k then (((elems p 256).map Int.ofNat).length : Int) else k := by
  rw [firsts_len, List.length_map, elems_len]
  split <;> omega
theorem clamp_300 (m : Int) : 0 ≤ clamp 0 300 m ∧ (0 ≤ m → m ≤ 256 → clamp 0 300 m = m) := by
  unfold clamp
  split <;> (try split) <;> omega
def dtA : DT := .no (.no (.no (.no (.no .any))))
def dtB : DT := .both dtA dtA
def dtC : DT := .no (.no (.both (.no (.no (.no dtB))) (.yes (.no (.no dtB)))))
theorem tells_ok (a b : List Int) (ha : okSet a) (n f t m : Int) (hf : f ≤ 9223372036854775807) : PF 6 (.cons (casP a b n f t m) .nil) .tt := by
  refine (⟨Tryd.func6, rfl, rfl, rfl, ⟨rfl, rfl⟩, ok _⟩ : FN 6 Tryd.f6).tree (mkO_ok Fw1_ok) false 60 rfl ?_
  conv => arg 5; cbv
  refine ⟨⟨ha, ?_, trivial⟩, ?_⟩
  · show drawOK _ _ = true
    kernel_rfl
  refine tree_meet (teA n 0) (teS a b n f t m 0) 5 (by rfl) ?_ ?_
  · refine ⟨fun h1 => ⟨fun h2 => ⟨?_, rfl, fun i => i, by rfl, ?_, ?_⟩, fun h2 => ⟨rfl, fun i => i, by rfl, ?_, ?_⟩⟩, fun h1 => ⟨rfl, fun i => i, by rfl, ?_, ?_⟩⟩
    · have h1 : 0 ≤ n := by simpa using h1
      have h2 : n < 256 := by simpa using h2
      (repeat' (first | exact trivial | exact ⟨by assumption, by assumption⟩ | apply And.intro | (show drawOK _ _ = true; kernel_rfl)))
    · exact ⟨impP_refl _, impP_refl _, (h2 : decide (n < 256) = true).trans (putL_in (p := bitAt a) (v := true) h1 h2).2.symm, impP_refl _, impP_refl _, impP_refl _, impP_refl _, impP_refl _, trivial⟩
    · exact ⟨impP_refl _, impP_refl _, ⟨rfl, (putL_in (p := bitAt a) (v := true) h1 h2).1⟩, ⟨rfl, (putL_in (p := bitAt a) (v := false) h1 h2).1⟩, ⟨rfl, (upTo_zero _ 256).symm⟩, trivial⟩
    · have hi : inB n = false := by unfold inB; rw [show decide (n < 256) = false from h2, Bool.and_false]
      exact ⟨impP_refl _, impP_refl _, (h2 : decide (n < 256) = false).trans hi.symm, impP_refl _, impP_refl _, impP_refl _, impP_refl _, impP_refl _, trivial⟩
    · have hi : inB n = false := by unfold inB; rw [show decide (n < 256) = false from h2, Bool.and_false]
      exact ⟨impP_refl _, impP_refl _, ⟨rfl, putL_out hi⟩, ⟨rfl, putL_out hi⟩, ⟨rfl, (upTo_zero _ 256).symm⟩, trivial⟩
    · have hi : inB n = false := by unfold inB; rw [show decide (0 ≤ n) = false from h1, Bool.false_and]
      exact ⟨impP_refl _, impP_refl _, hi, impP_refl _, impP_refl _, impP_refl _, impP_refl _, impP_refl _, trivial⟩
    · have hi : inB n = false := by unfold inB; rw [show decide (0 ≤ n) = false from h1, Bool.false_and]
      exact ⟨impP_refl _, impP_refl _, ⟨rfl, putL_out hi⟩, ⟨rfl, putL_out hi⟩, ⟨rfl, (upTo_zero _ 256).symm⟩, trivial⟩
  refine run_inv (ι := Int) (fun i => (256 - i).toNat) (fun i => 0 ≤ i ∧ i ≤ 256) (teA n) (teS a b n f t m) 5 0 (fun i => i) (by rfl) (by rfl) ⟨by omega, by omega⟩ ?_ ⟨impP_refl _, impP_refl _, rfl, impP_refl _, impP_refl _, impP_refl _, impP_refl _, impP_refl _, trivial⟩ ⟨impP_refl _, impP_refl _, impP_refl _, impP_refl _, impP_refl _, trivial⟩
  intro i hi ih
  by_cases h : i < 256
  · refine exploreD_ok (ok _) (mkO_ok Fw1_ok) (u := false) 20 (.yes .any) _ rfl ?_
    conv => arg 5; cbv
    have hi0 := hi.1
    have hw : IntKind.i64.wrap (i + 1) = i + 1 := IntWalk.i64_in _ ⟨by omega, by omega⟩
    refine ⟨⟨decide_eq_true h, trivial⟩, fun h1 => ⟨by (repeat' (first | exact trivial | exact ⟨by assumption, by assumption⟩ | apply And.intro | (show drawOK _ _ = true; kernel_rfl))), ?_⟩, fun h1 => ⟨by (repeat' (first | exact trivial | exact ⟨by assumption, by assumption⟩ | apply And.intro | (show drawOK _ _ = true; kernel_rfl))), ?_⟩⟩
    · exact ih (i + 1) (fun i => i) ⟨by omega, by omega⟩ (by omega) (by rfl) ⟨⟨rfl, hw⟩, impP_refl _, impP_refl _, impP_refl _, impP_refl _, impP_refl _, impP_refl _, impP_refl _, trivial⟩ ⟨impP_refl _, impP_refl _, impP_refl _, impP_refl _, ⟨rfl, upTo_set' hi0 h (by
        show decide (i ≤ t) = (decide (f ≤ ((i.toNat : Nat) : Int)) && decide (((i.toNat : Nat) : Int) ≤ t))
        rw [show ((i.toNat : Nat) : Int) = i by omega, show decide (f ≤ i) = true from h1, Bool.true_and])⟩, trivial⟩
    · exact ih (i + 1) (fun i => i) ⟨by omega, by omega⟩ (by omega) (by rfl) ⟨⟨rfl, hw⟩, impP_refl _, impP_refl _, impP_refl _, impP_refl _, impP_refl _, impP_refl _, impP_refl _, trivial⟩ ⟨impP_refl _, impP_refl _, impP_refl _, impP_refl _, ⟨rfl, upTo_set' hi0 h (by
        show false = (decide (f ≤ ((i.toNat : Nat) : Int)) && decide (((i.toNat : Nat) : Int) ≤ t))
        rw [show ((i.toNat : Nat) : Int) = i by omega, show decide (f ≤ i) = false from h1, Bool.false_and])⟩, trivial⟩
  · have e : i = 256 := by omega
    subst e
    refine exploreD_ok (ok _) (mkO_ok Fw1_ok) (u := false) 20 dtC _ rfl ?_
    conv => arg 5; cbv
    have eL : (elems (fun i => ((List.range 256).map (bitAt a)).getD i false) 256).map Int.ofNat = (elems (bitAt a) 256).map Int.ofNat := congrArg (List.map Int.ofNat) (elems_list _)
    have c0 : decide ((0 : Int) < (((elems (fun i => ((List.range 256).map (bitAt a)).getD i false) 256).map Int.ofNat).length : Int)) = (firstOf (bitAt a) 256).isSome := by rw [eL, any_len]
    have cC : ((cnt (bitAt a) 256 : Nat) : Int) = (((elems (fun i => ((List.range 256).map (bitAt a)).getD i false) 256).map Int.ofNat).length : Int) := by rw [eL, List.length_map, elems_len]
    have c1 : (firstOf (bitAt a) 256).isSome = true → (((firstOf (bitAt a) 256).getD 0 : Nat) : Int) = ((elems (fun i => ((List.range 256).map (bitAt a)).getD i false) 256).map Int.ofNat).getD (Int.toNat 0) 0 := fun hs => by
      obtain ⟨k, hk⟩ := Option.isSome_iff_exists.1 hs
      rw [eL, show Int.toNat 0 = 0 from rfl, first_get hk, hk]; rfl
    have c2 : (firstOf (bitAt a) 256).isSome = false → (((firstOf (bitAt a) 256).getD 0 : Nat) : Int) = 0 := fun hs => by
      cases hk : firstOf (bitAt a) 256 with
      | none => rfl
      | some k => rw [hk] at hs; cases hs
    have cW : (!decide (setOf (withN (bitAt a) n) = setOf fun i => (putL (bitAt a) n true).getD i false)) = false := by rw [with_put]; simp
    have cO : (!decide (setOf (woN (bitAt a) n) = setOf fun i => (putL (bitAt a) n false).getD i false)) = false := by rw [wo_put]; simp
    have cR : (!decide (setOf (between f t) = setOf fun i => (upTo (between f t) 256 (Int.toNat 256)).getD i false)) = false := by
      rw [show upTo (between f t) 256 (Int.toNat 256) = (List.range 256).map (between f t) from upTo_full _ 256, setOf_list]; simp
    have cL : (((firsts (bitAt a) (clamp 0 300 m)).length : Int) != if (((elems (fun i => ((List.range 256).map (bitAt a)).getD i false) 256).map Int.ofNat).length : Int) < clamp 0 300 m then (((elems (fun i => ((List.range 256).map (bitAt a)).getD i false) 256).map Int.ofNat).length : Int) else clamp 0 300 m) = false := by
      rw [eL]
      exact bne_self (firsts_min _ (clamp_300 m).1)
    refine tree_meet (teE (bitAt a) (clamp 0 300 m) 0) (teF a b n f t m 0) 6 (by rfl) ?_ ?_
    · refine ⟨⟨rfl, trivial⟩, ⟨ha, trivial⟩, ⟨neq_self c0.symm, trivial⟩, fun hs => ⟨⟨⟨Int.le_refl 0, of_decide_eq_true (c0.trans hs)⟩, trivial⟩, ⟨bne_self (c1 hs), trivial⟩, ⟨by rw [show (firstOf (bitAt a) 256).isSome = true from hs]; rfl, trivial⟩, ⟨ha, trivial⟩, ⟨bne_self cC, trivial⟩, ⟨ha, trivial⟩, ?_⟩, fun hs => ⟨⟨by rw [show (firstOf (bitAt a) 256).isSome = false from hs]; rfl, trivial⟩, ⟨bne_self (c2 hs), trivial⟩, ⟨ha, trivial⟩, ⟨bne_self cC, trivial⟩, ⟨ha, trivial⟩, ?_⟩⟩
      · exact ⟨fun hn => ⟨⟨clamp_range n, clamp_range n, trivial⟩, ⟨neq_self (has_in hn), trivial⟩, ⟨ha, trivial⟩, ⟨cW, trivial⟩, ⟨ha, trivial⟩, ⟨cO, trivial⟩, ⟨hf, by show drawOK _ _ = true; kernel_rfl, trivial⟩, ⟨cR, trivial⟩, ⟨ha, trivial⟩, ⟨cL, trivial⟩, rfl, fun i => i, by rfl, ⟨impP_refl _, impP_refl _, impP_refl _, impP_refl _, mkL_eq eL, impP_refl _, impP_refl _, trivial⟩, ⟨impP_refl _, ⟨rfl, few_zero _⟩, trivial⟩⟩,
          fun hn => ⟨⟨neq_self (has_out hn), trivial⟩, ⟨ha, trivial⟩, ⟨cW, trivial⟩, ⟨ha, trivial⟩, ⟨cO, trivial⟩, ⟨hf, by show drawOK _ _ = true; kernel_rfl, trivial⟩, ⟨cR, trivial⟩, ⟨ha, trivial⟩, ⟨cL, trivial⟩, rfl, fun i => i, by rfl, ⟨impP_refl _, impP_refl _, impP_refl _, impP_refl _, mkL_eq eL, impP_refl _, impP_refl _, trivial⟩, ⟨impP_refl _, ⟨rfl, few_zero _⟩, trivial⟩⟩⟩
      · exact ⟨fun hn => ⟨⟨clamp_range n, clamp_range n, trivial⟩, ⟨neq_self (has_in hn), trivial⟩, ⟨ha, trivial⟩, ⟨cW, trivial⟩, ⟨ha, trivial⟩, ⟨cO, trivial⟩, ⟨hf, by show drawOK _ _ = true; kernel_rfl, trivial⟩, ⟨cR, trivial⟩, ⟨ha, trivial⟩, ⟨cL, trivial⟩, rfl, fun i => i, by rfl, ⟨impP_refl _, impP_refl _, impP_refl _, impP_refl _, mkL_eq eL, impP_refl _, impP_refl _, trivial⟩, ⟨impP_refl _, ⟨rfl, few_zero _⟩, trivial⟩⟩,
          fun hn => ⟨⟨neq_self (has_out hn), trivial⟩, ⟨ha, trivial⟩, ⟨cW, trivial⟩, ⟨ha, trivial⟩, ⟨cO, trivial⟩, ⟨hf, by show drawOK _ _ = true; kernel_rfl, trivial⟩, ⟨cR, trivial⟩, ⟨ha, trivial⟩, ⟨cL, trivial⟩, rfl, fun i => i, by rfl, ⟨impP_refl _, impP_refl _, impP_refl _, impP_refl _, mkL_eq eL, impP_refl _, impP_refl _, trivial⟩, ⟨impP_refl _, ⟨rfl, few_zero _⟩, trivial⟩⟩⟩
    have hk1 := (clamp_300 m).2
    have hk0 := (clamp_300 m).1
    generalize clamp 0 300 m = k at hk1 hk0 ⊢
    refine run_inv (ι := Int) (fun i => (((firsts (bitAt a) k).length : Int) - i).toNat) (fun i => 0 ≤ i ∧ i ≤ (firsts (bitAt a) k).length) (teE (bitAt a) k) (teF a b n f t m) 6 0 (fun i => i) (by rfl) (by rfl) ⟨by omega, by omega⟩ ?_ ⟨impP_refl _, impP_refl _, impP_refl _, impP_refl _, impP_refl _, impP_refl _, impP_refl _, trivial⟩ ⟨impP_refl _, impP_refl _, trivial⟩
    intro i hi ih
    have hfl := firsts_len (bitAt a) k
    have hcl := cnt_le (bitAt a) 256
    by_cases h : i < (firsts (bitAt a) k).length
    · refine exploreD_ok (ok _) (mkO_ok Fw1_ok) (u := false) 20 (.yes (.no .any)) _ rfl ?_
      conv => arg 5; cbv
      obtain ⟨r, hr, hr1, hr2, hr3⟩ := nth_spec (p := bitAt a) hi.1 (by omega)
      have hfg : (firsts (bitAt a) k).getD i.toNat 0 = nth (bitAt a) i := by
        rw [firsts_get (by omega), show ((i.toNat : Nat) : Int) = i by omega]
      have hlg := getD_nth (bitAt a) i
      have hll : i < (((elems (bitAt a) 256).map Int.ofNat).length : Int) := by rw [List.length_map, elems_len]; omega
      have hrg : 0 ≤ ((elems (bitAt a) 256).map Int.ofNat).getD i.toNat 0 ∧ ((elems (bitAt a) 256).map Int.ofNat).getD i.toNat 0 < 256 := by rw [hlg, hr]; omega
      have hw : IntKind.i64.wrap (i + 1) = i + 1 := IntWalk.i64_in _ ⟨by omega, by omega⟩
      have hst := few_step (p := bitAt a) hi.1 (by omega)
      rw [← hlg] at hst
      refine ⟨⟨decide_eq_true h, trivial⟩, ⟨⟨hi.1, h⟩, ⟨hi.1, hll⟩, by show drawOK _ _ = true; kernel_rfl, trivial⟩, ⟨bne_self (hfg.trans hlg.symm), trivial⟩, ⟨⟨hi.1, hll⟩, hrg, hrg, trivial⟩, ?_⟩
      exact ih (i + 1) (fun i => i) ⟨by omega, by omega⟩ (by omega) (by rfl) ⟨⟨rfl, hw⟩, impP_refl _, impP_refl _, impP_refl _, impP_refl _, impP_refl _, impP_refl _, trivial⟩ ⟨impP_refl _, ⟨rfl, hst⟩, trivial⟩
    · refine exploreD_ok (ok _) (mkO_ok Fw1_ok) (u := false) 20 (.no .any) _ rfl ?_
      conv => arg 5; cbv
      have hil : i = (firsts (bitAt a) k).length := by omega
      refine ⟨⟨decide_eq_false h, trivial⟩, ⟨ha, trivial⟩, fun h1 => ?_, fun h1 => ⟨fun h2 => ?_, fun h2 => ?_⟩⟩
      · have h1 : m < 0 := by simpa using h1
        have hfw : fewB (bitAt a) m = false := by unfold fewB; simp only [Bool.and_eq_false_iff, decide_eq_false_iff_not]; omega
        refine ⟨fun _ => ⟨rfl, ?_⟩, fun h3 => ?_⟩
        · show decide (firstL (bitAt a) m = List.replicate 4 0) = true
          unfold firstL; rw [hfw]; exact decide_eq_true rfl
        · have h3 : (!fewB (bitAt a) m) = false := h3
          rw [hfw] at h3; cases h3
      · have h2 : (((elems (bitAt a) 256).map Int.ofNat).length : Int) < m := of_decide_eq_true h2
        rw [List.length_map, elems_len] at h2
        have hfw : fewB (bitAt a) m = false := by unfold fewB; simp only [Bool.and_eq_false_iff, decide_eq_false_iff_not]; omega
        refine ⟨fun _ => ⟨rfl, ?_⟩, fun h3 => ?_⟩
        · show decide (firstL (bitAt a) m = List.replicate 4 0) = true
          unfold firstL; rw [hfw]; exact decide_eq_true rfl
        · have h3 : (!fewB (bitAt a) m) = false := h3
          rw [hfw] at h3; cases h3
      · have h1 : ¬ m < 0 := by simpa using h1
        have h2 : ¬ (((elems (bitAt a) 256).map Int.ofNat).length : Int) < m := of_decide_eq_false h2
        rw [List.length_map, elems_len] at h2
        have hfw : fewB (bitAt a) m = true := by unfold fewB; simp only [Bool.and_eq_true, decide_eq_true_eq]; omega
        have hkm := hk1 (by omega) (by omega)
        refine ⟨fun _ => ⟨⟨by show drawOK _ _ = true; kernel_rfl, trivial⟩, rfl, ?_⟩, fun h3 => ?_⟩
        · show decide (firstL (bitAt a) m = setOf fun j => ((List.range 256).map (upN (bitAt a) i)).getD j false) = true
          unfold firstL
          rw [hfw, setOf_list, cond_true, show i = m by omega]
          exact decide_eq_true rfl
        · have h3 : fewB (bitAt a) m = false := h3
          rw [hfw] at h3; cases h3
end Go.Proofs.YtdikfhjpnfffnabDoor
