/- SETS OF PROCESSORS: two sets together. -/
import Derived.Test.YtdikfhjpnfffnabDoorCsF
set_option maxRecDepth 2000
set_option linter.unusedVariables false
set_option linter.unusedSimpArgs false
set_option linter.unusedVariables false
set_option linter.unusedSimpArgs false
namespace Go.Proofs.YtdikfhjpnfffnabDoor
open Go Go.Abs Go.Proofs
noncomputable def Fg1 : Table := addS 12 (.cons shSet .nil) (fun a => (.arrB 256 fun _ => (List.range 256).map (bitAt (a ())), [fun _ => okSet (a ())]))
  (addS 14 (.cons (.arrB 256) .nil) (fun l => (.arrI .u64 4 fun _ => setOf fun i => List.getD (α := Bool) (l ()) i false, []))
  (addS 20 (.cons (.arrB 256) .nil) (fun l => (Sh.mkL 1 (.int .i64) fun _ => (elems (fun i => List.getD (α := Bool) (l ()) i false) 256).map Int.ofNat, []))
  (addS 7 .nil (.tt, []) Ff1)))
theorem Fg1_ok : TableOK Tryd.prog G0 Fg1 := by
  refine addS_ok (⟨Tryd.func12, rfl, rfl, rfl, ⟨rfl, rfl⟩, ok _⟩ : FN 12 Tryd.f12).callable (fun a _ h => ?_) (addS_ok (⟨Tryd.func14, rfl, rfl, rfl, ⟨rfl, rfl⟩, ok _⟩ : FN 14 Tryd.f14).callable (fun l _ _ => refSet_ok (l ())) (addS_ok (⟨Tryd.func20, rfl, rfl, rfl, ⟨rfl, rfl⟩, ok _⟩ : FN 20 Tryd.f20).callable (fun l _ _ => refAll_ok (l ())) (addS_ok (⟨Tryd.func7, rfl, rfl, rfl, ⟨rfl, rfl⟩, ok _⟩ : FN 7 Tryd.f7).callable ?_ Ff1_ok)))
  · have := refOf_ok (bitAt (a ()))
    rw [setP_bitAt h.1] at this
    exact this
  · exact fun _ => first_ok
theorem list_setOf (p : Nat → Bool) : (List.range 256).map (bitAt (setOf p)) = (List.range 256).map p := List.map_congr_left fun i hi => bitAt_setOf (List.mem_range.1 hi)
/-- Of the first ones. -/
def subTo (p q : Nat → Bool) (n : Nat) : Bool := (List.range n).all fun i => !p i || q i
theorem subTo_succ (p q : Nat → Bool) (n : Nat) : subTo p q (n + 1) = (subTo p q n && (!p n || q n)) := by simp [subTo, List.range_succ, List.all_append]
def twA (p q : Nat → Bool) (l : List Int) (i : Int) : Env := [(26, .int .i64 fun _ => i), (13, .bool fun _ => subTo p q i.toNat), (12, .ptr 7 0), (11, .ptr 6 0), (10, .ptr 5 0), (9, .ptr 4 0), (8, .ptr 3 0), (7, .ptr 2 0), (6, .ff), (4, .ptr 1 0), (3, .ptr 0 0), (2, oP l)]
def twS (p q : Nat → Bool) (i : Int) : Store := [(0, .var (.arrI .u64 4 fun _ => setOf p)), (1, .var (.arrI .u64 4 fun _ => setOf q)), (2, .var (.arrB 256 fun _ => (List.range 256).map p)), (3, .var (.arrB 256 fun _ => (List.range 256).map q)),
  (4, .var (.arrB 256 fun _ => upTo (fun k => p k || q k) 256 i.toNat)), (5, .var (.arrB 256 fun _ => upTo (fun k => p k && q k) 256 i.toNat)), (6, .var (.arrB 256 fun _ => upTo (fun k => p k && !q k) 256 i.toNat)), (7, .var (.arrB 256 fun _ => List.replicate 256 false))]
def twB (p q : Nat → Bool) (l : List Int) (i : Int) : Env := [(70, .int .i64 fun _ => i), (69, .int .i64 fun _ => (l.length : Int)), (68, oP l), (13, .bool fun _ => sub p q), (12, .ptr 7 0), (11, .ptr 6 0), (10, .ptr 5 0), (9, .ptr 4 0), (8, .ptr 3 0), (7, .ptr 2 0), (6, .ff), (4, .ptr 1 0), (3, .ptr 0 0), (2, oP l)]
def twT (p q : Nat → Bool) (l : List Int) (i : Int) : Store := [(0, .var (.arrI .u64 4 fun _ => setOf p)), (1, .var (.arrI .u64 4 fun _ => setOf q)),
  (4, .var (.arrB 256 fun _ => (List.range 256).map fun k => p k || q k)), (5, .var (.arrB 256 fun _ => (List.range 256).map fun k => p k && q k)), (6, .var (.arrB 256 fun _ => (List.range 256).map fun k => p k && !q k)), (7, .var (.arrB 256 fun _ => (List.range 256).map (oneOf l i.toNat)))]
theorem oneL_zero (l : List Int) : (List.range 256).map (oneOf l 0) = List.replicate 256 false := map_false 256 _ fun k _ => by simp [oneOf]
theorem oneOf_succ {l : List Int} {i : Int} (h0 : 0 ≤ i) (h : i < l.length) (k : Nat) : oneOf l (i + 1).toNat k = (oneOf l i.toNat k || decide ((k : Int) = l.getD i.toNat 0)) := by
  unfold oneOf
  rw [show (i + 1).toNat = i.toNat + 1 by omega, List.take_add_one, List.getElem?_eq_getElem (by omega), List.getD_eq_getElem?_getD, List.getElem?_eq_getElem (by omega)]
  rw [Bool.eq_iff_iff]
  simp only [Bool.or_eq_true, List.contains_iff_mem, decide_eq_true_eq, Option.toList_some, List.mem_append, List.mem_singleton, Option.getD_some]
theorem oneL_in {l : List Int} {i : Int} (h0 : 0 ≤ i) (h : i < l.length) (h1 : 0 ≤ l.getD i.toNat 0) (h2 : l.getD i.toNat 0 < 256) : ((List.range 256).map (oneOf l i.toNat)).set (l.getD i.toNat 0).toNat true = (List.range 256).map (oneOf l (i + 1).toNat) := by
  apply List.ext_getElem?
  intro k
  rw [List.getElem?_set, List.getElem?_map, List.getElem?_map]
  by_cases hk : k < 256
  · rw [List.getElem?_range hk, Option.map_some, Option.map_some, oneOf_succ h0 h]
    by_cases e : (l.getD i.toNat 0).toNat = k
    · rw [if_pos e, if_pos (by rw [List.length_map, List.length_range]; omega), show decide ((k : Int) = l.getD i.toNat 0) = true by simp only [decide_eq_true_eq]; omega, Bool.or_true]
    · rw [if_neg e, show decide ((k : Int) = l.getD i.toNat 0) = false by simp only [decide_eq_false_iff_not]; omega, Bool.or_false]
  · rw [List.getElem?_eq_none (by rw [List.length_range]; omega), if_neg (by omega)]; rfl
theorem oneL_out {l : List Int} {i : Int} (h0 : 0 ≤ i) (h : i < l.length) (h1 : ¬ (0 ≤ l.getD i.toNat 0 ∧ l.getD i.toNat 0 < 256)) : (List.range 256).map (oneOf l i.toNat) = (List.range 256).map (oneOf l (i + 1).toNat) := by
  refine List.map_congr_left fun k hk => ?_
  have hk := List.mem_range.1 hk
  rw [oneOf_succ h0 h, show decide ((k : Int) = l.getD i.toNat 0) = false by simp only [decide_eq_false_iff_not]; omega, Bool.or_false]
theorem setOf_list (f : Nat → Bool) : setOf (fun i => ((List.range 256).map f).getD i false) = setOf f := setOf_ext fun i hi => map_get hi
theorem setOf_two (p q : Nat → Bool) (f : Bool → Bool → Bool) : setOf (fun i => f (bitAt (setOf p) i) (bitAt (setOf q) i)) = setOf fun i => f (p i) (q i) := setOf_ext fun i hi => by rw [bitAt_setOf hi, bitAt_setOf hi]
theorem sub_setOf (p q : Nat → Bool) : sub (bitAt (setOf p)) (bitAt (setOf q)) = sub p q := by
  rw [Bool.eq_iff_iff, sub_iff, sub_iff]
  exact forall_congr' fun i => forall_congr' fun hi => by rw [bitAt_setOf hi, bitAt_setOf hi]
theorem upTo_set' {f : Nat → Bool} {n : Nat} {i : Int} {v : Bool} (h0 : 0 ≤ i) (h : i < n) (e : v = f i.toNat) : (upTo f n i.toNat).set i.toNat v = upTo f n (i + 1).toNat := by
  rw [e, upTo_set (by omega), show (i + 1).toNat = i.toNat + 1 by omega]
theorem set_get' {f : Nat → Bool} {n : Nat} {i : Int} {v : Bool} (h0 : 0 ≤ i) (h : i < n) : ((upTo f n i.toNat).set i.toNat v).getD i.toNat false = v := by
  rw [List.getD_eq_getElem?_getD, List.getElem?_set_self (by rw [upTo_len]; omega)]; rfl
theorem two_ok (p q : Nat → Bool) (l : List Int) : PF 4 (.cons (.arrI .u64 4 fun _ => setOf p) (.cons (.arrI .u64 4 fun _ => setOf q) (.cons (oP l) .nil))) .tt := by
  refine (⟨Tryd.func4, rfl, rfl, rfl, ⟨rfl, rfl⟩, ok _⟩ : FN 4 Tryd.f4).tree (mkO_ok Fg1_ok) false 60 rfl ?_
  conv => arg 5; cbv
  refine ⟨fun h => ⟨rfl, rfl⟩, fun h => ⟨⟨okSet_setOf _, okSet_setOf _, ?_, trivial⟩, ?_⟩⟩
  · show drawOK _ _ = true
    kernel_rfl
  have hl : l.length ≤ 500 := by
    have : ¬ (500 : Int) < l.length := by simpa using h
    omega
  refine run_inv (ι := Int) (fun i => (256 - i).toNat) (fun i => 0 ≤ i ∧ i ≤ 256) (twA p q l) (twS p q) 8 0 (fun i => i) (by rfl) (by rfl) ⟨by omega, by omega⟩ ?_ ?_ ?_
  · intro i hi ih
    generalize hsu : subTo p q i.toNat = su
    refine explore_ok (ok _) (mkO_ok Fg1_ok) (u := false) 20 _ rfl ?_
    conv => arg 5; cbv
    refine ⟨fun h => ?_, fun h => ?_⟩
    · have h : i < 256 := by simpa using h
      have hw : IntKind.i64.wrap (i + 1) = i + 1 := IntWalk.i64_in _ ⟨by omega, by omega⟩
      have gp : ((List.range 256).map p).getD i.toNat false = p i.toNat := map_get (by omega)
      have gq : ((List.range 256).map q).getD i.toNat false = q i.toNat := map_get (by omega)
      have hi0 := hi.1
      have hs := subTo_succ p q i.toNat
      rw [show i.toNat + 1 = (i + 1).toNat by omega] at hs
      cases hpi : p i.toNat with
      | true =>
        have hno : ¬ ((List.range 256).map p).getD i.toNat false = false := by rw [gp, hpi]; exact Bool.noConfusion
        refine ⟨by (repeat' (first | exact trivial | exact ⟨by assumption, by assumption⟩ | apply And.intro | (show drawOK _ _ = true; kernel_rfl))), fun _ => ⟨by (repeat' (first | exact trivial | exact ⟨by assumption, by assumption⟩ | apply And.intro | (show drawOK _ _ = true; kernel_rfl))), fun _ => ⟨by (repeat' (first | exact trivial | exact ⟨by assumption, by assumption⟩ | apply And.intro | (show drawOK _ _ = true; kernel_rfl))), fun _ => ⟨by (repeat' (first | exact trivial | exact ⟨by assumption, by assumption⟩ | apply And.intro | (show drawOK _ _ = true; kernel_rfl))), fun h2 => ⟨by (repeat' (first | exact trivial | exact ⟨by assumption, by assumption⟩ | apply And.intro | (show drawOK _ _ = true; kernel_rfl))), ?_⟩, fun h2 => ?_⟩, fun h => absurd h hno⟩, fun h => absurd h hno⟩, fun h => absurd h hno⟩
        · exact ih (i + 1) (fun i => i) ⟨by omega, by omega⟩ (by omega) (by rfl) ⟨⟨rfl, hw⟩, (by
            have h2 : subTo p q i.toNat = true := h2
            show (!((upTo (fun k => p k && !q k) 256 i.toNat).set i.toNat (!((List.range 256).map q).getD i.toNat false)).getD i.toNat false) = subTo p q (i + 1).toNat
            rw [set_get' hi0 h, hs, h2, hpi]
            rw [gq]
            simp), impP_refl _, impP_refl _, impP_refl _, impP_refl _, impP_refl _, impP_refl _, impP_refl _, impP_refl _, impP_refl _, impP_refl _, trivial⟩ ⟨impP_refl _, impP_refl _, impP_refl _, impP_refl _, ⟨rfl, upTo_set' hi0 h (by simp [hpi])⟩, ⟨rfl, upTo_set' hi0 h (by rw [gq]; simp [hpi])⟩, ⟨rfl, upTo_set' hi0 h (by rw [gq]; simp [hpi])⟩, impP_refl _, trivial⟩
        · exact ih (i + 1) (fun i => i) ⟨by omega, by omega⟩ (by omega) (by rfl) ⟨⟨rfl, hw⟩, (by
            have h2 : subTo p q i.toNat = false := h2
            show subTo p q (i + 1).toNat = false
            rw [hs, h2, Bool.false_and]), impP_refl _, impP_refl _, impP_refl _, impP_refl _, impP_refl _, impP_refl _, impP_refl _, impP_refl _, impP_refl _, impP_refl _, trivial⟩ ⟨impP_refl _, impP_refl _, impP_refl _, impP_refl _, ⟨rfl, upTo_set' hi0 h (by simp [hpi])⟩, ⟨rfl, upTo_set' hi0 h (by rw [gq]; simp [hpi])⟩, ⟨rfl, upTo_set' hi0 h (by rw [gq]; simp [hpi])⟩, impP_refl _, trivial⟩
      | false =>
        have hno : ¬ ((List.range 256).map p).getD i.toNat false = true := by rw [gp, hpi]; exact Bool.noConfusion
        refine ⟨by (repeat' (first | exact trivial | exact ⟨by assumption, by assumption⟩ | apply And.intro | (show drawOK _ _ = true; kernel_rfl))), fun h => absurd h hno, fun _ => ⟨by (repeat' (first | exact trivial | exact ⟨by assumption, by assumption⟩ | apply And.intro | (show drawOK _ _ = true; kernel_rfl))), fun h => absurd h hno, fun _ => ⟨by (repeat' (first | exact trivial | exact ⟨by assumption, by assumption⟩ | apply And.intro | (show drawOK _ _ = true; kernel_rfl))), fun h => absurd h hno, fun _ => ⟨by (repeat' (first | exact trivial | exact ⟨by assumption, by assumption⟩ | apply And.intro | (show drawOK _ _ = true; kernel_rfl))), fun h2 => ⟨by (repeat' (first | exact trivial | exact ⟨by assumption, by assumption⟩ | apply And.intro | (show drawOK _ _ = true; kernel_rfl))), ?_⟩, fun h2 => ?_⟩⟩⟩⟩
        · exact ih (i + 1) (fun i => i) ⟨by omega, by omega⟩ (by omega) (by rfl) ⟨⟨rfl, hw⟩, (by
            have h2 : subTo p q i.toNat = true := h2
            show (!((upTo (fun k => p k && !q k) 256 i.toNat).set i.toNat false).getD i.toNat false) = subTo p q (i + 1).toNat
            rw [set_get' hi0 h, hs, h2, hpi]; simp), impP_refl _, impP_refl _, impP_refl _, impP_refl _, impP_refl _, impP_refl _, impP_refl _, impP_refl _, impP_refl _, impP_refl _, trivial⟩ ⟨impP_refl _, impP_refl _, impP_refl _, impP_refl _, ⟨rfl, upTo_set' hi0 h (by rw [gq]; simp [hpi])⟩, ⟨rfl, upTo_set' hi0 h (by simp [hpi])⟩, ⟨rfl, upTo_set' hi0 h (by simp [hpi])⟩, impP_refl _, trivial⟩
        · exact ih (i + 1) (fun i => i) ⟨by omega, by omega⟩ (by omega) (by rfl) ⟨⟨rfl, hw⟩, (by
            have h2 : subTo p q i.toNat = false := h2
            show subTo p q (i + 1).toNat = false
            rw [hs, h2, Bool.false_and]), impP_refl _, impP_refl _, impP_refl _, impP_refl _, impP_refl _, impP_refl _, impP_refl _, impP_refl _, impP_refl _, impP_refl _, trivial⟩ ⟨impP_refl _, impP_refl _, impP_refl _, impP_refl _, ⟨rfl, upTo_set' hi0 h (by rw [gq]; simp [hpi])⟩, ⟨rfl, upTo_set' hi0 h (by simp [hpi])⟩, ⟨rfl, upTo_set' hi0 h (by simp [hpi])⟩, impP_refl _, trivial⟩
    · have h : ¬ i < 256 := by simpa using h
      have e : i = 256 := by omega
      subst e
      refine run_inv (ι := Int) (fun i => (l.length - i).toNat) (fun i => 0 ≤ i ∧ i ≤ l.length) (twB p q l) (twT p q l) 8 0 (fun i => i) (by rfl) (by rfl) ⟨by omega, by omega⟩ ?_ ?_ ?_
      · intro i hi ih
        refine explore_ok (ok _) (mkO_ok Fg1_ok) (u := false) 20 _ rfl ?_
        conv => arg 5; cbv
        refine ⟨fun h => ?_, fun h => ?_⟩
        · have h : i < l.length := by simpa using h
          have hw : IntKind.i64.wrap (i + 1) = i + 1 := IntWalk.i64_in _ ⟨by omega, by omega⟩
          refine ⟨⟨⟨hi.1, h⟩, trivial⟩, fun h1 => ⟨fun h2 => ⟨?_, ?_⟩, fun h2 => ?_⟩, fun h1 => ?_⟩
          · have h1 : 0 ≤ l.getD i.toNat 0 := by simpa using h1
            have h2 : l.getD i.toNat 0 < 256 := by simpa using h2
            exact ⟨⟨h1, h2⟩, ⟨h1, h2⟩, trivial⟩
          · have h1 : 0 ≤ l.getD i.toNat 0 := by simpa using h1
            have h2 : l.getD i.toNat 0 < 256 := by simpa using h2
            exact ih (i + 1) (fun i => i) ⟨by omega, by omega⟩ (by omega) (by rfl) ⟨⟨rfl, hw⟩, impP_refl _, impP_refl _, impP_refl _, impP_refl _, impP_refl _, impP_refl _, impP_refl _, impP_refl _, impP_refl _, impP_refl _, impP_refl _, impP_refl _, impP_refl _, trivial⟩ ⟨impP_refl _, impP_refl _, impP_refl _, impP_refl _, impP_refl _, ⟨rfl, oneL_in hi.1 h h1 h2⟩, trivial⟩
          · have h2 : ¬ l.getD i.toNat 0 < 256 := by simpa using h2
            exact ih (i + 1) (fun i => i) ⟨by omega, by omega⟩ (by omega) (by rfl) ⟨⟨rfl, hw⟩, impP_refl _, impP_refl _, impP_refl _, impP_refl _, impP_refl _, impP_refl _, impP_refl _, impP_refl _, impP_refl _, impP_refl _, impP_refl _, impP_refl _, impP_refl _, trivial⟩ ⟨impP_refl _, impP_refl _, impP_refl _, impP_refl _, impP_refl _, ⟨rfl, oneL_out hi.1 h (by omega)⟩, trivial⟩
          · have h1 : ¬ 0 ≤ l.getD i.toNat 0 := by simpa using h1
            exact ih (i + 1) (fun i => i) ⟨by omega, by omega⟩ (by omega) (by rfl) ⟨⟨rfl, hw⟩, impP_refl _, impP_refl _, impP_refl _, impP_refl _, impP_refl _, impP_refl _, impP_refl _, impP_refl _, impP_refl _, impP_refl _, impP_refl _, impP_refl _, impP_refl _, trivial⟩ ⟨impP_refl _, impP_refl _, impP_refl _, impP_refl _, impP_refl _, ⟨rfl, oneL_out hi.1 h (by omega)⟩, trivial⟩
        · have h : ¬ i < l.length := by simpa using h
          have e : i = l.length := by omega
          subst e
          have ho : okSet (setOf p) ∧ okSet (setOf q) := ⟨okSet_setOf _, okSet_setOf _⟩
          have c1 : setOf (fun i => bitAt (setOf p) i || bitAt (setOf q) i) = setOf fun i => ((List.range 256).map fun k => p k || q k).getD i false := (setOf_two p q fun a b => a || b).trans (setOf_list _).symm
          have c2 : setOf (fun i => bitAt (setOf p) i && bitAt (setOf q) i) = setOf fun i => ((List.range 256).map fun k => p k && q k).getD i false := (setOf_two p q fun a b => a && b).trans (setOf_list _).symm
          have c3 : setOf (fun i => bitAt (setOf p) i && !bitAt (setOf q) i) = setOf fun i => ((List.range 256).map fun k => p k && !q k).getD i false := (setOf_two p q fun a b => a && !b).trans (setOf_list _).symm
          have hr := rdL_int .i64 l
          refine ⟨⟨ho, trivial⟩, fun _ => ⟨⟨ho, trivial⟩, fun _ => ⟨⟨ho, trivial⟩, fun _ => ⟨⟨ho, trivial⟩, fun _ => ⟨⟨?_, fun j => rfl, ?_, trivial⟩, rfl, ?_⟩, fun h => ?_⟩, fun h => ?_⟩, fun h => ?_⟩, fun h => ?_⟩
          · show List.length (α := Int) (rdL (α := Int) (Sh.int .i64).rd (fun _ => (l.length : Int)) fun j => .int .i64 fun _ => l.getD (j ()).toNat 0) < (9223372036854775807 : Int)
            rw [hr]; omega
          · show drawOK _ _ = true
            kernel_rfl
          · show decide ((setOf fun i => List.elem (i : Int) (rdL (α := Int) (Sh.int .i64).rd (fun _ => (l.length : Int)) fun j => .int .i64 fun _ => l.getD (j ()).toNat 0)) = setOf fun i => ((List.range 256).map (oneOf l (l.length : Int).toNat)).getD i false) = true
            rw [hr, setOf_list, decide_eq_true_eq]
            exact setOf_ext fun i hi => by simp [oneOf]
          · rw [sub_setOf] at h
            exact absurd (show (sub p q == sub p q) = false from h) (by simp)
          · exact absurd c3 (of_decide_eq_false h)
          · exact absurd c2 (of_decide_eq_false h)
          · exact absurd c1 (of_decide_eq_false h)
      · exact ⟨impP_refl _, ⟨rfl, rfl⟩, impP_refl _, impP_refl _, impP_refl _, impP_refl _, impP_refl _, impP_refl _, impP_refl _, impP_refl _, impP_refl _, impP_refl _, impP_refl _, impP_refl _, trivial⟩
      · exact ⟨impP_refl _, impP_refl _, ⟨rfl, upTo_full _ 256⟩, ⟨rfl, upTo_full _ 256⟩, ⟨rfl, upTo_full _ 256⟩, ⟨rfl, (oneL_zero l).symm⟩, trivial⟩
  · exact ⟨impP_refl _, rfl, impP_refl _, impP_refl _, impP_refl _, impP_refl _, impP_refl _, impP_refl _, impP_refl _, impP_refl _, impP_refl _, impP_refl _, trivial⟩
  · exact ⟨impP_refl _, impP_refl _, ⟨rfl, list_setOf p⟩, ⟨rfl, list_setOf q⟩, ⟨rfl, (upTo_zero _ 256).symm⟩, ⟨rfl, (upTo_zero _ 256).symm⟩, ⟨rfl, (upTo_zero _ 256).symm⟩, impP_refl _, trivial⟩
end Go.Proofs.YtdikfhjpnfffnabDoor
