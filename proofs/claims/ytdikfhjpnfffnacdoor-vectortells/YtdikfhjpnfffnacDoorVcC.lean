/- AMOUNTS: their texts' parts. -/
import Derived.Test.YtdikfhjpnfffnacDoorVcB
import Derived.Test.YtdikfhjpnfffnacDoorGd
set_option maxRecDepth 2000
set_option linter.unusedVariables false
set_option linter.unusedSimpArgs false
set_option linter.unusedVariables false
set_option linter.unusedSimpArgs false
namespace Go.Proofs.YtdikfhjpnfffnacDoor
open Go Go.Abs Go.Proofs
def sufG (i : Nat) : List UInt8 × Int × Nat := sufs.getD i ([], 0, 0)
noncomputable def Fc1 : Table := addA 76 (ctx Tryd.f76) (mkO F0) (body Tryd.f76) 8 Fw
theorem Fc1_ok : TableOK Tryd.prog G0 Fc1 := addA_ok (⟨Tryd.func76, rfl, rfl, rfl, ⟨rfl, rfl⟩, ok _⟩ : FN 76 Tryd.f76) (mkO_ok F0_ok) Fw_ok
noncomputable def Fc2 : Table := addA 52 (ctx Tryd.f52) (mkO Fc1) (body Tryd.f52) 8 Fc1
theorem Fc2_ok : TableOK Tryd.prog G0 Fc2 := addA_ok (⟨Tryd.func52, rfl, rfl, rfl, ⟨rfl, rfl⟩, ok _⟩ : FN 52 Tryd.f52) (mkO_ok Fc1_ok) Fc1_ok
theorem prefix_ok (s p : ByteArray) : PF 52 (.cons (.str fun _ => s) (.cons (.str fun _ => p) .nil)) (.bool fun _ => p.data.toList.isPrefixOf s.data.toList) := by
  refine (⟨Tryd.func52, rfl, rfl, rfl, ⟨rfl, rfl⟩, ok _⟩ : FN 52 Tryd.f52).tree (mkO_ok Fc1_ok) false 40 rfl ?_
  conv => arg 5; cbv
  refine ⟨⟨⟨fun h => ⟨⟨(by (try dsimp only); (try simp only [cast_fold, Int.ofNat_eq_natCast]); omega), of_decide_eq_true h⟩, trivial⟩, fun _ => trivial⟩, trivial⟩, rfl, prefix_iff s p⟩
theorem suffixes_ok : PF 77 .nil (.slice none 3 (fun _ => 16) fun j => .agg (.cons (.str fun _ => toB (sufG (j ()).toNat).1) (.cons (.int .i64 fun _ => (sufG (j ()).toNat).2.1) (.cons (.int .i64 fun _ => ((sufG (j ()).toNat).2.2 : Nat)) .nil)))) := by
  refine (⟨Tryd.func77, rfl, rfl, rfl, ⟨rfl, rfl⟩, ok _⟩ : FN 77 Tryd.f77).tree (mkO_ok Fc1_ok) false 40 rfl ?_
  conv => arg 5; cbv
  refine ⟨rfl, .inl rfl, rfl, rfl, fun j h0 h1 => ?_⟩
  have h1 : j < 16 := h1
  have : j = 0 ∨ j = 1 ∨ j = 2 ∨ j = 3 ∨ j = 4 ∨ j = 5 ∨ j = 6 ∨ j = 7 ∨ j = 8 ∨ j = 9 ∨ j = 10 ∨ j = 11 ∨ j = 12 ∨ j = 13 ∨ j = 14 ∨ j = 15 := by omega
  rcases this with rfl | rfl | rfl | rfl | rfl | rfl | rfl | rfl | rfl | rfl | rfl | rfl | rfl | rfl | rfl | rfl <;> exact ⟨rfl, ⟨rfl, rfl⟩, ⟨rfl, rfl⟩, rfl⟩
noncomputable def Fc3 : Table := addS 52 (.cons .str (.cons .str .nil)) (fun s p => (.bool fun _ => (p ()).data.toList.isPrefixOf (s ()).data.toList, [])) (addS 77 .nil ((.slice none 3 (fun _ => 16) fun j => .agg (.cons (.str fun _ => toB (sufG (j ()).toNat).1) (.cons (.int .i64 fun _ => (sufG (j ()).toNat).2.1) (.cons (.int .i64 fun _ => ((sufG (j ()).toNat).2.2 : Nat)) .nil)))), []) Fw)
theorem Fc3_ok : TableOK Tryd.prog G0 Fc3 := addS_ok (⟨Tryd.func52, rfl, rfl, rfl, ⟨rfl, rfl⟩, ok _⟩ : FN 52 Tryd.f52).callable (fun s p _ => prefix_ok (s ()) (p ())) (addS_ok (⟨Tryd.func77, rfl, rfl, rfl, ⟨rfl, rfl⟩, ok _⟩ : FN 77 Tryd.f77).callable (fun _ => suffixes_ok) Fw_ok)
theorem digits_ok (s : ByteArray) (hs : s.size < 2147483648) : PF 51 (.cons (.str fun _ => s) .nil) (.tuple (.cons (.str fun _ => digB s) (.cons (.str fun _ => rstB s) .nil))) := by
  refine (⟨Tryd.func51, rfl, rfl, rfl, ⟨rfl, rfl⟩, ok _⟩ : FN 51 Tryd.f51).tree (mkO_ok Fc3_ok) false 40 rfl ?_
  conv => arg 5; cbv
  refine run_inv (ι := Nat) (fun n => s.size - n) (fun n => n ≤ s.size ∧ (s.data.toList.take n).all isD = true) (fun n => [(4, .int .i64 fun _ => (n : Int)), (0, .str fun _ => s)]) (fun _ => []) 0 0 (fun i => i) (by rfl) (by rfl) ⟨Nat.zero_le _, rfl⟩ ?_ ⟨impP_refl _, impP_refl _, trivial⟩ trivial
  intro n hn ih
  have hw : IntKind.i64.wrap ((n : Int) + 1) = ((n + 1 : Nat) : Int) := by rw [IntWalk.i64_in _ ⟨by omega, by omega⟩]; omega
  have hc : 0 ≤ (n : Int) ∧ (n : Int) ≤ (s.size : Int) := by omega
  have hend : (∀ c, s.data.toList[n]? = some c → isD c = false) → impP (.tuple (.cons (.str fun _ => s.extract 0 n) (.cons (.str fun _ => s.extract n s.size) .nil))) (.tuple (.cons (.str fun _ => digB s) (.cons (.str fun _ => rstB s) .nil))) := fun h => by
    obtain ⟨h1, h2⟩ := span_at hn.2 h
    refine ⟨?_, ?_, rfl⟩
    · show s.extract 0 n = digB s
      unfold digB
      rw [h1, extB]; rfl
    · show s.extract n s.size = rstB s
      unfold rstB
      rw [h2, restB]
  refine explore_ok (ok _) (mkO_ok Fc3_ok) (u := false) 20 _ rfl ?_
  conv => arg 5; cbv
  refine ⟨fun h => ?_, fun h => ⟨⟨hc, hc, (by show drawOK _ _ = true; decide +kernel), trivial⟩, rfl, hend fun c h2 => ?_⟩⟩
  · simp only [decide_eq_true_eq, Int.ofNat_eq_natCast, cast_fold] at h
    have hlt : n < s.size := by omega
    obtain ⟨c, h1, h2, h3, h4⟩ := atB hlt
    have hr : 0 ≤ (n : Int) ∧ (n : Int) < (s.size : Int) := by omega
    have hno : isD c = false → ∀ c, s.data.toList[n]? = some c → isD c = false := fun h c' hc' => by rw [h1] at hc'; cases hc'; exact h
    refine ⟨⟨hr, trivial⟩, fun g => ⟨⟨hr, trivial⟩, fun g2 => ?_, fun g2 => ⟨⟨hc, hc, (by show drawOK _ _ = true; decide +kernel), trivial⟩, rfl, hend (hno ?_)⟩⟩, fun g => ⟨⟨hc, hc, (by show drawOK _ _ = true; decide +kernel), trivial⟩, rfl, hend (hno ?_)⟩⟩
    · have g : (48 : Int) ≤ byteAt s n := of_decide_eq_true g
      have g2 : byteAt s n ≤ 57 := of_decide_eq_true g2
      rw [h2] at g g2
      exact ih (n + 1) (fun i => i) ⟨by omega, by rw [h4, List.all_append, hn.2, Bool.true_and, List.all_cons, (isD_byte c).2 ⟨g, g2⟩]; rfl⟩ (by omega) (by rfl) ⟨⟨rfl, hw⟩, impP_refl _, trivial⟩ trivial
    · have g2 : ¬ byteAt s n ≤ 57 := of_decide_eq_false g2
      rw [h2] at g2
      exact Bool.eq_false_iff.2 fun hc => g2 ((isD_byte c).1 hc).2
    · have g : ¬ (48 : Int) ≤ byteAt s n := of_decide_eq_false g
      rw [h2] at g
      exact Bool.eq_false_iff.2 fun hc => g ((isD_byte c).1 hc).1
  · simp only [decide_eq_false_iff_not, Int.ofNat_eq_natCast, cast_fold] at h
    have := (List.getElem?_eq_some_iff.1 h2).1
    rw [size_toB] at this
    omega
noncomputable def Fc4 : Table := addS 51 (.cons .str .nil) (fun s => (.tuple (.cons (.str fun _ => digB (s ())) (.cons (.str fun _ => rstB (s ())) .nil)), [fun _ => (s ()).size < 2147483648])) Fc3
theorem Fc4_ok : TableOK Tryd.prog G0 Fc4 := addS_ok (⟨Tryd.func51, rfl, rfl, rfl, ⟨rfl, rfl⟩, ok _⟩ : FN 51 Tryd.f51).callable (fun s h => digits_ok (s ()) h.1) Fc3_ok
structure EI (s : ByteArray) (x : Int × ByteArray) : Prop where
  e : expo s.data.toList = (expoD x.2.data.toList).map fun n => x.1 * n
  sg : x.1 = 1 ∨ x.1 = -1
  sz : x.2.size < 2147483648
def eA (x : Int × ByteArray) : Env := [(0, .str fun _ => x.2), (4, .int .i64 fun _ => x.1)]
def eB (x : Int × ByteArray) (i : Nat) : Env := [(38, .int .i64 fun _ => (i : Int)), (37, .int .i64 fun _ => (x.2.size : Int)), (5, .str fun _ => x.2), (7, .int .i64 fun _ => (valD (x.2.data.toList.take i) : Int)), (4, .int .i64 fun _ => x.1)]
theorem pre_one (c : UInt8) (l : List UInt8) : [c].isPrefixOf l = true ↔ ∃ r, l = c :: r := by
  cases l with
  | nil => simp [List.isPrefixOf]
  | cons d r =>
    simp only [List.isPrefixOf, Bool.and_true, beq_iff_eq]
    constructor
    · rintro rfl; exact ⟨r, rfl⟩
    · rintro ⟨_, h⟩; cases h; rfl
theorem cut_one {s : ByteArray} {c : UInt8} {r : List UInt8} (h : s.data.toList = c :: r) : s.extract 1 s.size = toB r ∧ 1 ≤ s.size ∧ (toB r).size ≤ s.size := by
  have hs := size_toB s
  rw [h, List.length_cons] at hs
  refine ⟨by rw [restB, h]; rfl, by omega, ?_⟩
  rw [← size_toB (toB r)]
  show r.length ≤ _
  omega
theorem exponent_ok (s : ByteArray) (hs : s.size < 2147483648) : PF 78 (.cons (.str fun _ => s) .nil) (.tuple (.cons (.int .i64 fun _ => (expo s.data.toList).getD 0) (.cons (.bool fun _ => (expo s.data.toList).isSome) .nil))) := by
  refine (⟨Tryd.func78, rfl, rfl, rfl, ⟨rfl, rfl⟩, ok _⟩ : FN 78 Tryd.f78).treeS (mkO_ok Fc4_ok) false 40 (.both (.to 6) (.both (.to 6) (.to 6))) rfl ?_
  conv => arg 5; cbv
  refine tree_all (ι := Int × ByteArray) (EI s) eA (fun _ => []) 0 (by rfl) ?_ ?_
  · refine ⟨fun h => ?_, fun h => ⟨fun h2 => ?_, fun h2 => ?_⟩⟩
    · obtain ⟨r, hr⟩ := (pre_one 45 s.data.toList).1 h
      obtain ⟨c1, c2, c3⟩ := cut_one hr
      have c1 : s.extract (Int.toNat 1) (s.size : Int).toNat = toB r := c1
      have hl : (toB r).size < 2147483648 := by omega
      refine ⟨⟨⟨by decide, (by (try dsimp only); (try simp only [cast_fold, Int.ofNat_eq_natCast]); omega)⟩, (by show drawOK _ _ = true; decide +kernel), trivial⟩, rfl, (-1, toB r), fun i => i, ⟨?_, .inr rfl, hl⟩, by rfl, ⟨c1, impP_refl _, trivial⟩, trivial⟩
      · rw [hr]
        show (expoD r).map _ = (expoD r).map _
        congr 1
        funext n
        dsimp only; omega
    · obtain ⟨r, hr⟩ := (pre_one 43 s.data.toList).1 h2
      obtain ⟨c1, c2, c3⟩ := cut_one hr
      have c1 : s.extract (Int.toNat 1) (s.size : Int).toNat = toB r := c1
      have hl : (toB r).size < 2147483648 := by omega
      refine ⟨⟨⟨by decide, (by (try dsimp only); (try simp only [cast_fold, Int.ofNat_eq_natCast]); omega)⟩, trivial⟩, rfl, (1, toB r), fun i => i, ⟨?_, .inl rfl, hl⟩, by rfl, ⟨c1, impP_refl _, trivial⟩, trivial⟩
      · rw [hr]
        show expoD r = (expoD r).map _
        cases expoD r with
        | none => rfl
        | some n => simp
    · have h1 : ∀ r, s.data.toList ≠ 45 :: r := fun r hr => by
        have := (pre_one 45 _).2 ⟨r, hr⟩
        rw [show [(45 : UInt8)].isPrefixOf s.data.toList = false from h] at this; cases this
      have h3 : ∀ r, s.data.toList ≠ 43 :: r := fun r hr => by
        have := (pre_one 43 _).2 ⟨r, hr⟩
        rw [show [(43 : UInt8)].isPrefixOf s.data.toList = false from h2] at this; cases this
      refine ⟨rfl, (1, s), fun i => i, ⟨?_, .inl rfl, hs⟩, by rfl, ⟨impP_refl _, impP_refl _, trivial⟩, trivial⟩
      unfold expo
      split
      · rename_i hr; exact absurd hr (h1 _)
      · rename_i hr; exact absurd hr (h3 _)
      · cases expoD s.data.toList with
        | none => rfl
        | some n => simp
  · intro x hx
    obtain ⟨sg, t⟩ := x
    have hsz : t.size < 2147483648 := hx.sz
    have he : expo s.data.toList = (expoD t.data.toList).map fun n => sg * n := hx.e
    have hsg : sg = 1 ∨ sg = -1 := hx.sg
    have hall : rstB t = (⟨#[]⟩ : ByteArray) ↔ t.data.toList.all isD = true := rst_nil t
    have hdig : t.data.toList.all isD = true → digB t = t := dig_all t
    have hst := size_toB t
    have hbad : (t.data.toList.all isD = true → t.size < 1 ∨ 2 < t.size) → impP (.tuple (.cons (.int .i64 fun _ => 0) (.cons .ff .nil))) (.tuple (.cons (.int .i64 fun _ => (expo s.data.toList).getD 0) (.cons (.bool fun _ => (expo s.data.toList).isSome) .nil))) := fun h => by
      have : expoD t.data.toList = none := by
        unfold expoD
        rw [if_neg fun hc => by have := h hc.1; rw [hst] at hc; omega]
      rw [he, this]
      exact ⟨⟨rfl, rfl⟩, rfl, rfl⟩
    refine explore_ok (ok _) (mkO_ok Fc4_ok) (u := false) 20 _ rfl ?_
    conv => arg 5; cbv
    refine ⟨⟨hsz, trivial⟩, fun h => ⟨rfl, hbad fun hc => ?_⟩, fun h => ⟨fun h2 => ⟨rfl, hbad fun hc => ?_⟩, fun h2 => ⟨fun h3 => ⟨rfl, hbad fun hc => ?_⟩, fun h3 => ?_⟩⟩⟩
    · have h : ¬ rstB t = (⟨#[]⟩ : ByteArray) := of_decide_eq_true h
      exact absurd (hall.2 hc) h
    · have h2 : ((digB t).size : Int) < 1 := of_decide_eq_true h2
      rw [hdig hc] at h2; omega
    · have h3 : 2 < ((digB t).size : Int) := of_decide_eq_true h3
      rw [hdig hc] at h3; omega
    · have h : rstB t = (⟨#[]⟩ : ByteArray) := Classical.byContradiction fun hc => of_decide_eq_false h hc
      have hD := hall.1 h
      have h2 : ¬ ((digB t).size : Int) < 1 := of_decide_eq_false h2
      have h3 : ¬ 2 < ((digB t).size : Int) := of_decide_eq_false h3
      rw [hdig hD] at h2 h3
      refine run_inv (ι := Nat) (fun i => t.size - i) (fun i => i ≤ t.size) (eB (sg, t)) (fun _ => []) 0 0 (fun i => i) (by rfl) (by rfl) (Nat.zero_le _) ?_ ⟨impP_refl _, ⟨rfl, congrArg (fun b => (ByteArray.size b : Int)) (hdig hD)⟩, hdig hD, impP_refl _, impP_refl _, trivial⟩ trivial
      intro i hi ih
      refine explore_ok (ok _) (mkO_ok Fc4_ok) (u := false) 20 _ rfl ?_
      conv => arg 5; cbv
      refine ⟨fun g => ⟨⟨⟨(by (try dsimp only); (try simp only [cast_fold, Int.ofNat_eq_natCast]); omega), of_decide_eq_true g⟩, trivial⟩, ?_⟩, fun g => ⟨rfl, ⟨rfl, ?_⟩, ?_, rfl⟩⟩
      · have g : (i : Int) < (t.size : Int) := of_decide_eq_true g
        obtain ⟨c, c1, c2, c3, c4⟩ := atB (s := t) (n := i) (by omega)
        have hcd : isD c = true := List.all_eq_true.1 hD c (List.mem_of_getElem? c1)
        have hcr := (isD_byte c).1 hcd
        have hv := valD_lt (t.data.toList.take i) (List.all_eq_true.2 fun x hx => List.all_eq_true.1 hD x (List.mem_of_mem_take hx))
        have hv2 : 10 ^ (t.data.toList.take i).length ≤ 10 ^ 1 := Nat.pow_le_pow_right (by omega) (by rw [List.length_take]; omega)
        have hw : IntKind.i64.wrap ((i : Int) + 1) = ((i + 1 : Nat) : Int) := by rw [IntWalk.i64_in _ ⟨by omega, by omega⟩]; omega
        refine ih (i + 1) (fun i => i) (by omega) (by omega) (by rfl) ⟨⟨rfl, hw⟩, impP_refl _, impP_refl _, ⟨rfl, ?_⟩, impP_refl _, trivial⟩ trivial
        show IntKind.i64.wrap (IntKind.i64.wrap ((valD (List.take i t.data.toList) : Int) * 10) + IntKind.i64.wrap (IntKind.u8.wrap (byteAt t i - 48))) = (valD (List.take (i + 1) t.data.toList) : Int)
        rw [c4, valD_snoc, c2, IntWalk.u8_in _ ⟨by omega, by omega⟩, IntWalk.i64_in ((c.toNat : Int) - 48) ⟨by omega, by omega⟩, IntWalk.i64_in ((valD (List.take i t.data.toList) : Int) * 10) ⟨by omega, by omega⟩, IntWalk.i64_in _ ⟨by omega, by omega⟩]
        omega
      all_goals
        have g : ¬ (i : Int) < (t.size : Int) := of_decide_eq_false g
        have e1 : t.data.toList.take i = t.data.toList := List.take_of_length_le (by omega)
        have e2 : expoD t.data.toList = some ((valD t.data.toList : Nat) : Int) := if_pos ⟨hD, by omega, by omega⟩
      · show IntKind.i64.wrap (sg * (valD (List.take i t.data.toList) : Int)) = (expo s.data.toList).getD 0
        have hle := expoD_le e2
        rw [e1, he, e2, IntWalk.i64_in _ ⟨by rcases hsg with rfl | rfl <;> omega, by rcases hsg with rfl | rfl <;> omega⟩]
        rfl
      · show (expo s.data.toList).isSome = true
        rw [he, e2]; rfl
noncomputable def Fc5 : Table := addS 78 (.cons .str .nil) (fun s => (.tuple (.cons (.int .i64 fun _ => (expo (s ()).data.toList).getD 0) (.cons (.bool fun _ => (expo (s ()).data.toList).isSome) .nil)), [fun _ => (s ()).size < 2147483648])) Fc4
theorem Fc5_ok : TableOK Tryd.prog G0 Fc5 := addS_ok (⟨Tryd.func78, rfl, rfl, rfl, ⟨rfl, rfl⟩, ok _⟩ : FN 78 Tryd.f78).callable (fun s h => exponent_ok (s ()) h.1) Fc4_ok
def sclS (l : List UInt8) : ByteArray := match sufs.find? (fun x => x.1 == l) with
  | some x => toB x.1
  | none => ByteArray.empty
def sclP (l : List UInt8) : PV := .tuple (.cons (.agg (.cons (.str fun _ => sclS l) (.cons (.int .i64 fun _ => ((scl l).map (·.1)).getD 0) (.cons (.int .i64 fun _ => (((scl l).map (·.2)).getD 0 : Nat)) .nil)))) (.cons (.bool fun _ => (scl l).isSome) .nil))
def scA (s : ByteArray) (i : Nat) : Env := [(10, .int .i64 fun _ => (i : Int)), (9, .int .i64 fun _ => 16), (8, (.slice none 3 (fun _ => 16) fun j => .agg (.cons (.str fun _ => toB (sufG (j ()).toNat).1) (.cons (.int .i64 fun _ => (sufG (j ()).toNat).2.1) (.cons (.int .i64 fun _ => ((sufG (j ()).toNat).2.2 : Nat)) .nil))))), (2, .ptr 0 0), (0, .str fun _ => s)]
def scS : Store := [(0, .var (.agg (.cons (.str fun _ => ByteArray.empty) (.cons (.int .i64 fun _ => 0) (.cons (.int .i64 fun _ => 0) .nil)))))]
theorem find_at {α : Type} {l : List α} {p : α → Bool} {i : Nat} (h : i < l.length) (hn : (l.take i).find? p = none) : (p l[i] = true → l.find? p = some l[i]) ∧ (p l[i] = false → (l.take (i + 1)).find? p = none) := by
  constructor
  · intro hp
    conv => lhs; rw [← List.take_append_drop i l, List.find?_append, hn, List.drop_eq_getElem_cons h]
    rw [List.find?_cons, hp]; rfl
  · intro hp
    rw [List.take_add_one, List.find?_append, hn, List.getElem?_eq_getElem h, Option.toList_some, List.find?_cons, hp]; rfl
theorem sufG_at {i : Nat} (h : i < sufs.length) : sufG i = sufs[i] := by
  unfold sufG
  rw [List.getD_eq_getElem?_getD, List.getElem?_eq_getElem h]; rfl
theorem scale_ok (s : ByteArray) (hs : s.size < 2147483648) : PF 53 (.cons (.str fun _ => s) .nil) (sclP s.data.toList) := by
  refine (⟨Tryd.func53, rfl, rfl, rfl, ⟨rfl, rfl⟩, ok _⟩ : FN 53 Tryd.f53).tree (mkO_ok Fc5_ok) false 40 rfl ?_
  conv => arg 5; cbv
  refine run_inv (ι := Nat) (fun i => 16 - i) (fun i => i ≤ 16 ∧ (sufs.take i).find? (fun x => x.1 == s.data.toList) = none) (scA s) (fun _ => scS) 1 0 (fun i => i) (by rfl) (by rfl) ⟨Nat.zero_le _, rfl⟩ ?_ ⟨impP_refl _, impP_refl _, impP_refl _, impP_refl _, impP_refl _, trivial⟩ ⟨impP_refl _, trivial⟩
  intro i hi ih
  have hst := size_toB s
  refine explore_ok (ok _) (mkO_ok Fc5_ok) (u := false) 20 _ rfl ?_
  conv => arg 5; cbv
  refine ⟨fun g => ?_, fun g => ?_⟩
  · have g : (i : Int) < 16 := of_decide_eq_true g
    have hlt : i < sufs.length := by show i < 16; omega
    obtain ⟨f1, f2⟩ := find_at (p := fun x => x.1 == s.data.toList) hlt hi.2
    have hel := sufG_at hlt
    have hw : IntKind.i64.wrap ((i : Int) + 1) = ((i + 1 : Nat) : Int) := by rw [IntWalk.i64_in _ ⟨by omega, by omega⟩]; omega
    refine ⟨⟨⟨(by (try dsimp only); (try simp only [cast_fold, Int.ofNat_eq_natCast]); omega), g⟩, trivial⟩, fun g2 => ?_, fun g2 => ih (i + 1) (fun i => i) ⟨by omega, f2 ?_⟩ (by omega) (by rfl) ⟨⟨rfl, hw⟩, impP_refl _, impP_refl _, impP_refl _, impP_refl _, trivial⟩ ⟨impP_refl _, trivial⟩⟩
    · have g2 : toB (sufG i).1 = s := of_decide_eq_true g2
      rw [hel] at g2
      have hp : (sufs[i].1 == s.data.toList) = true := by rw [← g2]; simp [toB]
      have hf := f1 hp
      have h1 : scl s.data.toList = some sufs[i].2 := by unfold scl; rw [hf]
      have h2 : sclS s.data.toList = toB sufs[i].1 := by unfold sclS; rw [hf]
      refine ⟨rfl, ⟨?_, ⟨rfl, ?_⟩, ⟨rfl, ?_⟩, rfl⟩, ?_, rfl⟩
      · show toB (sufG i).1 = sclS s.data.toList
        rw [hel, h2]
      · show (sufG i).2.1 = _
        rw [hel, h1]; rfl
      · show ((sufG i).2.2 : Int) = _
        rw [hel, h1]; rfl
      · show (scl s.data.toList).isSome = true
        rw [h1]; rfl
    · have g2 : ¬ toB (sufG i).1 = s := of_decide_eq_false g2
      rw [hel] at g2
      refine Bool.eq_false_iff.2 fun hc => g2 ?_
      rw [eq_of_beq hc, toB_data]
  · have g : ¬ (i : Int) < 16 := of_decide_eq_false g
    have hn : sufs.find? (fun x => x.1 == s.data.toList) = none := by
      have := hi.2
      rwa [List.take_of_length_le (by show 16 ≤ i; omega)] at this
    have hS : sclS s.data.toList = ByteArray.empty := by unfold sclS; rw [hn]
    have hno : scl s.data.toList = none → impP (.tuple (.cons (.agg (.cons (.str fun _ => ByteArray.empty) (.cons (.int .i64 fun _ => 0) (.cons (.int .i64 fun _ => 0) .nil)))) (.cons .ff .nil))) (sclP s.data.toList) := fun h => by
      unfold sclP
      rw [hS, h]
      exact ⟨⟨rfl, ⟨rfl, rfl⟩, ⟨rfl, rfl⟩, rfl⟩, rfl, rfl⟩
    have hyes : ∀ (c : UInt8) (r : List UInt8), s.data.toList = c :: r → c = 101 ∨ c = 69 → impP (.tuple (.cons (.agg (.cons (.str fun _ => ByteArray.empty) (.cons (.int .i64 fun _ => (expo (s.extract 1 s.size).data.toList).getD 0) (.cons (.int .i64 fun _ => 0) .nil)))) (.cons (.bool fun _ => (expo (s.extract 1 s.size).data.toList).isSome) .nil))) (sclP s.data.toList) := fun c r h hc => by
      have e : scl s.data.toList = (expo r).map fun n => (n, 0) := by unfold scl; rw [hn, h]; simp only; rw [if_pos hc]
      obtain ⟨c1, _, _⟩ := cut_one h
      have c2 : (toB r).data.toList = r := rfl
      unfold sclP
      rw [hS, e, c1, c2]
      cases expo r with
      | none => exact ⟨⟨rfl, ⟨rfl, rfl⟩, ⟨rfl, rfl⟩, rfl⟩, rfl, rfl⟩
      | some n => exact ⟨⟨rfl, ⟨rfl, rfl⟩, ⟨rfl, rfl⟩, rfl⟩, rfl, rfl⟩
    have hpos : ¬ s = (⟨#[]⟩ : ByteArray) → 0 < s.size := fun h => by
      rw [← hst]
      refine List.length_pos_iff.2 fun hc => h ?_
      rw [← toB_data s, hc]; rfl
    refine ⟨fun g2 => ?_, fun g2 => ⟨rfl, hno ?_⟩⟩
    · have hp := hpos (of_decide_eq_true g2)
      obtain ⟨c, c1, c2, c3, c4⟩ := atB (s := s) (n := 0) hp
      have c2 : byteAt s 0 = (c.toNat : Int) := c2
      have c3 : s.data.toList = c :: s.data.toList.drop 1 := c3
      obtain ⟨d1, d2, d3⟩ := cut_one c3
      have hp2 : 0 ≤ (0 : Int) ∧ (0 : Int) < (s.size : Int) := ⟨Int.le_refl _, by omega⟩
      have hk : (s.extract (Int.toNat 1) (s.size : Int).toNat).size < 2147483648 := by
        show (s.extract 1 s.size).size < 2147483648
        rw [d1]; omega
      have hb : ∀ k : Nat, k < 256 → (byteAt s 0 = (k : Int) ↔ c = UInt8.ofNat k) := fun k hk => by
        rw [c2]
        constructor
        · intro h
          have : c.toNat = k := by omega
          rw [← this]; simp
        · rintro rfl
          rw [UInt8.toNat_ofNat']; omega
      refine ⟨⟨hp2, trivial⟩, fun g3 => ⟨⟨⟨by decide, (by (try dsimp only); (try simp only [cast_fold, Int.ofNat_eq_natCast]); omega)⟩, hk, trivial⟩, rfl, hyes c _ c3 (.inl ((hb 101 (by omega)).1 (beqT g3)))⟩, fun g3 => ⟨⟨hp2, trivial⟩, fun g4 => ⟨⟨⟨by decide, (by (try dsimp only); (try simp only [cast_fold, Int.ofNat_eq_natCast]); omega)⟩, hk, trivial⟩, rfl, hyes c _ c3 (.inr ((hb 69 (by omega)).1 (beqT g4)))⟩, fun g4 => ⟨rfl, hno ?_⟩⟩⟩
      unfold scl
      rw [hn, c3]
      simp only
      exact if_neg fun hc => by
        rcases hc with hc | hc
        · exact beqF g3 ((hb 101 (by omega)).2 hc)
        · exact beqF g4 ((hb 69 (by omega)).2 hc)
    · have : s = (⟨#[]⟩ : ByteArray) := Classical.byContradiction fun hc => of_decide_eq_false g2 hc
      subst this
      cases hn
noncomputable def Fc6 : Table := addS 53 (.cons .str .nil) (fun s => (.tuple (.cons (.agg (.cons (.str fun _ => sclS (s ()).data.toList) (.cons (.int .i64 fun _ => ((scl (s ()).data.toList).map (·.1)).getD 0) (.cons (.int .i64 fun _ => (((scl (s ()).data.toList).map (·.2)).getD 0 : Nat)) .nil)))) (.cons (.bool fun _ => (scl (s ()).data.toList).isSome) .nil)), [fun _ => (s ()).size < 2147483648])) Fc5
theorem Fc6_ok : TableOK Tryd.prog G0 Fc6 := addS_ok (⟨Tryd.func53, rfl, rfl, rfl, ⟨rfl, rfl⟩, ok _⟩ : FN 53 Tryd.f53).callable (fun s h => scale_ok (s ()) h.1) Fc5_ok
end Go.Proofs.YtdikfhjpnfffnacDoor
