/- THE DOCUMENT's SETS FROM TEXTS. -/
import Derived.Test.YtdikfhjpnfffnabDoorCsQ
import Derived.Test.YtdikfhjpnfffnabDoorCsP
import Derived.Test.YtdikfhjpnfffnabDoorGc
set_option maxRecDepth 2000
set_option linter.unusedVariables false
set_option linter.unusedSimpArgs false
set_option linter.unusedVariables false
set_option linter.unusedSimpArgs false
namespace Go.Proofs.YtdikfhjpnfffnabDoor
open Go Go.Abs Go.Proofs
theorem cutB_spB (x : ByteArray) : (∃ w, spB 45 x = [w] ∧ cutB x dash = (w, ByteArray.empty, false)) ∨ ∃ (w t : ByteArray) (r : List ByteArray), spB 45 x = w :: r ∧ r = spB 45 t ∧ cutB x dash = (w, t, true) := by
  have e : dash.data.toList = [45] := rfl
  rcases cut_spL 45 x.data.toList with ⟨h1, h2⟩ | ⟨p, t, h1, h2⟩
  · refine .inl ⟨toB x.data.toList, by unfold spB; rw [h1]; rfl, ?_⟩
    unfold cutB
    rw [e, h2]; rfl
  · refine .inr ⟨toB p, toB t, spB 45 (toB t), ?_, rfl, ?_⟩
    · unfold spB
      rw [h1]; rfl
    · unfold cutB
      rw [e, h2]; rfl
theorem numE_cases (w : ByteArray) : (numR w < 0 ∧ numE w = 11 ∧ numV w = 0) ∨ (0 ≤ numR w ∧ numR w < 256 ∧ numE w = 0 ∧ numV w = numR w) ∨ (256 ≤ numR w ∧ numE w = 15 ∧ numV w = 0) := by
  have hr := numR_range w
  by_cases h : numR w < 0
  · have := numV_form (s := w) (by omega)
    exact .inl ⟨h, this.2, this.1⟩
  · by_cases h2 : numR w < 256
    · have := numV_ok (s := w) (by omega) h2
      exact .inr (.inl ⟨by omega, h2, this.2, this.1⟩)
    · have := numV_over (s := w) (by omega)
      exact .inr (.inr ⟨by omega, this.2, this.1⟩)
theorem dash_no {t : ByteArray} (h : 45 ∈ t.data.toList) : numR t = -1 := by
  obtain ⟨i, hi⟩ := List.getElem?_of_mem h
  have hlt : i < t.size := by
    have := (List.getElem?_eq_some_iff.1 hi).1
    rwa [show t.data.toList.length = t.size from bsize t] at this
  refine numR_dig (i := i) hlt ?_
  unfold isDig byteAt
  rw [Int.toNat_natCast, List.getD_eq_getElem?_getD, hi]
  rfl
/-- What a part is, by its pieces. -/
theorem part_pieces (x : ByteArray) : 0 < (spB 45 x).length ∧
    ((spB 45 x).length = 1 → partS x = part3 ((spB 45 x).getD 0 ByteArray.empty) ((spB 45 x).getD 0 ByteArray.empty) false) ∧
    ((spB 45 x).length = 2 → partS x = part3 ((spB 45 x).getD 0 ByteArray.empty) ((spB 45 x).getD 1 ByteArray.empty) true) ∧
    (2 < (spB 45 x).length → (partS x).2.2 = 11) := by
  rcases cutB_spB x with ⟨w, h1, h2⟩ | ⟨w, t, r, h1, h2, h3⟩
  · rw [h1]
    refine ⟨by simp, fun _ => ?_, fun h => by simp at h, fun h => by simp at h⟩
    unfold partS
    rw [h2]; rfl
  · have hr : r ≠ [] := by
      rw [h2]; unfold spB
      intro e
      exact spL_ne 45 _ (List.map_eq_nil_iff.1 e)
    rw [h1]
    refine ⟨by simp, fun h => ?_, fun h => ?_, fun h => ?_⟩
    · exact absurd (List.length_eq_zero_iff.1 (by simpa using h)) hr
    · unfold partS
      rw [h3]
      have hr1 : r.length = 1 := by simpa using h
      obtain ⟨z, hz⟩ := List.length_eq_one_iff.1 hr1
      have : z = t := by
        rw [h2] at hz
        unfold spB at hz
        obtain ⟨q, hq, hqz⟩ := List.map_eq_singleton_iff.1 hz
        rcases cut_spL 45 t.data.toList with ⟨g1, _⟩ | ⟨p', t', g1, _⟩
        · rw [hq] at g1
          have := (List.cons.inj g1).1
          rw [← hqz, this, toB_data]
        · rw [hq] at g1
          exact absurd (List.cons.inj g1).2.symm (spL_ne 45 _)
      rw [hz, this]; rfl
    · unfold partS
      rw [h3]
      have hm : numR t = -1 := by
        apply dash_no
        rw [h2] at h
        unfold spB at h
        simp only [List.length_cons, List.length_map] at h
        cases hs : spL 45 t.data.toList with
        | nil => rw [hs] at h; simp at h
        | cons y ys =>
          cases ys with
          | nil => rw [hs] at h; simp at h
          | cons z zs => exact spL_has hs
      have hE := (numV_form hm).2
      unfold part3
      simp only [Bool.not_true, cond_false, hE, beq_self_eq_true, cond_true]
      cases numE w == 11 <;> rfl
theorem part3_two {a b : ByteArray} : part3 a b true = if numR a < 0 ∨ numR b < 0 then (0, 0, 11) else if 255 < numR a ∨ 255 < numR b then (0, 0, 15) else if numR b ≤ numR a then (0, 0, 11) else (numR a, numR b, 0) := by
  unfold part3
  rcases numE_cases a with ⟨h1, h2, h3⟩ | ⟨h1, h1', h2, h3⟩ | ⟨h1, h2, h3⟩ <;> rcases numE_cases b with ⟨g1, g2, g3⟩ | ⟨g1, g1', g2, g3⟩ | ⟨g1, g2, g3⟩ <;> simp only [h2, h3, g2, g3, Bool.not_true, cond_false]
  · simp [h1]
  · simp [h1]
  · simp [h1]
  · simp [g1]
  · rw [if_neg (by omega), if_neg (by omega)]
    by_cases h : numR b ≤ numR a
    · rw [if_pos h]; simp [h]
    · rw [if_neg h]; simp [h]
  · rw [if_neg (by omega), if_pos (by omega)]; rfl
  · simp [g1]
  · rw [if_neg (by omega), if_pos (by omega)]; rfl
  · rw [if_neg (by omega), if_pos (by omega)]; rfl
theorem part3_one {a b : ByteArray} : part3 a b false = if numR a < 0 then (0, 0, 11) else if 255 < numR a then (0, 0, 15) else (numR a, numR a, 0) := by
  unfold part3
  rcases numE_cases a with ⟨h1, h2, h3⟩ | ⟨h1, h1', h2, h3⟩ | ⟨h1, h2, h3⟩ <;> simp only [h2, h3, Bool.not_false, cond_true]
  · simp [h1]
  · rw [if_neg (by omega), if_neg (by omega)]
  · rw [if_neg (by omega), if_pos (by omega)]
theorem parseL_err {x : ByteArray} {r : List ByteArray} {p : Nat → Bool} {e : Int} (h : (partS x).2.2 = e) (he : e ≠ 0) : parseL (x :: r) p = ([0, 0, 0, 0], e) := by
  rw [parseL_stop (by rw [h]; simpa using he), h]
theorem set_map {f g : Nat → Bool} {j : Int} (hj : 0 ≤ j ∧ j < 256) (h : ∀ k, k < 256 → g k = (f k || decide ((k : Int) = j))) : ((List.range 256).map f).set j.toNat true = (List.range 256).map g := by
  apply List.ext_getElem?
  intro k
  rw [List.getElem?_set, List.getElem?_map, List.getElem?_map]
  by_cases hk : k < 256
  · rw [List.getElem?_range hk, Option.map_some, Option.map_some, h k hk]
    by_cases e : j.toNat = k
    · rw [if_pos e, if_pos (by rw [List.length_map, List.length_range]; omega), show decide ((k : Int) = j) = true by simp only [decide_eq_true_eq]; omega, Bool.or_true]
    · rw [if_neg e, show decide ((k : Int) = j) = false by simp only [decide_eq_false_iff_not]; omega, Bool.or_false]
  · rw [List.getElem?_eq_none (by rw [List.length_range]; omega), if_neg (by omega)]; rfl
theorem setOf_lst (f : Nat → Bool) : setOf (fun i => ((List.range 256).map f).getD i false) = setOf f := setOf_ext fun i hi => map_get hi
noncomputable def Fu1 : Table := addS 14 (.cons (.arrB 256) .nil) (fun l => (.arrI .u64 4 fun _ => setOf fun i => List.getD (α := Bool) (l ()) i false, [])) Fq1
theorem Fu1_ok : TableOK Tryd.prog G0 Fu1 := addS_ok (⟨Tryd.func14, rfl, rfl, rfl, ⟨rfl, rfl⟩, ok _⟩ : FN 14 Tryd.f14).callable (fun l _ _ => refSet_ok (l ())) Fq1_ok
def upA (l : List ByteArray) (i : Int) : Env := [(21, .int .i64 fun _ => i), (20, .int .i64 fun _ => (l.length : Int)), (19, Sh.mkL 1 .str fun _ => l), (4, .ptr 1 0), (3, .int .i64 fun _ => 0), (2, .ptr 0 0)]
def upS (p : Nat → Bool) : Store := [(1, .var (.arrB 256 fun _ => (List.range 256).map p)), (0, .var (.arrI .u64 4 fun _ => List.replicate 4 0))]
def upB (l : List ByteArray) (i a b : Int) : Env := [(10, .int .i64 fun _ => a), (9, .int .i64 fun _ => b), (8, .int .i64 fun _ => a), (21, .int .i64 fun _ => i), (20, .int .i64 fun _ => (l.length : Int)), (19, Sh.mkL 1 .str fun _ => l), (4, .ptr 1 0), (3, .int .i64 fun _ => 0), (2, .ptr 0 0)]
def upC (l : List ByteArray) (i a b j : Int) : Env := [(10, .int .i64 fun _ => j), (9, .int .i64 fun _ => b), (8, .int .i64 fun _ => a), (21, .int .i64 fun _ => i), (20, .int .i64 fun _ => (l.length : Int)), (19, Sh.mkL 1 .str fun _ => l), (4, .ptr 1 0), (3, .int .i64 fun _ => 0), (2, .ptr 0 0)]
def upD (l : List ByteArray) (i a b j : Int) : Env := [(11, .int .i64 fun _ => j), (9, .int .i64 fun _ => b), (8, .int .i64 fun _ => a), (21, .int .i64 fun _ => i), (20, .int .i64 fun _ => (l.length : Int)), (19, Sh.mkL 1 .str fun _ => l), (4, .ptr 1 0), (3, .int .i64 fun _ => 0), (2, .ptr 0 0)]
theorem refParse_ok (s : ByteArray) (hs : s.size < 4294967281) : PF 9 (.cons (.str fun _ => s) .nil) (.tuple (.cons (.arrI .u64 4 fun _ => (parseS s).1) (.cons (.int .i64 fun _ => (parseS s).2) .nil))) := by
  have hl : (Lib.splitB comma 0 (Lib.countB s comma) s).length ≤ 4294967281 := by
    have h1 : 1 ≤ comma.size := Nat.le_refl _
    rw [Lib.splitB_all comma h1 0 _ s rfl]
    have := Lib.countB_le comma h1 _ s (Nat.le_refl _)
    omega
  have hsz : ∀ x ∈ Lib.splitB comma 0 (Lib.countB s comma) s, x.size < 4294967281 := fun x hx => Nat.lt_of_le_of_lt (splitB_size comma _ s x hx) hs
  refine (⟨Tryd.func9, rfl, rfl, rfl, ⟨rfl, rfl⟩, ok _⟩ : FN 9 Tryd.f9).tree (mkO_ok Fu1_ok) false 40 rfl ?_
  conv => arg 5; cbv
  refine ⟨fun h1 => ?_, fun h1 => ⟨fun h2 => ?_, fun h2 => ⟨⟨⟨by decide, hs⟩, trivial⟩, ?_⟩⟩⟩
  · have e : parseS s = ([0, 0, 0, 0], 10) := by
      unfold parseS
      rw [show decide (s = ⟨#[]⟩) = true from h1]; rfl
    rw [e]
    exact ⟨rfl, ⟨rfl, rfl, rfl⟩, ⟨rfl, rfl⟩, rfl⟩
  · have e : parseS s = ([0, 0, 0, 0], 0) := by
      unfold parseS
      rw [show decide (s = ⟨#[]⟩) = false from h1, show decide (s = dash) = true from h2]; rfl
    rw [e]
    exact ⟨rfl, ⟨rfl, rfl, rfl⟩, ⟨rfl, rfl⟩, rfl⟩
  · have e : parseS s = parseL (Lib.splitB comma 0 (Lib.countB s comma) s) fun _ => false := by
      unfold parseS
      rw [show decide (s = ⟨#[]⟩) = false from h1, show decide (s = dash) = false from h2]
      rfl
    rw [e]
    have hsp : spB (UInt8.ofNat (Int.toNat 44)) s = Lib.splitB comma 0 (Lib.countB s comma) s := (split_spB 44 s).symm
    obtain ⟨l, hle⟩ : ∃ l, l = Lib.splitB comma 0 (Lib.countB s comma) s := ⟨_, rfl⟩
    have h0 : impP (Sh.mkL 1 .str fun _ => spB (UInt8.ofNat (Int.toNat 44)) s) (Sh.mkL 1 .str fun _ => l) := by rw [hle, hsp]; exact impP_refl _
    have h00 : (fun x => ((spB (UInt8.ofNat (Int.toNat 44)) s).length : Int)) () = (fun x => (l.length : Int)) () := by rw [hle, hsp]
    rw [← hle] at hl hsz ⊢
    generalize hq : parseL l (fun _ => false) = q
    refine run_inv (ι := Int × (Nat → Bool)) (fun i => (l.length - i.1).toNat) (fun i => 0 ≤ i.1 ∧ i.1 ≤ l.length ∧ parseL (l.drop i.1.toNat) i.2 = q) (fun i => upA l i.1) (fun i => upS i.2) 2 (0, fun _ => false) (fun i => i) (by rfl) (by rfl) ⟨by omega, by omega, hq⟩ ?_ ?_ ?_
    · intro i hi ih
      by_cases h : i.1 < l.length
      · refine exploreD_ok (ok _) (mkO_ok Fu1_ok) (u := false) 20 (.yes .any) _ rfl ?_
        conv => arg 5; cbv
        have hx : l[i.1.toNat]? = some (l.getD i.1.toNat ByteArray.empty) := by rw [List.getD_eq_getElem?_getD, List.getElem?_eq_getElem (by omega)]; rfl
        obtain ⟨x, hxe⟩ : ∃ x, x = l.getD i.1.toNat ByteArray.empty := ⟨_, rfl⟩
        rw [← hxe] at hx
        have hd : l.drop i.1.toNat = x :: l.drop (i.1 + 1).toNat := by
          rw [show (i.1 + 1).toNat = i.1.toNat + 1 by omega, ← List.getElem_cons_drop (by omega : i.1.toNat < l.length)]
          rw [List.getElem?_eq_getElem (by omega)] at hx
          rw [Option.some.inj hx]
        have hmem : x ∈ l := List.mem_of_getElem? hx
        have hi3 := hi.2.2
        rw [hd] at hi3
        have hszx := hsz x hmem
        have hpp := part_pieces x
        subst hxe
        obtain ⟨pp0, pp1, pp2, pp3⟩ := hpp
        rw [part3_one] at pp1
        rw [part3_two] at pp2
        refine ⟨⟨decide_eq_true h, trivial⟩, ⟨⟨hi.1, h⟩, ⟨⟨by decide, hszx⟩, ⟨Int.le_refl 0, by show (0 : Int) < ((spB 45 (l.getD i.1.toNat ByteArray.empty)).length : Int); omega⟩, trivial⟩⟩, ?_⟩
        refine tree_if ((partS (l.getD i.1.toNat ByteArray.empty)).2.2 = 0) (upB l i.1 (partS (l.getD i.1.toNat ByteArray.empty)).1 (partS (l.getD i.1.toNat ByteArray.empty)).2.1) (upS i.2) 2 (by rfl) ?_ ?_
        · refine ⟨fun g => ?_, fun g => ?_⟩
          · have g : (spB 45 (l.getD i.1.toNat ByteArray.empty)).length = 2 := by
              have : (((spB 45 (l.getD i.1.toNat ByteArray.empty)).length : Int) == 2) = true := g
              have : ((spB 45 (l.getD i.1.toNat ByteArray.empty)).length : Int) = 2 := by simpa using this
              omega
            have pp2 := pp2 g
            refine ⟨⟨⟨by decide, by show (1 : Int) < ((spB 45 (l.getD i.1.toNat ByteArray.empty)).length : Int); omega⟩, trivial⟩, fun g2 => ?_, fun _ => ⟨fun ga => ?_, fun ga => ⟨fun gb => ?_, fun gb => ⟨fun gc => ?_, fun gc => ⟨fun gd => ?_, fun gd => ⟨fun _ => ⟨fun ge => ?_, fun ge => ⟨?_, rfl, fun i => i, by rfl, ?_, ?_⟩⟩, fun g5 => ?_⟩⟩⟩⟩⟩⟩
            · have g2 : (2 : Int) < ((spB 45 (l.getD i.1.toNat ByteArray.empty)).length : Int) := of_decide_eq_true g2
              omega
            · have ga : numR ((spB 45 (l.getD i.1.toNat ByteArray.empty)).getD 0 ByteArray.empty) < 0 := of_decide_eq_true ga
              have pp := pp2
              rw [if_pos (.inl ga)] at pp
              rw [parseL_err (e := 11) (by rw [pp]) (by decide)] at hi3
              rw [← hi3]
              exact ⟨rfl, ⟨rfl, rfl, rfl⟩, ⟨rfl, rfl⟩, rfl⟩
            · have gb : numR ((spB 45 (l.getD i.1.toNat ByteArray.empty)).getD 1 ByteArray.empty) < 0 := of_decide_eq_true gb
              have pp := pp2
              rw [if_pos (.inr gb)] at pp
              rw [parseL_err (e := 11) (by rw [pp]) (by decide)] at hi3
              rw [← hi3]
              exact ⟨rfl, ⟨rfl, rfl, rfl⟩, ⟨rfl, rfl⟩, rfl⟩
            · have ga : ¬ numR ((spB 45 (l.getD i.1.toNat ByteArray.empty)).getD 0 ByteArray.empty) < 0 := of_decide_eq_false ga
              have gb : ¬ numR ((spB 45 (l.getD i.1.toNat ByteArray.empty)).getD 1 ByteArray.empty) < 0 := of_decide_eq_false gb
              have gc : 255 < numR ((spB 45 (l.getD i.1.toNat ByteArray.empty)).getD 0 ByteArray.empty) := of_decide_eq_true gc
              have pp := pp2
              rw [if_neg (by omega), if_pos (.inl gc)] at pp
              rw [parseL_err (e := 15) (by rw [pp]) (by decide)] at hi3
              rw [← hi3]
              exact ⟨rfl, ⟨rfl, rfl, rfl⟩, ⟨rfl, rfl⟩, rfl⟩
            · have ga : ¬ numR ((spB 45 (l.getD i.1.toNat ByteArray.empty)).getD 0 ByteArray.empty) < 0 := of_decide_eq_false ga
              have gb : ¬ numR ((spB 45 (l.getD i.1.toNat ByteArray.empty)).getD 1 ByteArray.empty) < 0 := of_decide_eq_false gb
              have gd : 255 < numR ((spB 45 (l.getD i.1.toNat ByteArray.empty)).getD 1 ByteArray.empty) := of_decide_eq_true gd
              have pp := pp2
              rw [if_neg (by omega), if_pos (.inr gd)] at pp
              rw [parseL_err (e := 15) (by rw [pp]) (by decide)] at hi3
              rw [← hi3]
              exact ⟨rfl, ⟨rfl, rfl, rfl⟩, ⟨rfl, rfl⟩, rfl⟩
            · have ga : ¬ numR ((spB 45 (l.getD i.1.toNat ByteArray.empty)).getD 0 ByteArray.empty) < 0 := of_decide_eq_false ga
              have gb : ¬ numR ((spB 45 (l.getD i.1.toNat ByteArray.empty)).getD 1 ByteArray.empty) < 0 := of_decide_eq_false gb
              have gc : ¬ 255 < numR ((spB 45 (l.getD i.1.toNat ByteArray.empty)).getD 0 ByteArray.empty) := of_decide_eq_false gc
              have gd : ¬ 255 < numR ((spB 45 (l.getD i.1.toNat ByteArray.empty)).getD 1 ByteArray.empty) := of_decide_eq_false gd
              have ge : numR ((spB 45 (l.getD i.1.toNat ByteArray.empty)).getD 1 ByteArray.empty) ≤ numR ((spB 45 (l.getD i.1.toNat ByteArray.empty)).getD 0 ByteArray.empty) := of_decide_eq_true ge
              have pp := pp2
              rw [if_neg (by omega), if_neg (by omega), if_pos ge] at pp
              rw [parseL_err (e := 11) (by rw [pp]) (by decide)] at hi3
              rw [← hi3]
              exact ⟨rfl, ⟨rfl, rfl, rfl⟩, ⟨rfl, rfl⟩, rfl⟩
            · have ga : ¬ numR ((spB 45 (l.getD i.1.toNat ByteArray.empty)).getD 0 ByteArray.empty) < 0 := of_decide_eq_false ga
              have gb : ¬ numR ((spB 45 (l.getD i.1.toNat ByteArray.empty)).getD 1 ByteArray.empty) < 0 := of_decide_eq_false gb
              have gc : ¬ 255 < numR ((spB 45 (l.getD i.1.toNat ByteArray.empty)).getD 0 ByteArray.empty) := of_decide_eq_false gc
              have gd : ¬ 255 < numR ((spB 45 (l.getD i.1.toNat ByteArray.empty)).getD 1 ByteArray.empty) := of_decide_eq_false gd
              have ge : ¬ numR ((spB 45 (l.getD i.1.toNat ByteArray.empty)).getD 1 ByteArray.empty) ≤ numR ((spB 45 (l.getD i.1.toNat ByteArray.empty)).getD 0 ByteArray.empty) := of_decide_eq_false ge
              have pp := pp2
              rw [if_neg (by omega), if_neg (by omega), if_neg ge] at pp
              rw [pp]
            · have ga : ¬ numR ((spB 45 (l.getD i.1.toNat ByteArray.empty)).getD 0 ByteArray.empty) < 0 := of_decide_eq_false ga
              have gb : ¬ numR ((spB 45 (l.getD i.1.toNat ByteArray.empty)).getD 1 ByteArray.empty) < 0 := of_decide_eq_false gb
              have gc : ¬ 255 < numR ((spB 45 (l.getD i.1.toNat ByteArray.empty)).getD 0 ByteArray.empty) := of_decide_eq_false gc
              have gd : ¬ 255 < numR ((spB 45 (l.getD i.1.toNat ByteArray.empty)).getD 1 ByteArray.empty) := of_decide_eq_false gd
              have ge : ¬ numR ((spB 45 (l.getD i.1.toNat ByteArray.empty)).getD 1 ByteArray.empty) ≤ numR ((spB 45 (l.getD i.1.toNat ByteArray.empty)).getD 0 ByteArray.empty) := of_decide_eq_false ge
              have pp := pp2
              rw [if_neg (by omega), if_neg (by omega), if_neg ge] at pp
              rw [pp]
              exact ⟨⟨rfl, rfl⟩, ⟨rfl, rfl⟩, ⟨rfl, rfl⟩, impP_refl _, impP_refl _, impP_refl _, impP_refl _, impP_refl _, impP_refl _, trivial⟩
            · exact ⟨impP_refl _, impP_refl _, trivial⟩
            · have g5 : (((spB 45 (l.getD i.1.toNat ByteArray.empty)).length : Int) == 2) = false := g5
              rw [g] at g5; cases g5
          · have g : (spB 45 (l.getD i.1.toNat ByteArray.empty)).length ≠ 2 := by
              have : (((spB 45 (l.getD i.1.toNat ByteArray.empty)).length : Int) == 2) = false := g
              have : ((spB 45 (l.getD i.1.toNat ByteArray.empty)).length : Int) ≠ 2 := by simpa using this
              omega
            refine ⟨fun g2 => ?_, fun g2 => ⟨fun ga => ?_, fun ga => ⟨fun gb => absurd (ga.symm.trans gb) Bool.noConfusion, fun _ => ⟨fun gc => ?_, fun gc => ⟨fun gd => absurd (gc.symm.trans gd) Bool.noConfusion, fun _ => ⟨fun g5 => ?_, fun g5 => ⟨?_, rfl, fun i => i, by rfl, ?_, ?_⟩⟩⟩⟩⟩⟩⟩
            · have g2 : (2 : Int) < ((spB 45 (l.getD i.1.toNat ByteArray.empty)).length : Int) := of_decide_eq_true g2
              have pp := pp3 (by omega)
              rw [parseL_err (e := 11) pp (by decide)] at hi3
              rw [← hi3]
              exact ⟨rfl, ⟨rfl, rfl, rfl⟩, ⟨rfl, rfl⟩, rfl⟩
            · have g2 : ¬ (2 : Int) < ((spB 45 (l.getD i.1.toNat ByteArray.empty)).length : Int) := of_decide_eq_false g2
              have ga : numR ((spB 45 (l.getD i.1.toNat ByteArray.empty)).getD 0 ByteArray.empty) < 0 := of_decide_eq_true ga
              have pp := pp1 (by omega)
              rw [if_pos ga] at pp
              rw [parseL_err (e := 11) (by rw [pp]) (by decide)] at hi3
              rw [← hi3]
              exact ⟨rfl, ⟨rfl, rfl, rfl⟩, ⟨rfl, rfl⟩, rfl⟩
            · have g2 : ¬ (2 : Int) < ((spB 45 (l.getD i.1.toNat ByteArray.empty)).length : Int) := of_decide_eq_false g2
              have ga : ¬ numR ((spB 45 (l.getD i.1.toNat ByteArray.empty)).getD 0 ByteArray.empty) < 0 := of_decide_eq_false ga
              have gc : 255 < numR ((spB 45 (l.getD i.1.toNat ByteArray.empty)).getD 0 ByteArray.empty) := of_decide_eq_true gc
              have pp := pp1 (by omega)
              rw [if_neg ga, if_pos gc] at pp
              rw [parseL_err (e := 15) (by rw [pp]) (by decide)] at hi3
              rw [← hi3]
              exact ⟨rfl, ⟨rfl, rfl, rfl⟩, ⟨rfl, rfl⟩, rfl⟩
            · have g5 : (((spB 45 (l.getD i.1.toNat ByteArray.empty)).length : Int) == 2) = true := g5
              have : ((spB 45 (l.getD i.1.toNat ByteArray.empty)).length : Int) = 2 := by simpa using g5
              omega
            · have g2 : ¬ (2 : Int) < ((spB 45 (l.getD i.1.toNat ByteArray.empty)).length : Int) := of_decide_eq_false g2
              have ga : ¬ numR ((spB 45 (l.getD i.1.toNat ByteArray.empty)).getD 0 ByteArray.empty) < 0 := of_decide_eq_false ga
              have gc : ¬ 255 < numR ((spB 45 (l.getD i.1.toNat ByteArray.empty)).getD 0 ByteArray.empty) := of_decide_eq_false gc
              have pp := pp1 (by omega)
              rw [if_neg ga, if_neg gc] at pp
              rw [pp]
            · have g2 : ¬ (2 : Int) < ((spB 45 (l.getD i.1.toNat ByteArray.empty)).length : Int) := of_decide_eq_false g2
              have ga : ¬ numR ((spB 45 (l.getD i.1.toNat ByteArray.empty)).getD 0 ByteArray.empty) < 0 := of_decide_eq_false ga
              have gc : ¬ 255 < numR ((spB 45 (l.getD i.1.toNat ByteArray.empty)).getD 0 ByteArray.empty) := of_decide_eq_false gc
              have pp := pp1 (by omega)
              rw [if_neg ga, if_neg gc] at pp
              rw [pp]
              exact ⟨⟨rfl, rfl⟩, ⟨rfl, rfl⟩, ⟨rfl, rfl⟩, impP_refl _, impP_refl _, impP_refl _, impP_refl _, impP_refl _, impP_refl _, trivial⟩
            · exact ⟨impP_refl _, impP_refl _, trivial⟩
        · intro hpe
          have hr := partS_range (l.getD i.1.toNat ByteArray.empty)
          rw [parseL_on (x := (l.getD i.1.toNat ByteArray.empty)) (by rw [hpe]; rfl)] at hi3
          have hw : IntKind.i64.wrap (i.1 + 1) = i.1 + 1 := IntWalk.i64_in _ ⟨by omega, by omega⟩
          have hnx := fun (A1 : Env) (S1 : Store) (n1 : Nat) p' => ih (i.1 + 1, p') (fun i => i) (A1 := A1) (S1 := S1) (n1 := n1)
          generalize (partS (l.getD i.1.toNat ByteArray.empty)).1 = a at hr hi3 ⊢
          generalize (partS (l.getD i.1.toNat ByteArray.empty)).2.1 = b at hr hi3 ⊢
          refine run_inv (ι := Int) (fun j => (b + 1 - j).toNat) (fun j => a ≤ j ∧ (j ≤ b + 1 ∨ j = a) ∧ ∀ k : Nat, a ≤ k → (k : Int) < j → i.2 k = false) (fun j => upC l i.1 a b j) (fun _ => upS i.2) 2 a (fun i => i) (by rfl) (by rfl) ⟨by omega, .inr rfl, fun k h1 h2 => by omega⟩ ?_ ⟨impP_refl _, impP_refl _, impP_refl _, impP_refl _, impP_refl _, impP_refl _, impP_refl _, impP_refl _, impP_refl _, trivial⟩ ⟨impP_refl _, impP_refl _, trivial⟩
          intro j hj ihj
          refine explore_ok (ok _) (mkO_ok Fu1_ok) (u := false) 20 _ rfl ?_
          conv => arg 5; cbv
          refine ⟨fun h5 => ?_, fun h5 => ?_⟩
          · have h5 : j ≤ b := of_decide_eq_true h5
            have hj0 := hj.1
            have hrg : 0 ≤ j ∧ j < 256 := ⟨by omega, by omega⟩
            have hwj : IntKind.i64.wrap (j + 1) = j + 1 := IntWalk.i64_in _ ⟨by omega, by omega⟩
            have gp : ((List.range 256).map i.2).getD j.toNat false = i.2 j.toNat := map_get (by omega)
            refine ⟨⟨hrg, hrg, trivial⟩, fun h6 => ?_, fun h6 => ?_⟩
            · have h6 : ((List.range 256).map i.2).getD j.toNat false = true := h6
              rw [gp] at h6
              rw [show decide (setOf (fun i_1 => bitAt (setOf i.2) i_1 && bitAt (setOf (between a b)) i_1) = List.replicate 4 0) = false by
                rw [decide_eq_false_iff_not]
                intro e2
                rw [show List.replicate 4 (0 : Int) = [0, 0, 0, 0] from rfl, ← setOf_zero] at e2
                have := (setOf_inj.1 e2) j.toNat (by omega)
                rw [bitAt_setOf (by omega), bitAt_setOf (by omega), h6] at this
                simp only [between, inRange, Bool.true_and] at this
                simp at this
                omega] at hi3
              rw [← hi3]
              exact ⟨rfl, ⟨rfl, rfl, rfl⟩, ⟨rfl, rfl⟩, rfl⟩
            · have h6 : ((List.range 256).map i.2).getD j.toNat false = false := h6
              rw [gp] at h6
              refine ihj (j + 1) (fun i => i) ⟨by omega, .inl (by omega), fun k k1 k2 => ?_⟩ (by omega) (by rfl) ⟨⟨rfl, hwj⟩, impP_refl _, impP_refl _, impP_refl _, impP_refl _, impP_refl _, impP_refl _, impP_refl _, impP_refl _, trivial⟩ ⟨impP_refl _, impP_refl _, trivial⟩
              by_cases e2 : (k : Int) = j
              · rw [show k = j.toNat by omega]; exact h6
              · exact hj.2.2 k k1 (by omega)
          · have h5 : ¬ j ≤ b := of_decide_eq_false h5
            have hclr : decide (setOf (fun i_1 => bitAt (setOf i.2) i_1 && bitAt (setOf (between a b)) i_1) = List.replicate 4 0) = true := by
              rw [decide_eq_true_eq, show List.replicate 4 (0 : Int) = [0, 0, 0, 0] from rfl, ← setOf_zero]
              refine setOf_ext fun k hk => ?_
              rw [bitAt_setOf hk, bitAt_setOf hk]
              by_cases e2 : a ≤ (k : Int) ∧ (k : Int) ≤ b
              · rw [hj.2.2 k e2.1 (by omega)]; rfl
              · rw [show between a b k = false by
                  simp only [between, inRange, Bool.and_eq_false_iff, decide_eq_false_iff_not]; omega, Bool.and_false]
            rw [hclr] at hi3
            refine run_inv (ι := Int) (fun j => (b + 1 - j).toNat) (fun j => a ≤ j ∧ (j ≤ b + 1 ∨ j = a)) (fun j => upD l i.1 a b j) (fun j => upS fun k => i.2 k || (decide (a ≤ (k : Int)) && decide ((k : Int) < j))) 2 a (fun i => i) (by rfl) (by rfl) ⟨by omega, .inr rfl⟩ ?_ ⟨impP_refl _, impP_refl _, impP_refl _, impP_refl _, impP_refl _, impP_refl _, impP_refl _, impP_refl _, impP_refl _, trivial⟩ ⟨⟨rfl, ?_⟩, impP_refl _, trivial⟩
            · intro j hj ihj
              refine explore_ok (ok _) (mkO_ok Fu1_ok) (u := false) 20 _ rfl ?_
              conv => arg 5; cbv
              refine ⟨fun h6 => ?_, fun h6 => ?_⟩
              · have h6 : j ≤ b := of_decide_eq_true h6
                have hj0 := hj.1
                have hrg : 0 ≤ j ∧ j < 256 := ⟨by omega, by omega⟩
                have hwj : IntKind.i64.wrap (j + 1) = j + 1 := IntWalk.i64_in _ ⟨by omega, by omega⟩
                refine ⟨⟨hrg, hrg, trivial⟩, ihj (j + 1) (fun i => i) ⟨by omega, .inl (by omega)⟩ (by omega) (by rfl) ⟨⟨rfl, hwj⟩, impP_refl _, impP_refl _, impP_refl _, impP_refl _, impP_refl _, impP_refl _, impP_refl _, impP_refl _, trivial⟩ ⟨⟨rfl, ?_⟩, impP_refl _, trivial⟩⟩
                refine set_map hrg fun k hk => ?_
                show (i.2 k || (decide (a ≤ (k : Int)) && decide ((k : Int) < j + 1))) = ((i.2 k || (decide (a ≤ (k : Int)) && decide ((k : Int) < j))) || decide ((k : Int) = j))
                cases i.2 k with
                | true => simp
                | false =>
                  rw [Bool.false_or, Bool.false_or, Bool.eq_iff_iff]
                  simp only [Bool.or_eq_true, Bool.and_eq_true, decide_eq_true_eq]
                  omega
              · have h6 : ¬ j ≤ b := of_decide_eq_false h6
                refine ih (i.1 + 1, fun k => i.2 k || between a b k) (fun i => i) ⟨by show 0 ≤ i.1 + 1; omega, by show i.1 + 1 ≤ l.length; omega, hi3⟩ (by show ((l.length : Int) - (i.1 + 1)).toNat < _; omega) (by rfl) ⟨⟨rfl, hw⟩, impP_refl _, impP_refl _, impP_refl _, impP_refl _, impP_refl _, trivial⟩ ⟨⟨rfl, ?_⟩, impP_refl _, trivial⟩
                refine List.map_congr_left fun k hk => ?_
                congr 1
                show (decide (a ≤ (k : Int)) && decide ((k : Int) < j)) = (decide (a ≤ (k : Int)) && decide ((k : Int) ≤ b))
                rw [Bool.eq_iff_iff]
                simp only [Bool.and_eq_true, decide_eq_true_eq]
                omega
            · refine List.map_congr_left fun k hk => ?_
              rw [show (decide (a ≤ (k : Int)) && decide ((k : Int) < a)) = false by
                simp only [Bool.and_eq_false_iff, decide_eq_false_iff_not]; omega, Bool.or_false]
      · refine exploreD_ok (ok _) (mkO_ok Fu1_ok) (u := false) 20 (.no .any) _ rfl ?_
        conv => arg 5; cbv
        have hi3 := hi.2.2
        rw [List.drop_eq_nil_of_le (by omega)] at hi3
        rw [← hi3]
        exact ⟨⟨decide_eq_false h, trivial⟩, rfl, ⟨rfl, rfl, setOf_lst _⟩, ⟨rfl, rfl⟩, rfl⟩
    · exact ⟨impP_refl _, ⟨rfl, h00⟩, h0, impP_refl _, impP_refl _, impP_refl _, trivial⟩
    · exact ⟨⟨rfl, (map_false 256 _ fun _ _ => rfl).symm⟩, impP_refl _, trivial⟩
end Go.Proofs.YtdikfhjpnfffnabDoor
