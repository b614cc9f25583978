/- AMOUNTS: texts that are read. -/
import Derived.Test.YtdikfhjpnfffnacDoorVcF
set_option maxRecDepth 2000
set_option linter.unusedVariables false
set_option linter.unusedSimpArgs false
set_option linter.unusedVariables false
set_option linter.unusedSimpArgs false
namespace Go.Proofs.YtdikfhjpnfffnacDoor
open Go Go.Abs Go.Proofs
structure PaI (s : ByteArray) (x : ByteArray × ByteArray × ByteArray) : Prop where
  e : cutP s.data.toList = (x.1.data.toList, x.2.1.data.toList, x.2.2.data.toList)
  d1 : x.1.data.toList.all isD = true
  d2 : x.2.1.data.toList.all isD = true
  sz : x.1.size + x.2.1.size + x.2.2.size ≤ s.size
def paA (x : ByteArray × ByteArray × ByteArray) : Env := [(6, .str fun _ => x.2.1), (5, .str fun _ => x.2.2), (4, .str fun _ => x.1), (3, .int .i64 fun _ => 0), (2, .ptr 0 0)]
def paS : Store := [(0, .var zP)]
def paP (l : List UInt8) : PV := .tuple (.cons (.agg (.cons (.int .u64 fun _ => wHi ((aparse l).1)) (.cons (.int .u64 fun _ => wLo ((aparse l).1)) .nil))) (.cons (.int .i64 fun _ => (aparse l).2) .nil))
def pbA (W R L : ByteArray) (i : Nat) : Env := [(55, .int .i64 fun _ => (i : Int)), (54, .int .i64 fun _ => (L.size : Int)), (9, .ptr 2 0), (7, .ptr 1 0), (6, .str fun _ => R), (4, .str fun _ => W), (2, .ptr 0 0)]
def pbS (T : ByteArray) (tt : Int) (bb : Nat) (L : ByteArray) (i : Nat) : Store := [(0, .var zP), (1, .var (.agg (.cons (.str fun _ => sclS T.data.toList) (.cons (.int .i64 fun _ => tt) (.cons (.int .i64 fun _ => (bb : Int)) .nil))))), (2, .var (.agg (.cons (.int .u64 fun _ => wHi (valD (L.data.toList.take i))) (.cons (.int .u64 fun _ => wLo (valD (L.data.toList.take i))) .nil))))]
theorem parse_ok (s : ByteArray) (hs : s.size < 2147483648) : PF 37 (.cons (.str fun _ => s) .nil) (paP s.data.toList) := by
  refine (⟨Tryd.func37, rfl, rfl, rfl, ⟨rfl, rfl⟩, ok _⟩ : FN 37 Tryd.f37).treeS (mkO_ok Fg5_ok) false 40 (.both .any (.both (.to 7) (.to 7))) rfl ?_
  conv => arg 5; cbv
  refine ⟨fun h => ⟨rfl, ?_⟩, fun h => ?_⟩
  · have h : s = (⟨#[]⟩ : ByteArray) := of_decide_eq_true h
    subst h
    exact ⟨⟨⟨rfl, rfl⟩, ⟨rfl, rfl⟩, rfl⟩, ⟨rfl, rfl⟩, rfl⟩
  have hne : s.data.toList ≠ [] := fun hc => of_decide_eq_false h (by rw [← toB_data s, hc]; rfl)
  have hlen := dig_len s
  refine tree_all (ι := ByteArray × ByteArray × ByteArray) (PaI s) paA (fun _ => paS) 1 (by rfl) ?_ ?_
  · refine ⟨⟨hs, trivial⟩, fun g => ?_, fun g => ?_⟩
    · obtain ⟨r, hr⟩ := (pre_one 46 (rstB s).data.toList).1 g
      obtain ⟨c1, c2, c3⟩ := cut_one hr
      have c1 : (rstB s).extract (Int.toNat 1) ((rstB s).size : Int).toNat = toB r := c1
      have hl2 := dig_len (toB r)
      simp only [c1]
      refine ⟨⟨⟨by decide, (by (try dsimp only); (try simp only [cast_fold, Int.ofNat_eq_natCast]); omega)⟩, (by (try dsimp only); (try simp only [cast_fold, Int.ofNat_eq_natCast]); omega), trivial⟩, rfl, (digB s, digB (toB r), rstB (toB r)), fun i => i, ⟨cutP_dot hr, dig_all2 _, dig_all2 _, ?_⟩, by rfl, ⟨impP_refl _, impP_refl _, impP_refl _, impP_refl _, impP_refl _, trivial⟩, ⟨impP_refl _, trivial⟩⟩
      show (digB s).size + (digB (toB r)).size + (rstB (toB r)).size ≤ s.size
      omega
    · refine ⟨rfl, (digB s, ⟨#[]⟩, rstB s), fun i => i, ⟨cutP_no fun r hr => ?_, dig_all2 _, rfl, ?_⟩, by rfl, ⟨impP_refl _, impP_refl _, impP_refl _, impP_refl _, impP_refl _, trivial⟩, ⟨impP_refl _, trivial⟩⟩
      · have := (pre_one 46 _).2 ⟨r, hr⟩
        rw [show [(46 : UInt8)].isPrefixOf (rstB s).data.toList = false from g] at this; cases this
      · show (digB s).size + 0 + (rstB s).size ≤ s.size
        omega
  intro x hx
  obtain ⟨W, R, T⟩ := x
  have he : cutP s.data.toList = (W.data.toList, R.data.toList, T.data.toList) := hx.e
  have hd1 : W.data.toList.all isD = true := hx.d1
  have hd2 : R.data.toList.all isD = true := hx.d2
  have hsz : W.size + R.size + T.size ≤ s.size := hx.sz
  have hap : aparse s.data.toList = match scl T.data.toList with
      | none => (0, 11)
      | some x => if W.data.toList ++ R.data.toList = [] then (0, 11) else if 28 < (W.data.toList ++ R.data.toList).length then (0, 12) else
          overA (amtN (valD (W.data.toList ++ R.data.toList)) (9 + x.1 - (R.data.toList.length : Int)) x.2) := by
    unfold aparse
    rw [if_neg hne, he]
    cases scl T.data.toList <;> rfl
  generalize hA : aparse s.data.toList = A at *
  have hcat : (W ++ R).data.toList = W.data.toList ++ R.data.toList := by simp
  have hcat2 : (W ++ R) = (⟨#[]⟩ : ByteArray) ↔ W.data.toList ++ R.data.toList = [] := by
    rw [← hcat]
    constructor
    · intro h; rw [h]
    · intro h; rw [← toB_data (W ++ R), h]; rfl
  have hWs := size_toB W
  have hRs := size_toB R
  unfold paP
  rw [hA]
  have hTs : T.size < 2147483648 := by omega
  have hWR : W.size + R.size ≤ 9223372036854775807 := by omega
  have hwl : IntKind.i64.wrap ((W.size : Int) + (R.size : Int)) = ((W.size + R.size : Nat) : Int) := by rw [IntWalk.i64_in _ ⟨by omega, by omega⟩]; omega
  have herr : ∀ e : Int, A = (0, e) → impP (.tuple (.cons zP (.cons (.int .i64 fun _ => e) .nil))) (.tuple (.cons (.agg (.cons (.int .u64 fun _ => wHi A.1) (.cons (.int .u64 fun _ => wLo A.1) .nil))) (.cons (.int .i64 fun _ => A.2) .nil))) := fun e h => by
    rw [h]; exact ⟨⟨⟨rfl, (by show (0 : Int) = wHi 0; decide)⟩, ⟨rfl, (by show (0 : Int) = wLo 0; decide)⟩, rfl⟩, ⟨rfl, rfl⟩, rfl⟩
  refine exploreS_ok (ok _) (mkO_ok Fg5_ok) (u := false) 30 (.any) _ rfl ?_
  conv => arg 5; cbv
  refine ⟨⟨hTs, trivial⟩, fun g => ⟨rfl, herr 11 ?_⟩, fun g => ⟨⟨hWR, trivial⟩, fun g2 => ⟨rfl, herr 11 ?_⟩, fun g2 => ⟨fun g3 => ⟨rfl, herr 12 ?_⟩, fun g3 => ⟨⟨hWR, trivial⟩, ?_⟩⟩⟩⟩
  · have g : (!(scl T.data.toList).isSome) = true := g
    rw [hap]
    cases hx : scl T.data.toList with
    | none => rfl
    | some x => rw [hx] at g; cases g
  all_goals
    have g : (!(scl T.data.toList).isSome) = false := g
    obtain ⟨⟨tt, bb⟩, hx⟩ : ∃ x, scl T.data.toList = some x := by
      cases hx : scl T.data.toList with
      | none => rw [hx] at g; cases g
      | some x => exact ⟨x, rfl⟩
    rw [hx] at hap
    simp only at hap
  · have g2 : W ++ R = (⟨#[]⟩ : ByteArray) := of_decide_eq_true g2
    rw [hap, if_pos (hcat2.1 g2)]
  all_goals
    have g2 : ¬ W ++ R = (⟨#[]⟩ : ByteArray) := of_decide_eq_false g2
    rw [if_neg fun hc => g2 (hcat2.2 hc)] at hap
  · have g3 : 28 < IntKind.i64.wrap ((W.size : Int) + (R.size : Int)) := of_decide_eq_true g3
    rw [hwl] at g3
    rw [hap, if_pos (by rw [List.length_append]; omega)]
  have g3 : ¬ 28 < IntKind.i64.wrap ((W.size : Int) + (R.size : Int)) := of_decide_eq_false g3
  rw [hwl] at g3
  rw [if_neg (by rw [List.length_append]; omega)] at hap
  obtain ⟨x1, x2, x3, x4⟩ := scl_le hx
  have x1 : -99 ≤ tt := x1
  have x2 : tt ≤ 99 := x2
  have x3 : bb ≤ 60 := x3
  have x4 : bb = 0 ∨ tt = 0 := x4
  rw [← hcat] at hap
  have hD : (W ++ R).data.toList.all isD = true := by rw [hcat, List.all_append, hd1, hd2]; rfl
  have hLs : (W ++ R).size = W.size + R.size := ByteArray.size_append
  have hLl := size_toB (W ++ R)
  generalize hL : W ++ R = L at *
  refine run_inv (ι := Nat) (fun i => L.size - i) (fun i => i ≤ L.size) (pbA W R L) (pbS T tt bb L) 3 0 (fun i => i) (by rfl) (by rfl) (Nat.zero_le _) ?_ ⟨impP_refl _, ⟨rfl, rfl⟩, impP_refl _, impP_refl _, impP_refl _, impP_refl _, impP_refl _, trivial⟩ ⟨impP_refl _, ⟨impP_refl _, ⟨rfl, by rw [hx]; rfl⟩, ⟨rfl, by rw [hx]; rfl⟩, rfl⟩, ⟨⟨rfl, by show (0 : Int) = wHi 0; decide⟩, ⟨rfl, by show (0 : Int) = wLo 0; decide⟩, rfl⟩, trivial⟩
  intro i hi ih
  have hv := valD_lt (L.data.toList.take i) (List.all_eq_true.2 fun c hc => List.all_eq_true.1 hD c (List.mem_of_mem_take hc))
  have hv28 : valD (L.data.toList.take i) < 10000000000000000000000000000 := Nat.lt_of_lt_of_le hv (Nat.pow_le_pow_right (n := 10) (j := 28) (by omega) (by rw [List.length_take]; omega))
  have htm : tmV (valD (L.data.toList.take i)) 10 = valD (L.data.toList.take i) * 10 := if_pos (by unfold W128; omega)
  refine exploreS_ok (ok _) (mkO_ok Fg5_ok) (u := false) 30 (.both .any (.to 19)) _ rfl ?_
  conv => arg 5; cbv
  simp only [wN_of, show Int.toNat 10 = 10 from rfl, htm, hL]
  have hvW : valD (L.data.toList.take i) < W128 := by unfold W128; omega
  have hvW2 : valD (L.data.toList.take i) * 10 < W128 := by unfold W128; omega
  refine ⟨fun k => ?_, fun k => ?_⟩
  · have k : (i : Int) < (L.size : Int) := of_decide_eq_true k
    obtain ⟨c, c1, c2, c3, c4⟩ := atB (s := L) (n := i) (by omega)
    have hcd : isD c = true := List.all_eq_true.1 hD c (List.mem_of_getElem? c1)
    have hcr := (isD_byte c).1 hcd
    have hw : IntKind.i64.wrap ((i : Int) + 1) = ((i + 1 : Nat) : Int) := by rw [IntWalk.i64_in _ ⟨by omega, by omega⟩]; omega
    have hdg : IntKind.u64.wrap (IntKind.u8.wrap (byteAt L i - 48)) = ((c.toNat - 48 : Nat) : Int) := by
      rw [c2, IntWalk.u8_in _ ⟨by omega, by omega⟩, IntWalk.u64_in _ ⟨by omega, by omega⟩]; omega
    have hnx : capW (valD (L.data.toList.take i) * 10 + wN 0 ((c.toNat - 48 : Nat) : Int)) = valD (L.data.toList.take (i + 1)) := by
      rw [c4, valD_snoc, wN_small, Int.toNat_natCast]
      exact capW_eq (by unfold W128; omega)
    simp only [hdg, hnx]
    exact ⟨⟨⟨okW_of hvW, by decide⟩, hWR, ⟨(by (try dsimp only); (try simp only [cast_fold, Int.ofNat_eq_natCast]); omega), k⟩, ⟨okW_of hvW2, okW_small (by (try dsimp only); (try simp only [cast_fold, Int.ofNat_eq_natCast]); omega)⟩, (by show drawOK _ _ = true; decide +kernel), trivial⟩, ih (i + 1) (fun i => i) (by omega) (by omega) (by rfl) ⟨⟨rfl, hw⟩, impP_refl _, impP_refl _, impP_refl _, impP_refl _, impP_refl _, impP_refl _, trivial⟩ ⟨impP_refl _, impP_refl _, impP_refl _, trivial⟩⟩
  have k : ¬ (i : Int) < (L.size : Int) := of_decide_eq_false k
  have e1 : L.data.toList.take i = L.data.toList := List.take_of_length_le (by omega)
  simp only [e1] at *
  generalize hN : valD L.data.toList = N at *
  have hR28 : R.size ≤ 28 := by omega
  have hw1 : IntKind.i64.wrap (9 + tt) = 9 + tt := IntWalk.i64_in _ ⟨by omega, by omega⟩
  have hw2 : IntKind.i64.wrap (9 + tt - (R.size : Int)) = 9 + tt - (R.size : Int) := IntWalk.i64_in _ ⟨by omega, by omega⟩
  rw [hRs] at hap
  generalize hE : 9 + tt - (R.size : Int) = E at *
  have hEr : -118 ≤ E ∧ E ≤ 108 := by omega
  have hw3 : IntKind.i64.wrap (0 - E) = -E := by rw [IntWalk.i64_in _ ⟨by omega, by omega⟩]; omega
  have tn : ∀ n : Nat, ((n : Nat) : Int).toNat = n := fun n => Int.toNat_natCast n
  refine exploreS_ok (ok _) (mkO_ok Fg5_ok) (u := false) 30 (.any) _ rfl ?_
  conv => arg 5; cbv
  simp only [wN_of, tn, hw1, hw2, hE, hw3]
  have hover : ∀ V : Nat, A = overA V → mostA < V → impP (.tuple (.cons zP (.cons (.int .i64 fun _ => 15) .nil))) (.tuple (.cons (.agg (.cons (.int .u64 fun _ => wHi A.1) (.cons (.int .u64 fun _ => wLo A.1) .nil))) (.cons (.int .i64 fun _ => A.2) .nil))) := fun V h1 h2 => herr 15 (by rw [h1]; exact if_pos h2)
  have hgood : ∀ V X : Nat, A = overA V → ¬ mostA < V → X = V → impP (.tuple (.cons (.agg (.cons (.int .u64 fun _ => wHi (X)) (.cons (.int .u64 fun _ => wLo (X)) .nil))) (.cons (.int .i64 fun _ => 0) .nil))) (.tuple (.cons (.agg (.cons (.int .u64 fun _ => wHi A.1) (.cons (.int .u64 fun _ => wLo A.1) .nil))) (.cons (.int .i64 fun _ => A.2) .nil))) := fun V X h1 h2 h3 => by
    rw [h1, show overA V = (V, 0) from if_neg h2, h3]; exact impP_refl _
  have hWm : mostA < W128 := by decide
  have hft : ∀ n : Nat, (!decide (n ≤ 1152921504606846976 * 1000000000)) = decide (mostA < n) := fun n => by
    rw [Bool.eq_iff_iff]; simp
  have hnn : ∀ n : Nat, (!decide (n < 340282366920938463463374607431768211456)) = decide (W128 ≤ n) := fun n => by
    rw [Bool.eq_iff_iff]; simp
  simp only [hft, hnn]
  refine ⟨fun g => ⟨⟨⟨okW_of hvW, ?_⟩, trivial⟩, fun g2 => ⟨rfl, ?_⟩, fun g2 => ⟨⟨?_, trivial⟩, fun g3 => ⟨rfl, ?_⟩, fun g3 => ⟨rfl, ?_⟩⟩⟩, fun g => ⟨⟨⟨okW_of hvW, ?_⟩, trivial⟩, fun g2 => ⟨rfl, ?_⟩, fun g2 => ⟨⟨okW_of (capW_lt _), trivial⟩, fun g3 => ⟨rfl, ?_⟩, fun g3 => ⟨rfl, ?_⟩⟩⟩⟩
  · (replace g := of_decide_eq_true g); (try dsimp only at g); (try simp only [cast_fold, Int.ofNat_eq_natCast] at g)
    refine ⟨(by (try dsimp only); (try simp only [cast_fold, Int.ofNat_eq_natCast]); omega), (by (try dsimp only); (try simp only [cast_fold, Int.ofNat_eq_natCast]); omega), (by (try dsimp only); (try simp only [cast_fold, Int.ofNat_eq_natCast]); omega)⟩
  · (replace g := of_decide_eq_true g); (try dsimp only at g); (try simp only [cast_fold, Int.ofNat_eq_natCast] at g)
    (replace g2 := of_decide_eq_true g2); (try dsimp only at g2); (try simp only [cast_fold, Int.ofNat_eq_natCast] at g2)
    exact hover _ hap (by unfold amtN; rw [if_neg (by omega)]; omega)
  · (replace g := of_decide_eq_true g); (try dsimp only at g); (try simp only [cast_fold, Int.ofNat_eq_natCast] at g)
    (replace g2 := of_decide_eq_false g2); (try dsimp only at g2); (try simp only [cast_fold, Int.ofNat_eq_natCast] at g2)
    rw [dn_ok (by omega)]
    exact okW_of (by omega)
  · (replace g := of_decide_eq_true g); (try dsimp only at g); (try simp only [cast_fold, Int.ofNat_eq_natCast] at g)
    (replace g2 := of_decide_eq_false g2); (try dsimp only at g2); (try simp only [cast_fold, Int.ofNat_eq_natCast] at g2)
    (replace g3 := of_decide_eq_true g3); (try dsimp only at g3); (try simp only [cast_fold, Int.ofNat_eq_natCast] at g3)
    rw [dn_ok (by omega)] at g3
    exact hover _ hap (by unfold amtN; rw [if_neg (by omega)]; exact g3)
  · (replace g := of_decide_eq_true g); (try dsimp only at g); (try simp only [cast_fold, Int.ofNat_eq_natCast] at g)
    (replace g2 := of_decide_eq_false g2); (try dsimp only at g2); (try simp only [cast_fold, Int.ofNat_eq_natCast] at g2)
    (replace g3 := of_decide_eq_false g3); (try dsimp only at g3); (try simp only [cast_fold, Int.ofNat_eq_natCast] at g3)
    have e := dn_ok (v := N) (t := (-E).toNat) (w := bb) (by omega)
    rw [e] at g3
    refine hgood _ _ hap ?_ (e.trans ?_)
    · unfold amtN; rw [if_neg (by omega)]; exact g3
    · unfold amtN; rw [if_neg (by omega)]
  · (replace g := of_decide_eq_false g); (try dsimp only at g); (try simp only [cast_fold, Int.ofNat_eq_natCast] at g)
    refine ⟨(by (try dsimp only); (try simp only [cast_fold, Int.ofNat_eq_natCast]); omega), (by (try dsimp only); (try simp only [cast_fold, Int.ofNat_eq_natCast]); omega)⟩
  all_goals
    (replace g := of_decide_eq_false g); (try dsimp only at g); (try simp only [cast_fold, Int.ofNat_eq_natCast] at g)
    have hval : amtN N E bb = N * 10 ^ E.toNat * 2 ^ bb := by unfold amtN; rw [if_pos (by omega)]
    have hmin : N * 10 ^ (min E 60).toNat * 2 ^ bb ≤ N * 10 ^ E.toNat * 2 ^ bb := Nat.mul_le_mul_right _ (Nat.mul_le_mul_left _ (Nat.pow_le_pow_right (by omega) (by omega)))
  · (replace g2 := of_decide_eq_true g2); (try dsimp only at g2); (try simp only [cast_fold, Int.ofNat_eq_natCast] at g2)
    exact hover _ hap (by rw [hval]; omega)
  all_goals
    (replace g2 := of_decide_eq_false g2); (try dsimp only at g2); (try simp only [cast_fold, Int.ofNat_eq_natCast] at g2)
    have hc := capW_eq (n := N * 10 ^ (min E 60).toNat * 2 ^ bb) (by omega)
    have hsame : N * 10 ^ (min E 60).toNat * 2 ^ bb = amtN N E bb := by
      rw [hval]
      by_cases h60 : E ≤ 60
      · rw [show min E 60 = E by omega]
      · by_cases hN0 : N = 0
        · rw [hN0]; simp
        · exfalso
          rw [show (min E 60).toNat = 60 by omega] at g2
          have h1 : 1 * 10 ^ 60 ≤ N * 10 ^ 60 := Nat.mul_le_mul_right _ (by omega)
          have h2 : N * 10 ^ 60 * 1 ≤ N * 10 ^ 60 * 2 ^ bb := Nat.mul_le_mul_left _ Nat.one_le_two_pow
          have h3 : W128 ≤ 1 * 10 ^ 60 := by decide
          omega
    rw [hc] at g3
  · (replace g3 := of_decide_eq_true g3); (try dsimp only at g3); (try simp only [cast_fold, Int.ofNat_eq_natCast] at g3)
    exact hover _ hap (by rw [← hsame]; exact g3)
  · (replace g3 := of_decide_eq_false g3); (try dsimp only at g3); (try simp only [cast_fold, Int.ofNat_eq_natCast] at g3)
    exact hgood _ _ hap (by rw [← hsame]; exact g3) (hc.trans hsame)
noncomputable def Fg6 : Table := addS 37 (.cons .str .nil) (fun s => (.tuple (.cons (.agg (.cons (.int .u64 fun _ => wHi ((aparse (s ()).data.toList).1)) (.cons (.int .u64 fun _ => wLo ((aparse (s ()).data.toList).1)) .nil))) (.cons (.int .i64 fun _ => (aparse (s ()).data.toList).2) .nil)), [fun _ => (s ()).size < 2147483648])) Fg5
theorem Fg6_ok : TableOK Tryd.prog G0 Fg6 := addS_ok (⟨Tryd.func37, rfl, rfl, rfl, ⟨rfl, rfl⟩, ok _⟩ : FN 37 Tryd.f37).callable (fun s h => parse_ok (s ()) h.1) Fg5_ok
end Go.Proofs.YtdikfhjpnfffnacDoor
