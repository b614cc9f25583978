/- THE DOCUMENT's TEXT OF A SET. -/
import Derived.Test.YtdikfhjpnfffnabDoorCsX
import Derived.Test.YtdikfhjpnfffnabDoorCsG
import Derived.Test.YtdikfhjpnfffnabDoorGc
import Derived.Test.YtdikfhjpnfffnabDoorCsQ
set_option maxRecDepth 2000
set_option linter.unusedVariables false
set_option linter.unusedSimpArgs false
set_option linter.unusedVariables false
set_option linter.unusedSimpArgs false
namespace Go.Proofs.YtdikfhjpnfffnabDoor
open Go Go.Abs Go.Proofs
noncomputable def Fy1 : Table := addS 52 (.cons shWide .nil) (fun h l => (.str fun _ => toB (Lib.decDigits ((h ()).toNat * 2 ^ 64 + (l ()).toNat)), [fun _ => (0 ≤ h () ∧ h () < 2 ^ 64) ∧ 0 ≤ l () ∧ l () < 2 ^ 64])) F0
theorem Fy1_ok : TableOK Tryd.prog G0 Fy1 := addS_ok (⟨Tryd.func52, rfl, rfl, rfl, ⟨rfl, rfl⟩, ok _⟩ : FN 52 Tryd.f52).callable (fun h l c => ref1Text_ok (h ()) (l ()) c.1.1 c.1.2) F0_ok
theorem digits_ok (n : Int) (h : 0 ≤ n ∧ n < 256) : PF 35 (.cons (i64 n) .nil) (.str fun _ => itoaB n) := by
  refine (⟨Tryd.func35, rfl, rfl, rfl, ⟨rfl, rfl⟩, ok _⟩ : FN 35 Tryd.f35).tree (mkO_ok Fy1_ok) false 40 rfl ?_
  conv => arg 5; cbv
  have hw : IntKind.u64.wrap n = n := IntWalk.u64_in _ ⟨by omega, by omega⟩
  refine ⟨⟨⟨⟨Int.le_refl 0, by decide⟩, by show 0 ≤ IntKind.u64.wrap n; rw [hw]; exact h.1, by show IntKind.u64.wrap n < 2 ^ 64; rw [hw]; omega⟩, trivial⟩, rfl, ?_⟩
  show toB (Lib.decDigits (Int.toNat 0 * 2 ^ 64 + (IntKind.u64.wrap n).toNat)) = itoaB n
  rw [hw, show Int.toNat 0 * 2 ^ 64 + n.toNat = n.toNat by simp]
  obtain ⟨m, rfl⟩ : ∃ m : Nat, n = m := ⟨n.toNat, by omega⟩
  unfold itoaB
  rw [Lib.itoa_nonneg]; rfl
noncomputable def Fy2 : Table := addS 35 (.cons (.int .i64) .nil) (fun n => (.str fun _ => itoaB (n ()), [fun _ => 0 ≤ n () ∧ n () < 256])) (addS 12 (.cons shSet .nil) (fun a => (.arrB 256 fun _ => (List.range 256).map (bitAt (a ())), [fun _ => okSet (a ())])) F0)
theorem Fy2_ok : TableOK Tryd.prog G0 Fy2 := by
  refine addS_ok (⟨Tryd.func35, rfl, rfl, rfl, ⟨rfl, rfl⟩, ok _⟩ : FN 35 Tryd.f35).callable (fun n c => digits_ok (n ()) c.1) (addS_ok (⟨Tryd.func12, rfl, rfl, rfl, ⟨rfl, rfl⟩, ok _⟩ : FN 12 Tryd.f12).callable (fun a _ h => ?_) F0_ok)
  have := refOf_ok (bitAt (a ()))
  rw [setP_bitAt h.1] at this
  exact this
structure YI (a : List Int) (x : Int × List UInt8) : Prop where
  h0 : 0 ≤ x.1
  h1 : x.1 ≤ 256
  all : x.2 ++ preL (pieces (setOf (from' (bitAt a) (lo (bitAt a) x.1.toNat)))) = preL (pieces a)
  few : (x.2.length : Int) ≤ 100 * x.1
def ytA (x : Int × List UInt8) : Env := [(5, .int .i64 fun _ => x.1), (4, .str fun _ => toB x.2), (3, .ptr 1 0), (2, .str fun _ => ⟨#[]⟩)]
def ytS (a : List Int) : Store := [(1, .var (.arrB 256 fun _ => (List.range 256).map (bitAt a)))]
def yuA (x : Int × List UInt8) (k : Int) : Env := [(6, .int .i64 fun _ => k), (5, .int .i64 fun _ => x.1), (4, .str fun _ => toB x.2), (3, .ptr 1 0), (2, .str fun _ => ⟨#[]⟩)]
theorem app_list (a b : ByteArray) : (a ++ b).data.toList = a.data.toList ++ b.data.toList := by simp
theorem tell_one (l : List UInt8) (u : ByteArray) : toB l ++ ((⟨#[44]⟩ : ByteArray) ++ u) = toB (l ++ 44 :: u.data.toList) := by
  rw [← toB_data ((⟨#[44]⟩ : ByteArray) ++ u), toB_app, app_list]; rfl
theorem tell_two (l : List UInt8) (u v : ByteArray) : (toB l ++ ((⟨#[44]⟩ : ByteArray) ++ u)) ++ ((⟨#[45]⟩ : ByteArray) ++ v) = toB (l ++ 44 :: (u ++ ((⟨#[45]⟩ : ByteArray) ++ v)).data.toList) := by
  rw [tell_one, ← toB_data ((⟨#[45]⟩ : ByteArray) ++ v), toB_app, app_list u, toB_data]
  simp
theorem refText_ok (a : List Int) (ha : okSet a) : PF 11 (.cons (.arrI .u64 4 fun _ => a) .nil) (.str fun _ => textB a) := by
  refine (⟨Tryd.func11, rfl, rfl, rfl, ⟨rfl, rfl⟩, ok _⟩ : FN 11 Tryd.f11).tree (mkO_ok Fy2_ok) false 40 rfl ?_
  conv => arg 5; cbv
  refine ⟨⟨ha, trivial⟩, ?_⟩
  generalize htb : textB a = tb
  refine run_inv (ι := Int × List UInt8) (fun x => (256 - x.1).toNat) (YI a) ytA (fun _ => ytS a) 2 (0, []) (fun i => i) (by rfl) (by rfl) ⟨Int.le_refl 0, by show (0 : Int) ≤ 256; omega, ?_, by show (0 : Int) ≤ 100 * 0; omega⟩ ?_ ⟨impP_refl _, impP_refl _, impP_refl _, impP_refl _, trivial⟩ ⟨impP_refl _, trivial⟩
  · show [] ++ preL (pieces (setOf (from' (bitAt a) 0))) = preL (pieces a)
    rw [List.nil_append, show from' (bitAt a) 0 = bitAt a from funext fun j => by simp [from'], setOf_bitAt ha]
  intro x hx ih
  have hx0 := hx.h0
  have hx1 := hx.h1
  have hall := hx.all
  have hfew := hx.few
  by_cases h : x.1 < 256
  · have hrg : 0 ≤ x.1 ∧ x.1 < 256 := ⟨hx0, h⟩
    have hw : IntKind.i64.wrap (x.1 + 1) = x.1 + 1 := IntWalk.i64_in _ ⟨by omega, by omega⟩
    have hwm : 0 < x.1 → IntKind.i64.wrap (x.1 - 1) = x.1 - 1 := fun _ => IntWalk.i64_in _ ⟨by omega, by omega⟩
    have gp : ((List.range 256).map (bitAt a)).getD x.1.toNat false = bitAt a x.1.toNat := map_get (by omega)
    have gm : 0 < x.1 → ((List.range 256).map (bitAt a)).getD (IntKind.i64.wrap (x.1 - 1)).toNat false = bitAt a (x.1.toNat - 1) := fun h0 => by
      rw [hwm h0, map_get (by omega), show (x.1 - 1).toNat = x.1.toNat - 1 by omega]
    have hrm : 0 < x.1 → 0 ≤ IntKind.i64.wrap (x.1 - 1) ∧ IntKind.i64.wrap (x.1 - 1) < 256 := fun h0 => by rw [hwm h0]; omega
    have e1 : (x.1 + 1).toNat = x.1.toNat + 1 := by omega
    cases hp : bitAt a x.1.toNat with
    | false =>
      refine exploreD_ok (ok _) (mkO_ok Fy2_ok) (u := false) 20 (.yes (.yes .any)) _ rfl ?_
      conv => arg 5; cbv
      refine ⟨⟨decide_eq_true h, trivial⟩, ⟨hrg, hrg, trivial⟩, ⟨by rw [gp, hp]; rfl, trivial⟩, ih (x.1 + 1, x.2) (fun i => i) ⟨by show 0 ≤ x.1 + 1; omega, by show x.1 + 1 ≤ 256; omega, ?_, by show (x.2.length : Int) ≤ 100 * (x.1 + 1); omega⟩ (by show (256 - (x.1 + 1)).toNat < (256 - x.1).toNat; omega) (by rfl) ⟨⟨rfl, hw⟩, impP_refl _, impP_refl _, impP_refl _, trivial⟩ ⟨impP_refl _, trivial⟩⟩
      show x.2 ++ preL (pieces (setOf (from' (bitAt a) (lo (bitAt a) (x.1 + 1).toNat)))) = _
      rw [e1, ← left_no (by omega) hp, hall]
    | true =>
      by_cases hs : 0 < x.1 ∧ bitAt a (x.1.toNat - 1) = true
      · refine exploreD_ok (ok _) (mkO_ok Fy2_ok) (u := false) 20 (.yes (.no (.yes (.yes .any)))) _ rfl ?_
        conv => arg 5; cbv
        refine ⟨⟨decide_eq_true h, trivial⟩, ⟨hrg, hrg, trivial⟩, ⟨by rw [gp, hp]; rfl, trivial⟩, ⟨decide_eq_true hs.1, trivial⟩, ⟨hrm hs.1, hrm hs.1, trivial⟩, ⟨by rw [gm hs.1, hs.2], trivial⟩, ih (x.1 + 1, x.2) (fun i => i) ⟨by show 0 ≤ x.1 + 1; omega, by show x.1 + 1 ≤ 256; omega, ?_, by show (x.2.length : Int) ≤ 100 * (x.1 + 1); omega⟩ (by show (256 - (x.1 + 1)).toNat < (256 - x.1).toNat; omega) (by rfl) ⟨⟨rfl, hw⟩, impP_refl _, impP_refl _, impP_refl _, trivial⟩ ⟨impP_refl _, trivial⟩⟩
        show x.2 ++ preL (pieces (setOf (from' (bitAt a) (lo (bitAt a) (x.1 + 1).toNat)))) = _
        rw [e1, left_on (by omega) hp (by omega) hs.2, hall]
      · refine exploreD_ok (ok _) (mkO_ok Fy2_ok) (u := false) 20 (.yes (.no (.both (.no .any) .any))) _ rfl ?_
        conv => arg 5; cbv
        have hst := left_start (p := bitAt a) (i := x.1.toNat) (by omega) hp fun hc => hs ⟨by omega, hc.2⟩
        rw [hst, ← e1] at hall
        refine ⟨⟨decide_eq_true h, trivial⟩, ⟨hrg, hrg, trivial⟩, ⟨by rw [gp, hp]; rfl, trivial⟩, ?_⟩
        refine tree_meet (yuA x x.1) (ytS a) 2 (by rfl) ?_ ?_
        · exact ⟨fun h0 => ⟨⟨hrm (of_decide_eq_true h0), hrm (of_decide_eq_true h0), trivial⟩, ⟨by
            have h0 : 0 < x.1 := of_decide_eq_true h0
            rw [gm h0]
            exact Bool.eq_false_iff.2 fun hc => hs ⟨h0, hc⟩, trivial⟩, rfl, fun i => i, by rfl, ⟨impP_refl _, impP_refl _, impP_refl _, impP_refl _, impP_refl _, trivial⟩, ⟨impP_refl _, trivial⟩⟩,
            fun h0 => ⟨rfl, fun i => i, by rfl, ⟨impP_refl _, impP_refl _, impP_refl _, impP_refl _, impP_refl _, trivial⟩, ⟨impP_refl _, trivial⟩⟩⟩
        generalize hlo : lo (bitAt a) (x.1 + 1).toNat = lo1 at hall
        refine run_inv (ι := Int) (fun k => (256 - k).toNat) (fun k => x.1 ≤ k ∧ k < 256 ∧ runEnd (bitAt a) k.toNat = runEnd (bitAt a) x.1.toNat) (yuA x) (fun _ => ytS a) 2 x.1 (fun i => i) (by rfl) (by rfl) ⟨Int.le_refl _, h, rfl⟩ ?_ ⟨impP_refl _, impP_refl _, impP_refl _, impP_refl _, impP_refl _, trivial⟩ ⟨impP_refl _, trivial⟩
        intro k hk ihk
        have hk0 := hk.1
        have hk1 := hk.2.1
        by_cases hc : k < 255 ∧ bitAt a (k.toNat + 1) = true
        · have hwk : IntKind.i64.wrap (k + 1) = k + 1 := IntWalk.i64_in _ ⟨by omega, by omega⟩
          have hrk : 0 ≤ IntKind.i64.wrap (k + 1) ∧ IntKind.i64.wrap (k + 1) < 256 := by rw [hwk]; omega
          have gk : ((List.range 256).map (bitAt a)).getD (IntKind.i64.wrap (k + 1)).toNat false = bitAt a (k.toNat + 1) := by
            rw [hwk, map_get (by omega), show (k + 1).toNat = k.toNat + 1 by omega]
          refine exploreD_ok (ok _) (mkO_ok Fy2_ok) (u := false) 20 (.yes (.yes .any)) _ rfl ?_
          conv => arg 5; cbv
          refine ⟨⟨decide_eq_true hc.1, trivial⟩, ⟨hrk, hrk, trivial⟩, ⟨by rw [gk, hc.2], trivial⟩, ihk (k + 1) (fun i => i) ⟨by omega, by omega, ?_⟩ (by omega) (by rfl) ⟨⟨rfl, hwk⟩, impP_refl _, impP_refl _, impP_refl _, impP_refl _, trivial⟩ ⟨impP_refl _, trivial⟩⟩
          rw [show (k + 1).toNat = k.toNat + 1 by omega, ← runEnd_on (by omega) hc.2]
          exact hk.2.2
        · have hend : runEnd (bitAt a) x.1.toNat = k.toNat := by
            rw [← hk.2.2]
            exact runEnd_stop fun hcc => hc ⟨by omega, hcc.2⟩
          rw [hend] at hall
          have z1 := itoaB_size (n := x.1.toNat) (by omega)
          have z2 := itoaB_size (n := k.toNat) (by omega)
          rw [show ((x.1.toNat : Nat) : Int) = x.1 by omega] at z1
          rw [show ((k.toNat : Nat) : Int) = k by omega] at z2
          have z3 : (toB x.2).size = x.2.length := rfl
          have z4 : (⟨#[44]⟩ : ByteArray).size = 1 := rfl
          have z5 : (⟨#[45]⟩ : ByteArray).size = 1 := rfl
          have s1 : (⟨#[44]⟩ : ByteArray).size + (itoaB x.1).size ≤ 9223372036854775807 := by omega
          have s2 : (toB x.2).size + ((⟨#[44]⟩ : ByteArray) ++ itoaB x.1).size ≤ 9223372036854775807 := by rw [ByteArray.size_append]; omega
          have s3 : (⟨#[45]⟩ : ByteArray).size + (itoaB k).size ≤ 9223372036854775807 := by omega
          have s4 : (toB x.2 ++ ((⟨#[44]⟩ : ByteArray) ++ itoaB x.1)).size + ((⟨#[45]⟩ : ByteArray) ++ itoaB k).size ≤ 9223372036854775807 := by
            rw [ByteArray.size_append, ByteArray.size_append, ByteArray.size_append]; omega
          have hps := pieceB_size (m := x.1.toNat) (e := k.toNat) (by omega) (by omega)
          have hnew : YI a (x.1 + 1, x.2 ++ 44 :: (pieceB x.1.toNat k.toNat).data.toList) := by
            refine ⟨by show 0 ≤ x.1 + 1; omega, by show x.1 + 1 ≤ 256; omega, ?_, ?_⟩
            · show (x.2 ++ 44 :: (pieceB x.1.toNat k.toNat).data.toList) ++ preL (pieces (setOf (from' (bitAt a) (lo (bitAt a) (x.1 + 1).toNat)))) = preL (pieces a)
              rw [hlo, ← hall, preL_cons, List.append_assoc]
            · show ((x.2 ++ 44 :: (pieceB x.1.toNat k.toNat).data.toList).length : Int) ≤ 100 * (x.1 + 1)
              rw [List.length_append, List.length_cons, show (pieceB x.1.toNat k.toNat).data.toList.length = (pieceB x.1.toNat k.toNat).size from bsize _]
              omega
          have hless : (256 - (x.1 + 1)).toNat < (256 - x.1).toNat := by omega
          have t2 : x.1 < k → impP (.str fun _ => (toB x.2 ++ ((⟨#[44]⟩ : ByteArray) ++ itoaB x.1)) ++ ((⟨#[45]⟩ : ByteArray) ++ itoaB k)) (.str fun _ => toB (x.2 ++ 44 :: (pieceB x.1.toNat k.toNat).data.toList)) := fun g => by
            show (toB x.2 ++ ((⟨#[44]⟩ : ByteArray) ++ itoaB x.1)) ++ ((⟨#[45]⟩ : ByteArray) ++ itoaB k) = _
            rw [pieceB, show ((x.1.toNat : Nat) : Int) = x.1 by omega, show ((k.toNat : Nat) : Int) = k by omega, show decide (k > x.1) = true by simp only [decide_eq_true_eq]; exact g, cond_true]
            exact tell_two _ _ _
          have t1 : ¬ x.1 < k → impP (.str fun _ => toB x.2 ++ ((⟨#[44]⟩ : ByteArray) ++ itoaB x.1)) (.str fun _ => toB (x.2 ++ 44 :: (pieceB x.1.toNat k.toNat).data.toList)) := fun g => by
            show toB x.2 ++ ((⟨#[44]⟩ : ByteArray) ++ itoaB x.1) = _
            rw [pieceB, show ((x.1.toNat : Nat) : Int) = x.1 by omega, show ((k.toNat : Nat) : Int) = k by omega, show decide (k > x.1) = false by simp only [decide_eq_false_iff_not]; exact g, cond_false]
            exact tell_one _ _
          by_cases hk2 : k < 255
          · have hwk : IntKind.i64.wrap (k + 1) = k + 1 := IntWalk.i64_in _ ⟨by omega, by omega⟩
            have hrk : 0 ≤ IntKind.i64.wrap (k + 1) ∧ IntKind.i64.wrap (k + 1) < 256 := by rw [hwk]; omega
            have gk : ((List.range 256).map (bitAt a)).getD (IntKind.i64.wrap (k + 1)).toNat false = bitAt a (k.toNat + 1) := by
              rw [hwk, map_get (by omega), show (k + 1).toNat = k.toNat + 1 by omega]
            refine exploreD_ok (ok _) (mkO_ok Fy2_ok) (u := false) 20 (.yes (.no .any)) _ rfl ?_
            conv => arg 5; cbv
            refine ⟨⟨decide_eq_true hk2, trivial⟩, ⟨hrk, hrk, trivial⟩, ⟨by rw [gk]; exact Bool.eq_false_iff.2 fun hcc => hc ⟨hk2, hcc⟩, trivial⟩, ⟨hrg, s1, s2, trivial⟩, fun g => ⟨⟨⟨Int.le_trans hx0 hk0, hk1⟩, s3, s4, trivial⟩, ?_⟩, fun g => ?_⟩
            · have g : x.1 < k := of_decide_eq_true g
              exact ih _ (fun i => i) hnew hless (by rfl) ⟨⟨rfl, hw⟩, t2 g, impP_refl _, impP_refl _, trivial⟩ ⟨impP_refl _, trivial⟩
            · have g : ¬ x.1 < k := of_decide_eq_false g
              exact ih _ (fun i => i) hnew hless (by rfl) ⟨⟨rfl, hw⟩, t1 g, impP_refl _, impP_refl _, trivial⟩ ⟨impP_refl _, trivial⟩
          · refine exploreD_ok (ok _) (mkO_ok Fy2_ok) (u := false) 20 (.no .any) _ rfl ?_
            conv => arg 5; cbv
            refine ⟨⟨decide_eq_false hk2, trivial⟩, ⟨hrg, s1, s2, trivial⟩, fun g => ⟨⟨⟨Int.le_trans hx0 hk0, hk1⟩, s3, s4, trivial⟩, ?_⟩, fun g => ?_⟩
            · have g : x.1 < k := of_decide_eq_true g
              exact ih _ (fun i => i) hnew hless (by rfl) ⟨⟨rfl, hw⟩, t2 g, impP_refl _, impP_refl _, trivial⟩ ⟨impP_refl _, trivial⟩
            · have g : ¬ x.1 < k := of_decide_eq_false g
              exact ih _ (fun i => i) hnew hless (by rfl) ⟨⟨rfl, hw⟩, t1 g, impP_refl _, impP_refl _, trivial⟩ ⟨impP_refl _, trivial⟩
  · refine exploreD_ok (ok _) (mkO_ok Fy2_ok) (u := false) 20 (.no .any) _ rfl ?_
    conv => arg 5; cbv
    have e : x.1 = 256 := by omega
    rw [e, show ((256 : Int)).toNat = 256 from rfl, lo_end] at hall
    have hall : x.2 = preL (pieces a) := by simpa [preL] using hall
    have htx := text_pre a
    rw [← hall, htb] at htx
    refine ⟨⟨decide_eq_false h, trivial⟩, fun g => ?_, fun g => ?_⟩
    · have g : toB x.2 = ⟨#[]⟩ := of_decide_eq_true g
      have g2 : x.2 = [] := by
        have := congrArg (fun b => b.data.toList) g
        simpa [toB] using this
      rw [if_pos g2] at htx
      exact ⟨rfl, htx.symm⟩
    · have g : ¬ toB x.2 = ⟨#[]⟩ := of_decide_eq_false g
      have g2 : x.2 ≠ [] := fun e => g (by rw [e]; rfl)
      rw [if_neg g2] at htx
      have hsz : (toB x.2).size = x.2.length := rfl
      have hpos : 0 < x.2.length := List.length_pos_iff.2 g2
      refine ⟨⟨⟨by decide, by show (1 : Int) ≤ ((toB x.2).size : Int); omega⟩, trivial⟩, rfl, ?_⟩
      show (toB x.2).extract 1 ((toB x.2).size : Int).toNat = tb
      rw [htx, ext_toB]
      show toB ((x.2.take _).drop 1) = _
      rw [List.take_of_length_le (by omega)]
end Go.Proofs.YtdikfhjpnfffnabDoor
