/- A part of what the walks of this claim stand on. -/
import Derived.Test.YtpbjcabecalpaaaGreatDoorWaj
import Derived.Test.YtpbjcabecalpaaaGreatDoorGac
import Derived.Test.YtpbjcabecalpaaaGreatDoorWag
import Derived.Test.YtpbjcabecalpaaaGreatDoorWai
import Derived.Test.YtpbjcabecalpaaaGreatDoorGad
import Derived.Test.YtpbjcabecalpaaaGreatDoorShelf
import Derived.Test.YtpbjcabecalpaaaGreatDoorCards
import Derived.Test.YtpbjcabecalpaaaGreatDoorTie
import Derived.Stop.LaidErr
import Derived.WalkKit
import Derived.ProofKit
import Derived.OpenShut
import Derived.Lay
import Derived.Deep.DeepWitnessRowRef
set_option maxRecDepth 2000
set_option linter.unusedVariables false
set_option linter.unusedSimpArgs false
namespace Go.Proofs.YtpbjcabecalpaaaGreatDoor
open Go Go.Abs Go.Proofs
theorem wHi_of {h l : Int} (h1 : 0 ≤ h ∧ h < 2 ^ 64) (h2 : 0 ≤ l ∧ l < 2 ^ 64) : wHi (h.toNat * 2 ^ 64 + l.toNat) = h ∧ wLo (h.toNat * 2 ^ 64 + l.toNat) = l := by unfold wHi wLo; omega
theorem div_back {V n : Nat} (h : V % n = 0) : V = V / n * n := (Nat.div_mul_cancel (Nat.dvd_of_mod_eq_zero h)).symm
noncomputable def Rt7 : Table := addS 52 (.cons shWd .nil) (fun h l => (.str fun _ => toB (btext ((h ()).toNat * 2 ^ 64 + (l ()).toNat)), [fun _ => (0 ≤ h () ∧ h () < 2 ^ 64) ∧ 0 ≤ l () ∧ l () < 2 ^ 64, fun _ => ((h ()).toNat * 2 ^ 64 + (l ()).toNat) % 1000000000 = 0, fun _ => ((h ()).toNat * 2 ^ 64 + (l ()).toNat) / 1000000000 ≤ 1152921504606846976]))
  (addS 51 (.cons (.int .i64) (.cons (.int .u64) .nil)) (fun n b => (.agg (.cons (.int .u64 fun _ => wHi ((n ()).toNat * (b ()).toNat)) (.cons (.int .u64 fun _ => wLo ((n ()).toNat * (b ()).toNat)) .nil)), [fun _ => 0 ≤ n () ∧ n () ≤ 9223372036854775807, fun _ => 0 ≤ b () ∧ b () < 18446744073709551616]))
  (addS 25 (.cons (.int .i64) .nil) (fun n => (.str fun _ => toB (Lib.itoa (n ())), [fun _ => -9223372036854775808 ≤ n () ∧ n () ≤ 9223372036854775807])) Rt6))
theorem Rt7_ok : TableOK Tryz.prog G0 Rt7 := addS_ok (⟨Tryz.func52, rfl, rfl, rfl, ⟨rfl, rfl⟩, ok _⟩ : FN 52 Tryz.f52).callable (fun h l c => by
  obtain ⟨⟨h1, h2⟩, h4, h5, _⟩ := c
  have h4 : ((h ()).toNat * 2 ^ 64 + (l ()).toNat) % 1000000000 = 0 := h4
  have h5 : ((h ()).toNat * 2 ^ 64 + (l ()).toNat) / 1000000000 ≤ 1152921504606846976 := h5
  have h1 : 0 ≤ h () ∧ h () < 2 ^ 64 := h1
  have h2 : 0 ≤ l () ∧ l () < 2 ^ 64 := h2
  obtain ⟨e2, e3⟩ := wHi_of h1 h2
  obtain ⟨V, hV⟩ : ∃ V, V = (h ()).toNat * 2 ^ 64 + (l ()).toNat := ⟨_, rfl⟩
  rw [← hV] at h4 h5 e2 e3
  have := dbin_ok (V / 1000000000) h5 V (div_back h4)
  rw [e2, e3, hV] at this
  exact this) (addS_ok (⟨Tryz.func51, rfl, rfl, rfl, ⟨rfl, rfl⟩, ok _⟩ : FN 51 Tryz.f51).callable (fun n b c => by
  obtain ⟨h1, h2, _⟩ := c
  have h1 : 0 ≤ n () ∧ n () ≤ 9223372036854775807 := h1
  have h2 : 0 ≤ b () ∧ b () < 18446744073709551616 := h2
  have := dnum_ok (n ()).toNat (b ()).toNat _ (by omega) (by omega) rfl (by omega)
  rw [Int.toNat_of_nonneg h1.1, Int.toNat_of_nonneg h2.1] at this
  exact this) (addS_ok (⟨Tryz.func25, rfl, rfl, rfl, ⟨rfl, rfl⟩, ok _⟩ : FN 25 Tryz.f25).callable (fun n h => signed_ok (n ()) h.1.1 h.1.2) Rt6_ok))
def p1 (n : Nat) : List UInt8 := if 0 < n then 44 :: (sCpu ++ 61 :: atext (n * 1000000)) else []
def p2 (n : Nat) : List UInt8 := if 0 < n then 44 :: (sMem ++ 61 :: btext (n * 1000000000)) else []
def p3 (n : Nat) : List UInt8 := if 0 < n then 44 :: (sHug ++ 61 :: btext (n * 1000000000)) else []
theorem flat_join (a b c : List (List UInt8)) (ha : a.length ≤ 1) (hb : b.length ≤ 1) (hc : c.length ≤ 1) : (if a ++ (b ++ c) = [] then ([45] : List UInt8) else Lib.join (a ++ (b ++ c)) [44]) = if (a.flatMap (44 :: ·)) ++ (b.flatMap (44 :: ·)) ++ (c.flatMap (44 :: ·)) = [] then [45] else ((a.flatMap (44 :: ·)) ++ (b.flatMap (44 :: ·)) ++ (c.flatMap (44 :: ·))).drop 1 := by
  have h : ∀ l : List (List UInt8), l.length ≤ 1 → l = [] ∨ ∃ x, l = [x] := fun l hl => by
    match l, hl with
    | [], _ => exact .inl rfl
    | [x], _ => exact .inr ⟨x, rfl⟩
  rcases h a ha with rfl | ⟨x, rfl⟩ <;> rcases h b hb with rfl | ⟨y, rfl⟩ <;> rcases h c hc with rfl | ⟨z, rfl⟩ <;> simp [Lib.join]
theorem vt_flat (c m h : Nat) : vText c m h = if p1 c ++ p2 m ++ p3 h = [] then [45] else (p1 c ++ p2 m ++ p3 h).drop 1 := by
  have e1 : p1 c = (if 0 < c then [sCpu ++ 61 :: atext (c * 1000000)] else []).flatMap (44 :: ·) := by
    unfold p1
    split
    · rw [List.flatMap_singleton]
    · rfl
  have e2 : p2 m = (if 0 < m then [sMem ++ 61 :: btext (m * 1000000000)] else []).flatMap (44 :: ·) := by
    unfold p2
    split
    · rw [List.flatMap_singleton]
    · rfl
  have e3 : p3 h = (if 0 < h then [sHug ++ 61 :: btext (h * 1000000000)] else []).flatMap (44 :: ·) := by
    unfold p3
    split
    · rw [List.flatMap_singleton]
    · rfl
  rw [e1, e2, e3]
  unfold vText vParts
  refine flat_join _ _ _ ?_ ?_ ?_
  · split
    · exact Nat.le_refl 1
    · exact Nat.zero_le 1
  · split
    · exact Nat.le_refl 1
    · exact Nat.zero_le 1
  · split
    · exact Nat.le_refl 1
    · exact Nat.zero_le 1
theorem mul_facts (n e : Nat) (he : 0 < e) : (n * e) % e = 0 ∧ n * e / e = n := ⟨Nat.mul_mod_left _ _, Nat.mul_div_cancel _ he⟩
theorem most_rng {V : Nat} (h : V ≤ mostA) : V < 18446744073709551616 * 18446744073709551616 := Nat.lt_of_le_of_lt h (by decide)
theorem most_le {V : Nat} (h : V ≤ mostA) : V ≤ 1152921504606846976000000000 := h
def rtA (P : List UInt8) : Env := [(3, .str fun _ => toB P), (1, .ptr 0 0)]
def rtS (c m h : Int) : Store := [(0, .var (.agg (.cons (.int .i64 fun _ => c) (.cons (.int .i64 fun _ => m) (.cons (.int .i64 fun _ => h) .nil)))))]
theorem rtext_ok (c m h : Int) (hr : vRight c m h = true) : PF 26 (.cons (.agg (.cons (.int .i64 fun _ => c) (.cons (.int .i64 fun _ => m) (.cons (.int .i64 fun _ => h) .nil)))) .nil) (.str fun _ => toB (vText c.toNat m.toNat h.toNat)) := by
  have hr := vRight_iff.1 hr
  have fl := vt_flat c.toNat m.toNat h.toNat
  generalize vText c.toNat m.toNat h.toNat = R at fl
  have q1 : (0 < c → p1 c.toNat = 44 :: (sCpu ++ 61 :: atext (c.toNat * 1000000))) ∧ (¬ 0 < c → p1 c.toNat = []) := ⟨fun h => if_pos (by omega), fun h => if_neg (by omega)⟩
  have q2 : (0 < m → p2 m.toNat = 44 :: (sMem ++ 61 :: btext (m.toNat * 1000000000))) ∧ (¬ 0 < m → p2 m.toNat = []) := ⟨fun h => if_pos (by omega), fun h => if_neg (by omega)⟩
  have q3 : (0 < h → p3 h.toNat = 44 :: (sHug ++ 61 :: btext (h.toNat * 1000000000))) ∧ (¬ 0 < h → p3 h.toNat = []) := ⟨fun h => if_pos (by omega), fun h => if_neg (by omega)⟩
  have w1 := (w_most (n := c) (by omega)).1
  have w2 := (w_most (n := m) (by omega)).2
  have w3 := (w_most (n := h) (by omega)).2
  have t6 : Int.toNat 1000000 = 1000000 := rfl
  have t9 : Int.toNat 1000000000 = 1000000000 := rfl
  have v1 : c.toNat * Int.toNat 1000000 ≤ mostA := by rw [t6]; exact w1
  have v2 : m.toNat * Int.toNat 1000000000 ≤ mostA := by rw [t9]; exact w2
  have v3 : h.toNat * Int.toNat 1000000000 ≤ mostA := by rw [t9]; exact w3
  have s1 := (tx_len _ w1).1
  have s2 := (tx_len _ w2).2
  have s3 := (tx_len _ w3).2
  have z1 : (toB (p1 c.toNat)).size ≤ 40 := by
    by_cases k : 0 < c
    · rw [q1.1 k, ← size_toB]
      rw [← size_toB] at s1
      have s1 : (atext (c.toNat * 1000000)).length ≤ 30 := s1
      show (44 :: (sCpu ++ 61 :: atext (c.toNat * 1000000))).length ≤ 40
      have : sCpu.length = 3 := rfl
      rw [List.length_cons, List.length_append, List.length_cons]; omega
    · rw [q1.2 k]; decide
  have z2 : (toB (p2 m.toNat)).size ≤ 43 := by
    by_cases k : 0 < m
    · rw [q2.1 k, ← size_toB]
      rw [← size_toB] at s2
      have s2 : (btext (m.toNat * 1000000000)).length ≤ 30 := s2
      show (44 :: (sMem ++ 61 :: btext (m.toNat * 1000000000))).length ≤ 43
      have : sMem.length = 6 := rfl
      rw [List.length_cons, List.length_append, List.length_cons]; omega
    · rw [q2.2 k]; decide
  obtain ⟨P1, hP1⟩ : ∃ P, P = p1 c.toNat := ⟨_, rfl⟩
  obtain ⟨P2, hP2⟩ : ∃ P, P = P1 ++ p2 m.toNat := ⟨_, rfl⟩
  obtain ⟨P3, hP3⟩ : ∃ P, P = P2 ++ p3 h.toNat := ⟨_, rfl⟩
  have y2 : (toB P2).size ≤ 83 := by
    rw [hP2, hP1, ← toB_append, ByteArray.size_append]; omega
  rw [← hP1] at z1
  refine (⟨Tryz.func26, rfl, rfl, rfl, ⟨rfl, rfl⟩, ok _⟩ : FN 26 Tryz.f26).treeB (mkM_ok Rt7_ok emptyS_ok) (callB_ok emptyB_ok) false 60 ((.both (.to 4) (.to 4))) rfl ?_
  conv => arg 5; cbv
  refine tree_meet (rtA P1) (rtS c m h) 1 (by rfl) ?_ ?_
  · refine ⟨fun k => ⟨⟨?_, ⟨by decide, by decide⟩, wRng (most_rng v1), ?_, ?_, ?_, trivial⟩, rfl, fun i => i, by rfl, ⟨?_, impP_refl _, trivial⟩, ⟨impP_refl _, trivial⟩⟩, fun k => ⟨rfl, fun i => i, by rfl, ⟨?_, impP_refl _, trivial⟩, ⟨impP_refl _, trivial⟩⟩⟩
    · show 0 ≤ c ∧ c ≤ 9223372036854775807; omega
    · show (wHi (c.toNat * Int.toNat 1000000)).toNat * 2 ^ 64 + (wLo (c.toNat * Int.toNat 1000000)).toNat ≤ 1152921504606846976000000000
      rw [wNum, t6]; exact most_le w1
    · show (⟨#[44, 99, 112, 117, 61]⟩ : ByteArray).size + (toB (atext ((wHi (c.toNat * Int.toNat 1000000)).toNat * 2 ^ 64 + (wLo (c.toNat * Int.toNat 1000000)).toNat))).size ≤ 9223372036854775807
      rw [wNum, t6]
      have : (⟨#[44, 99, 112, 117, 61]⟩ : ByteArray).size = 5 := rfl
      omega
    · show (⟨#[]⟩ : ByteArray).size + ((⟨#[44, 99, 112, 117, 61]⟩ : ByteArray) ++ toB (atext ((wHi (c.toNat * Int.toNat 1000000)).toNat * 2 ^ 64 + (wLo (c.toNat * Int.toNat 1000000)).toNat))).size ≤ 9223372036854775807
      rw [wNum, t6, ByteArray.size_append]
      have : (⟨#[44, 99, 112, 117, 61]⟩ : ByteArray).size = 5 := rfl
      have : (⟨#[]⟩ : ByteArray).size = 0 := rfl
      omega
    · have k : 0 < c := of_decide_eq_true k
      show (⟨#[]⟩ : ByteArray) ++ ((⟨#[44, 99, 112, 117, 61]⟩ : ByteArray) ++ toB (atext ((wHi (c.toNat * Int.toNat 1000000)).toNat * 2 ^ 64 + (wLo (c.toNat * Int.toNat 1000000)).toNat))) = toB P1
      rw [wNum, t6, hP1, q1.1 k]
      show toB [] ++ (toB [44, 99, 112, 117, 61] ++ toB _) = _
      rw [toB_append, toB_append]; rfl
    · have k : ¬ 0 < c := of_decide_eq_false k
      show (⟨#[]⟩ : ByteArray) = toB P1
      rw [hP1, q1.2 k]; rfl
  refine exploreB_ok (by first | exact ok _ | exact (ok _).at _ | exact (ok _).round _) (mkM_ok Rt7_ok emptyS_ok) (callB_ok emptyB_ok) (u := false) 60 ((.both (.to 6) (.to 6))) _ rfl ?_
  conv => arg 5; cbv
  refine tree_meet (rtA P2) (rtS c m h) 1 (by rfl) ?_ ?_
  · have mf := mul_facts m.toNat 1000000000 (by decide)
    refine ⟨fun k => ⟨⟨?_, ⟨by decide, by decide⟩, wRng (most_rng v2), ?_, ?_, ?_, ?_, trivial⟩, rfl, fun i => i, by rfl, ⟨?_, impP_refl _, trivial⟩, ⟨impP_refl _, trivial⟩⟩, fun k => ⟨rfl, fun i => i, by rfl, ⟨?_, impP_refl _, trivial⟩, ⟨impP_refl _, trivial⟩⟩⟩
    · show 0 ≤ m ∧ m ≤ 9223372036854775807; omega
    · show ((wHi (m.toNat * Int.toNat 1000000000)).toNat * 2 ^ 64 + (wLo (m.toNat * Int.toNat 1000000000)).toNat) % 1000000000 = 0
      rw [wNum, t9]; exact mf.1
    · show ((wHi (m.toNat * Int.toNat 1000000000)).toNat * 2 ^ 64 + (wLo (m.toNat * Int.toNat 1000000000)).toNat) / 1000000000 ≤ 1152921504606846976
      rw [wNum, t9, mf.2]; omega
    · show (⟨#[44, 109, 101, 109, 111, 114, 121, 61]⟩ : ByteArray).size + (toB (btext ((wHi (m.toNat * Int.toNat 1000000000)).toNat * 2 ^ 64 + (wLo (m.toNat * Int.toNat 1000000000)).toNat))).size ≤ 9223372036854775807
      rw [wNum, t9]
      have : (⟨#[44, 109, 101, 109, 111, 114, 121, 61]⟩ : ByteArray).size = 8 := rfl
      omega
    · show (toB P1).size + ((⟨#[44, 109, 101, 109, 111, 114, 121, 61]⟩ : ByteArray) ++ toB (btext ((wHi (m.toNat * Int.toNat 1000000000)).toNat * 2 ^ 64 + (wLo (m.toNat * Int.toNat 1000000000)).toNat))).size ≤ 9223372036854775807
      rw [wNum, t9, ByteArray.size_append]
      have : (⟨#[44, 109, 101, 109, 111, 114, 121, 61]⟩ : ByteArray).size = 8 := rfl
      omega
    · have k : 0 < m := of_decide_eq_true k
      show toB P1 ++ ((⟨#[44, 109, 101, 109, 111, 114, 121, 61]⟩ : ByteArray) ++ toB (btext ((wHi (m.toNat * Int.toNat 1000000000)).toNat * 2 ^ 64 + (wLo (m.toNat * Int.toNat 1000000000)).toNat))) = toB P2
      rw [wNum, t9, hP2, q2.1 k]
      show toB P1 ++ (toB [44, 109, 101, 109, 111, 114, 121, 61] ++ toB _) = _
      rw [toB_append, toB_append]; rfl
    · have k : ¬ 0 < m := of_decide_eq_false k
      show toB P1 = toB P2
      rw [hP2, q2.2 k, List.append_nil]
  refine exploreB_ok (by first | exact ok _ | exact (ok _).at _ | exact (ok _).round _) (mkM_ok Rt7_ok emptyS_ok) (callB_ok emptyB_ok) (u := false) 60 ((.both (.to 8) (.to 8))) _ rfl ?_
  conv => arg 5; cbv
  refine tree_meet (rtA P3) (rtS c m h) 1 (by rfl) ?_ ?_
  · have mf := mul_facts h.toNat 1000000000 (by decide)
    refine ⟨fun k => ⟨⟨?_, ⟨by decide, by decide⟩, wRng (most_rng v3), ?_, ?_, ?_, ?_, trivial⟩, rfl, fun i => i, by rfl, ⟨?_, impP_refl _, trivial⟩, ⟨impP_refl _, trivial⟩⟩, fun k => ⟨rfl, fun i => i, by rfl, ⟨?_, impP_refl _, trivial⟩, ⟨impP_refl _, trivial⟩⟩⟩
    · show 0 ≤ h ∧ h ≤ 9223372036854775807; omega
    · show ((wHi (h.toNat * Int.toNat 1000000000)).toNat * 2 ^ 64 + (wLo (h.toNat * Int.toNat 1000000000)).toNat) % 1000000000 = 0
      rw [wNum, t9]; exact mf.1
    · show ((wHi (h.toNat * Int.toNat 1000000000)).toNat * 2 ^ 64 + (wLo (h.toNat * Int.toNat 1000000000)).toNat) / 1000000000 ≤ 1152921504606846976
      rw [wNum, t9, mf.2]; omega
    · show (⟨#[44, 104, 117, 103, 101, 112, 97, 103, 101, 115, 61]⟩ : ByteArray).size + (toB (btext ((wHi (h.toNat * Int.toNat 1000000000)).toNat * 2 ^ 64 + (wLo (h.toNat * Int.toNat 1000000000)).toNat))).size ≤ 9223372036854775807
      rw [wNum, t9]
      have : (⟨#[44, 104, 117, 103, 101, 112, 97, 103, 101, 115, 61]⟩ : ByteArray).size = 11 := rfl
      omega
    · show (toB P2).size + ((⟨#[44, 104, 117, 103, 101, 112, 97, 103, 101, 115, 61]⟩ : ByteArray) ++ toB (btext ((wHi (h.toNat * Int.toNat 1000000000)).toNat * 2 ^ 64 + (wLo (h.toNat * Int.toNat 1000000000)).toNat))).size ≤ 9223372036854775807
      rw [wNum, t9, ByteArray.size_append]
      have : (⟨#[44, 104, 117, 103, 101, 112, 97, 103, 101, 115, 61]⟩ : ByteArray).size = 11 := rfl
      omega
    · have k : 0 < h := of_decide_eq_true k
      show toB P2 ++ ((⟨#[44, 104, 117, 103, 101, 112, 97, 103, 101, 115, 61]⟩ : ByteArray) ++ toB (btext ((wHi (h.toNat * Int.toNat 1000000000)).toNat * 2 ^ 64 + (wLo (h.toNat * Int.toNat 1000000000)).toNat))) = toB P3
      rw [wNum, t9, hP3, q3.1 k]
      show toB P2 ++ (toB [44, 104, 117, 103, 101, 112, 97, 103, 101, 115, 61] ++ toB _) = _
      rw [toB_append, toB_append]; rfl
    · have k : ¬ 0 < h := of_decide_eq_false k
      show toB P2 = toB P3
      rw [hP3, q3.2 k, List.append_nil]
  have fl : R = if P3 = [] then [45] else P3.drop 1 := by rw [fl, hP3, hP2, hP1]
  refine exploreB_ok (by first | exact ok _ | exact (ok _).at _ | exact (ok _).round _) (mkM_ok Rt7_ok emptyS_ok) (callB_ok emptyB_ok) (u := false) 60 (.any) _ rfl ?_
  conv => arg 5; cbv
  refine ⟨fun k => ⟨rfl, ?_⟩, fun k => ⟨⟨⟨by decide, ?_⟩, trivial⟩, rfl, ?_⟩⟩
  · have k : toB P3 = (⟨#[]⟩ : ByteArray) := of_decide_eq_true k
    show (⟨#[45]⟩ : ByteArray) = toB R
    rw [fl, if_pos (toB_nil.1 k)]; rfl
  all_goals
    have k : ¬ toB P3 = (⟨#[]⟩ : ByteArray) := of_decide_eq_false k
    have k : P3 ≠ [] := fun e => k (toB_nil.2 e)
  · show (1 : Int) ≤ ((toB P3).size : Int)
    have : P3.length ≠ 0 := fun e => k (List.length_eq_zero_iff.1 e)
    have e : (toB P3).size = P3.length := (size_toB (toB P3)).symm
    omega
  · show (toB P3).extract 1 (((toB P3).size : Int)).toNat = toB R
    rw [Int.toNat_natCast, restB, fl, if_neg k]; rfl
end Go.Proofs.YtpbjcabecalpaaaGreatDoor
namespace Go.Proofs.YtpbjcabecalpaaaGreatDoor
open Go Go.Abs Go.Proofs
noncomputable def Fy0 : Table := addS 26 (.cons shVe .nil) (fun c m h => (.str fun _ => vtxt (c (), m (), h (), ()), [fun _ => vRight (c ()) (m ()) (h ()) = true])) (addS 25 (.cons (.int .i64) .nil) (fun n => (.str fun _ => itz (n ()), [fun _ => -9223372036854775808 ≤ n () ∧ n () ≤ 9223372036854775807])) (addS 8 (.cons shE .nil) (fun k nm pr po l s c hs n => (.bool fun _ => rightB (k (), (nm (), pr (), po (), l (), ()), s (), c (), hs (), n (), ()), [fun _ => ByteArray.size (nm ()) ≤ 9223372036854775807, fun _ => ∀ c ∈ (l () : List CV), ByteArray.size c.1 ≤ 9223372036854775807, fun _ => List.length (α := CV) (l ()) ≤ 9223372036854775807, fun _ => List.length (α := HV) (hs ()) ≤ 9223372036854775807, fun _ => ByteArray.size (s ()) ≤ 9223372036854775807, fun _ => ByteArray.size (c ()) ≤ 9223372036854775807, fun _ => ∀ c ∈ (hs () : List HV), ByteArray.size c.1 ≤ 9223372036854775807])) Fp4))
theorem Fy0_ok : TableOK Tryz.prog G0 Fy0 := addS_ok (⟨Tryz.func26, rfl, rfl, rfl, ⟨rfl, rfl⟩, ok _⟩ : FN 26 Tryz.f26).callable (fun c m h k => by
  have := rtext_ok (c ()) (m ()) (h ()) k.1
  have e : vtxt (c (), m (), h (), ()) = toB (vText (c ()).toNat (m ()).toNat (h ()).toNat) := if_pos k.1
  show PF _ _ (.str fun _ => vtxt (c (), m (), h (), ()))
  rw [e]
  exact this) (addS_ok (⟨Tryz.func25, rfl, rfl, rfl, ⟨rfl, rfl⟩, ok _⟩ : FN 25 Tryz.f25).callable (fun n h => signed_ok (n ()) h.1.1 h.1.2) (addS_ok (⟨Tryz.func8, rfl, rfl, rfl, ⟨rfl, rfl⟩, ok _⟩ : FN 8 Tryz.f8).callable (fun k nm pr po l s c hs n h => rright_ok (k (), (nm (), pr (), po (), l (), ()), s (), c (), hs (), n (), ()) h.1 h.2.1 h.2.2.1 h.2.2.2.1 h.2.2.2.2.1 h.2.2.2.2.2.1 h.2.2.2.2.2.2.1) Fp4_ok))
def addW (a : ByteArray) (ws : List ByteArray) : ByteArray := ws.foldl (fun a w => a ++ (⟨#[32]⟩ ++ w)) a
theorem join_addW : ∀ (ws : List ByteArray) (w : ByteArray), joinB (w :: ws) ⟨#[32]⟩ = addW w ws
  | [], w => by
    unfold joinB addW
    show (⟨(Lib.join [w.data.toList] [32]).toArray⟩ : ByteArray) = w
    rw [show Lib.join [w.data.toList] [32] = w.data.toList by simp [Lib.join]]
  | v :: ws, w => by
    show joinB (w :: v :: ws) ⟨#[32]⟩ = addW (w ++ (⟨#[32]⟩ ++ v)) ws
    rw [← join_addW ws]
    unfold joinB
    congr 2
    show Lib.join (w.data.toList :: v.data.toList :: ws.map (·.data.toList)) [32] = Lib.join ((w ++ (⟨#[32]⟩ ++ v)).data.toList :: ws.map (·.data.toList)) [32]
    have e : (w ++ (⟨#[32]⟩ ++ v)).data.toList = w.data.toList ++ ([32] ++ v.data.toList) := by simp
    rw [e]
    cases ws.map (·.data.toList) with
    | nil => simp [Lib.join]
    | cons x r => simp [Lib.join]
theorem rwords_ok : PF 24 .nil (Sh.mkL 1 .str fun _ => wordsL) := by
  refine (⟨Tryz.func24, rfl, rfl, rfl, ⟨rfl, rfl⟩, ok _⟩ : FN 24 Tryz.f24).treeB (mkM_ok Fy0_ok emptyS_ok) (callB_ok emptyB_ok) false 60 (.any) rfl ?_
  conv => arg 5; cbv
  refine ⟨rfl, .inl rfl, rfl, rfl, fun j h0 h1 => ?_⟩
  have h1 : j < 10 := h1
  obtain rfl | rfl | rfl | rfl | rfl | rfl | rfl | rfl | rfl | rfl : j = 0 ∨ j = 1 ∨ j = 2 ∨ j = 3 ∨ j = 4 ∨ j = 5 ∨ j = 6 ∨ j = 7 ∨ j = 8 ∨ j = 9 := by omega
  all_goals exact impP_refl _
noncomputable def Fy1 : Table := addS 24 .nil (Sh.mkL 1 .str fun _ => wordsL, []) Fy0
theorem Fy1_ok : TableOK Tryz.prog G0 Fy1 := addS_ok (⟨Tryz.func24, rfl, rfl, rfl, ⟨rfl, rfl⟩, ok _⟩ : FN 24 Tryz.f24).callable (fun _ => rwords_ok) Fy0_ok
def optB (x : ByteArray) : List ByteArray := if x = ByteArray.empty then [] else [x]
def optN (k n : Int) : List ByteArray := if 2 < k ∧ k < 9 then [itz n] else []
theorem name_ne {s : ByteArray} (h : nameB s = true) : optB s = [s] := if_neg fun e => by rw [e, name_nil] at h; cases h
theorem tail_parts {k : Int} {p : PoV} {s c : ByteArray} {hs : List HV} {n : Int} (h : rightB (k, p, s, c, hs, n, ()) = true) (hk : k ≠ 0) : tailE (k, p, s, c, hs, n, ()) = optB s ++ (optB c ++ (hs.flatMap chW ++ optN k n)) := by
  have e0 : optB ByteArray.empty = [] := if_pos rfl
  rcases right_kinds h with ⟨p', hp, e⟩ | ⟨s', hs', e⟩ | ⟨s', hs', h1, l1, l2, h2, e⟩ | ⟨k', s', c', n', hk', h1, h2, h3, e⟩ | ⟨k', n', hk', h3, e⟩ | e
  all_goals
    simp only [Prod.mk.injEq, and_true] at e
    obtain ⟨rfl, rfl, rfl, rfl, rfl, rfl⟩ := e
  · exact absurd rfl hk
  · rw [name_ne hs', e0]; rfl
  · rw [name_ne h1, e0, show optN 2 0 = [] from rfl, List.append_nil]; rfl
  · rw [name_ne h1, name_ne h2, show optN k n = [itz n] from if_pos (by omega)]
    rcases hk' with rfl | rfl <;> rfl
  · rw [e0, show optN k n = [itz n] from if_pos (by omega)]
    rcases hk' with rfl | rfl | rfl | rfl <;> rfl
  · rw [e0]; rfl
theorem addW_app (a : ByteArray) (x y : List ByteArray) : addW a (x ++ y) = addW (addW a x) y := List.foldl_append ..
theorem bext {a b : ByteArray} (h : a.data.toList = b.data.toList) : a = b := by rw [← toB_data a, h, toB_data]
def sp : ByteArray := ⟨#[32]⟩
theorem add_three (s a b c : ByteArray) : s ++ (((((sp ++ a) ++ sp) ++ b) ++ sp) ++ c) = addW s [a, b, c] := bext (by simp [addW, sp])
theorem add_four (s a b c d : ByteArray) : s ++ (((((((sp ++ a) ++ sp) ++ b) ++ sp) ++ c) ++ sp) ++ d) = addW s [a, b, c, d] := bext (by simp [addW, sp])
def ryA (k : Int) (S : ByteArray) : Env := [(3, .str fun _ => S), (1, .ptr 0 0)]
def ryL (hs : List HV) (x : Nat × ByteArray) : Env := [(99, .int .i64 fun _ => (x.1 : Int)), (98, .int .i64 fun _ => (hs.length : Int)), (97, Sh.mkL 7 shH fun _ => hs), (3, .str fun _ => x.2), (1, .ptr 0 0)]
theorem addW_size (a : ByteArray) : ∀ (l : List ByteArray), (∀ x ∈ l, x.size ≤ 132) → (addW a l).size ≤ a.size + 133 * l.length
  | [], _ => by show a.size ≤ _; omega
  | x :: l, h => by
    show (addW (a ++ (⟨#[32]⟩ ++ x)) l).size ≤ _
    have h1 := addW_size (a ++ (⟨#[32]⟩ ++ x)) l fun y hy => h y (by simp [hy])
    have h2 := h x (by simp)
    rw [ByteArray.size_append, ByteArray.size_append] at h1
    have : (⟨#[32]⟩ : ByteArray).size = 1 := rfl
    rw [List.length_cons]; omega
theorem three_sizes (X : HV) (h : chB X = true) : sp.size + X.1.size ≤ 9223372036854775807 ∧ (sp ++ X.1).size + sp.size ≤ 9223372036854775807 ∧ ((sp ++ X.1) ++ sp).size + (vtxt X.2.1).size ≤ 9223372036854775807 ∧ (((sp ++ X.1) ++ sp) ++ vtxt X.2.1).size + sp.size ≤ 9223372036854775807 ∧ ((((sp ++ X.1) ++ sp) ++ vtxt X.2.1) ++ sp).size + (vtxt X.2.2.1).size ≤ 9223372036854775807 ∧ ∀ S : ByteArray, S.size ≤ 1000000 → S.size + (((((sp ++ X.1) ++ sp) ++ vtxt X.2.1) ++ sp) ++ vtxt X.2.2.1).size ≤ 9223372036854775807 := by
  have h1 := name_size (chB_parts h).1
  have h2 := vtxt_size X.2.1
  have h3 := vtxt_size X.2.2.1
  have e : sp.size = 1 := rfl
  simp only [ByteArray.size_append, e]
  exact ⟨by omega, by omega, by omega, by omega, by omega, fun S hS => by omega⟩
theorem rtextN_ok (k : Int) (s c : ByteArray) (hs : List HV) (n : Int) (hr : rightB (k, p0, s, c, hs, n, ()) = true) (hk : k ≠ 0) : PF 9 (.cons (shE.mk fun _ => ((k, p0, s, c, hs, n, ()) : EV)) .nil) (.str fun _ => joinB (partsE (k, p0, s, c, hs, n, ())) ⟨#[32]⟩) := by
  have R := right_RI.1 hr
  have kk := R.kk
  have sz : s.size ≤ 16 := by
    by_cases h : isN k
    · exact name_size (R.s1.1 h)
    · rw [R.s2 h]; decide
  have cz : c.size ≤ 16 := by
    by_cases h : k = 4 ∨ k = 5
    · exact name_size (R.c1.1 h)
    · rw [R.c2 h]; decide
  have nz : -9223372036854775808 ≤ n ∧ n ≤ 9223372036854775807 := by
    by_cases h : k < 3 ∨ k = 9
    · rw [R.n1 h]; decide
    · by_cases h3 : k = 3
      · have := R.n2 h3; omega
      · have := R.n3 (by omega) (by omega); omega
  have ez : joinB (partsE (k, p0, s, c, hs, n, ())) ⟨#[32]⟩ = addW (addW (addW (addW (wordsL.getD k.toNat ByteArray.empty) (optB s)) (optB c)) (hs.flatMap chW)) (optN k n) := by
    show joinB (wordsL.getD k.toNat ByteArray.empty :: tailE (k, p0, s, c, hs, n, ())) ⟨#[32]⟩ = _
    rw [join_addW, tail_parts hr hk, addW_app, addW_app, addW_app]
  rw [ez]
  have w0 := words_size k.toNat
  obtain ⟨W, hW⟩ : ∃ W, W = wordsL.getD k.toNat ByteArray.empty := ⟨_, rfl⟩
  obtain ⟨S1, hS1⟩ : ∃ S, S = addW W (optB s) := ⟨_, rfl⟩
  obtain ⟨S2, hS2⟩ : ∃ S, S = addW S1 (optB c) := ⟨_, rfl⟩
  rw [← hW, ← hS1, ← hS2]
  have sp1 : (⟨#[32]⟩ : ByteArray).size = 1 := rfl
  have z1 : S1.size ≤ 50 := by
    rw [hS1]
    unfold optB
    split
    · show W.size ≤ 50; rw [hW]; omega
    · show (W ++ (⟨#[32]⟩ ++ s)).size ≤ 50
      rw [ByteArray.size_append, ByteArray.size_append, hW]; omega
  have z2 : S2.size ≤ 100 := by
    rw [hS2]
    unfold optB
    split
    · show S1.size ≤ 100; omega
    · show (S1 ++ (⟨#[32]⟩ ++ c)).size ≤ 100
      rw [ByteArray.size_append, ByteArray.size_append]; omega
  refine (⟨Tryz.func9, rfl, rfl, rfl, ⟨rfl, rfl⟩, ok _⟩ : FN 9 Tryz.f9).treeB (mkM_ok Fy1_ok emptyS_ok) (callB_ok emptyB_ok) false 60 ((.no (.both (.to 21) (.to 21)))) rfl ?_
  conv => arg 5; cbv
  refine ⟨⟨wk kk.1 kk.2, (by show drawOK _ _ = true; decide +kernel), trivial⟩, ⟨?_, trivial⟩, ?_⟩
  · show (k == 0) = false
    simpa using hk
  refine tree_meet (ryA k S1) [(0, .var (shE.mk fun _ => ((k, p0, s, c, hs, n, ()) : EV)))] 1 (by rfl) ?_ ?_
  · refine ⟨fun a => ⟨⟨?_, ?_, trivial⟩, rfl, fun i => i, by rfl, ⟨?_, impP_refl _, trivial⟩, ⟨impP_refl _, trivial⟩⟩, fun a => ⟨rfl, fun i => i, by rfl, ⟨?_, impP_refl _, trivial⟩, ⟨impP_refl _, trivial⟩⟩⟩
    · show (⟨#[32]⟩ : ByteArray).size + s.size ≤ 9223372036854775807; omega
    · show (wordsL.getD k.toNat ByteArray.empty).size + ((⟨#[32]⟩ : ByteArray) ++ s).size ≤ 9223372036854775807
      rw [ByteArray.size_append]; omega
    · have a : ¬ s = ByteArray.empty := of_decide_eq_true (p := ¬ s = ByteArray.empty) a
      show wordsL.getD k.toNat ByteArray.empty ++ (⟨#[32]⟩ ++ s) = S1
      rw [hS1, hW]; unfold optB; rw [if_neg a]; rfl
    · have a : ¬ ¬ s = ByteArray.empty := of_decide_eq_false (p := ¬ s = ByteArray.empty) a
      show wordsL.getD k.toNat ByteArray.empty = S1
      rw [hS1, hW]; unfold optB; rw [if_pos (Decidable.not_not.1 a)]; rfl
  refine exploreB_ok (by first | exact ok _ | exact (ok _).at _ | exact (ok _).round _) (mkM_ok Fy1_ok emptyS_ok) (callB_ok emptyB_ok) (u := false) 60 ((.both (.to 23) (.to 23))) _ rfl ?_
  conv => arg 5; cbv
  refine tree_meet (ryA k S2) [(0, .var (shE.mk fun _ => ((k, p0, s, c, hs, n, ()) : EV)))] 1 (by rfl) ?_ ?_
  · refine ⟨fun a => ⟨⟨?_, ?_, trivial⟩, rfl, fun i => i, by rfl, ⟨?_, impP_refl _, trivial⟩, ⟨impP_refl _, trivial⟩⟩, fun a => ⟨rfl, fun i => i, by rfl, ⟨?_, impP_refl _, trivial⟩, ⟨impP_refl _, trivial⟩⟩⟩
    · show (⟨#[32]⟩ : ByteArray).size + c.size ≤ 9223372036854775807; omega
    · show S1.size + ((⟨#[32]⟩ : ByteArray) ++ c).size ≤ 9223372036854775807
      rw [ByteArray.size_append]; omega
    · have a : ¬ c = ByteArray.empty := of_decide_eq_true (p := ¬ c = ByteArray.empty) a
      show S1 ++ (⟨#[32]⟩ ++ c) = S2
      rw [hS2]; unfold optB; rw [if_neg a]; rfl
    · have a : ¬ ¬ c = ByteArray.empty := of_decide_eq_false (p := ¬ c = ByteArray.empty) a
      show S1 = S2
      rw [hS2]; unfold optB; rw [if_pos (Decidable.not_not.1 a)]; rfl
  refine exploreB_ok (by first | exact ok _ | exact (ok _).at _ | exact (ok _).round _) (mkM_ok Fy1_ok emptyS_ok) (callB_ok emptyB_ok) (u := false) 60 (.any) _ rfl ?_
  conv => arg 5; cbv
  generalize hG : addW S2 (hs.flatMap chW) = S3
  refine run_inv (ι := Nat × ByteArray) (fun x => hs.length - x.1) (fun x => x.1 ≤ hs.length ∧ addW x.2 ((hs.drop x.1).flatMap chW) = S3 ∧ x.2.size ≤ 100 + 400 * x.1) (ryL hs) (fun _ => [(0, .var (shE.mk fun _ => ((k, p0, s, c, hs, n, ()) : EV)))]) 1 (0, S2) (fun i => i) (by rfl) (by rfl) ⟨Nat.zero_le _, hG, by show S2.size ≤ 100 + 400 * 0; omega⟩ ?_ ⟨impP_refl _, impP_refl _, impP_refl _, impP_refl _, impP_refl _, trivial⟩ ⟨impP_refl _, trivial⟩
  rintro ⟨i, S⟩ hi ih
  dsimp only at hi
  refine exploreB_ok (by first | exact ok _ | exact (ok _).at _ | exact (ok _).round _) (mkM_ok Fy1_ok emptyS_ok) (callB_ok emptyB_ok) (u := false) 60 (.any) _ rfl ?_
  conv => arg 5; cbv
  obtain ⟨hi1, hg, hz⟩ := hi
  have h6 := R.h3
  refine ⟨fun h => ?_, fun h => ?_⟩
  · have h : (i : Int) < (hs.length : Int) := of_decide_eq_true h
    have hi2 : i < hs.length := by omega
    have hw : IntKind.i64.wrap ((i : Int) + 1) = ((i + 1 : Nat) : Int) := by rw [IntWalk.i64_in _ ⟨by omega, by omega⟩]; omega
    have hm : hs.getD i h0 ∈ hs := by
      rw [List.getD_eq_getElem?_getD, List.getElem?_eq_getElem hi2]; exact List.getElem_mem hi2
    have eg : List.getD (α := HV) hs ((i : Int)).toNat (shH.dflt : shH.val) = hs.getD i h0 := by
      rw [Int.toNat_natCast]
      exact getD_any (α := HV) _ _ hi2
    have hX : chB (List.getD (α := HV) hs ((i : Int)).toNat (shH.dflt : shH.val)) = true := by rw [eg]; exact R.h4 _ hm
    have hS : S.size ≤ 100 + 400 * i := hz
    have q := fun X : HV => three_sizes X
    refine ⟨⟨⟨Int.natCast_nonneg i, h⟩, (q _ hX).1, (q _ hX).2.1, (chB_parts hX).2.1, (q _ hX).2.2.1, (q _ hX).2.2.2.1, (chB_parts hX).2.2, (q _ hX).2.2.2.2.1, ?_, (by show drawOK _ _ = true; decide +kernel), trivial⟩, ?_⟩
    · exact (q _ hX).2.2.2.2.2 S (by omega)
    rw [drop_at h0 hi2, List.flatMap_cons, addW_app] at hg
    refine ih (i + 1, addW S (chW (hs.getD i h0))) (fun i => i) ⟨by show i + 1 ≤ hs.length; omega, hg, ?_⟩ (by show hs.length - (i + 1) < hs.length - i; omega) (by rfl) ⟨⟨rfl, hw⟩, impP_refl _, impP_refl _, ?_, impP_refl _, trivial⟩ ⟨impP_refl _, trivial⟩
    · have z := addW_size S (chW (hs.getD i h0)) fun x hx => by
        have := chB_parts (R.h4 _ hm)
        simp only [chW, List.mem_cons, List.not_mem_nil, or_false] at hx
        rcases hx with rfl | rfl | rfl
        · exact Nat.le_trans (name_size this.1) (by decide)
        · exact vtxt_size _
        · exact vtxt_size _
      have : (chW (hs.getD i h0)).length = 3 := rfl
      show (addW S (chW (hs.getD i h0))).size ≤ 100 + 400 * (i + 1)
      omega
    · refine Eq.trans ?_ (congrArg (fun X : HV => addW S (chW X)) eg)
      exact add_three S _ _ _
  · have h : ¬ (i : Int) < (hs.length : Int) := of_decide_eq_false h
    rw [List.drop_eq_nil_of_le (by omega)] at hg
    have hg : S = S3 := hg
    have h6 := R.h3
    have hS : S.size ≤ 100 + 400 * i := hz
    have iz := itz_size nz.1 nz.2
    have a1 : (2 < k ∧ k < 9) → addW S3 (optN k n) = S ++ (⟨#[32]⟩ ++ itz n) := fun h => by unfold optN; rw [if_pos h, hg]; rfl
    have a2 : ¬ (2 < k ∧ k < 9) → addW S3 (optN k n) = S := fun h => by unfold optN; rw [if_neg h, hg]; rfl
    refine ⟨fun a => ⟨fun b => ⟨⟨nz, ?_, ?_, trivial⟩, rfl, (a1 ⟨of_decide_eq_true a, of_decide_eq_true b⟩).symm⟩, fun b => ⟨rfl, (a2 fun h => absurd h.2 (of_decide_eq_false b)).symm⟩⟩, fun a => ⟨rfl, (a2 fun h => absurd h.1 (of_decide_eq_false a)).symm⟩⟩
    · show (⟨#[32]⟩ : ByteArray).size + (itz n).size ≤ 9223372036854775807; omega
    · show S.size + ((⟨#[32]⟩ : ByteArray) ++ itz n).size ≤ 9223372036854775807
      rw [ByteArray.size_append]; omega
end Go.Proofs.YtpbjcabecalpaaaGreatDoor
namespace Go.Proofs.YtpbjcabecalpaaaGreatDoor
open Go Go.Abs Go.Proofs
def rzL (l : List CV) (x : Nat × ByteArray) : Env := [(39, .int .i64 fun _ => (x.1 : Int)), (38, .int .i64 fun _ => (l.length : Int)), (37, Sh.mkL 10 shC fun _ => l), (3, .str fun _ => x.2), (1, .ptr 0 0)]
def rzM (l : List CV) (i : Nat) (S r : ByteArray) : Env := [(6, .str fun _ => r), (5, .ptr 1 0), (39, .int .i64 fun _ => (i : Int)), (38, .int .i64 fun _ => (l.length : Int)), (37, Sh.mkL 10 shC fun _ => l), (3, .str fun _ => S), (1, .ptr 0 0)]
theorem four_sizes (X : CV) (h : contB X = true) (r : ByteArray) (hr : r.size ≤ 3) : sp.size + X.1.size ≤ 9223372036854775807 ∧ (sp ++ X.1).size + sp.size ≤ 9223372036854775807 ∧ ((sp ++ X.1) ++ sp).size + (vtxt X.2.1).size ≤ 9223372036854775807 ∧ (((sp ++ X.1) ++ sp) ++ vtxt X.2.1).size + sp.size ≤ 9223372036854775807 ∧ ((((sp ++ X.1) ++ sp) ++ vtxt X.2.1) ++ sp).size + (vtxt X.2.2.1).size ≤ 9223372036854775807 ∧ (((((sp ++ X.1) ++ sp) ++ vtxt X.2.1) ++ sp) ++ vtxt X.2.2.1).size + sp.size ≤ 9223372036854775807 ∧ ((((((sp ++ X.1) ++ sp) ++ vtxt X.2.1) ++ sp) ++ vtxt X.2.2.1) ++ sp).size + r.size ≤ 9223372036854775807 ∧ ∀ S : ByteArray, S.size ≤ 1000000 → S.size + (((((((sp ++ X.1) ++ sp) ++ vtxt X.2.1) ++ sp) ++ vtxt X.2.2.1) ++ sp) ++ r).size ≤ 9223372036854775807 := by
  have h1 := name_size (contB_parts h).1
  have h2 := vtxt_size X.2.1
  have h3 := vtxt_size X.2.2.1
  have e : sp.size = 1 := rfl
  simp only [ByteArray.size_append, e]
  exact ⟨by omega, by omega, by omega, by omega, by omega, by omega, by omega, fun S hS => by omega⟩
theorem rtext0_ok (p : PoV) (hp : podB p = true) : PF 9 (.cons (shE.mk fun _ => ((0, p, ByteArray.empty, ByteArray.empty, [], 0, ()) : EV)) .nil) (.str fun _ => joinB (partsE (0, p, ByteArray.empty, ByteArray.empty, [], 0, ())) ⟨#[32]⟩) := by
  obtain ⟨nm, pr, po, l, ⟨⟩⟩ := p
  obtain ⟨p1, p2, p3, p4, p5⟩ := pod_parts hp
  have p1 : nameB nm = true := p1
  have p2 : -1000 ≤ pr ∧ pr ≤ 1000 := p2
  have p3 : 0 ≤ po ∧ po ≤ 2 := p3
  have p4 : 1 ≤ l.length ∧ l.length ≤ 6 := p4
  have p5 : ∀ c ∈ l, contB c = true := p5
  have ez : joinB (partsE (0, (nm, pr, po, l, ()), ByteArray.empty, ByteArray.empty, [], 0, ())) ⟨#[32]⟩ = addW (addW (wordsL.getD 0 ByteArray.empty) [nm, itz pr, itz po]) (l.flatMap conW) := by
    show joinB (wordsL.getD 0 ByteArray.empty :: nm :: itz pr :: itz po :: l.flatMap conW) ⟨#[32]⟩ = _
    rw [join_addW]; rfl
  rw [ez]
  have n1 := name_size p1
  have i1 := itz_size (n := pr) (by omega) (by omega)
  have i2 := itz_size (n := po) (by omega) (by omega)
  have w0 := words_size 0
  have es : sp.size = 1 := rfl
  obtain ⟨S0, hS0⟩ : ∃ S, S = addW (wordsL.getD 0 ByteArray.empty) [nm, itz pr, itz po] := ⟨_, rfl⟩
  rw [← hS0]
  have z0 : S0.size ≤ 100 := by
    rw [hS0, ← add_three]
    simp only [ByteArray.size_append, es]
    omega
  refine (⟨Tryz.func9, rfl, rfl, rfl, ⟨rfl, rfl⟩, ok _⟩ : FN 9 Tryz.f9).treeB (mkM_ok Fy1_ok emptyS_ok) (callB_ok emptyB_ok) false 60 ((.yes .any)) rfl ?_
  conv => arg 5; cbv
  refine ⟨⟨wk (k := 0) (by decide) (by decide), (by show drawOK _ _ = true; decide +kernel), trivial⟩, ⟨rfl, trivial⟩, ⟨?_, ?_, ?_, ?_, ?_, ?_, ?_, ?_, (by show drawOK _ _ = true; decide +kernel), trivial⟩, ?_⟩
  · show sp.size + nm.size ≤ 9223372036854775807; omega
  · show (sp ++ nm).size + sp.size ≤ 9223372036854775807
    simp only [ByteArray.size_append, es]; omega
  · show -9223372036854775808 ≤ pr ∧ pr ≤ 9223372036854775807; omega
  · show ((sp ++ nm) ++ sp).size + (itz pr).size ≤ 9223372036854775807
    simp only [ByteArray.size_append, es]; omega
  · show (((sp ++ nm) ++ sp) ++ itz pr).size + sp.size ≤ 9223372036854775807
    simp only [ByteArray.size_append, es]; omega
  · show -9223372036854775808 ≤ po ∧ po ≤ 9223372036854775807; omega
  · show ((((sp ++ nm) ++ sp) ++ itz pr) ++ sp).size + (itz po).size ≤ 9223372036854775807
    simp only [ByteArray.size_append, es]; omega
  · show (wordsL.getD 0 ByteArray.empty).size + (((((sp ++ nm) ++ sp) ++ itz pr) ++ sp) ++ itz po).size ≤ 9223372036854775807
    simp only [ByteArray.size_append, es]; omega
  generalize hG : addW S0 (l.flatMap conW) = S3
  refine run_inv (ι := Nat × ByteArray) (fun x => l.length - x.1) (fun x => x.1 ≤ l.length ∧ addW x.2 ((l.drop x.1).flatMap conW) = S3 ∧ x.2.size ≤ 100 + 600 * x.1) (rzL l) (fun _ => [(0, .var (shE.mk fun _ => ((0, (nm, pr, po, l, ()), ByteArray.empty, ByteArray.empty, [], 0, ()) : EV)))]) 1 (0, S0) (fun i => i) (by rfl) (by rfl) ⟨Nat.zero_le _, hG, by show S0.size ≤ 100 + 600 * 0; omega⟩ ?_ ⟨impP_refl _, impP_refl _, impP_refl _, (add_three _ _ _ _).trans hS0.symm, impP_refl _, trivial⟩ ⟨impP_refl _, trivial⟩
  rintro ⟨i, S⟩ hi ih
  dsimp only at hi
  obtain ⟨hi1, hg, hz⟩ := hi
  refine exploreB_ok (by first | exact ok _ | exact (ok _).at _ | exact (ok _).round _) (mkM_ok Fy1_ok emptyS_ok) (callB_ok emptyB_ok) (u := false) 60 ((.both (.both (.both (.both (.both (.to 16) (.to 16)) (.both (.to 16) (.to 16))) (.both (.both (.to 16) (.to 16)) (.both (.to 16) (.to 16)))) (.both (.both (.both (.to 16) (.to 16)) (.both (.to 16) (.to 16))) (.both (.both (.to 16) (.to 16)) (.both (.to 16) (.to 16))))) .any)) _ rfl ?_
  conv => arg 5; cbv
  refine ⟨fun h => ?_, fun h => ⟨rfl, ?_⟩⟩
  · have h : (i : Int) < (l.length : Int) := of_decide_eq_true h
    have hi2 : i < l.length := by omega
    have hw : IntKind.i64.wrap ((i : Int) + 1) = ((i + 1 : Nat) : Int) := by rw [IntWalk.i64_in _ ⟨by omega, by omega⟩]; omega
    have hm : l.getD i c0 ∈ l := by
      rw [List.getD_eq_getElem?_getD, List.getElem?_eq_getElem hi2]; exact List.getElem_mem hi2
    have eg : List.getD (α := CV) l ((i : Int)).toNat (shC.dflt : shC.val) = l.getD i c0 := by
      rw [Int.toNat_natCast]
      exact getD_any (α := CV) _ _ hi2
    have hX : contB (List.getD (α := CV) l ((i : Int)).toNat (shC.dflt : shC.val)) = true := by rw [eg]; exact p5 _ hm
    refine ⟨⟨⟨Int.natCast_nonneg i, h⟩, trivial⟩, ?_⟩
    obtain ⟨r, hrr⟩ : ∃ r, r = rsB (List.getD (α := CV) l ((i : Int)).toNat (shC.dflt : shC.val)).2.2.2.1 := ⟨_, rfl⟩
    refine tree_meet (rzM l i S r) [(0, .var (shE.mk fun _ => ((0, (nm, pr, po, l, ()), ByteArray.empty, ByteArray.empty, [], 0, ()) : EV))), (1, .var (shC.mk fun _ => List.getD (α := CV) l ((i : Int)).toNat (shC.dflt : shC.val)))] 2 (by rfl) ?_ ?_
    refine ⟨fun h0 => ⟨⟨(by decide), trivial⟩, ⟨fun h1 => ⟨⟨(by decide), trivial⟩, ⟨fun h2 => ⟨⟨(by decide), trivial⟩, ⟨fun z => absurd z (by decide), fun z => ⟨rfl, fun i => i, by rfl, ⟨?_, impP_refl _, impP_refl _, impP_refl _, impP_refl _, impP_refl _, impP_refl _, trivial⟩, ⟨impP_refl _, impP_refl _, trivial⟩⟩⟩⟩, fun h2 => ⟨fun z => absurd z (by decide), fun z => ⟨rfl, fun i => i, by rfl, ⟨?_, impP_refl _, impP_refl _, impP_refl _, impP_refl _, impP_refl _, impP_refl _, trivial⟩, ⟨impP_refl _, impP_refl _, trivial⟩⟩⟩⟩⟩, fun h1 => ⟨fun h2 => ⟨⟨(by decide), trivial⟩, ⟨fun z => absurd z (by decide), fun z => ⟨rfl, fun i => i, by rfl, ⟨?_, impP_refl _, impP_refl _, impP_refl _, impP_refl _, impP_refl _, impP_refl _, trivial⟩, ⟨impP_refl _, impP_refl _, trivial⟩⟩⟩⟩, fun h2 => ⟨fun z => absurd z (by decide), fun z => ⟨rfl, fun i => i, by rfl, ⟨?_, impP_refl _, impP_refl _, impP_refl _, impP_refl _, impP_refl _, impP_refl _, trivial⟩, ⟨impP_refl _, impP_refl _, trivial⟩⟩⟩⟩⟩⟩, fun h0 => ⟨fun h1 => ⟨⟨(by decide), trivial⟩, ⟨fun h2 => ⟨⟨(by decide), trivial⟩, ⟨fun z => absurd z (by decide), fun z => ⟨rfl, fun i => i, by rfl, ⟨?_, impP_refl _, impP_refl _, impP_refl _, impP_refl _, impP_refl _, impP_refl _, trivial⟩, ⟨impP_refl _, impP_refl _, trivial⟩⟩⟩⟩, fun h2 => ⟨fun z => absurd z (by decide), fun z => ⟨rfl, fun i => i, by rfl, ⟨?_, impP_refl _, impP_refl _, impP_refl _, impP_refl _, impP_refl _, impP_refl _, trivial⟩, ⟨impP_refl _, impP_refl _, trivial⟩⟩⟩⟩⟩, fun h1 => ⟨fun h2 => ⟨⟨(by decide), trivial⟩, ⟨fun z => absurd z (by decide), fun z => ⟨rfl, fun i => i, by rfl, ⟨?_, impP_refl _, impP_refl _, impP_refl _, impP_refl _, impP_refl _, impP_refl _, trivial⟩, ⟨impP_refl _, impP_refl _, trivial⟩⟩⟩⟩, fun h2 => ⟨fun z => ⟨rfl, fun i => i, by rfl, ⟨?_, impP_refl _, impP_refl _, impP_refl _, impP_refl _, impP_refl _, impP_refl _, trivial⟩, ⟨impP_refl _, impP_refl _, trivial⟩⟩, fun z => absurd z (by decide)⟩⟩⟩⟩
    · have h0 : (List.getD (α := CV) l ((i : Int)).toNat (shC.dflt : shC.val)).2.2.2.1.getD 0 false = true := h0
      have h1 : (List.getD (α := CV) l ((i : Int)).toNat (shC.dflt : shC.val)).2.2.2.1.getD 1 false = true := h1
      have h2 : (List.getD (α := CV) l ((i : Int)).toNat (shC.dflt : shC.val)).2.2.2.1.getD 2 false = true := h2
      show _ = r
      rw [hrr]
      show _ = rs3 _ _ _
      rw [h0, h1, h2]; first | decide | decide +kernel | fail
    · have h0 : (List.getD (α := CV) l ((i : Int)).toNat (shC.dflt : shC.val)).2.2.2.1.getD 0 false = true := h0
      have h1 : (List.getD (α := CV) l ((i : Int)).toNat (shC.dflt : shC.val)).2.2.2.1.getD 1 false = true := h1
      have h2 : (List.getD (α := CV) l ((i : Int)).toNat (shC.dflt : shC.val)).2.2.2.1.getD 2 false = false := h2
      show _ = r
      rw [hrr]
      show _ = rs3 _ _ _
      rw [h0, h1, h2]; first | decide | decide +kernel | fail
    · have h0 : (List.getD (α := CV) l ((i : Int)).toNat (shC.dflt : shC.val)).2.2.2.1.getD 0 false = true := h0
      have h1 : (List.getD (α := CV) l ((i : Int)).toNat (shC.dflt : shC.val)).2.2.2.1.getD 1 false = false := h1
      have h2 : (List.getD (α := CV) l ((i : Int)).toNat (shC.dflt : shC.val)).2.2.2.1.getD 2 false = true := h2
      show _ = r
      rw [hrr]
      show _ = rs3 _ _ _
      rw [h0, h1, h2]; first | decide | decide +kernel | fail
    · have h0 : (List.getD (α := CV) l ((i : Int)).toNat (shC.dflt : shC.val)).2.2.2.1.getD 0 false = true := h0
      have h1 : (List.getD (α := CV) l ((i : Int)).toNat (shC.dflt : shC.val)).2.2.2.1.getD 1 false = false := h1
      have h2 : (List.getD (α := CV) l ((i : Int)).toNat (shC.dflt : shC.val)).2.2.2.1.getD 2 false = false := h2
      show _ = r
      rw [hrr]
      show _ = rs3 _ _ _
      rw [h0, h1, h2]; first | decide | decide +kernel | fail
    · have h0 : (List.getD (α := CV) l ((i : Int)).toNat (shC.dflt : shC.val)).2.2.2.1.getD 0 false = false := h0
      have h1 : (List.getD (α := CV) l ((i : Int)).toNat (shC.dflt : shC.val)).2.2.2.1.getD 1 false = true := h1
      have h2 : (List.getD (α := CV) l ((i : Int)).toNat (shC.dflt : shC.val)).2.2.2.1.getD 2 false = true := h2
      show _ = r
      rw [hrr]
      show _ = rs3 _ _ _
      rw [h0, h1, h2]; first | decide | decide +kernel | fail
    · have h0 : (List.getD (α := CV) l ((i : Int)).toNat (shC.dflt : shC.val)).2.2.2.1.getD 0 false = false := h0
      have h1 : (List.getD (α := CV) l ((i : Int)).toNat (shC.dflt : shC.val)).2.2.2.1.getD 1 false = true := h1
      have h2 : (List.getD (α := CV) l ((i : Int)).toNat (shC.dflt : shC.val)).2.2.2.1.getD 2 false = false := h2
      show _ = r
      rw [hrr]
      show _ = rs3 _ _ _
      rw [h0, h1, h2]; first | decide | decide +kernel | fail
    · have h0 : (List.getD (α := CV) l ((i : Int)).toNat (shC.dflt : shC.val)).2.2.2.1.getD 0 false = false := h0
      have h1 : (List.getD (α := CV) l ((i : Int)).toNat (shC.dflt : shC.val)).2.2.2.1.getD 1 false = false := h1
      have h2 : (List.getD (α := CV) l ((i : Int)).toNat (shC.dflt : shC.val)).2.2.2.1.getD 2 false = true := h2
      show _ = r
      rw [hrr]
      show _ = rs3 _ _ _
      rw [h0, h1, h2]; first | decide | decide +kernel | fail
    · have h0 : (List.getD (α := CV) l ((i : Int)).toNat (shC.dflt : shC.val)).2.2.2.1.getD 0 false = false := h0
      have h1 : (List.getD (α := CV) l ((i : Int)).toNat (shC.dflt : shC.val)).2.2.2.1.getD 1 false = false := h1
      have h2 : (List.getD (α := CV) l ((i : Int)).toNat (shC.dflt : shC.val)).2.2.2.1.getD 2 false = false := h2
      show _ = r
      rw [hrr]
      show _ = rs3 _ _ _
      rw [h0, h1, h2]; first | decide | decide +kernel | fail
    refine exploreB_ok (by first | exact ok _ | exact (ok _).at _ | exact (ok _).round _) (mkM_ok Fy1_ok emptyS_ok) (callB_ok emptyB_ok) (u := false) 60 (.any) _ rfl ?_
    conv => arg 5; cbv
    have hS : S.size ≤ 100 + 600 * i := hz
    have rz : r.size ≤ 3 := by rw [hrr]; exact rsB_size _
    have q := four_sizes _ hX r rz
    refine ⟨⟨q.1, q.2.1, (contB_parts hX).2.1, q.2.2.1, q.2.2.2.1, (contB_parts hX).2.2, q.2.2.2.2.1, q.2.2.2.2.2.1, q.2.2.2.2.2.2.1, q.2.2.2.2.2.2.2 S (by omega), (by show drawOK _ _ = true; decide +kernel), trivial⟩, ?_⟩
    rw [drop_at c0 hi2, List.flatMap_cons, addW_app] at hg
    refine ih (i + 1, addW S (conW (l.getD i c0))) (fun i => i) ⟨by show i + 1 ≤ l.length; omega, hg, ?_⟩ (by show l.length - (i + 1) < l.length - i; omega) (by rfl) ⟨⟨rfl, hw⟩, impP_refl _, impP_refl _, ?_, impP_refl _, trivial⟩ ⟨impP_refl _, trivial⟩
    · have z := addW_size S (conW (l.getD i c0)) fun x hx => by
        have := contB_parts (p5 _ hm)
        simp only [conW, List.mem_cons, List.not_mem_nil, or_false] at hx
        rcases hx with rfl | rfl | rfl | rfl
        · exact Nat.le_trans (name_size this.1) (by decide)
        · exact vtxt_size _
        · exact vtxt_size _
        · exact Nat.le_trans (rsB_size _) (by decide)
      have : (conW (l.getD i c0)).length = 4 := rfl
      show (addW S (conW (l.getD i c0))).size ≤ 100 + 600 * (i + 1)
      omega
    · refine Eq.trans ?_ (congrArg (fun X : CV => addW S (conW X)) eg)
      refine Eq.trans (add_four S _ _ _ r) ?_
      rw [hrr]; rfl
  · have h : ¬ (i : Int) < (l.length : Int) := of_decide_eq_false h
    rw [List.drop_eq_nil_of_le (by omega)] at hg
    exact hg
theorem evrtext_ok (e : EV) (hr : rightB e = true) : PF 9 (.cons (shE.mk fun _ => e) .nil) (.str fun _ => textE e) := by
  have et : textE e = joinB (partsE e) ⟨#[32]⟩ := if_pos hr
  rw [et]
  by_cases hk : e.1 = 0
  · rcases right_kinds hr with ⟨p, hp, rfl⟩ | ⟨s, hs, rfl⟩ | ⟨s, hs, h1, l1, l2, h2, rfl⟩ | ⟨k, s, c, n, hk', h1, h2, h3, rfl⟩ | ⟨k, n, hk', h3, rfl⟩ | rfl
    · exact rtext0_ok p hp
    · exact absurd hk (by show ¬ (1 : Int) = 0; decide)
    · exact absurd hk (by show ¬ (2 : Int) = 0; decide)
    · have hk : k = 0 := hk
      omega
    · have hk : k = 0 := hk
      omega
    · exact absurd hk (by show ¬ (9 : Int) = 0; decide)
  · obtain ⟨k, p, s, c, hs, n, ⟨⟩⟩ := e
    obtain rfl := (right_RI.1 hr).p2 hk
    exact rtextN_ok k s c hs n hr hk
noncomputable def Fz0 : Table := addS 9 (.cons shE .nil) (fun k nm pr po l s c hs n => (.str fun _ => textE (k (), (nm (), pr (), po (), l (), ()), s (), c (), hs (), n (), ()), [fun _ => rightB (k (), (nm (), pr (), po (), l (), ()), s (), c (), hs (), n (), ()) = true])) Fy1
theorem Fz0_ok : TableOK Tryz.prog G0 Fz0 := addS_ok (⟨Tryz.func9, rfl, rfl, rfl, ⟨rfl, rfl⟩, ok _⟩ : FN 9 Tryz.f9).callable (fun k nm pr po l s c hs n h => evrtext_ok (k (), (nm (), pr (), po (), l (), ()), s (), c (), hs (), n (), ()) h.1) Fy1_ok
end Go.Proofs.YtpbjcabecalpaaaGreatDoor
namespace Go.Proofs.YtpbjcabecalpaaaGreatDoor
open Go Go.Abs Go.Proofs
theorem tell_ok (a b : EV) (hl : a.2.1.2.2.2.1.length ≤ 9223372036854775807) (hh : a.2.2.2.2.1.length ≤ 9223372036854775807) (hl2 : b.2.1.2.2.2.1.length ≤ 9223372036854775807) (hh2 : b.2.2.2.2.1.length ≤ 9223372036854775807) (y1 : a.2.1.1.size ≤ 9223372036854775807) (w2 : ∀ c ∈ a.2.1.2.2.2.1, (c.1 : ByteArray).size ≤ 9223372036854775807) (y3 : a.2.2.1.size ≤ 9223372036854775807) (y4 : a.2.2.2.1.size ≤ 9223372036854775807) (w5 : ∀ c ∈ a.2.2.2.2.1, (c.1 : ByteArray).size ≤ 9223372036854775807) : PF 3 (.cons (shE.mk fun _ => a) (.cons (shE.mk fun _ => b) .nil)) (.bool fun _ => true) := by
  obtain ⟨k, ⟨nm, pr, po, l, ⟨⟩⟩, s, c, hs, n, ⟨⟩⟩ := a
  obtain ⟨k', ⟨nm', pr', po', l', ⟨⟩⟩, s', c', hs', n', ⟨⟩⟩ := b
  refine (⟨Tryz.func3, rfl, rfl, rfl, ⟨rfl, rfl⟩, ok _⟩ : FN 3 Tryz.f3).treeB (mkM_ok Fz0_ok emptyS_ok) (callB_ok emptyB_ok) false 60 ((.no (.both .any (.both (.yes (.yes .any)) (.yes (.yes .any)))))) rfl ?_
  conv => arg 5; cbv
  have fC : ∀ (l : List CV) (j : Unit → Int), shC.fits (shC.mk fun x => (l : List shC.val).getD (j ()).toNat shC.dflt) := fun l j => fits_of_mk shC _
  have fH : ∀ (hs : List HV) (j : Unit → Int), shH.fits (shH.mk fun x => (hs : List shH.val).getD (j ()).toNat shH.dflt) := fun hs j => fits_of_mk shH _
  have m1 : ∀ l : List CV, l.length ≤ 9223372036854775807 → (rdL shC.rd (fun _ => (l.length : Int)) fun j => shC.mk fun _ => (l : List shC.val).getD (j ()).toNat shC.dflt).length ≤ 9223372036854775807 := fun l hl => by
    rw [rdL_len]; show ((l.length : Nat) : Int).toNat ≤ _; rw [Int.toNat_natCast]; exact hl
  have m2 : ∀ hs : List HV, hs.length ≤ 9223372036854775807 → (rdL shH.rd (fun _ => (hs.length : Int)) fun j => shH.mk fun _ => (hs : List shH.val).getD (j ()).toNat shH.dflt).length ≤ 9223372036854775807 := fun hs hl => by
    rw [rdL_len]; show ((hs.length : Nat) : Int).toNat ≤ _; rw [Int.toNat_natCast]; exact hl
  have L1 := m1 l hl
  have L2 := m2 hs hh
  have L3 := m1 l' hl2
  have L4 := m2 hs' hh2
  have e1 := rd_list l
  have e2 : (rdL shH.rd (fun _ => (hs.length : Int)) fun j => shH.mk fun _ => (hs : List shH.val).getD (j ()).toNat shH.dflt) = hs := rdL_mkL shH hs
  have eA : shE.rd (shE.mk fun _ => ((k, (nm, pr, po, l, ()), s, c, hs, n, ()) : EV)) = ((k, (nm, pr, po, l, ()), s, c, hs, n, ()) : EV) := rd_mk shE _
  have eB : shE.rd (shE.mk fun _ => ((k', (nm', pr', po', l', ()), s', c', hs', n', ()) : EV)) = ((k', (nm', pr', po', l', ()), s', c', hs', n', ()) : EV) := rd_mk shE _
  refine ⟨⟨rfl, trivial⟩, ⟨L1, L2, fC l, fH hs, L3, L4, fC l', fH hs', (by show drawOK _ _ = true; decide +kernel), trivial⟩, fun g => ⟨rfl, rfl⟩, fun g => ?_⟩
  have y2 : ∀ x ∈ (rdL shC.rd (fun _ => (l.length : Int)) fun j => shC.mk fun _ => (l : List shC.val).getD (j ()).toNat shC.dflt : List CV), ByteArray.size x.1 ≤ 9223372036854775807 := fun x hx => w2 x (Eq.mp (congrArg (fun l : List CV => x ∈ l) e1) hx)
  have y5 : ∀ x ∈ (rdL shH.rd (fun _ => (hs.length : Int)) fun j => shH.mk fun _ => (hs : List shH.val).getD (j ()).toNat shH.dflt : List HV), ByteArray.size x.1 ≤ 9223372036854775807 := fun x hx => w5 x (Eq.mp (congrArg (fun l : List HV => x ∈ l) e2) hx)
  refine ⟨⟨y1, y2, L1, L2, y3, y4, y5, fC l, fH hs, trivial⟩, fun h => ?_, fun h => ?_⟩
  · exact ⟨⟨h, fC l, fH hs, L1, L2, fC l, fH hs, y1, y2, L1, L2, y3, y4, y5, fC l, fH hs, trivial⟩, ⟨beq_self_eq_true _, trivial⟩, ⟨L1, L2, fC l, fH hs, fC l', fH hs', L1, L2, fC l, fH hs, fC l', fH hs', trivial⟩, ⟨beq_self_eq_true _, trivial⟩, ⟨L1, L2, fC l, fH hs, (by show drawOK _ _ = true; decide +kernel), trivial⟩, rfl, decide_eq_true rfl⟩
  · have h2 : rightB (k, (nm, pr, po, l, ()), s, c, hs, n, ()) = false := (congrArg rightB eA).symm.trans h
    refine ⟨⟨L1, L2, fC l, fH hs, y1, y2, L1, L2, y3, y4, y5, fC l, fH hs, trivial⟩, ⟨beq_self_eq_true _, trivial⟩, ⟨L1, L2, fC l, fH hs, fC l', fH hs', L1, L2, fC l, fH hs, fC l', fH hs', trivial⟩, ⟨beq_self_eq_true _, trivial⟩, ⟨L1, L2, fC l, fH hs, (by show drawOK _ _ = true; decide +kernel), trivial⟩, rfl, ?_⟩
    exact decide_eq_true ((congrArg textE eA).trans (text_wrong h2))
end Go.Proofs.YtpbjcabecalpaaaGreatDoor
namespace Go.Abs
theorem PFun.imp {P : Program} {G : Gs} {f : Nat} {args r r' : PV} (h : PFun P G f args r) (hi : impP r r') : PFun P G f args r' := by
  refine ⟨h.1, fun M w vs hG hI hr => (h.2 M w vs hG hI hr).mono ?_⟩
  rintro e w' ⟨M', ρ', v, g', rfl, h1, h2⟩
  exact ⟨M', ρ', v, g', rfl, h1, impP_ok _ _ hi h2⟩
end Go.Abs
namespace Go.Proofs.YtpbjcabecalpaaaGreatDoor
open Go Go.Abs Go.Proofs Go.ChangeShapes Go.WideShapes Go.ChangeAt Go.RowKit
theorem own : ownKnob Tryz.prog.godebug = none := by kernel_rfl
theorem laidOut : laidOutB Tryz.prog = true := by kernel_rfl
def rowLaid : List (String × DataW Unit) := Rows.eventsBackRow.laid
theorem star : "*" ++ "errors.errorString" = "*errors.errorString" := by decide
theorem facts_row {W : World} (hL : laidMetH Tryz.prog rowLaid W) (hS : W.ShapedOpen Tryz.prog) : GOK G0 (memOf W) := by
  have hL : laidMet Tryz.prog rowLaid W := hL
  refine ⟨fun g => ⟨rfl, _, rfl⟩, fun g hg => ?_, fun g hg => ?_, fun nm hn g hg => ?_⟩
  · obtain ⟨m, hm⟩ := Tryz.laysM219.s1_3 W hS
    obtain rfl : g = 0 := Option.some.inj (hg.symm.trans (show Tryz.prog.globalNamed "internal/bytealg.MaxLen" = some 0 by kernel_rfl))
    have hm : W.cell? ⟨0, 0, none⟩ = some (.int .i64 m) := hm
    unfold World.cell? at hm
    cases ho : W.heap[0]? with
    | none => rw [show (⟨0, 0, none⟩ : Addr).block = 0 from rfl, ho] at hm; cases hm
    | some o =>
      rw [show (⟨0, 0, none⟩ : Addr).block = 0 from rfl, ho] at hm
      cases o with
      | cells cs t fr => exact ⟨cs, t, fr, m, ho, by simpa using hm⟩
      | _ => cases hm
  · obtain rfl : g = 3 := Option.some.inj (hg.symm.trans (show Tryz.prog.globalNamed "internal/strconv.uint64pow10" = some 3 by kernel_rfl))
    have hT : Lib.TabIs Tryz.prog W "internal/strconv.uint64pow10" .u64 Lib.pow10Tab :=
      Lib.tabIs_of_head (rest := rowLaid.tail.tail.tail) hg (t := 81) (e := 77) (n := 20) (by kernel_rfl) (by kernel_rfl) (by kernel_rfl) (by kernel_rfl) (by kernel_rfl) (laidMet.tail (laidMet.tail hL))
    unfold Lib.TabIs World.var? at hT
    rw [hg] at hT
    have hT : (match W.heap[3]? with
      | some (Obj.cells cs _ _) => some cs
      | _ => none) = some (Lib.pow10Tab.map fun z => Value.int .u64 z).toArray := hT
    cases ho : W.heap[3]? with
    | none => rw [ho] at hT; cases hT
    | some o =>
      rw [ho] at hT
      cases o with
      | cells cs t fr => exact ⟨t, fr, ho.trans (by rw [Option.some.inj hT])⟩
      | _ => cases hT
  · have row : ∀ u, Tryz.prog.typeName? 3 u = some "*errors.errorString" → u = 210 := fun u h => typeName_ptr_named (P := Tryz.prog) (nm := "errors.errorString") (by rw [star]; kernel_rfl) (by kernel_rfl) (by decide) u (by rw [star]; exact h)
    have hv : ∃ tp p, W.var? Tryz.prog nm = some #[.iface tp p] := by
      have h5 := laidMet.tail (laidMet.tail (laidMet.tail (laidMet.tail hL)))
      rcases hn with rfl | rfl
      · obtain ⟨a, s, h, _⟩ := laid_sentinel (g := 1) (laidMet.tail h5) (by kernel_rfl) (by kernel_rfl) Tryz.underlying98 row Tryz.underlying210 Tryz.underlying212 rfl rfl Tryz.underlying9 (by kernel_rfl) (by kernel_rfl)
        exact ⟨_, _, h⟩
      · obtain ⟨a, s, h, _⟩ := laid_sentinel (g := 2) h5 (by kernel_rfl) (by kernel_rfl) Tryz.underlying98 row Tryz.underlying210 Tryz.underlying212 rfl rfl Tryz.underlying9 (by kernel_rfl) (by kernel_rfl)
        exact ⟨_, _, h⟩
    obtain ⟨tp, p, hv⟩ := hv
    unfold World.var? at hv
    rw [hg] at hv
    have hv : (match W.heap[g]? with
      | some (Obj.cells cs _ _) => some cs
      | _ => none) = some #[.iface tp p] := hv
    cases ho : W.heap[g]? with
    | none => rw [ho] at hv; cases hv
    | some o =>
      rw [ho] at hv
      cases o with
      | cells cs t fr => exact ⟨tp, p, t, fr, ho.trans (by rw [Option.some.inj hv])⟩
      | _ => cases hv
theorem ts_i {t : TypeId} (h : Tryz.prog.underlying t = some (.int .i64)) : TS Tryz.prog (.int .i64) (.inl t) := h
theorem ts_str : TS Tryz.prog .str (.inl 9) := (show Tryz.prog.underlying _ = _ by kernel_rfl)
theorem ts_vec : TS Tryz.prog shVe (.inl 45) := by
  refine ⟨_, Tryz.underlying45, by kernel_rfl, ?_⟩
  exact ⟨rfl, by kernel_rfl, (show Tryz.prog.underlying _ = _ by kernel_rfl), rfl, by kernel_rfl, (show Tryz.prog.underlying _ = _ by kernel_rfl), rfl, by kernel_rfl, (show Tryz.prog.underlying _ = _ by kernel_rfl), trivial⟩
theorem ts_res : TS Tryz.prog (.arrB 3) (.inl 48) := ⟨4, by kernel_rfl, by kernel_rfl, by kernel_rfl, by kernel_rfl⟩
theorem ts_con : TS Tryz.prog shC (.inl 50) := by
  refine ⟨_, Tryz.underlying50, by kernel_rfl, ?_⟩
  exact ⟨rfl, by kernel_rfl, ts_str, rfl, by kernel_rfl, ts_vec, rfl, by kernel_rfl, ts_vec, rfl, by kernel_rfl, ts_res, trivial⟩
theorem ts_cons : TS Tryz.prog (.slice 10 shC) (.inl 22) := ⟨50, by kernel_rfl, by kernel_rfl, by decide, ts_con⟩
theorem ts_pod : TS Tryz.prog shP (.inl 24) := by
  refine ⟨_, Tryz.underlying24, by kernel_rfl, ?_⟩
  exact ⟨rfl, by kernel_rfl, ts_str, rfl, by kernel_rfl, ts_i (by kernel_rfl), rfl, by kernel_rfl, ts_i (by kernel_rfl), rfl, by kernel_rfl, ts_cons, trivial⟩
theorem ts_chg : TS Tryz.prog shH (.inl 47) := by
  refine ⟨_, Tryz.underlying47, by kernel_rfl, ?_⟩
  exact ⟨rfl, by kernel_rfl, ts_str, rfl, by kernel_rfl, ts_vec, rfl, by kernel_rfl, ts_vec, trivial⟩
theorem ts_chgs : TS Tryz.prog (.slice 7 shH) (.inl 25) := ⟨47, by kernel_rfl, by kernel_rfl, by decide, ts_chg⟩
theorem ts_ev : TS Tryz.prog shE (.inl 27) := by
  refine ⟨_, Tryz.underlying27, by kernel_rfl, ?_⟩
  exact ⟨rfl, by kernel_rfl, ts_i (by kernel_rfl), rfl, by kernel_rfl, ts_pod, rfl, by kernel_rfl, ts_str, rfl, by kernel_rfl, ts_str, rfl, by kernel_rfl, ts_chgs, rfl, by kernel_rfl, ts_i (by kernel_rfl), trivial⟩
theorem ev_ok {e : EV} (h : shE.okV e) : e.2.1.2.2.2.1.length ≤ 9223372036854775807 ∧ e.2.2.2.2.1.length ≤ 9223372036854775807 ∧ res3 e := by
  obtain ⟨k, ⟨nm, pr, po, l, ⟨⟩⟩, s, c, hs, n, ⟨⟩⟩ := e
  have hx : Go.maxLen ≤ 9223372036854775807 := by decide
  have h1 : List.length (α := CV) l ≤ Go.maxLen ∧ allL (α := CV) (fun x => shC.okV x) l := h.2.1.2.2.2.1
  have h2 : List.length (α := HV) hs ≤ Go.maxLen := h.2.2.2.2.1.1
  refine ⟨Nat.le_trans h1.1 hx, Nat.le_trans h2 hx, fun c hc => ?_⟩
  obtain ⟨i, hi⟩ := List.getElem?_of_mem hc
  exact (h1.2 i c hi).2.2.2.1
theorem ev_sizes {e : EV} (h : shE.okV e) : e.2.1.1.size ≤ 9223372036854775807 ∧ (∀ c ∈ e.2.1.2.2.2.1, (c.1 : ByteArray).size ≤ 9223372036854775807) ∧ e.2.2.1.size ≤ 9223372036854775807 ∧ e.2.2.2.1.size ≤ 9223372036854775807 ∧ ∀ c ∈ e.2.2.2.2.1, (c.1 : ByteArray).size ≤ 9223372036854775807 := by
  obtain ⟨k, ⟨nm, pr, po, l, ⟨⟩⟩, s, c, hs, n, ⟨⟩⟩ := e
  have hx : Go.maxLen ≤ 9223372036854775807 := by decide
  have h1 : nm.size ≤ Go.maxLen := h.2.1.1
  have h2 : s.size ≤ Go.maxLen := h.2.2.1
  have h3 : c.size ≤ Go.maxLen := h.2.2.2.1
  have h4 : List.length (α := CV) l ≤ Go.maxLen ∧ allL (α := CV) (fun x => shC.okV x) l := h.2.1.2.2.2.1
  have h5 : List.length (α := HV) hs ≤ Go.maxLen ∧ allL (α := HV) (fun x => shH.okV x) hs := h.2.2.2.2.1
  refine ⟨Nat.le_trans h1 hx, fun x hx' => ?_, Nat.le_trans h2 hx, Nat.le_trans h3 hx, fun x hx' => ?_⟩
  · obtain ⟨i, hi⟩ := List.getElem?_of_mem hx'
    exact Nat.le_trans (h4.2 i x hi).1 hx
  · obtain ⟨i, hi⟩ := List.getElem?_of_mem hx'
    exact Nat.le_trans (h5.2 i x hi).1 hx
noncomputable def laidWorld (os : Os) : World := World.laidAll Tryz.prog os rowLaid
theorem laid_met (os : Os) (args : Array Value) : laidMet Tryz.prog rowLaid ((laidWorld os).forCall (fun _ _ => 0) ⟨#[], args, []⟩).memory :=
  laidMet_laidAll args (by kernel_rfl) (by kernel_rfl)
end Go.Proofs.YtpbjcabecalpaaaGreatDoor
