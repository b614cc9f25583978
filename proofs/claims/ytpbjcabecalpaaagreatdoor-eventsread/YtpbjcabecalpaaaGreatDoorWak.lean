/- A part of what the walks of this claim stand on. -/
import Derived.Test.YtpbjcabecalpaaaGreatDoorWaj
import Derived.Test.YtpbjcabecalpaaaGreatDoorGac
import Derived.Test.YtpbjcabecalpaaaGreatDoorWag
import Derived.Test.YtpbjcabecalpaaaGreatDoorWai
import Derived.Test.YtpbjcabecalpaaaGreatDoorWae
set_option maxRecDepth 2000
set_option linter.unusedVariables false
set_option linter.unusedSimpArgs false
namespace Go.Proofs.YtpbjcabecalpaaaGreatDoor
open Go Go.Abs Go.Proofs
theorem wHi_of {h l : Int} (h1 : 0 <= h /\ h < 2 ^ 64) (h2 : 0 <= l /\ l < 2 ^ 64) : wHi (h.toNat * 2 ^ 64 + l.toNat) = h /\ wLo (h.toNat * 2 ^ 64 + l.toNat) = l := by unfold wHi wLo; omega
theorem div_back {V n : Nat} (h : V % n = 0) : V = V / n * n := (Nat.div_mul_cancel (Nat.dvd_of_mod_eq_zero h)).symm
noncomputable def Rt7 : Table := addS 52 (.cons shWd .nil) (fun h l => (.str fun _ => toB (btext ((h ()).toNat * 2 ^ 64 + (l ()).toNat)), [fun _ => (0 <= h () /\ h () < 2 ^ 64) /\ 0 <= l () /\ l () < 2 ^ 64, fun _ => ((h ()).toNat * 2 ^ 64 + (l ()).toNat) % 1000000000 = 0, fun _ => ((h ()).toNat * 2 ^ 64 + (l ()).toNat) / 1000000000 <= 1152921504606846976]))
 (addS 51 (.cons (.int .i64) (.cons (.int .u64) .nil)) (fun n b => (.agg (.cons (.int .u64 fun _ => wHi ((n ()).toNat * (b ()).toNat)) (.cons (.int .u64 fun _ => wLo ((n ()).toNat * (b ()).toNat)) .nil)), [fun _ => 0 <= n () /\ n () <= 9223372036854775807, fun _ => 0 <= b () /\ b () < 18446744073709551616]))
 (addS 25 (.cons (.int .i64) .nil) (fun n => (.str fun _ => toB (Lib.itoa (n ())), [fun _ => -9223372036854775808 <= n () /\ n () <= 9223372036854775807])) Rt6))
theorem Rt7_ok : TableOK Tryz.prog G0 Rt7 := addS_ok qf52.callable (fun h l c => by
 obtain ⟨⟨h1, h2⟩, h4, h5, _⟩ := c
 have h4 : ((h ()).toNat * 2 ^ 64 + (l ()).toNat) % 1000000000 = 0 := h4
 have h5 : ((h ()).toNat * 2 ^ 64 + (l ()).toNat) / 1000000000 <= 1152921504606846976 := h5
 have h1 : 0 <= h () /\ h () < 2 ^ 64 := h1
 have h2 : 0 <= l () /\ l () < 2 ^ 64 := h2
 obtain ⟨e2, e3⟩ := wHi_of h1 h2
 obtain ⟨V, hV⟩ : ∃ V, V = (h ()).toNat * 2 ^ 64 + (l ()).toNat := ⟨_, rfl⟩
 rw [<- hV] at h4 h5 e2 e3
 have := dbin_ok (V / 1000000000) h5 V (div_back h4)
 rw [e2, e3, hV] at this
 exact this) (addS_ok qf51.callable (fun n b c => by
 obtain ⟨h1, h2, _⟩ := c
 have h1 : 0 <= n () /\ n () <= 9223372036854775807 := h1
 have h2 : 0 <= b () /\ b () < 18446744073709551616 := h2
 have := dnum_ok (n ()).toNat (b ()).toNat _ (by omega) (by omega) rfl (by omega)
 rw [Int.toNat_of_nonneg h1.1, Int.toNat_of_nonneg h2.1] at this
 exact this) (addS_ok qf25.callable (fun n h => signed_ok (n ()) h.1.1 h.1.2) Rt6_ok))
def p1 (n : Nat) : List UInt8 := if 0 < n then 44 :: (sCpu ++ 61 :: atext (n * 1000000)) else []
def p2 (n : Nat) : List UInt8 := if 0 < n then 44 :: (sMem ++ 61 :: btext (n * 1000000000)) else []
def p3 (n : Nat) : List UInt8 := if 0 < n then 44 :: (sHug ++ 61 :: btext (n * 1000000000)) else []
theorem flat_join (a b c : List (List UInt8)) (ha : a.length <= 1) (hb : b.length <= 1) (hc : c.length <= 1) : (if a ++ (b ++ c) = [] then ([45] : List UInt8) else Lib.join (a ++ (b ++ c)) [44]) = if (a.flatMap (44 :: ·)) ++ (b.flatMap (44 :: ·)) ++ (c.flatMap (44 :: ·)) = [] then [45] else ((a.flatMap (44 :: ·)) ++ (b.flatMap (44 :: ·)) ++ (c.flatMap (44 :: ·))).drop 1 := by
 have h : ∀ l : List (List UInt8), l.length <= 1 -> l = [] \/ ∃ x, l = [x] := fun l hl => by
  match l, hl with
  | [], _ => exact .inl rfl
  | [x], _ => exact .inr ⟨x, rfl⟩
 rcases h a ha with rfl | ⟨x, rfl⟩ <;> rcases h b hb with rfl | ⟨y, rfl⟩ <;> rcases h c hc with rfl | ⟨z, rfl⟩ <;> simp [Lib.join]
theorem vt_flat (c m h : Nat) : vText c m h = if p1 c ++ p2 m ++ p3 h = [] then [45] else (p1 c ++ p2 m ++ p3 h).drop 1 := by
 have e1 : p1 c = (if 0 < c then [sCpu ++ 61 :: atext (c * 1000000)] else []).flatMap (44 :: ·) := by
  unfold p1
  split
  ·rw [List.flatMap_singleton]
  ·rfl
 have e2 : p2 m = (if 0 < m then [sMem ++ 61 :: btext (m * 1000000000)] else []).flatMap (44 :: ·) := by
  unfold p2
  split
  ·rw [List.flatMap_singleton]
  ·rfl
 have e3 : p3 h = (if 0 < h then [sHug ++ 61 :: btext (h * 1000000000)] else []).flatMap (44 :: ·) := by
  unfold p3
  split
  ·rw [List.flatMap_singleton]
  ·rfl
 rw [e1, e2, e3]
 unfold vText vParts
 refine flat_join _ _ _ ?_ ?_ ?_
 ·split
  ·exact Nat.le_refl 1
  ·exact Nat.zero_le 1
 ·split
  ·exact Nat.le_refl 1
  ·exact Nat.zero_le 1
 ·split
  ·exact Nat.le_refl 1
  ·exact Nat.zero_le 1
theorem mul_facts (n e : Nat) (he : 0 < e) : (n * e) % e = 0 /\ n * e / e = n := ⟨Nat.mul_mod_left _ _, Nat.mul_div_cancel _ he⟩
theorem most_rng {V : Nat} (h : V <= mostA) : V < 18446744073709551616 * 18446744073709551616 := Nat.lt_of_le_of_lt h (by decide)
theorem most_le {V : Nat} (h : V <= mostA) : V <= 1152921504606846976000000000 := h
def rtA (P : List UInt8) : Env := [(3, .str fun _ => toB P), (1, .ptr 0 0)]
def rtS (c m h : Int) : Store := [(0, .var (.agg (.cons (.int .i64 fun _ => c) (.cons (.int .i64 fun _ => m) (.cons (.int .i64 fun _ => h) .nil)))))]
theorem rtext_ok (c m h : Int) (hr : vRight c m h = true) : PF 26 (.cons (.agg (.cons (.int .i64 fun _ => c) (.cons (.int .i64 fun _ => m) (.cons (.int .i64 fun _ => h) .nil)))) .nil) (.str fun _ => toB (vText c.toNat m.toNat h.toNat)) := by
 have hr := vRight_iff.1 hr
 have fl := vt_flat c.toNat m.toNat h.toNat
 generalize vText c.toNat m.toNat h.toNat = R at fl
 have q1 : (0 < c -> p1 c.toNat = 44 :: (sCpu ++ 61 :: atext (c.toNat * 1000000))) /\ (¬ 0 < c -> p1 c.toNat = []) := ⟨fun h => if_pos (by omega), fun h => if_neg (by omega)⟩
 have q2 : (0 < m -> p2 m.toNat = 44 :: (sMem ++ 61 :: btext (m.toNat * 1000000000))) /\ (¬ 0 < m -> p2 m.toNat = []) := ⟨fun h => if_pos (by omega), fun h => if_neg (by omega)⟩
 have q3 : (0 < h -> p3 h.toNat = 44 :: (sHug ++ 61 :: btext (h.toNat * 1000000000))) /\ (¬ 0 < h -> p3 h.toNat = []) := ⟨fun h => if_pos (by omega), fun h => if_neg (by omega)⟩
 have w1 := (w_most (n := c) (by omega)).1
 have w2 := (w_most (n := m) (by omega)).2
 have w3 := (w_most (n := h) (by omega)).2
 have t6 : Int.toNat 1000000 = 1000000 := rfl
 have t9 : Int.toNat 1000000000 = 1000000000 := rfl
 have v1 : c.toNat * Int.toNat 1000000 <= mostA := by rw [t6]; exact w1
 have v2 : m.toNat * Int.toNat 1000000000 <= mostA := by rw [t9]; exact w2
 have v3 : h.toNat * Int.toNat 1000000000 <= mostA := by rw [t9]; exact w3
 have s1 := (tx_len _ w1).1
 have s2 := (tx_len _ w2).2
 have s3 := (tx_len _ w3).2
 have z1 : (toB (p1 c.toNat)).size <= 40 := by
  by_cases k : 0 < c
  ·rw [q1.1 k, <- size_toB]
   rw [<- size_toB] at s1
   have s1 : (atext (c.toNat * 1000000)).length <= 30 := s1
   show (44 :: (sCpu ++ 61 :: atext (c.toNat * 1000000))).length <= 40
   have : sCpu.length = 3 := rfl
   rw [List.length_cons, List.length_append, List.length_cons]; omega
  ·rw [q1.2 k]; decide
 have z2 : (toB (p2 m.toNat)).size <= 43 := by
  by_cases k : 0 < m
  ·rw [q2.1 k, <- size_toB]
   rw [<- size_toB] at s2
   have s2 : (btext (m.toNat * 1000000000)).length <= 30 := s2
   show (44 :: (sMem ++ 61 :: btext (m.toNat * 1000000000))).length <= 43
   have : sMem.length = 6 := rfl
   rw [List.length_cons, List.length_append, List.length_cons]; omega
  ·rw [q2.2 k]; decide
 obtain ⟨P1, hP1⟩ : ∃ P, P = p1 c.toNat := ⟨_, rfl⟩
 obtain ⟨P2, hP2⟩ : ∃ P, P = P1 ++ p2 m.toNat := ⟨_, rfl⟩
 obtain ⟨P3, hP3⟩ : ∃ P, P = P2 ++ p3 h.toNat := ⟨_, rfl⟩
 have y2 : (toB P2).size <= 83 := by
  rw [hP2, hP1, <- toB_append, ByteArray.size_append]; omega
 rw [<- hP1] at z1
 refine tX qf26 Rt7_ok ((.both (.to 4) (.to 4))) rfl ?_
 conv => arg 5; cbv
 refine tree_meet (rtA P1) (rtS c m h) 1 (by rfl) ?_ ?_
 ·refine ⟨fun k => ⟨⟨?_, ⟨by decide, by decide⟩, wRng (most_rng v1), ?_, ?_, ?_, trivial⟩, rfl, fun i => i, by rfl, ⟨?_, iR, trivial⟩, ⟨iR, trivial⟩⟩, fun k => ⟨rfl, fun i => i, by rfl, ⟨?_, iR, trivial⟩, ⟨iR, trivial⟩⟩⟩
  ·show 0 <= c /\ c <= 9223372036854775807; omega
  ·show (wHi (c.toNat * Int.toNat 1000000)).toNat * 2 ^ 64 + (wLo (c.toNat * Int.toNat 1000000)).toNat <= 1152921504606846976000000000
   rw [wNum, t6]; exact most_le w1
  ·show (⟨#[44, 99, 112, 117, 61]⟩ : ByteArray).size + (toB (atext ((wHi (c.toNat * Int.toNat 1000000)).toNat * 2 ^ 64 + (wLo (c.toNat * Int.toNat 1000000)).toNat))).size <= 9223372036854775807
   rw [wNum, t6]
   have : (⟨#[44, 99, 112, 117, 61]⟩ : ByteArray).size = 5 := rfl
   omega
  ·show (⟨#[]⟩ : ByteArray).size + ((⟨#[44, 99, 112, 117, 61]⟩ : ByteArray) ++ toB (atext ((wHi (c.toNat * Int.toNat 1000000)).toNat * 2 ^ 64 + (wLo (c.toNat * Int.toNat 1000000)).toNat))).size <= 9223372036854775807
   rw [wNum, t6, ByteArray.size_append]
   have : (⟨#[44, 99, 112, 117, 61]⟩ : ByteArray).size = 5 := rfl
   have : (⟨#[]⟩ : ByteArray).size = 0 := rfl
   omega
  ·have k : 0 < c := of_decide_eq_true k
   show (⟨#[]⟩ : ByteArray) ++ ((⟨#[44, 99, 112, 117, 61]⟩ : ByteArray) ++ toB (atext ((wHi (c.toNat * Int.toNat 1000000)).toNat * 2 ^ 64 + (wLo (c.toNat * Int.toNat 1000000)).toNat))) = toB P1
   rw [wNum, t6, hP1, q1.1 k]
   show toB [] ++ (toB [44, 99, 112, 117, 61] ++ toB _) = _
   rw [toB_append, toB_append]; rfl
  ·have k : ¬ 0 < c := of_decide_eq_false k
   show (⟨#[]⟩ : ByteArray) = toB P1
   rw [hP1, q1.2 k]; rfl
 refine bX Rt7_ok ((.both (.to 6) (.to 6))) _ rfl ?_
 conv => arg 5; cbv
 refine tree_meet (rtA P2) (rtS c m h) 1 (by rfl) ?_ ?_
 ·have mf := mul_facts m.toNat 1000000000 (by decide)
  refine ⟨fun k => ⟨⟨?_, ⟨by decide, by decide⟩, wRng (most_rng v2), ?_, ?_, ?_, ?_, trivial⟩, rfl, fun i => i, by rfl, ⟨?_, iR, trivial⟩, ⟨iR, trivial⟩⟩, fun k => ⟨rfl, fun i => i, by rfl, ⟨?_, iR, trivial⟩, ⟨iR, trivial⟩⟩⟩
  ·show 0 <= m /\ m <= 9223372036854775807; omega
  ·show ((wHi (m.toNat * Int.toNat 1000000000)).toNat * 2 ^ 64 + (wLo (m.toNat * Int.toNat 1000000000)).toNat) % 1000000000 = 0
   rw [wNum, t9]; exact mf.1
  ·show ((wHi (m.toNat * Int.toNat 1000000000)).toNat * 2 ^ 64 + (wLo (m.toNat * Int.toNat 1000000000)).toNat) / 1000000000 <= 1152921504606846976
   rw [wNum, t9, mf.2]; omega
  ·show (⟨#[44, 109, 101, 109, 111, 114, 121, 61]⟩ : ByteArray).size + (toB (btext ((wHi (m.toNat * Int.toNat 1000000000)).toNat * 2 ^ 64 + (wLo (m.toNat * Int.toNat 1000000000)).toNat))).size <= 9223372036854775807
   rw [wNum, t9]
   have : (⟨#[44, 109, 101, 109, 111, 114, 121, 61]⟩ : ByteArray).size = 8 := rfl
   omega
  ·show (toB P1).size + ((⟨#[44, 109, 101, 109, 111, 114, 121, 61]⟩ : ByteArray) ++ toB (btext ((wHi (m.toNat * Int.toNat 1000000000)).toNat * 2 ^ 64 + (wLo (m.toNat * Int.toNat 1000000000)).toNat))).size <= 9223372036854775807
   rw [wNum, t9, ByteArray.size_append]
   have : (⟨#[44, 109, 101, 109, 111, 114, 121, 61]⟩ : ByteArray).size = 8 := rfl
   omega
  ·have k : 0 < m := of_decide_eq_true k
   show toB P1 ++ ((⟨#[44, 109, 101, 109, 111, 114, 121, 61]⟩ : ByteArray) ++ toB (btext ((wHi (m.toNat * Int.toNat 1000000000)).toNat * 2 ^ 64 + (wLo (m.toNat * Int.toNat 1000000000)).toNat))) = toB P2
   rw [wNum, t9, hP2, q2.1 k]
   show toB P1 ++ (toB [44, 109, 101, 109, 111, 114, 121, 61] ++ toB _) = _
   rw [toB_append, toB_append]; rfl
  ·have k : ¬ 0 < m := of_decide_eq_false k
   show toB P1 = toB P2
   rw [hP2, q2.2 k, List.append_nil]
 refine bX Rt7_ok ((.both (.to 8) (.to 8))) _ rfl ?_
 conv => arg 5; cbv
 refine tree_meet (rtA P3) (rtS c m h) 1 (by rfl) ?_ ?_
 ·have mf := mul_facts h.toNat 1000000000 (by decide)
  refine ⟨fun k => ⟨⟨?_, ⟨by decide, by decide⟩, wRng (most_rng v3), ?_, ?_, ?_, ?_, trivial⟩, rfl, fun i => i, by rfl, ⟨?_, iR, trivial⟩, ⟨iR, trivial⟩⟩, fun k => ⟨rfl, fun i => i, by rfl, ⟨?_, iR, trivial⟩, ⟨iR, trivial⟩⟩⟩
  ·show 0 <= h /\ h <= 9223372036854775807; omega
  ·show ((wHi (h.toNat * Int.toNat 1000000000)).toNat * 2 ^ 64 + (wLo (h.toNat * Int.toNat 1000000000)).toNat) % 1000000000 = 0
   rw [wNum, t9]; exact mf.1
  ·show ((wHi (h.toNat * Int.toNat 1000000000)).toNat * 2 ^ 64 + (wLo (h.toNat * Int.toNat 1000000000)).toNat) / 1000000000 <= 1152921504606846976
   rw [wNum, t9, mf.2]; omega
  ·show (⟨#[44, 104, 117, 103, 101, 112, 97, 103, 101, 115, 61]⟩ : ByteArray).size + (toB (btext ((wHi (h.toNat * Int.toNat 1000000000)).toNat * 2 ^ 64 + (wLo (h.toNat * Int.toNat 1000000000)).toNat))).size <= 9223372036854775807
   rw [wNum, t9]
   have : (⟨#[44, 104, 117, 103, 101, 112, 97, 103, 101, 115, 61]⟩ : ByteArray).size = 11 := rfl
   omega
  ·show (toB P2).size + ((⟨#[44, 104, 117, 103, 101, 112, 97, 103, 101, 115, 61]⟩ : ByteArray) ++ toB (btext ((wHi (h.toNat * Int.toNat 1000000000)).toNat * 2 ^ 64 + (wLo (h.toNat * Int.toNat 1000000000)).toNat))).size <= 9223372036854775807
   rw [wNum, t9, ByteArray.size_append]
   have : (⟨#[44, 104, 117, 103, 101, 112, 97, 103, 101, 115, 61]⟩ : ByteArray).size = 11 := rfl
   omega
  ·have k : 0 < h := of_decide_eq_true k
   show toB P2 ++ ((⟨#[44, 104, 117, 103, 101, 112, 97, 103, 101, 115, 61]⟩ : ByteArray) ++ toB (btext ((wHi (h.toNat * Int.toNat 1000000000)).toNat * 2 ^ 64 + (wLo (h.toNat * Int.toNat 1000000000)).toNat))) = toB P3
   rw [wNum, t9, hP3, q3.1 k]
   show toB P2 ++ (toB [44, 104, 117, 103, 101, 112, 97, 103, 101, 115, 61] ++ toB _) = _
   rw [toB_append, toB_append]; rfl
  ·have k : ¬ 0 < h := of_decide_eq_false k
   show toB P2 = toB P3
   rw [hP3, q3.2 k, List.append_nil]
 have fl : R = if P3 = [] then [45] else P3.drop 1 := by rw [fl, hP3, hP2, hP1]
 refine bX Rt7_ok (.any) _ rfl ?_
 conv => arg 5; cbv
 refine ⟨fun k => ⟨rfl, ?_⟩, fun k => ⟨⟨⟨by decide, ?_⟩, trivial⟩, rfl, ?_⟩⟩
 ·have k : toB P3 = (⟨#[]⟩ : ByteArray) := of_decide_eq_true k
  show (⟨#[45]⟩ : ByteArray) = toB R
  rw [fl, if_pos (toB_nil.1 k)]; rfl
 all_goals
  have k : ¬ toB P3 = (⟨#[]⟩ : ByteArray) := of_decide_eq_false k
  have k : P3 ≠ [] := fun e => k (toB_nil.2 e)
 ·show (1 : Int) <= ((toB P3).size : Int)
  have : P3.length ≠ 0 := fun e => k (List.length_eq_zero_iff.1 e)
  have e : (toB P3).size = P3.length := (size_toB (toB P3)).symm
  omega
 ·show (toB P3).extract 1 (((toB P3).size : Int)).toNat = toB R
  rw [Int.toNat_natCast, restB, fl, if_neg k]; rfl
noncomputable def Fy0 : Table := addS 26 (.cons shVe .nil) (fun c m h => (.str fun _ => vtxt (c (), m (), h (), ()), [fun _ => vRight (c ()) (m ()) (h ()) = true])) (addS 25 (.cons (.int .i64) .nil) (fun n => (.str fun _ => itz (n ()), [fun _ => -9223372036854775808 <= n () /\ n () <= 9223372036854775807])) (addS 8 (.cons shE .nil) (fun k nm pr po l s c hs n => (.bool fun _ => rightB (k (), (nm (), pr (), po (), l (), ()), s (), c (), hs (), n (), ()), [fun _ => ByteArray.size (nm ()) <= 9223372036854775807, fun _ => ∀ c ∈ (l () : List CV), ByteArray.size c.1 <= 9223372036854775807, fun _ => List.length (α := CV) (l ()) <= 9223372036854775807, fun _ => List.length (α := HV) (hs ()) <= 9223372036854775807, fun _ => ByteArray.size (s ()) <= 9223372036854775807, fun _ => ByteArray.size (c ()) <= 9223372036854775807, fun _ => ∀ c ∈ (hs () : List HV), ByteArray.size c.1 <= 9223372036854775807])) Fp4))
theorem Fy0_ok : TableOK Tryz.prog G0 Fy0 := addS_ok qf26.callable (fun c m h k => by
 have := rtext_ok (c ()) (m ()) (h ()) k.1
 have e : vtxt (c (), m (), h (), ()) = toB (vText (c ()).toNat (m ()).toNat (h ()).toNat) := if_pos k.1
 show PF _ _ (.str fun _ => vtxt (c (), m (), h (), ()))
 rw [e]
 exact this) (addS_ok qf25.callable (fun n h => signed_ok (n ()) h.1.1 h.1.2) (addS_ok qf8.callable (fun k nm pr po l s c hs n h => rright_ok (k (), (nm (), pr (), po (), l (), ()), s (), c (), hs (), n (), ()) h.1 h.2.1 h.2.2.1 h.2.2.2.1 h.2.2.2.2.1 h.2.2.2.2.2.1 h.2.2.2.2.2.2.1) Fp4_ok))
def addW (a : ByteArray) (ws : List ByteArray) : ByteArray := ws.foldl (fun a w => a ++ (⟨#[32]⟩ ++ w)) a
theorem join_addW : ∀ (ws : List ByteArray) (w : ByteArray), joinB (w :: ws) ⟨#[32]⟩ = addW w ws
 | [], w => by
   unfold joinB addW
   show (⟨(Lib.join [w.data.toList] [32]).toArray⟩ : ByteArray) = w
   rw [show Lib.join [w.data.toList] [32] = w.data.toList by simp [Lib.join]]
 | v :: ws, w => by
   show joinB (w :: v :: ws) ⟨#[32]⟩ = addW (w ++ (⟨#[32]⟩ ++ v)) ws
   rw [<- join_addW ws]
   unfold joinB
   congr 2
   show Lib.join (w.data.toList :: v.data.toList :: ws.map (·.data.toList)) [32] = Lib.join ((w ++ (⟨#[32]⟩ ++ v)).data.toList :: ws.map (·.data.toList)) [32]
   have e : (w ++ (⟨#[32]⟩ ++ v)).data.toList = w.data.toList ++ ([32] ++ v.data.toList) := by simp
   rw [e]
   cases ws.map (·.data.toList) with
   | nil => simp [Lib.join]
   | cons x r => simp [Lib.join]
theorem rwords_ok : PF 24 .nil (Sh.mkL 1 .str fun _ => wordsL) := by
 refine tX qf24 Fy0_ok (.any) rfl ?_
 conv => arg 5; cbv
 refine ⟨rfl, .inl rfl, rfl, rfl, fun j h0 h1 => ?_⟩
 have h1 : j < 10 := h1
 obtain rfl | rfl | rfl | rfl | rfl | rfl | rfl | rfl | rfl | rfl : j = 0 \/ j = 1 \/ j = 2 \/ j = 3 \/ j = 4 \/ j = 5 \/ j = 6 \/ j = 7 \/ j = 8 \/ j = 9 := by omega
 all_goals exact iR
noncomputable def Fy1 : Table := addS 24 .nil (Sh.mkL 1 .str fun _ => wordsL, []) Fy0
theorem Fy1_ok : TableOK Tryz.prog G0 Fy1 := addS_ok qf24.callable (fun _ => rwords_ok) Fy0_ok
def optB (x : ByteArray) : List ByteArray := if x = ByteArray.empty then [] else [x]
def optN (k n : Int) : List ByteArray := if 2 < k /\ k < 9 then [itz n] else []
theorem name_ne {s : ByteArray} (h : nameB s = true) : optB s = [s] := if_neg fun e => by rw [e, name_nil] at h; cases h
theorem tail_parts {k : Int} {p : PoV} {s c : ByteArray} {hs : List HV} {n : Int} (h : rightB (k, p, s, c, hs, n, ()) = true) (hk : k ≠ 0) : tailE (k, p, s, c, hs, n, ()) = optB s ++ (optB c ++ (hs.flatMap chW ++ optN k n)) := by
 have e0 : optB ByteArray.empty = [] := if_pos rfl
 rcases right_kinds h with ⟨p', hp, e⟩ | ⟨s', hs', e⟩ | ⟨s', hs', h1, l1, l2, h2, e⟩ | ⟨k', s', c', n', hk', h1, h2, h3, e⟩ | ⟨k', n', hk', h3, e⟩ | e
 all_goals
  simp only [Prod.mk.injEq, and_true] at e
  obtain ⟨rfl, rfl, rfl, rfl, rfl, rfl⟩ := e
 ·exact absurd rfl hk
 ·rw [name_ne hs', e0]; rfl
 ·rw [name_ne h1, e0, show optN 2 0 = [] from rfl, List.append_nil]; rfl
 ·rw [name_ne h1, name_ne h2, show optN k n = [itz n] from if_pos (by omega)]
  rcases hk' with rfl | rfl <;> rfl
 ·rw [e0, show optN k n = [itz n] from if_pos (by omega)]
  rcases hk' with rfl | rfl | rfl | rfl <;> rfl
 ·rw [e0]; rfl
theorem addW_app (a : ByteArray) (x y : List ByteArray) : addW a (x ++ y) = addW (addW a x) y := List.foldl_append ..
theorem bext {a b : ByteArray} (h : a.data.toList = b.data.toList) : a = b := by rw [<- toB_data a, h, toB_data]
def sp : ByteArray := ⟨#[32]⟩
theorem add_three (s a b c : ByteArray) : s ++ (((((sp ++ a) ++ sp) ++ b) ++ sp) ++ c) = addW s [a, b, c] := bext (by simp [addW, sp])
theorem add_four (s a b c d : ByteArray) : s ++ (((((((sp ++ a) ++ sp) ++ b) ++ sp) ++ c) ++ sp) ++ d) = addW s [a, b, c, d] := bext (by simp [addW, sp])
def ryA (k : Int) (S : ByteArray) : Env := [(3, .str fun _ => S), (1, .ptr 0 0)]
def ryL (hs : List HV) (x : Nat × ByteArray) : Env := [(99, .int .i64 fun _ => (x.1 : Int)), (98, .int .i64 fun _ => (hs.length : Int)), (97, Sh.mkL 7 shH fun _ => hs), (3, .str fun _ => x.2), (1, .ptr 0 0)]
theorem addW_size (a : ByteArray) : ∀ (l : List ByteArray), (∀ x ∈ l, x.size <= 132) -> (addW a l).size <= a.size + 133 * l.length
 | [], _ => by show a.size <= _; omega
 | x :: l, h => by
   show (addW (a ++ (⟨#[32]⟩ ++ x)) l).size <= _
   have h1 := addW_size (a ++ (⟨#[32]⟩ ++ x)) l fun y hy => h y (by simp [hy])
   have h2 := h x (by simp)
   rw [ByteArray.size_append, ByteArray.size_append] at h1
   have : (⟨#[32]⟩ : ByteArray).size = 1 := rfl
   rw [List.length_cons]; omega
theorem three_sizes (X : HV) (h : chB X = true) : sp.size + X.1.size <= 9223372036854775807 /\ (sp ++ X.1).size + sp.size <= 9223372036854775807 /\ ((sp ++ X.1) ++ sp).size + (vtxt X.2.1).size <= 9223372036854775807 /\ (((sp ++ X.1) ++ sp) ++ vtxt X.2.1).size + sp.size <= 9223372036854775807 /\ ((((sp ++ X.1) ++ sp) ++ vtxt X.2.1) ++ sp).size + (vtxt X.2.2.1).size <= 9223372036854775807 /\ ∀ S : ByteArray, S.size <= 1000000 -> S.size + (((((sp ++ X.1) ++ sp) ++ vtxt X.2.1) ++ sp) ++ vtxt X.2.2.1).size <= 9223372036854775807 := by
 have h1 := name_size (chB_parts h).1
 have h2 := vtxt_size X.2.1
 have h3 := vtxt_size X.2.2.1
 have e : sp.size = 1 := rfl
 simp only [ByteArray.size_append, e]
 exact ⟨by omega, by omega, by omega, by omega, by omega, fun S hS => by omega⟩
theorem rtextN_ok (k : Int) (s c : ByteArray) (hs : List HV) (n : Int) (hr : rightB (k, p0, s, c, hs, n, ()) = true) (hk : k ≠ 0) : PF 9 (.cons (shE.mk fun _ => ((k, p0, s, c, hs, n, ()) : EV)) .nil) (.str fun _ => joinB (partsE (k, p0, s, c, hs, n, ())) ⟨#[32]⟩) := by
 have R := right_RI.1 hr
 have kk := R.kk
 have sz : s.size <= 16 := by
  by_cases h : isN k
  ·exact name_size (R.s1.1 h)
  ·rw [R.s2 h]; decide
 have cz : c.size <= 16 := by
  by_cases h : k = 4 \/ k = 5
  ·exact name_size (R.c1.1 h)
  ·rw [R.c2 h]; decide
 have nz : -9223372036854775808 <= n /\ n <= 9223372036854775807 := by
  by_cases h : k < 3 \/ k = 9
  ·rw [R.n1 h]; decide
  ·by_cases h3 : k = 3
   ·have := R.n2 h3; omega
   ·have := R.n3 (by omega) (by omega); omega
 have ez : joinB (partsE (k, p0, s, c, hs, n, ())) ⟨#[32]⟩ = addW (addW (addW (addW (wordsL.getD k.toNat ByteArray.empty) (optB s)) (optB c)) (hs.flatMap chW)) (optN k n) := by
  show joinB (wordsL.getD k.toNat ByteArray.empty :: tailE (k, p0, s, c, hs, n, ())) ⟨#[32]⟩ = _
  rw [join_addW, tail_parts hr hk, addW_app, addW_app, addW_app]
 rw [ez]
 have w0 := words_size k.toNat
 obtain ⟨W, hW⟩ : ∃ W, W = wordsL.getD k.toNat ByteArray.empty := ⟨_, rfl⟩
 obtain ⟨S1, hS1⟩ : ∃ S, S = addW W (optB s) := ⟨_, rfl⟩
 obtain ⟨S2, hS2⟩ : ∃ S, S = addW S1 (optB c) := ⟨_, rfl⟩
 rw [<- hW, <- hS1, <- hS2]
 have sp1 : (⟨#[32]⟩ : ByteArray).size = 1 := rfl
 have z1 : S1.size <= 50 := by
  rw [hS1]
  unfold optB
  split
  ·show W.size <= 50; rw [hW]; omega
  ·show (W ++ (⟨#[32]⟩ ++ s)).size <= 50
   rw [ByteArray.size_append, ByteArray.size_append, hW]; omega
 have z2 : S2.size <= 100 := by
  rw [hS2]
  unfold optB
  split
  ·show S1.size <= 100; omega
  ·show (S1 ++ (⟨#[32]⟩ ++ c)).size <= 100
   rw [ByteArray.size_append, ByteArray.size_append]; omega
 refine tX qf9 Fy1_ok ((.no (.both (.to 21) (.to 21)))) rfl ?_
 conv => arg 5; cbv
 refine ⟨⟨wk kk.1 kk.2, (by show drawOK _ _ = true; decide +kernel), trivial⟩, ⟨?_, trivial⟩, ?_⟩
 ·show (k == 0) = false
  simpa using hk
 refine tree_meet (ryA k S1) [(0, .var (shE.mk fun _ => ((k, p0, s, c, hs, n, ()) : EV)))] 1 (by rfl) ?_ ?_
 ·refine ⟨fun a => ⟨⟨?_, ?_, trivial⟩, rfl, fun i => i, by rfl, ⟨?_, iR, trivial⟩, ⟨iR, trivial⟩⟩, fun a => ⟨rfl, fun i => i, by rfl, ⟨?_, iR, trivial⟩, ⟨iR, trivial⟩⟩⟩
  ·show (⟨#[32]⟩ : ByteArray).size + s.size <= 9223372036854775807; omega
  ·show (wordsL.getD k.toNat ByteArray.empty).size + ((⟨#[32]⟩ : ByteArray) ++ s).size <= 9223372036854775807
   rw [ByteArray.size_append]; omega
  ·have a : ¬ s = ByteArray.empty := of_decide_eq_true (p := ¬ s = ByteArray.empty) a
   show wordsL.getD k.toNat ByteArray.empty ++ (⟨#[32]⟩ ++ s) = S1
   rw [hS1, hW]; unfold optB; rw [if_neg a]; rfl
  ·have a : ¬ ¬ s = ByteArray.empty := of_decide_eq_false (p := ¬ s = ByteArray.empty) a
   show wordsL.getD k.toNat ByteArray.empty = S1
   rw [hS1, hW]; unfold optB; rw [if_pos (Decidable.not_not.1 a)]; rfl
 refine bX Fy1_ok ((.both (.to 23) (.to 23))) _ rfl ?_
 conv => arg 5; cbv
 refine tree_meet (ryA k S2) [(0, .var (shE.mk fun _ => ((k, p0, s, c, hs, n, ()) : EV)))] 1 (by rfl) ?_ ?_
 ·refine ⟨fun a => ⟨⟨?_, ?_, trivial⟩, rfl, fun i => i, by rfl, ⟨?_, iR, trivial⟩, ⟨iR, trivial⟩⟩, fun a => ⟨rfl, fun i => i, by rfl, ⟨?_, iR, trivial⟩, ⟨iR, trivial⟩⟩⟩
  ·show (⟨#[32]⟩ : ByteArray).size + c.size <= 9223372036854775807; omega
  ·show S1.size + ((⟨#[32]⟩ : ByteArray) ++ c).size <= 9223372036854775807
   rw [ByteArray.size_append]; omega
  ·have a : ¬ c = ByteArray.empty := of_decide_eq_true (p := ¬ c = ByteArray.empty) a
   show S1 ++ (⟨#[32]⟩ ++ c) = S2
   rw [hS2]; unfold optB; rw [if_neg a]; rfl
  ·have a : ¬ ¬ c = ByteArray.empty := of_decide_eq_false (p := ¬ c = ByteArray.empty) a
   show S1 = S2
   rw [hS2]; unfold optB; rw [if_pos (Decidable.not_not.1 a)]; rfl
 refine bX Fy1_ok (.any) _ rfl ?_
 conv => arg 5; cbv
 generalize hG : addW S2 (hs.flatMap chW) = S3
 refine run_inv (ι := Nat × ByteArray) (fun x => hs.length - x.1) (fun x => x.1 <= hs.length /\ addW x.2 ((hs.drop x.1).flatMap chW) = S3 /\ x.2.size <= 100 + 400 * x.1) (ryL hs) (fun _ => [(0, .var (shE.mk fun _ => ((k, p0, s, c, hs, n, ()) : EV)))]) 1 (0, S2) (fun i => i) (by rfl) (by rfl) ⟨Nat.zero_le _, hG, by show S2.size <= 100 + 400 * 0; omega⟩ ?_ ⟨iR, iR, iR, iR, iR, trivial⟩ ⟨iR, trivial⟩
 rintro ⟨i, S⟩ hi ih
 dsimp only at hi
 refine bX Fy1_ok (.any) _ rfl ?_
 conv => arg 5; cbv
 obtain ⟨hi1, hg, hz⟩ := hi
 have h6 := R.h3
 refine ⟨fun h => ?_, fun h => ?_⟩
 ·have h : (i : Int) < (hs.length : Int) := of_decide_eq_true h
  have hi2 : i < hs.length := by omega
  have hw : IntKind.i64.wrap ((i : Int) + 1) = ((i + 1 : Nat) : Int) := by rw [IntWalk.i64_in _ ⟨by omega, by omega⟩]; omega
  have hm : hs.getD i h0 ∈ hs := by
   rw [List.getD_eq_getElem?_getD, List.getElem?_eq_getElem hi2]; exact List.getElem_mem hi2
  have eg : List.getD (α := HV) hs ((i : Int)).toNat (shH.dflt : shH.val) = hs.getD i h0 := by
   rw [Int.toNat_natCast]
   exact getD_any (α := HV) _ _ hi2
  have hX : chB (List.getD (α := HV) hs ((i : Int)).toNat (shH.dflt : shH.val)) = true := by rw [eg]; exact R.h4 _ hm
  have hS : S.size <= 100 + 400 * i := hz
  have q := fun X : HV => three_sizes X
  refine ⟨⟨⟨Int.natCast_nonneg i, h⟩, (q _ hX).1, (q _ hX).2.1, (chB_parts hX).2.1, (q _ hX).2.2.1, (q _ hX).2.2.2.1, (chB_parts hX).2.2, (q _ hX).2.2.2.2.1, ?_, (by show drawOK _ _ = true; decide +kernel), trivial⟩, ?_⟩
  ·exact (q _ hX).2.2.2.2.2 S (by omega)
  rw [drop_at h0 hi2, List.flatMap_cons, addW_app] at hg
  refine ih (i + 1, addW S (chW (hs.getD i h0))) (fun i => i) ⟨by show i + 1 <= hs.length; omega, hg, ?_⟩ (by show hs.length - (i + 1) < hs.length - i; omega) (by rfl) ⟨⟨rfl, hw⟩, iR, iR, ?_, iR, trivial⟩ ⟨iR, trivial⟩
  ·have z := addW_size S (chW (hs.getD i h0)) fun x hx => by
    have := chB_parts (R.h4 _ hm)
    simp only [chW, List.mem_cons, List.not_mem_nil, or_false] at hx
    rcases hx with rfl | rfl | rfl
    ·exact Nat.le_trans (name_size this.1) (by decide)
    ·exact vtxt_size _
    ·exact vtxt_size _
   have : (chW (hs.getD i h0)).length = 3 := rfl
   show (addW S (chW (hs.getD i h0))).size <= 100 + 400 * (i + 1)
   omega
  ·refine Eq.trans ?_ (congrArg (fun X : HV => addW S (chW X)) eg)
   exact add_three S _ _ _
 ·have h : ¬ (i : Int) < (hs.length : Int) := of_decide_eq_false h
  rw [List.drop_eq_nil_of_le (by omega)] at hg
  have hg : S = S3 := hg
  have h6 := R.h3
  have hS : S.size <= 100 + 400 * i := hz
  have iz := itz_size nz.1 nz.2
  have a1 : (2 < k /\ k < 9) -> addW S3 (optN k n) = S ++ (⟨#[32]⟩ ++ itz n) := fun h => by unfold optN; rw [if_pos h, hg]; rfl
  have a2 : ¬ (2 < k /\ k < 9) -> addW S3 (optN k n) = S := fun h => by unfold optN; rw [if_neg h, hg]; rfl
  refine ⟨fun a => ⟨fun b => ⟨⟨nz, ?_, ?_, trivial⟩, rfl, (a1 ⟨of_decide_eq_true a, of_decide_eq_true b⟩).symm⟩, fun b => ⟨rfl, (a2 fun h => absurd h.2 (of_decide_eq_false b)).symm⟩⟩, fun a => ⟨rfl, (a2 fun h => absurd h.1 (of_decide_eq_false a)).symm⟩⟩
  ·show (⟨#[32]⟩ : ByteArray).size + (itz n).size <= 9223372036854775807; omega
  ·show S.size + ((⟨#[32]⟩ : ByteArray) ++ itz n).size <= 9223372036854775807
   rw [ByteArray.size_append]; omega
def rzL (l : List CV) (x : Nat × ByteArray) : Env := [(39, .int .i64 fun _ => (x.1 : Int)), (38, .int .i64 fun _ => (l.length : Int)), (37, Sh.mkL 10 shC fun _ => l), (3, .str fun _ => x.2), (1, .ptr 0 0)]
def rzM (l : List CV) (i : Nat) (S r : ByteArray) : Env := [(6, .str fun _ => r), (5, .ptr 1 0), (39, .int .i64 fun _ => (i : Int)), (38, .int .i64 fun _ => (l.length : Int)), (37, Sh.mkL 10 shC fun _ => l), (3, .str fun _ => S), (1, .ptr 0 0)]
theorem four_sizes (X : CV) (h : contB X = true) (r : ByteArray) (hr : r.size <= 3) : sp.size + X.1.size <= 9223372036854775807 /\ (sp ++ X.1).size + sp.size <= 9223372036854775807 /\ ((sp ++ X.1) ++ sp).size + (vtxt X.2.1).size <= 9223372036854775807 /\ (((sp ++ X.1) ++ sp) ++ vtxt X.2.1).size + sp.size <= 9223372036854775807 /\ ((((sp ++ X.1) ++ sp) ++ vtxt X.2.1) ++ sp).size + (vtxt X.2.2.1).size <= 9223372036854775807 /\ (((((sp ++ X.1) ++ sp) ++ vtxt X.2.1) ++ sp) ++ vtxt X.2.2.1).size + sp.size <= 9223372036854775807 /\ ((((((sp ++ X.1) ++ sp) ++ vtxt X.2.1) ++ sp) ++ vtxt X.2.2.1) ++ sp).size + r.size <= 9223372036854775807 /\ ∀ S : ByteArray, S.size <= 1000000 -> S.size + (((((((sp ++ X.1) ++ sp) ++ vtxt X.2.1) ++ sp) ++ vtxt X.2.2.1) ++ sp) ++ r).size <= 9223372036854775807 := by
 have h1 := name_size (contB_parts h).1
 have h2 := vtxt_size X.2.1
 have h3 := vtxt_size X.2.2.1
 have e : sp.size = 1 := rfl
 simp only [ByteArray.size_append, e]
 exact ⟨by omega, by omega, by omega, by omega, by omega, by omega, by omega, fun S hS => by omega⟩
theorem rtext0_ok (p : PoV) (hp : podB p = true) : PF 9 (.cons (shE.mk fun _ => ((0, p, ByteArray.empty, ByteArray.empty, [], 0, ()) : EV)) .nil) (.str fun _ => joinB (partsE (0, p, ByteArray.empty, ByteArray.empty, [], 0, ())) ⟨#[32]⟩) := by
 obtain ⟨nm, pr, po, l, ⟨⟩⟩ := p
 obtain ⟨p1, p2, p3, p4, p5⟩ := pod_parts hp
 have p1 : nameB nm = true := p1
 have p2 : -1000 <= pr /\ pr <= 1000 := p2
 have p3 : 0 <= po /\ po <= 2 := p3
 have p4 : 1 <= l.length /\ l.length <= 6 := p4
 have p5 : ∀ c ∈ l, contB c = true := p5
 have ez : joinB (partsE (0, (nm, pr, po, l, ()), ByteArray.empty, ByteArray.empty, [], 0, ())) ⟨#[32]⟩ = addW (addW (wordsL.getD 0 ByteArray.empty) [nm, itz pr, itz po]) (l.flatMap conW) := by
  show joinB (wordsL.getD 0 ByteArray.empty :: nm :: itz pr :: itz po :: l.flatMap conW) ⟨#[32]⟩ = _
  rw [join_addW]; rfl
 rw [ez]
 have n1 := name_size p1
 have i1 := itz_size (n := pr) (by omega) (by omega)
 have i2 := itz_size (n := po) (by omega) (by omega)
 have w0 := words_size 0
 have es : sp.size = 1 := rfl
 obtain ⟨S0, hS0⟩ : ∃ S, S = addW (wordsL.getD 0 ByteArray.empty) [nm, itz pr, itz po] := ⟨_, rfl⟩
 rw [<- hS0]
 have z0 : S0.size <= 100 := by
  rw [hS0, <- add_three]
  simp only [ByteArray.size_append, es]
  omega
 refine tX qf9 Fy1_ok ((.yes .any)) rfl ?_
 conv => arg 5; cbv
 refine ⟨⟨wk (k := 0) (by decide) (by decide), (by show drawOK _ _ = true; decide +kernel), trivial⟩, ⟨rfl, trivial⟩, ⟨?_, ?_, ?_, ?_, ?_, ?_, ?_, ?_, (by show drawOK _ _ = true; decide +kernel), trivial⟩, ?_⟩
 ·show sp.size + nm.size <= 9223372036854775807; omega
 ·show (sp ++ nm).size + sp.size <= 9223372036854775807
  simp only [ByteArray.size_append, es]; omega
 ·show -9223372036854775808 <= pr /\ pr <= 9223372036854775807; omega
 ·show ((sp ++ nm) ++ sp).size + (itz pr).size <= 9223372036854775807
  simp only [ByteArray.size_append, es]; omega
 ·show (((sp ++ nm) ++ sp) ++ itz pr).size + sp.size <= 9223372036854775807
  simp only [ByteArray.size_append, es]; omega
 ·show -9223372036854775808 <= po /\ po <= 9223372036854775807; omega
 ·show ((((sp ++ nm) ++ sp) ++ itz pr) ++ sp).size + (itz po).size <= 9223372036854775807
  simp only [ByteArray.size_append, es]; omega
 ·show (wordsL.getD 0 ByteArray.empty).size + (((((sp ++ nm) ++ sp) ++ itz pr) ++ sp) ++ itz po).size <= 9223372036854775807
  simp only [ByteArray.size_append, es]; omega
 generalize hG : addW S0 (l.flatMap conW) = S3
 refine run_inv (ι := Nat × ByteArray) (fun x => l.length - x.1) (fun x => x.1 <= l.length /\ addW x.2 ((l.drop x.1).flatMap conW) = S3 /\ x.2.size <= 100 + 600 * x.1) (rzL l) (fun _ => [(0, .var (shE.mk fun _ => ((0, (nm, pr, po, l, ()), ByteArray.empty, ByteArray.empty, [], 0, ()) : EV)))]) 1 (0, S0) (fun i => i) (by rfl) (by rfl) ⟨Nat.zero_le _, hG, by show S0.size <= 100 + 600 * 0; omega⟩ ?_ ⟨iR, iR, iR, (add_three _ _ _ _).trans hS0.symm, iR, trivial⟩ ⟨iR, trivial⟩
 rintro ⟨i, S⟩ hi ih
 dsimp only at hi
 obtain ⟨hi1, hg, hz⟩ := hi
 refine bX Fy1_ok ((.both (.both (.both (.both (.both (.to 16) (.to 16)) (.both (.to 16) (.to 16))) (.both (.both (.to 16) (.to 16)) (.both (.to 16) (.to 16)))) (.both (.both (.both (.to 16) (.to 16)) (.both (.to 16) (.to 16))) (.both (.both (.to 16) (.to 16)) (.both (.to 16) (.to 16))))) .any)) _ rfl ?_
 conv => arg 5; cbv
 refine ⟨fun h => ?_, fun h => ⟨rfl, ?_⟩⟩
 ·have h : (i : Int) < (l.length : Int) := of_decide_eq_true h
  have hi2 : i < l.length := by omega
  have hw : IntKind.i64.wrap ((i : Int) + 1) = ((i + 1 : Nat) : Int) := by rw [IntWalk.i64_in _ ⟨by omega, by omega⟩]; omega
  have hm : l.getD i c0 ∈ l := by
   rw [List.getD_eq_getElem?_getD, List.getElem?_eq_getElem hi2]; exact List.getElem_mem hi2
  have eg : List.getD (α := CV) l ((i : Int)).toNat (shC.dflt : shC.val) = l.getD i c0 := by
   rw [Int.toNat_natCast]
   exact getD_any (α := CV) _ _ hi2
  have hX : contB (List.getD (α := CV) l ((i : Int)).toNat (shC.dflt : shC.val)) = true := by rw [eg]; exact p5 _ hm
  refine ⟨⟨⟨Int.natCast_nonneg i, h⟩, trivial⟩, ?_⟩
  obtain ⟨r, hrr⟩ : ∃ r, r = rsB (List.getD (α := CV) l ((i : Int)).toNat (shC.dflt : shC.val)).2.2.2.1 := ⟨_, rfl⟩
  refine tree_meet (rzM l i S r) [(0, .var (shE.mk fun _ => ((0, (nm, pr, po, l, ()), ByteArray.empty, ByteArray.empty, [], 0, ()) : EV))), (1, .var (shC.mk fun _ => List.getD (α := CV) l ((i : Int)).toNat (shC.dflt : shC.val)))] 2 (by rfl) ?_ ?_
  refine ⟨fun h0 => ⟨⟨(by decide), trivial⟩, ⟨fun h1 => ⟨⟨(by decide), trivial⟩, ⟨fun h2 => ⟨⟨(by decide), trivial⟩, ⟨fun z => absurd z (by decide), fun z => ⟨rfl, fun i => i, by rfl, ⟨?_, iR, iR, iR, iR, iR, iR, trivial⟩, ⟨iR, iR, trivial⟩⟩⟩⟩, fun h2 => ⟨fun z => absurd z (by decide), fun z => ⟨rfl, fun i => i, by rfl, ⟨?_, iR, iR, iR, iR, iR, iR, trivial⟩, ⟨iR, iR, trivial⟩⟩⟩⟩⟩, fun h1 => ⟨fun h2 => ⟨⟨(by decide), trivial⟩, ⟨fun z => absurd z (by decide), fun z => ⟨rfl, fun i => i, by rfl, ⟨?_, iR, iR, iR, iR, iR, iR, trivial⟩, ⟨iR, iR, trivial⟩⟩⟩⟩, fun h2 => ⟨fun z => absurd z (by decide), fun z => ⟨rfl, fun i => i, by rfl, ⟨?_, iR, iR, iR, iR, iR, iR, trivial⟩, ⟨iR, iR, trivial⟩⟩⟩⟩⟩⟩, fun h0 => ⟨fun h1 => ⟨⟨(by decide), trivial⟩, ⟨fun h2 => ⟨⟨(by decide), trivial⟩, ⟨fun z => absurd z (by decide), fun z => ⟨rfl, fun i => i, by rfl, ⟨?_, iR, iR, iR, iR, iR, iR, trivial⟩, ⟨iR, iR, trivial⟩⟩⟩⟩, fun h2 => ⟨fun z => absurd z (by decide), fun z => ⟨rfl, fun i => i, by rfl, ⟨?_, iR, iR, iR, iR, iR, iR, trivial⟩, ⟨iR, iR, trivial⟩⟩⟩⟩⟩, fun h1 => ⟨fun h2 => ⟨⟨(by decide), trivial⟩, ⟨fun z => absurd z (by decide), fun z => ⟨rfl, fun i => i, by rfl, ⟨?_, iR, iR, iR, iR, iR, iR, trivial⟩, ⟨iR, iR, trivial⟩⟩⟩⟩, fun h2 => ⟨fun z => ⟨rfl, fun i => i, by rfl, ⟨?_, iR, iR, iR, iR, iR, iR, trivial⟩, ⟨iR, iR, trivial⟩⟩, fun z => absurd z (by decide)⟩⟩⟩⟩
  ·have h0 : (List.getD (α := CV) l ((i : Int)).toNat (shC.dflt : shC.val)).2.2.2.1.getD 0 false = true := h0
   have h1 : (List.getD (α := CV) l ((i : Int)).toNat (shC.dflt : shC.val)).2.2.2.1.getD 1 false = true := h1
   have h2 : (List.getD (α := CV) l ((i : Int)).toNat (shC.dflt : shC.val)).2.2.2.1.getD 2 false = true := h2
   show _ = r
   rw [hrr]
   show _ = rs3 _ _ _
   rw [h0, h1, h2]; first | decide | decide +kernel | fail
  ·have h0 : (List.getD (α := CV) l ((i : Int)).toNat (shC.dflt : shC.val)).2.2.2.1.getD 0 false = true := h0
   have h1 : (List.getD (α := CV) l ((i : Int)).toNat (shC.dflt : shC.val)).2.2.2.1.getD 1 false = true := h1
   have h2 : (List.getD (α := CV) l ((i : Int)).toNat (shC.dflt : shC.val)).2.2.2.1.getD 2 false = false := h2
   show _ = r
   rw [hrr]
   show _ = rs3 _ _ _
   rw [h0, h1, h2]; first | decide | decide +kernel | fail
  ·have h0 : (List.getD (α := CV) l ((i : Int)).toNat (shC.dflt : shC.val)).2.2.2.1.getD 0 false = true := h0
   have h1 : (List.getD (α := CV) l ((i : Int)).toNat (shC.dflt : shC.val)).2.2.2.1.getD 1 false = false := h1
   have h2 : (List.getD (α := CV) l ((i : Int)).toNat (shC.dflt : shC.val)).2.2.2.1.getD 2 false = true := h2
   show _ = r
   rw [hrr]
   show _ = rs3 _ _ _
   rw [h0, h1, h2]; first | decide | decide +kernel | fail
  ·have h0 : (List.getD (α := CV) l ((i : Int)).toNat (shC.dflt : shC.val)).2.2.2.1.getD 0 false = true := h0
   have h1 : (List.getD (α := CV) l ((i : Int)).toNat (shC.dflt : shC.val)).2.2.2.1.getD 1 false = false := h1
   have h2 : (List.getD (α := CV) l ((i : Int)).toNat (shC.dflt : shC.val)).2.2.2.1.getD 2 false = false := h2
   show _ = r
   rw [hrr]
   show _ = rs3 _ _ _
   rw [h0, h1, h2]; first | decide | decide +kernel | fail
  ·have h0 : (List.getD (α := CV) l ((i : Int)).toNat (shC.dflt : shC.val)).2.2.2.1.getD 0 false = false := h0
   have h1 : (List.getD (α := CV) l ((i : Int)).toNat (shC.dflt : shC.val)).2.2.2.1.getD 1 false = true := h1
   have h2 : (List.getD (α := CV) l ((i : Int)).toNat (shC.dflt : shC.val)).2.2.2.1.getD 2 false = true := h2
   show _ = r
   rw [hrr]
   show _ = rs3 _ _ _
   rw [h0, h1, h2]; first | decide | decide +kernel | fail
  ·have h0 : (List.getD (α := CV) l ((i : Int)).toNat (shC.dflt : shC.val)).2.2.2.1.getD 0 false = false := h0
   have h1 : (List.getD (α := CV) l ((i : Int)).toNat (shC.dflt : shC.val)).2.2.2.1.getD 1 false = true := h1
   have h2 : (List.getD (α := CV) l ((i : Int)).toNat (shC.dflt : shC.val)).2.2.2.1.getD 2 false = false := h2
   show _ = r
   rw [hrr]
   show _ = rs3 _ _ _
   rw [h0, h1, h2]; first | decide | decide +kernel | fail
  ·have h0 : (List.getD (α := CV) l ((i : Int)).toNat (shC.dflt : shC.val)).2.2.2.1.getD 0 false = false := h0
   have h1 : (List.getD (α := CV) l ((i : Int)).toNat (shC.dflt : shC.val)).2.2.2.1.getD 1 false = false := h1
   have h2 : (List.getD (α := CV) l ((i : Int)).toNat (shC.dflt : shC.val)).2.2.2.1.getD 2 false = true := h2
   show _ = r
   rw [hrr]
   show _ = rs3 _ _ _
   rw [h0, h1, h2]; first | decide | decide +kernel | fail
  ·have h0 : (List.getD (α := CV) l ((i : Int)).toNat (shC.dflt : shC.val)).2.2.2.1.getD 0 false = false := h0
   have h1 : (List.getD (α := CV) l ((i : Int)).toNat (shC.dflt : shC.val)).2.2.2.1.getD 1 false = false := h1
   have h2 : (List.getD (α := CV) l ((i : Int)).toNat (shC.dflt : shC.val)).2.2.2.1.getD 2 false = false := h2
   show _ = r
   rw [hrr]
   show _ = rs3 _ _ _
   rw [h0, h1, h2]; first | decide | decide +kernel | fail
  refine bX Fy1_ok (.any) _ rfl ?_
  conv => arg 5; cbv
  have hS : S.size <= 100 + 600 * i := hz
  have rz : r.size <= 3 := by rw [hrr]; exact rsB_size _
  have q := four_sizes _ hX r rz
  refine ⟨⟨q.1, q.2.1, (contB_parts hX).2.1, q.2.2.1, q.2.2.2.1, (contB_parts hX).2.2, q.2.2.2.2.1, q.2.2.2.2.2.1, q.2.2.2.2.2.2.1, q.2.2.2.2.2.2.2 S (by omega), (by show drawOK _ _ = true; decide +kernel), trivial⟩, ?_⟩
  rw [drop_at c0 hi2, List.flatMap_cons, addW_app] at hg
  refine ih (i + 1, addW S (conW (l.getD i c0))) (fun i => i) ⟨by show i + 1 <= l.length; omega, hg, ?_⟩ (by show l.length - (i + 1) < l.length - i; omega) (by rfl) ⟨⟨rfl, hw⟩, iR, iR, ?_, iR, trivial⟩ ⟨iR, trivial⟩
  ·have z := addW_size S (conW (l.getD i c0)) fun x hx => by
    have := contB_parts (p5 _ hm)
    simp only [conW, List.mem_cons, List.not_mem_nil, or_false] at hx
    rcases hx with rfl | rfl | rfl | rfl
    ·exact Nat.le_trans (name_size this.1) (by decide)
    ·exact vtxt_size _
    ·exact vtxt_size _
    ·exact Nat.le_trans (rsB_size _) (by decide)
   have : (conW (l.getD i c0)).length = 4 := rfl
   show (addW S (conW (l.getD i c0))).size <= 100 + 600 * (i + 1)
   omega
  ·refine Eq.trans ?_ (congrArg (fun X : CV => addW S (conW X)) eg)
   refine Eq.trans (add_four S _ _ _ r) ?_
   rw [hrr]; rfl
 ·have h : ¬ (i : Int) < (l.length : Int) := of_decide_eq_false h
  rw [List.drop_eq_nil_of_le (by omega)] at hg
  exact hg
theorem evrtext_ok (e : EV) (hr : rightB e = true) : PF 9 (.cons (shE.mk fun _ => e) .nil) (.str fun _ => textE e) := by
 have et : textE e = joinB (partsE e) ⟨#[32]⟩ := if_pos hr
 rw [et]
 by_cases hk : e.1 = 0
 ·rcases right_kinds hr with ⟨p, hp, rfl⟩ | ⟨s, hs, rfl⟩ | ⟨s, hs, h1, l1, l2, h2, rfl⟩ | ⟨k, s, c, n, hk', h1, h2, h3, rfl⟩ | ⟨k, n, hk', h3, rfl⟩ | rfl
  ·exact rtext0_ok p hp
  ·exact absurd hk (by show ¬ (1 : Int) = 0; decide)
  ·exact absurd hk (by show ¬ (2 : Int) = 0; decide)
  ·have hk : k = 0 := hk
   omega
  ·have hk : k = 0 := hk
   omega
  ·exact absurd hk (by show ¬ (9 : Int) = 0; decide)
 ·obtain ⟨k, p, s, c, hs, n, ⟨⟩⟩ := e
  obtain rfl := (right_RI.1 hr).p2 hk
  exact rtextN_ok k s c hs n hr hk
noncomputable def Fz0 : Table := addS 9 (.cons shE .nil) (fun k nm pr po l s c hs n => (.str fun _ => textE (k (), (nm (), pr (), po (), l (), ()), s (), c (), hs (), n (), ()), [fun _ => rightB (k (), (nm (), pr (), po (), l (), ()), s (), c (), hs (), n (), ()) = true])) Fy1
theorem Fz0_ok : TableOK Tryz.prog G0 Fz0 := addS_ok qf9.callable (fun k nm pr po l s c hs n h => evrtext_ok (k (), (nm (), pr (), po (), l (), ()), s (), c (), hs (), n (), ()) h.1) Fy1_ok
def pre0 : OpX := build0X tyT
theorem pre0_ok : OpXOK Tryz.prog G0 pre0 := build0X_ok tyOK
def nmL (l : List Int) : PV := Sh.mkL 1 (.int .i64) fun _ => l
def nmO (i : Nat) (l : List Int) : PV := .slice (some i) 1 (fun _ => (l.length : Int)) fun j => .int .i64 fun _ => l.getD (j ()).toNat 0
def ntA (L : List Int) (n k p : Nat) (x : Nat × List Int) : Env := [(13, .int .i64 fun _ => (x.1 : Int)), (12, .int .i64 fun _ => (L.length : Int)), (11, nmL L), (7, nmO 0 x.2), (2, .int .i64 fun _ => ((tcy n k p x.1 : Nat) : Int)), (1, .int .i64 fun _ => (k : Int))]
def ntS : Store := [(0, .own 1 3)]
def ntU (X : Nat) (x : Nat × List Int) : Env := [(7, nmO 0 x.2), (2, .int .i64 fun _ => ((X / 10 ^ x.1 : Nat) : Int))]
theorem nm_push {i : Nat} {l : List Int} {t u : Int} {m : List Int} (h : m = l ++ [u]) (hu : t = u) : impP (.slice (some i) 1 (fun _ => (l.length : Int) + 1) fun j => PV.mrg (fun _ => decide (j () < (l.length : Int))) (.int .i64 fun _ => l.getD (j ()).toNat 0) (.int .i64 fun _ => t)) (nmO i m) := by
 subst hu
 rw [h]
 exact push_imp (.int .i64) (some i) 1 l t
theorem nt_step {n k p j : Nat} (hk : k <= 10) (hp : p <= k) (hj : j < (numL n).length) :
  IntKind.i64.wrap (((tcy n k p j : Nat) : Int) + IntKind.i64.wrap ((numL n).getD j 0 * (k : Int))) = ((tcy n k p j + n / 10 ^ j % 10 * k : Nat) : Int) /\ (tcy n k p j + n / 10 ^ j % 10 * k) <= 100 := by
 have h1 : tcy n k p j <= k := tcy_le hp
 have h2 : n / 10 ^ j % 10 <= 9 := by omega
 have h3 : n / 10 ^ j % 10 * k <= 9 * 10 := Nat.mul_le_mul h2 hk
 rw [numL_digit hj, show ((n / 10 ^ j % 10 : Nat) : Int) * (k : Int) = ((n / 10 ^ j % 10 * k : Nat) : Int) by rw [Int.natCast_mul]]
 generalize n / 10 ^ j % 10 * k = y at *
 refine ⟨?_, by omega⟩
 have e : IntKind.i64.wrap ((y : Nat) : Int) = (y : Int) := IntWalk.i64_in _ ⟨by omega, by omega⟩
 rw [e, IntWalk.i64_in _ ⟨by omega, by omega⟩]; omega
theorem ntimes_ok (n k p : Nat) (hk1 : 1 <= k) (hk : k <= 10) (hp : p <= k) (hl : (numL (n * k + p)).length <= 1000) : PF 149 (.cons (nmL (numL n)) (.cons (.int .i64 fun _ => (k : Int)) (.cons (.int .i64 fun _ => (p : Int)) .nil))) (nmL (numL (n * k + p))) := by
 have hnX : n <= n * k + p := Nat.le_trans (Nat.le_mul_of_pos_right n hk1) (Nat.le_add_right _ _)
 have hlen := numL_mono hnX
 obtain ⟨L, hL⟩ : ∃ L, L = numL n := ⟨_, rfl⟩
 obtain ⟨X, hX⟩ : ∃ X, X = n * k + p := ⟨_, rfl⟩
 obtain ⟨R, hR⟩ : ∃ R, R = numL X := ⟨_, rfl⟩
 rw [<- hL, <- hX, <- hR]
 rw [<- hL, <- hX, <- hR] at hlen
 rw [<- hX, <- hR] at hl
 refine qf149.treeP pre0_ok (mkM_ok F0_ok emptyS_ok) (callB_ok emptyB_ok) false 60 (.any) rfl ?_
 conv => arg 5; cbv
 refine run_inv (ι := Nat × List Int) (fun x => L.length - x.1) (fun x => x.1 <= L.length /\ x.2 = firstL X x.1) (ntA L n k p) (fun _ => ntS) 1 (0, []) (fun i => i) (by rfl) (by rfl) ⟨Nat.zero_le _, rfl⟩ ?_ ⟨iR, iR, iR, ⟨.inr rfl, rfl, rfl, fun j h0 h1 => absurd h1 (by show ¬ j < 0; omega)⟩, ⟨rfl, by rw [tcy_zero]⟩, iR, trivial⟩ ⟨⟨rfl, rfl⟩, trivial⟩
 rintro ⟨j, l⟩ hi ih
 dsimp only at hi
 obtain ⟨hj, el⟩ := hi
 refine exploreP_ok (by first | exact ok _ | exact (ok _).at _ | exact (ok _).round _) pre0_ok (mkM_ok F0_ok emptyS_ok) (callB_ok emptyB_ok) (u := false) 60 (.any) _ rfl ?_
 conv => arg 5; cbv
 have hll : l.length = j := by rw [el, firstL_len]
 have hLL : L.length <= 1000 := by omega
 refine ⟨fun h => ?_, fun h => ?_⟩
 ·have h : (j : Int) < (L.length : Int) := of_decide_eq_true h
  have hj2 : j < (numL n).length := by rw [<- hL]; omega
  obtain ⟨s1, s2⟩ := nt_step (n := n) hk hp hj2
  rw [<- hL] at s1
  obtain ⟨s3, s4⟩ := tcy_step n k p j
  rw [<- hX] at s3
  have hw : IntKind.i64.wrap ((j : Int) + 1) = ((j + 1 : Nat) : Int) := by rw [IntWalk.i64_in _ ⟨by omega, by omega⟩]; omega
  refine ⟨⟨⟨Int.natCast_nonneg j, h⟩, by decide, ⟨by show (0 : Int) < 1; decide, by show ((l.length : Int) + 1) * 8 <= 140737488355328; omega⟩, by decide, trivial⟩, ?_⟩
  refine ih (j + 1, l ++ [((X / 10 ^ j % 10 : Nat) : Int)]) (fun i => bif beqN i 0 then 1 else i) ⟨by show j + 1 <= L.length; omega, by rw [el, firstL_succ]⟩ (by show L.length - (j + 1) < L.length - j; omega) (by rfl) ⟨⟨rfl, hw⟩, iR, iR, nm_push rfl ?_, ⟨rfl, ?_⟩, iR, trivial⟩ ⟨⟨rfl, rfl⟩, trivial⟩
  ·show (IntKind.i64.wrap (((tcy n k p j : Nat) : Int) + IntKind.i64.wrap (L.getD j 0 * (k : Int)))).tmod 10 = _
   rw [s1, <- s3]; rfl
  ·show IntKind.i64.wrap ((IntKind.i64.wrap (((tcy n k p j : Nat) : Int) + IntKind.i64.wrap (L.getD j 0 * (k : Int)))).tdiv 10) = _
   rw [s1, <- s4]
   show IntKind.i64.wrap (((tcy n k p j + n / 10 ^ j % 10 * k) / 10 : Nat) : Int) = _
   exact IntWalk.i64_in _ ⟨by omega, by omega⟩
 ·have h : ¬ (j : Int) < (L.length : Int) := of_decide_eq_false h
  have e : j = L.length := by omega
  have ecy : tcy n k p j = X / 10 ^ j := by rw [e, hX, hL]; exact (tcy_end n k p).symm
  have htop : 0 < j -> X / 10 ^ (j - 1) ≠ 0 := fun h0 h1 => by
   have t := numL_top (n := n) (by rw [<- hL]; omega)
   rw [<- hL, <- e] at t
   have := Nat.div_le_div_right (c := 10 ^ (j - 1)) hnX
   rw [<- hX, h1] at this
   exact t (Nat.le_zero.1 this)
  refine run_inv (ι := Nat × List Int) (fun x => X / 10 ^ x.1) (fun x => x.1 <= 1000 /\ x.2 = firstL X x.1 /\ (0 < x.1 -> X / 10 ^ (x.1 - 1) ≠ 0) /\ X / 10 ^ x.1 <= 10) (ntU X) (fun _ => ntS) 1 (j, l) (fun i => i) (by rfl) (by rfl) ⟨by show j <= 1000; omega, el, htop, by show X / 10 ^ j <= 10; rw [<- ecy]; exact Nat.le_trans (tcy_le hp) hk⟩ ?_ ⟨iR, ⟨rfl, congrArg (fun x : Nat => (x : Int)) ecy⟩, trivial⟩ ⟨⟨rfl, rfl⟩, trivial⟩
  rintro ⟨j, l⟩ hi ih
  dsimp only at hi
  obtain ⟨hj, el, ht, hc⟩ := hi
  refine exploreP_ok (by first | exact ok _ | exact (ok _).at _ | exact (ok _).round _) pre0_ok (mkM_ok F0_ok emptyS_ok) (callB_ok emptyB_ok) (u := false) 60 (.any) _ rfl ?_
  conv => arg 5; cbv
  have hll : l.length = j := by rw [el, firstL_len]
  refine ⟨fun h => ?_, fun h => ?_⟩
  ·have h : (0 : Int) < ((X / 10 ^ j : Nat) : Int) := of_decide_eq_true h
   have h0 : X / 10 ^ j ≠ 0 := by omega
   have hj2 : j < (numL X).length := numL_lt h0
   rw [<- hR] at hj2
   have e10 := div_ten X j
   refine ⟨⟨by decide, ⟨by show (0 : Int) < 1; decide, by show ((l.length : Int) + 1) * 8 <= 140737488355328; omega⟩, by decide, trivial⟩, ?_⟩
   have hbig : X / 10 ^ j / 10 <= 1 := by omega
   refine ih (j + 1, l ++ [((X / 10 ^ j % 10 : Nat) : Int)]) (fun i => bif beqN i 0 then 1 else i) ⟨by show j + 1 <= 1000; omega, by rw [el, firstL_succ], fun _ => h0, by show X / 10 ^ (j + 1) <= 10; rw [e10]; omega⟩ (by show X / 10 ^ (j + 1) < X / 10 ^ j; rw [e10]; omega) (by rfl) ⟨nm_push rfl rfl, ⟨rfl, ?_⟩, trivial⟩ ⟨⟨rfl, rfl⟩, trivial⟩
   show IntKind.i64.wrap (((X / 10 ^ j / 10 : Nat) : Int)) = ((X / 10 ^ (j + 1) : Nat) : Int)
   rw [e10]
   generalize X / 10 ^ j / 10 = y at hbig
   exact IntWalk.i64_in _ ⟨by omega, by omega⟩
  ·have h : ¬ (0 : Int) < ((X / 10 ^ j : Nat) : Int) := of_decide_eq_false h
   have h0 : X / 10 ^ j = 0 := by generalize X / 10 ^ j = y at h; omega
   have e : l = R := by rw [el, hR, numL_first j X h0 ht]
   rw [<- e]
   exact ⟨rfl, .inl rfl, rfl, rfl, fun j _ _ => iR⟩
noncomputable def Rg0 : Table := addS 149 (.cons (.slice 1 (.int .i64)) (.cons (.int .i64) (.cons (.int .i64) .nil))) (fun l k p => (Sh.mkL 1 (.int .i64) fun _ => numL (dv (l ()) * (k ()).toNat + (p ()).toNat), [fun _ => isNum (l ()), fun _ => 1 <= k () /\ k () <= 10, fun _ => 0 <= p () /\ p () <= k (), fun _ => (numL (dv (l ()) * (k ()).toNat + (p ()).toNat)).length <= 1000])) Rt4
theorem Rg0_ok : TableOK Tryz.prog G0 Rg0 := addS_ok qf149.callable (fun l k p h => by
 have e1 : l () = numL (dv (l ())) := h.1
 have h2 : 1 <= k () /\ k () <= 10 := h.2.1
 have h3 : 0 <= p () /\ p () <= k () := h.2.2.1
 have := ntimes_ok (dv (l ())) (k ()).toNat (p ()).toNat (by omega) (by omega) (by omega) h.2.2.2.1
 rw [<- e1, Int.toNat_of_nonneg (by omega), Int.toNat_of_nonneg h3.1] at this
 exact this) Rt4_ok
def nxA (L : List Int) (n j : Nat) : Env := [(8, .int .i64 fun _ => (j : Int)), (7, .int .i64 fun _ => (L.length : Int)), (6, nmL L), (3, .str fun _ => toB (digT n j))]
theorem ntext_ok (n : Nat) (hl : (numL n).length <= 1000) : PF 152 (.cons (nmL (numL n)) .nil) (.str fun _ => toB (Lib.decDigits n)) := by
 obtain ⟨L, hL⟩ : ∃ L, L = numL n := ⟨_, rfl⟩
 obtain ⟨R, hR⟩ : ∃ R, R = toB (Lib.decDigits n) := ⟨_, rfl⟩
 rw [<- hL, <- hR]
 rw [<- hL] at hl
 refine tX qf152 Rg0_ok (.any) rfl ?_
 conv => arg 5; cbv
 refine run_inv (ι := Nat) (fun j => L.length - j) (fun j => j <= L.length) (nxA L n) (fun _ => []) 0 0 (fun i => i) (by rfl) (by rfl) (Nat.zero_le _) ?_ ⟨iR, iR, iR, iR, trivial⟩ trivial
 intro j hj ih
 refine bX Rg0_ok (.any) _ rfl ?_
 conv => arg 5; cbv
 refine ⟨fun h => ?_, fun h => ?_⟩
 ·have h : (j : Int) < (L.length : Int) := of_decide_eq_true h
  have hj2 : j < (numL n).length := by rw [<- hL]; omega
  have hw : IntKind.i64.wrap ((j : Int) + 1) = ((j + 1 : Nat) : Int) := by rw [IntWalk.i64_in _ ⟨by omega, by omega⟩]; omega
  have hd := numL_digit hj2
  rw [<- hL] at hd
  have hlt : n / 10 ^ j % 10 < 10 := Nat.mod_lt _ (by decide)
  have hb : bytesOf (rdL rd8 (fun _ => 1) fun _ => PV.int .u8 fun _ => IntKind.u8.wrap (IntKind.i64.wrap (48 + L.getD ((j : Int)).toNat (Sh.int IntKind.i64).dflt))) = toB [UInt8.ofNat (48 + n / 10 ^ j % 10)] := by
   rw [Int.toNat_natCast]
   have hd : L.getD j (Sh.int IntKind.i64).dflt = ((n / 10 ^ j % 10 : Nat) : Int) := hd
   rw [hd]
   generalize n / 10 ^ j % 10 = y at hlt
   have e1 : IntKind.i64.wrap (48 + (y : Int)) = ((48 + y : Nat) : Int) := by rw [IntWalk.i64_in _ ⟨by omega, by omega⟩]; omega
   rw [e1, IntWalk.u8_in _ ⟨by omega, by omega⟩]
   show bytesOf [((48 + y : Nat) : Int)] = _
   unfold bytesOf
   simp only [List.foldl_cons, List.foldl_nil, Int.toNat_natCast]
   rfl
  have hz : (toB (digT n j)).size = j := (size_toB (toB (digT n j))).symm.trans (digT_len n j)
  refine ⟨⟨⟨Int.natCast_nonneg j, h⟩, fun _ => by show _ = _; rfl, ?_, trivial⟩, ih (j + 1) (fun i => i) (by omega) (by omega) (by rfl) ⟨⟨rfl, hw⟩, iR, iR, ?_, trivial⟩ trivial⟩
  ·refine Nat.le_trans (Nat.le_of_eq (congrArg (fun t : ByteArray => t.size + (toB (digT n j)).size) hb)) ?_
   rw [hz]
   show 1 + j <= _
   omega
  ·refine (congrArg (fun t : ByteArray => t ++ toB (digT n j)) hb).trans ?_
   rw [toB_append, digT_succ]; rfl
 ·have h : ¬ (j : Int) < (L.length : Int) := of_decide_eq_false h
  have e : j = L.length := by omega
  obtain ⟨T, hT⟩ : ∃ T, T = digT n j := ⟨_, rfl⟩
  rw [<- hT]
  refine run_inv (ι := Unit) (fun _ => 0) (fun _ => True) (fun _ => [(3, .str fun _ => toB T)]) (fun _ => []) 0 () (fun i => i) (by rfl) (by rfl) trivial ?_ ⟨iR, trivial⟩ trivial
  intro _ _ ih
  refine bX Rg0_ok (.any) _ rfl ?_
  conv => arg 5; cbv
  have eT : (n = 0 -> T = []) /\ (n ≠ 0 -> T = Lib.decDigits n) := by
   rw [hT, e, hL]
   exact ⟨fun h => by rw [h, numL_zero]; rfl, fun h => digT_all h⟩
  have fin : ∀ b : Bool, decide (toB T = (⟨#[]⟩ : ByteArray)) = b -> impP (.str fun _ => bif b then (⟨#[48]⟩ : ByteArray) else toB T) (.str fun _ => R) := fun b hb => by
   show (bif b then (⟨#[48]⟩ : ByteArray) else toB T) = R
   by_cases h0 : n = 0
   ·rw [hR, h0, decDigits_zero, <- hb, eT.1 h0]; rfl
   ·have hne : toB T ≠ (⟨#[]⟩ : ByteArray) := fun k => (decDigits_dig n).2.2.1 (by rw [<- eT.2 h0]; exact congrArg (fun b => b.data.toList) k)
    rw [<- hb, decide_eq_false hne, eT.2 h0, hR]; rfl
  refine ⟨fun a => ⟨⟨⟨by decide, ?_⟩, trivial⟩, fun b => ?_, fun b => ⟨fun c => ⟨rfl, fin true c⟩, fun c => ⟨rfl, fin false c⟩⟩⟩, fun a => ⟨fun c => ⟨rfl, fin true c⟩, fun c => ⟨rfl, fin false c⟩⟩⟩
  ·have a : (1 : Int) < ((toB T).size : Int) := of_decide_eq_true a
   show (0 : Int) < ((toB T).size : Int)
   omega
  ·have b : byteAt (toB T) 0 = 48 := by simpa using b
   have a : (1 : Int) < ((toB T).size : Int) := of_decide_eq_true a
   have hz : (toB T).size = T.length := (size_toB (toB T)).symm
   by_cases h0 : n = 0
   ·have : T.length = 0 := by rw [eT.1 h0]; rfl
    omega
   ·have h4 := (decDigits_dig n).2.2.2
    rw [<- eT.2 h0] at h4
    refine absurd (h4 ?_) h0
    cases hq : T with
    | nil => have : T.length = 0 := by { rw [hq]; rfl }; omega
    | cons c r =>
      rw [hq] at b
      have b : ((c.toNat : Nat) : Int) = 48 := b
      show some c = some 48
      congr 1
      exact UInt8.toNat_inj.1 (by show c.toNat = 48; omega)
theorem rfdigit_ok (c : Int) : PF 148 (.cons (.int .u8 fun _ => c) .nil) (.bool fun _ => decide (48 <= c) && decide (c <= 57)) := by
 refine tX qf148 F0_ok (.any) rfl ?_
 conv => arg 5; cbv
 refine ⟨fun h => ⟨rfl, ?_⟩, fun h => ⟨rfl, ?_⟩⟩
 ·show decide (c <= 57) = (decide (48 <= c) && decide (c <= 57))
  rw [show decide (48 <= c) = true from h, Bool.true_and]
 ·show (decide (48 <= c) && decide (c <= 57)) = false
  rw [show decide (48 <= c) = false from h, Bool.false_and]
noncomputable def Rg1 : Table := addS 148 (.cons (.int .u8) .nil) (fun c => (.bool fun _ => decide (48 <= c ()) && decide (c () <= 57), [])) Rg0
theorem Rg1_ok : TableOK Tryz.prog G0 Rg1 := addS_ok qf148.callable (fun c _ => rfdigit_ok (c ())) Rg0_ok
def sclE : List UInt8 -> Option (Int × Nat)
 | c :: r => if c = 101 \/ c = 69 then (expo r).map fun n => (n, 0) else none
 | [] => none
theorem scl_else {l : List UInt8} (h : ∀ x ∈ sufs, x.1 ≠ l) : scl l = sclE l := by
 unfold scl
 rw [List.find?_eq_none.2 fun x hx => by simpa using h x hx]
 cases l <;> rfl
def rscT (o : Option (Int × Nat)) : PV := .tuple (.cons (.int .i64 fun _ => (o.map (·.1)).getD 0) (.cons (.int .i64 fun _ => (((o.map (·.2)).getD 0 : Nat) : Int)) (.cons (.bool fun _ => o.isSome) .nil)))
def rscA (x : Int × ByteArray) : Env := [(5, .int .i64 fun _ => x.1), (0, .str fun _ => x.2)]
theorem rscale_ok (s : ByteArray) (hs : s.size < 2147483648) : PF 150 (.cons (.str fun _ => s) .nil) (rscT (scl s.data.toList)) := by
 obtain ⟨o, ho⟩ : ∃ o, o = scl s.data.toList := ⟨_, rfl⟩
 rw [<- ho]
 have lf : ∀ (t : List UInt8) (x : Int) (y : Nat), decide (s = toB t) = true -> scl t = some (x, y) -> impP (.tuple (.cons (.int .i64 fun _ => x) (.cons (.int .i64 fun _ => (y : Int)) (.cons .tt .nil)))) (rscT o) := fun t x y h1 h2 => by
  have h1 : s = toB t := of_decide_eq_true h1
  have e : o = some (x, y) := by rw [ho, h1]; exact h2
  rw [e]
  exact ⟨⟨rfl, rfl⟩, ⟨rfl, rfl⟩, rfl, rfl⟩
 have ng : ∀ (t : List UInt8), decide (s = toB t) = false -> t ≠ s.data.toList := fun t h e => by
  have h : ¬ s = toB t := of_decide_eq_false h
  exact h (by rw [e, toB_data])
 refine tX qf150 Rg1_ok ((.both .any (.both .any (.both .any (.both .any (.both .any (.both .any (.both .any (.both .any (.to 18)))))))))) rfl ?_
 conv => arg 5; cbv
 refine tree_if (∀ x ∈ [([110] : List UInt8), [117], [109], [], [107], [77], [71], [84]], x ≠ s.data.toList) [(6, .str fun _ => s), (0, .str fun _ => s)] [] 0 (by rfl) ?_ ?_
 ·refine ⟨fun h => ⟨rfl, lf _ _ _ h (by decide)⟩, fun h0 => ⟨fun h => ⟨rfl, lf _ _ _ h (by decide)⟩, fun h1 => ⟨fun h => ⟨rfl, lf _ _ _ h (by decide)⟩, fun h2 => ⟨fun h => ⟨rfl, lf _ _ _ h (by decide)⟩, fun h3 => ⟨fun h => ⟨rfl, lf _ _ _ h (by decide)⟩, fun h4 => ⟨fun h => ⟨rfl, lf _ _ _ h (by decide)⟩, fun h5 => ⟨fun h => ⟨rfl, lf _ _ _ h (by decide)⟩, fun h6 => ⟨fun h => ⟨rfl, lf _ _ _ h (by decide)⟩, fun h7 => ⟨?_, rfl, fun i => i, by rfl, ⟨iR, iR, trivial⟩, trivial⟩⟩⟩⟩⟩⟩⟩⟩⟩
  intro x hx
  simp only [List.mem_cons, List.not_mem_nil, or_false] at hx
  rcases hx with rfl | rfl | rfl | rfl | rfl | rfl | rfl | rfl
  ·exact ng _ h0
  ·exact ng _ h1
  ·exact ng _ h2
  ·exact ng _ h3
  ·exact ng _ h4
  ·exact ng _ h5
  ·exact ng _ h6
  ·exact ng _ h7
 intro hA
 refine bX Rg1_ok ((.both .any (.both .any (.both .any (.both .any (.both .any (.both .any (.both .any (.both .any (.to 34)))))))))) _ rfl ?_
 conv => arg 5; cbv
 refine tree_if (∀ x ∈ [([80] : List UInt8), [69], [75, 105], [77, 105], [71, 105], [84, 105], [80, 105], [69, 105]], x ≠ s.data.toList) [(0, .str fun _ => s)] [] 0 (by rfl) ?_ ?_
 ·refine ⟨fun h => ⟨rfl, lf _ _ _ h (by decide)⟩, fun h0 => ⟨fun h => ⟨rfl, lf _ _ _ h (by decide)⟩, fun h1 => ⟨fun h => ⟨rfl, lf _ _ _ h (by decide)⟩, fun h2 => ⟨fun h => ⟨rfl, lf _ _ _ h (by decide)⟩, fun h3 => ⟨fun h => ⟨rfl, lf _ _ _ h (by decide)⟩, fun h4 => ⟨fun h => ⟨rfl, lf _ _ _ h (by decide)⟩, fun h5 => ⟨fun h => ⟨rfl, lf _ _ _ h (by decide)⟩, fun h6 => ⟨fun h => ⟨rfl, lf _ _ _ h (by decide)⟩, fun h7 => ⟨?_, rfl, fun i => i, by rfl, ⟨iR, trivial⟩, trivial⟩⟩⟩⟩⟩⟩⟩⟩⟩
  intro x hx
  simp only [List.mem_cons, List.not_mem_nil, or_false] at hx
  rcases hx with rfl | rfl | rfl | rfl | rfl | rfl | rfl | rfl
  ·exact ng _ h0
  ·exact ng _ h1
  ·exact ng _ h2
  ·exact ng _ h3
  ·exact ng _ h4
  ·exact ng _ h5
  ·exact ng _ h6
  ·exact ng _ h7
 intro hB
 have he : o = sclE s.data.toList := by
  rw [ho]
  refine scl_else fun x hx => ?_
  simp only [sufs, List.mem_cons, List.not_mem_nil, or_false] at hx
  rcases hx with rfl | rfl | rfl | rfl | rfl | rfl | rfl | rfl | rfl | rfl | rfl | rfl | rfl | rfl | rfl | rfl
  all_goals first | exact hA _ (by decide) | exact hB _ (by decide)
 obtain ⟨c, r, hcr⟩ : ∃ c r, s.data.toList = c :: r := by
  cases h : s.data.toList with
  | nil => exact absurd h.symm (hA [] (by decide))
  | cons c r => exact ⟨c, r, rfl⟩
 obtain ⟨x1, x2, x3⟩ := cut_one hcr
 have hb0 : byteAt s 0 = (c.toNat : Int) := by
  unfold byteAt
  rw [hcr]; rfl
 rw [hcr] at he
 have he : o = if c = 101 \/ c = 69 then (expo r).map fun n => (n, 0) else none := he
 refine bX Rg1_ok ((.both (.both .any (.to 36)) (.to 36))) _ rfl ?_
 conv => arg 5; cbv
 refine tree_if (o = (expo r).map fun n => (n, 0)) [(0, .str fun _ => s)] [] 0 (by rfl) ?_ ?_
 ·refine ⟨⟨⟨by decide, by show (0 : Int) < (s.size : Int); omega⟩, trivial⟩, fun a => ⟨⟨⟨by decide, by show (0 : Int) < (s.size : Int); omega⟩, trivial⟩, fun b => ⟨rfl, ?_⟩, fun b => ⟨?_, rfl, fun i => i, by rfl, ⟨iR, trivial⟩, trivial⟩⟩, fun a => ⟨?_, rfl, fun i => i, by rfl, ⟨iR, trivial⟩, trivial⟩⟩
  ·have a : (byteAt s 0 != 69) = true := a
   have b : (byteAt s 0 != 101) = true := b
   rw [hb0] at a b
   have e : o = none := by
    rw [he, if_neg]
    rintro (rfl | rfl)
    ·revert b; decide
    ·revert a; decide
   rw [e]
   exact ⟨⟨rfl, rfl⟩, ⟨rfl, rfl⟩, rfl, rfl⟩
  ·have b : (byteAt s 0 != 101) = false := b
   rw [hb0] at b
   have b : ((c.toNat : Nat) : Int) = 101 := by simpa using b
   rw [he, if_pos (.inl (UInt8.toNat_inj.1 (by show c.toNat = 101; omega)))]
  ·have a : (byteAt s 0 != 69) = false := a
   rw [hb0] at a
   have a : ((c.toNat : Nat) : Int) = 69 := by simpa using a
   rw [he, if_pos (.inr (UInt8.toNat_inj.1 (by show c.toNat = 69; omega)))]
 intro ho2
 refine bX Rg1_ok ((.both (.both (.both (.to 42) (.to 42)) (.both (.both (.to 42) (.to 42)) (.to 42))) (.to 42))) _ rfl ?_
 conv => arg 5; cbv
 refine tree_all (ι := Int × ByteArray) (fun x => o = (expoD x.2.data.toList).map (fun n => (x.1 * n, 0)) /\ (x.1 = 1 \/ x.1 = -1) /\ x.2.size < 2147483648) rscA (fun _ => []) 0 (by rfl) ?_ ?_
 ·have x1 : s.extract (Int.toNat 1) ((s.size : Int)).toNat = toB r := x1
  have hz : (toB r).size = r.length := (size_toB (toB r)).symm
  have hrs : (toB r).size < 2147483648 := by omega
  have cz : decide (¬ s.extract (Int.toNat 1) ((s.size : Int)).toNat = (⟨#[]⟩ : ByteArray)) = true -> ∃ c' r', r = c' :: r' := fun h => by
   have h : ¬ s.extract (Int.toNat 1) ((s.size : Int)).toNat = (⟨#[]⟩ : ByteArray) := of_decide_eq_true h
   rw [x1] at h
   cases r with
   | nil => exact absurd rfl h
   | cons c' r' => exact ⟨c', r', rfl⟩
  have plain : (∀ r', r ≠ 45 :: r') -> (∀ r', r ≠ 43 :: r') -> o = (expoD (toB r).data.toList).map (fun n => ((1 : Int) * n, 0)) := fun h1 h2 => by
   rw [ho2]
   show (expo r).map _ = (expoD r).map _
   have : expo r = expoD r := by
    unfold expo
    split
    ·exact absurd rfl (h1 _)
    ·exact absurd rfl (h2 _)
    ·rfl
   rw [this]
   congr 1
   funext n
   rw [Int.one_mul]
  have cc : ∀ c' r', r = c' :: r' -> ((0 : Int) <= 0 /\ (0 : Int) < ((s.extract (Int.toNat 1) ((s.size : Int)).toNat).size : Int)) /\ ((0 : Int) <= 1 /\ (1 : Int) <= ((s.extract (Int.toNat 1) ((s.size : Int)).toNat).size : Int)) /\ byteAt (s.extract (Int.toNat 1) ((s.size : Int)).toNat) 0 = (c'.toNat : Int) /\ (s.extract (Int.toNat 1) ((s.size : Int)).toNat).extract (Int.toNat 1) (((s.extract (Int.toNat 1) ((s.size : Int)).toNat).size : Int)).toNat = toB r' /\ (toB r').size < 2147483648 := fun c' r' h => by
   have h' : (toB r).data.toList = c' :: r' := h
   obtain ⟨y1, y2, y3⟩ := cut_one h'
   rw [x1]
   refine ⟨⟨by decide, by omega⟩, ⟨by decide, by omega⟩, ?_, y1, by omega⟩
   unfold byteAt
   rw [h']; rfl
  refine ⟨⟨⟨by decide, by show (1 : Int) <= (s.size : Int); omega⟩, trivial⟩, fun a => ?_, fun a => ⟨rfl, (1, toB r), fun i => i, ⟨plain (fun r' e => ?_) (fun r' e => ?_), .inl rfl, hrs⟩, by rfl, ⟨iR, x1, trivial⟩, trivial⟩⟩
  ·obtain ⟨c', r', hr⟩ := cz a
   obtain ⟨k1, k2, k3, k4, k5⟩ := cc c' r' hr
   refine ⟨⟨k1, trivial⟩, fun b => ⟨⟨k1, trivial⟩, fun d => ?_, fun d => ⟨⟨k2, trivial⟩, rfl, (1, toB r'), fun i => i, ⟨?_, .inl rfl, k5⟩, by rfl, ⟨iR, k4, trivial⟩, trivial⟩⟩, fun b => ⟨⟨k1, trivial⟩, fun d => ⟨⟨k1, trivial⟩, fun f => ⟨⟨k2, trivial⟩, rfl, (-1, toB r'), fun i => i, ⟨?_, .inr rfl, k5⟩, by rfl, ⟨iR, k4, trivial⟩, trivial⟩, fun f => ?_⟩, fun d => ⟨rfl, (1, toB r), fun i => i, ⟨plain ?_ ?_, .inl rfl, hrs⟩, by rfl, ⟨iR, x1, trivial⟩, trivial⟩⟩⟩
   ·rw [k3] at b d
    have b : ((c'.toNat : Nat) : Int) = 43 := by simpa using b
    have d : ((c'.toNat : Nat) : Int) = 45 := by simpa using d
    omega
   ·rw [k3] at b
    have b : ((c'.toNat : Nat) : Int) = 43 := by simpa using b
    obtain rfl : c' = 43 := UInt8.toNat_inj.1 (by show c'.toNat = 43; omega)
    rw [ho2, hr]
    show (expoD r').map _ = (expoD r').map _
    congr 1
    funext n
    show (n, 0) = ((1 : Int) * n, 0)
    rw [Int.one_mul]
   ·rw [k3] at f
    have f : ((c'.toNat : Nat) : Int) = 45 := by simpa using f
    obtain rfl : c' = 45 := UInt8.toNat_inj.1 (by show c'.toNat = 45; omega)
    rw [ho2, hr]
    show ((expoD r').map fun n => -n).map _ = (expoD r').map _
    rw [Option.map_map]
    congr 1
    funext n
    show (-n, 0) = ((-1 : Int) * n, 0)
    congr 1; omega
   ·rw [k3] at d f
    rw [show (((c'.toNat : Nat) : Int) == 45) = true from d] at f
    cases f
   ·intro r2 e
    rw [hr] at e
    injection e with e1 e2
    rw [k3, e1] at d
    revert d; decide
   ·intro r2 e
    rw [hr] at e
    injection e with e1 e2
    rw [k3, e1] at b
    revert b; decide
  ·have a : ¬ ¬ s.extract (Int.toNat 1) ((s.size : Int)).toNat = (⟨#[]⟩ : ByteArray) := of_decide_eq_false a
   rw [x1, e] at a
   exact a fun h => by cases congrArg (fun b => b.data.toList) h
  ·have a : ¬ ¬ s.extract (Int.toNat 1) ((s.size : Int)).toNat = (⟨#[]⟩ : ByteArray) := of_decide_eq_false a
   rw [x1, e] at a
   exact a fun h => by cases congrArg (fun b => b.data.toList) h
 rintro ⟨sg, t⟩ ⟨ht, hsg, htz⟩
 have ht : o = (expoD t.data.toList).map (fun n => (sg * n, 0)) := ht
 have hsg : sg = 1 \/ sg = -1 := hsg
 have hz : t.data.toList.length = t.size := size_toB t
 have by0 : 0 < t.size -> ∃ c l, t.data.toList = c :: l /\ byteAt t 0 = (c.toNat : Int) := fun h => by
  cases hl : t.data.toList with
  | nil => rw [hl] at hz; have : t.size = 0 := hz.symm; omega
  | cons c l => exact ⟨c, l, rfl, by unfold byteAt; rw [hl]; rfl⟩
 have isd : ∀ (c : UInt8) (b : Int), b = (c.toNat : Int) -> (decide (48 <= b) && decide (b <= 57)) = isD c := fun c b h => by
  rw [h]
  unfold isD
  rw [Bool.eq_iff_iff]
  simp only [Bool.and_eq_true, decide_eq_true_eq]
  omega
 have no : expoD t.data.toList = none -> impP (.tuple (.cons (.int .i64 fun _ => 0) (.cons (.int .i64 fun _ => 0) (.cons .ff .nil)))) (rscT o) := fun h => by
  rw [ht, h]
  exact ⟨⟨rfl, rfl⟩, ⟨rfl, rfl⟩, rfl, rfl⟩
 have yes : ∀ (v n : Int), expoD t.data.toList = some n -> v = sg * n -> impP (.tuple (.cons (.int .i64 fun _ => v) (.cons (.int .i64 fun _ => 0) (.cons .tt .nil)))) (rscT o) := fun v n h e => by
  rw [ht, h]
  exact ⟨⟨rfl, e⟩, ⟨rfl, rfl⟩, rfl, rfl⟩
 have sz1 : ((t.size : Int) == 1) = true -> t.size = 1 := fun h => by
  have : (t.size : Int) = 1 := by simpa using h
  omega
 have sz2 : ((t.size : Int) == 2) = true -> t.size = 2 := fun h => by
  have : (t.size : Int) = 2 := by simpa using h
  omega
 have nz1 : ((t.size : Int) == 1) = false -> t.size ≠ 1 := fun h e => by rw [e] at h; cases h
 have nz2 : ((t.size : Int) == 2) = false -> t.size ≠ 2 := fun h e => by rw [e] at h; cases h
 have c0 : 1 <= t.size -> (0 : Int) <= 0 /\ (0 : Int) < (t.size : Int) := fun h => ⟨by decide, by omega⟩
 have c1 : 2 <= t.size -> (0 : Int) <= 1 /\ (1 : Int) < (t.size : Int) := fun h => ⟨by decide, by omega⟩
 have one : t.size = 1 -> ∃ c : UInt8, t.data.toList = [c] /\ byteAt t 0 = (c.toNat : Int) := fun h => by
  obtain ⟨c, l, h1, h2⟩ := by0 (by omega)
  rw [h1, List.length_cons] at hz
  have : l = [] := List.length_eq_zero_iff.1 (by omega)
  subst this
  exact ⟨c, h1, h2⟩
 have two : t.size = 2 -> ∃ c d : UInt8, t.data.toList = [c, d] /\ byteAt t 0 = (c.toNat : Int) /\ byteAt t 1 = (d.toNat : Int) := fun h => by
  obtain ⟨c, l, h1, h2⟩ := by0 (by omega)
  rw [h1, List.length_cons] at hz
  cases l with
  | nil => exact absurd hz (by show ¬ 0 + 1 = t.size; omega)
  | cons d l =>
    rw [List.length_cons] at hz
    have : l = [] := List.length_eq_zero_iff.1 (by omega)
    subst this
    exact ⟨c, d, h1, h2, by unfold byteAt; rw [h1]; rfl⟩
 have e1 : ∀ c : UInt8, t.data.toList = [c] -> isD c = true -> expoD t.data.toList = some ((c.toNat - 48 : Nat) : Int) := fun c h hd => by
  rw [h]
  unfold expoD
  rw [if_pos ⟨by rw [List.all_cons, hd]; rfl, Nat.le_refl _, by show 1 <= 2; decide⟩]
  unfold valD
  simp
 have e2 : ∀ c d : UInt8, t.data.toList = [c, d] -> isD c = true -> isD d = true -> expoD t.data.toList = some ((10 * (c.toNat - 48) + (d.toNat - 48) : Nat) : Int) := fun c d h hc hd => by
  rw [h]
  unfold expoD
  rw [if_pos ⟨by rw [List.all_cons, hc, List.all_cons, hd]; rfl, by show 1 <= 2; decide, Nat.le_refl _⟩]
  unfold valD
  simp only [List.foldl_cons, List.foldl_nil]
  congr 2; omega
 have ex : ¬ (t.data.toList.all isD = true /\ 1 <= t.size /\ t.size <= 2) -> expoD t.data.toList = none := fun h => by
  unfold expoD
  rw [if_neg (by rw [hz]; exact h)]
 have ix : ∀ c : UInt8, isD c = true -> (c.toNat : Int) - 48 = ((c.toNat - 48 : Nat) : Int) /\ c.toNat - 48 <= 9 := fun c h => by
  unfold isD at h
  simp only [Bool.and_eq_true, decide_eq_true_eq] at h
  omega
 have v1 : ∀ (c : UInt8), isD c = true -> IntKind.i64.wrap (sg * IntKind.i64.wrap (IntKind.u8.wrap ((c.toNat : Int) - 48))) = sg * ((c.toNat - 48 : Nat) : Int) := fun c h => by
  obtain ⟨k1, k2⟩ := ix c h
  rw [k1, IntWalk.u8_in _ ⟨by omega, by omega⟩, IntWalk.i64_in ((c.toNat - 48 : Nat) : Int) ⟨by omega, by omega⟩]
  rcases hsg with rfl | rfl <;> exact IntWalk.i64_in _ ⟨by omega, by omega⟩
 have v2 : ∀ (c d : UInt8), isD c = true -> isD d = true -> IntKind.i64.wrap (sg * IntKind.i64.wrap (IntKind.i64.wrap (10 * IntKind.i64.wrap (IntKind.u8.wrap ((c.toNat : Int) - 48))) + IntKind.i64.wrap (IntKind.u8.wrap ((d.toNat : Int) - 48)))) = sg * ((10 * (c.toNat - 48) + (d.toNat - 48) : Nat) : Int) := fun c d h g => by
  obtain ⟨k1, k2⟩ := ix c h
  obtain ⟨g1, g2⟩ := ix d g
  rw [k1, g1]
  generalize c.toNat - 48 = x at k2
  generalize d.toNat - 48 = y at g2
  rw [IntWalk.u8_in _ ⟨by omega, by omega⟩, IntWalk.u8_in (y : Int) ⟨by omega, by omega⟩, IntWalk.i64_in (x : Int) ⟨by omega, by omega⟩, IntWalk.i64_in (y : Int) ⟨by omega, by omega⟩, IntWalk.i64_in (10 * (x : Int)) ⟨by omega, by omega⟩, IntWalk.i64_in (10 * (x : Int) + y) ⟨by omega, by omega⟩, show 10 * (x : Int) + y = ((10 * x + y : Nat) : Int) by omega]
  rcases hsg with rfl | rfl <;> exact IntWalk.i64_in _ ⟨by omega, by omega⟩
 refine bX Rg1_ok (.any) _ rfl ?_
 conv => arg 5; cbv
 refine ⟨fun a => ⟨⟨c0 (by rw [sz1 a]; decide), trivial⟩, fun b => ⟨⟨c0 (by rw [sz1 a]; decide), trivial⟩, rfl, ?_⟩, fun b => ⟨fun k => ?_, fun _ => ⟨rfl, no (ex ?_)⟩⟩⟩,
  fun a => ⟨fun k => ⟨⟨c0 (by rw [sz2 k]; decide), trivial⟩, fun b => ⟨⟨c1 (by rw [sz2 k]; decide), trivial⟩, fun d => ⟨⟨c0 (by rw [sz2 k]; decide), c1 (by rw [sz2 k]; decide), (by show drawOK _ _ = true; decide +kernel), trivial⟩, rfl, ?_⟩, fun d => ⟨rfl, no (ex ?_)⟩⟩, fun b => ⟨rfl, no (ex ?_)⟩⟩, fun k => ⟨rfl, no (ex ?_)⟩⟩⟩
 ·obtain ⟨c, h1, h2⟩ := one (sz1 a)
  have hd := (isd c _ h2).symm.trans b
  refine yes _ _ (e1 c h1 hd) ?_
  show IntKind.i64.wrap (sg * IntKind.i64.wrap (IntKind.u8.wrap (byteAt t 0 - 48))) = _
  rw [h2]
  exact v1 c hd
 ·have := sz1 a
  have := sz2 k
  omega
 ·obtain ⟨c, h1, h2⟩ := one (sz1 a)
  have hd := (isd c _ h2).symm.trans b
  rintro ⟨q, _⟩
  rw [h1, List.all_cons, hd] at q
  cases q
 ·obtain ⟨c, c', h1, h2, h3⟩ := two (sz2 k)
  have hd := (isd c _ h2).symm.trans b
  have hd' := (isd c' _ h3).symm.trans d
  refine yes _ _ (e2 c c' h1 hd hd') ?_
  show IntKind.i64.wrap (sg * IntKind.i64.wrap (IntKind.i64.wrap (10 * IntKind.i64.wrap (IntKind.u8.wrap (byteAt t 0 - 48))) + IntKind.i64.wrap (IntKind.u8.wrap (byteAt t 1 - 48)))) = _
  rw [h2, h3]
  exact v2 c c' hd hd'
 ·obtain ⟨c, c', h1, h2, h3⟩ := two (sz2 k)
  have hd' := (isd c' _ h3).symm.trans d
  rintro ⟨q, _⟩
  rw [h1, List.all_cons, List.all_cons, hd'] at q
  simp at q
 ·obtain ⟨c, c', h1, h2, h3⟩ := two (sz2 k)
  have hd := (isd c _ h2).symm.trans b
  rintro ⟨q, _⟩
  rw [h1, List.all_cons, hd] at q
  cases q
 ·have := nz1 a
  have := nz2 k
  rintro ⟨_, q⟩
  omega
noncomputable def Rg2 : Table := addS 150 (.cons .str .nil) (fun s => (.tuple (.cons (.int .i64 fun _ => ((scl (s ()).data.toList).map (·.1)).getD 0) (.cons (.int .i64 fun _ => ((((scl (s ()).data.toList).map (·.2)).getD 0 : Nat) : Int)) (.cons (.bool fun _ => (scl (s ()).data.toList).isSome) .nil))), [fun _ => (s ()).size < 2147483648])) Rg1
theorem Rg2_ok : TableOK Tryz.prog G0 Rg2 := addS_ok qf150.callable (fun s h => rscale_ok (s ()) h.1) Rg1_ok
def wParse (n : Nat) : PV := .tuple (.cons (.agg (.cons (.int .u64 fun _ => if n < 65536 ^ 8 then wHi n else 0) (.cons (.int .u64 fun _ => if n < 65536 ^ 8 then wLo n else 0) .nil))) (.cons (.bool fun _ => decide (n < 65536 ^ 8)) .nil))
theorem row_set : ∀ c : Nat, c < 11 -> (List.replicate 20 (0 : Int)).set 0 (c : Int) = rowOf (dg c) := by decide
theorem ten_step {v c : Nat} (hv : v < 65536 ^ 8) (hc : c < 10) : rowOf (dg (nv (rowOf (dg (nv (rowOf (dg v)) % 65536 ^ 8 * (nv ((List.replicate 20 (0 : Int)).set 0 10) % 65536 ^ 8)))) + nv ((List.replicate 20 (0 : Int)).set 0 (c : Int)))) = rowOf (dg (v * 10 + c)) := by
 have e10 : (List.replicate 20 (0 : Int)).set 0 10 = rowOf (dg 10) := row_set 10 (by decide)
 rw [e10, row_set c (by omega), row_add, nv_of (Nat.lt_of_lt_of_le hv (by decide +kernel)), nv_of (show (10 : Nat) < D20 by decide +kernel), Nat.mod_eq_of_lt hv]
theorem ten_big {x : Nat} (h : ((rowOf (dg x)).getD 8 0 != 0) = true \/ ((rowOf (dg x)).getD 9 0 != 0) = true) : 65536 ^ 8 <= x := by
 apply Classical.byContradiction
 intro hn
 have hn : x < 65536 ^ 8 := by omega
 have e8 : dg x 8 = 0 := by unfold dg; rw [Nat.div_eq_of_lt hn]
 have e9 : dg x 9 = 0 := by unfold dg; rw [Nat.div_eq_of_lt (Nat.lt_of_lt_of_le hn (Nat.pow_le_pow_right (by decide) (by decide)))]
 rw [rowOf_get (by decide), rowOf_get (by decide), e8, e9] at h
 revert h; decide
theorem ten_small {x : Nat} (hx : x < 65536 ^ 8 * 10 + 10) (h : ((rowOf (dg x)).getD 8 0 != 0) = false) : x < 65536 ^ 8 := by
 rw [rowOf_get (by decide)] at h
 have h : ((dg x 8 : Nat) : Int) = 0 := by simpa using h
 have h : dg x 8 = 0 := by omega
 unfold dg at h
 have hd : x / 65536 ^ 8 < 11 := Nat.div_lt_of_lt_mul (Nat.lt_of_lt_of_le hx (by decide))
 have h0 : x / 65536 ^ 8 = 0 := by rw [Nat.mod_eq_of_lt (by omega)] at h; exact h
 exact (Nat.div_eq_zero_iff_lt (by decide)).1 h0
theorem rwparse_ok (n : Nat) (hl : (Lib.decDigits n).length <= 1000) : PF 151 (.cons (.str fun _ => toB (Lib.decDigits n)) .nil) (wParse n) := by
 obtain ⟨S, hS⟩ : ∃ S, S = toB (Lib.decDigits n) := ⟨_, rfl⟩
 obtain ⟨R, hR⟩ : ∃ R, R = wParse n := ⟨_, rfl⟩
 rw [<- hS, <- hR]
 obtain ⟨h1, h2, h3, h4⟩ := decDigits_dig n
 obtain ⟨l, hlD⟩ : ∃ l, l = Lib.decDigits n := ⟨_, rfl⟩
 rw [<- hlD] at h1 h2 h3 h4 hS hl
 have hz : S.size = l.length := by rw [hS]; exact (size_toB (toB l)).symm
 have hSl : S.data.toList = l := by rw [hS]; rfl
 have bad : 65536 ^ 8 <= n -> impP (.tuple (.cons (.agg (.cons (.int .u64 fun _ => 0) (.cons (.int .u64 fun _ => 0) .nil))) (.cons .ff .nil))) R := fun h => by
  have h' : ¬ n < 65536 ^ 8 := by omega
  rw [hR]
  exact ⟨⟨⟨rfl, (if_neg h').symm⟩, ⟨rfl, (if_neg h').symm⟩, rfl⟩, decide_eq_false h', rfl⟩
 refine tX qf151 Rt1_ok ((.both .any (.both .any (.both (.both .any (.to 4)) (.to 4))))) rfl ?_
 conv => arg 5; cbv
 refine tree_meet [(4, .ptr 1 0), (2, .ptr 0 0), (0, .str fun _ => S)] [(0, .var (twP 0 0)), (1, .var (.arrI .u64 20 fun _ => List.replicate 20 0))] 2 (by rfl) ?_ ?_
 ·refine ⟨fun a => ?_, fun a => ⟨fun b => ⟨rfl, bad ?_⟩, fun b => ⟨fun c => ⟨⟨⟨by decide, ?_⟩, trivial⟩, fun d => ?_, fun d => ⟨rfl, fun i => i, by rfl, ⟨iR, iR, iR, trivial⟩, ⟨iR, iR, trivial⟩⟩⟩, fun c => ⟨rfl, fun i => i, by rfl, ⟨iR, iR, iR, trivial⟩, ⟨iR, iR, trivial⟩⟩⟩⟩⟩
  ·have a : S = (⟨#[]⟩ : ByteArray) := of_decide_eq_true a
   exact absurd (by rw [<- hSl, a]) h3
  ·have b : (45 : Int) < (S.size : Int) := of_decide_eq_true b
   have := dec_len_ge (n := n) (k := 45) (by rw [<- hlD]; omega) (by decide)
   exact Nat.le_trans (by decide) this
  ·have c : (1 : Int) < (S.size : Int) := of_decide_eq_true c
   show (0 : Int) < (S.size : Int)
   omega
  ·have c : (1 : Int) < (S.size : Int) := of_decide_eq_true c
   have d : byteAt S 0 = 48 := by simpa using d
   exfalso
   have hn : n = 0 := h4 (by
    cases hq : l with
    | nil => exact absurd hq h3
    | cons x r =>
      rw [hS, hq] at d
      have d : ((x.toNat : Nat) : Int) = 48 := d
      show some x = some 48
      congr 1
      exact UInt8.toNat_inj.1 (by show x.toNat = 48; omega))
   rw [hlD, hn, decDigits_zero] at hz
   have hz : S.size = 1 := hz
   omega
 refine bX Rt1_ok (.any) _ rfl ?_
 conv => arg 5; cbv
 refine run_inv (ι := Nat) (fun i => l.length - i) (fun i => i <= l.length /\ valD (l.take i) < 65536 ^ 8) (fun i => [(5, .int .i64 fun _ => (i : Int)), (4, .ptr 1 0), (2, .ptr 0 0), (0, .str fun _ => S)]) (fun i => [(0, .var (twP 0 0)), (1, .var (.arrI .u64 20 fun _ => rowOf (dg (valD (l.take i)))))]) 2 0 (fun i => i) (by rfl) (by rfl) ⟨Nat.zero_le _, by rw [List.take_zero]; decide⟩ ?_ ⟨iR, iR, iR, iR, trivial⟩ ⟨iR, ⟨rfl, rfl, by show List.replicate 20 (0 : Int) = rowOf (dg (valD (l.take 0))); rw [List.take_zero]; decide⟩, trivial⟩
 rintro i ⟨hi, hv⟩ ih
 obtain ⟨v, hvv⟩ : ∃ v, v = valD (l.take i) := ⟨_, rfl⟩
 rw [<- hvv] at hv ⊢
 refine bX Rt1_ok (.any) _ rfl ?_
 conv => arg 5; cbv
 have hlen : l.length <= 1000 := hl
 refine ⟨fun a => ?_, fun a => ⟨⟨isRow_of _, ?_, trivial⟩, rfl, ?_⟩⟩
 ·have a : (i : Int) < (S.size : Int) := of_decide_eq_true a
  have hi2 : i < l.length := by omega
  have hx : 0 <= (i : Int) /\ (i : Int) < (S.size : Int) := ⟨Int.natCast_nonneg i, a⟩
  have hc : isD l[i] = true := List.all_eq_true.1 h1 _ (List.getElem_mem hi2)
  have hb : byteAt S (i : Int) = ((l[i].toNat : Nat) : Int) := by
   unfold byteAt
   rw [Int.toNat_natCast, hSl, List.getD_eq_getElem?_getD, List.getElem?_eq_getElem hi2]; rfl
  have hd := hc
  unfold isD at hd
  simp only [Bool.and_eq_true, decide_eq_true_eq] at hd
  have hnx : valD (l.take (i + 1)) = v * 10 + (l[i].toNat - 48) := by rw [List.take_succ_eq_append_getElem hi2, valD_snoc, <- hvv]
  have hle := valD_take_le l (i + 1)
  rw [h2, hnx] at hle
  generalize hk : l[i].toNat - 48 = c at hnx hle
  have hc10 : c < 10 := by omega
  have ew : IntKind.u64.wrap (IntKind.u8.wrap (byteAt S (i : Int) - 48)) = (c : Int) := by
   rw [hb, show ((l[i].toNat : Nat) : Int) - 48 = (c : Int) by omega, IntWalk.u8_in _ ⟨by omega, by omega⟩, uw (by omega)]
  have st : rowOf (dg (nv (rowOf (dg (nv (rowOf (dg v)) % 65536 ^ 8 * (nv ((List.replicate 20 (0 : Int)).set 0 10) % 65536 ^ 8)))) + nv ((List.replicate 20 (0 : Int)).set 0 (IntKind.u64.wrap (IntKind.u8.wrap (byteAt S (i : Int) - 48)))))) = rowOf (dg (v * 10 + c)) := by
   rw [ew]; exact ten_step hv hc10
  have hw : IntKind.i64.wrap ((i : Int) + 1) = ((i + 1 : Nat) : Int) := by rw [IntWalk.i64_in _ ⟨by omega, by omega⟩]; omega
  refine ⟨⟨hx, trivial⟩, fun b => ?_, fun b => ⟨⟨hx, trivial⟩, fun d => ?_, fun d => ⟨⟨isRow_of _, ?_, hx, isRow_of _, ?_, (by show drawOK _ _ = true; decide +kernel), trivial⟩, fun f => ⟨rfl, bad ?_⟩, fun f => ⟨fun g => ⟨rfl, bad ?_⟩, fun g => ?_⟩⟩⟩⟩
  ·have b : byteAt S (i : Int) < 48 := of_decide_eq_true b
   rw [hb] at b
   omega
  ·have d : 57 < byteAt S (i : Int) := of_decide_eq_true d
   rw [hb] at d
   omega
  ·show isRow ((List.replicate 20 (0 : Int)).set 0 10)
   rw [show (List.replicate 20 (0 : Int)).set 0 10 = rowOf (dg 10) from row_set 10 (by decide)]
   exact isRow_of _
  ·show isRow ((List.replicate 20 (0 : Int)).set 0 (IntKind.u64.wrap (IntKind.u8.wrap (byteAt S (i : Int) - 48))))
   rw [ew, row_set c (by omega)]
   exact isRow_of _
  ·refine Nat.le_trans (ten_big (x := v * 10 + c) (.inl ?_)) hle
   rw [<- st]; exact f
  ·refine Nat.le_trans (ten_big (x := v * 10 + c) (.inr ?_)) hle
   rw [<- st]; exact g
  ·have hsm : v * 10 + c < 65536 ^ 8 := ten_small (by omega) (by rw [<- st]; exact f)
   exact ih (i + 1) (fun i => i) ⟨by omega, by rw [hnx]; exact hsm⟩ (by omega) (by rfl) ⟨⟨rfl, hw⟩, iR, iR, iR, trivial⟩ ⟨iR, ⟨rfl, rfl, by show _ = rowOf (dg (valD (l.take (i + 1)))); rw [hnx]; exact st⟩, trivial⟩
 ·show nv (rowOf (dg v)) < 65536 ^ 8
  rw [nv_of (Nat.lt_of_lt_of_le hv (by decide +kernel))]; exact hv
 ·have a : ¬ (i : Int) < (S.size : Int) := of_decide_eq_false a
  have e : i = l.length := by omega
  rw [e, List.take_length, h2] at hvv
  rw [nv_of (Nat.lt_of_lt_of_le hv (by decide +kernel)), hR, hvv]
  rw [hvv] at hv
  exact ⟨⟨⟨rfl, (if_pos hv).symm⟩, ⟨rfl, (if_pos hv).symm⟩, rfl⟩, (decide_eq_true hv).symm, rfl⟩
noncomputable def Rg3 : Table := addS 151 (.cons .str .nil) (fun s => (.tuple (.cons (.agg (.cons (.int .u64 fun _ => if valD (s ()).data.toList < 65536 ^ 8 then wHi (valD (s ()).data.toList) else 0) (.cons (.int .u64 fun _ => if valD (s ()).data.toList < 65536 ^ 8 then wLo (valD (s ()).data.toList) else 0) .nil))) (.cons (.bool fun _ => decide (valD (s ()).data.toList < 65536 ^ 8)) .nil)), [fun _ => s () = toB (Lib.decDigits (valD (s ()).data.toList)), fun _ => (s ()).size <= 1000]))
 (addS 152 (.cons (.slice 1 (.int .i64)) .nil) (fun l => (.str fun _ => toB (Lib.decDigits (dv (l ()))), [fun _ => isNum (l ()), fun _ => List.length (α := Int) (l ()) <= 1000])) Rg2)
theorem Rg3_ok : TableOK Tryz.prog G0 Rg3 := addS_ok qf151.callable (fun s h => by
 have e1 : s () = toB (Lib.decDigits (valD (s ()).data.toList)) := h.1
 have h2 : (s ()).size <= 1000 := h.2.1
 have := rwparse_ok (valD (s ()).data.toList) (by
  have : (toB (Lib.decDigits (valD (s ()).data.toList))).size = (Lib.decDigits (valD (s ()).data.toList)).length := (size_toB (toB _)).symm
  rw [<- e1] at this
  omega)
 rw [<- e1] at this
 exact this) (addS_ok qf152.callable (fun l h => by
 have e1 : l () = numL (dv (l ())) := h.1
 have h2 : List.length (α := Int) (l ()) <= 1000 := h.2.1
 have := ntext_ok (dv (l ())) (by rw [<- e1]; exact h2)
 rw [<- e1] at this
 exact this) Rg2_ok)
end Go.Proofs.YtpbjcabecalpaaaGreatDoor
