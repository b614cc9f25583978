/- A part of what the walks of this claim stand on. -/
import Derived.Test.YtpbjcabecalpaaaGreatDoorWak
import Derived.Test.YtpbjcabecalpaaaGreatDoorGac
import Derived.Test.YtpbjcabecalpaaaGreatDoorWai
set_option maxRecDepth 2000
set_option linter.unusedVariables false
set_option linter.unusedSimpArgs false
namespace Go.Proofs.YtpbjcabecalpaaaGreatDoor
open Go Go.Abs Go.Proofs
structure PdX where
 (at_ : Nat) (pt : Bool) (c b v : Nat) (l : List Int)
def pdA (s : ByteArray) : PdX -> Env
 | ⟨i, pt, c, b, _, l⟩ => [(8, .int .i64 fun _ => (b : Int)), (7, .int .i64 fun _ => (c : Int)), (6, .int .i64 fun _ => bif pt then 1 else 0), (5, .int .i64 fun _ => (i : Int)), (4, Sh.mkL 1 (.int .i64) fun _ => l), (2, .ptr 0 0), (0, .str fun _ => s)]
def pdB (s : ByteArray) (i c b : Nat) (l : List Int) : Env := [(8, .int .i64 fun _ => (b : Int)), (7, .int .i64 fun _ => (c : Int)), (5, .int .i64 fun _ => (i : Int)), (4, Sh.mkL 1 (.int .i64) fun _ => l), (2, .ptr 0 0), (0, .str fun _ => s)]
def pdS : Store := [(0, .var (twP 0 0))]
structure PdI (s : ByteArray) (R : Sc) (x : PdX) : Prop where
 sc : scanR (s.data.toList.drop x.at_) x.pt x.c x.b x.v = R
 le : x.at_ <= s.size
 cl : x.c <= x.at_
 bl : x.b <= x.c
 lv : x.l = numL x.v
 vl : x.v < 10 ^ (min x.c 28)
theorem isD_at {s : ByteArray} {i : Nat} {x : UInt8} {r : List UInt8} (h : s.data.toList.drop i = x :: r) : byteAt s (i : Int) = ((x.toNat : Nat) : Int) /\ i < s.size /\ s.data.toList.drop (i + 1) = r := by
 have h1 : i < s.data.toList.length := by
  apply Classical.byContradiction
  intro hn
  rw [List.drop_eq_nil_of_le (by omega)] at h
  cases h
 have h2 := List.drop_eq_getElem_cons h1
 rw [h] at h2
 injection h2 with h3 h4
 refine ⟨?_, by rw [<- size_toB s]; exact h1, h4.symm⟩
 unfold byteAt
 rw [Int.toNat_natCast, List.getD_eq_getElem?_getD, List.getElem?_eq_getElem h1, h3]; rfl
theorem isD_dec (x : UInt8) : (decide (48 <= ((x.toNat : Nat) : Int)) && decide (((x.toNat : Nat) : Int) <= 57)) = isD x := by
 unfold isD
 rw [Bool.eq_iff_iff]
 simp only [Bool.and_eq_true, decide_eq_true_eq]
 omega
def pdC (T : Int) : Nat × Nat × Nat -> Env
 | (j, tw, n) => [(12, .int .i64 fun _ => (j : Int)), (10, .int .i64 fun _ => (tw : Int)), (9, .int .i64 fun _ => T), (4, Sh.mkL 1 (.int .i64) fun _ => numL n), (2, .ptr 0 0)]
def pdD (T : Int) : Nat × Nat -> Env
 | (j, n) => [(13, .int .i64 fun _ => (j : Int)), (9, .int .i64 fun _ => T), (4, Sh.mkL 1 (.int .i64) fun _ => numL n), (2, .ptr 0 0)]
def pdE (T : Int) (N : Nat) (j : Nat) : Env := [(15, .int .i64 fun _ => -(j : Int)), (14, .bool fun _ => decide (N % 10 ^ j ≠ 0)), (9, .int .i64 fun _ => T), (4, Sh.mkL 1 (.int .i64) fun _ => numL (N / 10 ^ j)), (2, .ptr 0 0)]
theorem num_rd (n : Nat) : rdL (Sh.int IntKind.i64).rd (fun _ => ((numL n).length : Int)) (fun j => (Sh.int IntKind.i64).mk fun _ => (numL n).getD (j PUnit.unit).toNat (Sh.int IntKind.i64).dflt) = numL n := rdL_mkL (.int .i64) (numL n)
theorem num_rdN (n : Nat) : isNum (rdL (Sh.int IntKind.i64).rd (fun _ => ((numL n).length : Int)) (fun j => (Sh.int IntKind.i64).mk fun _ => (numL n).getD (j PUnit.unit).toNat (Sh.int IntKind.i64).dflt)) := (congrArg isNum (num_rd n)).mpr (isNum_num n)
theorem num_times (n k p : Nat) : numL (dv (rdL (Sh.int IntKind.i64).rd (fun _ => ((numL n).length : Int)) (fun j => (Sh.int IntKind.i64).mk fun _ => (numL n).getD (j PUnit.unit).toNat (Sh.int IntKind.i64).dflt)) * k + p) = numL (n * k + p) := (congrArg (fun q => numL (dv q * k + p)) (num_rd n)).trans (by rw [dv_num])
theorem num_imp {a b : Nat} (h : numL a = numL b) : impP (Sh.mkL 1 (.int .i64) fun _ => numL a) (Sh.mkL 1 (.int .i64) fun _ => numL b) := by rw [h]; exact iR
theorem num_tl {m : Nat} (h : 0 < (numL m).length) : impP (.slice none 1 (fun _ => ((numL m).length : Int) - 1) fun q => (Sh.int IntKind.i64).mk fun _ => (numL m).getD (1 + q PUnit.unit).toNat (Sh.int IntKind.i64).dflt) (Sh.mkL 1 (.int .i64) fun _ => numL (m / 10)) := by
 have ht : numL (m / 10) = (numL m).tail := (numL_tail m).symm
 refine ⟨.inl rfl, rfl, ?_, fun j h0 h1 => ⟨rfl, ?_⟩⟩
 ·show ((numL m).length : Int) - 1 = ((numL (m / 10)).length : Int)
  rw [ht, List.length_tail]; omega
 ·have h0 : 0 <= j := h0
  show (numL m).getD (1 + j).toNat 0 = (numL (m / 10)).getD j.toNat 0
  rw [ht, show (1 + j).toNat = j.toNat + 1 by omega]
  cases numL m with
  | nil => simp
  | cons x r => simp
theorem pow_mul_lt {a b x y : Nat} (h : a < 10 ^ x) (k : b <= 10 ^ y) : a * b < 10 ^ (x + y) := by
 rw [Nat.pow_add]
 exact Nat.lt_of_le_of_lt (Nat.mul_le_mul_left a k) (Nat.mul_lt_mul_of_pos_right h (Nat.pow_pos (by omega)))
theorem rfaparse_ok (s : ByteArray) (hs : s.size < 2147483648) : PF 123 (.cons (.str fun _ => s) .nil) (.tuple (.cons (.agg (.cons (.int .u64 fun _ => wHi (aparse s.data.toList).1) (.cons (.int .u64 fun _ => wLo (aparse s.data.toList).1) .nil))) (.cons (.int .i64 fun _ => (aparse s.data.toList).2) .nil))) := by
 obtain ⟨P, hP⟩ : ∃ P, P = aparse s.data.toList := ⟨_, rfl⟩
 obtain ⟨R, hR⟩ : ∃ R, R = scanR s.data.toList false 0 0 0 := ⟨_, rfl⟩
 rw [<- hP]
 refine tX qf123 Rg3_ok (.any) rfl ?_
 conv => arg 5; cbv
 refine ⟨fun a => ⟨rfl, ?_⟩, fun a => ?_⟩
 ·have a : s = (⟨#[]⟩ : ByteArray) := of_decide_eq_true a
  have e : P = (0, 10) := by rw [hP, a]; rfl
  rw [e]
  exact ⟨⟨⟨rfl, rfl⟩, ⟨rfl, rfl⟩, rfl⟩, ⟨rfl, rfl⟩, rfl⟩
 refine run_inv (ι := PdX) (fun x => s.size - x.at_) (PdI s R) (pdA s) (fun _ => pdS) 1 ⟨0, false, 0, 0, 0, []⟩ (fun i => i) (by rfl) (by rfl) ⟨hR.symm, Nat.zero_le _, Nat.le_refl _, Nat.le_refl _, numL_zero.symm, by decide⟩ ?_ ⟨iR, iR, iR, iR, rfl, iR, iR, trivial⟩ ⟨iR, trivial⟩
 rintro ⟨i, pt, c, b, v, l⟩ ⟨hsc, hle, hcl, hbl, hlv, hvl⟩ ih
 dsimp only at hsc hle hcl hbl hlv hvl
 have hsz := size_toB s
 by_cases hgo : ∃ x r, s.data.toList.drop i = x :: r /\ (isD x = true \/ (x = 46 /\ pt = false))
 ·obtain ⟨x, r, hxr, hx⟩ := hgo
  obtain ⟨hb, hi, hr⟩ := isD_at hxr
  have hw : IntKind.i64.wrap ((i : Int) + 1) = ((i + 1 : Nat) : Int) := by rw [IntWalk.i64_in _ ⟨by omega, by omega⟩]; omega
  have hc1 : 0 <= (i : Int) /\ (i : Int) < (s.size : Int) := ⟨Int.natCast_nonneg i, by omega⟩
  by_cases hd : isD x = true
  ·have h46 : ¬ x = 46 := fun e => by rw [e] at hd; revert hd; decide
   refine bX Rg3_ok ((.yes (.yes (.no .any)))) _ rfl ?_
   conv => arg 5; cbv
   have hdig := hd
   unfold isD at hdig
   simp only [Bool.and_eq_true, decide_eq_true_eq] at hdig
   have hcw : IntKind.i64.wrap ((c : Int) + 1) = ((c + 1 : Nat) : Int) := by rw [IntWalk.i64_in _ ⟨by omega, by omega⟩]; omega
   have hbw : IntKind.i64.wrap ((b : Int) + (bif pt then 1 else 0)) = ((if pt = true then b + 1 else b : Nat) : Int) := by
    cases pt
    ·show IntKind.i64.wrap ((b : Int) + 0) = (b : Int)
     rw [IntWalk.i64_in _ ⟨by omega, by omega⟩]; omega
    ·show IntKind.i64.wrap ((b : Int) + 1) = ((b + 1 : Nat) : Int)
     rw [IntWalk.i64_in _ ⟨by omega, by omega⟩]; omega
   have hdw : IntKind.i64.wrap (IntKind.u8.wrap (byteAt s (i : Int) - 48)) = ((x.toNat - 48 : Nat) : Int) := by
    rw [hb, show ((x.toNat : Nat) : Int) - 48 = ((x.toNat - 48 : Nat) : Int) by omega, IntWalk.u8_in _ ⟨by omega, by omega⟩, IntWalk.i64_in _ ⟨by omega, by omega⟩]
   have hst : scanR r pt (c + 1) (if pt = true then b + 1 else b) (if c < 28 then v * 10 + (x.toNat - 48) else v) = R := by
    rw [hxr] at hsc
    unfold scanR at hsc
    rw [if_pos hd] at hsc
    exact hsc
   have hbl2 : (if pt = true then b + 1 else b) <= c + 1 := by split <;> omega
   refine ⟨⟨decide_eq_true (show (i : Int) < (s.size : Int) by omega), trivial⟩, ⟨hc1, trivial⟩, ⟨?_, trivial⟩, ⟨hc1, trivial⟩, ⟨?_, trivial⟩, fun a => ?_, fun a => ?_⟩
   ·show (decide (48 <= byteAt s (i : Int)) && decide (byteAt s (i : Int) <= 57)) = true
    rw [hb, isD_dec]; exact hd
   ·show (byteAt s (i : Int) == 46) = false
    rw [hb]
    cases hq : (((x.toNat : Nat) : Int) == 46) with
    | false => rfl
    | true => exact absurd (UInt8.toNat_inj.1 (by have : ((x.toNat : Nat) : Int) = 46 := (by simpa using hq); show x.toNat = 46; omega)) h46
   ·have a : IntKind.i64.wrap ((c : Int) + 1) <= 28 := of_decide_eq_true a
    rw [hcw] at a
    have hc28 : c < 28 := by omega
    rw [if_pos hc28] at hst
    have hv2 : v * 10 + (x.toNat - 48) < 10 ^ (min (c + 1) 28) := by
     rw [show min (c + 1) 28 = min c 28 + 1 by omega, Nat.pow_succ]
     omega
    have hl : ∀ n : Nat, n < 10 ^ 28 -> (numL n).length <= 28 := fun n h => numL_le h
    have hv3 : v * 10 + (x.toNat - 48) < 10 ^ 28 := Nat.lt_of_lt_of_le hv2 (Nat.pow_le_pow_right (by omega) (by omega))
    have hrd : rdL (Sh.int IntKind.i64).rd (fun x => (l.length : Int)) (fun j => (Sh.int IntKind.i64).mk fun x => l.getD (j PUnit.unit).toNat (Sh.int IntKind.i64).dflt) = l := rdL_mkL (.int .i64) l
    have hnum : dv l = v := by rw [hlv, dv_num]
    have e10 : Int.toNat 10 = 10 := rfl
    refine ⟨⟨hc1, ?_, by decide, ?_, ?_, fun j => rfl, trivial⟩, ih ⟨i + 1, pt, c + 1, if pt = true then b + 1 else b, v * 10 + (x.toNat - 48), numL (v * 10 + (x.toNat - 48))⟩ (fun i => i) ⟨by show scanR (s.data.toList.drop (i + 1)) _ _ _ _ = R; rw [hr]; exact hst, by show i + 1 <= s.size; omega, by show c + 1 <= i + 1; omega, hbl2, rfl, hv2⟩ (by show s.size - (i + 1) < s.size - i; omega) (by rfl) ⟨⟨rfl, hbw⟩, ⟨rfl, hcw⟩, iR, ⟨rfl, hw⟩, ?_, iR, iR, trivial⟩ ⟨iR, trivial⟩⟩
    ·refine (congrArg isNum hrd).mpr ?_
     rw [hlv]; exact isNum_num v
    ·show 0 <= IntKind.i64.wrap (IntKind.u8.wrap (byteAt s (i : Int) - 48)) /\ IntKind.i64.wrap (IntKind.u8.wrap (byteAt s (i : Int) - 48)) <= 10
     rw [hdw]; omega
    ·refine (congrArg (fun q => (numL (dv q * Int.toNat 10 + (IntKind.i64.wrap (IntKind.u8.wrap (byteAt s (i : Int) - 48))).toNat)).length <= 1000) hrd).mpr ?_
     rw [hnum, hdw, Int.toNat_natCast, e10]
     have := hl _ hv3
     omega
    ·have hn := (congrArg (fun q => numL (dv q * Int.toNat 10 + (IntKind.i64.wrap (IntKind.u8.wrap (byteAt s (i : Int) - 48))).toNat)) hrd).trans (show _ = numL (v * 10 + (x.toNat - 48)) by rw [hnum, hdw, Int.toNat_natCast, e10])
     exact (congrArg (fun q => impP (Sh.mkL 1 (.int .i64) fun _ => q) (Sh.mkL 1 (.int .i64) fun _ => numL (v * 10 + (x.toNat - 48)))) hn).mpr iR
   ·have a : ¬ IntKind.i64.wrap ((c : Int) + 1) <= 28 := of_decide_eq_false a
    rw [hcw] at a
    have hc28 : ¬ c < 28 := by omega
    rw [if_neg hc28] at hst
    exact ih ⟨i + 1, pt, c + 1, if pt = true then b + 1 else b, v, l⟩ (fun i => i) ⟨by show scanR (s.data.toList.drop (i + 1)) _ _ _ _ = R; rw [hr]; exact hst, by show i + 1 <= s.size; omega, by show c + 1 <= i + 1; omega, hbl2, hlv, by show v < 10 ^ min (c + 1) 28; rw [show min (c + 1) 28 = min c 28 by omega]; exact hvl⟩ (by show s.size - (i + 1) < s.size - i; omega) (by rfl) ⟨⟨rfl, hbw⟩, ⟨rfl, hcw⟩, iR, ⟨rfl, hw⟩, iR, iR, iR, trivial⟩ ⟨iR, trivial⟩
  ·obtain ⟨h46, hpt⟩ : x = 46 /\ pt = false := by
    rcases hx with h | h
    ·exact absurd h hd
    ·exact h
   subst hpt
   refine bX Rg3_ok ((.yes (.no (.yes (.yes (.yes .any)))))) _ rfl ?_
   conv => arg 5; cbv
   have hb46 : (byteAt s (i : Int) == 46) = true := by rw [hb, h46]; rfl
   refine ⟨⟨decide_eq_true (show (i : Int) < (s.size : Int) by omega), trivial⟩, ⟨hc1, trivial⟩, ⟨?_, trivial⟩, ⟨hc1, trivial⟩, ⟨hb46, trivial⟩, ⟨rfl, trivial⟩, ⟨hc1, trivial⟩, ⟨hb46, trivial⟩, ih ⟨i + 1, true, c, b, v, l⟩ (fun i => i) ⟨?_, by show i + 1 <= s.size; omega, by show c <= i + 1; omega, hbl, hlv, hvl⟩ (by show s.size - (i + 1) < s.size - i; omega) (by rfl) ⟨iR, iR, ⟨rfl, ?_⟩, ⟨rfl, hw⟩, iR, iR, iR, trivial⟩ ⟨iR, trivial⟩⟩
   ·show (decide (48 <= byteAt s (i : Int)) && decide (byteAt s (i : Int) <= 57)) = false
    rw [hb, isD_dec]
    cases h : isD x with
    | false => rfl
    | true => exact absurd h hd
   ·show scanR (s.data.toList.drop (i + 1)) true c b v = R
    rw [hxr] at hsc
    unfold scanR at hsc
    rw [if_neg hd, if_pos ⟨h46, rfl⟩] at hsc
    rw [hr]; exact hsc
   ·show IntKind.i64.wrap (0 + 1) = 1
    decide
 ·have hR2 : R = ⟨c, b, v, s.data.toList.drop i⟩ := by
   rw [<- hsc]
   cases hl : s.data.toList.drop i with
   | nil => rfl
   | cons x r =>
     unfold scanR
     rw [if_neg fun h => hgo ⟨x, r, hl, .inl h⟩, if_neg fun h => hgo ⟨x, r, hl, .inr h⟩]
  refine bX Rg3_ok ((.both (.no (.both (.no (.to 13)) (.to 13))) (.to 13))) _ rfl ?_
  conv => arg 5; cbv
  refine tree_meet (pdB s i c b l) pdS 1 (by rfl) ?_ ?_
  ·refine ⟨fun a => ?_, fun a => ⟨rfl, fun i => i, by rfl, ⟨iR, iR, iR, iR, iR, iR, trivial⟩, ⟨iR, trivial⟩⟩⟩
   have a : (i : Int) < (s.size : Int) := of_decide_eq_true a
   have hc1 : 0 <= (i : Int) /\ (i : Int) < (s.size : Int) := ⟨Int.natCast_nonneg i, a⟩
   obtain ⟨x, r, hxr⟩ : ∃ x r, s.data.toList.drop i = x :: r := by
    cases h : s.data.toList.drop i with
    | nil =>
      have := List.drop_eq_nil_iff.1 h
      omega
    | cons x r => exact ⟨x, r, rfl⟩
   obtain ⟨hb, _, _⟩ := isD_at hxr
   refine ⟨⟨hc1, trivial⟩, ⟨?_, trivial⟩, ⟨hc1, trivial⟩, fun d => ⟨⟨?_, trivial⟩, rfl, fun i => i, by rfl, ⟨iR, iR, iR, iR, iR, iR, trivial⟩, ⟨iR, trivial⟩⟩, fun d => ⟨rfl, fun i => i, by rfl, ⟨iR, iR, iR, iR, iR, iR, trivial⟩, ⟨iR, trivial⟩⟩⟩
   ·show (decide (48 <= byteAt s (i : Int)) && decide (byteAt s (i : Int) <= 57)) = false
    rw [hb, isD_dec]
    cases h : isD x with
    | false => rfl
    | true => exact absurd ⟨x, r, hxr, .inl h⟩ hgo
   ·have d : (byteAt s (i : Int) == 46) = true := d
    rw [hb] at d
    have h46 : x = 46 := UInt8.toNat_inj.1 (by have : ((x.toNat : Nat) : Int) = 46 := (by simpa using d); show x.toNat = 46; omega)
    cases pt with
    | true => rfl
    | false => exact absurd ⟨x, r, hxr, .inr ⟨h46, rfl⟩⟩ hgo
  have hcut := scan_cut s.data.toList
  obtain ⟨v', hcut, hval⟩ := hcut
  rw [<- hR, hR2] at hcut
  injection hcut with k1 k2 k3 k4
  have hne : s.data.toList ≠ [] := fun e => by
   have a : ¬ s = (⟨#[]⟩ : ByteArray) := of_decide_eq_false a
   exact a (by rw [<- toB_data s, e]; rfl)
  have hex : (s.extract ((i : Int)).toNat ((s.size : Int)).toNat).data.toList = s.data.toList.drop i := by
   rw [Int.toNat_natCast, Int.toNat_natCast, restB]; rfl
  have hp : P = match scl (s.data.toList.drop i) with
    | none => (0, 11)
    | some x => if c = 0 then (0, 11) else if 28 < c then (0, 12) else overA (amtN v (9 + x.1 - (b : Int)) x.2) := by
   rw [hP]
   unfold aparse
   rw [if_neg hne, <- k4]
   cases hs : scl (s.data.toList.drop i) with
   | none => rfl
   | some x =>
     dsimp only
     by_cases c0 : c = 0
     · rw [if_pos c0, if_pos (List.length_eq_zero_iff.1 (by rw [<- k1]; exact c0))]
     · rw [if_neg c0, if_neg (fun e => c0 (by rw [k1, e]; rfl)), <- k1]
       by_cases c28 : 28 < c
       · rw [if_pos c28, if_pos c28]
       · rw [if_neg c28, if_neg c28, <- k2, <- hval (by rw [<- k1]; omega), k3]
  refine bX Rg3_ok (.any) _ rfl ?_
  conv => arg 5; cbv
  refine ⟨⟨⟨Int.natCast_nonneg i, by show (i : Int) <= (s.size : Int); omega⟩, ?_, trivial⟩, fun d => ⟨rfl, ?_⟩, fun d => ⟨fun f => ⟨rfl, ?_⟩, fun f => ⟨fun g => ⟨rfl, ?_⟩, fun g => ?_⟩⟩⟩
  ·show (s.extract ((i : Int)).toNat ((s.size : Int)).toNat).size < 2147483648
   rw [<- size_toB, hex, List.length_drop]
   omega
  ·have d : (!(scl (s.extract ((i : Int)).toNat ((s.size : Int)).toNat).data.toList).isSome) = true := d
   rw [hex] at d
   cases hq : scl (s.data.toList.drop i) with
   | some x => rw [hq] at d; cases d
   | none =>
     rw [hq] at hp
     have hp : P = (0, 11) := hp
     rw [hp]; exact ⟨⟨⟨rfl, rfl⟩, ⟨rfl, rfl⟩, rfl⟩, ⟨rfl, rfl⟩, rfl⟩
  all_goals
   have d : (!(scl (s.extract ((i : Int)).toNat ((s.size : Int)).toNat).data.toList).isSome) = false := d
   rw [hex] at d
   obtain ⟨⟨te, tw⟩, hq⟩ : ∃ x, scl (s.data.toList.drop i) = some x := by
    cases hq : scl (s.data.toList.drop i) with
    | some x => exact ⟨x, rfl⟩
    | none => rw [hq] at d; cases d
   rw [hq] at hp
   have hp : P = if c = 0 then (0, 11) else if 28 < c then (0, 12) else overA (amtN v (9 + te - (b : Int)) tw) := hp
  ·have f : ((c : Int) == 0) = true := f
   have f : (c : Int) = 0 := by simpa using f
   rw [hp, if_pos (by omega)]
   exact ⟨⟨⟨rfl, rfl⟩, ⟨rfl, rfl⟩, rfl⟩, ⟨rfl, rfl⟩, rfl⟩
  all_goals
   have f : ((c : Int) == 0) = false := f
   have f : ¬ (c : Int) = 0 := by simpa using f
   rw [if_neg (by omega)] at hp
  ·have g : (28 : Int) < (c : Int) := of_decide_eq_true g
   rw [hp, if_pos (by omega)]
   exact ⟨⟨⟨rfl, rfl⟩, ⟨rfl, rfl⟩, rfl⟩, ⟨rfl, rfl⟩, rfl⟩
  have g : ¬ (28 : Int) < (c : Int) := of_decide_eq_false g
  rw [if_neg (by omega)] at hp
  obtain ⟨s1, s2, s3, s4⟩ := scl_le hq
  dsimp only at s1 s2 s3 s4
  obtain ⟨T, hT⟩ : ∃ T, T = 9 + te - (b : Int) := ⟨_, rfl⟩
  rw [<- hT] at hp
  have hTl : -118 <= T /\ T <= 108 := by omega
  have hv28 : v < 10 ^ 28 := Nat.lt_of_lt_of_le hvl (Nat.pow_le_pow_right (by omega) (by omega))
  have e1 : (Option.map Prod.fst (scl (s.extract ((i : Int)).toNat ((s.size : Int)).toNat).data.toList)).getD 0 = te := by rw [hex, hq]; rfl
  have e2 : (Option.map Prod.snd (scl (s.extract ((i : Int)).toNat ((s.size : Int)).toNat).data.toList)).getD 0 = tw := by rw [hex, hq]; rfl
  have eT : IntKind.i64.wrap (IntKind.i64.wrap ((Option.map Prod.fst (scl (s.extract ((i : Int)).toNat ((s.size : Int)).toNat).data.toList)).getD 0 + 9) - (b : Int)) = T := by
   rw [e1, IntWalk.i64_in (te + 9) ⟨by omega, by omega⟩, IntWalk.i64_in _ ⟨by omega, by omega⟩]; omega
  have big : ∀ n k : Nat, n < 10 ^ k -> k <= 998 -> (numL n).length <= 1000 := fun n k h h2 => Nat.le_trans (numL_le h) (by omega)
  have p2 : (2 : Nat) ^ 60 < 10 ^ 20 := by decide
  refine run_inv (ι := Nat × Nat × Nat) (fun x => tw - x.1) (fun x => x.1 <= tw /\ x.2.1 = tw /\ x.2.2 = v * 2 ^ x.1) (pdC T) (fun _ => pdS) 1 (0, tw, v) (fun i => i) (by rfl) (by rfl) ⟨Nat.zero_le _, rfl, by rw [Nat.pow_zero, Nat.mul_one]⟩ ?_ ⟨iR, ⟨rfl, congrArg (fun x : Nat => (x : Int)) e2⟩, ⟨rfl, eT⟩, by rw [hlv]; exact iR, iR, trivial⟩ ⟨iR, trivial⟩
  rintro ⟨j, tw', n⟩ ⟨hj, h2, hn⟩ ih
  dsimp only at hj h2 hn
  subst h2
  refine bX Rg3_ok (.any) _ rfl ?_
  conv => arg 5; cbv
  have hw : IntKind.i64.wrap ((j : Int) + 1) = ((j + 1 : Nat) : Int) := by rw [IntWalk.i64_in _ ⟨by omega, by omega⟩]; omega
  have hpw : ∀ k, k <= tw' -> v * 2 ^ k < 10 ^ 48 := fun k hk => pow_mul_lt (y := 20) hv28 (Nat.le_trans (Nat.pow_le_pow_right (by omega) (show k <= 60 by omega)) (Nat.le_of_lt p2))
  refine ⟨fun a => ?_, fun a => ?_⟩
  ·have a : (j : Int) < (tw' : Int) := of_decide_eq_true a
   have hx : n * 2 + 0 = v * 2 ^ (j + 1) := by rw [hn, Nat.pow_succ, Nat.mul_assoc]; rfl
   have hlt := hpw (j + 1) (by omega)
   rw [<- hx] at hlt
   exact ⟨⟨num_rdN n, by decide, by decide, (congrArg (fun q => q.length <= 1000) (num_times n 2 0)).mpr (big _ 48 hlt (by decide)), fun j => rfl, trivial⟩, ih (j + 1, tw', v * 2 ^ (j + 1)) (fun i => i) ⟨by show j + 1 <= tw'; omega, rfl, rfl⟩ (by show tw' - (j + 1) < tw' - j; omega) (by rfl) ⟨⟨rfl, hw⟩, iR, iR, num_imp ((num_times n 2 0).trans (by rw [hx])), iR, trivial⟩ ⟨iR, trivial⟩⟩
  have a : ¬ (j : Int) < (tw' : Int) := of_decide_eq_false a
  have hjt : j = tw' := by omega
  subst hjt
  obtain ⟨X, hX⟩ : ∃ X, X = v * 2 ^ j := ⟨_, rfl⟩
  have hX48 : X < 10 ^ 48 := by rw [hX]; exact hpw j (Nat.le_refl _)
  rw [<- hX] at hn
  refine run_inv (ι := Nat × Nat) (fun x => T.toNat - x.1) (fun x => x.1 <= T.toNat /\ x.2 = X * 10 ^ x.1) (pdD T) (fun _ => pdS) 1 (0, X) (fun i => i) (by rfl) (by rfl) ⟨Nat.zero_le _, by rw [Nat.pow_zero, Nat.mul_one]⟩ ?_ ⟨iR, iR, by rw [hn]; exact iR, iR, trivial⟩ ⟨iR, trivial⟩
  clear ih
  rintro ⟨i, n⟩ ⟨hi, hn⟩ ih
  dsimp only at hi hn
  refine bX Rg3_ok (.any) _ rfl ?_
  conv => arg 5; cbv
  have hpt : ∀ k, k <= T.toNat -> X * 10 ^ k < 10 ^ 156 := fun k hk => Nat.lt_of_lt_of_le (pow_mul_lt (y := k) hX48 (Nat.le_refl _)) (Nat.pow_le_pow_right (by omega) (by omega))
  refine ⟨fun a => ?_, fun a => ?_⟩
  ·have a : (i : Int) < T := of_decide_eq_true a
   have hw : IntKind.i64.wrap ((i : Int) + 1) = ((i + 1 : Nat) : Int) := by rw [IntWalk.i64_in _ ⟨by omega, by omega⟩]; omega
   have hx : n * 10 + 0 = X * 10 ^ (i + 1) := by rw [hn, Nat.pow_succ, Nat.mul_assoc]; rfl
   have hlt := hpt (i + 1) (by omega)
   rw [<- hx] at hlt
   exact ⟨⟨num_rdN n, by decide, by decide, (congrArg (fun q => q.length <= 1000) (num_times n 10 0)).mpr (big _ 156 hlt (by decide)), fun j => rfl, trivial⟩, ih (i + 1, X * 10 ^ (i + 1)) (fun i => i) ⟨by show i + 1 <= T.toNat; omega, rfl⟩ (by show T.toNat - (i + 1) < T.toNat - i; omega) (by rfl) ⟨⟨rfl, hw⟩, iR, num_imp ((num_times n 10 0).trans (by rw [hx])), iR, trivial⟩ ⟨iR, trivial⟩⟩
  have a : ¬ (i : Int) < T := of_decide_eq_false a
  have hit : i = T.toNat := by omega
  subst hit
  obtain ⟨N, hN⟩ : ∃ N, N = X * 10 ^ T.toNat := ⟨_, rfl⟩
  have hN156 : N < 10 ^ 156 := by rw [hN]; exact hpt _ (Nat.le_refl _)
  rw [<- hN] at hn
  refine run_inv (ι := Nat) (fun j => (-T).toNat - j) (fun j => j <= (-T).toNat) (pdE T N) (fun _ => pdS) 1 0 (fun i => i) (by rfl) (by rfl) (Nat.zero_le _) ?_ ⟨iR, (decide_eq_false (by rw [Nat.pow_zero, Nat.mod_one]; exact fun h => h rfl)), iR, by rw [hn, Nat.pow_zero, Nat.div_one]; exact iR, iR, trivial⟩ ⟨iR, trivial⟩
  clear ih
  intro j hj ih
  by_cases hT2 : T < -(j : Int)
  ·
   refine bX Rg3_ok ((.yes .any)) _ rfl ?_
   conv => arg 5; cbv
   have hw : IntKind.i64.wrap (-(j : Int) - 1) = -((j + 1 : Nat) : Int) := by rw [IntWalk.i64_in _ ⟨by omega, by omega⟩]; omega
   have ne : (decide (0 < ((numL (N / 10 ^ j)).length : Int))) = true -> 0 < (numL (N / 10 ^ j)).length := fun h => by
    have h : (0 : Int) < ((numL (N / 10 ^ j)).length : Int) := of_decide_eq_true h
    omega
   have n10 : N / 10 ^ (j + 1) = N / 10 ^ j / 10 := div_ten N j
   refine ⟨⟨decide_eq_true hT2, trivial⟩, fun a => ⟨fun b => ⟨⟨⟨by decide, ?_⟩, trivial⟩, ih (j + 1) (fun i => i) (by omega) (by omega) (by rfl) ⟨⟨rfl, hw⟩, ?_, iR, ?_, iR, trivial⟩ ⟨iR, trivial⟩⟩, fun b => ⟨⟨⟨by decide, ?_⟩, ⟨by decide, ?_⟩, trivial⟩, ih (j + 1) (fun i => i) (by omega) (by omega) (by rfl) ⟨⟨rfl, hw⟩, ?_, iR, ?_, iR, trivial⟩ ⟨iR, trivial⟩⟩⟩, fun a => ih (j + 1) (fun i => i) (by omega) (by omega) (by rfl) ⟨⟨rfl, hw⟩, ?_, iR, ?_, iR, trivial⟩ ⟨iR, trivial⟩⟩
   ·show (1 : Int) <= ((numL (N / 10 ^ j)).length : Int)
    have := ne a; omega
   ·have b : N % 10 ^ j ≠ 0 := of_decide_eq_true b
    exact decide_eq_true ((up_step N j).2 (.inl b))
   ·rw [n10]; exact num_tl (ne a)
   ·show (0 : Int) < ((numL (N / 10 ^ j)).length : Int)
    have := ne a; omega
   ·show (1 : Int) <= ((numL (N / 10 ^ j)).length : Int)
    have := ne a; omega
   ·have b : ¬ N % 10 ^ j ≠ 0 := of_decide_eq_false b
    have b : N % 10 ^ j = 0 := Classical.not_not.1 b
    have e : (numL (N / 10 ^ j)).getD 0 0 = ((N / 10 ^ j % 10 : Nat) : Int) := by
     rw [numL_digit (ne a), Nat.pow_zero, Nat.div_one]
    show decide (0 < (numL (N / 10 ^ j)).getD 0 0) = decide (N % 10 ^ (j + 1) ≠ 0)
    rw [e]
    refine decide_eq_decide.2 ?_
    rw [up_step]
    constructor
    ·intro h; exact .inr (by omega)
    ·rintro (h | h)
     ·exact absurd b h
     ·omega
   ·rw [n10]; exact num_tl (ne a)
   ·have a : ¬ (0 : Int) < ((numL (N / 10 ^ j)).length : Int) := of_decide_eq_false a
    have e0 : N / 10 ^ j = 0 := numL_nil.1 (List.length_eq_zero_iff.1 (by omega))
    show decide (N % 10 ^ j ≠ 0) = decide (N % 10 ^ (j + 1) ≠ 0)
    exact decide_eq_decide.2 (up_nil e0).2.symm
   ·have a : ¬ (0 : Int) < ((numL (N / 10 ^ j)).length : Int) := of_decide_eq_false a
    have e0 : N / 10 ^ j = 0 := numL_nil.1 (List.length_eq_zero_iff.1 (by omega))
    rw [n10, e0]; exact iR
  ·
   refine bX Rg3_ok ((.no (.both (.to 36) (.to 36)))) _ rfl ?_
   conv => arg 5; cbv
   refine tree_meet [(4, Sh.mkL 1 (.int .i64) fun _ => numL (ceilD N (10 ^ j))), (2, .ptr 0 0)] pdS 1 (by rfl) ?_ ?_
   ·have hjT : j = (-T).toNat := by omega
    refine ⟨⟨decide_eq_false hT2, trivial⟩, fun a => ⟨⟨num_rdN _, by decide, by decide, (congrArg (fun q => q.length <= 1000) (num_times _ 1 1)).mpr ?_, fun j => rfl, trivial⟩, rfl, fun i => i, by rfl, ⟨num_imp ((num_times _ 1 1).trans ?_), iR, trivial⟩, ⟨iR, trivial⟩⟩, fun a => ⟨rfl, fun i => i, by rfl, ⟨num_imp ?_, iR, trivial⟩, ⟨iR, trivial⟩⟩⟩
    ·have h1 : N / 10 ^ j <= N := Nat.div_le_self _ _
     refine big _ 157 ?_ (by decide)
     rw [Nat.mul_one]
     exact Nat.lt_of_lt_of_le (Nat.lt_of_le_of_lt (Nat.add_le_add_right h1 1) (Nat.add_lt_add_right hN156 1)) (by decide)
    ·have a : N % 10 ^ j ≠ 0 := of_decide_eq_true a
     unfold ceilD
     rw [if_neg a, Nat.mul_one]
    ·have a : ¬ N % 10 ^ j ≠ 0 := of_decide_eq_false a
     unfold ceilD
     rw [if_pos (Classical.not_not.1 a), Nat.add_zero]
   have hW : ceilD N (10 ^ j) < 10 ^ 156 := Nat.lt_of_le_of_lt (ceilD_le _ _ (Nat.pow_pos (by omega))) hN156
   have hPW : P = overA (ceilD N (10 ^ j)) := by
    have hjT : j = (-T).toNat := by omega
    rw [hp]
    congr 1
    unfold amtN
    by_cases h0 : 0 <= T
    ·rw [if_pos h0, hjT, show (-T).toNat = 0 by omega, Nat.pow_zero, hN, hX, Nat.mul_right_comm]
     unfold ceilD
     rw [Nat.div_one, Nat.mod_one, if_pos rfl]; rfl
    ·rw [if_neg h0, hjT, hN, hX, show T.toNat = 0 by omega, Nat.pow_zero, Nat.mul_one]
   obtain ⟨W, hWe⟩ : ∃ W, W = ceilD N (10 ^ j) := ⟨_, rfl⟩
   rw [<- hWe] at hW hPW ⊢
   have hdv : dv (rdL (Sh.int IntKind.i64).rd (fun _ => ((numL W).length : Int)) (fun j => (Sh.int IntKind.i64).mk fun _ => (numL W).getD (j PUnit.unit).toNat (Sh.int IntKind.i64).dflt)) = W := (congrArg dv (num_rd W)).trans (dv_num W)
   refine bX Rg3_ok (.any) _ rfl ?_
   conv => arg 5; cbv
   have hV : valD (toB (Lib.decDigits (dv (rdL (Sh.int IntKind.i64).rd (fun _ => ((numL W).length : Int)) (fun j => (Sh.int IntKind.i64).mk fun _ => (numL W).getD (j PUnit.unit).toNat (Sh.int IntKind.i64).dflt))))).data.toList = W := (congrArg (fun q => valD (toB (Lib.decDigits q)).data.toList) hdv).trans (decDigits_dig W).2.1
   have hD : toB (Lib.decDigits W) = toB (Lib.decDigits (valD (toB (Lib.decDigits W)).data.toList)) := by
    show toB (Lib.decDigits W) = toB (Lib.decDigits (valD (Lib.decDigits W)))
    rw [(decDigits_dig W).2.1]
   have hz : (toB (Lib.decDigits W)).size <= 1000 := by
    have : (toB (Lib.decDigits W)).size = (Lib.decDigits W).length := (size_toB (toB (Lib.decDigits W))).symm
    have := dec_len (n := W) (k := 156) hW (by decide)
    omega
   have wW : ∀ h : W < 65536 ^ 8, (wHi W).toNat * 2 ^ 64 + (wLo W).toNat = W := fun h => by
    have : W < 2 ^ 128 := Nat.lt_of_lt_of_le h (by decide)
    unfold wHi wLo; omega
   have rW : ∀ h : W < 65536 ^ 8, (0 <= wHi W /\ wHi W < 2 ^ 64) /\ 0 <= wLo W /\ wLo W < 2 ^ 64 := fun h => by
    have : W < 2 ^ 128 := Nat.lt_of_lt_of_le h (by decide)
    unfold wHi wLo; omega
   have m8 : mostA < 65536 ^ 8 := by decide
   refine ⟨⟨num_rdN W, (congrArg (fun q => List.length q <= 1000) (num_rd W)).mpr (big _ 156 hW (by decide)), fun j => rfl, (congrArg (fun q => toB (Lib.decDigits q) = toB (Lib.decDigits (valD (toB (Lib.decDigits q)).data.toList))) hdv).mpr hD, (congrArg (fun q => (toB (Lib.decDigits q)).size <= 1000) hdv).mpr hz, trivial⟩, fun d => ⟨rfl, ?_⟩, fun d => ⟨⟨?_, trivial⟩, fun f => ⟨rfl, ?_⟩, fun f => ⟨rfl, ?_⟩⟩⟩
   ·have d := (congrArg (fun q => (!decide (q < 65536 ^ 8)) = true) hV).mp d
    have d : ¬ W < 65536 ^ 8 := fun h => by rw [decide_eq_true h] at d; cases d
    have e : P = (0, 15) := by
     rw [hPW]; unfold overA; rw [if_pos (by omega)]
    rw [e]
    exact ⟨⟨⟨rfl, rfl⟩, ⟨rfl, rfl⟩, rfl⟩, ⟨rfl, rfl⟩, rfl⟩
   all_goals
    have d := (congrArg (fun q => (!decide (q < 65536 ^ 8)) = false) hV).mp d
    have d : W < 65536 ^ 8 := Classical.byContradiction fun h => by rw [decide_eq_false h] at d; cases d
   ·refine (congrArg (fun q => (0 <= (if q < 65536 ^ 8 then wHi q else 0) /\ (if q < 65536 ^ 8 then wHi q else 0) < 2 ^ 64) /\ 0 <= (if q < 65536 ^ 8 then wLo q else 0) /\ (if q < 65536 ^ 8 then wLo q else 0) < 2 ^ 64) hV).mpr ?_
    rw [if_pos d, if_pos d]
    exact rW d
   ·have f := (congrArg (fun q => (!decide ((if q < 65536 ^ 8 then wHi q else 0).toNat * 2 ^ 64 + (if q < 65536 ^ 8 then wLo q else 0).toNat <= 1152921504606846976000000000)) = true) hV).mp f
    rw [if_pos d, if_pos d, wW d] at f
    have f : ¬ W <= mostA := fun h => by rw [decide_eq_true h] at f; cases f
    have e : P = (0, 15) := by
     rw [hPW]; unfold overA; rw [if_pos (by omega)]
    rw [e]
    exact ⟨⟨⟨rfl, rfl⟩, ⟨rfl, rfl⟩, rfl⟩, ⟨rfl, rfl⟩, rfl⟩
   ·have f := (congrArg (fun q => (!decide ((if q < 65536 ^ 8 then wHi q else 0).toNat * 2 ^ 64 + (if q < 65536 ^ 8 then wLo q else 0).toNat <= 1152921504606846976000000000)) = false) hV).mp f
    rw [if_pos d, if_pos d, wW d] at f
    have f : W <= mostA := Classical.byContradiction fun h => by rw [decide_eq_false h] at f; cases f
    have e : P = (W, 0) := by
     rw [hPW]; unfold overA; rw [if_neg (by omega)]
    rw [e]
    exact ⟨⟨⟨rfl, (congrArg (fun q => if q < 65536 ^ 8 then wHi q else 0) hV).trans (if_pos d)⟩, ⟨rfl, (congrArg (fun q => if q < 65536 ^ 8 then wLo q else 0) hV).trans (if_pos d)⟩, rfl⟩, ⟨rfl, rfl⟩, rfl⟩
noncomputable def Rg4 : Table := addS 123 (.cons .str .nil) (fun s => (.tuple (.cons (.agg (.cons (.int .u64 fun _ => wHi (aparse (s ()).data.toList).1) (.cons (.int .u64 fun _ => wLo (aparse (s ()).data.toList).1) .nil))) (.cons (.int .i64 fun _ => (aparse (s ()).data.toList).2) .nil)), [fun _ => (s ()).size < 2147483648])) Rg3
theorem Rg4_ok : TableOK Tryz.prog G0 Rg4 := addS_ok qf123.callable (fun s h => rfaparse_ok (s ()) h.1) Rg3_ok
theorem dpartsg_ok (V e : Nat) (he : 0 < e) (he2 : e < 18446744073709551616) (hm : V <= mostA) : PF 74 (.cons (.agg (.cons (.int .u64 fun _ => wHi V) (.cons (.int .u64 fun _ => wLo V) .nil))) (.cons (.int .u64 fun _ => (e : Int)) .nil)) (.tuple (.cons (.int .i64 fun _ => if ceilD V e <= 1152921504606846976 then ((ceilD V e : Nat) : Int) else 0) (.cons (.bool fun _ => decide (ceilD V e <= 1152921504606846976)) .nil))) := by
 obtain ⟨C, hC⟩ : ∃ C, C = ceilD V e := ⟨_, rfl⟩
 rw [<- hC]
 refine tX qf74 Rt4_ok ((.both (.no .any) (.no .any))) rfl ?_
 conv => arg 5; cbv
 have bV : V < 18446744073709551616 * 18446744073709551616 := Nat.lt_of_le_of_lt hm (by decide)
 have wV : (wHi V).toNat * 2 ^ 64 + (wLo V).toNat = V := by unfold wHi wLo; omega
 have rV : (0 <= wHi V /\ wHi V < 2 ^ 64) /\ 0 <= wLo V /\ wLo V < 2 ^ 64 := by unfold wHi wLo; omega
 have bV8 : V < 65536 ^ 8 := Nat.lt_of_lt_of_le bV (by decide +kernel)
 have b8 : (65536 : Nat) ^ 8 <= D20 := by decide +kernel
 have eV : nv (rowOf (dg ((wHi V).toNat * 2 ^ 64 + (wLo V).toNat))) = V := by rw [wV]; exact nv_of (Nat.lt_of_lt_of_le bV8 b8)
 have wE : Int.toNat 0 * 2 ^ 64 + ((e : Nat) : Int).toNat = e := by rw [Int.toNat_natCast, show Int.toNat 0 = 0 from rfl, Nat.zero_mul, Nat.zero_add]
 have be8 : e < 65536 ^ 8 := Nat.lt_of_lt_of_le he2 (by decide +kernel)
 have eE : nv (rowOf (dg (Int.toNat 0 * 2 ^ 64 + ((e : Nat) : Int).toNat))) = e := by rw [wE]; exact nv_of (Nat.lt_of_lt_of_le be8 b8)
 have bQ : V / e <= mostA := Nat.le_trans (Nat.div_le_self _ _) hm
 have mA8 : mostA + 1 < 65536 ^ 8 := by decide +kernel
 have bR : V % e < 65536 ^ 8 := Nat.lt_of_le_of_lt (Nat.mod_le _ _) bV8
 have eN : nv (rowOf (dg (nv (rowOf (dg ((wHi V).toNat * 2 ^ 64 + (wLo V).toNat))) / nv (rowOf (dg (Int.toNat 0 * 2 ^ 64 + ((e : Nat) : Int).toNat)))))) = V / e := by
  rw [eV, eE]; exact nv_of (Nat.lt_of_lt_of_le (show V / e < 65536 ^ 8 by omega) b8)
 have eM : nv (rowOf (dg (nv (rowOf (dg ((wHi V).toNat * 2 ^ 64 + (wLo V).toNat))) % nv (rowOf (dg (Int.toNat 0 * 2 ^ 64 + ((e : Nat) : Int).toNat)))))) = V % e := by
  rw [eV, eE]; exact nv_of (Nat.lt_of_lt_of_le bR b8)
 have e1 : nv ((List.replicate 20 (0 : Int)).set 0 1) = 1 := by decide +kernel
 have eS : nv (rowOf (dg (nv (rowOf (dg (nv (rowOf (dg ((wHi V).toNat * 2 ^ 64 + (wLo V).toNat))) / nv (rowOf (dg (Int.toNat 0 * 2 ^ 64 + ((e : Nat) : Int).toNat)))))) + nv ((List.replicate 20 (0 : Int)).set 0 1)))) = V / e + 1 := by
  rw [eN, e1]; exact nv_of (Nat.lt_of_lt_of_le (show V / e + 1 < 65536 ^ 8 by omega) b8)
 have eP : nv (rowOf (dg (2 ^ Int.toNat 60))) = 1152921504606846976 := by decide +kernel
 have fit : (!decide ((wHi V).toNat * 2 ^ 64 + (wLo V).toNat <= 1152921504606846976000000000)) = false := by
  rw [wV, decide_eq_true (by omega)]; rfl
 have zero : ∀ x : Nat, x < 65536 ^ 8 -> (rowOf (dg x) = List.replicate 20 0 ↔ x = 0) := fun x hx => by
  constructor
  ·intro h
   have := nv_of (Nat.lt_of_lt_of_le hx b8)
   rw [h] at this
   rw [<- this]; decide +kernel
  ·rintro rfl; decide +kernel
 have no : ¬ C <= 1152921504606846976 -> impP (.tuple (.cons (.int .i64 fun _ => 0) (.cons .ff .nil))) (.tuple (.cons (.int .i64 fun _ => if C <= 1152921504606846976 then (C : Int) else 0) (.cons (.bool fun _ => decide (C <= 1152921504606846976)) .nil))) := fun h => ⟨⟨rfl, (if_neg h).symm⟩, decide_eq_false h, rfl⟩
 have yes : ∀ x : Nat, x = C -> C <= 1152921504606846976 -> impP (.tuple (.cons (.int .i64 fun _ => IntKind.i64.wrap (wLo x)) (.cons .tt .nil))) (.tuple (.cons (.int .i64 fun _ => if C <= 1152921504606846976 then (C : Int) else 0) (.cons (.bool fun _ => decide (C <= 1152921504606846976)) .nil))) := fun x hx h => by
  subst hx
  refine ⟨⟨rfl, ?_⟩, decide_eq_true h, rfl⟩
  show IntKind.i64.wrap (wLo x) = if x <= 1152921504606846976 then (x : Int) else 0
  rw [if_pos h, wLo_small (by omega), IntWalk.i64_in _ ⟨by omega, by omega⟩]
 refine ⟨⟨rV, ⟨by decide, Int.natCast_nonneg e, by show (e : Int) < 2 ^ 64; omega⟩, isRow_of _, isRow_of _, by show nv (rowOf (dg ((wHi V).toNat * 2 ^ 64 + (wLo V).toNat))) < 65536 ^ 8; rw [eV]; exact bV8, ?_, trivial⟩, fun d => ⟨⟨isRow_of _, ?_, rV, trivial⟩, ⟨fit, trivial⟩, ⟨by decide, isRow_of _, isRow_of _, (by show drawOK _ _ = true; decide +kernel), trivial⟩, fun f => ⟨rfl, no ?_⟩, fun f => ⟨⟨isRow_of _, ?_, trivial⟩, rfl, ?_⟩⟩,
  fun d => ⟨⟨rV, trivial⟩, ⟨fit, trivial⟩, ⟨by decide, isRow_of _, isRow_of _, (by show drawOK _ _ = true; decide +kernel), trivial⟩, fun f => ⟨rfl, no ?_⟩, fun f => ⟨⟨isRow_of _, ?_, trivial⟩, rfl, ?_⟩⟩⟩
 ·show 0 < nv (rowOf (dg (Int.toNat 0 * 2 ^ 64 + ((e : Nat) : Int).toNat))) /\ nv (rowOf (dg (Int.toNat 0 * 2 ^ 64 + ((e : Nat) : Int).toNat))) < 65536 ^ 8
  rw [eE]; exact ⟨he, be8⟩
 ·show isRow ((List.replicate 20 (0 : Int)).set 0 1)
  rw [show (List.replicate 20 (0 : Int)).set 0 1 = rowOf (dg 1) from row_set 1 (by decide)]; exact isRow_of _
 all_goals
  have d := (congrArg (fun q => (!decide (rowOf (dg q) = List.replicate 20 0)) = _) (show nv (rowOf (dg ((wHi V).toNat * 2 ^ 64 + (wLo V).toNat))) % nv (rowOf (dg (Int.toNat 0 * 2 ^ 64 + ((e : Nat) : Int).toNat))) = V % e by rw [eV, eE])).mp d
 case refine_3 =>
  have d : V % e ≠ 0 := fun h => by rw [decide_eq_true ((zero _ bR).2 h)] at d; cases d
  have hC : C = V / e + 1 := by rw [hC]; unfold ceilD; rw [if_neg d]
  have f : _ < _ := of_decide_eq_true f
  have f := (congrArg (fun q => q < nv _) eP).mp f
  have f := (congrArg (fun q => 1152921504606846976 < q) eS).mp f
  omega
 case refine_4 =>
  exact (congrArg (fun q => q < 65536 ^ 8) eS).mpr (by show V / e + 1 < 65536 ^ 8; omega)
 case refine_5 =>
  have d : V % e ≠ 0 := fun h => by rw [decide_eq_true ((zero _ bR).2 h)] at d; cases d
  have hC : C = V / e + 1 := by rw [hC]; unfold ceilD; rw [if_neg d]
  have f : ¬ _ < _ := of_decide_eq_false f
  have f := (congrArg (fun q => ¬ q < nv _) eP).mp f
  have f := (congrArg (fun q => ¬ 1152921504606846976 < q) eS).mp f
  exact yes _ (eS.trans hC.symm) (by omega)
 case refine_6 =>
  have d : V % e = 0 := (zero _ bR).1 (Classical.byContradiction fun h => by rw [decide_eq_false h] at d; cases d)
  have hC : C = V / e := by rw [hC]; unfold ceilD; rw [if_pos d]; rfl
  have f : _ < _ := of_decide_eq_true f
  have f := (congrArg (fun q => q < nv _) eP).mp f
  have f := (congrArg (fun q => 1152921504606846976 < q) eN).mp f
  omega
 case refine_7 =>
  exact (congrArg (fun q => q < 65536 ^ 8) eN).mpr (by show V / e < 65536 ^ 8; omega)
 case refine_8 =>
  have d : V % e = 0 := (zero _ bR).1 (Classical.byContradiction fun h => by rw [decide_eq_false h] at d; cases d)
  have hC : C = V / e := by rw [hC]; unfold ceilD; rw [if_pos d]; rfl
  have f : ¬ _ < _ := of_decide_eq_false f
  have f := (congrArg (fun q => ¬ q < nv _) eP).mp f
  have f := (congrArg (fun q => ¬ 1152921504606846976 < q) eN).mp f
  exact yes _ (eN.trans hC.symm) (by omega)
noncomputable def Rg5 : Table := addS 74 (.cons shWd (.cons (.int .u64) .nil)) (fun h l e => (.tuple (.cons (.int .i64 fun _ => if ceilD ((h ()).toNat * 2 ^ 64 + (l ()).toNat) (e ()).toNat <= 1152921504606846976 then ((ceilD ((h ()).toNat * 2 ^ 64 + (l ()).toNat) (e ()).toNat : Nat) : Int) else 0) (.cons (.bool fun _ => decide (ceilD ((h ()).toNat * 2 ^ 64 + (l ()).toNat) (e ()).toNat <= 1152921504606846976)) .nil)), [fun _ => (0 <= h () /\ h () < 2 ^ 64) /\ 0 <= l () /\ l () < 2 ^ 64, fun _ => 0 < e () /\ e () < 18446744073709551616, fun _ => (h ()).toNat * 2 ^ 64 + (l ()).toNat <= mostA])) Rg4
theorem Rg5_ok : TableOK Tryz.prog G0 Rg5 := addS_ok qf74.callable (fun h l e c => by
 obtain ⟨⟨h1, h2⟩, h3, h4, _⟩ := c
 have h3 : 0 < e () /\ e () < 18446744073709551616 := h3
 have h4 : (h ()).toNat * 2 ^ 64 + (l ()).toNat <= mostA := h4
 obtain ⟨V, hV⟩ : ∃ V, V = (h ()).toNat * 2 ^ 64 + (l ()).toNat := ⟨_, rfl⟩
 rw [<- hV] at h4
 have := dpartsg_ok V (e ()).toNat (by omega) (by omega) h4
 rw [Int.toNat_of_nonneg (by omega), show wHi V = h () by unfold wHi; omega, show wLo V = l () by unfold wLo; omega, hV] at this
 exact this) Rg4_ok
end Go.Proofs.YtpbjcabecalpaaaGreatDoor
namespace Go.Abs
open Lib
theorem index_first {c : UInt8} : ∀ (l t : List UInt8), ¬ c ∈ l -> index (l ++ c :: t) [c] = (l.length : Int)
 | [], t, _ => by rw [List.nil_append, index_cons, if_pos rfl]; rfl
 | b :: l, t, h => by
   rw [List.cons_append, index_cons, if_neg (fun e => h (by rw [e]; exact List.mem_cons_self)), index_first l t (fun hm => h (List.mem_cons_of_mem _ hm)), if_neg (by omega), List.length_cons]
   omega
theorem cut_first {c : UInt8} {l : List UInt8} (t : List UInt8) (h : ¬ c ∈ l) : Lib.cut (l ++ c :: t) [c] = (l, t, true) := by
 unfold Lib.cut
 rw [index_first l t h]
 simp
end Go.Abs
namespace Go.Proofs.YtpbjcabecalpaaaGreatDoor
open Go Go.Abs Go.Proofs
def sqA (s : ByteArray) (c : Int) (x : Int × Int × List ByteArray) : Env := [(7, .int .i64 fun _ => x.1), (6, .int .i64 fun _ => x.2.1), (5, .slice (some 0) 1 (fun _ => (x.2.2.length : Int)) fun j => .str fun _ => x.2.2.getD (j ()).toNat ByteArray.empty), (0, .str fun _ => s), (1, .int .u8 fun _ => c)]
def sqS : Store := [(0, .own 1 9)]
theorem ext_toB (s : ByteArray) (a b : Nat) : s.extract a b = toB ((s.data.toList.take b).drop a) := by
 rw [<- toB_data (s.extract a b)]
 congr 1
 rw [Lib.extract_data, List.drop_take]
theorem drop_byte {s : ByteArray} {i : Int} (h0 : 0 <= i) (h : i < s.size) : ∃ x : UInt8, s.data.toList[i.toNat]? = some x /\ byteAt s i = (x.toNat : Int) /\ s.data.toList.drop i.toNat = x :: s.data.toList.drop (i + 1).toNat /\ s.data.toList.take (i + 1).toNat = s.data.toList.take i.toNat ++ [x] := by
 have hl : i.toNat < s.data.toList.length := by
  rw [show s.data.toList.length = s.size from bsize s]; omega
 refine ⟨s.data.toList[i.toNat], List.getElem?_eq_getElem hl, ?_, ?_, ?_⟩
 ·unfold byteAt
  rw [List.getD_eq_getElem?_getD, List.getElem?_eq_getElem hl]; rfl
 ·rw [show (i + 1).toNat = i.toNat + 1 by omega, List.getElem_cons_drop]
 ·rw [show (i + 1).toNat = i.toNat + 1 by omega, List.take_add_one, List.getElem?_eq_getElem hl]; rfl
def ren10 : Nat -> Nat := fun i => bif beqN i 0 then 1 else i
structure SqI (s : ByteArray) (c : UInt8) (x : Int × Int × List ByteArray) : Prop where
 h0 : 0 <= x.2.1
 h1 : x.2.1 <= x.1
 h2 : x.1 <= s.size
 few : (x.2.2.length : Int) <= x.1
 all : x.2.2 ++ (glue ((s.data.toList.take x.1.toNat).drop x.2.1.toNat) (spL c (s.data.toList.drop x.1.toNat))).map toB = spB c s
theorem refSplit_ok (s : ByteArray) (c : Int) (hc : 0 <= c /\ c < 256) (hs : s.size < 4294967281) : PF 39 (.cons (.str fun _ => s) (.cons (.int .u8 fun _ => c) .nil)) (Sh.mkL 1 .str fun _ => spB (UInt8.ofNat c.toNat) s) := by
 refine qf39.tree (mkO_ok F0_ok) false 40 rfl ?_
 conv => arg 5; cbv
 refine run_own (A := _) 5 1 9 (.str fun _ => ByteArray.empty) (by rfl) (by rfl) (by rfl) ?_
 generalize hch : UInt8.ofNat c.toNat = ch
 refine run_inv (ι := Int × Int × List ByteArray) (fun x => (s.size - x.1).toNat) (SqI s ch) (sqA s c) (fun _ => sqS) 1 (0, 0, []) (fun i => i) (by rfl) (by rfl) ⟨Int.le_refl _, Int.le_refl _, by show (0 : Int) <= s.size; omega, Int.le_refl _, by
  show [] ++ (glue [] (spL ch s.data.toList)).map toB = spB ch s
  rw [glue_nil, List.nil_append]; rfl⟩ ?_ ?_ ?_
 ·intro x hx ih
  refine explore_ok (ok _) (mkO_ok F0_ok) (u := false) 20 _ rfl ?_
  conv => arg 5; cbv
  have hx0 := hx.h0
  have hx1 := hx.h1
  have hx2 := hx.h2
  have hfew := hx.few
  have hall := hx.all
  refine ⟨fun h => ?_, fun h => ?_⟩
  ·have h : x.1 < s.size := by simpa using h
   have hw : IntKind.i64.wrap (x.1 + 1) = x.1 + 1 := IntWalk.i64_in _ ⟨by omega, by omega⟩
   obtain ⟨b, b1, b2, b3, b4⟩ := drop_byte (s := s) (i := x.1) (by omega) h
   rw [b3] at hall
   refine ⟨⟨⟨Int.le_trans hx0 hx1, h⟩, trivial⟩, fun h2 => ⟨⟨⟨hx0, hx1, hx2⟩, ⟨by show (0 : Int) < 1; omega, ?_⟩, trivial⟩, ?_⟩, fun h2 => ?_⟩
   ·show ((x.2.2.length : Int) + 1) * 16 <= 140737488355328
    omega
   ·have h2 : (byteAt s x.1 == c) = true := h2
    have hbc : b = ch := by
     have : byteAt s x.1 = c := by simpa using h2
     rw [<- hch, <- this, b2, Int.toNat_natCast, UInt8.ofNat_toNat]
    rw [hbc, glue_hit] at hall
    refine ih (x.1 + 1, x.1 + 1, x.2.2 ++ [s.extract x.2.1.toNat x.1.toNat]) ren10 ⟨?_, Int.le_refl _, ?_, ?_, ?_⟩ ?_ (by rfl) ⟨⟨rfl, hw⟩, ⟨rfl, hw⟩, push_imp .str (some 1) 1 x.2.2 _, iR, iR, trivial⟩ ⟨⟨rfl, rfl⟩, trivial⟩
    ·show (0 : Int) <= x.1 + 1; omega
    ·show x.1 + 1 <= s.size; omega
    ·show ((x.2.2 ++ [s.extract x.2.1.toNat x.1.toNat]).length : Int) <= x.1 + 1
     rw [List.length_append, List.length_singleton]; omega
    ·show (x.2.2 ++ [s.extract x.2.1.toNat x.1.toNat]) ++ (glue ((s.data.toList.take (x.1 + 1).toNat).drop (x.1 + 1).toNat) (spL ch (s.data.toList.drop (x.1 + 1).toNat))).map toB = spB ch s
     rw [List.drop_eq_nil_of_le (by rw [List.length_take]; omega), glue_nil, ext_toB, <- hall, List.append_assoc]
     rfl
    ·show ((s.size : Int) - (x.1 + 1)).toNat < ((s.size : Int) - x.1).toNat
     omega
   ·have h2 : (byteAt s x.1 == c) = false := h2
    have hbc : b ≠ ch := by
     intro e
     rw [e, <- hch] at b2
     have : byteAt s x.1 = c := by
      rw [b2, UInt8.toNat_ofNat', Nat.mod_eq_of_lt (by omega)]; omega
     rw [this] at h2; simp at h2
    rw [glue_miss hbc] at hall
    refine ih (x.1 + 1, x.2.1, x.2.2) (fun i => i) ⟨hx0, ?_, ?_, ?_, ?_⟩ ?_ (by rfl) ⟨⟨rfl, hw⟩, iR, iR, iR, iR, trivial⟩ ⟨⟨rfl, rfl⟩, trivial⟩
    ·show x.2.1 <= x.1 + 1; omega
    ·show x.1 + 1 <= s.size; omega
    ·show (x.2.2.length : Int) <= x.1 + 1; omega
    ·show x.2.2 ++ (glue ((s.data.toList.take (x.1 + 1).toNat).drop x.2.1.toNat) (spL ch (s.data.toList.drop (x.1 + 1).toNat))).map toB = spB ch s
     have hl : x.2.1.toNat <= (s.data.toList.take x.1.toNat).length := by
      rw [List.length_take, show s.data.toList.length = s.size from bsize s]; omega
     rw [b4, List.drop_append_of_le_length hl, <- hall]
    ·show ((s.size : Int) - (x.1 + 1)).toNat < ((s.size : Int) - x.1).toNat
     omega
  ·have h : ¬ x.1 < s.size := by simpa using h
   have e : x.1 = s.size := by omega
   have hdn : s.data.toList.drop s.size = [] := List.drop_eq_nil_of_le (by rw [show s.data.toList.length = s.size from bsize s]; exact Nat.le_refl _)
   rw [e, Int.toNat_natCast, hdn, glue_end] at hall
   refine ⟨⟨⟨hx0, by show x.2.1 <= (s.size : Int); omega⟩, ⟨by show (0 : Int) < 1; omega, ?_⟩, trivial⟩, rfl, ?_⟩
   ·show ((x.2.2.length : Int) + 1) * 16 <= 140737488355328
    omega
   ·have hall2 : x.2.2 ++ [s.extract x.2.1.toNat (s.size : Int).toNat] = spB ch s := by rw [ext_toB]; exact hall
    rw [<- hall2]
    exact push_imp .str none 1 x.2.2 _
 ·exact ⟨iR, iR, ⟨.inr rfl, rfl, rfl, fun j h0 h1 => absurd h1 (by show ¬ j < 0; omega)⟩, iR, iR, trivial⟩
 ·exact ⟨⟨rfl, rfl⟩, trivial⟩
noncomputable def Rg6 : Table := addS 39 (.cons .str (.cons (.int .u8) .nil)) (fun s c => (Sh.mkL 1 .str fun _ => spB (UInt8.ofNat (c ()).toNat) (s ()), [fun _ => (0 <= c () /\ c () < 256) /\ ByteArray.size (s ()) < 4294967281])) Rg5
theorem Rg6_ok : TableOK Tryz.prog G0 Rg6 := addS_ok qf39.callable (fun s c h => refSplit_ok (s ()) (c ()) h.1.1 h.1.2) Rg5_ok
def pqA (s : ByteArray) : Nat × Nat -> Env
 | (i, a) => [(6, .int .i64 fun _ => (i : Int) - 1), (5, .int .i64 fun _ => (a : Int)), (0, .str fun _ => s)]
structure FirstI (l : List UInt8) (c : UInt8) (i a : Nat) : Prop where
 le : i <= l.length
 at_ : (a = l.length /\ ¬ c ∈ l.drop i) \/ (i <= a /\ ∃ t, l.drop a = c :: t /\ ¬ c ∈ (l.drop i).take (a - i))
theorem first_cut {l : List UInt8} {a : Nat} (h : FirstI l 61 0 a) : a <= l.length /\ ((a = l.length /\ Lib.cut l [61] = (l.take a, [], false)) \/ (a < l.length /\ Lib.cut l [61] = (l.take a, l.drop (a + 1), true))) := by
 rcases h.at_ with ⟨h1, h2⟩ | ⟨_, t, h1, h2⟩
 ·refine ⟨Nat.le_of_eq h1, .inl ⟨h1, ?_⟩⟩
  rw [h1, List.take_length]
  exact cut_none h2
 ·have hlt : a < l.length := by
   apply Classical.byContradiction
   intro hn
   rw [List.drop_eq_nil_of_le (by omega)] at h1
   cases h1
  refine ⟨Nat.le_of_lt hlt, .inr ⟨hlt, ?_⟩⟩
  have hl : l = l.take a ++ 61 :: t := by rw [<- h1, List.take_append_drop]
  have ht : l.drop (a + 1) = t := by
   rw [List.drop_add_one_eq_tail_drop, h1]; rfl
  rw [ht]
  conv => lhs; rw [hl]
  exact cut_first t h2
def psA (s : ByteArray) (a r : Nat) : Env := [(7, .int .i64 fun _ => (r : Int)), (5, .int .i64 fun _ => (a : Int)), (0, .str fun _ => s)]
def ptA (v r : Nat) : Env := [(11, .int .i64 fun _ => (vMost r : Int)), (10, .int .u64 fun _ => (vEach r : Int)), (8, .ptr 0 0), (7, .int .i64 fun _ => (r : Int))]
def ptS (v : Nat) : Store := [(0, .var (.agg (.cons (.int .u64 fun _ => wHi v) (.cons (.int .u64 fun _ => wLo v) .nil))))]
theorem rfpart_ok (s : ByteArray) (hs : s.size < 2147483648) : PF 93 (.cons (.str fun _ => s) .nil) (.tuple (.cons (.int .i64 fun _ => ((rPart s.data.toList).1 : Int)) (.cons (.int .i64 fun _ => ((rPart s.data.toList).2.1 : Int)) (.cons (.int .i64 fun _ => (rPart s.data.toList).2.2) .nil)))) := by
 obtain ⟨P, hP⟩ : ∃ P, P = rPart s.data.toList := ⟨_, rfl⟩
 rw [<- hP]
 have hsz := size_toB s
 refine tX qf93 Rg6_ok (.any) rfl ?_
 conv => arg 5; cbv
 have hl31 : s.data.toList.length < 2147483648 := by omega
 refine run_inv (ι := Nat × Nat) (fun x => x.1) (fun x => FirstI s.data.toList 61 x.1 x.2) (pqA s) (fun _ => []) 0 (s.size, s.size) (fun i => i) (by rfl) (by rfl) ⟨by show s.size <= s.data.toList.length; omega, .inl ⟨hsz.symm, by rw [List.drop_eq_nil_of_le (by omega)]; exact List.not_mem_nil⟩⟩ ?_ ⟨⟨rfl, by show IntKind.i64.wrap ((s.size : Int) - 1) = (s.size : Int) - 1; exact IntWalk.i64_in _ ⟨by omega, by omega⟩⟩, iR, iR, trivial⟩ trivial
 rintro ⟨i, a⟩ hfi ih
 dsimp only at hfi
 by_cases h0 : i = 0
 ·
  subst h0
  clear ih
  obtain ⟨hal, hcut⟩ := first_cut hfi
  have hex : s.extract (Int.toNat 0) ((a : Int)).toNat = toB (s.data.toList.take a) := by
   rw [Int.toNat_natCast]; rw [extB]; rfl
  obtain ⟨r, hr⟩ : ∃ r, r = vIdx (s.data.toList.take a) := ⟨_, rfl⟩
  have hr3 : r <= 3 := by rw [hr]; exact vIdx_le _
  refine bX Rg6_ok ((.no (.both (.to 15) (.both (.to 15) (.both (.to 15) (.to 15)))))) _ rfl ?_
  conv => arg 5; cbv
  refine tree_meet (psA s a r) [] 0 (by rfl) ?_ ?_
  ·have nm : ∀ (t : List UInt8), s.extract (Int.toNat 0) ((a : Int)).toNat = toB t -> s.data.toList.take a = t := fun t h => by
    rw [hex] at h
    exact congrArg (fun b => b.data.toList) h
   have nn : ∀ (t : List UInt8), ¬ s.extract (Int.toNat 0) ((a : Int)).toNat = toB t -> ¬ s.data.toList.take a = t := fun t h e => h (by rw [hex, e])
   refine ⟨⟨by decide, trivial⟩, ⟨⟨Int.natCast_nonneg a, by show (a : Int) <= (s.size : Int); omega⟩, trivial⟩, fun d => ⟨rfl, fun i => i, by rfl, ⟨⟨rfl, ?_⟩, iR, iR, trivial⟩, trivial⟩, fun d => ⟨fun f => ⟨rfl, fun i => i, by rfl, ⟨⟨rfl, ?_⟩, iR, iR, trivial⟩, trivial⟩, fun f => ⟨fun g => ⟨rfl, fun i => i, by rfl, ⟨⟨rfl, ?_⟩, iR, iR, trivial⟩, trivial⟩, fun g => ⟨rfl, fun i => i, by rfl, ⟨⟨rfl, ?_⟩, iR, iR, trivial⟩, trivial⟩⟩⟩⟩
   ·have d := nm sCpu (of_decide_eq_true d)
    show (0 : Int) = (r : Int)
    rw [hr, d]; rfl
   ·have f := nm sMem (of_decide_eq_true f)
    show (1 : Int) = (r : Int)
    rw [hr, f]; rfl
   ·have g := nm sHug (of_decide_eq_true g)
    show (2 : Int) = (r : Int)
    rw [hr, g]; rfl
   ·have d := nn sCpu (of_decide_eq_false d)
    have f := nn sMem (of_decide_eq_false f)
    have g := nn sHug (of_decide_eq_false g)
    show (3 : Int) = (r : Int)
    rw [hr]; unfold vIdx
    rw [if_neg d, if_neg f, if_neg g]; rfl
  refine bX Rg6_ok ((.both .any (.both .any (.both .any (.both (.to 25) (.to 25)))))) _ rfl ?_
  conv => arg 5; cbv
  have q11 : ∀ p : Nat × Nat × Int, P = p -> impP (.tuple (.cons (.int .i64 fun _ => (p.1 : Int)) (.cons (.int .i64 fun _ => (p.2.1 : Int)) (.cons (.int .i64 fun _ => p.2.2) .nil)))) (.tuple (.cons (.int .i64 fun _ => (P.1 : Int)) (.cons (.int .i64 fun _ => (P.2.1 : Int)) (.cons (.int .i64 fun _ => P.2.2) .nil)))) := fun p h => by rw [h]; exact iR
  obtain ⟨V, hV⟩ : ∃ V, V = (aparse (s.data.toList.drop (a + 1))).1 := ⟨_, rfl⟩
  have hVm : V <= mostA := by rw [hV]; exact aparse_lt _
  have hw : IntKind.i64.wrap ((a : Int) + 1) = ((a + 1 : Nat) : Int) := by rw [IntWalk.i64_in _ ⟨by omega, by omega⟩]; omega
  have hex2 : (s.extract (IntKind.i64.wrap ((a : Int) + 1)).toNat ((s.size : Int)).toNat).data.toList = s.data.toList.drop (a + 1) := by
   rw [hw, Int.toNat_natCast, Int.toNat_natCast, restB]; rfl
  have ne : ((a : Int) == (s.size : Int)) = false -> a < s.data.toList.length := fun h => by
   have : ¬ (a : Int) = (s.size : Int) := by simpa using h
   omega
  have pf : ∀ h : a < s.data.toList.length, P = if r = 3 then (3, 0, 11) else if (aparse (s.data.toList.drop (a + 1))).2 ≠ 0 then (r, 0, (aparse (s.data.toList.drop (a + 1))).2) else (r, rRead r V) := fun h => by
   rcases hcut with ⟨h1, _⟩ | ⟨_, h2⟩
   ·omega
   ·rw [hP]
    unfold rPart
    rw [h2, if_neg (by simp), <- hr, <- hV]
  refine tree_if (r < 3 /\ P = (r, rRead r V)) (ptA V r) (ptS V) 1 (by rfl) ?_ ?_
  ·refine ⟨fun d => ⟨rfl, q11 (r, 0, 11) ?_⟩, fun d => ⟨fun f => ⟨rfl, q11 (3, 0, 11) ?_⟩, fun f => ?_⟩⟩
   ·have d : (a : Int) = (s.size : Int) := by simpa using d
    rcases hcut with ⟨_, h2⟩ | ⟨h1, _⟩
    ·rw [hP]; unfold rPart
     rw [h2, if_pos rfl, <- hr]
    ·omega
   ·have f : (r : Int) = 3 := by simpa using f
    rw [pf (ne d), if_pos (by omega)]
   ·have hlt := ne d
    have f : ((r : Int) == 3) = false := f
    have f : ¬ (r : Int) = 3 := by simpa using f
    have pf := pf hlt
    rw [if_neg (by omega)] at pf
    refine ⟨⟨⟨?_, ?_⟩, ?_, trivial⟩, fun g => ⟨rfl, ?_⟩, fun g => ?_⟩
    ·show 0 <= IntKind.i64.wrap ((a : Int) + 1)
     rw [hw]; omega
    ·show IntKind.i64.wrap ((a : Int) + 1) <= (s.size : Int)
     rw [hw]; omega
    ·show (s.extract (IntKind.i64.wrap ((a : Int) + 1)).toNat ((s.size : Int)).toNat).size < 2147483648
     rw [<- size_toB, hex2, List.length_drop]; omega
    ·have g : ((aparse (s.extract (IntKind.i64.wrap ((a : Int) + 1)).toNat ((s.size : Int)).toNat).data.toList).2 != 0) = true := g
     rw [hex2] at g
     rw [if_pos (by simpa using g)] at pf
     rw [pf]
     exact ⟨⟨rfl, rfl⟩, ⟨rfl, rfl⟩, ⟨rfl, congrArg (fun q => (aparse q).2) hex2⟩, rfl⟩
    ·have g : ((aparse (s.extract (IntKind.i64.wrap ((a : Int) + 1)).toNat ((s.size : Int)).toNat).data.toList).2 != 0) = false := g
     rw [hex2] at g
     rw [if_neg (by simpa using g)] at pf
     have ov : impP (.agg (.cons (.int .u64 fun _ => wHi (aparse (s.extract (IntKind.i64.wrap ((a : Int) + 1)).toNat ((s.size : Int)).toNat).data.toList).1) (.cons (.int .u64 fun _ => wLo (aparse (s.extract (IntKind.i64.wrap ((a : Int) + 1)).toNat ((s.size : Int)).toNat).data.toList).1) .nil))) (.agg (.cons (.int .u64 fun _ => wHi V) (.cons (.int .u64 fun _ => wLo V) .nil))) := by
      rw [hex2, <- hV]; exact iR
     refine ⟨fun h => ⟨⟨by omega, pf⟩, rfl, fun i => i, by rfl, ⟨⟨rfl, ?_⟩, ⟨rfl, ?_⟩, iR, iR, trivial⟩, ⟨ov, trivial⟩⟩, fun h => ⟨⟨by omega, pf⟩, rfl, fun i => i, by rfl, ⟨⟨rfl, ?_⟩, ⟨rfl, ?_⟩, iR, iR, trivial⟩, ⟨ov, trivial⟩⟩⟩
     ·have h : (r : Int) = 0 := by simpa using h
      show (1099511627776 : Int) = (vMost r : Int)
      unfold vMost; rw [if_pos (by omega)]; rfl
     ·have h : (r : Int) = 0 := by simpa using h
      show (1000000 : Int) = (vEach r : Int)
      unfold vEach; rw [if_pos (by omega)]; rfl
     ·have h : ((r : Int) == 0) = false := h
      have h : ¬ (r : Int) = 0 := by simpa using h
      show (1125899906842624 : Int) = (vMost r : Int)
      unfold vMost; rw [if_neg (by omega)]; rfl
     ·have h : ((r : Int) == 0) = false := h
      have h : ¬ (r : Int) = 0 := by simpa using h
      show (1000000000 : Int) = (vEach r : Int)
      unfold vEach; rw [if_neg (by omega)]; rfl
  rintro ⟨hr3, hPr⟩
  refine bX Rg6_ok (.any) _ rfl ?_
  conv => arg 5; cbv
  have he : 0 < vEach r /\ vEach r < 18446744073709551616 := by unfold vEach; split <;> omega
  have bV : V < 2 ^ 128 := Nat.lt_of_le_of_lt hVm (by decide)
  have wV : (wHi V).toNat * 2 ^ 64 + (wLo V).toNat = V := by unfold wHi wLo; omega
  have rV : (0 <= wHi V /\ wHi V < 2 ^ 64) /\ 0 <= wLo V /\ wLo V < 2 ^ 64 := by unfold wHi wLo; omega
  obtain ⟨C, hC⟩ : ∃ C, C = ceilD V (vEach r) := ⟨_, rfl⟩
  have eC : ceilD ((wHi V).toNat * 2 ^ 64 + (wLo V).toNat) ((vEach r : Int)).toNat = C := by rw [wV, Int.toNat_natCast, hC]
  have hPr : P = (r, if 1152921504606846976 < C \/ vMost r < C then (0, 15) else if r = 2 /\ C % 2097152 ≠ 0 then (0, 11) else (C, 0)) := by rw [hPr, hC]; rfl
  have em : (C : Int).tmod 2097152 = ((C % 2097152 : Nat) : Int) := by rw [Int.tmod_eq_emod_of_nonneg (by omega)]; omega
  have leafC : C <= 1152921504606846976 -> P = (r, C, 0) -> impP (.tuple (.cons (.int .i64 fun _ => (r : Int)) (.cons (.int .i64 fun _ => if ceilD ((wHi V).toNat * 2 ^ 64 + (wLo V).toNat) ((vEach r : Int)).toNat <= 1152921504606846976 then ((ceilD ((wHi V).toNat * 2 ^ 64 + (wLo V).toNat) ((vEach r : Int)).toNat : Nat) : Int) else 0) (.cons (.int .i64 fun _ => 0) .nil)))) (.tuple (.cons (.int .i64 fun _ => (P.1 : Int)) (.cons (.int .i64 fun _ => (P.2.1 : Int)) (.cons (.int .i64 fun _ => P.2.2) .nil)))) := fun h1 h2 => by
   rw [eC, h2, if_pos h1]; exact iR
  refine ⟨⟨rV, ⟨by show (0 : Int) < (vEach r : Int); omega, by show (vEach r : Int) < 18446744073709551616; omega⟩, by show _ <= mostA; rw [wV]; exact hVm, trivial⟩, fun d => ⟨rfl, ?_⟩, fun d => ?_⟩
  ·have d := (congrArg (fun q => (!decide (q <= 1152921504606846976)) = true) eC).mp d
   have d : ¬ C <= 1152921504606846976 := fun h => by rw [decide_eq_true h] at d; cases d
   rw [if_pos (.inl (by omega))] at hPr
   exact q11 (r, 0, 15) hPr
  have d := (congrArg (fun q => (!decide (q <= 1152921504606846976)) = false) eC).mp d
  have d : C <= 1152921504606846976 := Classical.byContradiction fun h => by rw [decide_eq_false h] at d; cases d
  refine ⟨fun f => ⟨rfl, ?_⟩, fun f => ?_⟩
  ·have f : (vMost r : Int) < _ := of_decide_eq_true f
   have f := (congrArg (fun q : Nat => (vMost r : Int) < if q <= 1152921504606846976 then (q : Int) else 0) eC).mp f
   rw [if_pos d] at f
   rw [if_pos (.inr (by omega))] at hPr
   exact q11 (r, 0, 15) hPr
  have f : ¬ (vMost r : Int) < _ := of_decide_eq_false f
  have f := (congrArg (fun q : Nat => ¬ (vMost r : Int) < if q <= 1152921504606846976 then (q : Int) else 0) eC).mp f
  rw [if_pos d] at f
  rw [if_neg (by omega)] at hPr
  refine ⟨fun g => ⟨⟨by decide, trivial⟩, fun h => ⟨rfl, ?_⟩, fun h => ⟨rfl, leafC d ?_⟩⟩, fun g => ⟨rfl, leafC d ?_⟩⟩
  ·have g : (r : Int) = 2 := by simpa using g
   have h := (congrArg (fun q : Nat => (Int.tmod (if q <= 1152921504606846976 then (q : Int) else 0) 2097152 != 0) = true) eC).mp h
   rw [if_pos d, em] at h
   have h : ¬ ((C % 2097152 : Nat) : Int) = 0 := by simpa using h
   rw [if_pos ⟨by omega, by omega⟩] at hPr
   exact q11 (r, 0, 11) hPr
  ·have h := (congrArg (fun q : Nat => (Int.tmod (if q <= 1152921504606846976 then (q : Int) else 0) 2097152 != 0) = false) eC).mp h
   rw [if_pos d, em] at h
   have h : ((C % 2097152 : Nat) : Int) = 0 := by simpa using h
   rw [if_neg (by omega)] at hPr
   exact hPr
  ·have g : ((r : Int) == 2) = false := g
   have g : ¬ (r : Int) = 2 := by simpa using g
   rw [if_neg (by omega)] at hPr
   exact hPr
 ·
  obtain ⟨hle, hat⟩ := hfi
  have hi1 : i - 1 + 1 = i := by omega
  refine bX Rg6_ok ((.yes .any)) _ rfl ?_
  conv => arg 5; cbv
  obtain ⟨x, r, hxr⟩ : ∃ x r, s.data.toList.drop (i - 1) = x :: r := by
   cases h : s.data.toList.drop (i - 1) with
   | nil =>
     have := List.drop_eq_nil_iff.1 h
     omega
   | cons x r => exact ⟨x, r, rfl⟩
  obtain ⟨hb, _, hd⟩ := isD_at hxr
  rw [hi1] at hd
  have ec : (i : Int) - 1 = ((i - 1 : Nat) : Int) := by omega
  have hw : IntKind.i64.wrap ((i : Int) - 1 - 1) = ((i - 1 : Nat) : Int) - 1 := by rw [IntWalk.i64_in _ ⟨by omega, by omega⟩]; omega
  refine ⟨⟨decide_eq_true (show (0 : Int) <= (i : Int) - 1 by omega), trivial⟩, ⟨⟨by show 0 <= (i : Int) - 1; omega, by show (i : Int) - 1 < (s.size : Int); omega⟩, trivial⟩, fun d => ih (i - 1, i - 1) (fun i => i) ⟨by show i - 1 <= _; omega, ?_⟩ (by show i - 1 < i; omega) (by rfl) ⟨⟨rfl, hw⟩, ⟨rfl, ec⟩, iR, trivial⟩ trivial, fun d => ih (i - 1, a) (fun i => i) ⟨by show i - 1 <= _; omega, ?_⟩ (by show i - 1 < i; omega) (by rfl) ⟨⟨rfl, hw⟩, iR, iR, trivial⟩ trivial⟩
  ·have d : (byteAt s ((i : Int) - 1) == 61) = true := d
   rw [ec, hb] at d
   have h61 : x = 61 := UInt8.toNat_inj.1 (by have : ((x.toNat : Nat) : Int) = 61 := (by simpa using d); show x.toNat = 61; omega)
   refine .inr ⟨Nat.le_refl _, r, by rw [hxr, h61], ?_⟩
   show ¬ 61 ∈ (s.data.toList.drop (i - 1)).take (i - 1 - (i - 1))
   rw [Nat.sub_self, List.take_zero]; exact List.not_mem_nil
  ·have d : (byteAt s ((i : Int) - 1) == 61) = false := d
   rw [ec, hb] at d
   have h61 : ¬ 61 = x := fun e => by rw [<- e] at d; revert d; decide
   rcases hat with ⟨h1, h2⟩ | ⟨h1, t, h2, h3⟩
   ·refine .inl ⟨h1, ?_⟩
    show ¬ 61 ∈ s.data.toList.drop (i - 1)
    rw [hxr, <- hd]
    intro hm
    rcases List.mem_cons.1 hm with h | h
    ·exact h61 h
    ·exact h2 h
   ·refine .inr ⟨by show i - 1 <= a; omega, t, h2, ?_⟩
    show ¬ 61 ∈ (s.data.toList.drop (i - 1)).take (a - (i - 1))
    rw [hxr, <- hd, show a - (i - 1) = a - i + 1 by omega, List.take_succ_cons]
    intro hm
    rcases List.mem_cons.1 hm with h | h
    ·exact h61 h
    ·exact h3 h
noncomputable def Rg7 : Table := addS 93 (.cons .str .nil) (fun s => (.tuple (.cons (.int .i64 fun _ => ((rPart (s ()).data.toList).1 : Int)) (.cons (.int .i64 fun _ => ((rPart (s ()).data.toList).2.1 : Int)) (.cons (.int .i64 fun _ => (rPart (s ()).data.toList).2.2) .nil))), [fun _ => (s ()).size < 2147483648])) Rg6
theorem Rg7_ok : TableOK Tryz.prog G0 Rg7 := addS_ok qf93.callable (fun s h => rfpart_ok (s ()) h.1) Rg6_ok
def pgA (L : List ByteArray) (k : Nat) : Env := [(20, .int .i64 fun _ => (k : Int)), (19, .int .i64 fun _ => (L.length : Int)), (18, Sh.mkL 1 .str fun _ => L), (5, .ptr 2 0), (4, .ptr 1 0), (2, .ptr 0 0)]
def pgS : List Nat × List Int -> Store
 | (sn, pp) => [(0, .var (.agg (.cons (.int .i64 fun _ => 0) (.cons (.int .i64 fun _ => 0) (.cons (.int .i64 fun _ => 0) .nil))))), (1, .var (.arrI .i64 4 fun _ => pp)), (2, .var (.arrI .i64 4 fun _ => sn.map fun x : Nat => (x : Int)))]
structure PgI (L : List ByteArray) (P : List Int × Int) (x : Nat × List Nat × List Int) : Prop where
 kl : x.1 <= L.length
 sl : x.2.1.length = 4
 pl : x.2.2.length = 4
 few : ∀ i, x.2.1.getD i 0 <= x.1
 go : rGo ((L.drop x.1).map fun b : ByteArray => b.data.toList) x.2.1 x.2.2 = P
theorem getD_map {α β : Type} (f : α -> β) (l : List α) (i : Nat) (d : α) : (l.map f).getD i (f d) = f (l.getD i d) := by
 rw [List.getD_eq_getElem?_getD, List.getElem?_map, List.getD_eq_getElem?_getD]
 cases l[i]? <;> rfl
theorem set_map {α β : Type} (f : α -> β) (l : List α) (i : Nat) (d : α) : (l.map f).set i (f d) = (l.set i d).map f := List.map_set.symm
theorem rfvparse_ok (s : ByteArray) (hs : s.size < 2147483648) : PF 70 (.cons (.str fun _ => s) .nil) (.tuple (.cons (.agg (.cons (.int .i64 fun _ => (rParse s.data.toList).1.getD 0 0) (.cons (.int .i64 fun _ => (rParse s.data.toList).1.getD 1 0) (.cons (.int .i64 fun _ => (rParse s.data.toList).1.getD 2 0) .nil)))) (.cons (.int .i64 fun _ => (rParse s.data.toList).2) .nil))) := by
 obtain ⟨P, hP⟩ : ∃ P, P = rParse s.data.toList := ⟨_, rfl⟩
 rw [<- hP]
 have hsz := size_toB s
 have vP : ∀ (a b c e : Int), P.1.getD 0 0 = a -> P.1.getD 1 0 = b -> P.1.getD 2 0 = c -> P.2 = e -> impP (.tuple (.cons (.agg (.cons (.int .i64 fun _ => a) (.cons (.int .i64 fun _ => b) (.cons (.int .i64 fun _ => c) .nil)))) (.cons (.int .i64 fun _ => e) .nil))) (.tuple (.cons (.agg (.cons (.int .i64 fun _ => P.1.getD 0 0) (.cons (.int .i64 fun _ => P.1.getD 1 0) (.cons (.int .i64 fun _ => P.1.getD 2 0) .nil)))) (.cons (.int .i64 fun _ => P.2) .nil))) := fun a b c e h1 h2 h3 h4 => by
  rw [h1, h2, h3, h4]; exact iR
 refine tX qf70 Rg7_ok (.any) rfl ?_
 conv => arg 5; cbv
 refine ⟨fun d => ⟨rfl, ?_⟩, fun d => ⟨fun f => ⟨rfl, ?_⟩, fun f => ⟨?_, ?_⟩⟩⟩
 ·have d : s = (⟨#[]⟩ : ByteArray) := of_decide_eq_true d
  have e : P = ([0, 0, 0, 0], 10) := by rw [hP, d]; rfl
  exact vP _ _ _ _ (by rw [e]; rfl) (by rw [e]; rfl) (by rw [e]; rfl) (by rw [e])
 ·have f : s = (⟨#[45]⟩ : ByteArray) := of_decide_eq_true f
  have e : P = ([0, 0, 0, 0], 0) := by rw [hP, f]; rfl
  exact vP _ _ _ _ (by rw [e]; rfl) (by rw [e]; rfl) (by rw [e]; rfl) (by rw [e])
 ·exact ⟨⟨by decide, by show s.size < 4294967281; omega⟩, trivial⟩
 have d : ¬ s = (⟨#[]⟩ : ByteArray) := of_decide_eq_false d
 have f : ¬ s = (⟨#[45]⟩ : ByteArray) := of_decide_eq_false f
 have hP2 : rGo ((spB 44 s).map fun b : ByteArray => b.data.toList) [0, 0, 0, 0] [0, 0, 0, 0] = P := by
  rw [hP]
  unfold rParse
  rw [if_neg (fun e => d (by rw [<- toB_data s, e]; rfl)), if_neg (fun e => f (by rw [<- toB_data s, e]; rfl))]
  unfold spB
  rw [List.map_map]
  congr 1
  conv => rhs; rw [<- List.map_id (spL 44 s.data.toList)]
  rfl
 obtain ⟨L, hL⟩ : ∃ L, L = spB 44 s := ⟨_, rfl⟩
 have hLs : ∀ b ∈ L, b.size <= s.size := by rw [hL]; exact sp_size 44 s
 have hLl : L.length <= s.size + 1 := by rw [hL]; exact (sp_len 44 s).2
 rw [<- hL] at hP2
 refine run_inv (ι := Nat × List Nat × List Int) (fun x => L.length - x.1) (PgI L P) (fun x => pgA L x.1) (fun x => pgS x.2) 3 (0, [0, 0, 0, 0], [0, 0, 0, 0]) (fun i => i) (by rfl) (by rfl) ⟨Nat.zero_le _, rfl, rfl, fun i => ?_, hP2⟩ ?_ ⟨iR, by rw [hL]; exact iR, by rw [hL]; exact iR, iR, iR, iR, trivial⟩ ⟨iR, iR, iR, trivial⟩
 ·show ([0, 0, 0, 0] : List Nat).getD i 0 <= 0
  rcases i with _ | _ | _ | _ | i <;> simp
 rintro ⟨k, sn, pp⟩ ⟨kl, sl, pl, few, go⟩ ih
 dsimp only at kl sl pl few go
 refine bX Rg7_ok (.any) _ rfl ?_
 conv => arg 5; cbv
 refine ⟨fun d => ?_, fun d => ⟨rfl, ?_⟩⟩
 ·have d : (k : Int) < (L.length : Int) := of_decide_eq_true d
  have hk : k < L.length := by omega
  obtain ⟨B, hB⟩ : ∃ B, B = L.getD k ByteArray.empty := ⟨_, rfl⟩
  have hBm : B ∈ L := by
   rw [hB, List.getD_eq_getElem?_getD, List.getElem?_eq_getElem hk]
   exact List.getElem_mem hk
  have hBs := hLs B hBm
  have hdr : L.drop k = B :: L.drop (k + 1) := by
   rw [hB, List.getD_eq_getElem?_getD, List.getElem?_eq_getElem hk]
   exact List.drop_eq_getElem_cons hk
  rw [hdr, List.map_cons] at go
  unfold rGo at go
  obtain ⟨R, hR⟩ : ∃ R, R = rPart B.data.toList := ⟨_, rfl⟩
  rw [<- hR] at go
  have hRl := rPart_le B.data.toList
  rw [<- hR] at hRl
  have eR : rPart (L.getD ((k : Int)).toNat ByteArray.empty).data.toList = R := by rw [hR, hB]; rfl
  have eR1 : ((rPart (L.getD ((k : Int)).toNat ByteArray.empty).data.toList).1 : Int).toNat = R.1 := by rw [eR]; rfl
  have c4 : (0 : Int) <= ((rPart (L.getD ((k : Int)).toNat ByteArray.empty).data.toList).1 : Int) /\ ((rPart (L.getD ((k : Int)).toNat ByteArray.empty).data.toList).1 : Int) < ((4 : Nat) : Int) := by rw [eR]; omega
  have gs : (sn.map fun x : Nat => (x : Int)).getD R.1 0 = ((sn.getD R.1 0 : Nat) : Int) := getD_map (fun x : Nat => (x : Int)) sn R.1 0
  have fw := few R.1
  have hw : IntKind.i64.wrap (((sn.getD R.1 0 : Nat) : Int) + 1) = ((sn.getD R.1 0 + 1 : Nat) : Int) := by
   rw [IntWalk.i64_in _ ⟨by omega, by omega⟩]; omega
  have hwk : IntKind.i64.wrap ((k : Int) + 1) = ((k + 1 : Nat) : Int) := by rw [IntWalk.i64_in _ ⟨by omega, by omega⟩]; omega
  have c1 : (0 : Int) <= (k : Int) /\ (k : Int) < (L.length : Int) := ⟨Int.natCast_nonneg k, d⟩
  have bad : ∀ e : Int, P = ([0, 0, 0, 0], e) -> impP (.tuple (.cons (.agg (.cons (.int .i64 fun _ => 0) (.cons (.int .i64 fun _ => 0) (.cons (.int .i64 fun _ => 0) .nil)))) (.cons (.int .i64 fun _ => e) .nil))) (.tuple (.cons (.agg (.cons (.int .i64 fun _ => P.1.getD 0 0) (.cons (.int .i64 fun _ => P.1.getD 1 0) (.cons (.int .i64 fun _ => P.1.getD 2 0) .nil)))) (.cons (.int .i64 fun _ => P.2) .nil))) := fun e h => vP _ _ _ _ (by rw [h]; rfl) (by rw [h]; rfl) (by rw [h]; rfl) (by rw [h])
  have sA : impP (.arrI .i64 4 fun _ => (sn.map fun x : Nat => (x : Int)).set ((rPart (L.getD ((k : Int)).toNat ByteArray.empty).data.toList).1 : Int).toNat (IntKind.i64.wrap ((sn.map fun x : Nat => (x : Int)).getD ((rPart (L.getD ((k : Int)).toNat ByteArray.empty).data.toList).1 : Int).toNat 0 + 1))) (.arrI .i64 4 fun _ => (sn.set R.1 (sn.getD R.1 0 + 1)).map fun x : Nat => (x : Int)) := by
   rw [eR1, gs, hw]
   have : (sn.map fun x : Nat => (x : Int)).set R.1 ((sn.getD R.1 0 + 1 : Nat) : Int) = (sn.set R.1 (sn.getD R.1 0 + 1)).map fun x : Nat => (x : Int) := set_map (fun x : Nat => (x : Int)) sn R.1 _
   rw [this]; exact iR
  have pA : impP (.arrI .i64 4 fun _ => pp.set ((rPart (L.getD ((k : Int)).toNat ByteArray.empty).data.toList).1 : Int).toNat ((rPart (L.getD ((k : Int)).toNat ByteArray.empty).data.toList).2.1 : Int)) (.arrI .i64 4 fun _ => pp.set R.1 (R.2.1 : Int)) := by
   rw [eR1, eR]; exact iR
  have I' : R.2.2 = 0 -> ¬ (R.1 < 3 /\ 0 < sn.getD R.1 0) -> PgI L P (k + 1, sn.set R.1 (sn.getD R.1 0 + 1), pp.set R.1 (R.2.1 : Int)) := fun h1 h2 => by
   rw [if_neg h2, if_neg (fun h => h h1)] at go
   refine ⟨hk, by show (sn.set _ _).length = 4; rw [List.length_set]; exact sl, by show (pp.set _ _).length = 4; rw [List.length_set]; exact pl, fun i => ?_, go⟩
   show (sn.set R.1 (sn.getD R.1 0 + 1)).getD i 0 <= k + 1
   rw [List.getD_eq_getElem?_getD, List.getElem?_set]
   split
   ·split
    ·show sn.getD R.1 0 + 1 <= k + 1; omega
    ·exact Nat.zero_le _
   ·have := few i
    rw [List.getD_eq_getElem?_getD] at this
    omega
  have e0 : ((rPart (L.getD ((k : Int)).toNat ByteArray.empty).data.toList).2.2 != 0) = true -> R.2.2 ≠ 0 := fun h => by
   rw [eR] at h; simpa using h
  have e1 : ((rPart (L.getD ((k : Int)).toNat ByteArray.empty).data.toList).2.2 != 0) = false -> R.2.2 = 0 := fun h => by
   rw [eR] at h; simpa using h
  have errl : R.2.2 ≠ 0 -> ¬ (R.1 < 3 /\ 0 < sn.getD R.1 0) -> impP (.tuple (.cons (.agg (.cons (.int .i64 fun _ => 0) (.cons (.int .i64 fun _ => 0) (.cons (.int .i64 fun _ => 0) .nil)))) (.cons (.int .i64 fun _ => (rPart (L.getD ((k : Int)).toNat ByteArray.empty).data.toList).2.2) .nil))) (.tuple (.cons (.agg (.cons (.int .i64 fun _ => P.1.getD 0 0) (.cons (.int .i64 fun _ => P.1.getD 1 0) (.cons (.int .i64 fun _ => P.1.getD 2 0) .nil)))) (.cons (.int .i64 fun _ => P.2) .nil))) := fun h1 h2 => by
   rw [if_neg h2, if_pos h1] at go
   rw [eR]; exact bad _ go.symm
  refine ⟨⟨c1, by show (L.getD ((k : Int)).toNat ByteArray.empty).size < 2147483648; rw [Int.toNat_natCast, <- hB]; omega, trivial⟩, fun f => ⟨⟨c4, c4, trivial⟩, fun g => ⟨rfl, bad 11 ?_⟩, fun g => ⟨fun h => ⟨rfl, errl (e0 h) ?_⟩, fun h => ⟨⟨c4, c4, c4, c4, c4, c4, trivial⟩, ih (k + 1, sn.set R.1 (sn.getD R.1 0 + 1), pp.set R.1 (R.2.1 : Int)) (fun i => i) (I' (e1 h) ?_) (by show L.length - (k + 1) < L.length - k; omega) (by rfl) ⟨⟨rfl, hwk⟩, iR, iR, iR, iR, iR, trivial⟩ ⟨iR, pA, sA, trivial⟩⟩⟩⟩, fun f => ⟨fun h => ⟨rfl, errl (e0 h) ?_⟩, fun h => ⟨⟨c4, c4, c4, c4, c4, c4, trivial⟩, ih (k + 1, sn.set R.1 (sn.getD R.1 0 + 1), pp.set R.1 (R.2.1 : Int)) (fun i => i) (I' (e1 h) ?_) (by show L.length - (k + 1) < L.length - k; omega) (by rfl) ⟨⟨rfl, hwk⟩, iR, iR, iR, iR, iR, trivial⟩ ⟨iR, pA, sA, trivial⟩⟩⟩⟩
  ·have f : ((rPart (L.getD ((k : Int)).toNat ByteArray.empty).data.toList).1 : Int) < 3 := of_decide_eq_true f
   rw [eR] at f
   have g : 0 < (sn.map fun x : Nat => (x : Int)).getD ((rPart (L.getD ((k : Int)).toNat ByteArray.empty).data.toList).1 : Int).toNat 0 := of_decide_eq_true g
   rw [eR1, gs] at g
   rw [if_pos ⟨by omega, by omega⟩] at go
   exact go.symm
  ·have g : ¬ 0 < (sn.map fun x : Nat => (x : Int)).getD ((rPart (L.getD ((k : Int)).toNat ByteArray.empty).data.toList).1 : Int).toNat 0 := of_decide_eq_false g
   rw [eR1, gs] at g
   omega
  ·have g : ¬ 0 < (sn.map fun x : Nat => (x : Int)).getD ((rPart (L.getD ((k : Int)).toNat ByteArray.empty).data.toList).1 : Int).toNat 0 := of_decide_eq_false g
   rw [eR1, gs] at g
   omega
  ·have f : ¬ ((rPart (L.getD ((k : Int)).toNat ByteArray.empty).data.toList).1 : Int) < 3 := of_decide_eq_false f
   rw [eR] at f
   omega
  ·have f : ¬ ((rPart (L.getD ((k : Int)).toNat ByteArray.empty).data.toList).1 : Int) < 3 := of_decide_eq_false f
   rw [eR] at f
   omega
 ·have d : ¬ (k : Int) < (L.length : Int) := of_decide_eq_false d
  rw [List.drop_eq_nil_of_le (by omega), List.map_nil] at go
  have go : (pp, (0 : Int)) = P := go
  exact vP _ _ _ _ (by rw [<- go]) (by rw [<- go]) (by rw [<- go]) (by rw [<- go])
noncomputable def Rg8 : Table := addS 70 (.cons .str .nil) (fun s => (.tuple (.cons (.agg (.cons (.int .i64 fun _ => (rParse (s ()).data.toList).1.getD 0 0) (.cons (.int .i64 fun _ => (rParse (s ()).data.toList).1.getD 1 0) (.cons (.int .i64 fun _ => (rParse (s ()).data.toList).1.getD 2 0) .nil)))) (.cons (.int .i64 fun _ => (rParse (s ()).data.toList).2) .nil)), [fun _ => (s ()).size < 2147483648])) Rg7
theorem Rg8_ok : TableOK Tryz.prog G0 Rg8 := addS_ok qf70.callable (fun s h => rfvparse_ok (s ()) h.1) Rg7_ok
def rV (s : ByteArray) : VV := if (rParse s.data.toList).2 = 0 then ((rParse s.data.toList).1.getD 0 0, (rParse s.data.toList).1.getD 1 0, (rParse s.data.toList).1.getD 2 0, ()) else (-1, 0, 0, ())
theorem rV_vtxt {v : VV} (h : vvB v = true) : rV (vtxt v) = v := by
 obtain ⟨c, m, g, ⟨⟩⟩ := v
 have h : vRight c m g = true := h
 have hr := vRight_iff.1 h
 have e : (vtxt (c, m, g, ())).data.toList = vText c.toNat m.toNat g.toNat := by
  unfold vtxt
  rw [if_pos h]
  rfl
 unfold rV
 rw [e, rParse_text (by omega) (by omega) (by omega) (by omega), if_pos rfl]
 show (((c.toNat : Nat) : Int), ((m.toNat : Nat) : Int), ((g.toNat : Nat) : Int), ()) = (c, m, g, ())
 rw [Int.toNat_of_nonneg hr.1.1, Int.toNat_of_nonneg hr.2.1.1, Int.toNat_of_nonneg hr.2.2.1.1]
def anyB (s : ByteArray) (k : Nat) (c : UInt8) : Bool := (s.data.toList.take k).any (· == c)
def rsR (s : ByteArray) (k : Nat) : List Bool := [anyB s k 99, anyB s k 109, anyB s k 104]
theorem any_rs : ∀ a b c : Bool, rsR (rsB [a, b, c]) (rsB [a, b, c]).size = [a, b, c] := by decide
def conR (a b c d : ByteArray) : CV := (a, rV b, rV c, rsR d d.size, ())
def rCo (r : List ByteArray) : List CV := match r with
 | [] => []
 | a :: t => conR a (wd t 0) (wd t 1) (wd t 2) :: rCo (t.drop 3)
termination_by r.length
decreasing_by simp only [List.length_drop, List.length_cons]; omega
theorem rCo_nil : rCo [] = [] := by rw [rCo]
theorem rCo_cons (a : ByteArray) (t : List ByteArray) : rCo (a :: t) = conR a (wd t 0) (wd t 1) (wd t 2) :: rCo (t.drop 3) := by rw [rCo]
def rCh (r : List ByteArray) : List HV := match r with
 | [] => []
 | a :: t => (a, rV (wd t 0), rV (wd t 1), ()) :: rCh (t.drop 2)
termination_by r.length
decreasing_by simp only [List.length_drop, List.length_cons]; omega
theorem rCh_nil : rCh [] = [] := by rw [rCh]
theorem rCh_cons (a : ByteArray) (t : List ByteArray) : rCh (a :: t) = (a, rV (wd t 0), rV (wd t 1), ()) :: rCh (t.drop 2) := by rw [rCh]
def kdR (s : ByteArray) : Nat -> Int
 | 0 => -1
 | i + 1 => if wordsL.getD i ByteArray.empty = s then (i : Int) else kdR s i
def rawR (w : List ByteArray) (k : Int) : EV :=
 if k = 0 then (0, (wd w 1, rnum (wd w 2), rnum (wd w 3), rCo (w.drop 4), ()), ByteArray.empty, ByteArray.empty, [], 0, ())
 else if k = 1 then (1, p0, wd w 1, ByteArray.empty, [], 0, ())
 else if k = 2 then (2, p0, wd w 1, ByteArray.empty, rCh (w.drop 2), 0, ())
 else if k = 4 \/ k = 5 then (k, p0, wd w 1, wd w 2, [], rnum (wd w 3), ())
 else if k = 3 \/ k = 6 \/ k = 7 \/ k = 8 then (k, p0, ByteArray.empty, ByteArray.empty, [], rnum (wd w 1), ())
 else (k, p0, ByteArray.empty, ByteArray.empty, [], 0, ())
def rawRE (w : List ByteArray) : EV := rawR w (kdR (wd w 0) 10)
def rparseE (s : ByteArray) : EV × Bool := if rightB (rawRE (spB 32 s)) = true /\ textE (rawRE (spB 32 s)) = s then (rawRE (spB 32 s), true) else (e0, false)
theorem kd_word : ∀ k : Nat, k < 10 -> kdR (wordsL.getD k ByteArray.empty) 10 = (k : Int) := by decide
theorem rcon_back {c : CV} (h : contB c = true) (h3 : c.2.2.2.1.length = 3) : conR c.1 (vtxt c.2.1) (vtxt c.2.2.1) (rsB c.2.2.2.1) = c := by
 obtain ⟨nm, r, l, rs, ⟨⟩⟩ := c
 obtain ⟨_, h1, h2⟩ := contB_parts h
 have h3 : rs.length = 3 := h3
 obtain ⟨a, b, d, rfl⟩ : ∃ a b d, rs = [a, b, d] := by
  match rs, h3 with
  | [a, b, d], _ => exact ⟨a, b, d, rfl⟩
 show (nm, rV (vtxt r), rV (vtxt l), rsR (rsB [a, b, d]) (rsB [a, b, d]).size, ()) = _
 rw [any_rs, rV_vtxt h1, rV_vtxt h2]
theorem rcons_back : ∀ {l : List CV}, (∀ c ∈ l, contB c = true) -> (∀ c ∈ l, c.2.2.2.1.length = 3) -> rCo (l.flatMap conW) = l
 | [], _, _ => rCo_nil
 | c :: l, h, h3 => by
   show rCo (c.1 :: ([vtxt c.2.1, vtxt c.2.2.1, rsB c.2.2.2.1] ++ l.flatMap conW)) = c :: l
   rw [rCo_cons]
   show conR c.1 (vtxt c.2.1) (vtxt c.2.2.1) (rsB c.2.2.2.1) :: rCo (l.flatMap conW) = c :: l
   rw [rcon_back (h c (by simp)) (h3 c (by simp)), rcons_back (fun c hc => h c (by simp [hc])) (fun c hc => h3 c (by simp [hc]))]
theorem rchs_back : ∀ {l : List HV}, (∀ c ∈ l, chB c = true) -> rCh (l.flatMap chW) = l
 | [], _ => rCh_nil
 | c :: l, h => by
   obtain ⟨nm, r, q, ⟨⟩⟩ := c
   obtain ⟨_, h1, h2⟩ := chB_parts (h (nm, r, q, ()) (by simp))
   show rCh (nm :: ([vtxt r, vtxt q] ++ l.flatMap chW)) = (nm, r, q, ()) :: l
   rw [rCh_cons]
   show (nm, rV (vtxt r), rV (vtxt q), ()) :: rCh (l.flatMap chW) = (nm, r, q, ()) :: l
   rw [rV_vtxt h1, rV_vtxt h2, rchs_back (fun c hc => h c (by simp [hc]))]
theorem digV_val (l : List UInt8) (h : l.all isD = true) : ∀ k, k <= l.length -> digV (toB l) k = ((valD (l.take k) : Nat) : Int) /\ digOK (toB l) k = true
 | 0, _ => ⟨rfl, rfl⟩
 | k + 1, hk => by
   obtain ⟨h1, h2⟩ := digV_val l h k (by omega)
   have hc : isD l[k] = true := List.all_eq_true.1 h _ (List.getElem_mem (by omega))
   have hb : byteAt (toB l) (k : Int) = ((l[k].toNat : Nat) : Int) := by
     unfold byteAt
     rw [Int.toNat_natCast]
     show ((l.getD k 0).toNat : Int) = _
     rw [List.getD_eq_getElem?_getD, List.getElem?_eq_getElem (by omega)]; rfl
   have hd := hc
   unfold isD at hd
   simp only [Bool.and_eq_true, decide_eq_true_eq] at hd
   refine ⟨?_, ?_⟩
   · rw [List.take_succ_eq_append_getElem (by omega), valD_snoc]
     show 10 * digV (toB l) k + (byteAt (toB l) (k : Int) - 48) = _
     rw [h1, hb]; omega
   · rw [digOK_succ, h2, isDig, hb]
     simp only [Bool.true_and]
     simp; omega
theorem numT_dec {m : Nat} (hm : (Lib.decDigits m).length <= 17) (sg : Int) : numT (toB (Lib.decDigits m)) sg = sg * (m : Int) := by
 obtain ⟨h1, h2, h3, _⟩ := decDigits_dig m
 have hs : (toB (Lib.decDigits m)).size = (Lib.decDigits m).length := (size_toB (toB (Lib.decDigits m))).symm
 obtain ⟨k1, k2⟩ := digV_val (Lib.decDigits m) h1 _ (Nat.le_refl _)
 rw [List.take_length, h2] at k1
 unfold numT
 rw [if_neg, hs, k1]
 rintro (h | h | h)
 ·apply h3
  exact congrArg (fun b => b.data.toList) h
 ·omega
 ·rw [hs, k2] at h; cases h
theorem rnum_itz {n : Int} (h0 : -1000 <= n) (h1 : n <= 9007199254740992) : rnum (itz n) = n := by
 have hs := itoa_short h0 h1
 unfold rnum
 by_cases hn : n < 0
 ·have e : itz n = toB (45 :: Lib.decDigits n.natAbs) := by
   show toB (Lib.itoa n) = _
   unfold Lib.itoa
   rw [if_pos hn]
  have l1 : (Lib.decDigits n.natAbs).length <= 17 := by
   unfold Lib.itoa at hs
   rw [if_pos hn, List.length_cons] at hs
   omega
  have e2 : (itz n).extract 1 (itz n).size = toB (Lib.decDigits n.natAbs) := by rw [restB, e]; rfl
  have hz : (itz n).size = (45 :: Lib.decDigits n.natAbs).length := by rw [e]; exact (size_toB (toB (45 :: Lib.decDigits n.natAbs))).symm
  rw [if_pos ⟨by rw [hz, List.length_cons]; omega, by rw [e]; rfl⟩, e2, numT_dec l1]
  omega
 ·have e : itz n = toB (Lib.decDigits n.toNat) := by
   show toB (Lib.itoa n) = _
   unfold Lib.itoa
   rw [if_neg hn]
  have l1 : (Lib.decDigits n.toNat).length <= 17 := by
   unfold Lib.itoa at hs
   rw [if_neg hn] at hs
   exact hs
  rw [if_neg, e, numT_dec l1]
  ·omega
  ·rintro ⟨_, h⟩
   obtain ⟨h1, h2, h3, _⟩ := decDigits_dig n.toNat
   rw [e] at h
   cases hl : Lib.decDigits n.toNat with
   | nil => exact absurd hl h3
   | cons c r =>
     rw [hl] at h h1
     rw [List.all_cons, Bool.and_eq_true] at h1
     have hd := h1.1
     unfold isD at hd
     simp only [Bool.and_eq_true, decide_eq_true_eq] at hd
     have h : ((c.toNat : Nat) : Int) = 45 := h
     omega
theorem rawR_back {e : EV} (h : rightB e = true) (h3 : res3 e) : rawRE (partsE e) = e := by
 rcases right_kinds h with ⟨p, hp, rfl⟩ | ⟨s, hs, rfl⟩ | ⟨s, hs, h1, l1, l2, h2, rfl⟩ | ⟨k, s, c, n, hk, h1, h2, hn, rfl⟩ | ⟨k, n, hk, hn, rfl⟩ | rfl
 ·obtain ⟨nm, pr, po, l, ⟨⟩⟩ := p
  obtain ⟨p1, p2, p3, p4, p5⟩ := pod_parts hp
  show rawR _ (kdR (wordsL.getD 0 ByteArray.empty) 10) = _
  rw [kd_word 0 (by decide)]
  show ((0 : Int), (nm, rnum (itz pr), rnum (itz po), rCo (l.flatMap conW), ()), ByteArray.empty, ByteArray.empty, [], (0 : Int), ()) = _
  have p2 : -1000 <= pr /\ pr <= 1000 := p2
  have p3 : 0 <= po /\ po <= 2 := p3
  rw [rnum_itz p2.1 (by omega), rnum_itz (by omega) (by omega), rcons_back p5 h3]
 ·show rawR _ (kdR (wordsL.getD 1 ByteArray.empty) 10) = _
  rw [kd_word 1 (by decide)]
  rfl
 ·show rawR _ (kdR (wordsL.getD 2 ByteArray.empty) 10) = _
  rw [kd_word 2 (by decide)]
  show ((2 : Int), p0, s, ByteArray.empty, rCh (hs.flatMap chW), (0 : Int), ()) = _
  rw [rchs_back h2]
 ·obtain ⟨n1, n2⟩ := numB_iff.1 hn
  rcases hk with rfl | rfl
  ·show rawR _ (kdR (wordsL.getD 4 ByteArray.empty) 10) = _
   rw [kd_word 4 (by decide)]
   show ((4 : Int), p0, s, c, [], rnum (itz n), ()) = _
   rw [rnum_itz n1 n2]
  ·show rawR _ (kdR (wordsL.getD 5 ByteArray.empty) 10) = _
   rw [kd_word 5 (by decide)]
   show ((5 : Int), p0, s, c, [], rnum (itz n), ()) = _
   rw [rnum_itz n1 n2]
 ·obtain ⟨n1, n2⟩ := numB_iff.1 hn
  rcases hk with rfl | rfl | rfl | rfl
  ·show rawR _ (kdR (wordsL.getD 3 ByteArray.empty) 10) = _
   rw [kd_word 3 (by decide)]
   show ((3 : Int), p0, ByteArray.empty, ByteArray.empty, [], rnum (itz n), ()) = _
   rw [rnum_itz n1 n2]
  ·show rawR _ (kdR (wordsL.getD 6 ByteArray.empty) 10) = _
   rw [kd_word 6 (by decide)]
   show ((6 : Int), p0, ByteArray.empty, ByteArray.empty, [], rnum (itz n), ()) = _
   rw [rnum_itz n1 n2]
  ·show rawR _ (kdR (wordsL.getD 7 ByteArray.empty) 10) = _
   rw [kd_word 7 (by decide)]
   show ((7 : Int), p0, ByteArray.empty, ByteArray.empty, [], rnum (itz n), ()) = _
   rw [rnum_itz n1 n2]
  ·show rawR _ (kdR (wordsL.getD 8 ByteArray.empty) 10) = _
   rw [kd_word 8 (by decide)]
   show ((8 : Int), p0, ByteArray.empty, ByteArray.empty, [], rnum (itz n), ()) = _
   rw [rnum_itz n1 n2]
 ·show rawR _ (kdR (wordsL.getD 9 ByteArray.empty) 10) = _
  rw [kd_word 9 (by decide)]
  rfl
theorem rparse_text {e : EV} (h : rightB e = true) (h3 : res3 e) : rparseE (textE e) = (e, true) := by
 have ht : textE e = joinB (partsE e) ⟨#[32]⟩ := if_pos h
 have hs : spB 32 (textE e) = partsE e := by
  rw [ht]
  exact spB_join fun x hx => gd_sp (parts_gd h x hx)
 unfold rparseE
 rw [hs, rawR_back h h3, if_pos ⟨h, rfl⟩]
theorem cons_res : ∀ (w : List ByteArray), ∀ c ∈ consOf w, c.2.2.2.1.length = 3
 | a :: b :: c :: d :: r => fun x hx => by
   have hx : x ∈ conOf a b c d :: consOf r := hx
   rcases List.mem_cons.1 hx with rfl | hx
   · rfl
   · exact cons_res r x hx
 | [] => fun x hx => by cases hx
 | [_] => fun x hx => by cases hx
 | [_, _] => fun x hx => by cases hx
 | [_, _, _] => fun x hx => by cases hx
theorem rco_res (n : Nat) : ∀ (w : List ByteArray), w.length <= n -> ∀ c ∈ rCo w, c.2.2.2.1.length = 3 := by
 induction n with
 | zero =>
   intro w hw c hc
   have : w = [] := List.length_eq_zero_iff.1 (by omega)
   subst this
   rw [rCo_nil] at hc; cases hc
 | succ n ih =>
   intro w hw c hc
   cases w with
   | nil => rw [rCo_nil] at hc; cases hc
   | cons a t =>
     rw [rCo_cons] at hc
     rcases List.mem_cons.1 hc with rfl | hc
     · rfl
     · exact ih _ (by rw [List.length_drop]; rw [List.length_cons] at hw; omega) c hc
theorem nores : ∀ c ∈ ([] : List CV), c.2.2.2.1.length = 3 := fun c hc => by cases hc
theorem raw_res (w : List ByteArray) (k : Int) : res3 (rawK w k) := by
 unfold rawK
 split
 ·exact cons_res _
 ·split
  ·exact nores
  ·split
   ·exact nores
   ·split
    ·exact nores
    ·split <;> exact nores
theorem rawR_res (w : List ByteArray) (k : Int) : res3 (rawR w k) := by
 unfold rawR
 split
 ·exact rco_res _ _ (Nat.le_refl _)
 ·split
  ·exact nores
  ·split
   ·exact nores
   ·split
    ·exact nores
    ·split <;> exact nores
theorem parses (s : ByteArray) : rparseE s = parseE s := by
 by_cases h : rightB (rawE (spB 32 s)) = true /\ textE (rawE (spB 32 s)) = s
 ·have h1 := rparse_text h.1 (raw_res _ _)
  have h2 := parse_text h.1 (raw_res _ _)
  rw [h.2] at h1 h2
  rw [h1, h2]
 ·by_cases g : rightB (rawRE (spB 32 s)) = true /\ textE (rawRE (spB 32 s)) = s
  ·have h1 := rparse_text g.1 (rawR_res _ _)
   have h2 := parse_text g.1 (rawR_res _ _)
   rw [g.2] at h1 h2
   rw [h1, h2]
  ·unfold rparseE parseE
   rw [if_neg h, if_neg g]
theorem rvec_ok (s : ByteArray) (hs : s.size < 2147483648) : PF 42 (.cons (.str fun _ => s) .nil) (shVe.mk fun _ => rV s) := by
 refine tX qf42 Rg8_ok (.any) rfl ?_
 conv => arg 5; cbv
 refine ⟨⟨hs, trivial⟩, fun d => ⟨rfl, ?_⟩, fun d => ⟨rfl, ?_⟩⟩
 ·have d : ((rParse s.data.toList).2 != 0) = true := d
  have d : (rParse s.data.toList).2 ≠ 0 := by simpa using d
  have e : rV s = (-1, 0, 0, ()) := by unfold rV; rw [if_neg d]
  rw [e]; exact iR
 ·have d : ((rParse s.data.toList).2 != 0) = false := d
  have d : (rParse s.data.toList).2 = 0 := by simpa using d
  have e : rV s = ((rParse s.data.toList).1.getD 0 0, (rParse s.data.toList).1.getD 1 0, (rParse s.data.toList).1.getD 2 0, ()) := by unfold rV; rw [if_pos d]
  rw [e]; exact iR
noncomputable def Ri0 : Table := addS 42 (.cons .str .nil) (fun s => (shVe.mk fun _ => rV (s ()), [fun _ => (s ()).size < 2147483648])) (addS 39 (.cons .str (.cons (.int .u8) .nil)) (fun s c => (Sh.mkL 1 .str fun _ => spB (UInt8.ofNat (c ()).toNat) (s ()), [fun _ => (0 <= c () /\ c () < 256) /\ ByteArray.size (s ()) < 4294967281])) Fz0)
theorem Ri0_ok : TableOK Tryz.prog G0 Ri0 := addS_ok qf42.callable (fun s h => rvec_ok (s ()) h.1) (addS_ok qf39.callable (fun s c h => refSplit_ok (s ()) (c ()) h.1.1 h.1.2) Fz0_ok)
end Go.Proofs.YtpbjcabecalpaaaGreatDoor
