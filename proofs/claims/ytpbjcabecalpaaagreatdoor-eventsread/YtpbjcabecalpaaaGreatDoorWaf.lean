/- A part of what the walks of this claim stand on. -/
import Derived.Test.YtpbjcabecalpaaaGreatDoorWae
set_option maxRecDepth 2000
set_option linter.unusedVariables false
set_option linter.unusedSimpArgs false
namespace Go.Proofs.YtpbjcabecalpaaaGreatDoor
open Go Go.Abs Go.Proofs
def dwP (v t w : Nat) : PV := .tuple (.cons (.agg (.cons (.int .u64 fun _ => wHi (dnV v t w)) (.cons (.int .u64 fun _ => wLo (dnV v t w)) .nil))) (.cons (.bool fun _ => decide (ceilD (v * 2 ^ w) (10 ^ t) < W128)) .nil))
def dwA (t w : Int) (i : Nat) : Env := [(28, .int .i64 fun _ => (i : Int)), (27, .int .i64 fun _ => t), (8, .int .u64 fun _ => ((10 ^ i : Nat) : Int)), (6, .ptr 1 0), (3, .ptr 0 0), (2, .int .i64 fun _ => w)]
def dwS (h l : Int) : Store := [(0, .var (wP h l)), (1, .var zP)]
theorem down_ok (h l t w : Int) (hk : okW h l) (ht : 0 <= t /\ t < 1000) (hw : 0 <= w /\ w <= 60) (h19 : w = 0 \/ t <= 19) : PF 172 (.cons (wP h l) (.cons (i64 t) (.cons (i64 w) .nil))) (dwP (wN h l) t.toNat w.toNat) := by
 refine qf172.tree (mkO_ok Fe2_ok) false 40 rfl ?_
 conv => arg 5; cbv
 have hv := wN_lt hk
 refine ⟨fun g => ⟨⟨⟨hk, ht.1, by dsimp only; omega⟩, trivial⟩, rfl, ?_⟩, fun g => ?_⟩
 ·have g : w = 0 := beqT g
  subst g
  have hle := ceilD_le (wN h l) (10 ^ t.toNat) (Nat.pow_pos (by omega))
  have e : dnV (wN h l) t.toNat 0 = ceilD (wN h l) (10 ^ t.toNat) := if_pos rfl
  refine ⟨⟨⟨rfl, ?_⟩, ⟨rfl, ?_⟩, rfl⟩, ?_, rfl⟩
  ·show _ = wHi (dnV (wN h l) t.toNat 0)
   rw [e]
  ·show _ = wLo (dnV (wN h l) t.toNat 0)
   rw [e]
  ·show decide (ceilD (wN h l * 2 ^ 0) (10 ^ t.toNat) < W128) = true
   rw [Nat.pow_zero, Nat.mul_one]
   exact decide_eq_true (by omega)
 have g : w ≠ 0 := beqF g
 have ht19 : t <= 19 := by omega
 have hm : (if 19 < t then 19 else t) = t := if_neg (by omega)
 rw [hm]
 refine run_inv (ι := Nat) (fun i => t.toNat - i) (fun i => (i : Int) <= t) (dwA t w) (fun _ => dwS h l) 2 0 (fun i => i) (by rfl) (by rfl) ht.1 ?_ ⟨iR, iR, iR, iR, iR, iR, trivial⟩ ⟨iR, iR, trivial⟩
 intro i hi ih
 have hpi : 10 ^ i <= 10000000000000000000 := Nat.pow_le_pow_right (n := 10) (j := 19) (by omega) (by omega)
 have hp0 : 0 < 10 ^ i := Nat.pow_pos (by omega)
 have hr : wN h l % 10 ^ i < 10 ^ i := Nat.mod_lt _ hp0
 have hpw : 2 ^ w.toNat <= 1152921504606846976 := Nat.pow_le_pow_right (n := 2) (j := 60) (by omega) (by omega)
 have hrw : wN h l % 10 ^ i * 2 ^ w.toNat <= 10000000000000000000 * 1152921504606846976 := Nat.mul_le_mul (by omega) hpw
 have hrw2 : wN h l % 10 ^ i * 2 ^ w.toNat < W128 := Nat.lt_of_le_of_lt hrw (by decide)
 have hw2 : 0 <= w /\ w < 9223372036854775808 := by omega
 refine explore_ok (ok _) (mkO_ok Fe2_ok) (u := false) 20 _ rfl ?_
 conv => arg 5; cbv
 have c1 := capW_eq hrw2
 have b1 := byR_nat (wN h l) hp0
 have b2 := byR_nat (wN h l % 10 ^ i * 2 ^ w.toNat) hp0
 have tn : ∀ n : Nat, ((n : Nat) : Int).toNat = n := fun n => Int.toNat_natCast n
 simp only [wN_of, tn, b1, wN_small, c1, b2]
 have hq : wN h l / 10 ^ i < W128 := Nat.lt_of_le_of_lt (Nat.div_le_self _ _) hv
 have hy : wN h l % 10 ^ i * 2 ^ w.toNat / 10 ^ i < W128 := Nat.lt_of_le_of_lt (Nat.div_le_self _ _) hrw2
 have hyy : ceilD (wN h l % 10 ^ i * 2 ^ w.toNat) (10 ^ i) < W128 := Nat.lt_of_le_of_lt (ceilD_le _ _ hp0) hrw2
 have hpr : 0 <= ((10 ^ i : Nat) : Int) /\ ((10 ^ i : Nat) : Int) < 18446744073709551616 := by omega
 have hend : ∀ (Y : Nat) (z : Bool), (i : Int) = t -> Y = ceilD (wN h l % 10 ^ i * 2 ^ w.toNat) (10 ^ i) -> z = decide (wN h l / 10 ^ i * 2 ^ w.toNat < W128 /\ capW (wN h l / 10 ^ i * 2 ^ w.toNat) + Y < W128) ->
   impP (.tuple (.cons (.agg (.cons (.int .u64 fun _ => wHi (capW (capW (wN h l / 10 ^ i * 2 ^ w.toNat) + Y))) (.cons (.int .u64 fun _ => wLo (capW (capW (wN h l / 10 ^ i * 2 ^ w.toNat) + Y))) .nil))) (.cons (.bool fun _ => z) .nil))) (dwP (wN h l) t.toNat w.toNat) := fun Y z hi2 hY hz => by
  have e : t.toNat = i := by omega
  have hs := ceil_split (q := wN h l / 10 ^ i) (r := wN h l % 10 ^ i) (p := 10 ^ i) (t := 2 ^ w.toNat) hp0
  rw [show wN h l / 10 ^ i * 10 ^ i + wN h l % 10 ^ i = wN h l by rw [Nat.mul_comm]; exact Nat.div_add_mod _ _] at hs
  have hd : dnV (wN h l) i w.toNat = capW (capW (wN h l / 10 ^ i * 2 ^ w.toNat) + Y) := by
   unfold dnV
   rw [if_neg (by omega)]
   by_cases hc : wN h l / 10 ^ i * 2 ^ w.toNat < W128
   ·rw [if_pos hc, capW_eq hc, hY]
   ·rw [if_neg hc, show capW (wN h l / 10 ^ i * 2 ^ w.toNat) = 0 from if_neg hc, Nat.zero_add, hY, capW_eq hyy]
  unfold dwP
  rw [e, hd]
  refine ⟨⟨⟨rfl, rfl⟩, ⟨rfl, rfl⟩, rfl⟩, ?_, rfl⟩
  show z = decide (ceilD (wN h l * 2 ^ w.toNat) (10 ^ i) < W128)
  rw [hz, <- hs, decide_eq_decide, <- hY]
  by_cases hc : wN h l / 10 ^ i * 2 ^ w.toNat < W128
  ·rw [capW_eq hc]; exact ⟨fun h => h.2, fun h => ⟨hc, h⟩⟩
  ·exact ⟨fun h => absurd h.1 hc, fun h => by omega⟩
 refine ⟨fun g2 => ?_, fun g2 => ⟨⟨⟨hk, hpr⟩, ⟨okW_of hq, hw2⟩, ⟨okW_small (by omega), hw2⟩, ⟨okW_of hrw2, hpr⟩, trivial⟩, fun g3 => ⟨⟨⟨okW_of hy, okW_small ⟨by decide, by decide⟩⟩, (by show drawOK _ _ = true; decide +kernel), ⟨okW_of (capW_lt _), okW_of (capW_lt _)⟩, trivial⟩, fun g4 => ⟨rfl, ?_⟩, fun g4 => ⟨rfl, ?_⟩⟩, fun g3 => ⟨⟨⟨okW_of (capW_lt _), okW_of hy⟩, trivial⟩, fun g4 => ⟨rfl, ?_⟩, fun g4 => ⟨rfl, ?_⟩⟩⟩⟩
 ·have g2 : (i : Int) < t := of_decide_eq_true g2
  have hwi : IntKind.i64.wrap ((i : Int) + 1) = ((i + 1 : Nat) : Int) := by rw [IntWalk.i64_in _ ⟨by omega, by omega⟩]; omega
  have hp1 : 10 ^ (i + 1) <= 10000000000000000000 := Nat.pow_le_pow_right (n := 10) (j := 19) (by omega) (by omega)
  refine ih (i + 1) (fun i => i) (by omega) (by omega) (by rfl) ⟨⟨rfl, hwi⟩, iR, ⟨rfl, ?_⟩, iR, iR, iR, trivial⟩ ⟨iR, iR, trivial⟩
  show IntKind.u64.wrap (((10 ^ i : Nat) : Int) * 10) = ((10 ^ (i + 1) : Nat) : Int)
  rw [Nat.pow_succ] at hp1 ⊢
  exact wrap_mul (a := 10 ^ i) (b := 10) (by omega)
 all_goals
  have g2 : ¬ (i : Int) < t := of_decide_eq_false g2
  have hti : (i : Int) = t := by omega
 ·have g3 : wN h l % 10 ^ i * 2 ^ w.toNat % 10 ^ i ≠ 0 := by have := of_decide_eq_true g3; omega
  have hY : ceilD (wN h l % 10 ^ i * 2 ^ w.toNat) (10 ^ i) = wN h l % 10 ^ i * 2 ^ w.toNat / 10 ^ i + Int.toNat 1 := by unfold ceilD; rw [if_neg g3]; rfl
  have g4 := of_decide_eq_true g4
  have hc : capW (wN h l % 10 ^ i * 2 ^ w.toNat / 10 ^ i + Int.toNat 1) = ceilD (wN h l % 10 ^ i * 2 ^ w.toNat) (10 ^ i) := by rw [<- hY, capW_eq hyy]
  exact hend _ _ hti hc (decide_eq_decide.2 ⟨fun h => ⟨g4, h⟩, fun h => h.2⟩)
 ·have g3 : wN h l % 10 ^ i * 2 ^ w.toNat % 10 ^ i ≠ 0 := by have := of_decide_eq_true g3; omega
  have hY : ceilD (wN h l % 10 ^ i * 2 ^ w.toNat) (10 ^ i) = wN h l % 10 ^ i * 2 ^ w.toNat / 10 ^ i + Int.toNat 1 := by unfold ceilD; rw [if_neg g3]; rfl
  have g4 := of_decide_eq_false g4
  have hc : capW (wN h l % 10 ^ i * 2 ^ w.toNat / 10 ^ i + Int.toNat 1) = ceilD (wN h l % 10 ^ i * 2 ^ w.toNat) (10 ^ i) := by rw [<- hY, capW_eq hyy]
  obtain ⟨k1, k2, k3⟩ := hend _ false hti hc (decide_eq_false fun h => g4 h.1).symm
  exact ⟨k1, k2.symm, k3⟩
 ·have g3 : wN h l % 10 ^ i * 2 ^ w.toNat % 10 ^ i = 0 := by have := of_decide_eq_false g3; omega
  have hY : wN h l % 10 ^ i * 2 ^ w.toNat / 10 ^ i = ceilD (wN h l % 10 ^ i * 2 ^ w.toNat) (10 ^ i) := by unfold ceilD; rw [if_pos g3]; rfl
  have g4 := of_decide_eq_true g4
  exact hend _ _ hti hY (decide_eq_decide.2 ⟨fun h => ⟨g4, h⟩, fun h => h.2⟩)
 ·have g3 : wN h l % 10 ^ i * 2 ^ w.toNat % 10 ^ i = 0 := by have := of_decide_eq_false g3; omega
  have hY : wN h l % 10 ^ i * 2 ^ w.toNat / 10 ^ i = ceilD (wN h l % 10 ^ i * 2 ^ w.toNat) (10 ^ i) := by unfold ceilD; rw [if_pos g3]; rfl
  have g4 := of_decide_eq_false g4
  obtain ⟨k1, k2, k3⟩ := hend _ false hti hY (decide_eq_false fun h => g4 h.1).symm
  exact ⟨k1, k2.symm, k3⟩
theorem parts_ok (h l e : Int) (hk : okW h l) (he : 0 < e /\ e < 18446744073709551616) : PF 187 (.cons (wP h l) (.cons (u64 e) .nil)) (.tuple (.cons (.int .i64 fun _ => ((pgN (wN h l) e.toNat).1 : Nat)) (.cons (.int .i64 fun _ => (pgN (wN h l) e.toNat).2) .nil))) := by
 refine qf187.tree (mkO_ok Fe2_ok) false 40 rfl ?_
 conv => arg 5; cbv
 have hb : byR (wN h l) e = ((wN h l % e.toNat : Nat) : Int) := byR_pos _ (by omega)
 generalize hv : wN h l = v at *
 have hq1 : wHi (v / e.toNat) = 0 ↔ v / e.toNat < 18446744073709551616 := by
  unfold wHi
  generalize v / e.toNat = q
  omega
 have hq2 : v / e.toNat < 18446744073709551616 -> wLo (v / e.toNat) = ((v / e.toNat : Nat) : Int) := fun h => wLo_small h
 have hbad : (mostA < v \/ 18446744073709551616 <= v / e.toNat \/ 1152921504606846976 < ((if v / e.toNat < 18446744073709551616 then v / e.toNat else 0) + (if v % e.toNat = 0 then 0 else 1)) % 18446744073709551616) -> pgN v e.toNat = (0, 15) := fun h => if_pos h
 have hgood : ¬ (mostA < v \/ 18446744073709551616 <= v / e.toNat \/ 1152921504606846976 < ((if v / e.toNat < 18446744073709551616 then v / e.toNat else 0) + (if v % e.toNat = 0 then 0 else 1)) % 18446744073709551616) -> pgN v e.toNat = (((if v / e.toNat < 18446744073709551616 then v / e.toNat else 0) + (if v % e.toNat = 0 then 0 else 1)) % 18446744073709551616, 0) := fun h => if_neg h
 generalize hP : pgN v e.toNat = P at *
 generalize v / e.toNat = q at *
 generalize v % e.toNat = r at *
 rw [hb]
 have hfits : (!decide (v <= 1152921504606846976 * 1000000000)) = decide (mostA < v) := by
  rw [Bool.eq_iff_iff]; simp
 have hok : (!decide (wHi q = 0)) = decide (18446744073709551616 <= q) := by
  rw [Bool.eq_iff_iff]; simp [hq1]
 have h15 : P = (0, 15) -> impP (.tuple (.cons (.int .i64 fun _ => 0) (.cons (.int .i64 fun _ => 15) .nil))) (.tuple (.cons (.int .i64 fun _ => (P.1 : Nat)) (.cons (.int .i64 fun _ => P.2) .nil))) := fun h => by
  rw [h]; exact ⟨⟨rfl, rfl⟩, ⟨rfl, rfl⟩, rfl⟩
 rw [hfits, hok]
 refine ⟨⟨⟨hk, (by (try dsimp only); (try simp only [cast_fold, oN]); omega)⟩, trivial⟩, fun g => ⟨⟨hk, trivial⟩, fun g2 => ⟨rfl, h15 (hbad (.inl (of_decide_eq_true g2)))⟩, fun g2 => ⟨fun g3 => ⟨rfl, h15 (hbad (.inr (.inl (of_decide_eq_true g3))))⟩, fun g3 => ?_⟩⟩, fun g => ⟨⟨hk, trivial⟩, fun g2 => ⟨rfl, h15 (hbad (.inl (of_decide_eq_true g2)))⟩, fun g2 => ⟨fun g3 => ⟨rfl, h15 (hbad (.inr (.inl (of_decide_eq_true g3))))⟩, fun g3 => ?_⟩⟩⟩
 all_goals
  (replace g2 := of_decide_eq_false g2); (try dsimp only at g2); (try simp only [cast_fold, oN] at g2)
  (replace g3 := of_decide_eq_false g3); (try dsimp only at g3); (try simp only [cast_fold, oN] at g3)
  have hqs : q < 18446744073709551616 := by omega
  have h0 := hq1.2 hqs
  have hi : (if wHi q = 0 then wLo q else 0) = (q : Int) := by rw [if_pos h0, hq2 hqs]
  rw [if_pos hqs] at hbad hgood
  simp only [hi]
 ·(replace g := of_decide_eq_true g); (try dsimp only at g); (try simp only [cast_fold, oN] at g)
  have hr : ¬ r = 0 := by omega
  rw [if_neg hr] at hbad hgood
  have hw : IntKind.u64.wrap ((q : Int) + 1) = (((q + 1) % 18446744073709551616 : Nat) : Int) := u64_mod (q + 1)
  simp only [hw]
  refine ⟨fun g4 => ⟨rfl, h15 (hbad (.inr (.inr ?_)))⟩, fun g4 => ⟨rfl, ?_⟩⟩
  ·(replace g4 := of_decide_eq_true g4); (try dsimp only at g4); (try simp only [cast_fold, oN] at g4)
   omega
  ·(replace g4 := of_decide_eq_false g4); (try dsimp only at g4); (try simp only [cast_fold, oN] at g4)
   rw [hgood (by omega)]
   exact ⟨⟨rfl, IntWalk.i64_in _ (by (try dsimp only); (try simp only [cast_fold, oN]); omega)⟩, ⟨rfl, rfl⟩, rfl⟩
 ·(replace g := of_decide_eq_false g); (try dsimp only at g); (try simp only [cast_fold, oN] at g)
  have hr : r = 0 := by omega
  rw [if_pos hr, Nat.add_zero] at hbad hgood
  refine ⟨fun g4 => ⟨rfl, h15 (hbad (.inr (.inr ?_)))⟩, fun g4 => ⟨rfl, ?_⟩⟩
  ·(replace g4 := of_decide_eq_true g4); (try dsimp only at g4); (try simp only [cast_fold, oN] at g4)
   omega
  ·(replace g4 := of_decide_eq_false g4); (try dsimp only at g4); (try simp only [cast_fold, oN] at g4)
   rw [hgood (by omega)]
   refine ⟨⟨rfl, ?_⟩, ⟨rfl, rfl⟩, rfl⟩
   show IntKind.i64.wrap (q : Int) = ((q % 18446744073709551616 : Nat) : Int)
   rw [Nat.mod_eq_of_lt hqs]
   exact IntWalk.i64_in _ (by (try dsimp only); (try simp only [cast_fold, oN]); omega)
noncomputable def Fg1 : Table := addS 172 (.cons shWide (.cons (.int .i64) (.cons (.int .i64) .nil))) (fun h l t w => (.tuple (.cons (.agg (.cons (.int .u64 fun _ => wHi (dnV (wN (h ()) (l ())) (t ()).toNat (w ()).toNat)) (.cons (.int .u64 fun _ => wLo (dnV (wN (h ()) (l ())) (t ()).toNat (w ()).toNat)) .nil))) (.cons (.bool fun _ => decide (ceilD (wN (h ()) (l ()) * 2 ^ (w ()).toNat) (10 ^ (t ()).toNat) < W128)) .nil)), [fun _ => okW (h ()) (l ()) /\ (0 <= t () /\ t () < 1000) /\ (0 <= w () /\ w () <= 60) /\ (w () = 0 \/ t () <= 19)]))
 (addS 187 (.cons shWide (.cons (.int .u64) .nil)) (fun h l e => (.tuple (.cons (.int .i64 fun _ => ((pgN (wN (h ()) (l ())) (e ()).toNat).1 : Nat)) (.cons (.int .i64 fun _ => (pgN (wN (h ()) (l ())) (e ()).toNat).2) .nil)), [fun _ => okW (h ()) (l ()) /\ 0 < e () /\ e () < 18446744073709551616])) Fe2)
theorem Fg1_ok : TableOK Tryz.prog G0 Fg1 := addS_ok qf172.callable (fun h l t w c => down_ok (h ()) (l ()) (t ()) (w ()) c.1.1 c.1.2.1 c.1.2.2.1 c.1.2.2.2) (addS_ok qf187.callable (fun h l e c => parts_ok (h ()) (l ()) (e ()) c.1.1 c.1.2) Fe2_ok)
theorem units_ok (h l : Int) (hk : okW h l) : PF 175 (.cons (wP h l) .nil) (.tuple (.cons (.int .i64 fun _ => ((pgN (wN h l) 1000000000).1 : Nat)) (.cons (.int .i64 fun _ => (pgN (wN h l) 1000000000).2) .nil))) := by
 refine qf175.tree (mkO_ok Fg1_ok) false 40 rfl ?_
 conv => arg 5; cbv
 exact ⟨⟨⟨hk, by decide⟩, trivial⟩, rfl, ⟨rfl, rfl⟩, ⟨rfl, rfl⟩, rfl⟩
theorem milli_ok (h l : Int) (hk : okW h l) : PF 176 (.cons (wP h l) .nil) (.tuple (.cons (.int .i64 fun _ => ((pgN (wN h l) 1000000).1 : Nat)) (.cons (.int .i64 fun _ => (pgN (wN h l) 1000000).2) .nil))) := by
 refine qf176.tree (mkO_ok Fg1_ok) false 40 rfl ?_
 conv => arg 5; cbv
 exact ⟨⟨⟨hk, by decide⟩, trivial⟩, rfl, ⟨rfl, rfl⟩, ⟨rfl, rfl⟩, rfl⟩
theorem ofp_ok (n e : Int) (hn : 0 <= n /\ n <= 1152921504606846976) (he : 0 <= e /\ e <= 1000000000) : PF 134 (.cons (i64 n) (.cons (u64 e) .nil)) (.tuple (.cons (.agg (.cons (.int .u64 fun _ => wHi (n.toNat * e.toNat)) (.cons (.int .u64 fun _ => wLo (n.toNat * e.toNat)) .nil))) (.cons (.int .i64 fun _ => 0) .nil))) := by
 refine qf134.tree (mkO_ok Fg1_ok) false 40 rfl ?_
 conv => arg 5; cbv
 have hw : IntKind.u64.wrap n = n := IntWalk.u64_in _ ⟨by omega, by omega⟩
 have hm : n.toNat * e.toNat <= 1152921504606846976 * 1000000000 := Nat.mul_le_mul (by omega) (by omega)
 have ht : tmV (wN 0 n) e.toNat = n.toNat * e.toNat := by
  rw [wN_small]; exact if_pos (Nat.lt_of_le_of_lt hm (by decide))
 rw [hw]
 refine ⟨fun g => ?_, fun g => ⟨fun g2 => ?_, fun g2 => ⟨⟨⟨okW_small (by (try dsimp only); (try simp only [cast_fold, oN]); omega), (by (try dsimp only); (try simp only [cast_fold, oN]); omega)⟩, trivial⟩, rfl, ⟨⟨rfl, ?_⟩, ⟨rfl, ?_⟩, rfl⟩, ⟨rfl, rfl⟩, rfl⟩⟩⟩
 ·(replace g := of_decide_eq_true g); (try dsimp only at g); (try simp only [cast_fold, oN] at g)
  omega
 ·(replace g2 := of_decide_eq_true g2); (try dsimp only at g2); (try simp only [cast_fold, oN] at g2)
  omega
 ·dsimp only; rw [ht]
 ·dsimp only; rw [ht]
noncomputable def Fg2 : Table := addS 175 (.cons shWide .nil) (fun h l => (.tuple (.cons (.int .i64 fun _ => ((pgN (wN (h ()) (l ())) 1000000000).1 : Nat)) (.cons (.int .i64 fun _ => (pgN (wN (h ()) (l ())) 1000000000).2) .nil)), [fun _ => okW (h ()) (l ())]))
 (addS 176 (.cons shWide .nil) (fun h l => (.tuple (.cons (.int .i64 fun _ => ((pgN (wN (h ()) (l ())) 1000000).1 : Nat)) (.cons (.int .i64 fun _ => (pgN (wN (h ()) (l ())) 1000000).2) .nil)), [fun _ => okW (h ()) (l ())]))
 (addS 134 (.cons (.int .i64) (.cons (.int .u64) .nil)) (fun n e => (.tuple (.cons (.agg (.cons (.int .u64 fun _ => wHi ((n ()).toNat * (e ()).toNat)) (.cons (.int .u64 fun _ => wLo ((n ()).toNat * (e ()).toNat)) .nil))) (.cons (.int .i64 fun _ => 0) .nil)), [fun _ => (0 <= n () /\ n () <= 1152921504606846976) /\ 0 <= e () /\ e () <= 1000000000])) Fg1))
theorem Fg2_ok : TableOK Tryz.prog G0 Fg2 := addS_ok qf175.callable (fun h l c => units_ok (h ()) (l ()) c.1) (addS_ok qf176.callable (fun h l c => milli_ok (h ()) (l ()) c.1) (addS_ok qf134.callable (fun n e c => ofp_ok (n ()) (e ()) c.1.1 c.1.2) Fg1_ok))
theorem ofUnits_ok (n : Int) (hn : 0 <= n /\ n <= 1152921504606846976) : PF 110 (.cons (i64 n) .nil) (.tuple (.cons (.agg (.cons (.int .u64 fun _ => wHi (n.toNat * 1000000000)) (.cons (.int .u64 fun _ => wLo (n.toNat * 1000000000)) .nil))) (.cons (.int .i64 fun _ => 0) .nil))) := by
 refine qf110.tree (mkO_ok Fg2_ok) false 40 rfl ?_
 conv => arg 5; cbv
 exact ⟨⟨⟨hn, by decide⟩, trivial⟩, rfl, ⟨⟨rfl, rfl⟩, ⟨rfl, rfl⟩, rfl⟩, ⟨rfl, rfl⟩, rfl⟩
theorem ofMilli_ok (n : Int) (hn : 0 <= n /\ n <= 1152921504606846976) : PF 108 (.cons (i64 n) .nil) (.tuple (.cons (.agg (.cons (.int .u64 fun _ => wHi (n.toNat * 1000000)) (.cons (.int .u64 fun _ => wLo (n.toNat * 1000000)) .nil))) (.cons (.int .i64 fun _ => 0) .nil))) := by
 refine qf108.tree (mkO_ok Fg2_ok) false 40 rfl ?_
 conv => arg 5; cbv
 exact ⟨⟨⟨hn, by decide⟩, trivial⟩, rfl, ⟨⟨rfl, rfl⟩, ⟨rfl, rfl⟩, rfl⟩, ⟨rfl, rfl⟩, rfl⟩
noncomputable def Fg3 : Table := addS 110 (.cons (.int .i64) .nil) (fun n => (.tuple (.cons (.agg (.cons (.int .u64 fun _ => wHi ((n ()).toNat * 1000000000)) (.cons (.int .u64 fun _ => wLo ((n ()).toNat * 1000000000)) .nil))) (.cons (.int .i64 fun _ => 0) .nil)), [fun _ => 0 <= n () /\ n () <= 1152921504606846976]))
 (addS 108 (.cons (.int .i64) .nil) (fun n => (.tuple (.cons (.agg (.cons (.int .u64 fun _ => wHi ((n ()).toNat * 1000000)) (.cons (.int .u64 fun _ => wLo ((n ()).toNat * 1000000)) .nil))) (.cons (.int .i64 fun _ => 0) .nil)), [fun _ => 0 <= n () /\ n () <= 1152921504606846976])) Fg2)
theorem Fg3_ok : TableOK Tryz.prog G0 Fg3 := addS_ok qf110.callable (fun n c => ofUnits_ok (n ()) c.1) (addS_ok qf108.callable (fun n c => ofMilli_ok (n ()) c.1) Fg2_ok)
def atB2 (v : Nat) : ByteArray := if v <= mostA then toB (atext v) else ⟨#[]⟩
def sAP : PV := .slice none 1 (fun _ => 10) fun j => .str fun _ => toB (sufA (j ()).toNat)
def txA (x : Nat × Nat) : Env := [(4, .int .i64 fun _ => (x.2 : Int)), (3, sAP), (1, .ptr 0 0)]
def txS (x : Nat × Nat) : Store := [(0, .var (.agg (.cons (.int .u64 fun _ => wHi (x.1)) (.cons (.int .u64 fun _ => wLo (x.1)) .nil))))]
structure TxI (v : Nat) (x : Nat × Nat) : Prop where
 i : x.2 <= 9
 le : x.1 <= v
 e : Lib.decDigits (thou (9 - x.2) x.1).1 ++ sufA (x.2 + (thou (9 - x.2) x.1).2) = atext v
theorem toB_cat (a b : List UInt8) : toB a ++ toB b = toB (a ++ b) := by
 apply ByteArray.ext
 simp [toB]
theorem sufA_le (k : Nat) : (sufA k).length <= 2 /\ (sufB k).length <= 2 := by
 have h1 : ∀ x ∈ ([[110], [117], [109], [], [107], [77], [71], [84], [80], [69]] : List (List UInt8)), x.length <= 2 := by decide
 have h2 : ∀ x ∈ ([[], [75, 105], [77, 105], [71, 105], [84, 105], [80, 105], [69, 105]] : List (List UInt8)), x.length <= 2 := by decide
 have g : ∀ (l : List (List UInt8)), (∀ x ∈ l, x.length <= 2) -> (l.getD k []).length <= 2 := fun l hl => by
  rw [List.getD_eq_getElem?_getD]
  cases hk : l[k]? with
  | none => simp
  | some x => exact hl x (List.mem_of_getElem? hk)
 exact ⟨g _ h1, g _ h2⟩
theorem size_ok (n : Nat) (hn : n <= mostA) (s : List UInt8) (hs : s.length <= 2) : (toB (Lib.decDigits n)).size + (toB s).size <= 9223372036854775807 := by
 have h1 := dec_len (n := n) (k := 28) (by unfold mostA at hn; omega) (by omega)
 rw [<- size_toB, <- size_toB]
 show (Lib.decDigits n).length + s.length <= _
 omega
theorem atext_ok (h l : Int) (hk : okW h l) : PF 109 (.cons (wP h l) .nil) (.str fun _ => atB2 (wN h l)) := by
 refine qf109.tree (mkO_ok Fg3_ok) false 40 rfl ?_
 conv => arg 5; cbv
 have hz := wN_zero hk
 have e1 := wHi_wN hk
 have e2 := wLo_wN hk
 generalize wN h l = v at *
 have hfits : (!decide (v <= 1152921504606846976 * 1000000000)) = decide (mostA < v) := by
  rw [Bool.eq_iff_iff]; simp
 rw [hfits]
 refine ⟨⟨hk, trivial⟩, fun g => ⟨rfl, ?_⟩, fun g => ⟨fun g2 => ⟨rfl, ?_⟩, fun g2 => ?_⟩⟩
 ·(replace g := of_decide_eq_true g); (try dsimp only at g); (try simp only [cast_fold, oN] at g)
  show (⟨#[]⟩ : ByteArray) = atB2 v
  unfold atB2; rw [if_neg (by omega)]
 ·(replace g := of_decide_eq_false g); (try dsimp only at g); (try simp only [cast_fold, oN] at g)
  have g2 : h = 0 /\ l = 0 := by simpa using g2
  have : v = 0 := hz.2 g2
  subst this
  rfl
 (replace g := of_decide_eq_false g); (try dsimp only at g); (try simp only [cast_fold, oN] at g)
 have g2 : ¬ (h = 0 /\ l = 0) := by simpa using g2
 have hv0 : v ≠ 0 := fun hc => g2 (hz.1 hc)
 have hB : atB2 v = toB (atext v) := if_pos (by omega)
 rw [hB]
 refine run_inv (ι := Nat × Nat) (fun x => 9 - x.2) (TxI v) txA txS 1 (v, 0) (fun i => i) (by rfl) (by rfl) ⟨Nat.zero_le _, Nat.le_refl _, ?_⟩ ?_ ⟨iR, ?_, iR, trivial⟩ ⟨⟨⟨rfl, e1.symm⟩, ⟨rfl, e2.symm⟩, rfl⟩, trivial⟩
 ·unfold atext
  rw [if_neg hv0, Nat.zero_add]; rfl
 ·intro x hx ih
  obtain ⟨y, i⟩ := x
  have hi : i <= 9 := hx.i
  have hy : y <= v := hx.le
  have he : Lib.decDigits (thou (9 - i) y).1 ++ sufA (i + (thou (9 - i) y).2) = atext v := hx.e
  have hyW : y < W128 := by unfold mostA at g; unfold W128; omega
  have hsz := size_ok y (by omega) (sufA i) (sufA_le i).1
  have hend : (thou (9 - i) y) = (y, 0) -> impP (.str fun _ => toB (Lib.decDigits y) ++ toB (sufA i)) (.str fun _ => toB (atext v)) := fun hc => by
   rw [hc] at he
   show toB (Lib.decDigits y) ++ toB (sufA i) = toB (atext v)
   rw [<- he, toB_cat]; rfl
  have tn : ∀ n : Nat, ((n : Nat) : Int).toNat = n := fun n => Int.toNat_natCast n
  refine explore_ok (ok _) (mkO_ok Fg3_ok) (u := false) 20 _ rfl ?_
  conv => arg 5; cbv
  simp only [wN_of, show Int.toNat 1000 = 1000 from rfl, byR_thou, tn]
  have hw9 : IntKind.i64.wrap (10 - 1) = 9 := by decide
  simp only [hw9]
  have hir : 0 <= (i : Int) /\ (i : Int) < 10 := by omega
  refine ⟨fun k => ⟨⟨⟨okW_of hyW, by decide⟩, trivial⟩, fun k2 => ⟨⟨okW_of hyW, hir, hsz, (by show drawOK _ _ = true; decide +kernel), trivial⟩, rfl, hend ?_⟩, fun k2 => ?_⟩, fun k => ⟨⟨okW_of hyW, hir, hsz, (by show drawOK _ _ = true; decide +kernel), trivial⟩, rfl, hend ?_⟩⟩
  ·(replace k := of_decide_eq_true k); (try dsimp only at k); (try simp only [cast_fold, oN] at k)
   have k2 := bneT k2
   obtain ⟨f, hf⟩ : ∃ f, 9 - i = f + 1 := ⟨8 - i, by omega⟩
   rw [hf, thou, if_neg (by omega)]
  ·(replace k := of_decide_eq_true k); (try dsimp only at k); (try simp only [cast_fold, oN] at k)
   have k2 := bneF k2
   have hw : IntKind.i64.wrap ((i : Int) + 1) = ((i + 1 : Nat) : Int) := by rw [IntWalk.i64_in _ ⟨by omega, by omega⟩]; omega
   refine ih (y / 1000, i + 1) (fun i => i) ⟨by show i + 1 <= 9; omega, by show y / 1000 <= v; omega, ?_⟩ (by show 9 - (i + 1) < 9 - i; omega) (by rfl) ⟨⟨rfl, hw⟩, iR, iR, trivial⟩ ⟨iR, trivial⟩
   show Lib.decDigits (thou (9 - (i + 1)) (y / 1000)).1 ++ sufA (i + 1 + (thou (9 - (i + 1)) (y / 1000)).2) = atext v
   rw [<- he, show 9 - i = 9 - (i + 1) + 1 by omega, thou, if_pos (by omega)]
   show _ = Lib.decDigits (thou (9 - (i + 1)) (y / 1000)).1 ++ sufA (i + ((thou (9 - (i + 1)) (y / 1000)).2 + 1))
   rw [show i + 1 + (thou (9 - (i + 1)) (y / 1000)).2 = i + ((thou (9 - (i + 1)) (y / 1000)).2 + 1) by omega]
  ·(replace k := of_decide_eq_false k); (try dsimp only at k); (try simp only [cast_fold, oN] at k)
   rw [show 9 - i = 0 by omega]; rfl
 ·refine ⟨.inl rfl, rfl, rfl, fun j h0 h1 => ?_⟩
  have h1 : j < 10 := h1
  have : j = 0 \/ j = 1 \/ j = 2 \/ j = 3 \/ j = 4 \/ j = 5 \/ j = 6 \/ j = 7 \/ j = 8 \/ j = 9 := by omega
  rcases this with rfl | rfl | rfl | rfl | rfl | rfl | rfl | rfl | rfl | rfl <;> exact rfl
noncomputable def Fg4 : Table := addS 109 (.cons shWide .nil) (fun h l => (.str fun _ => atB2 (wN (h ()) (l ())), [fun _ => okW (h ()) (l ())])) Fg3
theorem Fg4_ok : TableOK Tryz.prog G0 Fg4 := addS_ok qf109.callable (fun h l c => atext_ok (h ()) (l ()) c.1) Fg3_ok
def btB (v : Nat) : ByteArray := if v <= mostA then toB (btext v) else ⟨#[]⟩
def sBP : PV := .slice none 1 (fun _ => 7) fun j => .str fun _ => toB (sufB (j ()).toNat)
def bxA (x : Nat × Nat) : Env := [(9, .int .i64 fun _ => (x.2 : Int)), (8, sBP), (6, .int .u64 fun _ => (x.1 : Int))]
structure BxI (v : Nat) (x : Nat × Nat) : Prop where
 i : x.2 <= 6
 le : x.1 <= v
 e : Lib.decDigits (kibi (6 - x.2) x.1).1 ++ sufB (x.2 + (kibi (6 - x.2) x.1).2) = Lib.decDigits (kibi 6 v).1 ++ sufB (kibi 6 v).2
theorem and_1023 {n : Nat} (h : n < 18446744073709551616) : bitAnd .u64 (n : Int) 1023 = ((n % 1024 : Nat) : Int) := by
 rw [show (1023 : Int) = ((1023 : Nat) : Int) from rfl, and_nat (by omega) (by omega)]
 exact congrArg _ (Nat.and_two_pow_sub_one_eq_mod n 10)
theorem btext_ok (h l : Int) (hk : okW h l) : PF 111 (.cons (wP h l) .nil) (.str fun _ => btB (wN h l)) := by
 refine qf111.tree (mkO_ok Fg4_ok) false 40 rfl ?_
 conv => arg 5; cbv
 generalize hV : wN h l = v at *
 have hfits : (!decide (v <= 1152921504606846976 * 1000000000)) = decide (mostA < v) := by
  rw [Bool.eq_iff_iff]; simp
 have e9 : Int.toNat 1000000000 = 1000000000 := rfl
 have hA : ¬ v <= mostA -> atB2 v = btB v := fun hc => by unfold atB2 btB; rw [if_neg hc, if_neg hc]
 have hB : v <= mostA -> (v % 1000000000 ≠ 0 \/ v / 1000000000 = 0 \/ v / 1000000000 % 1024 ≠ 0) -> atB2 v = btB v := fun h1 h2 => by
  unfold atB2 btB btext; rw [if_pos h1, if_pos h1, if_pos h2]
 have hq : v <= mostA -> (if wHi (v / 1000000000) = 0 then wLo (v / 1000000000) else 0) = ((v / 1000000000 : Nat) : Int) := fun h1 => by
  have : v / 1000000000 <= 1152921504606846976 := by unfold mostA at h1; omega
  rw [wHi_small (by omega), if_pos rfl, wLo_small (by omega)]
 simp only [hfits, e9, byR_bill]
 refine ⟨⟨⟨hk, by decide⟩, hk, trivial⟩, fun g => ⟨⟨hk, trivial⟩, rfl, ?_⟩, fun g => ?_⟩
 ·(replace g := of_decide_eq_true g); (try dsimp only at g); (try simp only [cast_fold, oN] at g)
  exact hA (by omega)
 (replace g := of_decide_eq_false g); (try dsimp only at g); (try simp only [cast_fold, oN] at g)
 have g : v <= mostA := by omega
 have hq := hq g
 generalize hn : v / 1000000000 = n at *
 have hn1 : n <= 1152921504606846976 := by unfold mostA at g; omega
 simp only [hq, and_1023 (show n < 18446744073709551616 by omega)]
 refine ⟨fun k => ⟨⟨hk, trivial⟩, rfl, ?_⟩, fun k => ⟨fun k2 => ⟨⟨hk, trivial⟩, rfl, ?_⟩, fun k2 => ⟨fun k3 => ⟨⟨hk, trivial⟩, rfl, ?_⟩, fun k3 => ?_⟩⟩⟩
 ·have k := bneT k
  exact hB g (.inl (by omega))
 ·have k2 := beqT k2
  exact hB g (.inr (.inl (by omega)))
 ·have k3 := bneT k3
  exact hB g (.inr (.inr (by omega)))
 have k := bneF k
 have k2 := beqF k2
 have k3 := bneF k3
 have hR : btB v = toB (Lib.decDigits (kibi 6 n).1 ++ sufB (kibi 6 n).2) := by
  unfold btB btext
  rw [if_pos g, hn, if_neg (by omega)]
 rw [hR]
 refine run_inv (ι := Nat × Nat) (fun x => 6 - x.2) (BxI n) bxA (fun _ => []) 0 (n, 0) (fun i => i) (by rfl) (by rfl) ⟨Nat.zero_le _, Nat.le_refl _, by rw [Nat.zero_add]; rfl⟩ ?_ ⟨iR, ?_, iR, trivial⟩ trivial
 ·intro x hx ih
  obtain ⟨y, i⟩ := x
  have hi : i <= 6 := hx.i
  have hy : y <= n := hx.le
  have he : Lib.decDigits (kibi (6 - i) y).1 ++ sufB (i + (kibi (6 - i) y).2) = Lib.decDigits (kibi 6 n).1 ++ sufB (kibi 6 n).2 := hx.e
  have hsz := size_ok y (by unfold mostA; omega) (sufB i) (sufA_le i).2
  have hend : (kibi (6 - i) y) = (y, 0) -> impP (.str fun _ => toB (Lib.decDigits y) ++ toB (sufB i)) (.str fun _ => toB (Lib.decDigits (kibi 6 n).1 ++ sufB (kibi 6 n).2)) := fun hc => by
   rw [hc] at he
   show toB (Lib.decDigits y) ++ toB (sufB i) = toB (Lib.decDigits (kibi 6 n).1 ++ sufB (kibi 6 n).2)
   rw [<- he, toB_cat]; rfl
  have tn : ∀ n : Nat, ((n : Nat) : Int).toNat = n := fun n => Int.toNat_natCast n
  have hw6 : IntKind.i64.wrap (7 - 1) = 6 := by decide
  have hir : 0 <= (i : Int) /\ (i : Int) < 7 := by omega
  have hand := and_1023 (show y < 18446744073709551616 by omega)
  have hshr : shr .u64 (y : Int) 10 = ((y / 1024 : Nat) : Int) := shr_nat y 10 (by omega)
  refine explore_ok (ok _) (mkO_ok Fg4_ok) (u := false) 20 _ rfl ?_
  conv => arg 5; cbv
  simp only [wN_of, tn, hw6, hand, hshr, wN_small]
  have hyW : okW 0 (y : Int) := okW_small (by omega)
  refine ⟨fun k => ⟨fun k2 => ⟨⟨by decide, trivial⟩, ?_⟩, fun k2 => ⟨⟨hyW, hir, hsz, (by show drawOK _ _ = true; decide +kernel), trivial⟩, rfl, hend ?_⟩⟩, fun k => ⟨⟨hyW, hir, hsz, (by show drawOK _ _ = true; decide +kernel), trivial⟩, rfl, hend ?_⟩⟩
  ·(replace k := of_decide_eq_true k); (try dsimp only at k); (try simp only [cast_fold, oN] at k)
   have k2 := beqT k2
   have hw : IntKind.i64.wrap ((i : Int) + 1) = ((i + 1 : Nat) : Int) := by rw [IntWalk.i64_in _ ⟨by omega, by omega⟩]; omega
   refine ih (y / 1024, i + 1) (fun i => i) ⟨by show i + 1 <= 6; omega, by show y / 1024 <= n; omega, ?_⟩ (by show 6 - (i + 1) < 6 - i; omega) (by rfl) ⟨⟨rfl, hw⟩, iR, iR, trivial⟩ trivial
   show Lib.decDigits (kibi (6 - (i + 1)) (y / 1024)).1 ++ sufB (i + 1 + (kibi (6 - (i + 1)) (y / 1024)).2) = _
   rw [<- he, show 6 - i = 6 - (i + 1) + 1 by omega, kibi, if_pos (by omega)]
   show _ = Lib.decDigits (kibi (6 - (i + 1)) (y / 1024)).1 ++ sufB (i + ((kibi (6 - (i + 1)) (y / 1024)).2 + 1))
   rw [show i + 1 + (kibi (6 - (i + 1)) (y / 1024)).2 = i + ((kibi (6 - (i + 1)) (y / 1024)).2 + 1) by omega]
  ·(replace k := of_decide_eq_true k); (try dsimp only at k); (try simp only [cast_fold, oN] at k)
   have k2 := beqF k2
   obtain ⟨f, hf⟩ : ∃ f, 6 - i = f + 1 := ⟨5 - i, by omega⟩
   rw [hf, kibi, if_neg (by omega)]
  ·(replace k := of_decide_eq_false k); (try dsimp only at k); (try simp only [cast_fold, oN] at k)
   rw [show 6 - i = 0 by omega]; rfl
 ·refine ⟨.inl rfl, rfl, rfl, fun j h0 h1 => ?_⟩
  have h1 : j < 7 := h1
  have : j = 0 \/ j = 1 \/ j = 2 \/ j = 3 \/ j = 4 \/ j = 5 \/ j = 6 := by omega
  rcases this with rfl | rfl | rfl | rfl | rfl | rfl | rfl <;> exact rfl
noncomputable def Fg5 : Table := addS 111 (.cons shWide .nil) (fun h l => (.str fun _ => btB (wN (h ()) (l ())), [fun _ => okW (h ()) (l ())])) Fg4
theorem Fg5_ok : TableOK Tryz.prog G0 Fg5 := addS_ok qf111.callable (fun h l c => btext_ok (h ()) (l ()) c.1) Fg4_ok
structure PaI (s : ByteArray) (x : ByteArray × ByteArray × ByteArray) : Prop where
 e : cutP s.data.toList = (x.1.data.toList, x.2.1.data.toList, x.2.2.data.toList)
 d1 : x.1.data.toList.all isD = true
 d2 : x.2.1.data.toList.all isD = true
 sz : x.1.size + x.2.1.size + x.2.2.size <= s.size
def paA (x : ByteArray × ByteArray × ByteArray) : Env := [(6, .str fun _ => x.2.1), (5, .str fun _ => x.2.2), (4, .str fun _ => x.1), (3, .int .i64 fun _ => 0), (2, .ptr 0 0)]
def paS : Store := [(0, .var zP)]
def paP (l : List UInt8) : PV := .tuple (.cons (.agg (.cons (.int .u64 fun _ => wHi ((aparse l).1)) (.cons (.int .u64 fun _ => wLo ((aparse l).1)) .nil))) (.cons (.int .i64 fun _ => (aparse l).2) .nil))
def pbA (W R L : ByteArray) (i : Nat) : Env := [(55, .int .i64 fun _ => (i : Int)), (54, .int .i64 fun _ => (L.size : Int)), (9, .ptr 2 0), (7, .ptr 1 0), (6, .str fun _ => R), (4, .str fun _ => W), (2, .ptr 0 0)]
def pbS (T : ByteArray) (tt : Int) (bb : Nat) (L : ByteArray) (i : Nat) : Store := [(0, .var zP), (1, .var (.agg (.cons (.str fun _ => sclS T.data.toList) (.cons (.int .i64 fun _ => tt) (.cons (.int .i64 fun _ => (bb : Int)) .nil))))), (2, .var (.agg (.cons (.int .u64 fun _ => wHi (valD (L.data.toList.take i))) (.cons (.int .u64 fun _ => wLo (valD (L.data.toList.take i))) .nil))))]
theorem parse_ok (s : ByteArray) (hs : s.size < 2147483648) : PF 144 (.cons (.str fun _ => s) .nil) (paP s.data.toList) := by
 refine qf144.treeS (mkO_ok Fg5_ok) false 40 (.both .any (.both (.to 7) (.to 7))) rfl ?_
 conv => arg 5; cbv
 refine ⟨fun h => ⟨rfl, ?_⟩, fun h => ?_⟩
 ·have h : s = (⟨#[]⟩ : ByteArray) := of_decide_eq_true h
  subst h
  exact ⟨⟨⟨rfl, rfl⟩, ⟨rfl, rfl⟩, rfl⟩, ⟨rfl, rfl⟩, rfl⟩
 have hne : s.data.toList ≠ [] := fun hc => of_decide_eq_false h (by rw [<- toB_data s, hc]; rfl)
 have hlen := dig_len s
 refine tree_all (ι := ByteArray × ByteArray × ByteArray) (PaI s) paA (fun _ => paS) 1 (by rfl) ?_ ?_
 ·refine ⟨⟨hs, trivial⟩, fun g => ?_, fun g => ?_⟩
  ·obtain ⟨r, hr⟩ := (pre_one 46 (rstB s).data.toList).1 g
   obtain ⟨c1, c2, c3⟩ := cut_one hr
   have c1 : (rstB s).extract (Int.toNat 1) ((rstB s).size : Int).toNat = toB r := c1
   have hl2 := dig_len (toB r)
   simp only [c1]
   refine ⟨⟨⟨by decide, (by (try dsimp only); (try simp only [cast_fold, oN]); omega)⟩, (by (try dsimp only); (try simp only [cast_fold, oN]); omega), trivial⟩, rfl, (digB s, digB (toB r), rstB (toB r)), fun i => i, ⟨cutP_dot hr, dig_all2 _, dig_all2 _, ?_⟩, by rfl, ⟨iR, iR, iR, iR, iR, trivial⟩, ⟨iR, trivial⟩⟩
   show (digB s).size + (digB (toB r)).size + (rstB (toB r)).size <= s.size
   omega
  ·refine ⟨rfl, (digB s, ⟨#[]⟩, rstB s), fun i => i, ⟨cutP_no fun r hr => ?_, dig_all2 _, rfl, ?_⟩, by rfl, ⟨iR, iR, iR, iR, iR, trivial⟩, ⟨iR, trivial⟩⟩
   ·have := (pre_one 46 _).2 ⟨r, hr⟩
    rw [show [(46 : UInt8)].isPrefixOf (rstB s).data.toList = false from g] at this; cases this
   ·show (digB s).size + 0 + (rstB s).size <= s.size
    omega
 intro x hx
 obtain ⟨W, R, T⟩ := x
 have he : cutP s.data.toList = (W.data.toList, R.data.toList, T.data.toList) := hx.e
 have hd1 : W.data.toList.all isD = true := hx.d1
 have hd2 : R.data.toList.all isD = true := hx.d2
 have hsz : W.size + R.size + T.size <= s.size := hx.sz
 have hap : aparse s.data.toList = match scl T.data.toList with
   | none => (0, 11)
   | some x => if W.data.toList ++ R.data.toList = [] then (0, 11) else if 28 < (W.data.toList ++ R.data.toList).length then (0, 12) else
    overA (amtN (valD (W.data.toList ++ R.data.toList)) (9 + x.1 - (R.data.toList.length : Int)) x.2) := by
  unfold aparse
  rw [if_neg hne, he]
  cases scl T.data.toList <;> rfl
 generalize hA : aparse s.data.toList = A at *
 have hcat : (W ++ R).data.toList = W.data.toList ++ R.data.toList := by simp
 have hcat2 : (W ++ R) = (⟨#[]⟩ : ByteArray) ↔ W.data.toList ++ R.data.toList = [] := by
  rw [<- hcat]
  constructor
  ·intro h; rw [h]
  ·intro h; rw [<- toB_data (W ++ R), h]; rfl
 have hWs := size_toB W
 have hRs := size_toB R
 unfold paP
 rw [hA]
 have hTs : T.size < 2147483648 := by omega
 have hWR : W.size + R.size <= 9223372036854775807 := by omega
 have hwl : IntKind.i64.wrap ((W.size : Int) + (R.size : Int)) = ((W.size + R.size : Nat) : Int) := by rw [IntWalk.i64_in _ ⟨by omega, by omega⟩]; omega
 have herr : ∀ e : Int, A = (0, e) -> impP (.tuple (.cons zP (.cons (.int .i64 fun _ => e) .nil))) (.tuple (.cons (.agg (.cons (.int .u64 fun _ => wHi A.1) (.cons (.int .u64 fun _ => wLo A.1) .nil))) (.cons (.int .i64 fun _ => A.2) .nil))) := fun e h => by
  rw [h]; exact ⟨⟨⟨rfl, (by show (0 : Int) = wHi 0; decide)⟩, ⟨rfl, (by show (0 : Int) = wLo 0; decide)⟩, rfl⟩, ⟨rfl, rfl⟩, rfl⟩
 refine exploreS_ok (ok _) (mkO_ok Fg5_ok) (u := false) 30 (.any) _ rfl ?_
 conv => arg 5; cbv
 refine ⟨⟨hTs, trivial⟩, fun g => ⟨rfl, herr 11 ?_⟩, fun g => ⟨⟨hWR, trivial⟩, fun g2 => ⟨rfl, herr 11 ?_⟩, fun g2 => ⟨fun g3 => ⟨rfl, herr 12 ?_⟩, fun g3 => ⟨⟨hWR, trivial⟩, ?_⟩⟩⟩⟩
 ·have g : (!(scl T.data.toList).isSome) = true := g
  rw [hap]
  cases hx : scl T.data.toList with
  | none => rfl
  | some x => rw [hx] at g; cases g
 all_goals
  have g : (!(scl T.data.toList).isSome) = false := g
  obtain ⟨⟨tt, bb⟩, hx⟩ : ∃ x, scl T.data.toList = some x := by
   cases hx : scl T.data.toList with
   | none => rw [hx] at g; cases g
   | some x => exact ⟨x, rfl⟩
  rw [hx] at hap
  simp only at hap
 ·have g2 : W ++ R = (⟨#[]⟩ : ByteArray) := of_decide_eq_true g2
  rw [hap, if_pos (hcat2.1 g2)]
 all_goals
  have g2 : ¬ W ++ R = (⟨#[]⟩ : ByteArray) := of_decide_eq_false g2
  rw [if_neg fun hc => g2 (hcat2.2 hc)] at hap
 ·have g3 : 28 < IntKind.i64.wrap ((W.size : Int) + (R.size : Int)) := of_decide_eq_true g3
  rw [hwl] at g3
  rw [hap, if_pos (by rw [List.length_append]; omega)]
 have g3 : ¬ 28 < IntKind.i64.wrap ((W.size : Int) + (R.size : Int)) := of_decide_eq_false g3
 rw [hwl] at g3
 rw [if_neg (by rw [List.length_append]; omega)] at hap
 obtain ⟨x1, x2, x3, x4⟩ := scl_le hx
 have x1 : -99 <= tt := x1
 have x2 : tt <= 99 := x2
 have x3 : bb <= 60 := x3
 have x4 : bb = 0 \/ tt = 0 := x4
 rw [<- hcat] at hap
 have hD : (W ++ R).data.toList.all isD = true := by rw [hcat, List.all_append, hd1, hd2]; rfl
 have hLs : (W ++ R).size = W.size + R.size := ByteArray.size_append
 have hLl := size_toB (W ++ R)
 generalize hL : W ++ R = L at *
 refine run_inv (ι := Nat) (fun i => L.size - i) (fun i => i <= L.size) (pbA W R L) (pbS T tt bb L) 3 0 (fun i => i) (by rfl) (by rfl) (Nat.zero_le _) ?_ ⟨iR, ⟨rfl, rfl⟩, iR, iR, iR, iR, iR, trivial⟩ ⟨iR, ⟨iR, ⟨rfl, by rw [hx]; rfl⟩, ⟨rfl, by rw [hx]; rfl⟩, rfl⟩, ⟨⟨rfl, by show (0 : Int) = wHi 0; decide⟩, ⟨rfl, by show (0 : Int) = wLo 0; decide⟩, rfl⟩, trivial⟩
 intro i hi ih
 have hv := valD_lt (L.data.toList.take i) (List.all_eq_true.2 fun c hc => List.all_eq_true.1 hD c (List.mem_of_mem_take hc))
 have hv28 : valD (L.data.toList.take i) < 10000000000000000000000000000 := Nat.lt_of_lt_of_le hv (Nat.pow_le_pow_right (n := 10) (j := 28) (by omega) (by rw [List.length_take]; omega))
 have htm : tmV (valD (L.data.toList.take i)) 10 = valD (L.data.toList.take i) * 10 := if_pos (by unfold W128; omega)
 refine exploreS_ok (ok _) (mkO_ok Fg5_ok) (u := false) 30 (.both .any (.to 19)) _ rfl ?_
 conv => arg 5; cbv
 simp only [wN_of, show Int.toNat 10 = 10 from rfl, htm, hL]
 have hvW : valD (L.data.toList.take i) < W128 := by unfold W128; omega
 have hvW2 : valD (L.data.toList.take i) * 10 < W128 := by unfold W128; omega
 refine ⟨fun k => ?_, fun k => ?_⟩
 ·have k : (i : Int) < (L.size : Int) := of_decide_eq_true k
  obtain ⟨c, c1, c2, c3, c4⟩ := atB (s := L) (n := i) (by omega)
  have hcd : isD c = true := List.all_eq_true.1 hD c (List.mem_of_getElem? c1)
  have hcr := (isD_byte c).1 hcd
  have hw : IntKind.i64.wrap ((i : Int) + 1) = ((i + 1 : Nat) : Int) := by rw [IntWalk.i64_in _ ⟨by omega, by omega⟩]; omega
  have hdg : IntKind.u64.wrap (IntKind.u8.wrap (byteAt L i - 48)) = ((c.toNat - 48 : Nat) : Int) := by
   rw [c2, IntWalk.u8_in _ ⟨by omega, by omega⟩, IntWalk.u64_in _ ⟨by omega, by omega⟩]; omega
  have hnx : capW (valD (L.data.toList.take i) * 10 + wN 0 ((c.toNat - 48 : Nat) : Int)) = valD (L.data.toList.take (i + 1)) := by
   rw [c4, valD_snoc, wN_small, Int.toNat_natCast]
   exact capW_eq (by unfold W128; omega)
  simp only [hdg, hnx]
  exact ⟨⟨⟨okW_of hvW, by decide⟩, hWR, ⟨(by (try dsimp only); (try simp only [cast_fold, oN]); omega), k⟩, ⟨okW_of hvW2, okW_small (by (try dsimp only); (try simp only [cast_fold, oN]); omega)⟩, (by show drawOK _ _ = true; decide +kernel), trivial⟩, ih (i + 1) (fun i => i) (by omega) (by omega) (by rfl) ⟨⟨rfl, hw⟩, iR, iR, iR, iR, iR, iR, trivial⟩ ⟨iR, iR, iR, trivial⟩⟩
 have k : ¬ (i : Int) < (L.size : Int) := of_decide_eq_false k
 have e1 : L.data.toList.take i = L.data.toList := List.take_of_length_le (by omega)
 simp only [e1] at *
 generalize hN : valD L.data.toList = N at *
 have hR28 : R.size <= 28 := by omega
 have hw1 : IntKind.i64.wrap (9 + tt) = 9 + tt := IntWalk.i64_in _ ⟨by omega, by omega⟩
 have hw2 : IntKind.i64.wrap (9 + tt - (R.size : Int)) = 9 + tt - (R.size : Int) := IntWalk.i64_in _ ⟨by omega, by omega⟩
 rw [hRs] at hap
 generalize hE : 9 + tt - (R.size : Int) = E at *
 have hEr : -118 <= E /\ E <= 108 := by omega
 have hw3 : IntKind.i64.wrap (0 - E) = -E := by rw [IntWalk.i64_in _ ⟨by omega, by omega⟩]; omega
 have tn : ∀ n : Nat, ((n : Nat) : Int).toNat = n := fun n => Int.toNat_natCast n
 refine exploreS_ok (ok _) (mkO_ok Fg5_ok) (u := false) 30 (.any) _ rfl ?_
 conv => arg 5; cbv
 simp only [wN_of, tn, hw1, hw2, hE, hw3]
 have hover : ∀ V : Nat, A = overA V -> mostA < V -> impP (.tuple (.cons zP (.cons (.int .i64 fun _ => 15) .nil))) (.tuple (.cons (.agg (.cons (.int .u64 fun _ => wHi A.1) (.cons (.int .u64 fun _ => wLo A.1) .nil))) (.cons (.int .i64 fun _ => A.2) .nil))) := fun V h1 h2 => herr 15 (by rw [h1]; exact if_pos h2)
 have hgood : ∀ V X : Nat, A = overA V -> ¬ mostA < V -> X = V -> impP (.tuple (.cons (.agg (.cons (.int .u64 fun _ => wHi (X)) (.cons (.int .u64 fun _ => wLo (X)) .nil))) (.cons (.int .i64 fun _ => 0) .nil))) (.tuple (.cons (.agg (.cons (.int .u64 fun _ => wHi A.1) (.cons (.int .u64 fun _ => wLo A.1) .nil))) (.cons (.int .i64 fun _ => A.2) .nil))) := fun V X h1 h2 h3 => by
  rw [h1, show overA V = (V, 0) from if_neg h2, h3]; exact iR
 have hWm : mostA < W128 := by decide
 have hft : ∀ n : Nat, (!decide (n <= 1152921504606846976 * 1000000000)) = decide (mostA < n) := fun n => by
  rw [Bool.eq_iff_iff]; simp
 have hnn : ∀ n : Nat, (!decide (n < 340282366920938463463374607431768211456)) = decide (W128 <= n) := fun n => by
  rw [Bool.eq_iff_iff]; simp
 simp only [hft, hnn]
 refine ⟨fun g => ⟨⟨⟨okW_of hvW, ?_⟩, trivial⟩, fun g2 => ⟨rfl, ?_⟩, fun g2 => ⟨⟨?_, trivial⟩, fun g3 => ⟨rfl, ?_⟩, fun g3 => ⟨rfl, ?_⟩⟩⟩, fun g => ⟨⟨⟨okW_of hvW, ?_⟩, trivial⟩, fun g2 => ⟨rfl, ?_⟩, fun g2 => ⟨⟨okW_of (capW_lt _), trivial⟩, fun g3 => ⟨rfl, ?_⟩, fun g3 => ⟨rfl, ?_⟩⟩⟩⟩
 ·(replace g := of_decide_eq_true g); (try dsimp only at g); (try simp only [cast_fold, oN] at g)
  refine ⟨(by (try dsimp only); (try simp only [cast_fold, oN]); omega), (by (try dsimp only); (try simp only [cast_fold, oN]); omega), (by (try dsimp only); (try simp only [cast_fold, oN]); omega)⟩
 ·(replace g := of_decide_eq_true g); (try dsimp only at g); (try simp only [cast_fold, oN] at g)
  (replace g2 := of_decide_eq_true g2); (try dsimp only at g2); (try simp only [cast_fold, oN] at g2)
  exact hover _ hap (by unfold amtN; rw [if_neg (by omega)]; omega)
 ·(replace g := of_decide_eq_true g); (try dsimp only at g); (try simp only [cast_fold, oN] at g)
  (replace g2 := of_decide_eq_false g2); (try dsimp only at g2); (try simp only [cast_fold, oN] at g2)
  rw [dn_ok (by omega)]
  exact okW_of (by omega)
 ·(replace g := of_decide_eq_true g); (try dsimp only at g); (try simp only [cast_fold, oN] at g)
  (replace g2 := of_decide_eq_false g2); (try dsimp only at g2); (try simp only [cast_fold, oN] at g2)
  (replace g3 := of_decide_eq_true g3); (try dsimp only at g3); (try simp only [cast_fold, oN] at g3)
  rw [dn_ok (by omega)] at g3
  exact hover _ hap (by unfold amtN; rw [if_neg (by omega)]; exact g3)
 ·(replace g := of_decide_eq_true g); (try dsimp only at g); (try simp only [cast_fold, oN] at g)
  (replace g2 := of_decide_eq_false g2); (try dsimp only at g2); (try simp only [cast_fold, oN] at g2)
  (replace g3 := of_decide_eq_false g3); (try dsimp only at g3); (try simp only [cast_fold, oN] at g3)
  have e := dn_ok (v := N) (t := (-E).toNat) (w := bb) (by omega)
  rw [e] at g3
  refine hgood _ _ hap ?_ (e.trans ?_)
  ·unfold amtN; rw [if_neg (by omega)]; exact g3
  ·unfold amtN; rw [if_neg (by omega)]
 ·(replace g := of_decide_eq_false g); (try dsimp only at g); (try simp only [cast_fold, oN] at g)
  refine ⟨(by (try dsimp only); (try simp only [cast_fold, oN]); omega), (by (try dsimp only); (try simp only [cast_fold, oN]); omega)⟩
 all_goals
  (replace g := of_decide_eq_false g); (try dsimp only at g); (try simp only [cast_fold, oN] at g)
  have hval : amtN N E bb = N * 10 ^ E.toNat * 2 ^ bb := by unfold amtN; rw [if_pos (by omega)]
  have hmin : N * 10 ^ (min E 60).toNat * 2 ^ bb <= N * 10 ^ E.toNat * 2 ^ bb := Nat.mul_le_mul_right _ (Nat.mul_le_mul_left _ (Nat.pow_le_pow_right (by omega) (by omega)))
 ·(replace g2 := of_decide_eq_true g2); (try dsimp only at g2); (try simp only [cast_fold, oN] at g2)
  exact hover _ hap (by rw [hval]; omega)
 all_goals
  (replace g2 := of_decide_eq_false g2); (try dsimp only at g2); (try simp only [cast_fold, oN] at g2)
  have hc := capW_eq (n := N * 10 ^ (min E 60).toNat * 2 ^ bb) (by omega)
  have hsame : N * 10 ^ (min E 60).toNat * 2 ^ bb = amtN N E bb := by
   rw [hval]
   by_cases h60 : E <= 60
   ·rw [show min E 60 = E by omega]
   ·by_cases hN0 : N = 0
    ·rw [hN0]; simp
    ·exfalso
     rw [show (min E 60).toNat = 60 by omega] at g2
     have h1 : 1 * 10 ^ 60 <= N * 10 ^ 60 := Nat.mul_le_mul_right _ (by omega)
     have h2 : N * 10 ^ 60 * 1 <= N * 10 ^ 60 * 2 ^ bb := Nat.mul_le_mul_left _ Nat.one_le_two_pow
     have h3 : W128 <= 1 * 10 ^ 60 := by decide
     omega
  rw [hc] at g3
 ·(replace g3 := of_decide_eq_true g3); (try dsimp only at g3); (try simp only [cast_fold, oN] at g3)
  exact hover _ hap (by rw [<- hsame]; exact g3)
 ·(replace g3 := of_decide_eq_false g3); (try dsimp only at g3); (try simp only [cast_fold, oN] at g3)
  exact hgood _ _ hap (by rw [<- hsame]; exact g3) (hc.trans hsame)
noncomputable def Fg6 : Table := addS 144 (.cons .str .nil) (fun s => (.tuple (.cons (.agg (.cons (.int .u64 fun _ => wHi ((aparse (s ()).data.toList).1)) (.cons (.int .u64 fun _ => wLo ((aparse (s ()).data.toList).1)) .nil))) (.cons (.int .i64 fun _ => (aparse (s ()).data.toList).2) .nil)), [fun _ => (s ()).size < 2147483648])) Fg5
theorem Fg6_ok : TableOK Tryz.prog G0 Fg6 := addS_ok qf144.callable (fun s h => parse_ok (s ()) h.1) Fg5_ok
end Go.Proofs.YtpbjcabecalpaaaGreatDoor
