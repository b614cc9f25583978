/- AMOUNTS: down, parts. -/
import Derived.Test.YtdikfhjpnfffnacDoorVcD
set_option maxRecDepth 2000
set_option linter.unusedVariables false
set_option linter.unusedSimpArgs false
set_option linter.unusedVariables false
set_option linter.unusedSimpArgs false
namespace Go.Proofs.YtdikfhjpnfffnacDoor
open Go Go.Abs Go.Proofs
def dwP (v t w : Nat) : PV := .tuple (.cons (.agg (.cons (.int .u64 fun _ => wHi (dnV v t w)) (.cons (.int .u64 fun _ => wLo (dnV v t w)) .nil))) (.cons (.bool fun _ => decide (ceilD (v * 2 ^ w) (10 ^ t) < W128)) .nil))
def dwA (t w : Int) (i : Nat) : Env := [(28, .int .i64 fun _ => (i : Int)), (27, .int .i64 fun _ => t), (8, .int .u64 fun _ => ((10 ^ i : Nat) : Int)), (6, .ptr 1 0), (3, .ptr 0 0), (2, .int .i64 fun _ => w)]
def dwS (h l : Int) : Store := [(0, .var (wP h l)), (1, .var zP)]
theorem down_ok (h l t w : Int) (hk : okW h l) (ht : 0 ≤ t ∧ t < 1000) (hw : 0 ≤ w ∧ w ≤ 60) (h19 : w = 0 ∨ t ≤ 19) : PF 57 (.cons (wP h l) (.cons (i64 t) (.cons (i64 w) .nil))) (dwP (wN h l) t.toNat w.toNat) := by
  refine (⟨Tryd.func57, rfl, rfl, rfl, ⟨rfl, rfl⟩, ok _⟩ : FN 57 Tryd.f57).tree (mkO_ok Fe2_ok) false 40 rfl ?_
  conv => arg 5; cbv
  have hv := wN_lt hk
  refine ⟨fun g => ⟨⟨⟨hk, ht.1, by dsimp only; omega⟩, trivial⟩, rfl, ?_⟩, fun g => ?_⟩
  · have g : w = 0 := beqT g
    subst g
    have hle := ceilD_le (wN h l) (10 ^ t.toNat) (Nat.pow_pos (by omega))
    have e : dnV (wN h l) t.toNat 0 = ceilD (wN h l) (10 ^ t.toNat) := if_pos rfl
    refine ⟨⟨⟨rfl, ?_⟩, ⟨rfl, ?_⟩, rfl⟩, ?_, rfl⟩
    · show _ = wHi (dnV (wN h l) t.toNat 0)
      rw [e]
    · show _ = wLo (dnV (wN h l) t.toNat 0)
      rw [e]
    · show decide (ceilD (wN h l * 2 ^ 0) (10 ^ t.toNat) < W128) = true
      rw [Nat.pow_zero, Nat.mul_one]
      exact decide_eq_true (by omega)
  have g : w ≠ 0 := beqF g
  have ht19 : t ≤ 19 := by omega
  have hm : (if 19 < t then 19 else t) = t := if_neg (by omega)
  rw [hm]
  refine run_inv (ι := Nat) (fun i => t.toNat - i) (fun i => (i : Int) ≤ t) (dwA t w) (fun _ => dwS h l) 2 0 (fun i => i) (by rfl) (by rfl) ht.1 ?_ ⟨impP_refl _, impP_refl _, impP_refl _, impP_refl _, impP_refl _, impP_refl _, trivial⟩ ⟨impP_refl _, impP_refl _, trivial⟩
  intro i hi ih
  have hpi : 10 ^ i ≤ 10000000000000000000 := Nat.pow_le_pow_right (n := 10) (j := 19) (by omega) (by omega)
  have hp0 : 0 < 10 ^ i := Nat.pow_pos (by omega)
  have hr : wN h l % 10 ^ i < 10 ^ i := Nat.mod_lt _ hp0
  have hpw : 2 ^ w.toNat ≤ 1152921504606846976 := Nat.pow_le_pow_right (n := 2) (j := 60) (by omega) (by omega)
  have hrw : wN h l % 10 ^ i * 2 ^ w.toNat ≤ 10000000000000000000 * 1152921504606846976 := Nat.mul_le_mul (by omega) hpw
  have hrw2 : wN h l % 10 ^ i * 2 ^ w.toNat < W128 := Nat.lt_of_le_of_lt hrw (by decide)
  have hw2 : 0 ≤ w ∧ w < 9223372036854775808 := by omega
  refine explore_ok (ok _) (mkO_ok Fe2_ok) (u := false) 20 _ rfl ?_
  conv => arg 5; cbv
  have c1 := capW_eq hrw2
  have b1 := byR_nat (wN h l) hp0
  have b2 := byR_nat (wN h l % 10 ^ i * 2 ^ w.toNat) hp0
  have tn : ∀ n : Nat, ((n : Nat) : Int).toNat = n := fun n => Int.toNat_natCast n
  simp only [wN_of, tn, b1, wN_small, c1, b2]
  have hq : wN h l / 10 ^ i < W128 := Nat.lt_of_le_of_lt (Nat.div_le_self _ _) hv
  have hy : wN h l % 10 ^ i * 2 ^ w.toNat / 10 ^ i < W128 := Nat.lt_of_le_of_lt (Nat.div_le_self _ _) hrw2
  have hyy : ceilD (wN h l % 10 ^ i * 2 ^ w.toNat) (10 ^ i) < W128 := Nat.lt_of_le_of_lt (ceilD_le _ _ hp0) hrw2
  have hpr : 0 ≤ ((10 ^ i : Nat) : Int) ∧ ((10 ^ i : Nat) : Int) < 18446744073709551616 := by omega
  have hend : ∀ (Y : Nat) (z : Bool), (i : Int) = t → Y = ceilD (wN h l % 10 ^ i * 2 ^ w.toNat) (10 ^ i) → z = decide (wN h l / 10 ^ i * 2 ^ w.toNat < W128 ∧ capW (wN h l / 10 ^ i * 2 ^ w.toNat) + Y < W128) →
      impP (.tuple (.cons (.agg (.cons (.int .u64 fun _ => wHi (capW (capW (wN h l / 10 ^ i * 2 ^ w.toNat) + Y))) (.cons (.int .u64 fun _ => wLo (capW (capW (wN h l / 10 ^ i * 2 ^ w.toNat) + Y))) .nil))) (.cons (.bool fun _ => z) .nil))) (dwP (wN h l) t.toNat w.toNat) := fun Y z hi2 hY hz => by
    have e : t.toNat = i := by omega
    have hs := ceil_split (q := wN h l / 10 ^ i) (r := wN h l % 10 ^ i) (p := 10 ^ i) (t := 2 ^ w.toNat) hp0
    rw [show wN h l / 10 ^ i * 10 ^ i + wN h l % 10 ^ i = wN h l by rw [Nat.mul_comm]; exact Nat.div_add_mod _ _] at hs
    have hd : dnV (wN h l) i w.toNat = capW (capW (wN h l / 10 ^ i * 2 ^ w.toNat) + Y) := by
      unfold dnV
      rw [if_neg (by omega)]
      by_cases hc : wN h l / 10 ^ i * 2 ^ w.toNat < W128
      · rw [if_pos hc, capW_eq hc, hY]
      · rw [if_neg hc, show capW (wN h l / 10 ^ i * 2 ^ w.toNat) = 0 from if_neg hc, Nat.zero_add, hY, capW_eq hyy]
    unfold dwP
    rw [e, hd]
    refine ⟨⟨⟨rfl, rfl⟩, ⟨rfl, rfl⟩, rfl⟩, ?_, rfl⟩
    show z = decide (ceilD (wN h l * 2 ^ w.toNat) (10 ^ i) < W128)
    rw [hz, ← hs, decide_eq_decide, ← hY]
    by_cases hc : wN h l / 10 ^ i * 2 ^ w.toNat < W128
    · rw [capW_eq hc]; exact ⟨fun h => h.2, fun h => ⟨hc, h⟩⟩
    · exact ⟨fun h => absurd h.1 hc, fun h => by omega⟩
  refine ⟨fun g2 => ?_, fun g2 => ⟨⟨⟨hk, hpr⟩, ⟨okW_of hq, hw2⟩, ⟨okW_small (by omega), hw2⟩, ⟨okW_of hrw2, hpr⟩, trivial⟩, fun g3 => ⟨⟨⟨okW_of hy, okW_small ⟨by decide, by decide⟩⟩, (by show drawOK _ _ = true; decide +kernel), ⟨okW_of (capW_lt _), okW_of (capW_lt _)⟩, trivial⟩, fun g4 => ⟨rfl, ?_⟩, fun g4 => ⟨rfl, ?_⟩⟩, fun g3 => ⟨⟨⟨okW_of (capW_lt _), okW_of hy⟩, trivial⟩, fun g4 => ⟨rfl, ?_⟩, fun g4 => ⟨rfl, ?_⟩⟩⟩⟩
  · have g2 : (i : Int) < t := of_decide_eq_true g2
    have hwi : IntKind.i64.wrap ((i : Int) + 1) = ((i + 1 : Nat) : Int) := by rw [IntWalk.i64_in _ ⟨by omega, by omega⟩]; omega
    have hp1 : 10 ^ (i + 1) ≤ 10000000000000000000 := Nat.pow_le_pow_right (n := 10) (j := 19) (by omega) (by omega)
    refine ih (i + 1) (fun i => i) (by omega) (by omega) (by rfl) ⟨⟨rfl, hwi⟩, impP_refl _, ⟨rfl, ?_⟩, impP_refl _, impP_refl _, impP_refl _, trivial⟩ ⟨impP_refl _, impP_refl _, trivial⟩
    show IntKind.u64.wrap (((10 ^ i : Nat) : Int) * 10) = ((10 ^ (i + 1) : Nat) : Int)
    rw [Nat.pow_succ] at hp1 ⊢
    exact wrap_mul (a := 10 ^ i) (b := 10) (by omega)
  all_goals
    have g2 : ¬ (i : Int) < t := of_decide_eq_false g2
    have hti : (i : Int) = t := by omega
  · have g3 : wN h l % 10 ^ i * 2 ^ w.toNat % 10 ^ i ≠ 0 := by have := of_decide_eq_true g3; omega
    have hY : ceilD (wN h l % 10 ^ i * 2 ^ w.toNat) (10 ^ i) = wN h l % 10 ^ i * 2 ^ w.toNat / 10 ^ i + Int.toNat 1 := by unfold ceilD; rw [if_neg g3]; rfl
    have g4 := of_decide_eq_true g4
    have hc : capW (wN h l % 10 ^ i * 2 ^ w.toNat / 10 ^ i + Int.toNat 1) = ceilD (wN h l % 10 ^ i * 2 ^ w.toNat) (10 ^ i) := by rw [← hY, capW_eq hyy]
    exact hend _ _ hti hc (decide_eq_decide.2 ⟨fun h => ⟨g4, h⟩, fun h => h.2⟩)
  · have g3 : wN h l % 10 ^ i * 2 ^ w.toNat % 10 ^ i ≠ 0 := by have := of_decide_eq_true g3; omega
    have hY : ceilD (wN h l % 10 ^ i * 2 ^ w.toNat) (10 ^ i) = wN h l % 10 ^ i * 2 ^ w.toNat / 10 ^ i + Int.toNat 1 := by unfold ceilD; rw [if_neg g3]; rfl
    have g4 := of_decide_eq_false g4
    have hc : capW (wN h l % 10 ^ i * 2 ^ w.toNat / 10 ^ i + Int.toNat 1) = ceilD (wN h l % 10 ^ i * 2 ^ w.toNat) (10 ^ i) := by rw [← hY, capW_eq hyy]
    obtain ⟨k1, k2, k3⟩ := hend _ false hti hc (decide_eq_false fun h => g4 h.1).symm
    exact ⟨k1, k2.symm, k3⟩
  · have g3 : wN h l % 10 ^ i * 2 ^ w.toNat % 10 ^ i = 0 := by have := of_decide_eq_false g3; omega
    have hY : wN h l % 10 ^ i * 2 ^ w.toNat / 10 ^ i = ceilD (wN h l % 10 ^ i * 2 ^ w.toNat) (10 ^ i) := by unfold ceilD; rw [if_pos g3]; rfl
    have g4 := of_decide_eq_true g4
    exact hend _ _ hti hY (decide_eq_decide.2 ⟨fun h => ⟨g4, h⟩, fun h => h.2⟩)
  · have g3 : wN h l % 10 ^ i * 2 ^ w.toNat % 10 ^ i = 0 := by have := of_decide_eq_false g3; omega
    have hY : wN h l % 10 ^ i * 2 ^ w.toNat / 10 ^ i = ceilD (wN h l % 10 ^ i * 2 ^ w.toNat) (10 ^ i) := by unfold ceilD; rw [if_pos g3]; rfl
    have g4 := of_decide_eq_false g4
    obtain ⟨k1, k2, k3⟩ := hend _ false hti hY (decide_eq_false fun h => g4 h.1).symm
    exact ⟨k1, k2.symm, k3⟩
theorem parts_ok (h l e : Int) (hk : okW h l) (he : 0 < e ∧ e < 18446744073709551616) : PF 84 (.cons (wP h l) (.cons (u64 e) .nil)) (.tuple (.cons (.int .i64 fun _ => ((pgN (wN h l) e.toNat).1 : Nat)) (.cons (.int .i64 fun _ => (pgN (wN h l) e.toNat).2) .nil))) := by
  refine (⟨Tryd.func84, rfl, rfl, rfl, ⟨rfl, rfl⟩, ok _⟩ : FN 84 Tryd.f84).tree (mkO_ok Fe2_ok) false 40 rfl ?_
  conv => arg 5; cbv
  have hb : byR (wN h l) e = ((wN h l % e.toNat : Nat) : Int) := byR_pos _ (by omega)
  generalize hv : wN h l = v at *
  have hq1 : wHi (v / e.toNat) = 0 ↔ v / e.toNat < 18446744073709551616 := by
    unfold wHi
    generalize v / e.toNat = q
    omega
  have hq2 : v / e.toNat < 18446744073709551616 → wLo (v / e.toNat) = ((v / e.toNat : Nat) : Int) := fun h => wLo_small h
  have hbad : (mostA < v ∨ 18446744073709551616 ≤ v / e.toNat ∨ 1152921504606846976 < ((if v / e.toNat < 18446744073709551616 then v / e.toNat else 0) + (if v % e.toNat = 0 then 0 else 1)) % 18446744073709551616) → pgN v e.toNat = (0, 15) := fun h => if_pos h
  have hgood : ¬ (mostA < v ∨ 18446744073709551616 ≤ v / e.toNat ∨ 1152921504606846976 < ((if v / e.toNat < 18446744073709551616 then v / e.toNat else 0) + (if v % e.toNat = 0 then 0 else 1)) % 18446744073709551616) → pgN v e.toNat = (((if v / e.toNat < 18446744073709551616 then v / e.toNat else 0) + (if v % e.toNat = 0 then 0 else 1)) % 18446744073709551616, 0) := fun h => if_neg h
  generalize hP : pgN v e.toNat = P at *
  generalize v / e.toNat = q at *
  generalize v % e.toNat = r at *
  rw [hb]
  have hfits : (!decide (v ≤ 1152921504606846976 * 1000000000)) = decide (mostA < v) := by
    rw [Bool.eq_iff_iff]; simp
  have hok : (!decide (wHi q = 0)) = decide (18446744073709551616 ≤ q) := by
    rw [Bool.eq_iff_iff]; simp [hq1]
  have h15 : P = (0, 15) → impP (.tuple (.cons (.int .i64 fun _ => 0) (.cons (.int .i64 fun _ => 15) .nil))) (.tuple (.cons (.int .i64 fun _ => (P.1 : Nat)) (.cons (.int .i64 fun _ => P.2) .nil))) := fun h => by
    rw [h]; exact ⟨⟨rfl, rfl⟩, ⟨rfl, rfl⟩, rfl⟩
  rw [hfits, hok]
  refine ⟨⟨⟨hk, (by (try dsimp only); (try simp only [cast_fold, Int.ofNat_eq_natCast]); omega)⟩, trivial⟩, fun g => ⟨⟨hk, trivial⟩, fun g2 => ⟨rfl, h15 (hbad (.inl (of_decide_eq_true g2)))⟩, fun g2 => ⟨fun g3 => ⟨rfl, h15 (hbad (.inr (.inl (of_decide_eq_true g3))))⟩, fun g3 => ?_⟩⟩, fun g => ⟨⟨hk, trivial⟩, fun g2 => ⟨rfl, h15 (hbad (.inl (of_decide_eq_true g2)))⟩, fun g2 => ⟨fun g3 => ⟨rfl, h15 (hbad (.inr (.inl (of_decide_eq_true g3))))⟩, fun g3 => ?_⟩⟩⟩
  all_goals
    (replace g2 := of_decide_eq_false g2); (try dsimp only at g2); (try simp only [cast_fold, Int.ofNat_eq_natCast] at g2)
    (replace g3 := of_decide_eq_false g3); (try dsimp only at g3); (try simp only [cast_fold, Int.ofNat_eq_natCast] at g3)
    have hqs : q < 18446744073709551616 := by omega
    have h0 := hq1.2 hqs
    have hi : (if wHi q = 0 then wLo q else 0) = (q : Int) := by rw [if_pos h0, hq2 hqs]
    rw [if_pos hqs] at hbad hgood
    simp only [hi]
  · (replace g := of_decide_eq_true g); (try dsimp only at g); (try simp only [cast_fold, Int.ofNat_eq_natCast] at g)
    have hr : ¬ r = 0 := by omega
    rw [if_neg hr] at hbad hgood
    have hw : IntKind.u64.wrap ((q : Int) + 1) = (((q + 1) % 18446744073709551616 : Nat) : Int) := u64_mod (q + 1)
    simp only [hw]
    refine ⟨fun g4 => ⟨rfl, h15 (hbad (.inr (.inr ?_)))⟩, fun g4 => ⟨rfl, ?_⟩⟩
    · (replace g4 := of_decide_eq_true g4); (try dsimp only at g4); (try simp only [cast_fold, Int.ofNat_eq_natCast] at g4)
      omega
    · (replace g4 := of_decide_eq_false g4); (try dsimp only at g4); (try simp only [cast_fold, Int.ofNat_eq_natCast] at g4)
      rw [hgood (by omega)]
      exact ⟨⟨rfl, IntWalk.i64_in _ (by (try dsimp only); (try simp only [cast_fold, Int.ofNat_eq_natCast]); omega)⟩, ⟨rfl, rfl⟩, rfl⟩
  · (replace g := of_decide_eq_false g); (try dsimp only at g); (try simp only [cast_fold, Int.ofNat_eq_natCast] at g)
    have hr : r = 0 := by omega
    rw [if_pos hr, Nat.add_zero] at hbad hgood
    refine ⟨fun g4 => ⟨rfl, h15 (hbad (.inr (.inr ?_)))⟩, fun g4 => ⟨rfl, ?_⟩⟩
    · (replace g4 := of_decide_eq_true g4); (try dsimp only at g4); (try simp only [cast_fold, Int.ofNat_eq_natCast] at g4)
      omega
    · (replace g4 := of_decide_eq_false g4); (try dsimp only at g4); (try simp only [cast_fold, Int.ofNat_eq_natCast] at g4)
      rw [hgood (by omega)]
      refine ⟨⟨rfl, ?_⟩, ⟨rfl, rfl⟩, rfl⟩
      show IntKind.i64.wrap (q : Int) = ((q % 18446744073709551616 : Nat) : Int)
      rw [Nat.mod_eq_of_lt hqs]
      exact IntWalk.i64_in _ (by (try dsimp only); (try simp only [cast_fold, Int.ofNat_eq_natCast]); omega)
noncomputable def Fg1 : Table := addS 57 (.cons shWide (.cons (.int .i64) (.cons (.int .i64) .nil))) (fun h l t w => (.tuple (.cons (.agg (.cons (.int .u64 fun _ => wHi (dnV (wN (h ()) (l ())) (t ()).toNat (w ()).toNat)) (.cons (.int .u64 fun _ => wLo (dnV (wN (h ()) (l ())) (t ()).toNat (w ()).toNat)) .nil))) (.cons (.bool fun _ => decide (ceilD (wN (h ()) (l ()) * 2 ^ (w ()).toNat) (10 ^ (t ()).toNat) < W128)) .nil)), [fun _ => okW (h ()) (l ()) ∧ (0 ≤ t () ∧ t () < 1000) ∧ (0 ≤ w () ∧ w () ≤ 60) ∧ (w () = 0 ∨ t () ≤ 19)]))
  (addS 84 (.cons shWide (.cons (.int .u64) .nil)) (fun h l e => (.tuple (.cons (.int .i64 fun _ => ((pgN (wN (h ()) (l ())) (e ()).toNat).1 : Nat)) (.cons (.int .i64 fun _ => (pgN (wN (h ()) (l ())) (e ()).toNat).2) .nil)), [fun _ => okW (h ()) (l ()) ∧ 0 < e () ∧ e () < 18446744073709551616])) Fe2)
theorem Fg1_ok : TableOK Tryd.prog G0 Fg1 := addS_ok (⟨Tryd.func57, rfl, rfl, rfl, ⟨rfl, rfl⟩, ok _⟩ : FN 57 Tryd.f57).callable (fun h l t w c => down_ok (h ()) (l ()) (t ()) (w ()) c.1.1 c.1.2.1 c.1.2.2.1 c.1.2.2.2) (addS_ok (⟨Tryd.func84, rfl, rfl, rfl, ⟨rfl, rfl⟩, ok _⟩ : FN 84 Tryd.f84).callable (fun h l e c => parts_ok (h ()) (l ()) (e ()) c.1.1 c.1.2) Fe2_ok)
theorem units_ok (h l : Int) (hk : okW h l) : PF 61 (.cons (wP h l) .nil) (.tuple (.cons (.int .i64 fun _ => ((pgN (wN h l) 1000000000).1 : Nat)) (.cons (.int .i64 fun _ => (pgN (wN h l) 1000000000).2) .nil))) := by
  refine (⟨Tryd.func61, rfl, rfl, rfl, ⟨rfl, rfl⟩, ok _⟩ : FN 61 Tryd.f61).tree (mkO_ok Fg1_ok) false 40 rfl ?_
  conv => arg 5; cbv
  exact ⟨⟨⟨hk, by decide⟩, trivial⟩, rfl, ⟨rfl, rfl⟩, ⟨rfl, rfl⟩, rfl⟩
theorem milli_ok (h l : Int) (hk : okW h l) : PF 62 (.cons (wP h l) .nil) (.tuple (.cons (.int .i64 fun _ => ((pgN (wN h l) 1000000).1 : Nat)) (.cons (.int .i64 fun _ => (pgN (wN h l) 1000000).2) .nil))) := by
  refine (⟨Tryd.func62, rfl, rfl, rfl, ⟨rfl, rfl⟩, ok _⟩ : FN 62 Tryd.f62).tree (mkO_ok Fg1_ok) false 40 rfl ?_
  conv => arg 5; cbv
  exact ⟨⟨⟨hk, by decide⟩, trivial⟩, rfl, ⟨rfl, rfl⟩, ⟨rfl, rfl⟩, rfl⟩
theorem ofp_ok (n e : Int) (hn : 0 ≤ n ∧ n ≤ 1152921504606846976) (he : 0 ≤ e ∧ e ≤ 1000000000) : PF 63 (.cons (i64 n) (.cons (u64 e) .nil)) (.tuple (.cons (.agg (.cons (.int .u64 fun _ => wHi (n.toNat * e.toNat)) (.cons (.int .u64 fun _ => wLo (n.toNat * e.toNat)) .nil))) (.cons (.int .i64 fun _ => 0) .nil))) := by
  refine (⟨Tryd.func63, rfl, rfl, rfl, ⟨rfl, rfl⟩, ok _⟩ : FN 63 Tryd.f63).tree (mkO_ok Fg1_ok) false 40 rfl ?_
  conv => arg 5; cbv
  have hw : IntKind.u64.wrap n = n := IntWalk.u64_in _ ⟨by omega, by omega⟩
  have hm : n.toNat * e.toNat ≤ 1152921504606846976 * 1000000000 := Nat.mul_le_mul (by omega) (by omega)
  have ht : tmV (wN 0 n) e.toNat = n.toNat * e.toNat := by
    rw [wN_small]; exact if_pos (Nat.lt_of_le_of_lt hm (by decide))
  rw [hw]
  refine ⟨fun g => ?_, fun g => ⟨fun g2 => ?_, fun g2 => ⟨⟨⟨okW_small (by (try dsimp only); (try simp only [cast_fold, Int.ofNat_eq_natCast]); omega), (by (try dsimp only); (try simp only [cast_fold, Int.ofNat_eq_natCast]); omega)⟩, trivial⟩, rfl, ⟨⟨rfl, ?_⟩, ⟨rfl, ?_⟩, rfl⟩, ⟨rfl, rfl⟩, rfl⟩⟩⟩
  · (replace g := of_decide_eq_true g); (try dsimp only at g); (try simp only [cast_fold, Int.ofNat_eq_natCast] at g)
    omega
  · (replace g2 := of_decide_eq_true g2); (try dsimp only at g2); (try simp only [cast_fold, Int.ofNat_eq_natCast] at g2)
    omega
  · dsimp only; rw [ht]
  · dsimp only; rw [ht]
noncomputable def Fg2 : Table := addS 61 (.cons shWide .nil) (fun h l => (.tuple (.cons (.int .i64 fun _ => ((pgN (wN (h ()) (l ())) 1000000000).1 : Nat)) (.cons (.int .i64 fun _ => (pgN (wN (h ()) (l ())) 1000000000).2) .nil)), [fun _ => okW (h ()) (l ())]))
  (addS 62 (.cons shWide .nil) (fun h l => (.tuple (.cons (.int .i64 fun _ => ((pgN (wN (h ()) (l ())) 1000000).1 : Nat)) (.cons (.int .i64 fun _ => (pgN (wN (h ()) (l ())) 1000000).2) .nil)), [fun _ => okW (h ()) (l ())]))
  (addS 63 (.cons (.int .i64) (.cons (.int .u64) .nil)) (fun n e => (.tuple (.cons (.agg (.cons (.int .u64 fun _ => wHi ((n ()).toNat * (e ()).toNat)) (.cons (.int .u64 fun _ => wLo ((n ()).toNat * (e ()).toNat)) .nil))) (.cons (.int .i64 fun _ => 0) .nil)), [fun _ => (0 ≤ n () ∧ n () ≤ 1152921504606846976) ∧ 0 ≤ e () ∧ e () ≤ 1000000000])) Fg1))
theorem Fg2_ok : TableOK Tryd.prog G0 Fg2 := addS_ok (⟨Tryd.func61, rfl, rfl, rfl, ⟨rfl, rfl⟩, ok _⟩ : FN 61 Tryd.f61).callable (fun h l c => units_ok (h ()) (l ()) c.1) (addS_ok (⟨Tryd.func62, rfl, rfl, rfl, ⟨rfl, rfl⟩, ok _⟩ : FN 62 Tryd.f62).callable (fun h l c => milli_ok (h ()) (l ()) c.1) (addS_ok (⟨Tryd.func63, rfl, rfl, rfl, ⟨rfl, rfl⟩, ok _⟩ : FN 63 Tryd.f63).callable (fun n e c => ofp_ok (n ()) (e ()) c.1.1 c.1.2) Fg1_ok))
theorem ofUnits_ok (n : Int) (hn : 0 ≤ n ∧ n ≤ 1152921504606846976) : PF 42 (.cons (i64 n) .nil) (.tuple (.cons (.agg (.cons (.int .u64 fun _ => wHi (n.toNat * 1000000000)) (.cons (.int .u64 fun _ => wLo (n.toNat * 1000000000)) .nil))) (.cons (.int .i64 fun _ => 0) .nil))) := by
  refine (⟨Tryd.func42, rfl, rfl, rfl, ⟨rfl, rfl⟩, ok _⟩ : FN 42 Tryd.f42).tree (mkO_ok Fg2_ok) false 40 rfl ?_
  conv => arg 5; cbv
  exact ⟨⟨⟨hn, by decide⟩, trivial⟩, rfl, ⟨⟨rfl, rfl⟩, ⟨rfl, rfl⟩, rfl⟩, ⟨rfl, rfl⟩, rfl⟩
theorem ofMilli_ok (n : Int) (hn : 0 ≤ n ∧ n ≤ 1152921504606846976) : PF 40 (.cons (i64 n) .nil) (.tuple (.cons (.agg (.cons (.int .u64 fun _ => wHi (n.toNat * 1000000)) (.cons (.int .u64 fun _ => wLo (n.toNat * 1000000)) .nil))) (.cons (.int .i64 fun _ => 0) .nil))) := by
  refine (⟨Tryd.func40, rfl, rfl, rfl, ⟨rfl, rfl⟩, ok _⟩ : FN 40 Tryd.f40).tree (mkO_ok Fg2_ok) false 40 rfl ?_
  conv => arg 5; cbv
  exact ⟨⟨⟨hn, by decide⟩, trivial⟩, rfl, ⟨⟨rfl, rfl⟩, ⟨rfl, rfl⟩, rfl⟩, ⟨rfl, rfl⟩, rfl⟩
noncomputable def Fg3 : Table := addS 42 (.cons (.int .i64) .nil) (fun n => (.tuple (.cons (.agg (.cons (.int .u64 fun _ => wHi ((n ()).toNat * 1000000000)) (.cons (.int .u64 fun _ => wLo ((n ()).toNat * 1000000000)) .nil))) (.cons (.int .i64 fun _ => 0) .nil)), [fun _ => 0 ≤ n () ∧ n () ≤ 1152921504606846976]))
  (addS 40 (.cons (.int .i64) .nil) (fun n => (.tuple (.cons (.agg (.cons (.int .u64 fun _ => wHi ((n ()).toNat * 1000000)) (.cons (.int .u64 fun _ => wLo ((n ()).toNat * 1000000)) .nil))) (.cons (.int .i64 fun _ => 0) .nil)), [fun _ => 0 ≤ n () ∧ n () ≤ 1152921504606846976])) Fg2)
theorem Fg3_ok : TableOK Tryd.prog G0 Fg3 := addS_ok (⟨Tryd.func42, rfl, rfl, rfl, ⟨rfl, rfl⟩, ok _⟩ : FN 42 Tryd.f42).callable (fun n c => ofUnits_ok (n ()) c.1) (addS_ok (⟨Tryd.func40, rfl, rfl, rfl, ⟨rfl, rfl⟩, ok _⟩ : FN 40 Tryd.f40).callable (fun n c => ofMilli_ok (n ()) c.1) Fg2_ok)
end Go.Proofs.YtdikfhjpnfffnacDoor
