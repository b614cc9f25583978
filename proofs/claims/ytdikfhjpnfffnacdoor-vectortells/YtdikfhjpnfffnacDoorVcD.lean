/- AMOUNTS: how much. -/
import Derived.Test.YtdikfhjpnfffnacDoorVcC
set_option maxRecDepth 2000
set_option linter.unusedVariables false
set_option linter.unusedSimpArgs false
set_option linter.unusedVariables false
set_option linter.unusedSimpArgs false
namespace Go.Proofs.YtdikfhjpnfffnacDoor
open Go Go.Abs Go.Proofs
def zP : PV := .agg (.cons (.int .u64 fun _ => 0) (.cons (.int .u64 fun _ => 0) .nil))
def tmsA (m w : Int) (i : Nat) : Env := [(12, .int .i64 fun _ => (i : Int)), (11, .int .i64 fun _ => m), (7, .ff), (6, .ptr 1 0), (3, .ptr 0 0), (2, .int .i64 fun _ => w)]
def tmsS (v i : Nat) : Store := [(0, .var (.agg (.cons (.int .u64 fun _ => wHi (v * 10 ^ i)) (.cons (.int .u64 fun _ => wLo (v * 10 ^ i)) .nil)))), (1, .var zP)]
theorem tms_ok (h l t w : Int) (hk : okW h l) (ht : 0 ≤ t ∧ t < 4611686018427387904) (hw : 0 ≤ w ∧ w < 4611686018427387904) : PF 58 (.cons (wP h l) (.cons (i64 t) (.cons (i64 w) .nil)))
    (.tuple (.cons (.agg (.cons (.int .u64 fun _ => wHi (capW (wN h l * 10 ^ (min t 60).toNat * 2 ^ w.toNat))) (.cons (.int .u64 fun _ => wLo (capW (wN h l * 10 ^ (min t 60).toNat * 2 ^ w.toNat))) .nil))) (.cons (.bool fun _ => decide (wN h l * 10 ^ (min t 60).toNat * 2 ^ w.toNat < W128)) .nil))) := by
  refine (⟨Tryd.func58, rfl, rfl, rfl, ⟨rfl, rfl⟩, ok _⟩ : FN 58 Tryd.f58).tree (mkO_ok Fc6_ok) false 40 rfl ?_
  conv => arg 5; cbv
  have hv := wN_lt hk
  have e1 := wHi_wN hk
  have e2 := wLo_wN hk
  generalize wN h l = v at *
  have hm : (min t 60).toNat = (if 60 < t then 60 else t).toNat := by split <;> omega
  rw [hm]
  have hm2 : 0 ≤ (if 60 < t then 60 else t) ∧ (if 60 < t then 60 else t) ≤ 60 := by split <;> omega
  generalize (if 60 < t then 60 else t) = m at *
  refine run_inv (ι := Nat) (fun i => m.toNat - i) (fun i => (i : Int) ≤ m ∧ v * 10 ^ i < W128) (tmsA m w) (tmsS v) 2 0 (fun i => i) (by rfl) (by rfl) ⟨hm2.1, by rw [Nat.pow_zero, Nat.mul_one]; exact hv⟩ ?_ ⟨impP_refl _, impP_refl _, impP_refl _, impP_refl _, impP_refl _, impP_refl _, trivial⟩ ⟨⟨⟨rfl, ?_⟩, ⟨rfl, ?_⟩, rfl⟩, impP_refl _, trivial⟩
  · intro i hi ih
    obtain ⟨hi1, hi2⟩ := hi
    refine explore_ok (ok _) (mkO_ok Fc6_ok) (u := false) 20 _ rfl ?_
    conv => arg 5; cbv
    simp only [wN_of]
    refine ⟨fun g => ⟨⟨⟨okW_of hi2, by decide⟩, trivial⟩, fun g2 => ?_, fun g2 => ?_⟩, fun g => ⟨⟨⟨okW_of hi2, hw.1, by omega⟩, trivial⟩, rfl, ?_⟩⟩
    · have g : (i : Int) < m := of_decide_eq_true g
      have g2 : ¬ v * 10 ^ i * 10 < W128 := fun hc => by
        rw [show Int.toNat 10 = 10 from rfl] at g2
        rw [decide_eq_true hc] at g2; cases g2
      have hle : v * 10 ^ i * 10 ≤ v * 10 ^ m.toNat := by
        rw [Nat.mul_assoc, ← Nat.pow_succ]
        exact Nat.mul_le_mul_left _ (Nat.pow_le_pow_right (by omega) (by omega))
      have hle2 : v * 10 ^ m.toNat * 1 ≤ v * 10 ^ m.toNat * 2 ^ w.toNat := Nat.mul_le_mul_left _ Nat.one_le_two_pow
      have hno : ¬ v * 10 ^ m.toNat * 2 ^ w.toNat < W128 := by omega
      refine ⟨rfl, ⟨⟨rfl, ?_⟩, ⟨rfl, ?_⟩, rfl⟩, decide_eq_false hno, rfl⟩ <;> (unfold capW; rw [if_neg hno]; rfl)
    · have g : (i : Int) < m := of_decide_eq_true g
      have g2 : v * 10 ^ i * 10 < W128 := Classical.byContradiction fun hc => by
        rw [show Int.toNat 10 = 10 from rfl] at g2
        rw [decide_eq_false hc] at g2; cases g2
      have hw : IntKind.i64.wrap ((i : Int) + 1) = ((i + 1 : Nat) : Int) := by rw [IntWalk.i64_in _ ⟨by omega, by omega⟩]; omega
      have e : tmV (v * 10 ^ i) (Int.toNat 10) = v * 10 ^ (i + 1) := by
        unfold tmV
        rw [show Int.toNat 10 = 10 from rfl, if_pos g2, Nat.pow_succ, Nat.mul_assoc]
      refine ih (i + 1) (fun i => i) ⟨by omega, by rw [Nat.pow_succ, ← Nat.mul_assoc]; exact g2⟩ (by omega) (by rfl) ⟨⟨rfl, hw⟩, impP_refl _, impP_refl _, impP_refl _, impP_refl _, impP_refl _, trivial⟩ ⟨⟨⟨rfl, ?_⟩, ⟨rfl, ?_⟩, rfl⟩, impP_refl _, trivial⟩ <;> (dsimp only; rw [e])
    · have g : ¬ (i : Int) < m := of_decide_eq_false g
      have e : i = m.toNat := by omega
      rw [← e]
      exact ⟨⟨⟨rfl, rfl⟩, ⟨rfl, rfl⟩, rfl⟩, rfl, rfl⟩
  · rw [← e1, Nat.pow_zero, Nat.mul_one]
  · rw [← e2, Nat.pow_zero, Nat.mul_one]
def byyA (m : Int) (v i : Nat) : Env := [(11, .int .i64 fun _ => (i : Int)), (10, .int .i64 fun _ => m), (5, .bool fun _ => decide (v % 10 ^ i ≠ 0)), (4, .ptr 1 0), (2, .ptr 0 0)]
def byyS (v i : Nat) : Store := [(0, .var (.agg (.cons (.int .u64 fun _ => wHi (v / 10 ^ i)) (.cons (.int .u64 fun _ => wLo (v / 10 ^ i)) .nil)))), (1, .var zP)]
theorem byy_ok (h l t : Int) (hk : okW h l) (ht : 0 ≤ t ∧ t < 4611686018427387904) : PF 81 (.cons (wP h l) (.cons (i64 t) .nil)) (.agg (.cons (.int .u64 fun _ => wHi (ceilD (wN h l) (10 ^ t.toNat))) (.cons (.int .u64 fun _ => wLo (ceilD (wN h l) (10 ^ t.toNat))) .nil))) := by
  refine (⟨Tryd.func81, rfl, rfl, rfl, ⟨rfl, rfl⟩, ok _⟩ : FN 81 Tryd.f81).tree (mkO_ok Fc6_ok) false 40 rfl ?_
  conv => arg 5; cbv
  have hv := wN_lt hk
  have e1 := wHi_wN hk
  have e2 := wLo_wN hk
  generalize wN h l = v at *
  have hm : (if t < 0 then 0 else t) = t := if_neg (by omega)
  rw [hm]
  refine run_inv (ι := Nat) (fun i => t.toNat - i) (fun i => (i : Int) ≤ t) (byyA t v) (byyS v) 2 0 (fun i => i) (by rfl) (by rfl) ht.1 ?_ ⟨impP_refl _, impP_refl _, ?_, impP_refl _, impP_refl _, trivial⟩ ⟨⟨⟨rfl, ?_⟩, ⟨rfl, ?_⟩, rfl⟩, impP_refl _, trivial⟩
  · intro i hi ih
    have hq : v / 10 ^ i < W128 := Nat.lt_of_le_of_lt (Nat.div_le_self _ _) hv
    have hmm : v % 10 ^ (i + 1) = v % 10 ^ i + 10 ^ i * (v / 10 ^ i % 10) := by rw [Nat.pow_succ, Nat.mod_mul]
    have hdd : v / 10 ^ (i + 1) = v / 10 ^ i / 10 := by rw [Nat.pow_succ, Nat.div_div_eq_div_mul]
    have hp : 0 < 10 ^ i := Nat.pow_pos (by omega)
    refine explore_ok (ok _) (mkO_ok Fc6_ok) (u := false) 20 _ rfl ?_
    conv => arg 5; cbv
    simp only [wN_of, show Int.toNat 10 = 10 from rfl, byR_ten]
    refine ⟨fun g => ⟨⟨⟨okW_of hq, by decide⟩, trivial⟩, fun g2 => ?_, fun g2 => ?_⟩, fun g => ⟨fun g2 => ⟨⟨⟨okW_of hq, okW_small ⟨by decide, by decide⟩⟩, (by show drawOK _ _ = true; decide +kernel), trivial⟩, rfl, ?_⟩, fun g2 => ⟨rfl, ?_⟩⟩⟩
    · have g : (i : Int) < t := of_decide_eq_true g
      have g2 : ¬ v % 10 ^ i = 0 := of_decide_eq_true g2
      have hw : IntKind.i64.wrap ((i : Int) + 1) = ((i + 1 : Nat) : Int) := by rw [IntWalk.i64_in _ ⟨by omega, by omega⟩]; omega
      refine ih (i + 1) (fun i => i) (by omega) (by omega) (by rfl) ⟨⟨rfl, hw⟩, impP_refl _, ?_, impP_refl _, impP_refl _, trivial⟩ ⟨⟨⟨rfl, ?_⟩, ⟨rfl, ?_⟩, rfl⟩, impP_refl _, trivial⟩
      · show decide (v % 10 ^ (i + 1) ≠ 0) = true
        exact decide_eq_true (by omega)
      · rw [hdd]
      · rw [hdd]
    · have g : (i : Int) < t := of_decide_eq_true g
      have g2 : v % 10 ^ i = 0 := Classical.byContradiction fun hc => of_decide_eq_false g2 hc
      have hw : IntKind.i64.wrap ((i : Int) + 1) = ((i + 1 : Nat) : Int) := by rw [IntWalk.i64_in _ ⟨by omega, by omega⟩]; omega
      refine ih (i + 1) (fun i => i) (by omega) (by omega) (by rfl) ⟨⟨rfl, hw⟩, impP_refl _, ?_, impP_refl _, impP_refl _, trivial⟩ ⟨⟨⟨rfl, ?_⟩, ⟨rfl, ?_⟩, rfl⟩, impP_refl _, trivial⟩
      · show decide (0 < ((v / 10 ^ i % 10 : Nat) : Int)) = decide (v % 10 ^ (i + 1) ≠ 0)
        rw [hmm, g2, Nat.zero_add, decide_eq_decide]
        have := Nat.mul_eq_zero (m := v / 10 ^ i % 10) (n := 10 ^ i)
        omega
      · rw [hdd]
      · rw [hdd]
    all_goals
      have g : ¬ (i : Int) < t := of_decide_eq_false g
      have e : t.toNat = i := by omega
      rw [e]
    · have g2 : ¬ v % 10 ^ i = 0 := of_decide_eq_true g2
      have hc : ceilD v (10 ^ i) = v / 10 ^ i + wN 0 1 := by unfold ceilD; rw [if_neg g2]; rfl
      have hlt : v / 10 ^ i + wN 0 1 < W128 := by
        rw [← hc]; exact Nat.lt_of_le_of_lt (ceilD_le v _ hp) hv
      refine ⟨⟨rfl, ?_⟩, ⟨rfl, ?_⟩, rfl⟩ <;> (rw [hc, capW_eq hlt])
    · have g2 : v % 10 ^ i = 0 := Classical.byContradiction fun hc => of_decide_eq_false g2 hc
      have hc : ceilD v (10 ^ i) = v / 10 ^ i := by unfold ceilD; rw [if_pos g2]; rfl
      rw [hc]
      exact ⟨⟨rfl, rfl⟩, ⟨rfl, rfl⟩, rfl⟩
  · show decide (v % 10 ^ 0 ≠ 0) = false
    rw [Nat.pow_zero, Nat.mod_one]; rfl
  · rw [← e1, Nat.pow_zero, Nat.div_one]
  · rw [← e2, Nat.pow_zero, Nat.div_one]
theorem most_ok : PF 83 .nil (.agg (.cons (.int .u64 fun _ => wHi (mostA)) (.cons (.int .u64 fun _ => wLo (mostA)) .nil))) := by
  refine (⟨Tryd.func83, rfl, rfl, rfl, ⟨rfl, rfl⟩, ok _⟩ : FN 83 Tryd.f83).tree (mkO_ok Fc6_ok) false 40 rfl ?_
  conv => arg 5; cbv
  have e : tmV (wN 0 1152921504606846976) (Int.toNat 1000000000) = mostA := by decide
  refine ⟨⟨⟨okW_small ⟨by decide, by decide⟩, by decide⟩, trivial⟩, rfl, ⟨rfl, ?_⟩, ⟨rfl, ?_⟩, rfl⟩ <;> (dsimp only; rw [e])
noncomputable def Fe1 : Table := addS 58 (.cons shWide (.cons (.int .i64) (.cons (.int .i64) .nil))) (fun h l t w => (.tuple (.cons (.agg (.cons (.int .u64 fun _ => wHi (capW (wN (h ()) (l ()) * 10 ^ (min (t ()) 60).toNat * 2 ^ (w ()).toNat))) (.cons (.int .u64 fun _ => wLo (capW (wN (h ()) (l ()) * 10 ^ (min (t ()) 60).toNat * 2 ^ (w ()).toNat))) .nil))) (.cons (.bool fun _ => decide (wN (h ()) (l ()) * 10 ^ (min (t ()) 60).toNat * 2 ^ (w ()).toNat < W128)) .nil)), [fun _ => okW (h ()) (l ()) ∧ (0 ≤ t () ∧ t () < 4611686018427387904) ∧ 0 ≤ w () ∧ w () < 4611686018427387904]))
  (addS 81 (.cons shWide (.cons (.int .i64) .nil)) (fun h l t => ((.agg (.cons (.int .u64 fun _ => wHi (ceilD (wN (h ()) (l ())) (10 ^ (t ()).toNat))) (.cons (.int .u64 fun _ => wLo (ceilD (wN (h ()) (l ())) (10 ^ (t ()).toNat))) .nil))), [fun _ => okW (h ()) (l ()) ∧ 0 ≤ t () ∧ t () < 4611686018427387904]))
  (addS 83 .nil ((.agg (.cons (.int .u64 fun _ => wHi (mostA)) (.cons (.int .u64 fun _ => wLo (mostA)) .nil))), []) Fc6))
theorem Fe1_ok : TableOK Tryd.prog G0 Fe1 := addS_ok (⟨Tryd.func58, rfl, rfl, rfl, ⟨rfl, rfl⟩, ok _⟩ : FN 58 Tryd.f58).callable (fun h l t w c => tms_ok (h ()) (l ()) (t ()) (w ()) c.1.1 c.1.2.1 c.1.2.2) (addS_ok (⟨Tryd.func81, rfl, rfl, rfl, ⟨rfl, rfl⟩, ok _⟩ : FN 81 Tryd.f81).callable (fun h l t c => byy_ok (h ()) (l ()) (t ()) c.1.1 c.1.2) (addS_ok (⟨Tryd.func83, rfl, rfl, rfl, ⟨rfl, rfl⟩, ok _⟩ : FN 83 Tryd.f83).callable (fun _ => most_ok) Fc6_ok))
theorem fits_ok (h l : Int) (hk : okW h l) : PF 59 (.cons (wP h l) .nil) (.bool fun _ => decide (wN h l ≤ mostA)) := by
  refine (⟨Tryd.func59, rfl, rfl, rfl, ⟨rfl, rfl⟩, ok _⟩ : FN 59 Tryd.f59).tree (mkO_ok Fe1_ok) false 40 rfl ?_
  conv => arg 5; cbv
  refine ⟨⟨⟨hk, okW_of (by decide)⟩, (by show drawOK _ _ = true; decide +kernel), trivial⟩, rfl, ?_⟩
  show decide ((if wN h l < wN (wHi mostA) (wLo mostA) then -1 else if wN (wHi mostA) (wLo mostA) < wN h l then 1 else 0 : Int) ≤ 0) = decide (wN h l ≤ mostA)
  rw [wN_of, decide_eq_decide]
  split
  · omega
  · split <;> omega
noncomputable def Fe2 : Table := addS 59 (.cons shWide .nil) (fun h l => (.bool fun _ => decide (wN (h ()) (l ()) ≤ mostA), [fun _ => okW (h ()) (l ())])) Fe1
theorem Fe2_ok : TableOK Tryd.prog G0 Fe2 := addS_ok (⟨Tryd.func59, rfl, rfl, rfl, ⟨rfl, rfl⟩, ok _⟩ : FN 59 Tryd.f59).callable (fun h l c => fits_ok (h ()) (l ()) c.1) Fe1_ok
end Go.Proofs.YtdikfhjpnfffnacDoor
