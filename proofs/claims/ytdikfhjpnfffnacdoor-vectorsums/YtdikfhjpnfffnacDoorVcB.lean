/- WIDE NUMBERS: quotients and texts. -/
import Derived.Test.YtdikfhjpnfffnacDoorVcA
import Derived.Test.YtdikfhjpnfffnacDoorGc
set_option maxRecDepth 2000
set_option linter.unusedVariables false
set_option linter.unusedSimpArgs false
set_option linter.unusedVariables false
set_option linter.unusedSimpArgs false
namespace Go.Proofs.YtdikfhjpnfffnacDoor
open Go Go.Abs Go.Proofs
def byA (u : Nat) (i : Int) (v : Nat) : Env := [(10, .int .i64 fun _ => i), (8, .int .u64 fun _ => ((v / 2 ^ (i + 1).toNat % u : Nat) : Int)), (7, .ptr 2 0), (4, .ptr 1 0), (2, .ptr 0 0), (1, .int .u64 fun _ => (u : Int))]
def byS (a b : Int) (u : Nat) (i : Int) (v : Nat) : Store := [(0, .var (wP a b)), (1, .var (wP 0 0)), (2, .var (.agg (.cons (.int .u64 fun _ => wHi (v / 2 ^ (i + 1).toNat / u)) (.cons (.int .u64 fun _ => wLo (v / 2 ^ (i + 1).toNat / u)) .nil))))]
theorem by_ok (a b n : Int) (h : okW a b) (hn : 0 ≤ n ∧ n < 18446744073709551616) : PF 64 (.cons (wP a b) (.cons (u64 n) .nil)) (.tuple (.cons (.agg (.cons (.int .u64 fun _ => wHi (wN a b / n.toNat)) (.cons (.int .u64 fun _ => wLo (wN a b / n.toNat)) .nil))) (.cons (.int .u64 fun _ => byR (wN a b) n) (.cons (.bool fun _ => decide (n ≠ 0)) .nil)))) := by
  refine (⟨Tryd.func64, rfl, rfl, rfl, ⟨rfl, rfl⟩, ok _⟩ : FN 64 Tryd.f64).tree (mkO_ok Fv4_ok) false 40 rfl ?_
  conv => arg 5; cbv
  obtain ⟨u, rfl⟩ : ∃ u : Nat, n = u := ⟨n.toNat, by omega⟩
  simp only [Int.toNat_natCast]
  have hlt := wN_lt h
  have hbl := bl_most hlt
  have hv := bl_le.1 (Nat.le_refl (bl (wN a b)))
  generalize hV : wN a b = v at *
  refine ⟨fun g => ?_, fun g => ⟨⟨h, trivial⟩, ?_⟩⟩
  · have g : u = 0 := by simpa using g
    subst g
    refine ⟨rfl, ⟨⟨rfl, ?_⟩, ⟨rfl, ?_⟩, rfl⟩, ⟨rfl, rfl⟩, rfl, rfl⟩ <;> (rw [Nat.div_zero]; rfl)
  have g : u ≠ 0 := by simpa using g
  have hw : IntKind.i64.wrap ((bl v : Int) - 1) = bl v - 1 := IntWalk.i64_in _ ⟨by omega, by omega⟩
  have h0 : v / 2 ^ ((bl v : Int) - 1 + 1).toNat = 0 := by
    rw [show ((bl v : Int) - 1 + 1).toNat = bl v by omega]
    exact Nat.div_eq_of_lt hv
  refine run_inv (ι := Int) (fun i => (i + 1).toNat) (fun i => -1 ≤ i ∧ i < 128) (fun i => byA u i v) (fun i => byS a b u i v) 3 ((bl v : Int) - 1) (fun i => i) (by rfl) (by rfl) ⟨by omega, by omega⟩ ?_ ?_ ?_
  · intro i hi ih
    refine explore_ok (ok _) (mkO_ok Fv4_ok) (u := false) 20 _ rfl ?_
    conv => arg 5; cbv
    have h63 : (0 : Int) ≤ 63 := by decide
    have h1 : (0 : Int) ≤ 1 := by decide
    refine ⟨fun g2 => ⟨⟨h63, h1, ⟨h, ?_⟩, h1, h63, h1, trivial⟩, ?_⟩, fun g2 => ?_⟩
    · have g2 : 0 ≤ i := of_decide_eq_true g2
      exact ⟨g2, by have := hi.2; show i < 9223372036854775808; omega⟩
    · have g2 : 0 ≤ i := of_decide_eq_true g2
      obtain ⟨k, rfl⟩ : ∃ k : Nat, i = k := ⟨i.toNat, by omega⟩
      have hk : k < 128 := by omega
      have hwi : IntKind.i64.wrap ((k : Int) - 1) = k - 1 := IntWalk.i64_in _ ⟨by omega, by omega⟩
      obtain ⟨p1, p2, p3⟩ := by_step (v := v) (i := k) (u := u) (by omega)
      have e1 : ((k : Int) + 1).toNat = k + 1 := by omega
      have e2 : ((k : Int) - 1 + 1).toNat = k := by omega
      have hR : v / 2 ^ (k + 1) % u < u := Nat.mod_lt _ (by omega)
      have hQ : v / 2 ^ (k + 1) / u < 170141183460469231731687303715884105728 := by
        have h1 : v / 2 ^ (k + 1) / u ≤ v / 2 ^ (k + 1) := Nat.div_le_self _ _
        have h2 : v / 2 ^ (k + 1) ≤ v / 2 ^ 1 := Nat.div_le_div_left (Nat.pow_le_pow_right (by omega) (by omega)) (by omega)
        unfold W128 at hlt; omega
      obtain ⟨q1, q2, q3, q4⟩ := by_quo hQ
      obtain ⟨s1, s2⟩ := by_rest (R := v / 2 ^ (k + 1) % u) (b := v / 2 ^ k % 2) (by omega) (by omega)
      have hb := by_bit (v / 2 ^ k)
      have hw64 : ∀ n : Int, IntKind.u64.wrap n = n % 18446744073709551616 := fun _ => rfl
      simp only [hV, e1, Int.toNat_natCast, hb, s1, s2, q1, q2, cast_fold, Int.ofNat_eq_natCast]
      generalize v / 2 ^ (k + 1) % u = R at *
      generalize v / 2 ^ (k + 1) / u = Q at *
      have hbit : v / 2 ^ k % 2 < 2 := Nat.mod_lt _ (by omega)
      clear s1 s2 hb q1 q2 hlt hbl hv hw h0 hQ p1
      generalize v / 2 ^ k % 2 = b at *
      refine ⟨fun g3 => ?_, fun g3 => ⟨fun g4 => ?_, fun g4 => ?_⟩⟩
      · have g3 := bneT g3
        have hge : u ≤ 2 * R + b := by omega
        rw [if_pos hge] at p2 p3
        refine ih (k - 1) (fun i => i) ⟨by omega, by omega⟩ (by omega) (by rfl) ⟨⟨rfl, hwi⟩, ⟨rfl, ?_⟩, impP_refl _, impP_refl _, impP_refl _, impP_refl _, trivial⟩ ⟨impP_refl _, impP_refl _, ⟨⟨rfl, ?_⟩, ⟨rfl, ?_⟩, rfl⟩, trivial⟩
        · show IntKind.u64.wrap _ = ((v / 2 ^ ((k : Int) - 1 + 1).toNat % u : Nat) : Int)
          rw [hw64, e2, p3]; omega
        · rw [e2, p2, q4]
        · rw [e2, p2, q3]
      · have g3 := bneF g3
        have g4 := of_decide_eq_true g4
        have hge : u ≤ 2 * R + b := by omega
        rw [if_pos hge] at p2 p3
        refine ih (k - 1) (fun i => i) ⟨by omega, by omega⟩ (by omega) (by rfl) ⟨⟨rfl, hwi⟩, ⟨rfl, ?_⟩, impP_refl _, impP_refl _, impP_refl _, impP_refl _, trivial⟩ ⟨impP_refl _, impP_refl _, ⟨⟨rfl, ?_⟩, ⟨rfl, ?_⟩, rfl⟩, trivial⟩
        · show IntKind.u64.wrap _ = ((v / 2 ^ ((k : Int) - 1 + 1).toNat % u : Nat) : Int)
          rw [hw64, e2, p3]; omega
        · rw [e2, p2, q4]
        · rw [e2, p2, q3]
      · have g3 := bneF g3
        have g4 := of_decide_eq_false g4
        have hge : ¬ u ≤ 2 * R + b := by omega
        rw [if_neg hge] at p2 p3
        refine ih (k - 1) (fun i => i) ⟨by omega, by omega⟩ (by omega) (by rfl) ⟨⟨rfl, hwi⟩, ⟨rfl, ?_⟩, impP_refl _, impP_refl _, impP_refl _, impP_refl _, trivial⟩ ⟨impP_refl _, impP_refl _, ⟨⟨rfl, ?_⟩, ⟨rfl, ?_⟩, rfl⟩, trivial⟩
        · dsimp only; rw [e2, p3]; omega
        · rw [e2, p2, Nat.add_zero]
        · rw [e2, p2, Nat.add_zero]
    · have g2 : ¬ 0 ≤ i := of_decide_eq_false g2
      obtain rfl : i = -1 := by omega
      refine ⟨rfl, ⟨⟨rfl, ?_⟩, ⟨rfl, ?_⟩, rfl⟩, ⟨rfl, ?_⟩, ?_, rfl⟩
      · simp
      · simp
      · rw [byR_nat v (by omega)]; simp
      · exact decide_eq_true (by omega)
  · refine ⟨⟨rfl, hw⟩, ⟨rfl, ?_⟩, impP_refl _, impP_refl _, impP_refl _, impP_refl _, trivial⟩
    rw [h0, Nat.zero_mod]; rfl
  · refine ⟨impP_refl _, impP_refl _, ⟨⟨rfl, ?_⟩, ⟨rfl, ?_⟩, rfl⟩, trivial⟩ <;> (rw [h0, Nat.zero_div]; rfl)
noncomputable def Fv5 : Table := addS 64 (.cons shWide (.cons (.int .u64) .nil)) (fun a b n => (.tuple (.cons (.agg (.cons (.int .u64 fun _ => wHi (wN (a ()) (b ()) / (n ()).toNat)) (.cons (.int .u64 fun _ => wLo (wN (a ()) (b ()) / (n ()).toNat)) .nil))) (.cons (.int .u64 fun _ => byR (wN (a ()) (b ())) (n ())) (.cons (.bool fun _ => decide (n () ≠ 0)) .nil))), [fun _ => okW (a ()) (b ()) ∧ 0 ≤ n () ∧ n () < 18446744073709551616])) Fv4
theorem Fv5_ok : TableOK Tryd.prog G0 Fv5 := addS_ok (⟨Tryd.func64, rfl, rfl, rfl, ⟨rfl, rfl⟩, ok _⟩ : FN 64 Tryd.f64).callable (fun a b n h => by_ok (a ()) (b ()) (n ()) h.1.1 h.1.2) Fv4_ok
def wtA (x : Nat × List UInt8) : Env := [(4, .int .i64 fun _ => 40 - (x.2.length : Int)), (3, .ptr 1 0), (2, .str fun _ => ⟨#[]⟩), (1, .ptr 0 0)]
def wtS (x : Nat × List UInt8) : Store := [(0, .var (.agg (.cons (.int .u64 fun _ => wHi (x.1)) (.cons (.int .u64 fun _ => wLo (x.1)) .nil)))), (1, .var (.arrI .u8 40 fun _ => List.replicate (40 - x.2.length) 0 ++ x.2.map fun c => (c.toNat : Int)))]
structure WI (v0 : Nat) (x : Nat × List UInt8) : Prop where
  all : leftT x.1 x.2 = Lib.decDigits v0
  few : x.1 * 10 ^ x.2.length ≤ v0
  ne : x.1 = 0 → x.2 ≠ []
theorem text_ok (a b : Int) (h : okW a b) : PF 65 (.cons (wP a b) .nil) (.str fun _ => toB (Lib.decDigits (wN a b))) := by
  refine (⟨Tryd.func65, rfl, rfl, rfl, ⟨rfl, rfl⟩, ok _⟩ : FN 65 Tryd.f65).tree (mkO_ok Fv5_ok) false 40 rfl ?_
  conv => arg 5; cbv
  have hlt := wN_lt h
  have hz := wN_zero h
  generalize hV : wN a b = v at *
  refine ⟨fun g => ?_, fun g => ?_⟩
  · have g : a = 0 ∧ b = 0 := by simpa using g
    have : v = 0 := hz.2 g
    subst this
    refine ⟨rfl, ?_⟩
    show (⟨#[48]⟩ : ByteArray) = _
    rw [Lib.decDigits_one (by omega)]; rfl
  have g : ¬ (a = 0 ∧ b = 0) := by simpa using g
  have hv0 : v ≠ 0 := fun hc => g (hz.1 hc)
  refine run_inv (ι := Nat × List UInt8) (fun x => x.1) (WI v) wtA wtS 2 (v, []) (fun i => i) (by rfl) (by rfl) ⟨leftT_start v, by show v * 1 ≤ v; omega, fun hc => absurd hc hv0⟩ ?_ ⟨impP_refl _, impP_refl _, impP_refl _, impP_refl _, trivial⟩ ⟨⟨⟨rfl, ?_⟩, ⟨rfl, ?_⟩, rfl⟩, ⟨rfl, rfl, rfl⟩, trivial⟩
  · intro x hx ih
    refine explore_ok (ok _) (mkO_ok Fv5_ok) (u := false) 1 _ rfl ?_
    conv => arg 5; cbv
    have hfew := hx.few
    have e10 : Int.toNat 10 = 10 := rfl
    have hx1 : x.1 ≤ v := by
      have : x.1 * 1 ≤ x.1 * 10 ^ x.2.length := Nat.mul_le_mul_left _ (Nat.pow_pos (by omega))
      omega
    have hlen : x.1 ≠ 0 → x.2.length < 40 := fun h0 => by
      have h1 : 1 * 10 ^ x.2.length ≤ x.1 * 10 ^ x.2.length := Nat.mul_le_mul_right _ (by omega)
      apply Classical.byContradiction
      intro hc
      have : 10 ^ 40 ≤ 10 ^ x.2.length := Nat.pow_le_pow_right (by omega) (by omega)
      unfold W128 at hlt
      omega
    refine ⟨fun g2 => ?_, fun g2 => ?_⟩
    · have g2 : x.1 ≠ 0 := fun hc => by rw [hc] at g2; cases g2
      have hl := hlen g2
      have hw : IntKind.i64.wrap (40 - (x.2.length : Int) - 1) = 39 - (x.2.length : Int) := by rw [IntWalk.i64_in _ ⟨by omega, by omega⟩]; omega
      have hr : 0 ≤ IntKind.i64.wrap (40 - (x.2.length : Int) - 1) ∧ IntKind.i64.wrap (40 - (x.2.length : Int) - 1) < ((40 : Nat) : Int) := by rw [hw]; omega
      refine explore_ok (ok _) (mkO_ok Fv5_ok) (u := false) 20 _ rfl ?_
      conv => arg 5; cbv
      simp only [wN_of, e10]
      have hd : x.1 % 10 < 10 := Nat.mod_lt _ (by omega)
      have h8 : IntKind.u8.wrap (48 + IntKind.u8.wrap ((x.1 % 10 : Nat) : Int)) = ((UInt8.ofNat (48 + x.1 % 10)).toNat : Int) := by
        rw [IntWalk.u8_in ((x.1 % 10 : Nat) : Int) ⟨by omega, by omega⟩, IntWalk.u8_in _ ⟨by omega, by omega⟩, UInt8.toNat_ofNat']; omega
      have hno : ¬ (x.1 = 0 ∧ x.2 ≠ []) := fun hc => g2 hc.1
      refine ⟨⟨⟨okW_of (by omega), by decide⟩, hr, hr, trivial⟩, ih (x.1 / 10, UInt8.ofNat (48 + x.1 % 10) :: x.2) (fun i => i) ⟨?_, ?_, fun _ => by simp⟩ (by show x.1 / 10 < x.1; omega) (by rfl) ⟨⟨rfl, ?_⟩, impP_refl _, impP_refl _, impP_refl _, trivial⟩ ⟨impP_refl _, ⟨rfl, rfl, ?_⟩, trivial⟩⟩
      · show leftT (x.1 / 10) (UInt8.ofNat (48 + x.1 % 10) :: x.2) = _
        rw [leftT_step _ _ hno, hx.all]
      · show x.1 / 10 * 10 ^ (x.2.length + 1) ≤ v
        have : x.1 / 10 * 10 ≤ x.1 := Nat.div_mul_le_self _ _
        calc x.1 / 10 * 10 ^ (x.2.length + 1) = x.1 / 10 * 10 * 10 ^ x.2.length := by rw [Nat.pow_succ, Nat.mul_assoc, Nat.mul_comm (10 ^ x.2.length) 10]
          _ ≤ x.1 * 10 ^ x.2.length := Nat.mul_le_mul_right _ this
          _ ≤ v := hfew
      · show IntKind.i64.wrap (40 - (x.2.length : Int) - 1) = 40 - (((x.2.length + 1 : Nat)) : Int)
        rw [hw]; omega
      · show (List.replicate (40 - x.2.length) 0 ++ List.map (fun c : UInt8 => (c.toNat : Int)) x.2).set (IntKind.i64.wrap (40 - (x.2.length : Int) - 1)).toNat (IntKind.u8.wrap (48 + IntKind.u8.wrap (byR x.1 10))) = List.replicate (40 - (x.2.length + 1)) 0 ++ ((UInt8.ofNat (48 + x.1 % 10)).toNat : Int) :: List.map (fun c : UInt8 => (c.toNat : Int)) x.2
        rw [byR_ten, h8, hw, show (39 - (x.2.length : Int)).toNat = 39 - x.2.length by omega, show 40 - x.2.length = (40 - (x.2.length + 1)) + 1 by omega, List.replicate_succ', List.append_assoc, show 39 - x.2.length = (List.replicate (40 - (x.2.length + 1)) (0 : Int)).length by rw [List.length_replicate]; omega, List.set_append_right _ _ (Nat.le_refl _), Nat.sub_self]
        rfl
    · have g2 : x.1 = 0 := Classical.byContradiction fun hc => by
        have : wHi x.1 = 0 ∧ wLo x.1 = 0 := by simpa using g2
        have h2 := wN_of x.1
        rw [this.1, this.2] at h2
        exact hc h2.symm
      have hall := hx.all
      rw [leftT_end _ _ ⟨g2, hx.ne g2⟩] at hall
      have hl : x.2.length ≤ 40 := by
        rw [hall]
        exact dec_len (by unfold W128 at hlt; omega) (by omega)
      refine Go.Abs.run_freeze 1 (.arrI .u8 40 fun _ => List.replicate (40 - x.2.length) 0 ++ x.2.map fun c => (c.toNat : Int)) (by rfl) (by rfl) (by rfl) ?_
      refine explore_ok (ok _) (mkO_ok Fv5_ok) (u := false) 20 _ rfl ?_
      conv => arg 5; cbv
      refine ⟨⟨⟨(by (try dsimp only); (try simp only [cast_fold, Int.ofNat_eq_natCast]); omega), (by (try dsimp only); (try simp only [cast_fold, Int.ofNat_eq_natCast]); omega), by decide, by decide⟩, fun j => rfl, trivial⟩, rfl, ?_⟩
      have e : rdL rd8 (fun _ => 40 - (40 - (x.2.length : Int))) (fun q => PV.int .u8 fun _ => (List.replicate (40 - x.2.length) 0 ++ List.map (fun c : UInt8 => (c.toNat : Int)) x.2).getD (40 - (x.2.length : Int) + q ()).toNat 0) = x.2.map fun c : UInt8 => (c.toNat : Int) := by
        refine rdL_ext rd8 _ _ _ (by rw [List.length_map]; omega) fun i hi => ?_
        have hi' : i < x.2.length := by simpa using hi
        show (List.replicate (40 - x.2.length) 0 ++ List.map (fun c : UInt8 => (c.toNat : Int)) x.2).getD (40 - (x.2.length : Int) + (i : Int)).toNat 0 = _
        rw [List.getD_eq_getElem?_getD, List.getElem?_append_right (by rw [List.length_replicate]; omega), List.length_replicate, show (40 - (x.2.length : Int) + (i : Int)).toNat - (40 - x.2.length) = i by omega, List.getElem?_eq_getElem hi]
        rfl
      show bytesOf (rdL rd8 (fun _ => 40 - (40 - (x.2.length : Int))) (fun q => PV.int .u8 fun _ => (List.replicate (40 - x.2.length) 0 ++ List.map (fun c : UInt8 => (c.toNat : Int)) x.2).getD (40 - (x.2.length : Int) + q ()).toNat 0)) = toB (Lib.decDigits v)
      rw [e, bytesOf_map, hall]
  · rw [← hV]; exact (wHi_wN h).symm
  · rw [← hV]; exact (wLo_wN h).symm
noncomputable def Fv6 : Table := addS 65 (.cons shWide .nil) (fun a b => (.str fun _ => toB (Lib.decDigits (wN (a ()) (b ()))), [fun _ => okW (a ()) (b ())])) Fv5
theorem Fv6_ok : TableOK Tryd.prog G0 Fv6 := addS_ok (⟨Tryd.func65, rfl, rfl, rfl, ⟨rfl, rfl⟩, ok _⟩ : FN 65 Tryd.f65).callable (fun a b h => text_ok (a ()) (b ()) h.1) Fv5_ok
theorem of_ok (u : Int) : PF 56 (.cons (u64 u) .nil) (.agg (.cons (.int .u64 fun _ => 0) (.cons (.int .u64 fun _ => u) .nil))) := by
  refine (⟨Tryd.func56, rfl, rfl, rfl, ⟨rfl, rfl⟩, ok _⟩ : FN 56 Tryd.f56).tree (mkO_ok F0_ok) false 40 rfl ?_
  conv => arg 5; cbv
  exact ⟨rfl, ⟨rfl, rfl⟩, ⟨rfl, rfl⟩, rfl⟩
theorem uint_ok (a b : Int) : PF 66 (.cons (wP a b) .nil) (.tuple (.cons (.int .u64 fun _ => if a = 0 then b else 0) (.cons (.bool fun _ => decide (a = 0)) .nil))) := by
  refine (⟨Tryd.func66, rfl, rfl, rfl, ⟨rfl, rfl⟩, ok _⟩ : FN 66 Tryd.f66).tree (mkO_ok F0_ok) false 40 rfl ?_
  conv => arg 5; cbv
  refine ⟨fun h => ⟨rfl, ⟨rfl, (if_neg (bneT h)).symm⟩, decide_eq_false (bneT h), rfl⟩, fun h => ⟨rfl, ⟨rfl, (if_pos (bneF h)).symm⟩, decide_eq_true (bneF h), rfl⟩⟩
noncomputable def Fw : Table := addS 56 (.cons (.int .u64) .nil) (fun u => (.agg (.cons (.int .u64 fun _ => 0) (.cons (.int .u64 u) .nil)), [])) (addS 66 (.cons shWide .nil) (fun a b => (.tuple (.cons (.int .u64 fun _ => if a () = 0 then b () else 0) (.cons (.bool fun _ => decide (a () = 0)) .nil)), [])) Fv6)
theorem Fw_ok : TableOK Tryd.prog G0 Fw := addS_ok (⟨Tryd.func56, rfl, rfl, rfl, ⟨rfl, rfl⟩, ok _⟩ : FN 56 Tryd.f56).callable (fun u _ => of_ok (u ())) (addS_ok (⟨Tryd.func66, rfl, rfl, rfl, ⟨rfl, rfl⟩, ok _⟩ : FN 66 Tryd.f66).callable (fun a b _ => uint_ok (a ()) (b ())) Fv6_ok)
end Go.Proofs.YtdikfhjpnfffnacDoor
