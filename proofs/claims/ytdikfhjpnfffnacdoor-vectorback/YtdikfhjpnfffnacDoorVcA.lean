/- WIDE NUMBERS: the functions. -/
import Derived.Test.YtdikfhjpnfffnacDoorBase
import Derived.Test.YtdikfhjpnfffnacDoorGc
set_option maxRecDepth 2000
set_option linter.unusedVariables false
set_option linter.unusedSimpArgs false
set_option linter.unusedVariables false
set_option linter.unusedSimpArgs false
namespace Go.Proofs.YtdikfhjpnfffnacDoor
open Go Go.Abs Go.Proofs
def wP (h l : Int) : PV := .agg (.cons (.int .u64 fun _ => h) (.cons (.int .u64 fun _ => l) .nil))
def shWide : Sh := .agg (.cons (.int .u64) (.cons (.int .u64) .nil))
theorem less_ok (a b c d : Int) (h1 : okW a b) (h2 : okW c d) : PF 60 (.cons (wP a b) (.cons (wP c d) .nil)) (.bool fun _ => decide (wN a b < wN c d)) := by
  refine (⟨Tryd.func60, rfl, rfl, rfl, ⟨rfl, rfl⟩, ok _⟩ : FN 60 Tryd.f60).tree (mkO_ok F0_ok) false 40 rfl ?_
  conv => arg 5; cbv
  have hl := wN_less h1 h2
  refine ⟨fun h => ⟨rfl, ?_⟩, fun h => ⟨fun g => ⟨rfl, ?_⟩, fun g => ⟨rfl, ?_⟩⟩⟩
  · exact decide_eq_true (hl.2 (.inl (of_decide_eq_true h)))
  · have g : a = c := by simpa using g
    have h := of_decide_eq_false h
    show decide (b < d) = decide (wN a b < wN c d)
    rw [decide_eq_decide, hl]; omega
  · have g : ¬ a = c := by simpa using g
    have h := of_decide_eq_false h
    exact decide_eq_false fun hc => by rcases hl.1 hc with hc | hc <;> omega
noncomputable def Fv1 : Table := addS 60 (.cons shWide (.cons shWide .nil)) (fun a b c d => (.bool fun _ => decide (wN (a ()) (b ()) < wN (c ()) (d ())), [fun _ => okW (a ()) (b ()) ∧ okW (c ()) (d ())])) F0
theorem Fv1_ok : TableOK Tryd.prog G0 Fv1 := addS_ok (⟨Tryd.func60, rfl, rfl, rfl, ⟨rfl, rfl⟩, ok _⟩ : FN 60 Tryd.f60).callable (fun a b c d h => less_ok (a ()) (b ()) (c ()) (d ()) h.1.1 h.1.2) F0_ok
theorem compare_ok (a b c d : Int) (h1 : okW a b) (h2 : okW c d) : PF 38 (.cons (wP a b) (.cons (wP c d) .nil)) (.int .i64 fun _ => if wN a b < wN c d then -1 else if wN c d < wN a b then 1 else 0) := by
  refine (⟨Tryd.func38, rfl, rfl, rfl, ⟨rfl, rfl⟩, ok _⟩ : FN 38 Tryd.f38).tree (mkO_ok Fv1_ok) false 40 rfl ?_
  conv => arg 5; cbv
  refine ⟨⟨⟨h1, h2⟩, trivial⟩, fun h => ⟨rfl, rfl, ?_⟩, fun h => ⟨⟨⟨h2, h1⟩, trivial⟩, fun g => ⟨rfl, rfl, ?_⟩, fun g => ⟨rfl, rfl, ?_⟩⟩⟩
  · exact (if_pos (of_decide_eq_true h)).symm
  · exact ((if_neg (of_decide_eq_false h)).trans (if_pos (of_decide_eq_true g))).symm
  · exact ((if_neg (of_decide_eq_false h)).trans (if_neg (of_decide_eq_false g))).symm
theorem carry_ok (a b : Int) (ha : 0 ≤ a ∧ a < 18446744073709551616) (hb : 0 ≤ b ∧ b < 18446744073709551616) : PF 80 (.cons (u64 a) (.cons (u64 b) .nil)) (.int .u64 fun _ => (a + b) / 18446744073709551616) := by
  refine (⟨Tryd.func80, rfl, rfl, rfl, ⟨rfl, rfl⟩, ok _⟩ : FN 80 Tryd.f80).tree (mkO_ok F0_ok) false 40 rfl ?_
  conv => arg 5; cbv
  have hw : IntKind.u64.wrap (a + b) = (a + b) % 18446744073709551616 := rfl
  refine ⟨fun h => ⟨rfl, rfl, ?_⟩, fun h => ⟨rfl, rfl, ?_⟩⟩
  · have h := of_decide_eq_true h
    show 1 = (a + b) / 18446744073709551616
    omega
  · have h := of_decide_eq_false h
    show 0 = (a + b) / 18446744073709551616
    omega
theorem product_ok (a b : Int) (ha : 0 ≤ a ∧ a < 18446744073709551616) (hb : 0 ≤ b ∧ b < 18446744073709551616) : PF 79 (.cons (u64 a) (.cons (u64 b) .nil)) (.agg (.cons (.int .u64 fun _ => wHi (a.toNat * b.toNat)) (.cons (.int .u64 fun _ => wLo (a.toNat * b.toNat)) .nil))) := by
  refine (⟨Tryd.func79, rfl, rfl, rfl, ⟨rfl, rfl⟩, ok _⟩ : FN 79 Tryd.f79).tree (mkO_ok F0_ok) false 40 rfl ?_
  conv => arg 5; cbv
  have h32 : (0 : Int) ≤ 32 := by decide
  refine ⟨⟨h32, h32, h32, h32, h32, trivial⟩, rfl, ⟨rfl, ?_⟩, ⟨rfl, ?_⟩, rfl⟩
  · have := prodHi_eq (a := a.toNat) (b := b.toNat) (by omega) (by omega)
    rw [Int.toNat_of_nonneg ha.1, Int.toNat_of_nonneg hb.1] at this
    exact this
  · have := prodLo_eq a.toNat b.toNat
    rw [Int.toNat_of_nonneg ha.1, Int.toNat_of_nonneg hb.1] at this
    exact this
def lnA (x : Nat × Int × Nat) : Env := [(4, .int .i64 fun _ => stp x.1), (3, .int .i64 fun _ => x.2.1), (0, .int .u64 fun _ => (x.2.2 : Int))]
structure LI (a : Nat) (x : Nat × Int × Nat) : Prop where
  j : x.1 ≤ 6
  u : x.2.2 < 2 ^ (2 ^ x.1)
  n : x.2.1 + (bl x.2.2 : Int) = bl a
  n0 : 0 ≤ x.2.1
theorem length_ok (a : Nat) (ha : a < 18446744073709551616) : PF 92 (.cons (u64 a) .nil) (.int .i64 fun _ => (bl a : Int)) := by
  refine (⟨Tryd.func92, rfl, rfl, rfl, ⟨rfl, rfl⟩, ok _⟩ : FN 92 Tryd.f92).tree (mkO_ok F0_ok) false 40 rfl ?_
  conv => arg 5; cbv
  have hbl : bl a ≤ 64 := bl_le.2 ha
  refine run_inv (ι := Nat × Int × Nat) (fun x => x.1) (LI a) lnA (fun _ => []) 0 (6, 0, a) (fun i => i) (by rfl) (by rfl) ⟨Nat.le_refl _, ha, by show 0 + (bl a : Int) = bl a; omega, Int.le_refl 0⟩ ?_ ⟨impP_refl _, impP_refl _, impP_refl _, trivial⟩ trivial
  intro x hx ih
  obtain ⟨j, n, u⟩ := x
  have hn : n + (bl u : Int) = bl a := hx.n
  have hn0 : 0 ≤ n := hx.n0
  refine explore_ok (ok _) (mkO_ok F0_ok) (u := false) 20 _ rfl ?_
  conv => arg 5; cbv
  refine ⟨fun h => ?_, fun h => ?_⟩
  · have h : 0 < stp j := of_decide_eq_true h
    have hj : 0 < j := by
      apply Classical.byContradiction
      intro hn
      rw [show j = 0 by omega] at h
      exact absurd h (by decide)
    obtain ⟨s1, s2, s3, s4, s5, s6⟩ := stp_ok (u := u) hj hx.j hx.u
    refine ⟨⟨by show 0 ≤ stp j; omega, trivial⟩, fun g => ⟨⟨by show 0 ≤ stp j; omega, by decide, trivial⟩, ?_⟩, fun g => ⟨⟨by decide, trivial⟩, ?_⟩⟩
    · have g : (shr .u64 (u : Int) (stp j) != 0) = true := g
      have g : u / 2 ^ (stp j).toNat ≠ 0 := fun hc => by rw [s4, hc] at g; cases g
      have hb := bl_shift g
      refine ih (j - 1, n + stp j, u / 2 ^ (stp j).toNat) (fun i => i) ⟨by show j - 1 ≤ 6; have : j ≤ 6 := hx.j; omega, s5, by show n + stp j + (bl (u / 2 ^ (stp j).toNat) : Int) = bl a; omega, by show 0 ≤ n + stp j; omega⟩ (by show j - 1 < j; omega) (by rfl) ⟨⟨rfl, s3⟩, ⟨rfl, ?_⟩, ⟨rfl, s4⟩, trivial⟩ trivial
      show IntKind.i64.wrap (n + stp j) = n + stp j
      exact IntWalk.i64_in _ ⟨by omega, by omega⟩
    · have g : (shr .u64 (u : Int) (stp j) != 0) = false := g
      have g : u / 2 ^ (stp j).toNat = 0 := Classical.byContradiction fun hc => by rw [s4] at g; simp only [bne_eq_false_iff_eq] at g; omega
      exact ih (j - 1, n, u) (fun i => i) ⟨by show j - 1 ≤ 6; have : j ≤ 6 := hx.j; omega, s6 g, hn, hn0⟩ (by show j - 1 < j; omega) (by rfl) ⟨⟨rfl, s3⟩, impP_refl _, impP_refl _, trivial⟩ trivial
  · have h : ¬ 0 < stp j := of_decide_eq_false h
    have hj : j = 0 := by
      apply Classical.byContradiction
      intro hn
      exact h (stp_ok (u := u) (by omega) hx.j hx.u).1
    subst hj
    have hu : u < 2 := hx.u
    rw [bl_two hu] at hn
    refine ⟨rfl, rfl, ?_⟩
    show IntKind.i64.wrap (n + IntKind.i64.wrap (u : Int)) = (bl a : Int)
    rw [IntWalk.i64_in (u : Int) ⟨by omega, by omega⟩, IntWalk.i64_in _ ⟨by omega, by omega⟩]
    omega
noncomputable def Fv2 : Table := addS 38 (.cons shWide (.cons shWide .nil)) (fun a b c d => (.int .i64 fun _ => if wN (a ()) (b ()) < wN (c ()) (d ()) then -1 else if wN (c ()) (d ()) < wN (a ()) (b ()) then 1 else 0, [fun _ => okW (a ()) (b ()) ∧ okW (c ()) (d ())]))
  (addS 80 (.cons (.int .u64) (.cons (.int .u64) .nil)) (fun a b => (.int .u64 fun _ => (a () + b ()) / 18446744073709551616, [fun _ => (0 ≤ a () ∧ a () < 18446744073709551616) ∧ 0 ≤ b () ∧ b () < 18446744073709551616]))
  (addS 79 (.cons (.int .u64) (.cons (.int .u64) .nil)) (fun a b => ((.agg (.cons (.int .u64 fun _ => wHi ((a ()).toNat * (b ()).toNat)) (.cons (.int .u64 fun _ => wLo ((a ()).toNat * (b ()).toNat)) .nil))), [fun _ => (0 ≤ a () ∧ a () < 18446744073709551616) ∧ 0 ≤ b () ∧ b () < 18446744073709551616]))
  (addS 92 (.cons (.int .u64) .nil) (fun a => (.int .i64 fun _ => (bl (a ()).toNat : Int), [fun _ => 0 ≤ a () ∧ a () < 18446744073709551616])) Fv1)))
theorem Fv2_ok : TableOK Tryd.prog G0 Fv2 := addS_ok (⟨Tryd.func38, rfl, rfl, rfl, ⟨rfl, rfl⟩, ok _⟩ : FN 38 Tryd.f38).callable (fun a b c d h => compare_ok (a ()) (b ()) (c ()) (d ()) h.1.1 h.1.2) (addS_ok (⟨Tryd.func80, rfl, rfl, rfl, ⟨rfl, rfl⟩, ok _⟩ : FN 80 Tryd.f80).callable (fun a b h => carry_ok (a ()) (b ()) h.1.1 h.1.2)
  (addS_ok (⟨Tryd.func79, rfl, rfl, rfl, ⟨rfl, rfl⟩, ok _⟩ : FN 79 Tryd.f79).callable (fun a b h => product_ok (a ()) (b ()) h.1.1 h.1.2) (addS_ok (⟨Tryd.func92, rfl, rfl, rfl, ⟨rfl, rfl⟩, ok _⟩ : FN 92 Tryd.f92).callable (fun a h => by
    have := length_ok (a ()).toNat (by have := h.1; omega)
    rwa [show (((a ()).toNat : Nat) : Int) = a () from Int.toNat_of_nonneg h.1.1] at this) Fv1_ok)))
theorem bits_ok (a b : Int) (h : okW a b) : PF 85 (.cons (wP a b) .nil) (.int .i64 fun _ => (bl (wN a b) : Int)) := by
  refine (⟨Tryd.func85, rfl, rfl, rfl, ⟨rfl, rfl⟩, ok _⟩ : FN 85 Tryd.f85).tree (mkO_ok Fv2_ok) false 40 rfl ?_
  conv => arg 5; cbv
  obtain ⟨x, y, rfl, rfl, hx, hy⟩ := okW_nat h
  have hb := bl_words (a := x) hy
  have hb2 : bl x ≤ 64 := bl_le.2 hx
  refine ⟨fun g => ⟨⟨h.1, trivial⟩, rfl, rfl, ?_⟩, fun g => ⟨⟨h.2, trivial⟩, rfl, rfl, ?_⟩⟩
  · have g : x ≠ 0 := by simpa using g
    rw [if_pos g] at hb
    show IntKind.i64.wrap (64 + (bl (x : Int).toNat : Int)) = (bl (wN x y) : Int)
    rw [wN_nat, hb, Int.toNat_natCast, IntWalk.i64_in _ ⟨by omega, by omega⟩]; omega
  · have g : x = 0 := by simpa using g
    rw [if_neg (by omega)] at hb
    show (bl (y : Int).toNat : Int) = (bl (wN x y) : Int)
    rw [wN_nat, hb, Int.toNat_natCast]
theorem add_ok (a b c d : Int) (h1 : okW a b) (h2 : okW c d) : PF 55 (.cons (wP a b) (.cons (wP c d) .nil)) (.tuple (.cons (.agg (.cons (.int .u64 fun _ => wHi (capW (wN a b + wN c d))) (.cons (.int .u64 fun _ => wLo (capW (wN a b + wN c d))) .nil))) (.cons (.bool fun _ => decide (wN a b + wN c d < W128)) .nil))) := by
  refine (⟨Tryd.func55, rfl, rfl, rfl, ⟨rfl, rfl⟩, ok _⟩ : FN 55 Tryd.f55).tree (mkO_ok Fv2_ok) false 40 rfl ?_
  conv => arg 5; cbv
  have hw : ∀ n : Int, IntKind.u64.wrap n = n % 18446744073709551616 := fun _ => rfl
  obtain ⟨⟨a0, a1⟩, b0, b1⟩ := h1
  obtain ⟨⟨c0, c1⟩, d0, d1⟩ := h2
  have hs : wN a b + wN c d = (a.toNat + c.toNat) * 18446744073709551616 + (b.toNat + d.toNat) := by unfold wN; omega
  rw [hs]
  refine ⟨⟨⟨⟨b0, b1⟩, d0, d1⟩, ⟨⟨a0, a1⟩, c0, c1⟩, trivial⟩, fun g => ?_, fun g => ⟨⟨⟨?_, ?_⟩, trivial⟩, fun k => ?_, fun k => ?_⟩⟩
  · have g : (a + c) / 18446744073709551616 ≠ 0 := by simpa using g
    have hn : ¬ (a.toNat + c.toNat) * 18446744073709551616 + (b.toNat + d.toNat) < W128 := by unfold W128; omega
    refine ⟨rfl, ⟨⟨rfl, ?_⟩, ⟨rfl, ?_⟩, rfl⟩, decide_eq_false hn, rfl⟩ <;> (unfold capW; rw [if_neg hn]; rfl)
  · dsimp only; rw [hw]; omega
  · dsimp only; omega
  · have g : (a + c) / 18446744073709551616 = 0 := by simpa using g
    have k : (IntKind.u64.wrap (a + c) + (b + d) / 18446744073709551616) / 18446744073709551616 ≠ 0 := by simpa using k
    rw [hw] at k
    have hn : ¬ (a.toNat + c.toNat) * 18446744073709551616 + (b.toNat + d.toNat) < W128 := by unfold W128; omega
    refine ⟨rfl, ⟨⟨rfl, ?_⟩, ⟨rfl, ?_⟩, rfl⟩, decide_eq_false hn, rfl⟩ <;> (unfold capW; rw [if_neg hn]; rfl)
  · have g : (a + c) / 18446744073709551616 = 0 := by simpa using g
    have k : (IntKind.u64.wrap (a + c) + (b + d) / 18446744073709551616) / 18446744073709551616 = 0 := by simpa using k
    rw [hw] at k
    have hn : (a.toNat + c.toNat) * 18446744073709551616 + (b.toNat + d.toNat) < W128 := by unfold W128; omega
    refine ⟨rfl, ⟨⟨rfl, ?_⟩, ⟨rfl, ?_⟩, rfl⟩, decide_eq_true hn, rfl⟩ <;> (unfold capW; rw [if_pos hn]; simp only [wHi, wLo, hw]; omega)
theorem right_ok (a b n : Int) (h : okW a b) (h0 : 0 ≤ n ∧ n < 9223372036854775808) : PF 86 (.cons (wP a b) (.cons (i64 n) .nil)) (.agg (.cons (.int .u64 fun _ => wHi (wN a b / 2 ^ n.toNat)) (.cons (.int .u64 fun _ => wLo (wN a b / 2 ^ n.toNat)) .nil))) := by
  refine (⟨Tryd.func86, rfl, rfl, rfl, ⟨rfl, rfl⟩, ok _⟩ : FN 86 Tryd.f86).tree (mkO_ok F0_ok) false 40 rfl ?_
  conv => arg 5; cbv
  have hlt := wN_lt h
  obtain ⟨x, y, rfl, rfl, hx, hy⟩ := okW_nat h
  obtain ⟨k, rfl⟩ : ∃ k : Nat, n = k := ⟨n.toNat, by omega⟩
  rw [wN_nat] at *
  have hw1 : 64 ≤ k → k < 128 → IntKind.i64.wrap ((k : Int) - 64) = ((k - 64 : Nat) : Int) := fun _ _ => by rw [IntWalk.i64_in _ ⟨by omega, by omega⟩]; omega
  have hw2 : k < 64 → IntKind.i64.wrap (64 - (k : Int)) = ((64 - k : Nat) : Int) := fun _ => by rw [IntWalk.i64_in _ ⟨by omega, by omega⟩]; omega
  refine ⟨fun g => ?_, fun g => ⟨fun g2 => ?_, fun g2 => ⟨fun g3 => ⟨⟨?_, trivial⟩, ?_⟩, fun g3 => ⟨⟨h0.1, h0.1, ?_, (by show drawOK _ _ = true; decide +kernel), trivial⟩, ?_⟩⟩⟩⟩
  · have g : (k : Int) ≤ 0 := of_decide_eq_true g
    obtain rfl : k = 0 := by omega
    refine ⟨rfl, ⟨rfl, ?_⟩, ⟨rfl, ?_⟩, rfl⟩ <;> (simp only [Int.toNat_natCast, Nat.pow_zero, Nat.div_one, wHi, wLo]; omega)
  · have g2 : (128 : Int) ≤ (k : Int) := of_decide_eq_true g2
    have e : (x * 18446744073709551616 + y) / 2 ^ k = 0 := Nat.div_eq_of_lt (Nat.lt_of_lt_of_le hlt (Nat.pow_le_pow_right (n := 2) (i := 128) (by omega) (by omega)))
    refine ⟨rfl, ⟨rfl, ?_⟩, ⟨rfl, ?_⟩, rfl⟩ <;> (simp only [Int.toNat_natCast]; rw [e]; rfl)
  · have g2 : ¬ (128 : Int) ≤ (k : Int) := of_decide_eq_false g2
    have g3 : (64 : Int) ≤ (k : Int) := of_decide_eq_true g3
    show 0 ≤ IntKind.i64.wrap ((k : Int) - 64)
    rw [hw1 (by omega) (by omega)]; omega
  · have g2 : ¬ (128 : Int) ≤ (k : Int) := of_decide_eq_false g2
    have g3 : (64 : Int) ≤ (k : Int) := of_decide_eq_true g3
    have e : (x * 18446744073709551616 + y) / 2 ^ k = x / 2 ^ (k - 64) := by
      rw [show k = 64 + (k - 64) by omega, Nat.pow_add, ← Nat.div_div_eq_div_mul, show 64 + (k - 64) - 64 = k - 64 by omega]
      congr 1
      show (x * 18446744073709551616 + y) / 18446744073709551616 = x
      omega
    have hl : x / 2 ^ (k - 64) ≤ x := Nat.div_le_self _ _
    refine ⟨rfl, ⟨rfl, ?_⟩, ⟨rfl, ?_⟩, rfl⟩ <;> (simp only [Int.toNat_natCast]; rw [e])
    · exact (wHi_small (by omega)).symm
    · rw [wLo_small (by omega), hw1 (by omega) (by omega)]
      exact shr_nat x _ (by omega)
  · have g3 : ¬ (64 : Int) ≤ (k : Int) := of_decide_eq_false g3
    show 0 ≤ IntKind.i64.wrap (64 - (k : Int))
    rw [hw2 (by omega)]; omega
  · have g3 : ¬ (64 : Int) ≤ (k : Int) := of_decide_eq_false g3
    obtain ⟨r1, r2, r3⟩ := right_words (a := x) (b := y) (n := k) hy (by omega)
    refine ⟨rfl, ⟨rfl, ?_⟩, ⟨rfl, ?_⟩, rfl⟩ <;> simp only [Int.toNat_natCast]
    · unfold wHi
      rw [r1]; exact shr_nat x k (by omega)
    · unfold wLo
      have hm : 2 ^ (64 - k) * x % 18446744073709551616 = 2 ^ (64 - k) * (x % 2 ^ k) := by
        rw [show (18446744073709551616 : Nat) = 2 ^ (64 - k) * 2 ^ k by rw [← Nat.pow_add, show 64 - k + k = 64 by omega], Nat.mul_mod_mul_left]
      rw [r2, hw2 (by omega), shr_nat y k (by omega), shl_nat x _ (by omega), Nat.mul_comm x, hm, or_nat (Nat.lt_of_le_of_lt (Nat.div_le_self _ _) hy) (by rw [← hm]; exact Nat.mod_lt _ (by omega)), Nat.or_comm, or_add r3]
noncomputable def Fv3 : Table := addS 85 (.cons shWide .nil) (fun a b => (.int .i64 fun _ => (bl (wN (a ()) (b ())) : Int), [fun _ => okW (a ()) (b ())]))
  (addS 55 (.cons shWide (.cons shWide .nil)) (fun a b c d => (.tuple (.cons (.agg (.cons (.int .u64 fun _ => wHi (capW (wN (a ()) (b ()) + wN (c ()) (d ())))) (.cons (.int .u64 fun _ => wLo (capW (wN (a ()) (b ()) + wN (c ()) (d ())))) .nil))) (.cons (.bool fun _ => decide (wN (a ()) (b ()) + wN (c ()) (d ()) < W128)) .nil)), [fun _ => okW (a ()) (b ()) ∧ okW (c ()) (d ())]))
  (addS 86 (.cons shWide (.cons (.int .i64) .nil)) (fun a b n => ((.agg (.cons (.int .u64 fun _ => wHi (wN (a ()) (b ()) / 2 ^ (n ()).toNat)) (.cons (.int .u64 fun _ => wLo (wN (a ()) (b ()) / 2 ^ (n ()).toNat)) .nil))), [fun _ => okW (a ()) (b ()) ∧ 0 ≤ n () ∧ n () < 9223372036854775808])) Fv2))
theorem Fv3_ok : TableOK Tryd.prog G0 Fv3 := addS_ok (⟨Tryd.func85, rfl, rfl, rfl, ⟨rfl, rfl⟩, ok _⟩ : FN 85 Tryd.f85).callable (fun a b h => bits_ok (a ()) (b ()) h.1) (addS_ok (⟨Tryd.func55, rfl, rfl, rfl, ⟨rfl, rfl⟩, ok _⟩ : FN 55 Tryd.f55).callable (fun a b c d h => add_ok (a ()) (b ()) (c ()) (d ()) h.1.1 h.1.2) (addS_ok (⟨Tryd.func86, rfl, rfl, rfl, ⟨rfl, rfl⟩, ok _⟩ : FN 86 Tryd.f86).callable (fun a b n h => right_ok (a ()) (b ()) (n ()) h.1.1 h.1.2) Fv2_ok))
theorem left_ok (a b n : Int) (h : okW a b) (h0 : 0 ≤ n ∧ n < 9223372036854775808) : PF 82 (.cons (wP a b) (.cons (i64 n) .nil)) (.tuple (.cons (.agg (.cons (.int .u64 fun _ => wHi (capW (wN a b * 2 ^ n.toNat))) (.cons (.int .u64 fun _ => wLo (capW (wN a b * 2 ^ n.toNat))) .nil))) (.cons (.bool fun _ => decide (wN a b * 2 ^ n.toNat < W128)) .nil))) := by
  refine (⟨Tryd.func82, rfl, rfl, rfl, ⟨rfl, rfl⟩, ok _⟩ : FN 82 Tryd.f82).tree (mkO_ok Fv3_ok) false 40 rfl ?_
  conv => arg 5; cbv
  have hlt := wN_lt h
  have hbl := bl_most hlt
  obtain ⟨x, y, rfl, rfl, hx, hy⟩ := okW_nat h
  obtain ⟨k, rfl⟩ : ∃ k : Nat, n = k := ⟨n.toNat, by omega⟩
  rw [wN_nat] at *
  have hw1 : 64 ≤ k → k ≤ 128 → IntKind.i64.wrap ((k : Int) - 64) = ((k - 64 : Nat) : Int) := fun _ _ => by rw [IntWalk.i64_in _ ⟨by omega, by omega⟩]; omega
  have hw2 : k < 64 → IntKind.i64.wrap (64 - (k : Int)) = ((64 - k : Nat) : Int) := fun _ => by rw [IntWalk.i64_in _ ⟨by omega, by omega⟩]; omega
  have hwb : IntKind.i64.wrap (128 - (bl (x * 18446744073709551616 + y) : Int)) = 128 - (bl (x * 18446744073709551616 + y) : Int) := IntWalk.i64_in _ ⟨by omega, by omega⟩
  have hfit : k ≤ 128 → (k + bl (x * 18446744073709551616 + y) ≤ 128 ↔ (x * 18446744073709551616 + y) * 2 ^ k < W128) := fun hk => by
    rw [show (k + bl (x * 18446744073709551616 + y) ≤ 128) ↔ bl (x * 18446744073709551616 + y) ≤ 128 - k by omega, bl_le, show W128 = 2 ^ (128 - k) * 2 ^ k by rw [← Nat.pow_add, show 128 - k + k = 128 by omega]]
    exact (Nat.mul_lt_mul_right (Nat.two_pow_pos k)).symm
  simp only [Int.toNat_natCast]
  refine ⟨fun g => ?_, fun g => ⟨fun g2 => ?_, fun g2 => ⟨⟨h, trivial⟩, fun g3 => ?_, fun g3 => ⟨fun g4 => ⟨⟨?_, trivial⟩, ?_⟩, fun g4 => ⟨⟨h0.1, ?_, h0.1, (by show drawOK _ _ = true; decide +kernel), trivial⟩, ?_⟩⟩⟩⟩⟩
  · have g : x = 0 ∧ y = 0 := by simpa using g
    obtain ⟨rfl, rfl⟩ := g
    have hn : (0 * 18446744073709551616 + 0) * 2 ^ k < W128 := by simp
    refine ⟨rfl, ⟨⟨rfl, ?_⟩, ⟨rfl, ?_⟩, rfl⟩, ?_, rfl⟩
    · unfold capW; rw [if_pos hn]; simp [wHi]
    · unfold capW; rw [if_pos hn]; simp [wLo]
    · show decide (0 ≤ (k : Int)) = decide _
      rw [decide_eq_true hn, decide_eq_true (by omega)]
  · have g2 : (k : Int) < 0 := of_decide_eq_true g2
    omega
  · have g3 : IntKind.i64.wrap (128 - (bl (wN (x : Int) (y : Int)) : Int)) < (k : Int) := of_decide_eq_true g3
    rw [wN_nat, hwb] at g3
    have g : ¬ (x = 0 ∧ y = 0) := by simpa using g
    have hn : ¬ (x * 18446744073709551616 + y) * 2 ^ k < W128 := by
      by_cases hk : k ≤ 128
      · rw [← hfit hk]; omega
      · intro hc
        have h1 : 2 ^ 128 ≤ 2 ^ k := Nat.pow_le_pow_right (by omega) (by omega)
        have h2 : 1 * 2 ^ k ≤ (x * 18446744073709551616 + y) * 2 ^ k := Nat.mul_le_mul_right _ (by omega)
        unfold W128 at hc
        omega
    refine ⟨rfl, ⟨⟨rfl, ?_⟩, ⟨rfl, ?_⟩, rfl⟩, decide_eq_false hn, rfl⟩ <;> (unfold capW; rw [if_neg hn]; rfl)
  all_goals
    have g3 : ¬ IntKind.i64.wrap (128 - (bl (wN (x : Int) (y : Int)) : Int)) < (k : Int) := of_decide_eq_false g3
    rw [wN_nat, hwb] at g3
    have hk : k ≤ 128 := by omega
    have hn := (hfit hk).1 (by omega)
  · have g4 : (64 : Int) ≤ (k : Int) := of_decide_eq_true g4
    show 0 ≤ IntKind.i64.wrap ((k : Int) - 64)
    rw [hw1 (by omega) hk]; omega
  · have g4 : (64 : Int) ≤ (k : Int) := of_decide_eq_true g4
    have e2 : 2 ^ k = 2 ^ (k - 64) * 18446744073709551616 := by
      rw [show (18446744073709551616 : Nat) = 2 ^ 64 from rfl, ← Nat.pow_add, show k - 64 + 64 = k by omega]
    have h1 : 1 ≤ 2 ^ (k - 64) := Nat.one_le_two_pow
    have hx0 : x = 0 := by
      apply Classical.byContradiction
      intro hx0
      rw [e2, ← Nat.mul_assoc] at hn
      have h2 := Nat.mul_le_mul_left (x * 18446744073709551616 + y) h1
      unfold W128 at hn
      omega
    subst hx0
    have hv : (0 * 18446744073709551616 + y) * 2 ^ k = y * 2 ^ (k - 64) * 18446744073709551616 := by rw [Nat.zero_mul, Nat.zero_add, e2, Nat.mul_assoc]
    rw [hv] at hn
    have hm : y * 2 ^ (k - 64) < 18446744073709551616 := by unfold W128 at hn; omega
    refine ⟨rfl, ⟨⟨rfl, ?_⟩, ⟨rfl, ?_⟩, rfl⟩, ?_, rfl⟩
    · unfold capW; rw [hv, if_pos hn, hw1 (by omega) hk, shl_nat y _ (by omega), Nat.mod_eq_of_lt hm]; unfold wHi; rw [Nat.mul_div_cancel _ (by omega)]
    · unfold capW; rw [hv, if_pos hn]; unfold wLo; rw [Nat.mul_mod_left]; rfl
    · rw [← hv] at hn
      exact decide_eq_true hn
  · have g4 : ¬ (64 : Int) ≤ (k : Int) := of_decide_eq_false g4
    show 0 ≤ IntKind.i64.wrap (64 - (k : Int))
    rw [hw2 (by omega)]; omega
  · have g4 : ¬ (64 : Int) ≤ (k : Int) := of_decide_eq_false g4
    obtain ⟨r1, r2, r3⟩ := left_words (a := x) (b := y) (n := k) hy (by omega)
    have hx1 : 2 ^ k * x + y / 2 ^ (64 - k) < 18446744073709551616 := by
      rw [← r1]; exact Nat.div_lt_of_lt_mul (by unfold W128 at hn; omega)
    refine ⟨rfl, ⟨⟨rfl, ?_⟩, ⟨rfl, ?_⟩, rfl⟩, decide_eq_true hn, rfl⟩
    · have hx2 : x * 2 ^ k < 18446744073709551616 := by rw [Nat.mul_comm]; exact Nat.lt_of_le_of_lt (Nat.le_add_right _ _) hx1
      unfold capW; rw [if_pos hn, hw2 (by omega), shl_nat x k (by omega), shr_nat y _ (by omega), Nat.mod_eq_of_lt hx2, or_nat hx2 (Nat.lt_of_le_of_lt (Nat.div_le_self _ _) hy), Nat.mul_comm x, or_add r3]; unfold wHi; rw [r1]
    · unfold capW; rw [if_pos hn, shl_nat y k (by omega)]; unfold wLo; rw [r2]
theorem times_ok (a b n : Int) (h : okW a b) (hn : 0 ≤ n ∧ n < 18446744073709551616) : PF 54 (.cons (wP a b) (.cons (u64 n) .nil)) (.tuple (.cons (.agg (.cons (.int .u64 fun _ => wHi (tmV (wN a b) n.toNat)) (.cons (.int .u64 fun _ => wLo (tmV (wN a b) n.toNat)) .nil))) (.cons (.bool fun _ => decide (wN a b * n.toNat < W128)) .nil))) := by
  refine (⟨Tryd.func54, rfl, rfl, rfl, ⟨rfl, rfl⟩, ok _⟩ : FN 54 Tryd.f54).tree (mkO_ok Fv3_ok) false 40 rfl ?_
  conv => arg 5; cbv
  obtain ⟨x, y, rfl, rfl, hx, hy⟩ := okW_nat h
  obtain ⟨u, rfl⟩ : ∃ u : Nat, n = u := ⟨n.toNat, by omega⟩
  simp only [Int.toNat_natCast, wN_nat]
  obtain ⟨t1, t2⟩ := tm_nat (a := x) (b := y) (u := u) hy (by omega)
  have hb : y * u < W128 := by
    have := Nat.mul_le_mul (show y ≤ 18446744073709551615 by omega) (show u ≤ 18446744073709551615 by omega)
    unfold W128; omega
  refine ⟨⟨⟨h.1, hn⟩, ⟨h.2, hn⟩, (by show drawOK _ _ = true; decide +kernel), trivial⟩, fun g => ?_, fun g => ⟨⟨⟨⟨?_, by decide⟩, okW_of hb⟩, trivial⟩, ?_⟩⟩
  · have g : wHi (x * u) ≠ 0 := by simpa using g
    have hno : ¬ (x * 18446744073709551616 + y) * u < W128 := fun hc => by
      have := (t1.1 hc).1
      exact g (wHi_small this)
    refine ⟨rfl, ⟨⟨rfl, ?_⟩, ⟨rfl, ?_⟩, rfl⟩, decide_eq_false hno, rfl⟩ <;> (dsimp only; unfold tmV; rw [if_neg hno]; rfl)
  · unfold wLo; omega
  · have g : wHi (x * u) = 0 := by simpa using g
    have g : x * u < 18446744073709551616 := by unfold wHi at g; omega
    have hs : wN (wLo (x * u)) 0 + wN (wHi (y * u)) (wLo (y * u)) = (x * 18446744073709551616 + y) * u := by
      rw [wN_of, t2, wLo_small g]; unfold wN; omega
    refine ⟨rfl, ⟨⟨rfl, ?_⟩, ⟨rfl, ?_⟩, rfl⟩, ?_, rfl⟩
    · rw [hs]; rfl
    · rw [hs]; rfl
    · show decide (wN (wLo (x * u)) 0 + wN (wHi (y * u)) (wLo (y * u)) < W128) = decide _
      rw [hs]
noncomputable def Fv4 : Table := addS 82 (.cons shWide (.cons (.int .i64) .nil)) (fun a b n => (.tuple (.cons (.agg (.cons (.int .u64 fun _ => wHi (capW (wN (a ()) (b ()) * 2 ^ (n ()).toNat))) (.cons (.int .u64 fun _ => wLo (capW (wN (a ()) (b ()) * 2 ^ (n ()).toNat))) .nil))) (.cons (.bool fun _ => decide (wN (a ()) (b ()) * 2 ^ (n ()).toNat < W128)) .nil)), [fun _ => okW (a ()) (b ()) ∧ 0 ≤ n () ∧ n () < 9223372036854775808]))
  (addS 54 (.cons shWide (.cons (.int .u64) .nil)) (fun a b n => (.tuple (.cons (.agg (.cons (.int .u64 fun _ => wHi (tmV (wN (a ()) (b ())) (n ()).toNat)) (.cons (.int .u64 fun _ => wLo (tmV (wN (a ()) (b ())) (n ()).toNat)) .nil))) (.cons (.bool fun _ => decide (wN (a ()) (b ()) * (n ()).toNat < W128)) .nil)), [fun _ => okW (a ()) (b ()) ∧ 0 ≤ n () ∧ n () < 18446744073709551616])) Fv3)
theorem Fv4_ok : TableOK Tryd.prog G0 Fv4 := addS_ok (⟨Tryd.func82, rfl, rfl, rfl, ⟨rfl, rfl⟩, ok _⟩ : FN 82 Tryd.f82).callable (fun a b n h => left_ok (a ()) (b ()) (n ()) h.1.1 h.1.2) (addS_ok (⟨Tryd.func54, rfl, rfl, rfl, ⟨rfl, rfl⟩, ok _⟩ : FN 54 Tryd.f54).callable (fun a b n h => times_ok (a ()) (b ()) (n ()) h.1.1 h.1.2) Fv3_ok)
end Go.Proofs.YtdikfhjpnfffnacDoor
