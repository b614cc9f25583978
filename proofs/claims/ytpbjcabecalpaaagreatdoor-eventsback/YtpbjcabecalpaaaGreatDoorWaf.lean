/- A part of what the walks of this claim stand on. -/
import Derived.Test.YtpbjcabecalpaaaGreatDoorWae
import Derived.Test.YtpbjcabecalpaaaGreatDoorGac
set_option maxRecDepth 2000
set_option linter.unusedVariables false
set_option linter.unusedSimpArgs false
namespace Go.Proofs.YtpbjcabecalpaaaGreatDoor
open Go Go.Abs Go.Proofs
def wP (h l : Int) : PV := .agg (.cons (.int .u64 fun _ => h) (.cons (.int .u64 fun _ => l) .nil))
def shWide : Sh := .agg (.cons (.int .u64) (.cons (.int .u64) .nil))
theorem less_ok (a b c d : Int) (h1 : okW a b) (h2 : okW c d) : PF 174 (.cons (wP a b) (.cons (wP c d) .nil)) (.bool fun _ => decide (wN a b < wN c d)) := by
  refine (⟨Tryz.func174, rfl, rfl, rfl, ⟨rfl, rfl⟩, ok _⟩ : FN 174 Tryz.f174).tree (mkO_ok F0_ok) false 40 rfl ?_
  conv => arg 5; cbv
  have hl := wN_less h1 h2
  refine ⟨fun h => ⟨rfl, ?_⟩, fun h => ⟨fun g => ⟨rfl, ?_⟩, fun g => ⟨rfl, ?_⟩⟩⟩
  · exact decide_eq_true (hl.2 (.inl (of_decide_eq_true h)))
  · have g : a = c := by simpa using g
    have h := of_decide_eq_false h
    show decide (b < d) = decide (wN a b < wN c d)
    rw [decide_eq_decide, hl]; omega
  · have g : ¬ a = c := by simpa using g
    have h := of_decide_eq_false h
    exact decide_eq_false fun hc => by rcases hl.1 hc with hc | hc <;> omega
noncomputable def Fv1 : Table := addS 174 (.cons shWide (.cons shWide .nil)) (fun a b c d => (.bool fun _ => decide (wN (a ()) (b ()) < wN (c ()) (d ())), [fun _ => okW (a ()) (b ()) ∧ okW (c ()) (d ())])) F0
theorem Fv1_ok : TableOK Tryz.prog G0 Fv1 := addS_ok (⟨Tryz.func174, rfl, rfl, rfl, ⟨rfl, rfl⟩, ok _⟩ : FN 174 Tryz.f174).callable (fun a b c d h => less_ok (a ()) (b ()) (c ()) (d ()) h.1.1 h.1.2) F0_ok
theorem compare_ok (a b c d : Int) (h1 : okW a b) (h2 : okW c d) : PF 145 (.cons (wP a b) (.cons (wP c d) .nil)) (.int .i64 fun _ => if wN a b < wN c d then -1 else if wN c d < wN a b then 1 else 0) := by
  refine (⟨Tryz.func145, rfl, rfl, rfl, ⟨rfl, rfl⟩, ok _⟩ : FN 145 Tryz.f145).tree (mkO_ok Fv1_ok) false 40 rfl ?_
  conv => arg 5; cbv
  refine ⟨⟨⟨h1, h2⟩, trivial⟩, fun h => ⟨rfl, rfl, ?_⟩, fun h => ⟨⟨⟨h2, h1⟩, trivial⟩, fun g => ⟨rfl, rfl, ?_⟩, fun g => ⟨rfl, rfl, ?_⟩⟩⟩
  · exact (if_pos (of_decide_eq_true h)).symm
  · exact ((if_neg (of_decide_eq_false h)).trans (if_pos (of_decide_eq_true g))).symm
  · exact ((if_neg (of_decide_eq_false h)).trans (if_neg (of_decide_eq_false g))).symm
theorem carry_ok (a b : Int) (ha : 0 ≤ a ∧ a < 18446744073709551616) (hb : 0 ≤ b ∧ b < 18446744073709551616) : PF 184 (.cons (u64 a) (.cons (u64 b) .nil)) (.int .u64 fun _ => (a + b) / 18446744073709551616) := by
  refine (⟨Tryz.func184, rfl, rfl, rfl, ⟨rfl, rfl⟩, ok _⟩ : FN 184 Tryz.f184).tree (mkO_ok F0_ok) false 40 rfl ?_
  conv => arg 5; cbv
  have hw : IntKind.u64.wrap (a + b) = (a + b) % 18446744073709551616 := rfl
  refine ⟨fun h => ⟨rfl, rfl, ?_⟩, fun h => ⟨rfl, rfl, ?_⟩⟩
  · have h := of_decide_eq_true h
    show 1 = (a + b) / 18446744073709551616
    omega
  · have h := of_decide_eq_false h
    show 0 = (a + b) / 18446744073709551616
    omega
theorem product_ok (a b : Int) (ha : 0 ≤ a ∧ a < 18446744073709551616) (hb : 0 ≤ b ∧ b < 18446744073709551616) : PF 179 (.cons (u64 a) (.cons (u64 b) .nil)) (.agg (.cons (.int .u64 fun _ => wHi (a.toNat * b.toNat)) (.cons (.int .u64 fun _ => wLo (a.toNat * b.toNat)) .nil))) := by
  refine (⟨Tryz.func179, rfl, rfl, rfl, ⟨rfl, rfl⟩, ok _⟩ : FN 179 Tryz.f179).tree (mkO_ok F0_ok) false 40 rfl ?_
  conv => arg 5; cbv
  have h32 : (0 : Int) ≤ 32 := by decide
  refine ⟨⟨h32, h32, h32, h32, h32, trivial⟩, rfl, ⟨rfl, ?_⟩, ⟨rfl, ?_⟩, rfl⟩
  · have := prodHi_eq (a := a.toNat) (b := b.toNat) (by omega) (by omega)
    rw [Int.toNat_of_nonneg ha.1, Int.toNat_of_nonneg hb.1] at this
    exact this
  · have := prodLo_eq a.toNat b.toNat
    rw [Int.toNat_of_nonneg ha.1, Int.toNat_of_nonneg hb.1] at this
    exact this
def lnA (x : Nat × Int × Nat) : Env := [(4, .int .i64 fun _ => stp x.1), (3, .int .i64 fun _ => x.2.1), (0, .int .u64 fun _ => (x.2.2 : Int))]
structure LI (a : Nat) (x : Nat × Int × Nat) : Prop where
  j : x.1 ≤ 6
  u : x.2.2 < 2 ^ (2 ^ x.1)
  n : x.2.1 + (bl x.2.2 : Int) = bl a
  n0 : 0 ≤ x.2.1
theorem length_ok (a : Nat) (ha : a < 18446744073709551616) : PF 180 (.cons (u64 a) .nil) (.int .i64 fun _ => (bl a : Int)) := by
  refine (⟨Tryz.func180, rfl, rfl, rfl, ⟨rfl, rfl⟩, ok _⟩ : FN 180 Tryz.f180).tree (mkO_ok F0_ok) false 40 rfl ?_
  conv => arg 5; cbv
  have hbl : bl a ≤ 64 := bl_le.2 ha
  refine run_inv (ι := Nat × Int × Nat) (fun x => x.1) (LI a) lnA (fun _ => []) 0 (6, 0, a) (fun i => i) (by rfl) (by rfl) ⟨Nat.le_refl _, ha, by show 0 + (bl a : Int) = bl a; omega, Int.le_refl 0⟩ ?_ ⟨impP_refl _, impP_refl _, impP_refl _, trivial⟩ trivial
  intro x hx ih
  obtain ⟨j, n, u⟩ := x
  have hn : n + (bl u : Int) = bl a := hx.n
  have hn0 : 0 ≤ n := hx.n0
  refine explore_ok (ok _) (mkO_ok F0_ok) (u := false) 20 _ rfl ?_
  conv => arg 5; cbv
  refine ⟨fun h => ?_, fun h => ?_⟩
  · have h : 0 < stp j := of_decide_eq_true h
    have hj : 0 < j := by
      apply Classical.byContradiction
      intro hn
      rw [show j = 0 by omega] at h
      exact absurd h (by decide)
    obtain ⟨s1, s2, s3, s4, s5, s6⟩ := stp_ok (u := u) hj hx.j hx.u
    refine ⟨⟨by show 0 ≤ stp j; omega, trivial⟩, fun g => ⟨⟨by show 0 ≤ stp j; omega, by decide, trivial⟩, ?_⟩, fun g => ⟨⟨by decide, trivial⟩, ?_⟩⟩
    · have g : (shr .u64 (u : Int) (stp j) != 0) = true := g
      have g : u / 2 ^ (stp j).toNat ≠ 0 := fun hc => by rw [s4, hc] at g; cases g
      have hb := bl_shift g
      refine ih (j - 1, n + stp j, u / 2 ^ (stp j).toNat) (fun i => i) ⟨by show j - 1 ≤ 6; have : j ≤ 6 := hx.j; omega, s5, by show n + stp j + (bl (u / 2 ^ (stp j).toNat) : Int) = bl a; omega, by show 0 ≤ n + stp j; omega⟩ (by show j - 1 < j; omega) (by rfl) ⟨⟨rfl, s3⟩, ⟨rfl, ?_⟩, ⟨rfl, s4⟩, trivial⟩ trivial
      show IntKind.i64.wrap (n + stp j) = n + stp j
      exact IntWalk.i64_in _ ⟨by omega, by omega⟩
    · have g : (shr .u64 (u : Int) (stp j) != 0) = false := g
      have g : u / 2 ^ (stp j).toNat = 0 := Classical.byContradiction fun hc => by rw [s4] at g; simp only [bne_eq_false_iff_eq] at g; omega
      exact ih (j - 1, n, u) (fun i => i) ⟨by show j - 1 ≤ 6; have : j ≤ 6 := hx.j; omega, s6 g, hn, hn0⟩ (by show j - 1 < j; omega) (by rfl) ⟨⟨rfl, s3⟩, impP_refl _, impP_refl _, trivial⟩ trivial
  · have h : ¬ 0 < stp j := of_decide_eq_false h
    have hj : j = 0 := by
      apply Classical.byContradiction
      intro hn
      exact h (stp_ok (u := u) (by omega) hx.j hx.u).1
    subst hj
    have hu : u < 2 := hx.u
    rw [bl_two hu] at hn
    refine ⟨rfl, rfl, ?_⟩
    show IntKind.i64.wrap (n + IntKind.i64.wrap (u : Int)) = (bl a : Int)
    rw [IntWalk.i64_in (u : Int) ⟨by omega, by omega⟩, IntWalk.i64_in _ ⟨by omega, by omega⟩]
    omega
noncomputable def Fv2 : Table := addS 145 (.cons shWide (.cons shWide .nil)) (fun a b c d => (.int .i64 fun _ => if wN (a ()) (b ()) < wN (c ()) (d ()) then -1 else if wN (c ()) (d ()) < wN (a ()) (b ()) then 1 else 0, [fun _ => okW (a ()) (b ()) ∧ okW (c ()) (d ())]))
  (addS 184 (.cons (.int .u64) (.cons (.int .u64) .nil)) (fun a b => (.int .u64 fun _ => (a () + b ()) / 18446744073709551616, [fun _ => (0 ≤ a () ∧ a () < 18446744073709551616) ∧ 0 ≤ b () ∧ b () < 18446744073709551616]))
  (addS 179 (.cons (.int .u64) (.cons (.int .u64) .nil)) (fun a b => ((.agg (.cons (.int .u64 fun _ => wHi ((a ()).toNat * (b ()).toNat)) (.cons (.int .u64 fun _ => wLo ((a ()).toNat * (b ()).toNat)) .nil))), [fun _ => (0 ≤ a () ∧ a () < 18446744073709551616) ∧ 0 ≤ b () ∧ b () < 18446744073709551616]))
  (addS 180 (.cons (.int .u64) .nil) (fun a => (.int .i64 fun _ => (bl (a ()).toNat : Int), [fun _ => 0 ≤ a () ∧ a () < 18446744073709551616])) Fv1)))
theorem Fv2_ok : TableOK Tryz.prog G0 Fv2 := addS_ok (⟨Tryz.func145, rfl, rfl, rfl, ⟨rfl, rfl⟩, ok _⟩ : FN 145 Tryz.f145).callable (fun a b c d h => compare_ok (a ()) (b ()) (c ()) (d ()) h.1.1 h.1.2) (addS_ok (⟨Tryz.func184, rfl, rfl, rfl, ⟨rfl, rfl⟩, ok _⟩ : FN 184 Tryz.f184).callable (fun a b h => carry_ok (a ()) (b ()) h.1.1 h.1.2)
  (addS_ok (⟨Tryz.func179, rfl, rfl, rfl, ⟨rfl, rfl⟩, ok _⟩ : FN 179 Tryz.f179).callable (fun a b h => product_ok (a ()) (b ()) h.1.1 h.1.2) (addS_ok (⟨Tryz.func180, rfl, rfl, rfl, ⟨rfl, rfl⟩, ok _⟩ : FN 180 Tryz.f180).callable (fun a h => by
    have := length_ok (a ()).toNat (by have := h.1; omega)
    rwa [show (((a ()).toNat : Nat) : Int) = a () from Int.toNat_of_nonneg h.1.1] at this) Fv1_ok)))
theorem bits_ok (a b : Int) (h : okW a b) : PF 164 (.cons (wP a b) .nil) (.int .i64 fun _ => (bl (wN a b) : Int)) := by
  refine (⟨Tryz.func164, rfl, rfl, rfl, ⟨rfl, rfl⟩, ok _⟩ : FN 164 Tryz.f164).tree (mkO_ok Fv2_ok) false 40 rfl ?_
  conv => arg 5; cbv
  obtain ⟨x, y, rfl, rfl, hx, hy⟩ := okW_nat h
  have hb := bl_words (a := x) hy
  have hb2 : bl x ≤ 64 := bl_le.2 hx
  refine ⟨fun g => ⟨⟨h.1, trivial⟩, rfl, rfl, ?_⟩, fun g => ⟨⟨h.2, trivial⟩, rfl, rfl, ?_⟩⟩
  · have g : x ≠ 0 := by simpa using g
    rw [if_pos g] at hb
    show IntKind.i64.wrap (64 + (bl (x : Int).toNat : Int)) = (bl (wN x y) : Int)
    rw [wN_nat, hb, Int.toNat_natCast, IntWalk.i64_in _ ⟨by omega, by omega⟩]; omega
  · have g : x = 0 := by simpa using g
    rw [if_neg (by omega)] at hb
    show (bl (y : Int).toNat : Int) = (bl (wN x y) : Int)
    rw [wN_nat, hb, Int.toNat_natCast]
theorem add_ok (a b c d : Int) (h1 : okW a b) (h2 : okW c d) : PF 171 (.cons (wP a b) (.cons (wP c d) .nil)) (.tuple (.cons (.agg (.cons (.int .u64 fun _ => wHi (capW (wN a b + wN c d))) (.cons (.int .u64 fun _ => wLo (capW (wN a b + wN c d))) .nil))) (.cons (.bool fun _ => decide (wN a b + wN c d < W128)) .nil))) := by
  refine (⟨Tryz.func171, rfl, rfl, rfl, ⟨rfl, rfl⟩, ok _⟩ : FN 171 Tryz.f171).tree (mkO_ok Fv2_ok) false 40 rfl ?_
  conv => arg 5; cbv
  have hw : ∀ n : Int, IntKind.u64.wrap n = n % 18446744073709551616 := fun _ => rfl
  obtain ⟨⟨a0, a1⟩, b0, b1⟩ := h1
  obtain ⟨⟨c0, c1⟩, d0, d1⟩ := h2
  have hs : wN a b + wN c d = (a.toNat + c.toNat) * 18446744073709551616 + (b.toNat + d.toNat) := by unfold wN; omega
  rw [hs]
  refine ⟨⟨⟨⟨b0, b1⟩, d0, d1⟩, ⟨⟨a0, a1⟩, c0, c1⟩, trivial⟩, fun g => ?_, fun g => ⟨⟨⟨?_, ?_⟩, trivial⟩, fun k => ?_, fun k => ?_⟩⟩
  · have g : (a + c) / 18446744073709551616 ≠ 0 := by simpa using g
    have hn : ¬ (a.toNat + c.toNat) * 18446744073709551616 + (b.toNat + d.toNat) < W128 := by unfold W128; omega
    refine ⟨rfl, ⟨⟨rfl, ?_⟩, ⟨rfl, ?_⟩, rfl⟩, decide_eq_false hn, rfl⟩ <;> (unfold capW; rw [if_neg hn]; rfl)
  · dsimp only; rw [hw]; omega
  · dsimp only; omega
  · have g : (a + c) / 18446744073709551616 = 0 := by simpa using g
    have k : (IntKind.u64.wrap (a + c) + (b + d) / 18446744073709551616) / 18446744073709551616 ≠ 0 := by simpa using k
    rw [hw] at k
    have hn : ¬ (a.toNat + c.toNat) * 18446744073709551616 + (b.toNat + d.toNat) < W128 := by unfold W128; omega
    refine ⟨rfl, ⟨⟨rfl, ?_⟩, ⟨rfl, ?_⟩, rfl⟩, decide_eq_false hn, rfl⟩ <;> (unfold capW; rw [if_neg hn]; rfl)
  · have g : (a + c) / 18446744073709551616 = 0 := by simpa using g
    have k : (IntKind.u64.wrap (a + c) + (b + d) / 18446744073709551616) / 18446744073709551616 = 0 := by simpa using k
    rw [hw] at k
    have hn : (a.toNat + c.toNat) * 18446744073709551616 + (b.toNat + d.toNat) < W128 := by unfold W128; omega
    refine ⟨rfl, ⟨⟨rfl, ?_⟩, ⟨rfl, ?_⟩, rfl⟩, decide_eq_true hn, rfl⟩ <;> (unfold capW; rw [if_pos hn]; simp only [wHi, wLo, hw]; omega)
theorem right_ok (a b n : Int) (h : okW a b) (h0 : 0 ≤ n ∧ n < 9223372036854775808) : PF 165 (.cons (wP a b) (.cons (i64 n) .nil)) (.agg (.cons (.int .u64 fun _ => wHi (wN a b / 2 ^ n.toNat)) (.cons (.int .u64 fun _ => wLo (wN a b / 2 ^ n.toNat)) .nil))) := by
  refine (⟨Tryz.func165, rfl, rfl, rfl, ⟨rfl, rfl⟩, ok _⟩ : FN 165 Tryz.f165).tree (mkO_ok F0_ok) false 40 rfl ?_
  conv => arg 5; cbv
  have hlt := wN_lt h
  obtain ⟨x, y, rfl, rfl, hx, hy⟩ := okW_nat h
  obtain ⟨k, rfl⟩ : ∃ k : Nat, n = k := ⟨n.toNat, by omega⟩
  rw [wN_nat] at *
  have hw1 : 64 ≤ k → k < 128 → IntKind.i64.wrap ((k : Int) - 64) = ((k - 64 : Nat) : Int) := fun _ _ => by rw [IntWalk.i64_in _ ⟨by omega, by omega⟩]; omega
  have hw2 : k < 64 → IntKind.i64.wrap (64 - (k : Int)) = ((64 - k : Nat) : Int) := fun _ => by rw [IntWalk.i64_in _ ⟨by omega, by omega⟩]; omega
  refine ⟨fun g => ?_, fun g => ⟨fun g2 => ?_, fun g2 => ⟨fun g3 => ⟨⟨?_, trivial⟩, ?_⟩, fun g3 => ⟨⟨h0.1, h0.1, ?_, (by show drawOK _ _ = true; decide +kernel), trivial⟩, ?_⟩⟩⟩⟩
  · have g : (k : Int) ≤ 0 := of_decide_eq_true g
    obtain rfl : k = 0 := by omega
    refine ⟨rfl, ⟨rfl, ?_⟩, ⟨rfl, ?_⟩, rfl⟩ <;> (simp only [Int.toNat_natCast, Nat.pow_zero, Nat.div_one, wHi, wLo]; omega)
  · have g2 : (128 : Int) ≤ (k : Int) := of_decide_eq_true g2
    have e : (x * 18446744073709551616 + y) / 2 ^ k = 0 := Nat.div_eq_of_lt (Nat.lt_of_lt_of_le hlt (Nat.pow_le_pow_right (n := 2) (i := 128) (by omega) (by omega)))
    refine ⟨rfl, ⟨rfl, ?_⟩, ⟨rfl, ?_⟩, rfl⟩ <;> (simp only [Int.toNat_natCast]; rw [e]; rfl)
  · have g2 : ¬ (128 : Int) ≤ (k : Int) := of_decide_eq_false g2
    have g3 : (64 : Int) ≤ (k : Int) := of_decide_eq_true g3
    show 0 ≤ IntKind.i64.wrap ((k : Int) - 64)
    rw [hw1 (by omega) (by omega)]; omega
  · have g2 : ¬ (128 : Int) ≤ (k : Int) := of_decide_eq_false g2
    have g3 : (64 : Int) ≤ (k : Int) := of_decide_eq_true g3
    have e : (x * 18446744073709551616 + y) / 2 ^ k = x / 2 ^ (k - 64) := by
      rw [show k = 64 + (k - 64) by omega, Nat.pow_add, ← Nat.div_div_eq_div_mul, show 64 + (k - 64) - 64 = k - 64 by omega]
      congr 1
      show (x * 18446744073709551616 + y) / 18446744073709551616 = x
      omega
    have hl : x / 2 ^ (k - 64) ≤ x := Nat.div_le_self _ _
    refine ⟨rfl, ⟨rfl, ?_⟩, ⟨rfl, ?_⟩, rfl⟩ <;> (simp only [Int.toNat_natCast]; rw [e])
    · exact (wHi_small (by omega)).symm
    · rw [wLo_small (by omega), hw1 (by omega) (by omega)]
      exact shr_nat x _ (by omega)
  · have g3 : ¬ (64 : Int) ≤ (k : Int) := of_decide_eq_false g3
    show 0 ≤ IntKind.i64.wrap (64 - (k : Int))
    rw [hw2 (by omega)]; omega
  · have g3 : ¬ (64 : Int) ≤ (k : Int) := of_decide_eq_false g3
    obtain ⟨r1, r2, r3⟩ := right_words (a := x) (b := y) (n := k) hy (by omega)
    refine ⟨rfl, ⟨rfl, ?_⟩, ⟨rfl, ?_⟩, rfl⟩ <;> simp only [Int.toNat_natCast]
    · unfold wHi
      rw [r1]; exact shr_nat x k (by omega)
    · unfold wLo
      have hm : 2 ^ (64 - k) * x % 18446744073709551616 = 2 ^ (64 - k) * (x % 2 ^ k) := by
        rw [show (18446744073709551616 : Nat) = 2 ^ (64 - k) * 2 ^ k by rw [← Nat.pow_add, show 64 - k + k = 64 by omega], Nat.mul_mod_mul_left]
      rw [r2, hw2 (by omega), shr_nat y k (by omega), shl_nat x _ (by omega), Nat.mul_comm x, hm, or_nat (Nat.lt_of_le_of_lt (Nat.div_le_self _ _) hy) (by rw [← hm]; exact Nat.mod_lt _ (by omega)), Nat.or_comm, or_add r3]
noncomputable def Fv3 : Table := addS 164 (.cons shWide .nil) (fun a b => (.int .i64 fun _ => (bl (wN (a ()) (b ())) : Int), [fun _ => okW (a ()) (b ())]))
  (addS 171 (.cons shWide (.cons shWide .nil)) (fun a b c d => (.tuple (.cons (.agg (.cons (.int .u64 fun _ => wHi (capW (wN (a ()) (b ()) + wN (c ()) (d ())))) (.cons (.int .u64 fun _ => wLo (capW (wN (a ()) (b ()) + wN (c ()) (d ())))) .nil))) (.cons (.bool fun _ => decide (wN (a ()) (b ()) + wN (c ()) (d ()) < W128)) .nil)), [fun _ => okW (a ()) (b ()) ∧ okW (c ()) (d ())]))
  (addS 165 (.cons shWide (.cons (.int .i64) .nil)) (fun a b n => ((.agg (.cons (.int .u64 fun _ => wHi (wN (a ()) (b ()) / 2 ^ (n ()).toNat)) (.cons (.int .u64 fun _ => wLo (wN (a ()) (b ()) / 2 ^ (n ()).toNat)) .nil))), [fun _ => okW (a ()) (b ()) ∧ 0 ≤ n () ∧ n () < 9223372036854775808])) Fv2))
theorem Fv3_ok : TableOK Tryz.prog G0 Fv3 := addS_ok (⟨Tryz.func164, rfl, rfl, rfl, ⟨rfl, rfl⟩, ok _⟩ : FN 164 Tryz.f164).callable (fun a b h => bits_ok (a ()) (b ()) h.1) (addS_ok (⟨Tryz.func171, rfl, rfl, rfl, ⟨rfl, rfl⟩, ok _⟩ : FN 171 Tryz.f171).callable (fun a b c d h => add_ok (a ()) (b ()) (c ()) (d ()) h.1.1 h.1.2) (addS_ok (⟨Tryz.func165, rfl, rfl, rfl, ⟨rfl, rfl⟩, ok _⟩ : FN 165 Tryz.f165).callable (fun a b n h => right_ok (a ()) (b ()) (n ()) h.1.1 h.1.2) Fv2_ok))
theorem left_ok (a b n : Int) (h : okW a b) (h0 : 0 ≤ n ∧ n < 9223372036854775808) : PF 186 (.cons (wP a b) (.cons (i64 n) .nil)) (.tuple (.cons (.agg (.cons (.int .u64 fun _ => wHi (capW (wN a b * 2 ^ n.toNat))) (.cons (.int .u64 fun _ => wLo (capW (wN a b * 2 ^ n.toNat))) .nil))) (.cons (.bool fun _ => decide (wN a b * 2 ^ n.toNat < W128)) .nil))) := by
  refine (⟨Tryz.func186, rfl, rfl, rfl, ⟨rfl, rfl⟩, ok _⟩ : FN 186 Tryz.f186).tree (mkO_ok Fv3_ok) false 40 rfl ?_
  conv => arg 5; cbv
  have hlt := wN_lt h
  have hbl := bl_most hlt
  obtain ⟨x, y, rfl, rfl, hx, hy⟩ := okW_nat h
  obtain ⟨k, rfl⟩ : ∃ k : Nat, n = k := ⟨n.toNat, by omega⟩
  rw [wN_nat] at *
  have hw1 : 64 ≤ k → k ≤ 128 → IntKind.i64.wrap ((k : Int) - 64) = ((k - 64 : Nat) : Int) := fun _ _ => by rw [IntWalk.i64_in _ ⟨by omega, by omega⟩]; omega
  have hw2 : k < 64 → IntKind.i64.wrap (64 - (k : Int)) = ((64 - k : Nat) : Int) := fun _ => by rw [IntWalk.i64_in _ ⟨by omega, by omega⟩]; omega
  have hwb : IntKind.i64.wrap (128 - (bl (x * 18446744073709551616 + y) : Int)) = 128 - (bl (x * 18446744073709551616 + y) : Int) := IntWalk.i64_in _ ⟨by omega, by omega⟩
  have hfit : k ≤ 128 → (k + bl (x * 18446744073709551616 + y) ≤ 128 ↔ (x * 18446744073709551616 + y) * 2 ^ k < W128) := fun hk => by
    rw [show (k + bl (x * 18446744073709551616 + y) ≤ 128) ↔ bl (x * 18446744073709551616 + y) ≤ 128 - k by omega, bl_le, show W128 = 2 ^ (128 - k) * 2 ^ k by rw [← Nat.pow_add, show 128 - k + k = 128 by omega]]
    exact (Nat.mul_lt_mul_right (Nat.two_pow_pos k)).symm
  simp only [Int.toNat_natCast]
  refine ⟨fun g => ?_, fun g => ⟨fun g2 => ?_, fun g2 => ⟨⟨h, trivial⟩, fun g3 => ?_, fun g3 => ⟨fun g4 => ⟨⟨?_, trivial⟩, ?_⟩, fun g4 => ⟨⟨h0.1, ?_, h0.1, (by show drawOK _ _ = true; decide +kernel), trivial⟩, ?_⟩⟩⟩⟩⟩
  · have g : x = 0 ∧ y = 0 := by simpa using g
    obtain ⟨rfl, rfl⟩ := g
    have hn : (0 * 18446744073709551616 + 0) * 2 ^ k < W128 := by simp
    refine ⟨rfl, ⟨⟨rfl, ?_⟩, ⟨rfl, ?_⟩, rfl⟩, ?_, rfl⟩
    · unfold capW; rw [if_pos hn]; simp [wHi]
    · unfold capW; rw [if_pos hn]; simp [wLo]
    · show decide (0 ≤ (k : Int)) = decide _
      rw [decide_eq_true hn, decide_eq_true (by omega)]
  · have g2 : (k : Int) < 0 := of_decide_eq_true g2
    omega
  · have g3 : IntKind.i64.wrap (128 - (bl (wN (x : Int) (y : Int)) : Int)) < (k : Int) := of_decide_eq_true g3
    rw [wN_nat, hwb] at g3
    have g : ¬ (x = 0 ∧ y = 0) := by simpa using g
    have hn : ¬ (x * 18446744073709551616 + y) * 2 ^ k < W128 := by
      by_cases hk : k ≤ 128
      · rw [← hfit hk]; omega
      · intro hc
        have h1 : 2 ^ 128 ≤ 2 ^ k := Nat.pow_le_pow_right (by omega) (by omega)
        have h2 : 1 * 2 ^ k ≤ (x * 18446744073709551616 + y) * 2 ^ k := Nat.mul_le_mul_right _ (by omega)
        unfold W128 at hc
        omega
    refine ⟨rfl, ⟨⟨rfl, ?_⟩, ⟨rfl, ?_⟩, rfl⟩, decide_eq_false hn, rfl⟩ <;> (unfold capW; rw [if_neg hn]; rfl)
  all_goals
    have g3 : ¬ IntKind.i64.wrap (128 - (bl (wN (x : Int) (y : Int)) : Int)) < (k : Int) := of_decide_eq_false g3
    rw [wN_nat, hwb] at g3
    have hk : k ≤ 128 := by omega
    have hn := (hfit hk).1 (by omega)
  · have g4 : (64 : Int) ≤ (k : Int) := of_decide_eq_true g4
    show 0 ≤ IntKind.i64.wrap ((k : Int) - 64)
    rw [hw1 (by omega) hk]; omega
  · have g4 : (64 : Int) ≤ (k : Int) := of_decide_eq_true g4
    have e2 : 2 ^ k = 2 ^ (k - 64) * 18446744073709551616 := by
      rw [show (18446744073709551616 : Nat) = 2 ^ 64 from rfl, ← Nat.pow_add, show k - 64 + 64 = k by omega]
    have h1 : 1 ≤ 2 ^ (k - 64) := Nat.one_le_two_pow
    have hx0 : x = 0 := by
      apply Classical.byContradiction
      intro hx0
      rw [e2, ← Nat.mul_assoc] at hn
      have h2 := Nat.mul_le_mul_left (x * 18446744073709551616 + y) h1
      unfold W128 at hn
      omega
    subst hx0
    have hv : (0 * 18446744073709551616 + y) * 2 ^ k = y * 2 ^ (k - 64) * 18446744073709551616 := by rw [Nat.zero_mul, Nat.zero_add, e2, Nat.mul_assoc]
    rw [hv] at hn
    have hm : y * 2 ^ (k - 64) < 18446744073709551616 := by unfold W128 at hn; omega
    refine ⟨rfl, ⟨⟨rfl, ?_⟩, ⟨rfl, ?_⟩, rfl⟩, ?_, rfl⟩
    · unfold capW; rw [hv, if_pos hn, hw1 (by omega) hk, shl_nat y _ (by omega), Nat.mod_eq_of_lt hm]; unfold wHi; rw [Nat.mul_div_cancel _ (by omega)]
    · unfold capW; rw [hv, if_pos hn]; unfold wLo; rw [Nat.mul_mod_left]; rfl
    · rw [← hv] at hn
      exact decide_eq_true hn
  · have g4 : ¬ (64 : Int) ≤ (k : Int) := of_decide_eq_false g4
    show 0 ≤ IntKind.i64.wrap (64 - (k : Int))
    rw [hw2 (by omega)]; omega
  · have g4 : ¬ (64 : Int) ≤ (k : Int) := of_decide_eq_false g4
    obtain ⟨r1, r2, r3⟩ := left_words (a := x) (b := y) (n := k) hy (by omega)
    have hx1 : 2 ^ k * x + y / 2 ^ (64 - k) < 18446744073709551616 := by
      rw [← r1]; exact Nat.div_lt_of_lt_mul (by unfold W128 at hn; omega)
    refine ⟨rfl, ⟨⟨rfl, ?_⟩, ⟨rfl, ?_⟩, rfl⟩, decide_eq_true hn, rfl⟩
    · have hx2 : x * 2 ^ k < 18446744073709551616 := by rw [Nat.mul_comm]; exact Nat.lt_of_le_of_lt (Nat.le_add_right _ _) hx1
      unfold capW; rw [if_pos hn, hw2 (by omega), shl_nat x k (by omega), shr_nat y _ (by omega), Nat.mod_eq_of_lt hx2, or_nat hx2 (Nat.lt_of_le_of_lt (Nat.div_le_self _ _) hy), Nat.mul_comm x, or_add r3]; unfold wHi; rw [r1]
    · unfold capW; rw [if_pos hn, shl_nat y k (by omega)]; unfold wLo; rw [r2]
theorem times_ok (a b n : Int) (h : okW a b) (hn : 0 ≤ n ∧ n < 18446744073709551616) : PF 162 (.cons (wP a b) (.cons (u64 n) .nil)) (.tuple (.cons (.agg (.cons (.int .u64 fun _ => wHi (tmV (wN a b) n.toNat)) (.cons (.int .u64 fun _ => wLo (tmV (wN a b) n.toNat)) .nil))) (.cons (.bool fun _ => decide (wN a b * n.toNat < W128)) .nil))) := by
  refine (⟨Tryz.func162, rfl, rfl, rfl, ⟨rfl, rfl⟩, ok _⟩ : FN 162 Tryz.f162).tree (mkO_ok Fv3_ok) false 40 rfl ?_
  conv => arg 5; cbv
  obtain ⟨x, y, rfl, rfl, hx, hy⟩ := okW_nat h
  obtain ⟨u, rfl⟩ : ∃ u : Nat, n = u := ⟨n.toNat, by omega⟩
  simp only [Int.toNat_natCast, wN_nat]
  obtain ⟨t1, t2⟩ := tm_nat (a := x) (b := y) (u := u) hy (by omega)
  have hb : y * u < W128 := by
    have := Nat.mul_le_mul (show y ≤ 18446744073709551615 by omega) (show u ≤ 18446744073709551615 by omega)
    unfold W128; omega
  refine ⟨⟨⟨h.1, hn⟩, ⟨h.2, hn⟩, (by show drawOK _ _ = true; decide +kernel), trivial⟩, fun g => ?_, fun g => ⟨⟨⟨⟨?_, by decide⟩, okW_of hb⟩, trivial⟩, ?_⟩⟩
  · have g : wHi (x * u) ≠ 0 := by simpa using g
    have hno : ¬ (x * 18446744073709551616 + y) * u < W128 := fun hc => by
      have := (t1.1 hc).1
      exact g (wHi_small this)
    refine ⟨rfl, ⟨⟨rfl, ?_⟩, ⟨rfl, ?_⟩, rfl⟩, decide_eq_false hno, rfl⟩ <;> (dsimp only; unfold tmV; rw [if_neg hno]; rfl)
  · unfold wLo; omega
  · have g : wHi (x * u) = 0 := by simpa using g
    have g : x * u < 18446744073709551616 := by unfold wHi at g; omega
    have hs : wN (wLo (x * u)) 0 + wN (wHi (y * u)) (wLo (y * u)) = (x * 18446744073709551616 + y) * u := by
      rw [wN_of, t2, wLo_small g]; unfold wN; omega
    refine ⟨rfl, ⟨⟨rfl, ?_⟩, ⟨rfl, ?_⟩, rfl⟩, ?_, rfl⟩
    · rw [hs]; rfl
    · rw [hs]; rfl
    · show decide (wN (wLo (x * u)) 0 + wN (wHi (y * u)) (wLo (y * u)) < W128) = decide _
      rw [hs]
noncomputable def Fv4 : Table := addS 186 (.cons shWide (.cons (.int .i64) .nil)) (fun a b n => (.tuple (.cons (.agg (.cons (.int .u64 fun _ => wHi (capW (wN (a ()) (b ()) * 2 ^ (n ()).toNat))) (.cons (.int .u64 fun _ => wLo (capW (wN (a ()) (b ()) * 2 ^ (n ()).toNat))) .nil))) (.cons (.bool fun _ => decide (wN (a ()) (b ()) * 2 ^ (n ()).toNat < W128)) .nil)), [fun _ => okW (a ()) (b ()) ∧ 0 ≤ n () ∧ n () < 9223372036854775808]))
  (addS 162 (.cons shWide (.cons (.int .u64) .nil)) (fun a b n => (.tuple (.cons (.agg (.cons (.int .u64 fun _ => wHi (tmV (wN (a ()) (b ())) (n ()).toNat)) (.cons (.int .u64 fun _ => wLo (tmV (wN (a ()) (b ())) (n ()).toNat)) .nil))) (.cons (.bool fun _ => decide (wN (a ()) (b ()) * (n ()).toNat < W128)) .nil)), [fun _ => okW (a ()) (b ()) ∧ 0 ≤ n () ∧ n () < 18446744073709551616])) Fv3)
theorem Fv4_ok : TableOK Tryz.prog G0 Fv4 := addS_ok (⟨Tryz.func186, rfl, rfl, rfl, ⟨rfl, rfl⟩, ok _⟩ : FN 186 Tryz.f186).callable (fun a b n h => left_ok (a ()) (b ()) (n ()) h.1.1 h.1.2) (addS_ok (⟨Tryz.func162, rfl, rfl, rfl, ⟨rfl, rfl⟩, ok _⟩ : FN 162 Tryz.f162).callable (fun a b n h => times_ok (a ()) (b ()) (n ()) h.1.1 h.1.2) Fv3_ok)
end Go.Proofs.YtpbjcabecalpaaaGreatDoor
namespace Go.Proofs.YtpbjcabecalpaaaGreatDoor
open Go Go.Abs Go.Proofs
def byA (u : Nat) (i : Int) (v : Nat) : Env := [(10, .int .i64 fun _ => i), (8, .int .u64 fun _ => ((v / 2 ^ (i + 1).toNat % u : Nat) : Int)), (7, .ptr 2 0), (4, .ptr 1 0), (2, .ptr 0 0), (1, .int .u64 fun _ => (u : Int))]
def byS (a b : Int) (u : Nat) (i : Int) (v : Nat) : Store := [(0, .var (wP a b)), (1, .var (wP 0 0)), (2, .var (.agg (.cons (.int .u64 fun _ => wHi (v / 2 ^ (i + 1).toNat / u)) (.cons (.int .u64 fun _ => wLo (v / 2 ^ (i + 1).toNat / u)) .nil))))]
theorem by_ok (a b n : Int) (h : okW a b) (hn : 0 ≤ n ∧ n < 18446744073709551616) : PF 136 (.cons (wP a b) (.cons (u64 n) .nil)) (.tuple (.cons (.agg (.cons (.int .u64 fun _ => wHi (wN a b / n.toNat)) (.cons (.int .u64 fun _ => wLo (wN a b / n.toNat)) .nil))) (.cons (.int .u64 fun _ => byR (wN a b) n) (.cons (.bool fun _ => decide (n ≠ 0)) .nil)))) := by
  refine (⟨Tryz.func136, rfl, rfl, rfl, ⟨rfl, rfl⟩, ok _⟩ : FN 136 Tryz.f136).tree (mkO_ok Fv4_ok) false 40 rfl ?_
  conv => arg 5; cbv
  obtain ⟨u, rfl⟩ : ∃ u : Nat, n = u := ⟨n.toNat, by omega⟩
  simp only [Int.toNat_natCast]
  have hlt := wN_lt h
  have hbl := bl_most hlt
  have hv := bl_le.1 (Nat.le_refl (bl (wN a b)))
  generalize hV : wN a b = v at *
  refine ⟨fun g => ?_, fun g => ⟨⟨h, trivial⟩, ?_⟩⟩
  · have g : u = 0 := by simpa using g
    subst g
    refine ⟨rfl, ⟨⟨rfl, ?_⟩, ⟨rfl, ?_⟩, rfl⟩, ⟨rfl, rfl⟩, rfl, rfl⟩ <;> (rw [Nat.div_zero]; rfl)
  have g : u ≠ 0 := by simpa using g
  have hw : IntKind.i64.wrap ((bl v : Int) - 1) = bl v - 1 := IntWalk.i64_in _ ⟨by omega, by omega⟩
  have h0 : v / 2 ^ ((bl v : Int) - 1 + 1).toNat = 0 := by
    rw [show ((bl v : Int) - 1 + 1).toNat = bl v by omega]
    exact Nat.div_eq_of_lt hv
  refine run_inv (ι := Int) (fun i => (i + 1).toNat) (fun i => -1 ≤ i ∧ i < 128) (fun i => byA u i v) (fun i => byS a b u i v) 3 ((bl v : Int) - 1) (fun i => i) (by rfl) (by rfl) ⟨by omega, by omega⟩ ?_ ?_ ?_
  · intro i hi ih
    refine explore_ok (ok _) (mkO_ok Fv4_ok) (u := false) 20 _ rfl ?_
    conv => arg 5; cbv
    have h63 : (0 : Int) ≤ 63 := by decide
    have h1 : (0 : Int) ≤ 1 := by decide
    refine ⟨fun g2 => ⟨⟨h63, h1, ⟨h, ?_⟩, h1, h63, h1, trivial⟩, ?_⟩, fun g2 => ?_⟩
    · have g2 : 0 ≤ i := of_decide_eq_true g2
      exact ⟨g2, by have := hi.2; show i < 9223372036854775808; omega⟩
    · have g2 : 0 ≤ i := of_decide_eq_true g2
      obtain ⟨k, rfl⟩ : ∃ k : Nat, i = k := ⟨i.toNat, by omega⟩
      have hk : k < 128 := by omega
      have hwi : IntKind.i64.wrap ((k : Int) - 1) = k - 1 := IntWalk.i64_in _ ⟨by omega, by omega⟩
      obtain ⟨p1, p2, p3⟩ := by_step (v := v) (i := k) (u := u) (by omega)
      have e1 : ((k : Int) + 1).toNat = k + 1 := by omega
      have e2 : ((k : Int) - 1 + 1).toNat = k := by omega
      have hR : v / 2 ^ (k + 1) % u < u := Nat.mod_lt _ (by omega)
      have hQ : v / 2 ^ (k + 1) / u < 170141183460469231731687303715884105728 := by
        have h1 : v / 2 ^ (k + 1) / u ≤ v / 2 ^ (k + 1) := Nat.div_le_self _ _
        have h2 : v / 2 ^ (k + 1) ≤ v / 2 ^ 1 := Nat.div_le_div_left (Nat.pow_le_pow_right (by omega) (by omega)) (by omega)
        unfold W128 at hlt; omega
      obtain ⟨q1, q2, q3, q4⟩ := by_quo hQ
      obtain ⟨s1, s2⟩ := by_rest (R := v / 2 ^ (k + 1) % u) (b := v / 2 ^ k % 2) (by omega) (by omega)
      have hb := by_bit (v / 2 ^ k)
      have hw64 : ∀ n : Int, IntKind.u64.wrap n = n % 18446744073709551616 := fun _ => rfl
      simp only [hV, e1, Int.toNat_natCast, hb, s1, s2, q1, q2, cast_fold, Int.ofNat_eq_natCast]
      generalize v / 2 ^ (k + 1) % u = R at *
      generalize v / 2 ^ (k + 1) / u = Q at *
      have hbit : v / 2 ^ k % 2 < 2 := Nat.mod_lt _ (by omega)
      clear s1 s2 hb q1 q2 hlt hbl hv hw h0 hQ p1
      generalize v / 2 ^ k % 2 = b at *
      refine ⟨fun g3 => ?_, fun g3 => ⟨fun g4 => ?_, fun g4 => ?_⟩⟩
      · have g3 := bneT g3
        have hge : u ≤ 2 * R + b := by omega
        rw [if_pos hge] at p2 p3
        refine ih (k - 1) (fun i => i) ⟨by omega, by omega⟩ (by omega) (by rfl) ⟨⟨rfl, hwi⟩, ⟨rfl, ?_⟩, impP_refl _, impP_refl _, impP_refl _, impP_refl _, trivial⟩ ⟨impP_refl _, impP_refl _, ⟨⟨rfl, ?_⟩, ⟨rfl, ?_⟩, rfl⟩, trivial⟩
        · show IntKind.u64.wrap _ = ((v / 2 ^ ((k : Int) - 1 + 1).toNat % u : Nat) : Int)
          rw [hw64, e2, p3]; omega
        · rw [e2, p2, q4]
        · rw [e2, p2, q3]
      · have g3 := bneF g3
        have g4 := of_decide_eq_true g4
        have hge : u ≤ 2 * R + b := by omega
        rw [if_pos hge] at p2 p3
        refine ih (k - 1) (fun i => i) ⟨by omega, by omega⟩ (by omega) (by rfl) ⟨⟨rfl, hwi⟩, ⟨rfl, ?_⟩, impP_refl _, impP_refl _, impP_refl _, impP_refl _, trivial⟩ ⟨impP_refl _, impP_refl _, ⟨⟨rfl, ?_⟩, ⟨rfl, ?_⟩, rfl⟩, trivial⟩
        · show IntKind.u64.wrap _ = ((v / 2 ^ ((k : Int) - 1 + 1).toNat % u : Nat) : Int)
          rw [hw64, e2, p3]; omega
        · rw [e2, p2, q4]
        · rw [e2, p2, q3]
      · have g3 := bneF g3
        have g4 := of_decide_eq_false g4
        have hge : ¬ u ≤ 2 * R + b := by omega
        rw [if_neg hge] at p2 p3
        refine ih (k - 1) (fun i => i) ⟨by omega, by omega⟩ (by omega) (by rfl) ⟨⟨rfl, hwi⟩, ⟨rfl, ?_⟩, impP_refl _, impP_refl _, impP_refl _, impP_refl _, trivial⟩ ⟨impP_refl _, impP_refl _, ⟨⟨rfl, ?_⟩, ⟨rfl, ?_⟩, rfl⟩, trivial⟩
        · dsimp only; rw [e2, p3]; omega
        · rw [e2, p2, Nat.add_zero]
        · rw [e2, p2, Nat.add_zero]
    · have g2 : ¬ 0 ≤ i := of_decide_eq_false g2
      obtain rfl : i = -1 := by omega
      refine ⟨rfl, ⟨⟨rfl, ?_⟩, ⟨rfl, ?_⟩, rfl⟩, ⟨rfl, ?_⟩, ?_, rfl⟩
      · simp
      · simp
      · rw [byR_nat v (by omega)]; simp
      · exact decide_eq_true (by omega)
  · refine ⟨⟨rfl, hw⟩, ⟨rfl, ?_⟩, impP_refl _, impP_refl _, impP_refl _, impP_refl _, trivial⟩
    rw [h0, Nat.zero_mod]; rfl
  · refine ⟨impP_refl _, impP_refl _, ⟨⟨rfl, ?_⟩, ⟨rfl, ?_⟩, rfl⟩, trivial⟩ <;> (rw [h0, Nat.zero_div]; rfl)
noncomputable def Fv5 : Table := addS 136 (.cons shWide (.cons (.int .u64) .nil)) (fun a b n => (.tuple (.cons (.agg (.cons (.int .u64 fun _ => wHi (wN (a ()) (b ()) / (n ()).toNat)) (.cons (.int .u64 fun _ => wLo (wN (a ()) (b ()) / (n ()).toNat)) .nil))) (.cons (.int .u64 fun _ => byR (wN (a ()) (b ())) (n ())) (.cons (.bool fun _ => decide (n () ≠ 0)) .nil))), [fun _ => okW (a ()) (b ()) ∧ 0 ≤ n () ∧ n () < 18446744073709551616])) Fv4
theorem Fv5_ok : TableOK Tryz.prog G0 Fv5 := addS_ok (⟨Tryz.func136, rfl, rfl, rfl, ⟨rfl, rfl⟩, ok _⟩ : FN 136 Tryz.f136).callable (fun a b n h => by_ok (a ()) (b ()) (n ()) h.1.1 h.1.2) Fv4_ok
def wtA (x : Nat × List UInt8) : Env := [(4, .int .i64 fun _ => 40 - (x.2.length : Int)), (3, .ptr 1 0), (2, .str fun _ => ⟨#[]⟩), (1, .ptr 0 0)]
def wtS (x : Nat × List UInt8) : Store := [(0, .var (.agg (.cons (.int .u64 fun _ => wHi (x.1)) (.cons (.int .u64 fun _ => wLo (x.1)) .nil)))), (1, .var (.arrI .u8 40 fun _ => List.replicate (40 - x.2.length) 0 ++ x.2.map fun c => (c.toNat : Int)))]
structure WI (v0 : Nat) (x : Nat × List UInt8) : Prop where
  all : leftT x.1 x.2 = Lib.decDigits v0
  few : x.1 * 10 ^ x.2.length ≤ v0
  ne : x.1 = 0 → x.2 ≠ []
theorem text_ok (a b : Int) (h : okW a b) : PF 137 (.cons (wP a b) .nil) (.str fun _ => toB (Lib.decDigits (wN a b))) := by
  refine (⟨Tryz.func137, rfl, rfl, rfl, ⟨rfl, rfl⟩, ok _⟩ : FN 137 Tryz.f137).tree (mkO_ok Fv5_ok) false 40 rfl ?_
  conv => arg 5; cbv
  have hlt := wN_lt h
  have hz := wN_zero h
  generalize hV : wN a b = v at *
  refine ⟨fun g => ?_, fun g => ?_⟩
  · have g : a = 0 ∧ b = 0 := by simpa using g
    have : v = 0 := hz.2 g
    subst this
    refine ⟨rfl, ?_⟩
    show (⟨#[48]⟩ : ByteArray) = _
    rw [Lib.decDigits_one (by omega)]; rfl
  have g : ¬ (a = 0 ∧ b = 0) := by simpa using g
  have hv0 : v ≠ 0 := fun hc => g (hz.1 hc)
  refine run_inv (ι := Nat × List UInt8) (fun x => x.1) (WI v) wtA wtS 2 (v, []) (fun i => i) (by rfl) (by rfl) ⟨leftT_start v, by show v * 1 ≤ v; omega, fun hc => absurd hc hv0⟩ ?_ ⟨impP_refl _, impP_refl _, impP_refl _, impP_refl _, trivial⟩ ⟨⟨⟨rfl, ?_⟩, ⟨rfl, ?_⟩, rfl⟩, ⟨rfl, rfl, rfl⟩, trivial⟩
  · intro x hx ih
    refine explore_ok (ok _) (mkO_ok Fv5_ok) (u := false) 1 _ rfl ?_
    conv => arg 5; cbv
    have hfew := hx.few
    have e10 : Int.toNat 10 = 10 := rfl
    have hx1 : x.1 ≤ v := by
      have : x.1 * 1 ≤ x.1 * 10 ^ x.2.length := Nat.mul_le_mul_left _ (Nat.pow_pos (by omega))
      omega
    have hlen : x.1 ≠ 0 → x.2.length < 40 := fun h0 => by
      have h1 : 1 * 10 ^ x.2.length ≤ x.1 * 10 ^ x.2.length := Nat.mul_le_mul_right _ (by omega)
      apply Classical.byContradiction
      intro hc
      have : 10 ^ 40 ≤ 10 ^ x.2.length := Nat.pow_le_pow_right (by omega) (by omega)
      unfold W128 at hlt
      omega
    refine ⟨fun g2 => ?_, fun g2 => ?_⟩
    · have g2 : x.1 ≠ 0 := fun hc => by rw [hc] at g2; cases g2
      have hl := hlen g2
      have hw : IntKind.i64.wrap (40 - (x.2.length : Int) - 1) = 39 - (x.2.length : Int) := by rw [IntWalk.i64_in _ ⟨by omega, by omega⟩]; omega
      have hr : 0 ≤ IntKind.i64.wrap (40 - (x.2.length : Int) - 1) ∧ IntKind.i64.wrap (40 - (x.2.length : Int) - 1) < ((40 : Nat) : Int) := by rw [hw]; omega
      refine explore_ok (ok _) (mkO_ok Fv5_ok) (u := false) 20 _ rfl ?_
      conv => arg 5; cbv
      simp only [wN_of, e10]
      have hd : x.1 % 10 < 10 := Nat.mod_lt _ (by omega)
      have h8 : IntKind.u8.wrap (48 + IntKind.u8.wrap ((x.1 % 10 : Nat) : Int)) = ((UInt8.ofNat (48 + x.1 % 10)).toNat : Int) := by
        rw [IntWalk.u8_in ((x.1 % 10 : Nat) : Int) ⟨by omega, by omega⟩, IntWalk.u8_in _ ⟨by omega, by omega⟩, UInt8.toNat_ofNat']; omega
      have hno : ¬ (x.1 = 0 ∧ x.2 ≠ []) := fun hc => g2 hc.1
      refine ⟨⟨⟨okW_of (by omega), by decide⟩, hr, hr, trivial⟩, ih (x.1 / 10, UInt8.ofNat (48 + x.1 % 10) :: x.2) (fun i => i) ⟨?_, ?_, fun _ => by simp⟩ (by show x.1 / 10 < x.1; omega) (by rfl) ⟨⟨rfl, ?_⟩, impP_refl _, impP_refl _, impP_refl _, trivial⟩ ⟨impP_refl _, ⟨rfl, rfl, ?_⟩, trivial⟩⟩
      · show leftT (x.1 / 10) (UInt8.ofNat (48 + x.1 % 10) :: x.2) = _
        rw [leftT_step _ _ hno, hx.all]
      · show x.1 / 10 * 10 ^ (x.2.length + 1) ≤ v
        have : x.1 / 10 * 10 ≤ x.1 := Nat.div_mul_le_self _ _
        calc x.1 / 10 * 10 ^ (x.2.length + 1) = x.1 / 10 * 10 * 10 ^ x.2.length := by rw [Nat.pow_succ, Nat.mul_assoc, Nat.mul_comm (10 ^ x.2.length) 10]
          _ ≤ x.1 * 10 ^ x.2.length := Nat.mul_le_mul_right _ this
          _ ≤ v := hfew
      · show IntKind.i64.wrap (40 - (x.2.length : Int) - 1) = 40 - (((x.2.length + 1 : Nat)) : Int)
        rw [hw]; omega
      · show (List.replicate (40 - x.2.length) 0 ++ List.map (fun c : UInt8 => (c.toNat : Int)) x.2).set (IntKind.i64.wrap (40 - (x.2.length : Int) - 1)).toNat (IntKind.u8.wrap (48 + IntKind.u8.wrap (byR x.1 10))) = List.replicate (40 - (x.2.length + 1)) 0 ++ ((UInt8.ofNat (48 + x.1 % 10)).toNat : Int) :: List.map (fun c : UInt8 => (c.toNat : Int)) x.2
        rw [byR_ten, h8, hw, show (39 - (x.2.length : Int)).toNat = 39 - x.2.length by omega, show 40 - x.2.length = (40 - (x.2.length + 1)) + 1 by omega, List.replicate_succ', List.append_assoc, show 39 - x.2.length = (List.replicate (40 - (x.2.length + 1)) (0 : Int)).length by rw [List.length_replicate]; omega, List.set_append_right _ _ (Nat.le_refl _), Nat.sub_self]
        rfl
    · have g2 : x.1 = 0 := Classical.byContradiction fun hc => by
        have : wHi x.1 = 0 ∧ wLo x.1 = 0 := by simpa using g2
        have h2 := wN_of x.1
        rw [this.1, this.2] at h2
        exact hc h2.symm
      have hall := hx.all
      rw [leftT_end _ _ ⟨g2, hx.ne g2⟩] at hall
      have hl : x.2.length ≤ 40 := by
        rw [hall]
        exact dec_len (by unfold W128 at hlt; omega) (by omega)
      refine Go.Abs.run_freeze 1 (.arrI .u8 40 fun _ => List.replicate (40 - x.2.length) 0 ++ x.2.map fun c => (c.toNat : Int)) (by rfl) (by rfl) (by rfl) ?_
      refine explore_ok (ok _) (mkO_ok Fv5_ok) (u := false) 20 _ rfl ?_
      conv => arg 5; cbv
      refine ⟨⟨⟨(by (try dsimp only); (try simp only [cast_fold, Int.ofNat_eq_natCast]); omega), (by (try dsimp only); (try simp only [cast_fold, Int.ofNat_eq_natCast]); omega), by decide, by decide⟩, fun j => rfl, trivial⟩, rfl, ?_⟩
      have e : rdL rd8 (fun _ => 40 - (40 - (x.2.length : Int))) (fun q => PV.int .u8 fun _ => (List.replicate (40 - x.2.length) 0 ++ List.map (fun c : UInt8 => (c.toNat : Int)) x.2).getD (40 - (x.2.length : Int) + q ()).toNat 0) = x.2.map fun c : UInt8 => (c.toNat : Int) := by
        refine rdL_ext rd8 _ _ _ (by rw [List.length_map]; omega) fun i hi => ?_
        have hi' : i < x.2.length := by simpa using hi
        show (List.replicate (40 - x.2.length) 0 ++ List.map (fun c : UInt8 => (c.toNat : Int)) x.2).getD (40 - (x.2.length : Int) + (i : Int)).toNat 0 = _
        rw [List.getD_eq_getElem?_getD, List.getElem?_append_right (by rw [List.length_replicate]; omega), List.length_replicate, show (40 - (x.2.length : Int) + (i : Int)).toNat - (40 - x.2.length) = i by omega, List.getElem?_eq_getElem hi]
        rfl
      show bytesOf (rdL rd8 (fun _ => 40 - (40 - (x.2.length : Int))) (fun q => PV.int .u8 fun _ => (List.replicate (40 - x.2.length) 0 ++ List.map (fun c : UInt8 => (c.toNat : Int)) x.2).getD (40 - (x.2.length : Int) + q ()).toNat 0)) = toB (Lib.decDigits v)
      rw [e, bytesOf_map, hall]
  · rw [← hV]; exact (wHi_wN h).symm
  · rw [← hV]; exact (wLo_wN h).symm
noncomputable def Fv6 : Table := addS 137 (.cons shWide .nil) (fun a b => (.str fun _ => toB (Lib.decDigits (wN (a ()) (b ()))), [fun _ => okW (a ()) (b ())])) Fv5
theorem Fv6_ok : TableOK Tryz.prog G0 Fv6 := addS_ok (⟨Tryz.func137, rfl, rfl, rfl, ⟨rfl, rfl⟩, ok _⟩ : FN 137 Tryz.f137).callable (fun a b h => text_ok (a ()) (b ()) h.1) Fv5_ok
theorem of_ok (u : Int) : PF 139 (.cons (u64 u) .nil) (.agg (.cons (.int .u64 fun _ => 0) (.cons (.int .u64 fun _ => u) .nil))) := by
  refine (⟨Tryz.func139, rfl, rfl, rfl, ⟨rfl, rfl⟩, ok _⟩ : FN 139 Tryz.f139).tree (mkO_ok F0_ok) false 40 rfl ?_
  conv => arg 5; cbv
  exact ⟨rfl, ⟨rfl, rfl⟩, ⟨rfl, rfl⟩, rfl⟩
theorem uint_ok (a b : Int) : PF 138 (.cons (wP a b) .nil) (.tuple (.cons (.int .u64 fun _ => if a = 0 then b else 0) (.cons (.bool fun _ => decide (a = 0)) .nil))) := by
  refine (⟨Tryz.func138, rfl, rfl, rfl, ⟨rfl, rfl⟩, ok _⟩ : FN 138 Tryz.f138).tree (mkO_ok F0_ok) false 40 rfl ?_
  conv => arg 5; cbv
  refine ⟨fun h => ⟨rfl, ⟨rfl, (if_neg (bneT h)).symm⟩, decide_eq_false (bneT h), rfl⟩, fun h => ⟨rfl, ⟨rfl, (if_pos (bneF h)).symm⟩, decide_eq_true (bneF h), rfl⟩⟩
noncomputable def Fw : Table := addS 139 (.cons (.int .u64) .nil) (fun u => (.agg (.cons (.int .u64 fun _ => 0) (.cons (.int .u64 u) .nil)), [])) (addS 138 (.cons shWide .nil) (fun a b => (.tuple (.cons (.int .u64 fun _ => if a () = 0 then b () else 0) (.cons (.bool fun _ => decide (a () = 0)) .nil)), [])) Fv6)
theorem Fw_ok : TableOK Tryz.prog G0 Fw := addS_ok (⟨Tryz.func139, rfl, rfl, rfl, ⟨rfl, rfl⟩, ok _⟩ : FN 139 Tryz.f139).callable (fun u _ => of_ok (u ())) (addS_ok (⟨Tryz.func138, rfl, rfl, rfl, ⟨rfl, rfl⟩, ok _⟩ : FN 138 Tryz.f138).callable (fun a b _ => uint_ok (a ()) (b ())) Fv6_ok)
end Go.Proofs.YtpbjcabecalpaaaGreatDoor
namespace Go.Proofs.YtpbjcabecalpaaaGreatDoor
open Go Go.Abs Go.Proofs
def sufG (i : Nat) : List UInt8 × Int × Nat := sufs.getD i ([], 0, 0)
noncomputable def Fc1 : Table := addA 181 (ctx Tryz.f181) (mkO F0) (body Tryz.f181) 8 Fw
theorem Fc1_ok : TableOK Tryz.prog G0 Fc1 := addA_ok (⟨Tryz.func181, rfl, rfl, rfl, ⟨rfl, rfl⟩, ok _⟩ : FN 181 Tryz.f181) (mkO_ok F0_ok) Fw_ok
theorem prefix_ok (s p : ByteArray) : PF 169 (.cons (.str fun _ => s) (.cons (.str fun _ => p) .nil)) (.bool fun _ => p.data.toList.isPrefixOf s.data.toList) := by
  refine (⟨Tryz.func169, rfl, rfl, rfl, ⟨rfl, rfl⟩, ok _⟩ : FN 169 Tryz.f169).tree (mkO_ok Fc1_ok) false 40 rfl ?_
  conv => arg 5; cbv
  refine ⟨⟨⟨fun h => ⟨⟨(by (try dsimp only); (try simp only [cast_fold, Int.ofNat_eq_natCast]); omega), of_decide_eq_true h⟩, trivial⟩, fun _ => trivial⟩, trivial⟩, rfl, prefix_iff s p⟩
theorem suffixes_ok : PF 182 .nil (.slice none 3 (fun _ => 16) fun j => .agg (.cons (.str fun _ => toB (sufG (j ()).toNat).1) (.cons (.int .i64 fun _ => (sufG (j ()).toNat).2.1) (.cons (.int .i64 fun _ => ((sufG (j ()).toNat).2.2 : Nat)) .nil)))) := by
  refine (⟨Tryz.func182, rfl, rfl, rfl, ⟨rfl, rfl⟩, ok _⟩ : FN 182 Tryz.f182).tree (mkO_ok Fc1_ok) false 40 rfl ?_
  conv => arg 5; cbv
  refine ⟨rfl, .inl rfl, rfl, rfl, fun j h0 h1 => ?_⟩
  have h1 : j < 16 := h1
  have : j = 0 ∨ j = 1 ∨ j = 2 ∨ j = 3 ∨ j = 4 ∨ j = 5 ∨ j = 6 ∨ j = 7 ∨ j = 8 ∨ j = 9 ∨ j = 10 ∨ j = 11 ∨ j = 12 ∨ j = 13 ∨ j = 14 ∨ j = 15 := by omega
  rcases this with rfl | rfl | rfl | rfl | rfl | rfl | rfl | rfl | rfl | rfl | rfl | rfl | rfl | rfl | rfl | rfl <;> exact ⟨rfl, ⟨rfl, rfl⟩, ⟨rfl, rfl⟩, rfl⟩
noncomputable def Fc3 : Table := addS 169 (.cons .str (.cons .str .nil)) (fun s p => (.bool fun _ => (p ()).data.toList.isPrefixOf (s ()).data.toList, [])) (addS 182 .nil ((.slice none 3 (fun _ => 16) fun j => .agg (.cons (.str fun _ => toB (sufG (j ()).toNat).1) (.cons (.int .i64 fun _ => (sufG (j ()).toNat).2.1) (.cons (.int .i64 fun _ => ((sufG (j ()).toNat).2.2 : Nat)) .nil)))), []) Fw)
theorem Fc3_ok : TableOK Tryz.prog G0 Fc3 := addS_ok (⟨Tryz.func169, rfl, rfl, rfl, ⟨rfl, rfl⟩, ok _⟩ : FN 169 Tryz.f169).callable (fun s p _ => prefix_ok (s ()) (p ())) (addS_ok (⟨Tryz.func182, rfl, rfl, rfl, ⟨rfl, rfl⟩, ok _⟩ : FN 182 Tryz.f182).callable (fun _ => suffixes_ok) Fw_ok)
theorem digits_ok (s : ByteArray) (hs : s.size < 2147483648) : PF 168 (.cons (.str fun _ => s) .nil) (.tuple (.cons (.str fun _ => digB s) (.cons (.str fun _ => rstB s) .nil))) := by
  refine (⟨Tryz.func168, rfl, rfl, rfl, ⟨rfl, rfl⟩, ok _⟩ : FN 168 Tryz.f168).tree (mkO_ok Fc3_ok) false 40 rfl ?_
  conv => arg 5; cbv
  refine run_inv (ι := Nat) (fun n => s.size - n) (fun n => n ≤ s.size ∧ (s.data.toList.take n).all isD = true) (fun n => [(4, .int .i64 fun _ => (n : Int)), (0, .str fun _ => s)]) (fun _ => []) 0 0 (fun i => i) (by rfl) (by rfl) ⟨Nat.zero_le _, rfl⟩ ?_ ⟨impP_refl _, impP_refl _, trivial⟩ trivial
  intro n hn ih
  have hw : IntKind.i64.wrap ((n : Int) + 1) = ((n + 1 : Nat) : Int) := by rw [IntWalk.i64_in _ ⟨by omega, by omega⟩]; omega
  have hc : 0 ≤ (n : Int) ∧ (n : Int) ≤ (s.size : Int) := by omega
  have hend : (∀ c, s.data.toList[n]? = some c → isD c = false) → impP (.tuple (.cons (.str fun _ => s.extract 0 n) (.cons (.str fun _ => s.extract n s.size) .nil))) (.tuple (.cons (.str fun _ => digB s) (.cons (.str fun _ => rstB s) .nil))) := fun h => by
    obtain ⟨h1, h2⟩ := span_at hn.2 h
    refine ⟨?_, ?_, rfl⟩
    · show s.extract 0 n = digB s
      unfold digB
      rw [h1, extB]; rfl
    · show s.extract n s.size = rstB s
      unfold rstB
      rw [h2, restB]
  refine explore_ok (ok _) (mkO_ok Fc3_ok) (u := false) 20 _ rfl ?_
  conv => arg 5; cbv
  refine ⟨fun h => ?_, fun h => ⟨⟨hc, hc, (by show drawOK _ _ = true; decide +kernel), trivial⟩, rfl, hend fun c h2 => ?_⟩⟩
  · simp only [decide_eq_true_eq, Int.ofNat_eq_natCast, cast_fold] at h
    have hlt : n < s.size := by omega
    obtain ⟨c, h1, h2, h3, h4⟩ := atB hlt
    have hr : 0 ≤ (n : Int) ∧ (n : Int) < (s.size : Int) := by omega
    have hno : isD c = false → ∀ c, s.data.toList[n]? = some c → isD c = false := fun h c' hc' => by rw [h1] at hc'; cases hc'; exact h
    refine ⟨⟨hr, trivial⟩, fun g => ⟨⟨hr, trivial⟩, fun g2 => ?_, fun g2 => ⟨⟨hc, hc, (by show drawOK _ _ = true; decide +kernel), trivial⟩, rfl, hend (hno ?_)⟩⟩, fun g => ⟨⟨hc, hc, (by show drawOK _ _ = true; decide +kernel), trivial⟩, rfl, hend (hno ?_)⟩⟩
    · have g : (48 : Int) ≤ byteAt s n := of_decide_eq_true g
      have g2 : byteAt s n ≤ 57 := of_decide_eq_true g2
      rw [h2] at g g2
      exact ih (n + 1) (fun i => i) ⟨by omega, by rw [h4, List.all_append, hn.2, Bool.true_and, List.all_cons, (isD_byte c).2 ⟨g, g2⟩]; rfl⟩ (by omega) (by rfl) ⟨⟨rfl, hw⟩, impP_refl _, trivial⟩ trivial
    · have g2 : ¬ byteAt s n ≤ 57 := of_decide_eq_false g2
      rw [h2] at g2
      exact Bool.eq_false_iff.2 fun hc => g2 ((isD_byte c).1 hc).2
    · have g : ¬ (48 : Int) ≤ byteAt s n := of_decide_eq_false g
      rw [h2] at g
      exact Bool.eq_false_iff.2 fun hc => g ((isD_byte c).1 hc).1
  · simp only [decide_eq_false_iff_not, Int.ofNat_eq_natCast, cast_fold] at h
    have := (List.getElem?_eq_some_iff.1 h2).1
    rw [size_toB] at this
    omega
noncomputable def Fc4 : Table := addS 168 (.cons .str .nil) (fun s => (.tuple (.cons (.str fun _ => digB (s ())) (.cons (.str fun _ => rstB (s ())) .nil)), [fun _ => (s ()).size < 2147483648])) Fc3
theorem Fc4_ok : TableOK Tryz.prog G0 Fc4 := addS_ok (⟨Tryz.func168, rfl, rfl, rfl, ⟨rfl, rfl⟩, ok _⟩ : FN 168 Tryz.f168).callable (fun s h => digits_ok (s ()) h.1) Fc3_ok
structure EI (s : ByteArray) (x : Int × ByteArray) : Prop where
  e : expo s.data.toList = (expoD x.2.data.toList).map fun n => x.1 * n
  sg : x.1 = 1 ∨ x.1 = -1
  sz : x.2.size < 2147483648
def eA (x : Int × ByteArray) : Env := [(0, .str fun _ => x.2), (4, .int .i64 fun _ => x.1)]
def eB (x : Int × ByteArray) (i : Nat) : Env := [(38, .int .i64 fun _ => (i : Int)), (37, .int .i64 fun _ => (x.2.size : Int)), (5, .str fun _ => x.2), (7, .int .i64 fun _ => (valD (x.2.data.toList.take i) : Int)), (4, .int .i64 fun _ => x.1)]
theorem pre_one (c : UInt8) (l : List UInt8) : [c].isPrefixOf l = true ↔ ∃ r, l = c :: r := by
  cases l with
  | nil => simp [List.isPrefixOf]
  | cons d r =>
    simp only [List.isPrefixOf, Bool.and_true, beq_iff_eq]
    constructor
    · rintro rfl; exact ⟨r, rfl⟩
    · rintro ⟨_, h⟩; cases h; rfl
theorem cut_one {s : ByteArray} {c : UInt8} {r : List UInt8} (h : s.data.toList = c :: r) : s.extract 1 s.size = toB r ∧ 1 ≤ s.size ∧ (toB r).size ≤ s.size := by
  have hs := size_toB s
  rw [h, List.length_cons] at hs
  refine ⟨by rw [restB, h]; rfl, by omega, ?_⟩
  rw [← size_toB (toB r)]
  show r.length ≤ _
  omega
theorem exponent_ok (s : ByteArray) (hs : s.size < 2147483648) : PF 183 (.cons (.str fun _ => s) .nil) (.tuple (.cons (.int .i64 fun _ => (expo s.data.toList).getD 0) (.cons (.bool fun _ => (expo s.data.toList).isSome) .nil))) := by
  refine (⟨Tryz.func183, rfl, rfl, rfl, ⟨rfl, rfl⟩, ok _⟩ : FN 183 Tryz.f183).treeS (mkO_ok Fc4_ok) false 40 (.both (.to 6) (.both (.to 6) (.to 6))) rfl ?_
  conv => arg 5; cbv
  refine tree_all (ι := Int × ByteArray) (EI s) eA (fun _ => []) 0 (by rfl) ?_ ?_
  · refine ⟨fun h => ?_, fun h => ⟨fun h2 => ?_, fun h2 => ?_⟩⟩
    · obtain ⟨r, hr⟩ := (pre_one 45 s.data.toList).1 h
      obtain ⟨c1, c2, c3⟩ := cut_one hr
      have c1 : s.extract (Int.toNat 1) (s.size : Int).toNat = toB r := c1
      have hl : (toB r).size < 2147483648 := by omega
      refine ⟨⟨⟨by decide, (by (try dsimp only); (try simp only [cast_fold, Int.ofNat_eq_natCast]); omega)⟩, (by show drawOK _ _ = true; decide +kernel), trivial⟩, rfl, (-1, toB r), fun i => i, ⟨?_, .inr rfl, hl⟩, by rfl, ⟨c1, impP_refl _, trivial⟩, trivial⟩
      · rw [hr]
        show (expoD r).map _ = (expoD r).map _
        congr 1
        funext n
        dsimp only; omega
    · obtain ⟨r, hr⟩ := (pre_one 43 s.data.toList).1 h2
      obtain ⟨c1, c2, c3⟩ := cut_one hr
      have c1 : s.extract (Int.toNat 1) (s.size : Int).toNat = toB r := c1
      have hl : (toB r).size < 2147483648 := by omega
      refine ⟨⟨⟨by decide, (by (try dsimp only); (try simp only [cast_fold, Int.ofNat_eq_natCast]); omega)⟩, trivial⟩, rfl, (1, toB r), fun i => i, ⟨?_, .inl rfl, hl⟩, by rfl, ⟨c1, impP_refl _, trivial⟩, trivial⟩
      · rw [hr]
        show expoD r = (expoD r).map _
        cases expoD r with
        | none => rfl
        | some n => simp
    · have h1 : ∀ r, s.data.toList ≠ 45 :: r := fun r hr => by
        have := (pre_one 45 _).2 ⟨r, hr⟩
        rw [show [(45 : UInt8)].isPrefixOf s.data.toList = false from h] at this; cases this
      have h3 : ∀ r, s.data.toList ≠ 43 :: r := fun r hr => by
        have := (pre_one 43 _).2 ⟨r, hr⟩
        rw [show [(43 : UInt8)].isPrefixOf s.data.toList = false from h2] at this; cases this
      refine ⟨rfl, (1, s), fun i => i, ⟨?_, .inl rfl, hs⟩, by rfl, ⟨impP_refl _, impP_refl _, trivial⟩, trivial⟩
      unfold expo
      split
      · rename_i hr; exact absurd hr (h1 _)
      · rename_i hr; exact absurd hr (h3 _)
      · cases expoD s.data.toList with
        | none => rfl
        | some n => simp
  · intro x hx
    obtain ⟨sg, t⟩ := x
    have hsz : t.size < 2147483648 := hx.sz
    have he : expo s.data.toList = (expoD t.data.toList).map fun n => sg * n := hx.e
    have hsg : sg = 1 ∨ sg = -1 := hx.sg
    have hall : rstB t = (⟨#[]⟩ : ByteArray) ↔ t.data.toList.all isD = true := rst_nil t
    have hdig : t.data.toList.all isD = true → digB t = t := dig_all t
    have hst := size_toB t
    have hbad : (t.data.toList.all isD = true → t.size < 1 ∨ 2 < t.size) → impP (.tuple (.cons (.int .i64 fun _ => 0) (.cons .ff .nil))) (.tuple (.cons (.int .i64 fun _ => (expo s.data.toList).getD 0) (.cons (.bool fun _ => (expo s.data.toList).isSome) .nil))) := fun h => by
      have : expoD t.data.toList = none := by
        unfold expoD
        rw [if_neg fun hc => by have := h hc.1; rw [hst] at hc; omega]
      rw [he, this]
      exact ⟨⟨rfl, rfl⟩, rfl, rfl⟩
    refine explore_ok (ok _) (mkO_ok Fc4_ok) (u := false) 20 _ rfl ?_
    conv => arg 5; cbv
    refine ⟨⟨hsz, trivial⟩, fun h => ⟨rfl, hbad fun hc => ?_⟩, fun h => ⟨fun h2 => ⟨rfl, hbad fun hc => ?_⟩, fun h2 => ⟨fun h3 => ⟨rfl, hbad fun hc => ?_⟩, fun h3 => ?_⟩⟩⟩
    · have h : ¬ rstB t = (⟨#[]⟩ : ByteArray) := of_decide_eq_true h
      exact absurd (hall.2 hc) h
    · have h2 : ((digB t).size : Int) < 1 := of_decide_eq_true h2
      rw [hdig hc] at h2; omega
    · have h3 : 2 < ((digB t).size : Int) := of_decide_eq_true h3
      rw [hdig hc] at h3; omega
    · have h : rstB t = (⟨#[]⟩ : ByteArray) := Classical.byContradiction fun hc => of_decide_eq_false h hc
      have hD := hall.1 h
      have h2 : ¬ ((digB t).size : Int) < 1 := of_decide_eq_false h2
      have h3 : ¬ 2 < ((digB t).size : Int) := of_decide_eq_false h3
      rw [hdig hD] at h2 h3
      refine run_inv (ι := Nat) (fun i => t.size - i) (fun i => i ≤ t.size) (eB (sg, t)) (fun _ => []) 0 0 (fun i => i) (by rfl) (by rfl) (Nat.zero_le _) ?_ ⟨impP_refl _, ⟨rfl, congrArg (fun b => (ByteArray.size b : Int)) (hdig hD)⟩, hdig hD, impP_refl _, impP_refl _, trivial⟩ trivial
      intro i hi ih
      refine explore_ok (ok _) (mkO_ok Fc4_ok) (u := false) 20 _ rfl ?_
      conv => arg 5; cbv
      refine ⟨fun g => ⟨⟨⟨(by (try dsimp only); (try simp only [cast_fold, Int.ofNat_eq_natCast]); omega), of_decide_eq_true g⟩, trivial⟩, ?_⟩, fun g => ⟨rfl, ⟨rfl, ?_⟩, ?_, rfl⟩⟩
      · have g : (i : Int) < (t.size : Int) := of_decide_eq_true g
        obtain ⟨c, c1, c2, c3, c4⟩ := atB (s := t) (n := i) (by omega)
        have hcd : isD c = true := List.all_eq_true.1 hD c (List.mem_of_getElem? c1)
        have hcr := (isD_byte c).1 hcd
        have hv := valD_lt (t.data.toList.take i) (List.all_eq_true.2 fun x hx => List.all_eq_true.1 hD x (List.mem_of_mem_take hx))
        have hv2 : 10 ^ (t.data.toList.take i).length ≤ 10 ^ 1 := Nat.pow_le_pow_right (by omega) (by rw [List.length_take]; omega)
        have hw : IntKind.i64.wrap ((i : Int) + 1) = ((i + 1 : Nat) : Int) := by rw [IntWalk.i64_in _ ⟨by omega, by omega⟩]; omega
        refine ih (i + 1) (fun i => i) (by omega) (by omega) (by rfl) ⟨⟨rfl, hw⟩, impP_refl _, impP_refl _, ⟨rfl, ?_⟩, impP_refl _, trivial⟩ trivial
        show IntKind.i64.wrap (IntKind.i64.wrap ((valD (List.take i t.data.toList) : Int) * 10) + IntKind.i64.wrap (IntKind.u8.wrap (byteAt t i - 48))) = (valD (List.take (i + 1) t.data.toList) : Int)
        rw [c4, valD_snoc, c2, IntWalk.u8_in _ ⟨by omega, by omega⟩, IntWalk.i64_in ((c.toNat : Int) - 48) ⟨by omega, by omega⟩, IntWalk.i64_in ((valD (List.take i t.data.toList) : Int) * 10) ⟨by omega, by omega⟩, IntWalk.i64_in _ ⟨by omega, by omega⟩]
        omega
      all_goals
        have g : ¬ (i : Int) < (t.size : Int) := of_decide_eq_false g
        have e1 : t.data.toList.take i = t.data.toList := List.take_of_length_le (by omega)
        have e2 : expoD t.data.toList = some ((valD t.data.toList : Nat) : Int) := if_pos ⟨hD, by omega, by omega⟩
      · show IntKind.i64.wrap (sg * (valD (List.take i t.data.toList) : Int)) = (expo s.data.toList).getD 0
        have hle := expoD_le e2
        rw [e1, he, e2, IntWalk.i64_in _ ⟨by rcases hsg with rfl | rfl <;> omega, by rcases hsg with rfl | rfl <;> omega⟩]
        rfl
      · show (expo s.data.toList).isSome = true
        rw [he, e2]; rfl
noncomputable def Fc5 : Table := addS 183 (.cons .str .nil) (fun s => (.tuple (.cons (.int .i64 fun _ => (expo (s ()).data.toList).getD 0) (.cons (.bool fun _ => (expo (s ()).data.toList).isSome) .nil)), [fun _ => (s ()).size < 2147483648])) Fc4
theorem Fc5_ok : TableOK Tryz.prog G0 Fc5 := addS_ok (⟨Tryz.func183, rfl, rfl, rfl, ⟨rfl, rfl⟩, ok _⟩ : FN 183 Tryz.f183).callable (fun s h => exponent_ok (s ()) h.1) Fc4_ok
def sclS (l : List UInt8) : ByteArray := match sufs.find? (fun x => x.1 == l) with
  | some x => toB x.1
  | none => ByteArray.empty
def sclP (l : List UInt8) : PV := .tuple (.cons (.agg (.cons (.str fun _ => sclS l) (.cons (.int .i64 fun _ => ((scl l).map (·.1)).getD 0) (.cons (.int .i64 fun _ => (((scl l).map (·.2)).getD 0 : Nat)) .nil)))) (.cons (.bool fun _ => (scl l).isSome) .nil))
def scA (s : ByteArray) (i : Nat) : Env := [(10, .int .i64 fun _ => (i : Int)), (9, .int .i64 fun _ => 16), (8, (.slice none 3 (fun _ => 16) fun j => .agg (.cons (.str fun _ => toB (sufG (j ()).toNat).1) (.cons (.int .i64 fun _ => (sufG (j ()).toNat).2.1) (.cons (.int .i64 fun _ => ((sufG (j ()).toNat).2.2 : Nat)) .nil))))), (2, .ptr 0 0), (0, .str fun _ => s)]
def scS : Store := [(0, .var (.agg (.cons (.str fun _ => ByteArray.empty) (.cons (.int .i64 fun _ => 0) (.cons (.int .i64 fun _ => 0) .nil)))))]
theorem find_at {α : Type} {l : List α} {p : α → Bool} {i : Nat} (h : i < l.length) (hn : (l.take i).find? p = none) : (p l[i] = true → l.find? p = some l[i]) ∧ (p l[i] = false → (l.take (i + 1)).find? p = none) := by
  constructor
  · intro hp
    conv => lhs; rw [← List.take_append_drop i l, List.find?_append, hn, List.drop_eq_getElem_cons h]
    rw [List.find?_cons, hp]; rfl
  · intro hp
    rw [List.take_add_one, List.find?_append, hn, List.getElem?_eq_getElem h, Option.toList_some, List.find?_cons, hp]; rfl
theorem sufG_at {i : Nat} (h : i < sufs.length) : sufG i = sufs[i] := by
  unfold sufG
  rw [List.getD_eq_getElem?_getD, List.getElem?_eq_getElem h]; rfl
theorem scale_ok (s : ByteArray) (hs : s.size < 2147483648) : PF 170 (.cons (.str fun _ => s) .nil) (sclP s.data.toList) := by
  refine (⟨Tryz.func170, rfl, rfl, rfl, ⟨rfl, rfl⟩, ok _⟩ : FN 170 Tryz.f170).tree (mkO_ok Fc5_ok) false 40 rfl ?_
  conv => arg 5; cbv
  refine run_inv (ι := Nat) (fun i => 16 - i) (fun i => i ≤ 16 ∧ (sufs.take i).find? (fun x => x.1 == s.data.toList) = none) (scA s) (fun _ => scS) 1 0 (fun i => i) (by rfl) (by rfl) ⟨Nat.zero_le _, rfl⟩ ?_ ⟨impP_refl _, impP_refl _, impP_refl _, impP_refl _, impP_refl _, trivial⟩ ⟨impP_refl _, trivial⟩
  intro i hi ih
  have hst := size_toB s
  refine explore_ok (ok _) (mkO_ok Fc5_ok) (u := false) 20 _ rfl ?_
  conv => arg 5; cbv
  refine ⟨fun g => ?_, fun g => ?_⟩
  · have g : (i : Int) < 16 := of_decide_eq_true g
    have hlt : i < sufs.length := by show i < 16; omega
    obtain ⟨f1, f2⟩ := find_at (p := fun x => x.1 == s.data.toList) hlt hi.2
    have hel := sufG_at hlt
    have hw : IntKind.i64.wrap ((i : Int) + 1) = ((i + 1 : Nat) : Int) := by rw [IntWalk.i64_in _ ⟨by omega, by omega⟩]; omega
    refine ⟨⟨⟨(by (try dsimp only); (try simp only [cast_fold, Int.ofNat_eq_natCast]); omega), g⟩, trivial⟩, fun g2 => ?_, fun g2 => ih (i + 1) (fun i => i) ⟨by omega, f2 ?_⟩ (by omega) (by rfl) ⟨⟨rfl, hw⟩, impP_refl _, impP_refl _, impP_refl _, impP_refl _, trivial⟩ ⟨impP_refl _, trivial⟩⟩
    · have g2 : toB (sufG i).1 = s := of_decide_eq_true g2
      rw [hel] at g2
      have hp : (sufs[i].1 == s.data.toList) = true := by rw [← g2]; simp [toB]
      have hf := f1 hp
      have h1 : scl s.data.toList = some sufs[i].2 := by unfold scl; rw [hf]
      have h2 : sclS s.data.toList = toB sufs[i].1 := by unfold sclS; rw [hf]
      refine ⟨rfl, ⟨?_, ⟨rfl, ?_⟩, ⟨rfl, ?_⟩, rfl⟩, ?_, rfl⟩
      · show toB (sufG i).1 = sclS s.data.toList
        rw [hel, h2]
      · show (sufG i).2.1 = _
        rw [hel, h1]; rfl
      · show ((sufG i).2.2 : Int) = _
        rw [hel, h1]; rfl
      · show (scl s.data.toList).isSome = true
        rw [h1]; rfl
    · have g2 : ¬ toB (sufG i).1 = s := of_decide_eq_false g2
      rw [hel] at g2
      refine Bool.eq_false_iff.2 fun hc => g2 ?_
      rw [eq_of_beq hc, toB_data]
  · have g : ¬ (i : Int) < 16 := of_decide_eq_false g
    have hn : sufs.find? (fun x => x.1 == s.data.toList) = none := by
      have := hi.2
      rwa [List.take_of_length_le (by show 16 ≤ i; omega)] at this
    have hS : sclS s.data.toList = ByteArray.empty := by unfold sclS; rw [hn]
    have hno : scl s.data.toList = none → impP (.tuple (.cons (.agg (.cons (.str fun _ => ByteArray.empty) (.cons (.int .i64 fun _ => 0) (.cons (.int .i64 fun _ => 0) .nil)))) (.cons .ff .nil))) (sclP s.data.toList) := fun h => by
      unfold sclP
      rw [hS, h]
      exact ⟨⟨rfl, ⟨rfl, rfl⟩, ⟨rfl, rfl⟩, rfl⟩, rfl, rfl⟩
    have hyes : ∀ (c : UInt8) (r : List UInt8), s.data.toList = c :: r → c = 101 ∨ c = 69 → impP (.tuple (.cons (.agg (.cons (.str fun _ => ByteArray.empty) (.cons (.int .i64 fun _ => (expo (s.extract 1 s.size).data.toList).getD 0) (.cons (.int .i64 fun _ => 0) .nil)))) (.cons (.bool fun _ => (expo (s.extract 1 s.size).data.toList).isSome) .nil))) (sclP s.data.toList) := fun c r h hc => by
      have e : scl s.data.toList = (expo r).map fun n => (n, 0) := by unfold scl; rw [hn, h]; simp only; rw [if_pos hc]
      obtain ⟨c1, _, _⟩ := cut_one h
      have c2 : (toB r).data.toList = r := rfl
      unfold sclP
      rw [hS, e, c1, c2]
      cases expo r with
      | none => exact ⟨⟨rfl, ⟨rfl, rfl⟩, ⟨rfl, rfl⟩, rfl⟩, rfl, rfl⟩
      | some n => exact ⟨⟨rfl, ⟨rfl, rfl⟩, ⟨rfl, rfl⟩, rfl⟩, rfl, rfl⟩
    have hpos : ¬ s = (⟨#[]⟩ : ByteArray) → 0 < s.size := fun h => by
      rw [← hst]
      refine List.length_pos_iff.2 fun hc => h ?_
      rw [← toB_data s, hc]; rfl
    refine ⟨fun g2 => ?_, fun g2 => ⟨rfl, hno ?_⟩⟩
    · have hp := hpos (of_decide_eq_true g2)
      obtain ⟨c, c1, c2, c3, c4⟩ := atB (s := s) (n := 0) hp
      have c2 : byteAt s 0 = (c.toNat : Int) := c2
      have c3 : s.data.toList = c :: s.data.toList.drop 1 := c3
      obtain ⟨d1, d2, d3⟩ := cut_one c3
      have hp2 : 0 ≤ (0 : Int) ∧ (0 : Int) < (s.size : Int) := ⟨Int.le_refl _, by omega⟩
      have hk : (s.extract (Int.toNat 1) (s.size : Int).toNat).size < 2147483648 := by
        show (s.extract 1 s.size).size < 2147483648
        rw [d1]; omega
      have hb : ∀ k : Nat, k < 256 → (byteAt s 0 = (k : Int) ↔ c = UInt8.ofNat k) := fun k hk => by
        rw [c2]
        constructor
        · intro h
          have : c.toNat = k := by omega
          rw [← this]; simp
        · rintro rfl
          rw [UInt8.toNat_ofNat']; omega
      refine ⟨⟨hp2, trivial⟩, fun g3 => ⟨⟨⟨by decide, (by (try dsimp only); (try simp only [cast_fold, Int.ofNat_eq_natCast]); omega)⟩, hk, trivial⟩, rfl, hyes c _ c3 (.inl ((hb 101 (by omega)).1 (beqT g3)))⟩, fun g3 => ⟨⟨hp2, trivial⟩, fun g4 => ⟨⟨⟨by decide, (by (try dsimp only); (try simp only [cast_fold, Int.ofNat_eq_natCast]); omega)⟩, hk, trivial⟩, rfl, hyes c _ c3 (.inr ((hb 69 (by omega)).1 (beqT g4)))⟩, fun g4 => ⟨rfl, hno ?_⟩⟩⟩
      unfold scl
      rw [hn, c3]
      simp only
      exact if_neg fun hc => by
        rcases hc with hc | hc
        · exact beqF g3 ((hb 101 (by omega)).2 hc)
        · exact beqF g4 ((hb 69 (by omega)).2 hc)
    · have : s = (⟨#[]⟩ : ByteArray) := Classical.byContradiction fun hc => of_decide_eq_false g2 hc
      subst this
      cases hn
noncomputable def Fc6 : Table := addS 170 (.cons .str .nil) (fun s => (.tuple (.cons (.agg (.cons (.str fun _ => sclS (s ()).data.toList) (.cons (.int .i64 fun _ => ((scl (s ()).data.toList).map (·.1)).getD 0) (.cons (.int .i64 fun _ => (((scl (s ()).data.toList).map (·.2)).getD 0 : Nat)) .nil)))) (.cons (.bool fun _ => (scl (s ()).data.toList).isSome) .nil)), [fun _ => (s ()).size < 2147483648])) Fc5
theorem Fc6_ok : TableOK Tryz.prog G0 Fc6 := addS_ok (⟨Tryz.func170, rfl, rfl, rfl, ⟨rfl, rfl⟩, ok _⟩ : FN 170 Tryz.f170).callable (fun s h => scale_ok (s ()) h.1) Fc5_ok
end Go.Proofs.YtpbjcabecalpaaaGreatDoor
