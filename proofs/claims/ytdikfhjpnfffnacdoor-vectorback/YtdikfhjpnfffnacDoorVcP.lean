/- VECTORS: the laws of sums, and there and back. -/
import Derived.Test.YtdikfhjpnfffnacDoorVcM
set_option maxRecDepth 2000
set_option linter.unusedVariables false
set_option linter.unusedSimpArgs false
set_option linter.unusedVariables false
set_option linter.unusedSimpArgs false
namespace Go.Proofs.YtdikfhjpnfffnacDoor
open Go Go.Abs Go.Proofs
theorem sums_law (a b c d e f : Int) (l : List shV.val) : PF 5 (.cons (vP a b c) (.cons (vP d e f) (.cons (Sh.mkL 3 shV fun _ => l) .nil))) .tt := by
  refine (⟨Tryd.func5, rfl, rfl, rfl, ⟨rfl, rfl⟩, ok _⟩ : FN 5 Tryd.f5).treeS (mkO_ok Fo_ok) false 40 (.both .any (.yes (.yes (.yes (.yes (.yes .any)))))) rfl ?_
  conv => arg 5; cbv
  have h3 : ∀ x y z : Int, ((x == x) && ((y == y) && ((z == z) && true))) = true := fun x y z => by simp
  refine ⟨fun g => ⟨rfl, rfl⟩, fun g => ?_⟩
  have g : ¬ 200 < (l.length : Int) := of_decide_eq_false g
  have hl : (rdL shV.rd (fun _ => (l.length : Int)) fun j => shV.mk fun _ => l.getD (j ()).toNat shV.dflt).length < 9223372036854775807 := by
    rw [rdL_mkL]; omega
  exact ⟨⟨hl, fun j => fits_of_mk shV _, hl, fun j => fits_of_mk shV _, trivial⟩, ⟨beq_self_eq_true (okAdd a b c d e f), trivial⟩, ⟨h3 _ _ _, trivial⟩, ⟨beq_self_eq_true (okSub a b c d e f), trivial⟩, ⟨h3 _ _ _, trivial⟩, ⟨beq_self_eq_true (Option.isSome _), trivial⟩, rfl, h3 _ _ _⟩
theorem vParts_len {c m h : Nat} (hc : c ≤ 1125899906842624) (hm : m ≤ 1125899906842624) (hh : h ≤ 1125899906842624) : (vParts c m h).length ≤ 3 ∧ ∀ x ∈ vParts c m h, x.length ≤ 43 := by
  have w : ∀ n : Nat, n ≤ 1125899906842624 → n * 1000000 ≤ mostA ∧ n * 1000000000 ≤ mostA := fun n hn =>
    ⟨Nat.le_trans (Nat.mul_le_mul_right _ hn) (by decide), Nat.le_trans (Nat.mul_le_mul_right _ hn) (by decide)⟩
  have k1 := (tx_len _ (w c hc).1).1
  have k2 := (tx_len _ (w m hm).2).2
  have k3 := (tx_len _ (w h hh).2).2
  rw [← size_toB] at k1 k2 k3
  have k1 : (atext (c * 1000000)).length ≤ 30 := k1
  have k2 : (btext (m * 1000000000)).length ≤ 30 := k2
  have k3 : (btext (h * 1000000000)).length ≤ 30 := k3
  have key : ∀ (n t : List UInt8), n.length ≤ 9 → t.length ≤ 30 → (n ++ 61 :: t).length ≤ 43 := fun n t h1 h2 => by
    rw [List.length_append, List.length_cons]; omega
  unfold vParts
  constructor
  · rw [List.length_append, List.length_append]
    have o : ∀ (p : Prop) [Decidable p] (x : List UInt8), (if p then [x] else []).length ≤ 1 := fun p _ x => by split <;> simp
    have o1 := o (0 < c) (sCpu ++ 61 :: atext (c * 1000000))
    have o2 := o (0 < m) (sMem ++ 61 :: btext (m * 1000000000))
    have o3 := o (0 < h) (sHug ++ 61 :: btext (h * 1000000000))
    omega
  · intro x hx
    simp only [List.mem_append] at hx
    rcases hx with hx | hx | hx <;> split at hx <;> simp only [List.mem_singleton, List.not_mem_nil] at hx <;> subst hx
    · exact key _ _ (by decide) k1
    · exact key _ _ (by decide) k2
    · exact key _ _ (by decide) k3
theorem vText_size {c m h : Nat} (hc : c ≤ 1125899906842624) (hm : m ≤ 1125899906842624) (hh : h ≤ 1125899906842624) : (toB (vText c m h)).size < 2147483648 := by
  obtain ⟨h1, h2⟩ := vParts_len hc hm hh
  unfold vText
  by_cases he : vParts c m h = []
  · rw [if_pos he]; decide
  · rw [if_neg he]
    have hs : ∀ y ∈ (vParts c m h).map toB, y.size ≤ 43 := fun y hy => by
      obtain ⟨x, hx, rfl⟩ := List.mem_map.1 hy
      rw [← size_toB]
      exact h2 x hx
    have hj := joinB_size (sep := ⟨#[44]⟩) hs
    have e : joinB ((vParts c m h).map toB) ⟨#[44]⟩ = toB (Lib.join (vParts c m h) [44]) := by
      unfold joinB
      rw [List.map_map]
      have : (vParts c m h).map ((fun y : ByteArray => y.data.toList) ∘ toB) = vParts c m h := List.map_id _
      rw [this]; rfl
    rw [e, List.length_map] at hj
    have hmul : (vParts c m h).length * (43 + (⟨#[44]⟩ : ByteArray).size) ≤ 3 * 44 := Nat.mul_le_mul h1 (Nat.le_refl 44)
    omega
theorem okSub_of {a b c d e f : Int} (h : okAdd a b c d e f = true) : okSub (a + d) (b + e) (c + f) d e f = true ∧ vRight (a + d) (b + e) (c + f) = true ∧ a ≤ a + d ∧ b ≤ b + e ∧ c ≤ c + f := by
  unfold okAdd at h
  simp only [Bool.and_eq_true] at h
  obtain ⟨⟨h1, h2⟩, h3⟩ := h
  have r := vRight_iff.1 h2
  refine ⟨?_, h3, by omega, by omega, by omega⟩
  unfold okSub
  rw [h3, h2, show a + d - d = a by omega, show b + e - e = b by omega, show c + f - f = c by omega, h1]; rfl
theorem back_text {a b c : Int} (h : vRight a b c = true) : (toB (vText a.toNat b.toNat c.toNat)).size < 2147483648 ∧ vParse (toB (vText a.toNat b.toNat c.toNat)).data.toList = ([a, b, c], 0) := by
  have r := vRight_iff.1 h
  refine ⟨vText_size (by omega) (by omega) (by omega), ?_⟩
  have := vParse_text (c := a.toNat) (m := b.toNat) (h := c.toNat) (by omega) (by omega) (by omega) (by omega)
  rw [Int.toNat_of_nonneg r.1.1, Int.toNat_of_nonneg r.2.1.1, Int.toNat_of_nonneg r.2.2.1.1] at this
  exact this
theorem back0 (a b c d e f : Int) (hA : okAdd a b c d e f = true) (hV : vRight a b c = true) : PF 3 (.cons (vP a b c) (.cons (vP d e f) .nil)) .tt := by
  refine (⟨Tryd.func3, rfl, rfl, rfl, ⟨rfl, rfl⟩, ok _⟩ : FN 3 Tryd.f3).treeS (mkO_ok Fo_ok) false 40 (.yes (.no (.no (.no (.no (.yes (.yes .any))))))) rfl ?_
  conv => arg 5; cbv
  have hn : vParse (⟨#[]⟩ : ByteArray).data.toList = ([0, 0, 0], 10) := rfl
  have q1 : ∀ x y : Int, x + y - y = x := fun x y => by omega
  first | (have hS := (okSub_of hA).1; have hR := (okSub_of hA).2.1; have hL := (okSub_of hA).2.2) | (have hS := trivial; have hR := trivial; have hL := trivial)
  first | (have hT := (back_text hV).1; have hP := (back_text hV).2) | (have hT := trivial; have hP := trivial)
  simp only [hA, hV, if_true, Bool.false_eq_true, if_false, hS, hR, hP, hn, q1]
  repeat' apply And.intro
  all_goals first | exact trivial | rfl | exact hT | exact hA | (show (0 : Nat) < 2147483648; omega) | (simp [hA, hV, hR, hL]; done) | fail
theorem back1 (a b c d e f : Int) (hA : okAdd a b c d e f = true) (hV : vRight a b c = false) : PF 3 (.cons (vP a b c) (.cons (vP d e f) .nil)) .tt := by
  refine (⟨Tryd.func3, rfl, rfl, rfl, ⟨rfl, rfl⟩, ok _⟩ : FN 3 Tryd.f3).treeS (mkO_ok Fo_ok) false 40 (.yes (.no (.no (.no (.no (.no (.yes .any))))))) rfl ?_
  conv => arg 5; cbv
  have hn : vParse (⟨#[]⟩ : ByteArray).data.toList = ([0, 0, 0], 10) := rfl
  have q1 : ∀ x y : Int, x + y - y = x := fun x y => by omega
  first | (have hS := (okSub_of hA).1; have hR := (okSub_of hA).2.1; have hL := (okSub_of hA).2.2) | (have hS := trivial; have hR := trivial; have hL := trivial)
  first | (have hT := (back_text hV).1; have hP := (back_text hV).2) | (have hT := trivial; have hP := trivial)
  simp only [hA, hV, if_true, Bool.false_eq_true, if_false, hS, hR, hP, hn, q1]
  repeat' apply And.intro
  all_goals first | exact trivial | rfl | exact hT | exact hA | (show (0 : Nat) < 2147483648; omega) | (simp [hA, hV, hR, hL]; done) | fail
theorem back2 (a b c d e f : Int) (hA : okAdd a b c d e f = false) (hV : vRight a b c = true) : PF 3 (.cons (vP a b c) (.cons (vP d e f) .nil)) .tt := by
  refine (⟨Tryd.func3, rfl, rfl, rfl, ⟨rfl, rfl⟩, ok _⟩ : FN 3 Tryd.f3).treeS (mkO_ok Fo_ok) false 40 (.no (.yes (.yes .any))) rfl ?_
  conv => arg 5; cbv
  have hn : vParse (⟨#[]⟩ : ByteArray).data.toList = ([0, 0, 0], 10) := rfl
  have q1 : ∀ x y : Int, x + y - y = x := fun x y => by omega
  first | (have hS := (okSub_of hA).1; have hR := (okSub_of hA).2.1; have hL := (okSub_of hA).2.2) | (have hS := trivial; have hR := trivial; have hL := trivial)
  first | (have hT := (back_text hV).1; have hP := (back_text hV).2) | (have hT := trivial; have hP := trivial)
  simp only [hA, hV, if_true, Bool.false_eq_true, if_false, hS, hR, hP, hn, q1]
  repeat' apply And.intro
  all_goals first | exact trivial | rfl | exact hT | exact hA | (show (0 : Nat) < 2147483648; omega) | (simp [hA, hV, hR, hL]; done) | fail
theorem back3 (a b c d e f : Int) (hA : okAdd a b c d e f = false) (hV : vRight a b c = false) : PF 3 (.cons (vP a b c) (.cons (vP d e f) .nil)) .tt := by
  refine (⟨Tryd.func3, rfl, rfl, rfl, ⟨rfl, rfl⟩, ok _⟩ : FN 3 Tryd.f3).treeS (mkO_ok Fo_ok) false 40 (.no (.no (.yes .any))) rfl ?_
  conv => arg 5; cbv
  have hn : vParse (⟨#[]⟩ : ByteArray).data.toList = ([0, 0, 0], 10) := rfl
  have q1 : ∀ x y : Int, x + y - y = x := fun x y => by omega
  first | (have hS := (okSub_of hA).1; have hR := (okSub_of hA).2.1; have hL := (okSub_of hA).2.2) | (have hS := trivial; have hR := trivial; have hL := trivial)
  first | (have hT := (back_text hV).1; have hP := (back_text hV).2) | (have hT := trivial; have hP := trivial)
  simp only [hA, hV, if_true, Bool.false_eq_true, if_false, hS, hR, hP, hn, q1]
  repeat' apply And.intro
  all_goals first | exact trivial | rfl | exact hT | exact hA | (show (0 : Nat) < 2147483648; omega) | (simp [hA, hV, hR, hL]; done) | fail
theorem back_law (a b c d e f : Int) : PF 3 (.cons (vP a b c) (.cons (vP d e f) .nil)) .tt := by
  cases hA : okAdd a b c d e f <;> cases hV : vRight a b c
  · exact back3 a b c d e f hA hV
  · exact back2 a b c d e f hA hV
  · exact back1 a b c d e f hA hV
  · exact back0 a b c d e f hA hV
end Go.Proofs.YtdikfhjpnfffnacDoor
