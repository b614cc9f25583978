/- VECTORS: the laws. -/
import Derived.Test.YtdikfhjpnfffnacDoorVcM
set_option maxRecDepth 2000
set_option linter.unusedVariables false
set_option linter.unusedSimpArgs false
set_option linter.unusedVariables false
set_option linter.unusedSimpArgs false
namespace Go.Proofs.YtdikfhjpnfffnacDoor
open Go Go.Abs Go.Proofs
def dsE2 : DS := .yes (.yes (.yes (.yes (.yes .any))))
theorem tells16 (a b c d e f r : Int) (hr : r = 2) (ha : a < d) (hb : b < e) (hc : c < f) : PF 4 (.cons (vP a b c) (.cons (vP d e f) (.cons (i64 r) .nil))) .tt := by
  refine (⟨Tryd.func4, rfl, rfl, rfl, ⟨rfl, rfl⟩, ok _⟩ : FN 4 Tryd.f4).treeS (mkO_ok Fo_ok) false 40 (.no (.no (.yes (.yes (.yes (.yes dsE2)))))) rfl ?_
  conv => arg 5; cbv
  repeat' apply And.intro
  all_goals first | exact trivial | decide +kernel | exact beq_self_eq_true (vRight a b c) | exact decide_eq_true ha | exact decide_eq_true hb | exact decide_eq_true hc | exact decide_eq_false ha | exact decide_eq_false hb | exact decide_eq_false hc | exact decide_eq_true rfl | (simp [hr] <;> omega) | (refine beq_iff_eq.2 ?_; rw [Bool.eq_iff_iff]; simp <;> omega) | rfl | fail
theorem tells17 (a b c d e f r : Int) (hr : r = 2) (ha : a < d) (hb : b < e) (hc : ¬ c < f) : PF 4 (.cons (vP a b c) (.cons (vP d e f) (.cons (i64 r) .nil))) .tt := by
  refine (⟨Tryd.func4, rfl, rfl, rfl, ⟨rfl, rfl⟩, ok _⟩ : FN 4 Tryd.f4).treeS (mkO_ok Fo_ok) false 40 (.no (.no (.yes (.yes (.yes (.no dsE2)))))) rfl ?_
  conv => arg 5; cbv
  repeat' apply And.intro
  all_goals first | exact trivial | decide +kernel | exact beq_self_eq_true (vRight a b c) | exact decide_eq_true ha | exact decide_eq_true hb | exact decide_eq_true hc | exact decide_eq_false ha | exact decide_eq_false hb | exact decide_eq_false hc | exact decide_eq_true rfl | (simp [hr] <;> omega) | (refine beq_iff_eq.2 ?_; rw [Bool.eq_iff_iff]; simp <;> omega) | rfl | fail
theorem tells18 (a b c d e f r : Int) (hr : r = 2) (ha : a < d) (hb : ¬ b < e) (hc : c < f) : PF 4 (.cons (vP a b c) (.cons (vP d e f) (.cons (i64 r) .nil))) .tt := by
  refine (⟨Tryd.func4, rfl, rfl, rfl, ⟨rfl, rfl⟩, ok _⟩ : FN 4 Tryd.f4).treeS (mkO_ok Fo_ok) false 40 (.no (.no (.yes (.yes (.no (.yes dsE2)))))) rfl ?_
  conv => arg 5; cbv
  repeat' apply And.intro
  all_goals first | exact trivial | decide +kernel | exact beq_self_eq_true (vRight a b c) | exact decide_eq_true ha | exact decide_eq_true hb | exact decide_eq_true hc | exact decide_eq_false ha | exact decide_eq_false hb | exact decide_eq_false hc | exact decide_eq_true rfl | (simp [hr] <;> omega) | (refine beq_iff_eq.2 ?_; rw [Bool.eq_iff_iff]; simp <;> omega) | rfl | fail
theorem tells19 (a b c d e f r : Int) (hr : r = 2) (ha : a < d) (hb : ¬ b < e) (hc : ¬ c < f) : PF 4 (.cons (vP a b c) (.cons (vP d e f) (.cons (i64 r) .nil))) .tt := by
  refine (⟨Tryd.func4, rfl, rfl, rfl, ⟨rfl, rfl⟩, ok _⟩ : FN 4 Tryd.f4).treeS (mkO_ok Fo_ok) false 40 (.no (.no (.yes (.yes (.no (.no dsE2)))))) rfl ?_
  conv => arg 5; cbv
  repeat' apply And.intro
  all_goals first | exact trivial | decide +kernel | exact beq_self_eq_true (vRight a b c) | exact decide_eq_true ha | exact decide_eq_true hb | exact decide_eq_true hc | exact decide_eq_false ha | exact decide_eq_false hb | exact decide_eq_false hc | exact decide_eq_true rfl | (simp [hr] <;> omega) | (refine beq_iff_eq.2 ?_; rw [Bool.eq_iff_iff]; simp <;> omega) | rfl | fail
theorem tells20 (a b c d e f r : Int) (hr : r = 2) (ha : ¬ a < d) (hb : b < e) (hc : c < f) : PF 4 (.cons (vP a b c) (.cons (vP d e f) (.cons (i64 r) .nil))) .tt := by
  refine (⟨Tryd.func4, rfl, rfl, rfl, ⟨rfl, rfl⟩, ok _⟩ : FN 4 Tryd.f4).treeS (mkO_ok Fo_ok) false 40 (.no (.no (.yes (.no (.yes (.yes dsE2)))))) rfl ?_
  conv => arg 5; cbv
  repeat' apply And.intro
  all_goals first | exact trivial | decide +kernel | exact beq_self_eq_true (vRight a b c) | exact decide_eq_true ha | exact decide_eq_true hb | exact decide_eq_true hc | exact decide_eq_false ha | exact decide_eq_false hb | exact decide_eq_false hc | exact decide_eq_true rfl | (simp [hr] <;> omega) | (refine beq_iff_eq.2 ?_; rw [Bool.eq_iff_iff]; simp <;> omega) | rfl | fail
theorem tells21 (a b c d e f r : Int) (hr : r = 2) (ha : ¬ a < d) (hb : b < e) (hc : ¬ c < f) : PF 4 (.cons (vP a b c) (.cons (vP d e f) (.cons (i64 r) .nil))) .tt := by
  refine (⟨Tryd.func4, rfl, rfl, rfl, ⟨rfl, rfl⟩, ok _⟩ : FN 4 Tryd.f4).treeS (mkO_ok Fo_ok) false 40 (.no (.no (.yes (.no (.yes (.no dsE2)))))) rfl ?_
  conv => arg 5; cbv
  repeat' apply And.intro
  all_goals first | exact trivial | decide +kernel | exact beq_self_eq_true (vRight a b c) | exact decide_eq_true ha | exact decide_eq_true hb | exact decide_eq_true hc | exact decide_eq_false ha | exact decide_eq_false hb | exact decide_eq_false hc | exact decide_eq_true rfl | (simp [hr] <;> omega) | (refine beq_iff_eq.2 ?_; rw [Bool.eq_iff_iff]; simp <;> omega) | rfl | fail
theorem tells22 (a b c d e f r : Int) (hr : r = 2) (ha : ¬ a < d) (hb : ¬ b < e) (hc : c < f) : PF 4 (.cons (vP a b c) (.cons (vP d e f) (.cons (i64 r) .nil))) .tt := by
  refine (⟨Tryd.func4, rfl, rfl, rfl, ⟨rfl, rfl⟩, ok _⟩ : FN 4 Tryd.f4).treeS (mkO_ok Fo_ok) false 40 (.no (.no (.yes (.no (.no (.yes dsE2)))))) rfl ?_
  conv => arg 5; cbv
  repeat' apply And.intro
  all_goals first | exact trivial | decide +kernel | exact beq_self_eq_true (vRight a b c) | exact decide_eq_true ha | exact decide_eq_true hb | exact decide_eq_true hc | exact decide_eq_false ha | exact decide_eq_false hb | exact decide_eq_false hc | exact decide_eq_true rfl | (simp [hr] <;> omega) | (refine beq_iff_eq.2 ?_; rw [Bool.eq_iff_iff]; simp <;> omega) | rfl | fail
theorem tells23 (a b c d e f r : Int) (hr : r = 2) (ha : ¬ a < d) (hb : ¬ b < e) (hc : ¬ c < f) : PF 4 (.cons (vP a b c) (.cons (vP d e f) (.cons (i64 r) .nil))) .tt := by
  refine (⟨Tryd.func4, rfl, rfl, rfl, ⟨rfl, rfl⟩, ok _⟩ : FN 4 Tryd.f4).treeS (mkO_ok Fo_ok) false 40 (.no (.no (.yes (.no (.no (.no dsE2)))))) rfl ?_
  conv => arg 5; cbv
  repeat' apply And.intro
  all_goals first | exact trivial | decide +kernel | exact beq_self_eq_true (vRight a b c) | exact decide_eq_true ha | exact decide_eq_true hb | exact decide_eq_true hc | exact decide_eq_false ha | exact decide_eq_false hb | exact decide_eq_false hc | exact decide_eq_true rfl | (simp [hr] <;> omega) | (refine beq_iff_eq.2 ?_; rw [Bool.eq_iff_iff]; simp <;> omega) | rfl | fail
theorem tells24 (a b c d e f r : Int) (hr : ¬ r = 0 ∧ ¬ r = 1 ∧ ¬ r = 2) (ha : a < d) (hb : b < e) (hc : c < f) : PF 4 (.cons (vP a b c) (.cons (vP d e f) (.cons (i64 r) .nil))) .tt := by
  refine (⟨Tryd.func4, rfl, rfl, rfl, ⟨rfl, rfl⟩, ok _⟩ : FN 4 Tryd.f4).treeS (mkO_ok Fo_ok) false 40 (.no (.no (.no (.yes (.yes (.yes dsE2)))))) rfl ?_
  conv => arg 5; cbv
  repeat' apply And.intro
  all_goals first | exact trivial | decide +kernel | exact beq_self_eq_true (vRight a b c) | exact decide_eq_true ha | exact decide_eq_true hb | exact decide_eq_true hc | exact decide_eq_false ha | exact decide_eq_false hb | exact decide_eq_false hc | exact decide_eq_true rfl | (simp [hr] <;> omega) | (refine beq_iff_eq.2 ?_; rw [Bool.eq_iff_iff]; simp <;> omega) | rfl | fail
theorem tells25 (a b c d e f r : Int) (hr : ¬ r = 0 ∧ ¬ r = 1 ∧ ¬ r = 2) (ha : a < d) (hb : b < e) (hc : ¬ c < f) : PF 4 (.cons (vP a b c) (.cons (vP d e f) (.cons (i64 r) .nil))) .tt := by
  refine (⟨Tryd.func4, rfl, rfl, rfl, ⟨rfl, rfl⟩, ok _⟩ : FN 4 Tryd.f4).treeS (mkO_ok Fo_ok) false 40 (.no (.no (.no (.yes (.yes (.no dsE2)))))) rfl ?_
  conv => arg 5; cbv
  repeat' apply And.intro
  all_goals first | exact trivial | decide +kernel | exact beq_self_eq_true (vRight a b c) | exact decide_eq_true ha | exact decide_eq_true hb | exact decide_eq_true hc | exact decide_eq_false ha | exact decide_eq_false hb | exact decide_eq_false hc | exact decide_eq_true rfl | (simp [hr] <;> omega) | (refine beq_iff_eq.2 ?_; rw [Bool.eq_iff_iff]; simp <;> omega) | rfl | fail
theorem tells26 (a b c d e f r : Int) (hr : ¬ r = 0 ∧ ¬ r = 1 ∧ ¬ r = 2) (ha : a < d) (hb : ¬ b < e) (hc : c < f) : PF 4 (.cons (vP a b c) (.cons (vP d e f) (.cons (i64 r) .nil))) .tt := by
  refine (⟨Tryd.func4, rfl, rfl, rfl, ⟨rfl, rfl⟩, ok _⟩ : FN 4 Tryd.f4).treeS (mkO_ok Fo_ok) false 40 (.no (.no (.no (.yes (.no (.yes dsE2)))))) rfl ?_
  conv => arg 5; cbv
  repeat' apply And.intro
  all_goals first | exact trivial | decide +kernel | exact beq_self_eq_true (vRight a b c) | exact decide_eq_true ha | exact decide_eq_true hb | exact decide_eq_true hc | exact decide_eq_false ha | exact decide_eq_false hb | exact decide_eq_false hc | exact decide_eq_true rfl | (simp [hr] <;> omega) | (refine beq_iff_eq.2 ?_; rw [Bool.eq_iff_iff]; simp <;> omega) | rfl | fail
theorem tells27 (a b c d e f r : Int) (hr : ¬ r = 0 ∧ ¬ r = 1 ∧ ¬ r = 2) (ha : a < d) (hb : ¬ b < e) (hc : ¬ c < f) : PF 4 (.cons (vP a b c) (.cons (vP d e f) (.cons (i64 r) .nil))) .tt := by
  refine (⟨Tryd.func4, rfl, rfl, rfl, ⟨rfl, rfl⟩, ok _⟩ : FN 4 Tryd.f4).treeS (mkO_ok Fo_ok) false 40 (.no (.no (.no (.yes (.no (.no dsE2)))))) rfl ?_
  conv => arg 5; cbv
  repeat' apply And.intro
  all_goals first | exact trivial | decide +kernel | exact beq_self_eq_true (vRight a b c) | exact decide_eq_true ha | exact decide_eq_true hb | exact decide_eq_true hc | exact decide_eq_false ha | exact decide_eq_false hb | exact decide_eq_false hc | exact decide_eq_true rfl | (simp [hr] <;> omega) | (refine beq_iff_eq.2 ?_; rw [Bool.eq_iff_iff]; simp <;> omega) | rfl | fail
theorem tells28 (a b c d e f r : Int) (hr : ¬ r = 0 ∧ ¬ r = 1 ∧ ¬ r = 2) (ha : ¬ a < d) (hb : b < e) (hc : c < f) : PF 4 (.cons (vP a b c) (.cons (vP d e f) (.cons (i64 r) .nil))) .tt := by
  refine (⟨Tryd.func4, rfl, rfl, rfl, ⟨rfl, rfl⟩, ok _⟩ : FN 4 Tryd.f4).treeS (mkO_ok Fo_ok) false 40 (.no (.no (.no (.no (.yes (.yes dsE2)))))) rfl ?_
  conv => arg 5; cbv
  repeat' apply And.intro
  all_goals first | exact trivial | decide +kernel | exact beq_self_eq_true (vRight a b c) | exact decide_eq_true ha | exact decide_eq_true hb | exact decide_eq_true hc | exact decide_eq_false ha | exact decide_eq_false hb | exact decide_eq_false hc | exact decide_eq_true rfl | (simp [hr] <;> omega) | (refine beq_iff_eq.2 ?_; rw [Bool.eq_iff_iff]; simp <;> omega) | rfl | fail
theorem tells29 (a b c d e f r : Int) (hr : ¬ r = 0 ∧ ¬ r = 1 ∧ ¬ r = 2) (ha : ¬ a < d) (hb : b < e) (hc : ¬ c < f) : PF 4 (.cons (vP a b c) (.cons (vP d e f) (.cons (i64 r) .nil))) .tt := by
  refine (⟨Tryd.func4, rfl, rfl, rfl, ⟨rfl, rfl⟩, ok _⟩ : FN 4 Tryd.f4).treeS (mkO_ok Fo_ok) false 40 (.no (.no (.no (.no (.yes (.no dsE2)))))) rfl ?_
  conv => arg 5; cbv
  repeat' apply And.intro
  all_goals first | exact trivial | decide +kernel | exact beq_self_eq_true (vRight a b c) | exact decide_eq_true ha | exact decide_eq_true hb | exact decide_eq_true hc | exact decide_eq_false ha | exact decide_eq_false hb | exact decide_eq_false hc | exact decide_eq_true rfl | (simp [hr] <;> omega) | (refine beq_iff_eq.2 ?_; rw [Bool.eq_iff_iff]; simp <;> omega) | rfl | fail
theorem tells30 (a b c d e f r : Int) (hr : ¬ r = 0 ∧ ¬ r = 1 ∧ ¬ r = 2) (ha : ¬ a < d) (hb : ¬ b < e) (hc : c < f) : PF 4 (.cons (vP a b c) (.cons (vP d e f) (.cons (i64 r) .nil))) .tt := by
  refine (⟨Tryd.func4, rfl, rfl, rfl, ⟨rfl, rfl⟩, ok _⟩ : FN 4 Tryd.f4).treeS (mkO_ok Fo_ok) false 40 (.no (.no (.no (.no (.no (.yes dsE2)))))) rfl ?_
  conv => arg 5; cbv
  repeat' apply And.intro
  all_goals first | exact trivial | decide +kernel | exact beq_self_eq_true (vRight a b c) | exact decide_eq_true ha | exact decide_eq_true hb | exact decide_eq_true hc | exact decide_eq_false ha | exact decide_eq_false hb | exact decide_eq_false hc | exact decide_eq_true rfl | (simp [hr] <;> omega) | (refine beq_iff_eq.2 ?_; rw [Bool.eq_iff_iff]; simp <;> omega) | rfl | fail
theorem tells31 (a b c d e f r : Int) (hr : ¬ r = 0 ∧ ¬ r = 1 ∧ ¬ r = 2) (ha : ¬ a < d) (hb : ¬ b < e) (hc : ¬ c < f) : PF 4 (.cons (vP a b c) (.cons (vP d e f) (.cons (i64 r) .nil))) .tt := by
  refine (⟨Tryd.func4, rfl, rfl, rfl, ⟨rfl, rfl⟩, ok _⟩ : FN 4 Tryd.f4).treeS (mkO_ok Fo_ok) false 40 (.no (.no (.no (.no (.no (.no dsE2)))))) rfl ?_
  conv => arg 5; cbv
  repeat' apply And.intro
  all_goals first | exact trivial | decide +kernel | exact beq_self_eq_true (vRight a b c) | exact decide_eq_true ha | exact decide_eq_true hb | exact decide_eq_true hc | exact decide_eq_false ha | exact decide_eq_false hb | exact decide_eq_false hc | exact decide_eq_true rfl | (simp [hr] <;> omega) | (refine beq_iff_eq.2 ?_; rw [Bool.eq_iff_iff]; simp <;> omega) | rfl | fail
end Go.Proofs.YtdikfhjpnfffnacDoor
