/- VECTORS: the laws. -/
import Derived.Test.YtdikfhjpnfffnacDoorVcM
set_option maxRecDepth 2000
set_option linter.unusedVariables false
set_option linter.unusedSimpArgs false
set_option linter.unusedVariables false
set_option linter.unusedSimpArgs false
namespace Go.Proofs.YtdikfhjpnfffnacDoor
open Go Go.Abs Go.Proofs
def dsE : DS := .yes (.yes (.yes (.yes (.yes .any))))
theorem tells0 (a b c d e f r : Int) (hr : r = 0) (ha : a < d) (hb : b < e) (hc : c < f) : PF 4 (.cons (vP a b c) (.cons (vP d e f) (.cons (i64 r) .nil))) .tt := by
  refine (⟨Tryd.func4, rfl, rfl, rfl, ⟨rfl, rfl⟩, ok _⟩ : FN 4 Tryd.f4).treeS (mkO_ok Fo_ok) false 40 (.yes (.yes (.yes (.yes dsE)))) rfl ?_
  conv => arg 5; cbv
  repeat' apply And.intro
  all_goals first | exact trivial | decide +kernel | exact beq_self_eq_true (vRight a b c) | exact decide_eq_true ha | exact decide_eq_true hb | exact decide_eq_true hc | exact decide_eq_false ha | exact decide_eq_false hb | exact decide_eq_false hc | exact decide_eq_true rfl | (simp [hr] <;> omega) | (refine beq_iff_eq.2 ?_; rw [Bool.eq_iff_iff]; simp <;> omega) | rfl | fail
theorem tells1 (a b c d e f r : Int) (hr : r = 0) (ha : a < d) (hb : b < e) (hc : ¬ c < f) : PF 4 (.cons (vP a b c) (.cons (vP d e f) (.cons (i64 r) .nil))) .tt := by
  refine (⟨Tryd.func4, rfl, rfl, rfl, ⟨rfl, rfl⟩, ok _⟩ : FN 4 Tryd.f4).treeS (mkO_ok Fo_ok) false 40 (.yes (.yes (.yes (.no dsE)))) rfl ?_
  conv => arg 5; cbv
  repeat' apply And.intro
  all_goals first | exact trivial | decide +kernel | exact beq_self_eq_true (vRight a b c) | exact decide_eq_true ha | exact decide_eq_true hb | exact decide_eq_true hc | exact decide_eq_false ha | exact decide_eq_false hb | exact decide_eq_false hc | exact decide_eq_true rfl | (simp [hr] <;> omega) | (refine beq_iff_eq.2 ?_; rw [Bool.eq_iff_iff]; simp <;> omega) | rfl | fail
theorem tells2 (a b c d e f r : Int) (hr : r = 0) (ha : a < d) (hb : ¬ b < e) (hc : c < f) : PF 4 (.cons (vP a b c) (.cons (vP d e f) (.cons (i64 r) .nil))) .tt := by
  refine (⟨Tryd.func4, rfl, rfl, rfl, ⟨rfl, rfl⟩, ok _⟩ : FN 4 Tryd.f4).treeS (mkO_ok Fo_ok) false 40 (.yes (.yes (.no (.yes dsE)))) rfl ?_
  conv => arg 5; cbv
  repeat' apply And.intro
  all_goals first | exact trivial | decide +kernel | exact beq_self_eq_true (vRight a b c) | exact decide_eq_true ha | exact decide_eq_true hb | exact decide_eq_true hc | exact decide_eq_false ha | exact decide_eq_false hb | exact decide_eq_false hc | exact decide_eq_true rfl | (simp [hr] <;> omega) | (refine beq_iff_eq.2 ?_; rw [Bool.eq_iff_iff]; simp <;> omega) | rfl | fail
theorem tells3 (a b c d e f r : Int) (hr : r = 0) (ha : a < d) (hb : ¬ b < e) (hc : ¬ c < f) : PF 4 (.cons (vP a b c) (.cons (vP d e f) (.cons (i64 r) .nil))) .tt := by
  refine (⟨Tryd.func4, rfl, rfl, rfl, ⟨rfl, rfl⟩, ok _⟩ : FN 4 Tryd.f4).treeS (mkO_ok Fo_ok) false 40 (.yes (.yes (.no (.no dsE)))) rfl ?_
  conv => arg 5; cbv
  repeat' apply And.intro
  all_goals first | exact trivial | decide +kernel | exact beq_self_eq_true (vRight a b c) | exact decide_eq_true ha | exact decide_eq_true hb | exact decide_eq_true hc | exact decide_eq_false ha | exact decide_eq_false hb | exact decide_eq_false hc | exact decide_eq_true rfl | (simp [hr] <;> omega) | (refine beq_iff_eq.2 ?_; rw [Bool.eq_iff_iff]; simp <;> omega) | rfl | fail
theorem tells4 (a b c d e f r : Int) (hr : r = 0) (ha : ¬ a < d) (hb : b < e) (hc : c < f) : PF 4 (.cons (vP a b c) (.cons (vP d e f) (.cons (i64 r) .nil))) .tt := by
  refine (⟨Tryd.func4, rfl, rfl, rfl, ⟨rfl, rfl⟩, ok _⟩ : FN 4 Tryd.f4).treeS (mkO_ok Fo_ok) false 40 (.yes (.no (.yes (.yes dsE)))) rfl ?_
  conv => arg 5; cbv
  repeat' apply And.intro
  all_goals first | exact trivial | decide +kernel | exact beq_self_eq_true (vRight a b c) | exact decide_eq_true ha | exact decide_eq_true hb | exact decide_eq_true hc | exact decide_eq_false ha | exact decide_eq_false hb | exact decide_eq_false hc | exact decide_eq_true rfl | (simp [hr] <;> omega) | (refine beq_iff_eq.2 ?_; rw [Bool.eq_iff_iff]; simp <;> omega) | rfl | fail
theorem tells5 (a b c d e f r : Int) (hr : r = 0) (ha : ¬ a < d) (hb : b < e) (hc : ¬ c < f) : PF 4 (.cons (vP a b c) (.cons (vP d e f) (.cons (i64 r) .nil))) .tt := by
  refine (⟨Tryd.func4, rfl, rfl, rfl, ⟨rfl, rfl⟩, ok _⟩ : FN 4 Tryd.f4).treeS (mkO_ok Fo_ok) false 40 (.yes (.no (.yes (.no dsE)))) rfl ?_
  conv => arg 5; cbv
  repeat' apply And.intro
  all_goals first | exact trivial | decide +kernel | exact beq_self_eq_true (vRight a b c) | exact decide_eq_true ha | exact decide_eq_true hb | exact decide_eq_true hc | exact decide_eq_false ha | exact decide_eq_false hb | exact decide_eq_false hc | exact decide_eq_true rfl | (simp [hr] <;> omega) | (refine beq_iff_eq.2 ?_; rw [Bool.eq_iff_iff]; simp <;> omega) | rfl | fail
theorem tells6 (a b c d e f r : Int) (hr : r = 0) (ha : ¬ a < d) (hb : ¬ b < e) (hc : c < f) : PF 4 (.cons (vP a b c) (.cons (vP d e f) (.cons (i64 r) .nil))) .tt := by
  refine (⟨Tryd.func4, rfl, rfl, rfl, ⟨rfl, rfl⟩, ok _⟩ : FN 4 Tryd.f4).treeS (mkO_ok Fo_ok) false 40 (.yes (.no (.no (.yes dsE)))) rfl ?_
  conv => arg 5; cbv
  repeat' apply And.intro
  all_goals first | exact trivial | decide +kernel | exact beq_self_eq_true (vRight a b c) | exact decide_eq_true ha | exact decide_eq_true hb | exact decide_eq_true hc | exact decide_eq_false ha | exact decide_eq_false hb | exact decide_eq_false hc | exact decide_eq_true rfl | (simp [hr] <;> omega) | (refine beq_iff_eq.2 ?_; rw [Bool.eq_iff_iff]; simp <;> omega) | rfl | fail
theorem tells7 (a b c d e f r : Int) (hr : r = 0) (ha : ¬ a < d) (hb : ¬ b < e) (hc : ¬ c < f) : PF 4 (.cons (vP a b c) (.cons (vP d e f) (.cons (i64 r) .nil))) .tt := by
  refine (⟨Tryd.func4, rfl, rfl, rfl, ⟨rfl, rfl⟩, ok _⟩ : FN 4 Tryd.f4).treeS (mkO_ok Fo_ok) false 40 (.yes (.no (.no (.no dsE)))) rfl ?_
  conv => arg 5; cbv
  repeat' apply And.intro
  all_goals first | exact trivial | decide +kernel | exact beq_self_eq_true (vRight a b c) | exact decide_eq_true ha | exact decide_eq_true hb | exact decide_eq_true hc | exact decide_eq_false ha | exact decide_eq_false hb | exact decide_eq_false hc | exact decide_eq_true rfl | (simp [hr] <;> omega) | (refine beq_iff_eq.2 ?_; rw [Bool.eq_iff_iff]; simp <;> omega) | rfl | fail
theorem tells8 (a b c d e f r : Int) (hr : r = 1) (ha : a < d) (hb : b < e) (hc : c < f) : PF 4 (.cons (vP a b c) (.cons (vP d e f) (.cons (i64 r) .nil))) .tt := by
  refine (⟨Tryd.func4, rfl, rfl, rfl, ⟨rfl, rfl⟩, ok _⟩ : FN 4 Tryd.f4).treeS (mkO_ok Fo_ok) false 40 (.no (.yes (.yes (.yes (.yes dsE))))) rfl ?_
  conv => arg 5; cbv
  repeat' apply And.intro
  all_goals first | exact trivial | decide +kernel | exact beq_self_eq_true (vRight a b c) | exact decide_eq_true ha | exact decide_eq_true hb | exact decide_eq_true hc | exact decide_eq_false ha | exact decide_eq_false hb | exact decide_eq_false hc | exact decide_eq_true rfl | (simp [hr] <;> omega) | (refine beq_iff_eq.2 ?_; rw [Bool.eq_iff_iff]; simp <;> omega) | rfl | fail
theorem tells9 (a b c d e f r : Int) (hr : r = 1) (ha : a < d) (hb : b < e) (hc : ¬ c < f) : PF 4 (.cons (vP a b c) (.cons (vP d e f) (.cons (i64 r) .nil))) .tt := by
  refine (⟨Tryd.func4, rfl, rfl, rfl, ⟨rfl, rfl⟩, ok _⟩ : FN 4 Tryd.f4).treeS (mkO_ok Fo_ok) false 40 (.no (.yes (.yes (.yes (.no dsE))))) rfl ?_
  conv => arg 5; cbv
  repeat' apply And.intro
  all_goals first | exact trivial | decide +kernel | exact beq_self_eq_true (vRight a b c) | exact decide_eq_true ha | exact decide_eq_true hb | exact decide_eq_true hc | exact decide_eq_false ha | exact decide_eq_false hb | exact decide_eq_false hc | exact decide_eq_true rfl | (simp [hr] <;> omega) | (refine beq_iff_eq.2 ?_; rw [Bool.eq_iff_iff]; simp <;> omega) | rfl | fail
theorem tells10 (a b c d e f r : Int) (hr : r = 1) (ha : a < d) (hb : ¬ b < e) (hc : c < f) : PF 4 (.cons (vP a b c) (.cons (vP d e f) (.cons (i64 r) .nil))) .tt := by
  refine (⟨Tryd.func4, rfl, rfl, rfl, ⟨rfl, rfl⟩, ok _⟩ : FN 4 Tryd.f4).treeS (mkO_ok Fo_ok) false 40 (.no (.yes (.yes (.no (.yes dsE))))) rfl ?_
  conv => arg 5; cbv
  repeat' apply And.intro
  all_goals first | exact trivial | decide +kernel | exact beq_self_eq_true (vRight a b c) | exact decide_eq_true ha | exact decide_eq_true hb | exact decide_eq_true hc | exact decide_eq_false ha | exact decide_eq_false hb | exact decide_eq_false hc | exact decide_eq_true rfl | (simp [hr] <;> omega) | (refine beq_iff_eq.2 ?_; rw [Bool.eq_iff_iff]; simp <;> omega) | rfl | fail
theorem tells11 (a b c d e f r : Int) (hr : r = 1) (ha : a < d) (hb : ¬ b < e) (hc : ¬ c < f) : PF 4 (.cons (vP a b c) (.cons (vP d e f) (.cons (i64 r) .nil))) .tt := by
  refine (⟨Tryd.func4, rfl, rfl, rfl, ⟨rfl, rfl⟩, ok _⟩ : FN 4 Tryd.f4).treeS (mkO_ok Fo_ok) false 40 (.no (.yes (.yes (.no (.no dsE))))) rfl ?_
  conv => arg 5; cbv
  repeat' apply And.intro
  all_goals first | exact trivial | decide +kernel | exact beq_self_eq_true (vRight a b c) | exact decide_eq_true ha | exact decide_eq_true hb | exact decide_eq_true hc | exact decide_eq_false ha | exact decide_eq_false hb | exact decide_eq_false hc | exact decide_eq_true rfl | (simp [hr] <;> omega) | (refine beq_iff_eq.2 ?_; rw [Bool.eq_iff_iff]; simp <;> omega) | rfl | fail
theorem tells12 (a b c d e f r : Int) (hr : r = 1) (ha : ¬ a < d) (hb : b < e) (hc : c < f) : PF 4 (.cons (vP a b c) (.cons (vP d e f) (.cons (i64 r) .nil))) .tt := by
  refine (⟨Tryd.func4, rfl, rfl, rfl, ⟨rfl, rfl⟩, ok _⟩ : FN 4 Tryd.f4).treeS (mkO_ok Fo_ok) false 40 (.no (.yes (.no (.yes (.yes dsE))))) rfl ?_
  conv => arg 5; cbv
  repeat' apply And.intro
  all_goals first | exact trivial | decide +kernel | exact beq_self_eq_true (vRight a b c) | exact decide_eq_true ha | exact decide_eq_true hb | exact decide_eq_true hc | exact decide_eq_false ha | exact decide_eq_false hb | exact decide_eq_false hc | exact decide_eq_true rfl | (simp [hr] <;> omega) | (refine beq_iff_eq.2 ?_; rw [Bool.eq_iff_iff]; simp <;> omega) | rfl | fail
theorem tells13 (a b c d e f r : Int) (hr : r = 1) (ha : ¬ a < d) (hb : b < e) (hc : ¬ c < f) : PF 4 (.cons (vP a b c) (.cons (vP d e f) (.cons (i64 r) .nil))) .tt := by
  refine (⟨Tryd.func4, rfl, rfl, rfl, ⟨rfl, rfl⟩, ok _⟩ : FN 4 Tryd.f4).treeS (mkO_ok Fo_ok) false 40 (.no (.yes (.no (.yes (.no dsE))))) rfl ?_
  conv => arg 5; cbv
  repeat' apply And.intro
  all_goals first | exact trivial | decide +kernel | exact beq_self_eq_true (vRight a b c) | exact decide_eq_true ha | exact decide_eq_true hb | exact decide_eq_true hc | exact decide_eq_false ha | exact decide_eq_false hb | exact decide_eq_false hc | exact decide_eq_true rfl | (simp [hr] <;> omega) | (refine beq_iff_eq.2 ?_; rw [Bool.eq_iff_iff]; simp <;> omega) | rfl | fail
theorem tells14 (a b c d e f r : Int) (hr : r = 1) (ha : ¬ a < d) (hb : ¬ b < e) (hc : c < f) : PF 4 (.cons (vP a b c) (.cons (vP d e f) (.cons (i64 r) .nil))) .tt := by
  refine (⟨Tryd.func4, rfl, rfl, rfl, ⟨rfl, rfl⟩, ok _⟩ : FN 4 Tryd.f4).treeS (mkO_ok Fo_ok) false 40 (.no (.yes (.no (.no (.yes dsE))))) rfl ?_
  conv => arg 5; cbv
  repeat' apply And.intro
  all_goals first | exact trivial | decide +kernel | exact beq_self_eq_true (vRight a b c) | exact decide_eq_true ha | exact decide_eq_true hb | exact decide_eq_true hc | exact decide_eq_false ha | exact decide_eq_false hb | exact decide_eq_false hc | exact decide_eq_true rfl | (simp [hr] <;> omega) | (refine beq_iff_eq.2 ?_; rw [Bool.eq_iff_iff]; simp <;> omega) | rfl | fail
theorem tells15 (a b c d e f r : Int) (hr : r = 1) (ha : ¬ a < d) (hb : ¬ b < e) (hc : ¬ c < f) : PF 4 (.cons (vP a b c) (.cons (vP d e f) (.cons (i64 r) .nil))) .tt := by
  refine (⟨Tryd.func4, rfl, rfl, rfl, ⟨rfl, rfl⟩, ok _⟩ : FN 4 Tryd.f4).treeS (mkO_ok Fo_ok) false 40 (.no (.yes (.no (.no (.no dsE))))) rfl ?_
  conv => arg 5; cbv
  repeat' apply And.intro
  all_goals first | exact trivial | decide +kernel | exact beq_self_eq_true (vRight a b c) | exact decide_eq_true ha | exact decide_eq_true hb | exact decide_eq_true hc | exact decide_eq_false ha | exact decide_eq_false hb | exact decide_eq_false hc | exact decide_eq_true rfl | (simp [hr] <;> omega) | (refine beq_iff_eq.2 ?_; rw [Bool.eq_iff_iff]; simp <;> omega) | rfl | fail
end Go.Proofs.YtdikfhjpnfffnacDoor
